import Derived.Test.YtobbjfkfmdiklaaGreatDoorTvL
import Derived.Test.YtobbjfkfmdiklaaGreatDoorTvKnm
namespace Go.Tv
open Go Go.RowKit
def LR(tb:bT)(t:TypeId):Option (IntKind×Nat) :=
 match tb.find t with
 | some ti=>match ti.k with
  | .ar n e=>match tb.find e with
   | some j=>match j.k with
    | .int k=>if 16<n then some (k,n)else none
    | _=>none
   | none=>none
  | _=>none
 | none=>none
def J3(tb:bT)(t:TypeId):Option (IntKind×Nat) :=
 match LR tb t with
 | some r=>some r
 | none=>match tb.find t with
  | some ti=>match ti.k with
   | .st ((0,e)::_)=>LR tb e
   | _=>none
  | none=>none
def Ty.Of:Ty→Bool
 | .prod (.arr _ _) _=>true
 | _=>false
def Mf(fl:Bool)(tb:bT)(new:Nat)(t:TypeId)(len:Nat)(q:QV)(p:List ag):Qk :=
 match zY tb t with
 | some (_,j)=>if(fl || j.T.isNone)=true∧q=List.range len∧p.all (fun x=>(cellsOf x).all ag.cell && (cellsOf x).length == j.size)=true∧len*j.size≤16777216 then
   some (.sl new,[(new,some (.vrow len j.size (p.flatMap cellsOf)))],True)else none
 | none=>none
def KD(tb:bT)(t:TypeId)(x:ag)(h:Nat→Qz):Qk :=
 match x with
 | .sl id=>match h id with
  | some (.vrow n _ _)=>match zY tb t with
   | some _=>some (.p false (.int .i64) (n:Int),[],True)
   | none=>none
  | _=>none
 | _=>none
def Kc(tb:bT)(t:TypeId)(x k:ag)(j:Bool):Qk :=
 match x,k with
 | .p _ (.mapi q z) A,.p _ (.int B) i=>match tb.find t with
  | some ti=>match ti.k with
   | .mp C D=>match tb.find C,tb.find D with
    | some E,some I=>match E.k with
     | .int u=>if u=q∧B=q∧I.T=some (.int z)then some (zu z j (bh (α:=Int) (.int q) A i),[],True)else none
     | _=>none
    | _,_=>none
   | _=>none
  | none=>none
 | _,_=>none
def zw(tb:bT)(new:Nat)(t u:TypeId)(x y:ag)(h:Nat→Qz):Qk :=
 match y with
 | .p _ .str s=>match tb.find u with
  | some z=>match z.k with
   | .str=>match tb.find t with
    | some ti=>match ti.k with
     | .sl e=>match tb.find e with
      | some j=>if j.T=some (.int .u8)∧j.bytes=1 then(match x with
       | .nils=>some (.sl new,[(new,some (.arr e (.int .u8) (bZ s)))],([]:QK).length+List.length (α:=UInt8) s≤140737488355328)
       | .sl id=>match h id with
        | some (.arr A (.int .u8) q)=>if A=e then some (.sl new,[(id,none),(new,some (.arr e (.int .u8) (List.append (α:=Int) q (bZ s))))],List.length (α:=Int) q+List.length (α:=UInt8) s≤140737488355328)else none
        | _=>none
       | _=>none)else none
      | none=>none
     | _=>none
    | none=>none
   | _=>none
  | none=>none
 | _=>none
def Hl(tb:bT)(new:Nat)(t u:TypeId)(x y:ag)(h:Nat→Qz):Qk :=
 match y with
 | .p _ (.int _) n=>match gY tb t,tb.find u with
  | some (e,z,A),some C=>match C.k with
   | .int _=>match x with
    | .nils=>some (.sl new,[(new,some (.arr e A (List.replicate (show Int from n).toNat A.zero)))],0≤(show Int from n)∧(([]:List A.den).length+(show Int from n).toNat)*z.bytes≤140737488355328∧([]:List A.den).length+(show Int from n).toNat≤9223372036854775807)
    | .sl id=>match h id with
     | some (.arr D B j)=>if q:B=A then(if D=e then some (.sl new,[(id,none),(new,some (.arr e A ((q ▸ j:List A.den)++List.replicate (show Int from n).toNat A.zero)))],0≤(show Int from n)∧((q ▸ j:List A.den).length+(show Int from n).toNat)*z.bytes≤140737488355328∧(q ▸ j:List A.den).length+(show Int from n).toNat≤9223372036854775807)else none)else none
     | _=>none
    | _=>none
   | _=>none
  | _,_=>none
 | _=>none
def KQ(tb:bT)(new:Nat)(t u:TypeId)(x y:ag)(h:Nat→Qz):Qk :=
 match Hl tb new t u x y h with
 | some r=>some r
 | none=>zw tb new t u x y h
def DC(tb:bT)(t:TypeId)(x:ag)(h:Nat→Qz):Qk :=
 match x with
 | .mp id=>match h id with
  | some (.mpo K A _)=>match tb.find t with
   | some ti=>match ti.k with
    | .mp _ _=>some (.tup [],[(id,some (.mpo K A []))],True)
    | _=>none
   | none=>none
  | _=>none
 | _=>none
def Mm(tb:bT)(t:TypeId)(x:ag):Qk :=
 match x with
 | .nils=>match tb.find t with
  | some ti=>match ti.k with
   | .sl _=>some (.p false (.int .i64) (0:Int),[],True)
   | _=>none
  | none=>none
 | _=>none
def HL(tb:bT)(new:Nat)(t:TypeId):Qk :=
 match J3 tb t with
 | some (k,n)=>match tb.find t with
  | some ti=>if(ti.z.take n).all (LP k)=true∧n≤ti.z.length then some (.adr new 0 ti.size 0,[(new,some (.lmp k n (dx n) (ti.z.drop n)))],True)else none
  | none=>none
 | none=>none
def Mi(new:Nat)(x:ag):Qk :=
 match x with
 | .lag k n p j=>some (.adr new 0 (n+j.length) 0,[(new,some (.lmp k n p j))],True)
 | _=>none
def HZ(tb:bT)(t:TypeId)(p:QV)(q:List ag):Qk :=
 match J3 tb t with
 | some (k,n)=>match o6 tb t p q with
  | some (.agg j,[],c)=>if(j.take n).all (LP k)=true∧n≤j.length then some (.lag k n (dx n) (j.drop n),[],c)else none
  | _=>none
 | none=>none
def HN(tb:bT)(t:TypeId)(x:ag)(h:Nat→Qz):Qk :=
 match x with
 | .loc β T y=>match tb.find t with
  | some ti=>if ti.T=some T∧T.scalar=true then some (.p β T y,[],True)else none
  | none=>none
 | .ada id 0 n i=>match h id with
  | some (.lmp k u q _)=>match tb.find t with
   | some ti=>match ti.k with
    | .int z=>if u=n∧z=k then some (.p false (.int k) (fF q i),[],True)else none
    | _=>none
   | none=>none
  | _=>none
 | .adr id i sz off=>match h id with
  | some (.lmp k n q j)=>match tb.find t with
   | some ti=>if ti.k.agg=true∧i*sz+off=0∧ti.size=n+j.length then some (.lag k n q j,[],True)
    else if n≤i*sz+off then(match gq ti j (i*sz+off - n)with
     | some y=>some (y,[],True)
     | none=>none)else none
   | none=>none
  | some (.vrow _ _ j)=>match tb.find t with
   | some ti=>match gq ti j (i*sz+off)with
    | some y=>some (y,[],True)
    | none=>none
   | none=>none
  | _=>none
 | _=>none
def Dk(tb:bT)(t:TypeId)(x y:ag)(h:Nat→Qz):Qk :=
 match x with
 | .ada id 0 n i=>match h id with
  | some (.lmp k u q j)=>match y with
   | .p _ (.int z) v=>match tb.find t with
    | some ti=>if u=n∧z=k∧ti.size=1 then some (.unk,[(id,some (.lmp k u (rW q i v) j))],True)else none
    | none=>none
   | _=>none
  | _=>none
 | .adr id i sz off=>match h id with
  | some (.lmp k n q j)=>match tb.find t with
   | some ti=>if(cellsOf y).all ag.cell=true∧(cellsOf y).length=ti.size∧n≤i*sz+off∧i*sz+off - n+ti.size≤j.length then
     some (.unk,[(id,some (.lmp k n q (wr j (i*sz+off - n) (cellsOf y))))],True)else none
   | none=>none
  | _=>none
 | _=>none
def Ml(x:ag):Qk :=
 match x with
 | .loc β T y=>some (.loc β T y,[],True)
 | .p β (.ptr A) q=>if A.Of=true then some (.loc β A (q.getD A.zero),[],q.isSome=true)else none
 | _=>none
def Hz(tb:bT)(t:TypeId)(x:ag)(f:Nat):Qk :=
 match x with
 | .loc β T y=>match tb.find t with
  | some ti=>match ti.k with
   | .st j=>match j[f]? with
    | some (off,p)=>match tb.find p with
     | some q=>match q.T with
      | some T'=>match vJ T' T y off with
       | some z=>some (.loc β T' z,[],True)
       | none=>none
      | none=>none
     | none=>none
    | none=>none
   | _=>none
  | none=>none
 | _=>none
def EV(tb:bT)(t:TypeId)(x:ag)(f:Nat):Qk :=
 match x with
 | .agg j=>match tb.find t with
  | some ti=>match ti.k with
   | .st p=>match p[f]? with
    | some (off,q)=>match tb.find q with
     | some u=>match gq u j off with
      | some y=>some (y,[],True)
      | none=>none
     | none=>none
    | none=>none
   | _=>none
  | none=>none
 | _=>none
def DS(tb:bT)(t:TypeId)(x i:ag)(h:Nat→Qz):Qk :=
 match x with
 | .p β (.slice (.arr k n)) u=>match i with
  | .p _ (.int _) m=>match gY tb t with
   | some (_,q,_)=>if n=q.size then some (.loc β (.arr k n) (u.getD (show Int from m).toNat (dx n)),[],0≤(show Int from m)∧(show Int from m)<u.length)else none
   | none=>none
  | _=>none
 | .loc β (.arr k n) u=>match i with
  | .p _ (.int _) m=>match tb.find t with
   | some ti=>match ti.k with
    | .ar z e=>match tb.find e with
     | some q=>if z=n∧q.size=1 then some (.loc β (.int k) (fF u (show Int from m).toNat),[],0≤(show Int from m)∧(show Int from m)<(n:Int))else none
     | none=>none
    | _=>none
   | none=>none
  | _=>none
 | .adr id j sz off=>match h id with
  | some (.lmp _ _ _ _)=>match i with
   | .p _ (.int _) m=>match tb.find t with
    | some ti=>match ti.k with
     | .ar n e=>match tb.find e with
      | some q=>if q.size=1 then some (.ada id (j*sz+off) n (show Int from m).toNat,[],0≤(show Int from m)∧(show Int from m)<(n:Int))else none
      | none=>none
     | _=>none
    | none=>none
   | _=>none
  | _=>none
 | .sl id=>match h id with
  | some (.vrow n sz _)=>match i with
   | .p _ (.int _) m=>match zY tb t with
    | some (_,q)=>if q.size=sz then some (.adr id (show Int from m).toNat sz 0,[],0≤(show Int from m)∧(show Int from m)<(n:Int))else none
    | none=>none
   | _=>none
  | _=>none
 | _=>none
def Mt(P:Program)(tb:bT)(op:BinOp)(t:TypeId)(x y:ag):Qk :=
 match x,y with
 | .lag k n j [],.lag u z A []=>match tb.find t with
  | some ti=>match ti.k with
   | .ar B e=>match tb.find e with
    | some C=>match C.k with
     | .int D=>if q:z=n then(if B=n∧u=k∧D=k then(match Ig op (IJ j (q ▸ A))with
      | some r=>some (r,[],P.eqGuardType P.depth t=false)
      | none=>none)else none)else none
     | _=>none
    | none=>none
   | _=>none
  | none=>none
 | .p _ .flt a,.p _ .flt b=>match op with
  | .add=>some (.p false .flt (bN .add a b),[],True)
  | .sub=>some (.p false .flt (bN .sub a b),[],True)
  | .mul=>some (.p false .flt (bN .mul a b),[],True)
  | .quo=>some (.p false .flt (bN .quo a b),[],True)
  | _=>none
 | _,_=>none
def Hp(tb:bT)(st q:TypeId)(x:ag)(h:Nat→Qz):Qk :=
 match x with
 | .sl id=>match h id with
  | some (.arr u (.int .u8) j)=>if q=st then(match tb.find st with
   | some ti=>match ti.k with
    | .sl e=>match tb.find e with
     | some z=>match z.k with
      | .int .u8=>some (.sl id,[(id,some (.bytes u j)),(id,some (.bytes u j))],0<j.length)
      | _=>none
     | none=>none
    | _=>none
   | none=>none)else none
  | _=>none
 | .p _ .flt a=>match tb.find st,tb.find q with
  | some _,some A=>match A.k with
   | .int k=>some (.p false (.int k) ((ov a).getD 0),[],(ov a).isSome=true∧k.min≤(ov a).getD 0∧(ov a).getD 0≤k.max)
   | _=>none
  | _,_=>none
 | _=>none
def C2(tb:bT)(t:TypeId)(x j:ag)(h:Nat→Qz):Qk :=
 match x with
 | .sl id=>match h id with
  | some (.arr _ _ q)=>match j with
   | .p _ (.int _) l=>match gY tb t with
    | some (_,u,_)=>some (.suf id (show Int from l).toNat u.size,[],0≤(show Int from l)∧(show Int from l)≤q.length)
    | none=>none
   | _=>none
  | _=>none
 | _=>none
def Hm(tb:bT)(t:TypeId)(x y:ag)(h:Nat→Qz):Qk :=
 match x with
 | .suf id j sz=>match h id with
  | some (.arr C B u)=>match gY tb t with
   | some (_,D,A)=>match eZ h A y with
    | some z=>if q:B=A then(if sz=D.size then some (.p false (.int .i64) ((min z.length ((q ▸ u:List A.den).length - j):Nat):Int),[(id,some (.arr C A ((q ▸ u:List A.den).take j++(z.take ((q ▸ u:List A.den).length - j)++(q ▸ u:List A.den).drop (j+z.length)))))],True)else none)else none
    | none=>none
   | none=>none
  | _=>none
 | _=>none
def EZ(P:Program)(iR:Option wh)(f:ag)(j:List ag)(h:Nat→Qz):Qk :=
 match f,iR with
 | .bfn fid p,some q=>if q.own=false∧q.die=none∧q.fl.any (fun b=>b)=false then(match oh h (p++j)with
  | some args=>some (q.r,[],Pure P fid args q.r)
  | none=>none)else none
 | _,_=>none
def J6(fn:Fn)(first j:List ag):Qk :=
 match fn,first,j with
 | .func f,x::p,[]=>some (.bfn f (x::p),[],True)
 | _,_,_=>none
def jo(P:Program)(tb:bT)(new:Nat)(iR:Option wh)(op:Op)(s:Nat→ag)(h:Nat→Qz):Qk :=
 match op with
 | .alloc t=>HL tb new t
 | .box _ x=>Mi new (ev s x)
 | .build t j=>HZ tb t (j.toList.map (·.1)) (j.toList.map fun p=>ev s p.2)
 | .load t x=>HN tb t (ev s x) h
 | .store t x y=>Dk tb t (ev s x) (ev s y) h
 | .nilCheck x=>Ml (ev s x)
 | .fieldAddr t x f=>Hz tb t (ev s x) f
 | .field t x f=>EV tb t (ev s x) f
 | .indexAddr t x i=>DS tb t (ev s x) (ev s i) h
 | .binOp op t x y _=>Mt P tb op t (ev s x) (ev s y)
 | .convert st A x=>Hp tb st A (ev s x) h
 | .slice t x (some B) none none=>C2 tb t (ev s x) (ev s B) h
 | .makeFunc fn first q=>J6 fn (first.toList.map (ev s)) (q.toList.map (ev s))
 | .buildSlice t len j=>Mf iR.isSome tb new t len (j.toList.map (·.1)) (j.toList.map fun p=>ev s p.2)
 | .lookup t x k z=>Kc tb t (ev s x) (ev s k) z
 | .call c=>match c.callee with
  | .builtin .len=>match c.args.toList,c.argTypes.toList with
   | [x],[t]=>KD tb t (ev s x) h
   | _,_=>none
  | .builtin .append=>match c.args.toList,c.argTypes.toList with
   | [x,y],[t,u]=>KQ tb new t u (ev s x) (ev s y) h
   | _,_=>none
  | .builtin .clear=>match c.args.toList,c.argTypes.toList with
   | [x],[t]=>DC tb t (ev s x) h
   | _,_=>none
  | .builtin .cap=>match c.args.toList,c.argTypes.toList with
   | [x],[t]=>Mm tb t (ev s x)
   | _,_=>none
  | .builtin .copy=>match c.args.toList,c.argTypes.toList with
   | [x,y],[t,_]=>Hm tb t (ev s x) (ev s y) h
   | _,_=>none
  | .value f=>EZ P iR (ev s f) (gT tb (Jw iR) c.argTypes.toList (c.args.toList.map (ev s))) h
  | _=>none
 | _=>none
def FV(P:Program)(tb:bT)(new:Nat)(asm:Option Bool)(iR:Option wh)(op:Op)(s:Nat→ag)(h:Nat→Qz):Qk :=
 match pN tb new iR.isSome op s h with
 | some r=>some r
 | none=>match jo P tb new iR op s h with
  | some r=>some r
  | none=>gW P tb new asm iR op s h
theorem Good.imp{P:Program}{o:Oper}{a:Act}{w:World}{p q:Value→World→Prop}(h:Good P o a w p)(j:∀v w',p v w'→q v w'):Good P o a w q:=fun K Q hk=>h K Q fun v w' hp=>hk v w' (j v w' hp)
section
variable{P:Program}{tb:bT}{Bw:Nat→Prop}{w0:cC P}{ρ:Nat→QW}{φ:Nat→Nat→Prop}{h:Nat→Qz}{w:World}{new:Nat}{n:NS}{s:Nat→ag}{a:Act}
theorem aF.val(f:ag→ag){x:ag}(hf:∀F ρ v,V F ρ x v→V F ρ (f x) v){u:gX}{v:Value}{w':World}(hp:aF Bw w0 ρ φ h w new x u v w'):aF Bw w0 ρ φ h w new (f x) u v w':=by
 obtain⟨j,z,B,C,D,E,I⟩:=hp;exact⟨j,z,B,C,D,E,hf _ _ _ I⟩
theorem xK(j:bX P tb)(m:Mem Bw w0 ρ φ h w)(B:fb n (Fr (own φ h) Bw w) ρ s a){o:Oper}{t:TypeId}{z:Array (Nat×Operand)}(C:o.op = .build t z){x:ag}{u:gX}{c:Prop}
  (hd:o6 tb t (z.toList.map (·.1)) (z.toList.map fun p=>ev s p.2)=some (x,u,c)):Good P o a w (aF Bw w0 ρ φ h w new x u):=by
 unfold o6 at hd;split at hd
 ·rename_i ti ht;split at hd
  ·rename_i E hk;split at hd
   ·rename_i D q;cases hd;have:=jw B (z.toList.map (·.2));simp only[List.map_map]at this;exact vI m j (j.find ht) hk C this q
   ·cases hd
  ·rename_i n e hk;split at hd
   ·rename_i I A;split at hd
    ·rename_i D q;cases hd;have:=jw B (z.toList.map (·.2));simp only[List.map_map]at this;exact uh m j (j.find ht) hk (j.find A) C this q
    ·cases hd
   ·cases hd
  ·cases hd
 ·cases hd
theorem Fm(C:bX P tb)(m:Mem Bw w0 ρ φ h w)(I:fb n (Fr (own φ h) Bw w) ρ s a)(hn:ρ new=none){o:Oper}{iR:Option wh}{x:ag}{u:gX}{c:Prop}
  (hd:jo P tb new iR o.op s h=some (x,u,c)) (hc:c):Good P o a w (aF Bw w0 ρ φ h w new x u):=by
 unfold jo at hd;split at hd
 ·-- alloc
  rename_i t E;unfold HL at hd;split at hd
  ·split at hd
   ·rename_i ti ht;split at hd
    ·rename_i hz;cases hd;exact Bk m hn (C.find ht) E hz.1 hz.2
    ·cases hd
   ·cases hd
  ·cases hd
 ·-- box
  rename_i t xo E;unfold Mi at hd;split at hd
  ·rename_i k n xs cs ex;have D:=aU I xo;rw[ex]at D;cases hd;exact F9 m hn D E _
  ·cases hd
 ·-- build
  rename_i t ps E;unfold HZ at hd;split at hd
  ·split at hd
   ·rename_i ds c' hb;split at hd
    ·rename_i hz;cases hd;refine(xK (new:=new) C m I E hb).imp fun v w' hp=>?_
     exact aF.val (fun _=> .lag _ _ (dx _) (ds.drop _)) (fun F ρ v hv=>E3 hz.1 hz.2 hv) hp
    ·cases hd
   ·cases hd
  ·cases hd
 ·-- load
  rename_i t xo E;have D:=aU I xo;unfold HN at hd;split at hd
  ·rename_i β T y ex;rw[ex]at D;split at hd
   ·rename_i ti ht;split at hd
    ·rename_i hT;cases hd;exact zc m (C.find ht) D E hT.1 hT.2
    ·cases hd
   ·cases hd
  ·rename_i id n i ex;rw[ex]at D;split at hd
   ·rename_i k n' xs cs hb;split at hd
    ·rename_i ti ht;split at hd
     ·rename_i k2 hk;split at hd
      ·rename_i M;obtain⟨rfl,rfl⟩:=M;cases hd;exact DX m (C.find ht) hk D E hb
      ·cases hd
     ·cases hd
    ·cases hd
   ·cases hd
  ·rename_i id i sz off ex;rw[ex]at D;split at hd
   ·rename_i k n xs cs hb;split at hd
    ·rename_i ti ht;split at hd
     ·rename_i M;cases hd;exact BY m (C.find ht) M.1 D E hb M.2.1 M.2.2
     ·split at hd
      ·rename_i M;split at hd
       ·rename_i y J;cases hd;exact AY m (C.find ht) D E hb (by omega) J
       ·cases hd
      ·cases hd
    ·cases hd
   ·rename_i n b7 cs hb;split at hd
    ·rename_i ti ht;split at hd
     ·rename_i y J;cases hd;exact zz m (C.find ht) D E hb J
     ·cases hd
    ·cases hd
   ·cases hd
  ·cases hd
 ·-- store
  rename_i t xo yo E;have D:=aU I xo;have J:=aU I yo;unfold Dk at hd;split at hd
  ·rename_i id n i ex;rw[ex]at D;split at hd
   ·rename_i k n' xs cs hb;split at hd
    ·rename_i β k2 v ey;rw[ey]at J;split at hd
     ·rename_i ti ht;split at hd
      ·rename_i M;obtain⟨rfl,rfl,a8⟩:=M;cases hd;exact A6 m (C.find ht) a8 D J E hb
      ·cases hd
     ·cases hd
    ·cases hd
   ·cases hd
  ·rename_i id i sz off ex;rw[ex]at D;split at hd
   ·rename_i k n xs cs hb;split at hd
    ·rename_i ti ht;split at hd
     ·rename_i M;obtain⟨q1,q2,q3,q4⟩:=M;cases hd;exact zy m (C.find ht) D J q1 E hb q2 (by omega) q4
     ·cases hd
    ·cases hd
   ·cases hd
  ·cases hd
 ·-- nilCheck
  rename_i xo E;have D:=aU I xo;unfold Ml at hd;split at hd
  ·rename_i β T y ex;rw[ex]at D;cases hd;exact zH m D E
  ·rename_i β A q ex;rw[ex]at D;split at hd
   ·cases hd;exact Cz m D E hc
   ·cases hd
  ·cases hd
 ·-- fieldAddr
  rename_i t xo f E;have D:=aU I xo;unfold Hz at hd;split at hd
  ·rename_i β T y ex;rw[ex]at D;split at hd
   ·rename_i ti ht;split at hd
    ·rename_i fs hk;split at hd
     ·rename_i off ft hf;split at hd
      ·split at hd
       ·split at hd
        ·rename_i z hz;cases hd;exact xR m (C.find ht) D E hk hf hz
        ·cases hd
       ·cases hd
      ·cases hd
     ·cases hd
    ·cases hd
   ·cases hd
  ·cases hd
 ·-- field
  rename_i t xo f E;have D:=aU I xo;unfold EV at hd;split at hd
  ·rename_i cs ex;rw[ex]at D;split at hd
   ·rename_i ti ht;split at hd
    ·rename_i fs hk;split at hd
     ·rename_i off ft hf;split at hd
      ·rename_i fi a9;split at hd
       ·rename_i y J;cases hd;exact DP m (C.find ht) D E hk hf (C.find a9) J
       ·cases hd
      ·cases hd
     ·cases hd
    ·cases hd
   ·cases hd
  ·cases hd
 ·-- indexAddr
  rename_i t xo io E;have D:=aU I xo;have hi:=aU I io;unfold DS at hd;split at hd
  ·rename_i β k n xs ex;rw[ex]at D;split at hd
   ·rename_i a2 k' mm ei;rw[ei]at hi;split at hd
    ·rename_i e te A L;obtain⟨ti,h1,_,h2,h3,h4,h5⟩:=ca C L;split at hd
     ·rename_i X;cases hd;exact tv m h1 h2 h3 D hi E X hc.1 hc.2
     ·cases hd
    ·cases hd
   ·cases hd
  ·rename_i β k n xs ex;rw[ex]at D;split at hd
   ·rename_i a2 k' mm ei;rw[ei]at hi;split at hd
    ·rename_i ti ht;split at hd
     ·rename_i n' e hk;split at hd
      ·rename_i te N;split at hd
       ·rename_i M;obtain⟨rfl,X⟩:=M;cases hd;exact xQ m (C.find ht) hk (C.find N) X D hi E hc.1 hc.2
       ·cases hd
      ·cases hd
     ·cases hd
    ·cases hd
   ·cases hd
  ·rename_i id j sz off ex;rw[ex]at D;split at hd
   ·rename_i kk nn xs cs hb;split at hd
    ·rename_i a2 k' mm ei;rw[ei]at hi;split at hd
     ·rename_i ti ht;split at hd
      ·rename_i n e hk;split at hd
       ·rename_i te N;split at hd
        ·rename_i X;cases hd;exact CD m (C.find ht) hk (C.find N) X D hb hi E hc
        ·cases hd
       ·cases hd
      ·cases hd
     ·cases hd
    ·cases hd
   ·cases hd
  ·rename_i id ex;rw[ex]at D;split at hd
   ·rename_i n sz cs hb;split at hd
    ·rename_i a2 k' mm ei;rw[ei]at hi;split at hd
     ·rename_i e te L;obtain⟨ti,h1,h2,h3⟩:=iA C L;split at hd
      ·rename_i X;subst X;cases hd;exact xN m h1 h2 h3 D hb hi E hc.1 hc.2
      ·cases hd
     ·cases hd
    ·cases hd
   ·cases hd
  ·cases hd
 ·-- binOp
  rename_i op t xo yo t' E;have D:=aU I xo;have J:=aU I yo;unfold Mt at hd;split at hd
  ·rename_i k n xs k2 n2 ys ex ey;rw[ex]at D;rw[ey]at J;split at hd
   ·rename_i ti ht;split at hd
    ·rename_i n' e hk;split at hd
     ·rename_i te N;split at hd
      ·rename_i k' aa;split at hd
       ·rename_i q;subst q;split at hd
        ·rename_i M;obtain⟨rfl,rfl,rfl⟩:=M;split at hd
         ·rename_i r hr;cases hd;simp only[V]at D J;obtain⟨vs,e1,l1,_⟩:=D;obtain⟨us,e2,l2,_⟩:=J;obtain rfl:=List.eq_nil_of_length_eq_zero l1;obtain rfl:=List.eq_nil_of_length_eq_zero l2;rw[List.append_nil]at e1 e2;obtain⟨z,h1,h2⟩:=sk (P:=P) (w:=w) (F:=Fr (own φ h) Bw w) (ρ:=ρ) (xo:=xo) (yo:=yo) hr (run_eqGuard_agg w op t xo yo _ _ hc) (FG (C.find ht) hk (C.find N) aa xs ys) ⟨rfl,rfl⟩;exact Good.aG (v:=z) (w':=w) (by simp only[execOp,E,e1,e2];rw[Sem.run_bind,h1];rfl) (aF.pure m h2)
         ·cases hd
        ·cases hd
       ·cases hd
      ·cases hd
     ·cases hd
    ·cases hd
   ·cases hd
  ·rename_i β p a2 q ex ey;rw[ex]at D;rw[ey]at J;split at hd
   ·cases hd;exact rV m (.inl rfl) E D J
   ·cases hd;exact rV m (.inr (.inl rfl)) E D J
   ·cases hd;exact rV m (.inr (.inr (.inl rfl))) E D J
   ·cases hd;exact rV m (.inr (.inr (.inr rfl))) E D J
   ·cases hd
  ·cases hd
 ·-- convert
  rename_i st dt xo E;have D:=aU I xo;unfold Hp at hd;split at hd
  ·rename_i id ex;rw[ex]at D;split at hd
   ·rename_i et xs hi;split at hd
    ·rename_i ac;subst ac;split at hd
     ·rename_i ti a1;split at hd
      ·rename_i e hk;split at hd
       ·rename_i te N;split at hd
        ·rename_i ad;cases hd;exact xY m (C.find a1) hk (C.find N) ad D E hi hc
        ·cases hd
       ·cases hd
      ·cases hd
     ·cases hd
    ·cases hd
   ·cases hd
  ·rename_i β p ex;rw[ex]at D;split at hd
   ·rename_i si di ax b1;split at hd
    ·rename_i k hk;cases hd;exact BF m (C.find ax) (C.find b1) hk E D hc
    ·cases hd
   ·cases hd
  ·cases hd
 ·-- slice
  rename_i t xo lo E;have D:=aU I xo;have hl:=aU I lo;unfold C2 at hd;split at hd
  ·rename_i id ex;rw[ex]at D;split at hd
   ·rename_i be A xs Y;split at hd
    ·rename_i β k l el;rw[el]at hl;split at hd
     ·rename_i e te A' L;obtain⟨ti,h1,_,h2,h3,h4,h5⟩:=ca C L;cases hd;exact Bc m h1 h2 h3 E Y D hl hc.1 hc.2
     ·cases hd
    ·cases hd
   ·cases hd
  ·cases hd
 ·-- makeFunc
  rename_i fn first a6 E
  unfold J6 at hd;split at hd
  ·rename_i f y ys ef ec;cases hd;have a7:a6 = #[]:=by
    cases a6 with
    | mk l=>cases l with
     | nil=>rfl
     | cons _ _=>simp at ec
   subst a7;have:=jw I first.toList
   rw[ef]at this;exact yi m E this
  ·cases hd
 ·-- buildSlice
  rename_i t len ps E;unfold Mf at hd;split at hd
  ·rename_i e te L;obtain⟨ti,h1,h2,h3⟩:=iA C L;split at hd
   ·rename_i M;cases hd;have:=jw I (ps.toList.map (·.2));simp only[List.map_map]at this;exact ye m hn h1 h2 h3 E M.2.1 this (fun x D=>by
     have:=(List.all_eq_true.1 M.2.2.1) x D;simp only[Bool.and_eq_true,beq_iff_eq]at this;exact this) M.2.2.2
   ·cases hd
  ·cases hd
 ·-- lookup
  rename_i t xo ko b8 E;have D:=aU I xo;have hk:=aU I ko;unfold Kc at hd;split at hd
  ·rename_i β k1 k2 kv a2 k' i ex ek;rw[ex]at D;rw[ek]at hk;split at hd
   ·rename_i ti ht;split at hd
    ·rename_i kt et b2;split at hd
     ·rename_i tk te b3 N;split at hd
      ·rename_i b9 b4;split at hd
       ·rename_i M;obtain⟨rfl,rfl,hT⟩:=M;cases hd;exact zW m (C.find ht) b2 (C.find b3) b4 (C.find N) hT E D hk
       ·cases hd
      ·cases hd
     ·cases hd
    ·cases hd
   ·cases hd
  ·cases hd
 ·-- call
  rename_i c0 E;obtain⟨callee,args,a3⟩:=c0;cases callee with
  | builtin b =>
   cases b with
   | len =>
    simp only at hd;split at hd
    ·rename_i xo t ea et;have Z:args = #[xo]:=Array.ext' ea;have O:a3 = #[t]:=Array.ext' et;subst Z O;have D:=aU I xo;unfold KD at hd;split at hd
     ·rename_i id ex;rw[ex]at D;split at hd
      ·rename_i n sz cs hb;split at hd
       ·rename_i r L;obtain⟨e,te⟩:=r;obtain⟨ti,h1,h2,h3⟩:=iA C L;cases hd;exact AO m h1 h2 D hb E
       ·cases hd
      ·cases hd
     ·cases hd
    ·cases hd
   | append =>
    simp only at hd;split at hd
    ·rename_i xo yo t u ea et;have Z:args = #[xo,yo]:=Array.ext' ea;have O:a3 = #[t,u]:=Array.ext' et;subst Z O;have D:=aU I xo;have J:=aU I yo;unfold KQ at hd;split at hd
     ·rename_i r hz;cases hd;unfold Hl at hz;split at hz
      ·rename_i β k1 n ey;split at hz
       ·rename_i e te A tu L a4;obtain⟨ti,h1,_,h2,h3,h4,h5⟩:=ca C L;split at hz
        ·rename_i k2 a5;split at hz
         ·rename_i ex;cases hz;rw[ey]at J;exact yR m hn h1 h2 h3 h4 h5 (C.find a4) a5 E D J (.inl ⟨ex,rfl,rfl,rfl⟩) hc.1 hc.2.1 hc.2.2
         ·rename_i id ex;split at hz
          ·rename_i e' B xs Y;split at hz
           ·rename_i q;subst q;split at hz
            ·rename_i he;subst he;cases hz;rw[ey]at J;exact yR m hn h1 h2 h3 h4 h5 (C.find a4) a5 E D J (.inr ⟨id,ex,Y,rfl,rfl⟩) hc.1 hc.2.1 hc.2.2
            ·cases hz
           ·cases hz
          ·cases hz
         ·cases hz
        ·cases hz
       ·cases hz
      ·cases hz
     ·unfold zw at hd;split at hd
      ·rename_i β s0 ey;rw[ey]at J;split at hd
       ·rename_i tu a4;split at hd
        ·rename_i a5;split at hd
         ·rename_i ti a1;split at hd
          ·rename_i e hk;split at hd
           ·rename_i te N;split at hd
            ·rename_i M;split at hd
             ·rename_i ex;rw[ex]at D;cases hd;exact o9 m hn (C.find a1) hk (C.find a4) a5 (C.find N) M.1 M.2 D J E (.inl ⟨rfl,rfl,rfl,rfl⟩) hc
             ·rename_i id ex;rw[ex]at D;split at hd
              ·rename_i e' xs Y;split at hd
               ·rename_i he;subst he;cases hd;exact o9 m hn (C.find a1) hk (C.find a4) a5 (C.find N) M.1 M.2 D J E (.inr ⟨id,rfl,Y,rfl,rfl⟩) hc
               ·cases hd
              ·cases hd
             ·cases hd
            ·cases hd
           ·cases hd
          ·cases hd
         ·cases hd
        ·cases hd
       ·cases hd
      ·cases hd
    ·cases hd
   | clear =>
    simp only at hd;split at hd
    ·rename_i xo t ea et;have Z:args = #[xo]:=Array.ext' ea;have O:a3 = #[t]:=Array.ext' et;subst Z O;have D:=aU I xo;unfold DC at hd;split at hd
     ·rename_i id ex;rw[ex]at D;split at hd
      ·rename_i K A kv Y;split at hd
       ·rename_i ti a1;split at hd
        ·rename_i kt O hk;cases hd;exact DF m (C.find a1) hk E Y D
        ·cases hd
       ·cases hd
      ·cases hd
     ·cases hd
    ·cases hd
   | cap =>
    simp only at hd;split at hd
    ·rename_i xo t ea et;have Z:args = #[xo]:=Array.ext' ea;have O:a3 = #[t]:=Array.ext' et;subst Z O;have D:=aU I xo;unfold Mm at hd;split at hd
     ·rename_i ex;rw[ex]at D;split at hd
      ·rename_i ti a1;split at hd
       ·rename_i e hk;cases hd;exact Bi m (C.find a1) hk E D
       ·cases hd
      ·cases hd
     ·cases hd
    ·cases hd
   | copy =>
    simp only at hd;split at hd
    ·rename_i xo yo t t2 ea et;have Z:args = #[xo,yo]:=Array.ext' ea;have O:a3 = #[t,t2]:=Array.ext' et;subst Z O;have D:=aU I xo;have J:=aU I yo;unfold Hm at hd;split at hd
     ·rename_i id lo sz ex;rw[ex]at D;split at hd
      ·rename_i e' B xs Y;split at hd
       ·rename_i e te A L;obtain⟨ti,h1,_,h2,h3,h4,h5⟩:=ca C L;split at hd
        ·rename_i ys b5;split at hd
         ·rename_i q;subst q;split at hd
          ·rename_i X;subst X;cases hd;exact zO m h1 h2 h3 h4 D J E Y b5
          ·cases hd
         ·cases hd
        ·cases hd
       ·cases hd
      ·cases hd
     ·cases hd
    ·cases hd
   | _=>cases hd
  | value f =>
   simp only at hd;unfold EZ at hd;split at hd
   ·rename_i fid fs q ef;have hf:=aU I f;rw[ef]at hf;split at hd
    ·split at hd
     ·rename_i b6 hl;cases hd;exact DM m E hf (jI (jw I args.toList)) hl hc
     ·cases hd
    ·cases hd
   ·cases hd
  | invoke _ _=>cases hd
 ·cases hd
theorem G9(p:bX P tb)(m:Mem Bw w0 ρ φ h w)(z:fb n (Fr (own φ h) Bw w) ρ s a)(q:∀j,j<8→ρ (new+j)=none){o:Oper}{asm:Option Bool}{iR:Option wh}(v:dieOf iR=none){x:ag}{u:gX}{c:Prop}
  (hd:FV P tb new asm iR o.op s h=some (x,u,c)) (hc:c):Good P o a w (aF Bw w0 ρ φ h w new x u):=by
 unfold FV at hd;split at hd
 ·rename_i r A;cases hd;exact Fp p m z (q 0 (by omega)) A hc
 split at hd
 ·rename_i r A;cases hd;exact Fm p m z (q 0 (by omega)) A hc
 ·exact Ft p m z q v hd hc
theorem IT(m:Mem Bw w0 ρ φ h w)(L:fb n (Fr (own φ h) Bw w) ρ s a)(C:∀j,j<8→ρ (new+j)=none){o:Oper}{asm:Option Bool}{iR:Option wh}{y:Value}(p:dying o.op iR=some y){x:ag}{u:gX}{c:Prop}
  (hd:FV P tb new asm iR o.op s h=some (x,u,c)) (hc:c):LO P o a w y (fun M=>∃v,aF Bw w0 ρ φ h w new .unk u v M):=by
 refine IG (tb:=tb) m L C p (x:=x) (u:=u) (c:=c) (asm:=asm) ?_ hc;unfold FV at hd;split at hd
 ·rename_i r z;exfalso
  unfold dying at p;split at p
  ·rename_i c0 q D;split at p
   ·rename_i N A;rw[D]at z;obtain⟨callee,args,E⟩:=c0;simp only at A;subst A;simp only[pN]at z;cases z
   ·cases p
  ·cases p
 rename_i I;clear I;split at hd
 ·rename_i r z;exfalso
  unfold dying at p;split at p
  ·rename_i c0 q D;split at p
   ·rename_i N A;split at p
    ·rename_i B;simp only[Bool.and_eq_true]at B;rw[D]at z;obtain⟨callee,args,E⟩:=c0;simp only at A;subst A;simp only[jo]at z;unfold EZ at z;split at z
     ·rename_i e;cases e;rw[if_neg (fun J=>by rw[B.1.1]at J;cases J.1)]at z;cases z
     ·cases z
    ·cases p
   ·cases p
  ·cases p
 ·exact hd
theorem DE{s I:Nat→ag}{h h':Nat→Qz}{op:Op}{iR:Option wh}(B:∀x∈op.operands.toList,ev s x=ev I x)(key:∀x∈op.operands.toList,(¬((∃x,op = .move x)∨(∃x,op = .assign x)∨(∃x,op = .nilCheck x)∨∃t x f,op = .fieldAddr t x f))→∀i∈ids (ev s x),h i=h' i)
  (hl:∀c,op = .call c→∀V,(∀i∈bu V,∃x∈op.operands.toList,i∈ids (ev s x))→oh h V=oh h' V) (L:∀c,op = .call c→∀A,∀x∈op.operands.toList,eZ h A (ev s x)=eZ h' A (ev s x)) :
  jo P tb new iR op s h=jo P tb new iR op I h':=by
 cases op with
 | alloc t=>rfl
 | box t x=>simp only[jo,B x (by simp[Op.operands])]
 | build t M =>
  simp only[jo];have e:M.toList.map (fun p=>ev s p.2)=M.toList.map (fun p=>ev I p.2):=List.map_congr_left (fun p hp=>B p.2 (by simp only[Op.operands,List.mem_map];exact⟨p,hp,rfl⟩));rw[e]
 | load t x =>
  have C:=key x (by simp[Op.operands]) (by rintro(⟨_,e⟩ | ⟨_,e⟩ | ⟨_,e⟩ | ⟨_,_,_,e⟩) <;> cases e);simp only[jo,←B x (by simp[Op.operands])];unfold HN;split
  ·rfl
  ·rename_i id n i ex;rw[C id (by rw[ex];simp[ids])]
  ·rename_i id i sz off ex;rw[C id (by rw[ex];simp[ids])]
  ·rfl
 | store t x y =>
  have C:=key x (by simp[Op.operands]) (by rintro(⟨_,e⟩ | ⟨_,e⟩ | ⟨_,e⟩ | ⟨_,_,_,e⟩) <;> cases e);simp only[jo,←B x (by simp[Op.operands]),←B y (by simp[Op.operands])];unfold Dk;split
  ·rename_i id n i ex;rw[C id (by rw[ex];simp[ids])]
  ·rename_i id i sz off ex;rw[C id (by rw[ex];simp[ids])]
  ·rfl
 | nilCheck x=>simp only[jo,B x (by simp[Op.operands])]
 | fieldAddr t x f=>simp only[jo,B x (by simp[Op.operands])]
 | field t x f=>simp only[jo,B x (by simp[Op.operands])]
 | indexAddr t x i =>
  have C:=key x (by simp[Op.operands]) (by rintro(⟨_,e⟩ | ⟨_,e⟩ | ⟨_,e⟩ | ⟨_,_,_,e⟩) <;> cases e);simp only[jo,←B x (by simp[Op.operands]),←B i (by simp[Op.operands])];unfold DS;split
  ·rfl
  ·rfl
  ·rename_i id j sz off ex;rw[C id (by rw[ex];simp[ids])]
  ·rename_i id ex;rw[C id (by rw[ex];simp[ids])]
  ·rfl
 | binOp o t x y t'=>simp only[jo,B x (by simp[Op.operands]),B y (by simp[Op.operands])]
 | convert st dt x =>
  have C:=key x (by simp[Op.operands]) (by rintro(⟨_,e⟩ | ⟨_,e⟩ | ⟨_,e⟩ | ⟨_,_,_,e⟩) <;> cases e);simp only[jo,←B x (by simp[Op.operands])];unfold Hp;split
  ·rename_i id ex;rw[C id (by rw[ex];simp[ids])]
  ·rfl
  ·rfl
 | slice t x O hi mx =>
  cases O with
  | none=>rfl
  | some O =>
   cases hi with
   | some _=>rfl
   | none =>
    cases mx with
    | some _=>rfl
    | none =>
     have C:=key x (by simp[Op.operands]) (by rintro(⟨_,e⟩ | ⟨_,e⟩ | ⟨_,e⟩ | ⟨_,_,_,e⟩) <;> cases e);simp only[jo,←B x (by simp[Op.operands]),←B O (by simp[Op.operands])];unfold C2;split
     ·rename_i id ex;rw[C id (by rw[ex];simp[ids])]
     ·rfl
 | makeFunc f Z cs =>
  simp only[jo];rw[List.map_congr_left (l:=cs.toList) (f:=ev s) (g:=ev I) (fun p hp=>B p (by simp only[Op.operands,Array.toList_append,List.mem_append];exact .inr hp)),List.map_congr_left (l:=Z.toList) (f:=ev s) (g:=ev I) (fun p hp=>B p (by simp only[Op.operands,Array.toList_append,List.mem_append];exact .inl hp))]
 | buildSlice t len M =>
  simp only[jo];have e:M.toList.map (fun p=>ev s p.2)=M.toList.map (fun p=>ev I p.2):=List.map_congr_left (fun p hp=>B p.2 (by simp only[Op.operands,List.mem_map];exact⟨p,hp,rfl⟩));rw[e]
 | lookup t x k a1=>simp only[jo,B x (by simp[Op.operands]),B k (by simp[Op.operands])]
 | call c =>
  obtain⟨callee,args,J⟩:=c;have v:∀x∈args.toList,x∈(Op.call { callee,args,argTypes:=J }).operands.toList:=fun x C=>by simp only[Op.operands,Call.operands,Array.toList_append,List.mem_append];exact .inr C
  have e:args.toList.map (ev s)=args.toList.map (ev I):=List.map_congr_left (fun p hp=>B p (v p hp));cases callee with
  | builtin b =>
   cases b with
   | append =>
    simp only[jo];split
    ·rename_i x y t u D _;have C:x∈args.toList:=by rw[D];simp
     have E:y∈args.toList:=by rw[D];simp
     rw[←B x (v x C),←B y (v y E)];have hk:=key x (v x C) (by rintro(⟨_,e⟩ | ⟨_,e⟩ | ⟨_,e⟩ | ⟨_,_,_,e⟩) <;> cases e);unfold KQ;cases X:ev s x with
     | sl id =>
      unfold zw Hl;dsimp only;rw[hk id (by rw[X];simp[ids])]
     | _=>rfl
    ·rfl
   | clear =>
    simp only[jo];split
    ·rename_i x t D _;have C:x∈args.toList:=by rw[D];simp
     rw[←B x (v x C)];have hk:=key x (v x C) (by rintro(⟨_,e⟩ | ⟨_,e⟩ | ⟨_,e⟩ | ⟨_,_,_,e⟩) <;> cases e);unfold DC;split
     ·rename_i id ex;rw[hk id (by rw[ex];simp[ids])]
     ·rfl
    ·rfl
   | cap =>
    simp only[jo];split
    ·rename_i x t D _;have C:x∈args.toList:=by rw[D];simp
     rw[←B x (v x C)]
    ·rfl
   | len =>
    simp only[jo];split
    ·rename_i x t D _;have C:x∈args.toList:=by rw[D];simp
     rw[←B x (v x C)];have hk:=key x (v x C) (by rintro(⟨_,e⟩ | ⟨_,e⟩ | ⟨_,e⟩ | ⟨_,_,_,e⟩) <;> cases e);unfold KD;split
     ·rename_i id ex;rw[hk id (by rw[ex];simp[ids])]
     ·rfl
    ·rfl
   | copy =>
    simp only[jo];split
    ·rename_i x y t t2 D _;have C:x∈args.toList:=by rw[D];simp
     have E:y∈args.toList:=by rw[D];simp
     rw[←B x (v x C),←B y (v y E)];have hk:=key x (v x C) (by rintro(⟨_,e⟩ | ⟨_,e⟩ | ⟨_,e⟩ | ⟨_,_,_,e⟩) <;> cases e);unfold Hm;split
     ·rename_i id O sz ex;rw[hk id (by rw[ex];simp[ids])];split
      ·split
       ·rename_i A _;rw[L _ rfl A y (v y E)]
       ·rfl
      ·rfl
     ·rfl
    ·rfl
   | _=>rfl
  | value f =>
   have hf:f∈(Op.call { callee:= .value f,args,argTypes:=J }).operands.toList:=by simp[Op.operands,Call.operands]
   simp only[jo];rw[←B f hf,←e];unfold EZ;split
   ·rename_i fid Z q ef;split
    ·rw[hl _ rfl _ (fun i hi=>by
      obtain⟨y,E,hi⟩:=cI.1 hi;rw[List.mem_append]at E;rcases E with E | E
      ·exact⟨f,hf,by rw[ef];simp only[ids];exact cI.2 ⟨y,E,hi⟩⟩
      ·have N:i∈bu (gT tb (Jw (some q)) J.toList (args.toList.map (ev s))):=cI.2 ⟨y,E,hi⟩;rw[nr]at N;obtain⟨z,hz,Y⟩:=cI.1 N;obtain⟨p,hp,rfl⟩:=List.mem_map.1 hz;exact⟨p,v p hp,Y⟩)]
    ·rfl
   ·rfl
  | invoke _ _=>rfl
 | _=>rfl
end
end Go.Tv
