import Derived.Test.YtobbjfkfmdiklaaGreatDoorTvL
import Derived.Test.YtobbjfkfmdiklaaGreatDoorTvKnm
namespace Go.Tv
open Go Go.RowKit
def Lm(tb:bQ)(t:TypeId):Option (IntKind×Nat) :=
 match tb.find t with
 | some ti=>match ti.k with
  | .ar n e=>match tb.find e with
   | some f=>match f.k with
    | .int k=>if 16<n then some (k,n)else none
    | _=>none
   | none=>none
  | _=>none
 | none=>none
def IY(tb:bQ)(t:TypeId):Option (IntKind×Nat) :=
 match Lm tb t with
 | some r=>some r
 | none=>match tb.find t with
  | some ti=>match ti.k with
   | .st ((0,e)::_)=>Lm tb e
   | _=>none
  | none=>none
def Ty.MH:Ty→Bool
 | .prod (.arr _ _) _=>true
 | _=>false
def KS(fl:Bool)(tb:bQ)(new:Nat)(t:TypeId)(len:Nat)(p:QV)(j:List af):XQ :=
 match zv tb t with
 | some (_,f)=>if(fl || f.T.isNone)=true∧p=List.range len∧j.all (fun x=>(cellsOf x).all af.cell && (cellsOf x).length == f.size)=true∧len*f.size≤16777216 then
   some (.sl new,[(new,some (.vrow len f.size (j.flatMap cellsOf)))],True)else none
 | none=>none
def Js(tb:bQ)(t:TypeId)(x:af)(h:Nat→Qz):XQ :=
 match x with
 | .sl id=>match h id with
  | some (.vrow n _ _)=>match zv tb t with
   | some _=>some (.p false (.int .i64) (n:Int),[],True)
   | none=>none
  | _=>none
 | _=>none
def Jk(tb:bQ)(t:TypeId)(x k:af)(f:Bool):XQ :=
 match x,k with
 | .p _ (.mapi j u) z,.p _ (.int A) i=>match tb.find t with
  | some ti=>match ti.k with
   | .mp B C=>match tb.find B,tb.find C with
    | some D,some E=>match D.k with
     | .int q=>if q=j∧A=j∧E.T=some (.int u)then some (zt u f (bj (α:=Int) (.int j) z i),[],True)else none
     | _=>none
    | _,_=>none
   | _=>none
  | none=>none
 | _,_=>none
def y5(tb:bQ)(new:Nat)(t u:TypeId)(x y:af)(h:Nat→Qz):XQ :=
 match y with
 | .p _ .str s=>match tb.find u with
  | some z=>match z.k with
   | .str=>match tb.find t with
    | some ti=>match ti.k with
     | .sl e=>match tb.find e with
      | some j=>if j.T=some (.int .u8)∧j.bytes=1 then(match x with
       | .nils=>some (.sl new,[(new,some (.arr e (.int .u8) (cJ s)))],([]:QK).length+List.length (α:=UInt8) s≤140737488355328)
       | .sl id=>match h id with
        | some (.arr A (.int .u8) q)=>if A=e then some (.sl new,[(id,none),(new,some (.arr e (.int .u8) (List.append (α:=Int) q (cJ s))))],List.length (α:=Int) q+List.length (α:=UInt8) s≤140737488355328)else none
        | _=>none
       | _=>none)else none
      | none=>none
     | _=>none
    | none=>none
   | _=>none
  | none=>none
 | _=>none
def Gc(tb:bQ)(new:Nat)(t u:TypeId)(x y:af)(h:Nat→Qz):XQ :=
 match y with
 | .p _ (.int _) n=>match gZ tb t,tb.find u with
  | some (e,z,A),some C=>match C.k with
   | .int _=>match x with
    | .nils=>some (.sl new,[(new,some (.arr e A (List.replicate (show Int from n).toNat A.zero)))],0≤(show Int from n)∧(([]:List A.den).length+(show Int from n).toNat)*z.bytes≤140737488355328∧([]:List A.den).length+(show Int from n).toNat≤9223372036854775807)
    | .sl id=>match h id with
     | some (.arr D B j)=>if q:B=A then(if D=e then some (.sl new,[(id,none),(new,some (.arr e A ((q ▸ j:List A.den)++List.replicate (show Int from n).toNat A.zero)))],0≤(show Int from n)∧((q ▸ j:List A.den).length+(show Int from n).toNat)*z.bytes≤140737488355328∧(q ▸ j:List A.den).length+(show Int from n).toNat≤9223372036854775807)else none)else none
     | _=>none
    | _=>none
   | _=>none
  | _,_=>none
 | _=>none
def J5(tb:bQ)(new:Nat)(t u:TypeId)(x y:af)(h:Nat→Qz):XQ :=
 match Gc tb new t u x y h with
 | some r=>some r
 | none=>y5 tb new t u x y h
def Cr(tb:bQ)(t:TypeId)(x:af)(h:Nat→Qz):XQ :=
 match x with
 | .mp id=>match h id with
  | some (.mpo K A _)=>match tb.find t with
   | some ti=>match ti.k with
    | .mp _ _=>some (.tup [],[(id,some (.mpo K A []))],True)
    | _=>none
   | none=>none
  | _=>none
 | _=>none
def KD(tb:bQ)(t:TypeId)(x:af):XQ :=
 match x with
 | .nils=>match tb.find t with
  | some ti=>match ti.k with
   | .sl _=>some (.p false (.int .i64) (0:Int),[],True)
   | _=>none
  | none=>none
 | _=>none
def GG(tb:bQ)(new:Nat)(t:TypeId):XQ :=
 match IY tb t with
 | some (k,n)=>match tb.find t with
  | some ti=>if(ti.z.take n).all (KC k)=true∧n≤ti.z.length then some (.adr new 0 ti.size 0,[(new,some (.lmp k n (dh n) (ti.z.drop n)))],True)else none
  | none=>none
 | none=>none
def KT(new:Nat)(x:af):XQ :=
 match x with
 | .lag k n j f=>some (.adr new 0 (n+f.length) 0,[(new,some (.lmp k n j f))],True)
 | _=>none
def Gk(tb:bQ)(t:TypeId)(j:QV)(p:List af):XQ :=
 match IY tb t with
 | some (k,n)=>match o6 tb t j p with
  | some (.agg f,[],c)=>if(f.take n).all (KC k)=true∧n≤f.length then some (.lag k n (dh n) (f.drop n),[],c)else none
  | _=>none
 | none=>none
def F9(tb:bQ)(t:TypeId)(x:af)(h:Nat→Qz):XQ :=
 match x with
 | .loc β T y=>match tb.find t with
  | some ti=>if ti.T=some T∧T.scalar=true then some (.p β T y,[],True)else none
  | none=>none
 | .ada id 0 n i=>match h id with
  | some (.lmp k u q _)=>match tb.find t with
   | some ti=>match ti.k with
    | .int z=>if u=n∧z=k then some (.p false (.int k) (fy q i),[],True)else none
    | _=>none
   | none=>none
  | _=>none
 | .adr id i sz off=>match h id with
  | some (.lmp k n q j)=>match tb.find t with
   | some ti=>if ti.k.agg=true∧i*sz+off=0∧ti.size=n+j.length then some (.lag k n q j,[],True)
    else if n≤i*sz+off then(match fY ti j (i*sz+off - n)with
     | some y=>some (y,[],True)
     | none=>none)else none
   | none=>none
  | some (.vrow _ _ j)=>match tb.find t with
   | some ti=>match fY ti j (i*sz+off)with
    | some y=>some (y,[],True)
    | none=>none
   | none=>none
  | _=>none
 | _=>none
def CH(tb:bQ)(t:TypeId)(x y:af)(h:Nat→Qz):XQ :=
 match x with
 | .ada id 0 n i=>match h id with
  | some (.lmp k u q j)=>match y with
   | .p _ (.int z) v=>match tb.find t with
    | some ti=>if u=n∧z=k∧ti.size=1 then some (.unk,[(id,some (.lmp k u (so q i v) j))],True)else none
    | none=>none
   | _=>none
  | _=>none
 | .adr id i sz off=>match h id with
  | some (.lmp k n q j)=>match tb.find t with
   | some ti=>if(cellsOf y).all af.cell=true∧(cellsOf y).length=ti.size∧n≤i*sz+off∧i*sz+off - n+ti.size≤j.length then
     some (.unk,[(id,some (.lmp k n q (wr j (i*sz+off - n) (cellsOf y))))],True)else none
   | none=>none
  | _=>none
 | _=>none
def K8(x:af):XQ :=
 match x with
 | .loc β T y=>some (.loc β T y,[],True)
 | .p β (.ptr A) q=>if A.MH=true then some (.loc β A (q.getD A.zero),[],q.isSome=true)else none
 | _=>none
def Ft(tb:bQ)(t:TypeId)(x:af)(f:Nat):XQ :=
 match x with
 | .loc β T y=>match tb.find t with
  | some ti=>match ti.k with
   | .st j=>match j[f]? with
    | some (off,p)=>match tb.find p with
     | some q=>match q.T with
      | some T'=>match vY T' T y off with
       | some z=>some (.loc β T' z,[],True)
       | none=>none
      | none=>none
     | none=>none
    | none=>none
   | _=>none
  | none=>none
 | _=>none
def D2(tb:bQ)(t:TypeId)(x:af)(f:Nat):XQ :=
 match x with
 | .agg j=>match tb.find t with
  | some ti=>match ti.k with
   | .st p=>match p[f]? with
    | some (off,q)=>match tb.find q with
     | some u=>match fY u j off with
      | some y=>some (y,[],True)
      | none=>none
     | none=>none
    | none=>none
   | _=>none
  | none=>none
 | _=>none
def CD(tb:bQ)(t:TypeId)(x i:af)(h:Nat→Qz):XQ :=
 match x with
 | .p β (.slice (.arr k n)) u=>match i with
  | .p _ (.int _) m=>match gZ tb t with
   | some (_,q,_)=>if n=q.size then some (.loc β (.arr k n) (u.getD (show Int from m).toNat (dh n)),[],0≤(show Int from m)∧(show Int from m)<u.length)else none
   | none=>none
  | _=>none
 | .loc β (.arr k n) u=>match i with
  | .p _ (.int _) m=>match tb.find t with
   | some ti=>match ti.k with
    | .ar z e=>match tb.find e with
     | some q=>if z=n∧q.size=1 then some (.loc β (.int k) (fy u (show Int from m).toNat),[],0≤(show Int from m)∧(show Int from m)<(n:Int))else none
     | none=>none
    | _=>none
   | none=>none
  | _=>none
 | .adr id j sz off=>match h id with
  | some (.lmp _ _ _ _)=>match i with
   | .p _ (.int _) m=>match tb.find t with
    | some ti=>match ti.k with
     | .ar n e=>match tb.find e with
      | some q=>if q.size=1 then some (.ada id (j*sz+off) n (show Int from m).toNat,[],0≤(show Int from m)∧(show Int from m)<(n:Int))else none
      | none=>none
     | _=>none
    | none=>none
   | _=>none
  | _=>none
 | .sl id=>match h id with
  | some (.vrow n sz _)=>match i with
   | .p _ (.int _) m=>match zv tb t with
    | some (_,q)=>if q.size=sz then some (.adr id (show Int from m).toNat sz 0,[],0≤(show Int from m)∧(show Int from m)<(n:Int))else none
    | none=>none
   | _=>none
  | _=>none
 | _=>none
def Lv(P:Program)(tb:bQ)(op:BinOp)(t:TypeId)(x y:af):XQ :=
 match x,y with
 | .lag k n f [],.lag j u z []=>match tb.find t with
  | some ti=>match ti.k with
   | .ar A e=>match tb.find e with
    | some B=>match B.k with
     | .int C=>if q:u=n then(if A=n∧j=k∧C=k then(match FK op (HF f (q ▸ z))with
      | some r=>some (r,[],P.eqGuardType P.depth t=false)
      | none=>none)else none)else none
     | _=>none
    | none=>none
   | _=>none
  | none=>none
 | .p _ .flt a,.p _ .flt b=>match op with
  | .add=>some (.p false .flt (bR .add a b),[],True)
  | .sub=>some (.p false .flt (bR .sub a b),[],True)
  | .mul=>some (.p false .flt (bR .mul a b),[],True)
  | .quo=>some (.p false .flt (bR .quo a b),[],True)
  | _=>none
 | _,_=>none
def G4(tb:bQ)(st q:TypeId)(x:af)(h:Nat→Qz):XQ :=
 match x with
 | .sl id=>match h id with
  | some (.arr u (.int .u8) j)=>if q=st then(match tb.find st with
   | some ti=>match ti.k with
    | .sl e=>match tb.find e with
     | some z=>match z.k with
      | .int .u8=>some (.sl id,[(id,some (.bytes u j)),(id,some (.bytes u j))],0<j.length)
      | _=>none
     | none=>none
    | _=>none
   | none=>none)else none
  | _=>none
 | .p _ .flt a=>match tb.find st,tb.find q with
  | some _,some A=>match A.k with
   | .int k=>some (.p false (.int k) ((n7 a).getD 0),[],(n7 a).isSome=true∧k.min≤(n7 a).getD 0∧(n7 a).getD 0≤k.max)
   | _=>none
  | _,_=>none
 | _=>none
def CV(tb:bQ)(t:TypeId)(x j:af)(h:Nat→Qz):XQ :=
 match x with
 | .sl id=>match h id with
  | some (.arr _ _ q)=>match j with
   | .p _ (.int _) l=>match gZ tb t with
    | some (_,u,_)=>some (.suf id (show Int from l).toNat u.size,[],0≤(show Int from l)∧(show Int from l)≤q.length)
    | none=>none
   | _=>none
  | _=>none
 | _=>none
def FD(tb:bQ)(t:TypeId)(x y:af)(h:Nat→Qz):XQ :=
 match x with
 | .suf id j sz=>match h id with
  | some (.arr C B u)=>match gZ tb t with
   | some (_,D,A)=>match eG h A y with
    | some z=>if q:B=A then(if sz=D.size then some (.p false (.int .i64) ((min z.length ((q ▸ u:List A.den).length - j):Nat):Int),[(id,some (.arr C A ((q ▸ u:List A.den).take j++(z.take ((q ▸ u:List A.den).length - j)++(q ▸ u:List A.den).drop (j+z.length)))))],True)else none)else none
    | none=>none
   | none=>none
  | _=>none
 | _=>none
def Ed(P:Program)(iE:Option wE)(f:af)(j:List af)(h:Nat→Qz):XQ :=
 match f,iE with
 | .bfn fid p,some q=>if q.own=false∧q.die=none∧q.fl.any (fun b=>b)=false then(match nT h (p++j)with
  | some args=>some (q.r,[],Pure P fid args q.r)
  | none=>none)else none
 | _,_=>none
def IW(fn:Fn)(first j:List af):XQ :=
 match fn,first,j with
 | .func f,x::p,[]=>some (.bfn f (x::p),[],True)
 | _,_,_=>none
def iZ(P:Program)(tb:bQ)(new:Nat)(iE:Option wE)(op:Op)(s:Nat→af)(h:Nat→Qz):XQ :=
 match op with
 | .alloc t=>GG tb new t
 | .box _ x=>KT new (ev s x)
 | .build t j=>Gk tb t (j.toList.map (·.1)) (j.toList.map fun p=>ev s p.2)
 | .load t x=>F9 tb t (ev s x) h
 | .store t x y=>CH tb t (ev s x) (ev s y) h
 | .nilCheck x=>K8 (ev s x)
 | .fieldAddr t x f=>Ft tb t (ev s x) f
 | .field t x f=>D2 tb t (ev s x) f
 | .indexAddr t x i=>CD tb t (ev s x) (ev s i) h
 | .binOp op t x y _=>Lv P tb op t (ev s x) (ev s y)
 | .convert st A x=>G4 tb st A (ev s x) h
 | .slice t x (some B) none none=>CV tb t (ev s x) (ev s B) h
 | .makeFunc fn first q=>IW fn (first.toList.map (ev s)) (q.toList.map (ev s))
 | .buildSlice t len j=>KS iE.isSome tb new t len (j.toList.map (·.1)) (j.toList.map fun p=>ev s p.2)
 | .lookup t x k z=>Jk tb t (ev s x) (ev s k) z
 | .call c=>match c.callee with
  | .builtin .len=>match c.args.toList,c.argTypes.toList with
   | [x],[t]=>Js tb t (ev s x) h
   | _,_=>none
  | .builtin .append=>match c.args.toList,c.argTypes.toList with
   | [x,y],[t,u]=>J5 tb new t u (ev s x) (ev s y) h
   | _,_=>none
  | .builtin .clear=>match c.args.toList,c.argTypes.toList with
   | [x],[t]=>Cr tb t (ev s x) h
   | _,_=>none
  | .builtin .cap=>match c.args.toList,c.argTypes.toList with
   | [x],[t]=>KD tb t (ev s x)
   | _,_=>none
  | .builtin .copy=>match c.args.toList,c.argTypes.toList with
   | [x,y],[t,_]=>FD tb t (ev s x) (ev s y) h
   | _,_=>none
  | .value f=>Ed P iE (ev s f) (gK tb (HP iE) c.argTypes.toList (c.args.toList.map (ev s))) h
  | _=>none
 | _=>none
def EC(P:Program)(tb:bQ)(new:Nat)(asm:Option Bool)(iE:Option wE)(op:Op)(s:Nat→af)(h:Nat→Qz):XQ :=
 match pJ tb new iE.isSome op s h with
 | some r=>some r
 | none=>match iZ P tb new iE op s h with
  | some r=>some r
  | none=>gN P tb new asm iE op s h
theorem Good.imp{P:Program}{o:Oper}{a:Act}{w:World}{p q:Value→World→Prop}(h:Good P o a w p)(j:∀v w',p v w'→q v w'):Good P o a w q:=fun K Q hk=>h K Q fun v w' hp=>hk v w' (j v w' hp)
section
variable{P:Program}{tb:bQ}{Bw:Nat→Prop}{w0:cv P}{ρ:Nat→QW}{φ:Nat→Nat→Prop}{h:Nat→Qz}{w:World}{new:Nat}{n:NS}{s:Nat→af}{a:Act}
theorem aF.val(f:af→af){x:af}(B:∀F ρ v,V F ρ x v→V F ρ (f x) v){u:gP}{v:Value}{w':World}(hp:aF Bw w0 ρ φ h w new x u v w'):aF Bw w0 ρ φ h w new (f x) u v w':=by
 obtain⟨j,z,C,D,E,I,J⟩:=hp;exact⟨j,z,C,D,E,I,B _ _ _ J⟩
theorem xa(f:cb P tb)(m:Mem Bw w0 ρ φ h w)(A:eH n (Fr (own φ h) Bw w) ρ s a){o:Oper}{t:TypeId}{q:Array (Nat×Operand)}(B:o.op = .build t q){x:af}{u:gP}{c:Prop}
  (hd:o6 tb t (q.toList.map (·.1)) (q.toList.map fun p=>ev s p.2)=some (x,u,c)):Good P o a w (aF Bw w0 ρ φ h w new x u):=by
 unfold o6 at hd;split at hd
 ·rename_i ti ht;split at hd
  ·rename_i D hk;split at hd
   ·rename_i C j;cases hd;have:=jk A (q.toList.map (·.2));simp only[List.map_map]at this;exact vH m f (f.find ht) hk B this j
   ·cases hd
  ·rename_i n e hk;split at hd
   ·rename_i E z;split at hd
    ·rename_i C j;cases hd;have:=jk A (q.toList.map (·.2));simp only[List.map_map]at this;exact tj m f (f.find ht) hk (f.find z) B this j
    ·cases hd
   ·cases hd
  ·cases hd
 ·cases hd
theorem Fg(C:cb P tb)(m:Mem Bw w0 ρ φ h w)(I:eH n (Fr (own φ h) Bw w) ρ s a)(hn:ρ new=none){o:Oper}{iE:Option wE}{x:af}{u:gP}{c:Prop}
  (hd:iZ P tb new iE o.op s h=some (x,u,c)) (hc:c):Good P o a w (aF Bw w0 ρ φ h w new x u):=by
 unfold iZ at hd;split at hd
 ·-- alloc
  rename_i t E;unfold GG at hd;split at hd
  ·split at hd
   ·rename_i ti ht;split at hd
    ·rename_i hz;cases hd;exact AJ m hn (C.find ht) E hz.1 hz.2
    ·cases hd
   ·cases hd
  ·cases hd
 ·-- box
  rename_i t xo E;unfold KT at hd;split at hd
  ·rename_i k n xs cs ex;have D:=aV I xo;rw[ex]at D;cases hd;exact EH m hn D E _
  ·cases hd
 ·-- build
  rename_i t ps E;unfold Gk at hd;split at hd
  ·split at hd
   ·rename_i ds c' hb;split at hd
    ·rename_i hz;cases hd;refine(xa (new:=new) C m I E hb).imp fun v w' hp=>?_
     exact aF.val (fun _=> .lag _ _ (dh _) (ds.drop _)) (fun F ρ v hv=>DO hz.1 hz.2 hv) hp
    ·cases hd
   ·cases hd
  ·cases hd
 ·-- load
  rename_i t xo E;have D:=aV I xo;unfold F9 at hd;split at hd
  ·rename_i β T y ex;rw[ex]at D;split at hd
   ·rename_i ti ht;split at hd
    ·rename_i hT;cases hd;exact y8 m (C.find ht) D E hT.1 hT.2
    ·cases hd
   ·cases hd
  ·rename_i id n i ex;rw[ex]at D;split at hd
   ·rename_i k n' xs cs hb;split at hd
    ·rename_i ti ht;split at hd
     ·rename_i k2 hk;split at hd
      ·rename_i M;obtain⟨rfl,rfl⟩:=M;cases hd;exact C7 m (C.find ht) hk D E hb
      ·cases hd
     ·cases hd
    ·cases hd
   ·cases hd
  ·rename_i id i sz off ex;rw[ex]at D;split at hd
   ·rename_i k n xs cs hb;split at hd
    ·rename_i ti ht;split at hd
     ·rename_i M;cases hd;exact AK m (C.find ht) M.1 D E hb M.2.1 M.2.2
     ·split at hd
      ·rename_i M;split at hd
       ·rename_i y J;cases hd;exact Bp m (C.find ht) D E hb (by omega) J
       ·cases hd
      ·cases hd
    ·cases hd
   ·rename_i n b7 cs hb;split at hd
    ·rename_i ti ht;split at hd
     ·rename_i y J;cases hd;exact yB m (C.find ht) D E hb J
     ·cases hd
    ·cases hd
   ·cases hd
  ·cases hd
 ·-- store
  rename_i t xo yo E;have D:=aV I xo;have J:=aV I yo;unfold CH at hd;split at hd
  ·rename_i id n i ex;rw[ex]at D;split at hd
   ·rename_i k n' xs cs hb;split at hd
    ·rename_i β k2 v ey;rw[ey]at J;split at hd
     ·rename_i ti ht;split at hd
      ·rename_i M;obtain⟨rfl,rfl,a8⟩:=M;cases hd;exact A7 m (C.find ht) a8 D J E hb
      ·cases hd
     ·cases hd
    ·cases hd
   ·cases hd
  ·rename_i id i sz off ex;rw[ex]at D;split at hd
   ·rename_i k n xs cs hb;split at hd
    ·rename_i ti ht;split at hd
     ·rename_i M;obtain⟨q1,q2,q3,q4⟩:=M;cases hd;exact yY m (C.find ht) D J q1 E hb q2 (by omega) q4
     ·cases hd
    ·cases hd
   ·cases hd
  ·cases hd
 ·-- nilCheck
  rename_i xo E;have D:=aV I xo;unfold K8 at hd;split at hd
  ·rename_i β T y ex;rw[ex]at D;cases hd;exact zL m D E
  ·rename_i β A q ex;rw[ex]at D;split at hd
   ·cases hd;exact BR m D E hc
   ·cases hd
  ·cases hd
 ·-- fieldAddr
  rename_i t xo f E;have D:=aV I xo;unfold Ft at hd;split at hd
  ·rename_i β T y ex;rw[ex]at D;split at hd
   ·rename_i ti ht;split at hd
    ·rename_i fs hk;split at hd
     ·rename_i off ft hf;split at hd
      ·split at hd
       ·split at hd
        ·rename_i z hz;cases hd;exact xk m (C.find ht) D E hk hf hz
        ·cases hd
       ·cases hd
      ·cases hd
     ·cases hd
    ·cases hd
   ·cases hd
  ·cases hd
 ·-- field
  rename_i t xo f E;have D:=aV I xo;unfold D2 at hd;split at hd
  ·rename_i cs ex;rw[ex]at D;split at hd
   ·rename_i ti ht;split at hd
    ·rename_i fs hk;split at hd
     ·rename_i off ft hf;split at hd
      ·rename_i fi a9;split at hd
       ·rename_i y J;cases hd;exact Df m (C.find ht) D E hk hf (C.find a9) J
       ·cases hd
      ·cases hd
     ·cases hd
    ·cases hd
   ·cases hd
  ·cases hd
 ·-- indexAddr
  rename_i t xo io E;have D:=aV I xo;have hi:=aV I io;unfold CD at hd;split at hd
  ·rename_i β k n xs ex;rw[ex]at D;split at hd
   ·rename_i a2 k' mm ei;rw[ei]at hi;split at hd
    ·rename_i e te A L;obtain⟨ti,h1,_,h2,h3,h4,h5⟩:=bY C L;split at hd
     ·rename_i X;cases hd;exact sC m h1 h2 h3 D hi E X hc.1 hc.2
     ·cases hd
    ·cases hd
   ·cases hd
  ·rename_i β k n xs ex;rw[ex]at D;split at hd
   ·rename_i a2 k' mm ei;rw[ei]at hi;split at hd
    ·rename_i ti ht;split at hd
     ·rename_i n' e hk;split at hd
      ·rename_i te N;split at hd
       ·rename_i M;obtain⟨rfl,X⟩:=M;cases hd;exact xb m (C.find ht) hk (C.find N) X D hi E hc.1 hc.2
       ·cases hd
      ·cases hd
     ·cases hd
    ·cases hd
   ·cases hd
  ·rename_i id j sz off ex;rw[ex]at D;split at hd
   ·rename_i kk nn xs cs hb;split at hd
    ·rename_i a2 k' mm ei;rw[ei]at hi;split at hd
     ·rename_i ti ht;split at hd
      ·rename_i n e hk;split at hd
       ·rename_i te N;split at hd
        ·rename_i X;cases hd;exact BX m (C.find ht) hk (C.find N) X D hb hi E hc
        ·cases hd
       ·cases hd
      ·cases hd
     ·cases hd
    ·cases hd
   ·cases hd
  ·rename_i id ex;rw[ex]at D;split at hd
   ·rename_i n sz cs hb;split at hd
    ·rename_i a2 k' mm ei;rw[ei]at hi;split at hd
     ·rename_i e te L;obtain⟨ti,h1,h2,h3⟩:=ij C L;split at hd
      ·rename_i X;subst X;cases hd;exact wV m h1 h2 h3 D hb hi E hc.1 hc.2
      ·cases hd
     ·cases hd
    ·cases hd
   ·cases hd
  ·cases hd
 ·-- binOp
  rename_i op t xo yo t' E;have D:=aV I xo;have J:=aV I yo;unfold Lv at hd;split at hd
  ·rename_i k n xs k2 n2 ys ex ey;rw[ex]at D;rw[ey]at J;split at hd
   ·rename_i ti ht;split at hd
    ·rename_i n' e hk;split at hd
     ·rename_i te N;split at hd
      ·rename_i k' aa;split at hd
       ·rename_i q;subst q;split at hd
        ·rename_i M;obtain⟨rfl,rfl,rfl⟩:=M;split at hd
         ·rename_i r hr;cases hd;simp only[V]at D J;obtain⟨vs,e1,l1,_⟩:=D;obtain⟨us,e2,l2,_⟩:=J;obtain rfl:=List.eq_nil_of_length_eq_zero l1;obtain rfl:=List.eq_nil_of_length_eq_zero l2;rw[List.append_nil]at e1 e2;obtain⟨z,h1,h2⟩:=qN (P:=P) (w:=w) (F:=Fr (own φ h) Bw w) (ρ:=ρ) (xo:=xo) (yo:=yo) hr (run_eqGuard_agg w op t xo yo _ _ hc) (Ew (C.find ht) hk (C.find N) aa xs ys) ⟨rfl,rfl⟩;exact Good.aG (v:=z) (w':=w) (by simp only[execOp,E,e1,e2];rw[Sem.run_bind,h1];rfl) (aF.pure m h2)
         ·cases hd
        ·cases hd
       ·cases hd
      ·cases hd
     ·cases hd
    ·cases hd
   ·cases hd
  ·rename_i β p a2 q ex ey;rw[ex]at D;rw[ey]at J;split at hd
   ·cases hd;exact rS m (.inl rfl) E D J
   ·cases hd;exact rS m (.inr (.inl rfl)) E D J
   ·cases hd;exact rS m (.inr (.inr (.inl rfl))) E D J
   ·cases hd;exact rS m (.inr (.inr (.inr rfl))) E D J
   ·cases hd
  ·cases hd
 ·-- convert
  rename_i st dt xo E;have D:=aV I xo;unfold G4 at hd;split at hd
  ·rename_i id ex;rw[ex]at D;split at hd
   ·rename_i et xs hi;split at hd
    ·rename_i ac;subst ac;split at hd
     ·rename_i ti a1;split at hd
      ·rename_i e hk;split at hd
       ·rename_i te N;split at hd
        ·rename_i ad;cases hd;exact xc m (C.find a1) hk (C.find N) ad D E hi hc
        ·cases hd
       ·cases hd
      ·cases hd
     ·cases hd
    ·cases hd
   ·cases hd
  ·rename_i β p ex;rw[ex]at D;split at hd
   ·rename_i si di ax b1;split at hd
    ·rename_i k hk;cases hd;exact BJ m (C.find ax) (C.find b1) hk E D hc
    ·cases hd
   ·cases hd
  ·cases hd
 ·-- slice
  rename_i t xo lo E;have D:=aV I xo;have hl:=aV I lo;unfold CV at hd;split at hd
  ·rename_i id ex;rw[ex]at D;split at hd
   ·rename_i be A xs Y;split at hd
    ·rename_i β k l el;rw[el]at hl;split at hd
     ·rename_i e te A' L;obtain⟨ti,h1,_,h2,h3,h4,h5⟩:=bY C L;cases hd;exact Ao m h1 h2 h3 E Y D hl hc.1 hc.2
     ·cases hd
    ·cases hd
   ·cases hd
  ·cases hd
 ·-- makeFunc
  rename_i fn first a6 E
  unfold IW at hd;split at hd
  ·rename_i f y ys ef ec;cases hd;have a7:a6 = #[]:=by
    cases a6 with
    | mk l=>cases l with
     | nil=>rfl
     | cons _ _=>simp at ec
   subst a7;have:=jk I first.toList
   rw[ef]at this;exact w9 m E this
  ·cases hd
 ·-- buildSlice
  rename_i t len ps E;unfold KS at hd;split at hd
  ·rename_i e te L;obtain⟨ti,h1,h2,h3⟩:=ij C L;split at hd
   ·rename_i M;cases hd;have:=jk I (ps.toList.map (·.2));simp only[List.map_map]at this;exact xh m hn h1 h2 h3 E M.2.1 this (fun x D=>by
     have:=(List.all_eq_true.1 M.2.2.1) x D;simp only[Bool.and_eq_true,beq_iff_eq]at this;exact this) M.2.2.2
   ·cases hd
  ·cases hd
 ·-- lookup
  rename_i t xo ko b8 E;have D:=aV I xo;have hk:=aV I ko;unfold Jk at hd;split at hd
  ·rename_i β k1 k2 kv a2 k' i ex ek;rw[ex]at D;rw[ek]at hk;split at hd
   ·rename_i ti ht;split at hd
    ·rename_i kt et b2;split at hd
     ·rename_i tk te b3 N;split at hd
      ·rename_i b9 b4;split at hd
       ·rename_i M;obtain⟨rfl,rfl,hT⟩:=M;cases hd;exact y4 m (C.find ht) b2 (C.find b3) b4 (C.find N) hT E D hk
       ·cases hd
      ·cases hd
     ·cases hd
    ·cases hd
   ·cases hd
  ·cases hd
 ·-- call
  rename_i c0 E;obtain⟨callee,args,a3⟩:=c0;cases callee with
  | builtin b =>
   cases b with
   | len =>
    simp only at hd;split at hd
    ·rename_i xo t ea et;have Z:args = #[xo]:=Array.ext' ea;have O:a3 = #[t]:=Array.ext' et;subst Z O;have D:=aV I xo;unfold Js at hd;split at hd
     ·rename_i id ex;rw[ex]at D;split at hd
      ·rename_i n sz cs hb;split at hd
       ·rename_i r L;obtain⟨e,te⟩:=r;obtain⟨ti,h1,h2,h3⟩:=ij C L;cases hd;exact Aj m h1 h2 D hb E
       ·cases hd
      ·cases hd
     ·cases hd
    ·cases hd
   | append =>
    simp only at hd;split at hd
    ·rename_i xo yo t u ea et;have Z:args = #[xo,yo]:=Array.ext' ea;have O:a3 = #[t,u]:=Array.ext' et;subst Z O;have D:=aV I xo;have J:=aV I yo;unfold J5 at hd;split at hd
     ·rename_i r hz;cases hd;unfold Gc at hz;split at hz
      ·rename_i β k1 n ey;split at hz
       ·rename_i e te A tu L a4;obtain⟨ti,h1,_,h2,h3,h4,h5⟩:=bY C L;split at hz
        ·rename_i k2 a5;split at hz
         ·rename_i ex;cases hz;rw[ey]at J;exact xI m hn h1 h2 h3 h4 h5 (C.find a4) a5 E D J (.inl ⟨ex,rfl,rfl,rfl⟩) hc.1 hc.2.1 hc.2.2
         ·rename_i id ex;split at hz
          ·rename_i e' B xs Y;split at hz
           ·rename_i q;subst q;split at hz
            ·rename_i he;subst he;cases hz;rw[ey]at J;exact xI m hn h1 h2 h3 h4 h5 (C.find a4) a5 E D J (.inr ⟨id,ex,Y,rfl,rfl⟩) hc.1 hc.2.1 hc.2.2
            ·cases hz
           ·cases hz
          ·cases hz
         ·cases hz
        ·cases hz
       ·cases hz
      ·cases hz
     ·unfold y5 at hd;split at hd
      ·rename_i β s0 ey;rw[ey]at J;split at hd
       ·rename_i tu a4;split at hd
        ·rename_i a5;split at hd
         ·rename_i ti a1;split at hd
          ·rename_i e hk;split at hd
           ·rename_i te N;split at hd
            ·rename_i M;split at hd
             ·rename_i ex;rw[ex]at D;cases hd;exact oQ m hn (C.find a1) hk (C.find a4) a5 (C.find N) M.1 M.2 D J E (.inl ⟨rfl,rfl,rfl,rfl⟩) hc
             ·rename_i id ex;rw[ex]at D;split at hd
              ·rename_i e' xs Y;split at hd
               ·rename_i he;subst he;cases hd;exact oQ m hn (C.find a1) hk (C.find a4) a5 (C.find N) M.1 M.2 D J E (.inr ⟨id,rfl,Y,rfl,rfl⟩) hc
               ·cases hd
              ·cases hd
             ·cases hd
            ·cases hd
           ·cases hd
          ·cases hd
         ·cases hd
        ·cases hd
       ·cases hd
      ·cases hd
    ·cases hd
   | clear =>
    simp only at hd;split at hd
    ·rename_i xo t ea et;have Z:args = #[xo]:=Array.ext' ea;have O:a3 = #[t]:=Array.ext' et;subst Z O;have D:=aV I xo;unfold Cr at hd;split at hd
     ·rename_i id ex;rw[ex]at D;split at hd
      ·rename_i K A kv Y;split at hd
       ·rename_i ti a1;split at hd
        ·rename_i kt O hk;cases hd;exact CE m (C.find a1) hk E Y D
        ·cases hd
       ·cases hd
      ·cases hd
     ·cases hd
    ·cases hd
   | cap =>
    simp only at hd;split at hd
    ·rename_i xo t ea et;have Z:args = #[xo]:=Array.ext' ea;have O:a3 = #[t]:=Array.ext' et;subst Z O;have D:=aV I xo;unfold KD at hd;split at hd
     ·rename_i ex;rw[ex]at D;split at hd
      ·rename_i ti a1;split at hd
       ·rename_i e hk;cases hd;exact Bt m (C.find a1) hk E D
       ·cases hd
      ·cases hd
     ·cases hd
    ·cases hd
   | copy =>
    simp only at hd;split at hd
    ·rename_i xo yo t t2 ea et;have Z:args = #[xo,yo]:=Array.ext' ea;have O:a3 = #[t,t2]:=Array.ext' et;subst Z O;have D:=aV I xo;have J:=aV I yo;unfold FD at hd;split at hd
     ·rename_i id lo sz ex;rw[ex]at D;split at hd
      ·rename_i e' B xs Y;split at hd
       ·rename_i e te A L;obtain⟨ti,h1,_,h2,h3,h4,h5⟩:=bY C L;split at hd
        ·rename_i ys b5;split at hd
         ·rename_i q;subst q;split at hd
          ·rename_i X;subst X;cases hd;exact yJ m h1 h2 h3 h4 D J E Y b5
          ·cases hd
         ·cases hd
        ·cases hd
       ·cases hd
      ·cases hd
     ·cases hd
    ·cases hd
   | _=>cases hd
  | value f =>
   simp only at hd;unfold Ed at hd;split at hd
   ·rename_i fid fs q ef;have hf:=aV I f;rw[ef]at hf;split at hd
    ·split at hd
     ·rename_i b6 hl;cases hd;exact Co m E hf (js (jk I args.toList)) hl hc
     ·cases hd
    ·cases hd
   ·cases hd
  | invoke _ _=>cases hd
 ·cases hd
theorem Hj(f:cb P tb)(m:Mem Bw w0 ρ φ h w)(v:eH n (Fr (own φ h) Bw w) ρ s a)(p:∀j,j<8→ρ (new+j)=none){o:Oper}{asm:Option Bool}{iE:Option wE}(q:dieOf iE=none){x:af}{u:gP}{c:Prop}
  (hd:EC P tb new asm iE o.op s h=some (x,u,c)) (hc:c):Good P o a w (aF Bw w0 ρ φ h w new x u):=by
 unfold EC at hd;split at hd
 ·rename_i r z;cases hd;exact E9 f m v (p 0 (by omega)) z hc
 split at hd
 ·rename_i r z;cases hd;exact Fg f m v (p 0 (by omega)) z hc
 ·exact E3 f m v p q hd hc
theorem HG(m:Mem Bw w0 ρ φ h w)(J:eH n (Fr (own φ h) Bw w) ρ s a)(B:∀j,j<8→ρ (new+j)=none){o:Oper}{asm:Option Bool}{iE:Option wE}{y:Value}(f:dying o.op iE=some y){x:af}{u:gP}{c:Prop}
  (hd:EC P tb new asm iE o.op s h=some (x,u,c)) (hc:c):KB P o a w y (fun L=>∃v,aF Bw w0 ρ φ h w new .unk u v L):=by
 refine Hq (tb:=tb) m J B f (x:=x) (u:=u) (c:=c) (asm:=asm) ?_ hc;unfold EC at hd;split at hd
 ·rename_i r p;exfalso
  unfold dying at f;split at f
  ·rename_i c0 q C;split at f
   ·rename_i M z;rw[C]at p;obtain⟨callee,args,D⟩:=c0;simp only at z;subst z;simp only[pJ]at p;cases p
   ·cases f
  ·cases f
 rename_i E;clear E;split at hd
 ·rename_i r p;exfalso
  unfold dying at f;split at f
  ·rename_i c0 q C;split at f
   ·rename_i M z;split at f
    ·rename_i A;simp only[Bool.and_eq_true]at A;rw[C]at p;obtain⟨callee,args,D⟩:=c0;simp only at z;subst z;simp only[iZ]at p;unfold Ed at p;split at p
     ·rename_i e;cases e;rw[if_neg (fun I=>by rw[A.1.1]at I;cases I.1)]at p;cases p
     ·cases p
    ·cases f
   ·cases f
  ·cases f
 ·exact hd
theorem CR{s I:Nat→af}{h h':Nat→Qz}{op:Op}{iE:Option wE}(B:∀x∈op.operands.toList,ev s x=ev I x)(key:∀x∈op.operands.toList,(¬((∃x,op = .move x)∨(∃x,op = .assign x)∨(∃x,op = .nilCheck x)∨∃t x f,op = .fieldAddr t x f))→∀i∈ids (ev s x),h i=h' i)
  (hl:∀c,op = .call c→∀V,(∀i∈bu V,∃x∈op.operands.toList,i∈ids (ev s x))→nT h V=nT h' V) (L:∀c,op = .call c→∀A,∀x∈op.operands.toList,eG h A (ev s x)=eG h' A (ev s x)) :
  iZ P tb new iE op s h=iZ P tb new iE op I h':=by
 cases op with
 | alloc t=>rfl
 | box t x=>simp only[iZ,B x (by simp[Op.operands])]
 | build t M =>
  simp only[iZ];have e:M.toList.map (fun p=>ev s p.2)=M.toList.map (fun p=>ev I p.2):=List.map_congr_left (fun p hp=>B p.2 (by simp only[Op.operands,List.mem_map];exact⟨p,hp,rfl⟩));rw[e]
 | load t x =>
  have C:=key x (by simp[Op.operands]) (by rintro(⟨_,e⟩ | ⟨_,e⟩ | ⟨_,e⟩ | ⟨_,_,_,e⟩) <;> cases e);simp only[iZ,←B x (by simp[Op.operands])];unfold F9;split
  ·rfl
  ·rename_i id n i ex;rw[C id (by rw[ex];simp[ids])]
  ·rename_i id i sz off ex;rw[C id (by rw[ex];simp[ids])]
  ·rfl
 | store t x y =>
  have C:=key x (by simp[Op.operands]) (by rintro(⟨_,e⟩ | ⟨_,e⟩ | ⟨_,e⟩ | ⟨_,_,_,e⟩) <;> cases e);simp only[iZ,←B x (by simp[Op.operands]),←B y (by simp[Op.operands])];unfold CH;split
  ·rename_i id n i ex;rw[C id (by rw[ex];simp[ids])]
  ·rename_i id i sz off ex;rw[C id (by rw[ex];simp[ids])]
  ·rfl
 | nilCheck x=>simp only[iZ,B x (by simp[Op.operands])]
 | fieldAddr t x f=>simp only[iZ,B x (by simp[Op.operands])]
 | field t x f=>simp only[iZ,B x (by simp[Op.operands])]
 | indexAddr t x i =>
  have C:=key x (by simp[Op.operands]) (by rintro(⟨_,e⟩ | ⟨_,e⟩ | ⟨_,e⟩ | ⟨_,_,_,e⟩) <;> cases e);simp only[iZ,←B x (by simp[Op.operands]),←B i (by simp[Op.operands])];unfold CD;split
  ·rfl
  ·rfl
  ·rename_i id j sz off ex;rw[C id (by rw[ex];simp[ids])]
  ·rename_i id ex;rw[C id (by rw[ex];simp[ids])]
  ·rfl
 | binOp o t x y t'=>simp only[iZ,B x (by simp[Op.operands]),B y (by simp[Op.operands])]
 | convert st dt x =>
  have C:=key x (by simp[Op.operands]) (by rintro(⟨_,e⟩ | ⟨_,e⟩ | ⟨_,e⟩ | ⟨_,_,_,e⟩) <;> cases e);simp only[iZ,←B x (by simp[Op.operands])];unfold G4;split
  ·rename_i id ex;rw[C id (by rw[ex];simp[ids])]
  ·rfl
  ·rfl
 | slice t x O hi mx =>
  cases O with
  | none=>rfl
  | some O =>
   cases hi with
   | some _=>rfl
   | none =>
    cases mx with
    | some _=>rfl
    | none =>
     have C:=key x (by simp[Op.operands]) (by rintro(⟨_,e⟩ | ⟨_,e⟩ | ⟨_,e⟩ | ⟨_,_,_,e⟩) <;> cases e);simp only[iZ,←B x (by simp[Op.operands]),←B O (by simp[Op.operands])];unfold CV;split
     ·rename_i id ex;rw[C id (by rw[ex];simp[ids])]
     ·rfl
 | makeFunc f Z cs =>
  simp only[iZ];rw[List.map_congr_left (l:=cs.toList) (f:=ev s) (g:=ev I) (fun p hp=>B p (by simp only[Op.operands,Array.toList_append,List.mem_append];exact .inr hp)),List.map_congr_left (l:=Z.toList) (f:=ev s) (g:=ev I) (fun p hp=>B p (by simp only[Op.operands,Array.toList_append,List.mem_append];exact .inl hp))]
 | buildSlice t len M =>
  simp only[iZ];have e:M.toList.map (fun p=>ev s p.2)=M.toList.map (fun p=>ev I p.2):=List.map_congr_left (fun p hp=>B p.2 (by simp only[Op.operands,List.mem_map];exact⟨p,hp,rfl⟩));rw[e]
 | lookup t x k a1=>simp only[iZ,B x (by simp[Op.operands]),B k (by simp[Op.operands])]
 | call c =>
  obtain⟨callee,args,J⟩:=c;have v:∀x∈args.toList,x∈(Op.call { callee,args,argTypes:=J }).operands.toList:=fun x C=>by simp only[Op.operands,Call.operands,Array.toList_append,List.mem_append];exact .inr C
  have e:args.toList.map (ev s)=args.toList.map (ev I):=List.map_congr_left (fun p hp=>B p (v p hp));cases callee with
  | builtin b =>
   cases b with
   | append =>
    simp only[iZ];split
    ·rename_i x y t u D _;have C:x∈args.toList:=by rw[D];simp
     have E:y∈args.toList:=by rw[D];simp
     rw[←B x (v x C),←B y (v y E)];have hk:=key x (v x C) (by rintro(⟨_,e⟩ | ⟨_,e⟩ | ⟨_,e⟩ | ⟨_,_,_,e⟩) <;> cases e);unfold J5;cases X:ev s x with
     | sl id =>
      unfold y5 Gc;dsimp only;rw[hk id (by rw[X];simp[ids])]
     | _=>rfl
    ·rfl
   | clear =>
    simp only[iZ];split
    ·rename_i x t D _;have C:x∈args.toList:=by rw[D];simp
     rw[←B x (v x C)];have hk:=key x (v x C) (by rintro(⟨_,e⟩ | ⟨_,e⟩ | ⟨_,e⟩ | ⟨_,_,_,e⟩) <;> cases e);unfold Cr;split
     ·rename_i id ex;rw[hk id (by rw[ex];simp[ids])]
     ·rfl
    ·rfl
   | cap =>
    simp only[iZ];split
    ·rename_i x t D _;have C:x∈args.toList:=by rw[D];simp
     rw[←B x (v x C)]
    ·rfl
   | len =>
    simp only[iZ];split
    ·rename_i x t D _;have C:x∈args.toList:=by rw[D];simp
     rw[←B x (v x C)];have hk:=key x (v x C) (by rintro(⟨_,e⟩ | ⟨_,e⟩ | ⟨_,e⟩ | ⟨_,_,_,e⟩) <;> cases e);unfold Js;split
     ·rename_i id ex;rw[hk id (by rw[ex];simp[ids])]
     ·rfl
    ·rfl
   | copy =>
    simp only[iZ];split
    ·rename_i x y t t2 D _;have C:x∈args.toList:=by rw[D];simp
     have E:y∈args.toList:=by rw[D];simp
     rw[←B x (v x C),←B y (v y E)];have hk:=key x (v x C) (by rintro(⟨_,e⟩ | ⟨_,e⟩ | ⟨_,e⟩ | ⟨_,_,_,e⟩) <;> cases e);unfold FD;split
     ·rename_i id O sz ex;rw[hk id (by rw[ex];simp[ids])];split
      ·split
       ·rename_i A _;rw[L _ rfl A y (v y E)]
       ·rfl
      ·rfl
     ·rfl
    ·rfl
   | _=>rfl
  | value f =>
   have hf:f∈(Op.call { callee:= .value f,args,argTypes:=J }).operands.toList:=by simp[Op.operands,Call.operands]
   simp only[iZ];rw[←B f hf,←e];unfold Ed;split
   ·rename_i fid Z q ef;split
    ·rw[hl _ rfl _ (fun i hi=>by
      obtain⟨y,E,hi⟩:=cE.1 hi;rw[List.mem_append]at E;rcases E with E | E
      ·exact⟨f,hf,by rw[ef];simp only[ids];exact cE.2 ⟨y,E,hi⟩⟩
      ·have N:i∈bu (gK tb (HP (some q)) J.toList (args.toList.map (ev s))):=cE.2 ⟨y,E,hi⟩;rw[nf]at N;obtain⟨z,hz,Y⟩:=cE.1 N;obtain⟨p,hp,rfl⟩:=List.mem_map.1 hz;exact⟨p,v p hp,Y⟩)]
    ·rfl
   ·rfl
  | invoke _ _=>rfl
 | _=>rfl
end
end Go.Tv
