import Derived.Test.YtobbjfkfmdiklaaGreatDoorTvL
import Derived.Test.YtobbjfkfmdiklaaGreatDoorTvKnm
namespace Go.Tv
open Go Go.RowKit
def LM(tb:bQ)(t:TypeId):Option (IntKind×Nat) :=
 match tb.find t with
 | some ti=>match ti.k with
  | .ar n e=>match tb.find e with
   | some f=>match f.k with
    | .int k=>if 16<n then some (k,n)else none
    | _=>none
   | none=>none
  | _=>none
 | none=>none
def JG(tb:bQ)(t:TypeId):Option (IntKind×Nat) :=
 match LM tb t with
 | some r=>some r
 | none=>match tb.find t with
  | some ti=>match ti.k with
   | .st ((0,e)::_)=>LM tb e
   | _=>none
  | none=>none
def Ty.NB:Ty→Bool
 | .prod (.arr _ _) _=>true
 | _=>false
def Ls(fl:Bool)(tb:bQ)(new:Nat)(t:TypeId)(len:Nat)(p:QV)(j:List af):XQ :=
 match zX tb t with
 | some (_,f)=>if(fl || f.T.isNone)=true∧p=List.range len∧j.all (fun x=>(cellsOf x).all af.cell && (cellsOf x).length == f.size)=true∧len*f.size≤16777216 then
   some (.sl new,[(new,some (.vrow len f.size (j.flatMap cellsOf)))],True)else none
 | none=>none
def KW(tb:bQ)(t:TypeId)(x:af)(h:Nat→Qz):XQ :=
 match x with
 | .sl id=>match h id with
  | some (.vrow n _ _)=>match zX tb t with
   | some _=>some (.p false (.int .i64) (n:Int),[],True)
   | none=>none
  | _=>none
 | _=>none
def JN(tb:bQ)(t:TypeId)(x k:af)(f:Bool):XQ :=
 match x,k with
 | .p _ (.mapi j u) z,.p _ (.int A) i=>match tb.find t with
  | some ti=>match ti.k with
   | .mp B C=>match tb.find B,tb.find C with
    | some D,some E=>match D.k with
     | .int q=>if q=j∧A=j∧E.T=some (.int u)then some (yV u f (bg (α:=Int) (.int j) z i),[],True)else none
     | _=>none
    | _,_=>none
   | _=>none
  | none=>none
 | _,_=>none
def zM(tb:bQ)(new:Nat)(t u:TypeId)(x y:af)(h:Nat→Qz):XQ :=
 match y with
 | .p _ .str s=>match tb.find u with
  | some z=>match z.k with
   | .str=>match tb.find t with
    | some ti=>match ti.k with
     | .sl e=>match tb.find e with
      | some j=>if j.T=some (.int .u8)∧j.bytes=1 then(match x with
       | .nils=>some (.sl new,[(new,some (.arr e (.int .u8) (bZ s)))],([]:QK).length+List.length (α:=UInt8) s≤140737488355328)
       | .sl id=>match h id with
        | some (.arr A (.int .u8) q)=>if A=e then some (.sl new,[(id,none),(new,some (.arr e (.int .u8) (List.append (α:=Int) q (bZ s))))],List.length (α:=Int) q+List.length (α:=UInt8) s≤140737488355328)else none
        | _=>none
       | _=>none)else none
      | none=>none
     | _=>none
    | none=>none
   | _=>none
  | none=>none
 | _=>none
def Gc(tb:bQ)(new:Nat)(t u:TypeId)(x y:af)(h:Nat→Qz):XQ :=
 match y with
 | .p _ (.int _) n=>match ij tb t,tb.find u with
  | some (e,z,A),some C=>match C.k with
   | .int _=>match x with
    | .nils=>some (.sl new,[(new,some (.arr e A (List.replicate (show Int from n).toNat A.zero)))],0≤(show Int from n)∧(([]:List A.den).length+(show Int from n).toNat)*z.bytes≤140737488355328∧([]:List A.den).length+(show Int from n).toNat≤9223372036854775807)
    | .sl id=>match h id with
     | some (.arr D B j)=>if q:B=A then(if D=e then some (.sl new,[(id,none),(new,some (.arr e A ((q ▸ j:List A.den)++List.replicate (show Int from n).toNat A.zero)))],0≤(show Int from n)∧((q ▸ j:List A.den).length+(show Int from n).toNat)*z.bytes≤140737488355328∧(q ▸ j:List A.den).length+(show Int from n).toNat≤9223372036854775807)else none)else none
     | _=>none
    | _=>none
   | _=>none
  | _,_=>none
 | _=>none
def J6(tb:bQ)(new:Nat)(t u:TypeId)(x y:af)(h:Nat→Qz):XQ :=
 match Gc tb new t u x y h with
 | some r=>some r
 | none=>zM tb new t u x y h
def C0(tb:bQ)(t:TypeId)(x:af)(h:Nat→Qz):XQ :=
 match x with
 | .mp id=>match h id with
  | some (.mpo K A _)=>match tb.find t with
   | some ti=>match ti.k with
    | .mp _ _=>some (.tup [],[(id,some (.mpo K A []))],True)
    | _=>none
   | none=>none
  | _=>none
 | _=>none
def LJ(tb:bQ)(t:TypeId)(x:af):XQ :=
 match x with
 | .nils=>match tb.find t with
  | some ti=>match ti.k with
   | .sl _=>some (.p false (.int .i64) (0:Int),[],True)
   | _=>none
  | none=>none
 | _=>none
def G2(tb:bQ)(new:Nat)(t:TypeId):XQ :=
 match JG tb t with
 | some (k,n)=>match tb.find t with
  | some ti=>if(ti.z.take n).all (Lm k)=true∧n≤ti.z.length then some (.adr new 0 ti.size 0,[(new,some (.lmp k n (dq n) (ti.z.drop n)))],True)else none
  | none=>none
 | none=>none
def LR(new:Nat)(x:af):XQ :=
 match x with
 | .lag k n j f=>some (.adr new 0 (n+f.length) 0,[(new,some (.lmp k n j f))],True)
 | _=>none
def GY(tb:bQ)(t:TypeId)(j:QV)(p:List af):XQ :=
 match JG tb t with
 | some (k,n)=>match oR tb t j p with
  | some (.agg f,[],c)=>if(f.take n).all (Lm k)=true∧n≤f.length then some (.lag k n (dq n) (f.drop n),[],c)else none
  | _=>none
 | none=>none
def Gq(tb:bQ)(t:TypeId)(x:af)(h:Nat→Qz):XQ :=
 match x with
 | .loc β T y=>match tb.find t with
  | some ti=>if ti.T=some T∧T.scalar=true then some (.p β T y,[],True)else none
  | none=>none
 | .ada id 0 n i=>match h id with
  | some (.lmp k u q _)=>match tb.find t with
   | some ti=>match ti.k with
    | .int z=>if u=n∧z=k then some (.p false (.int k) (fE q i),[],True)else none
    | _=>none
   | none=>none
  | _=>none
 | .adr id i sz off=>match h id with
  | some (.lmp k n q j)=>match tb.find t with
   | some ti=>if ti.k.agg=true∧i*sz+off=0∧ti.size=n+j.length then some (.lag k n q j,[],True)
    else if n≤i*sz+off then(match gn ti j (i*sz+off - n)with
     | some y=>some (y,[],True)
     | none=>none)else none
   | none=>none
  | some (.vrow _ _ j)=>match tb.find t with
   | some ti=>match gn ti j (i*sz+off)with
    | some y=>some (y,[],True)
    | none=>none
   | none=>none
  | _=>none
 | _=>none
def DL(tb:bQ)(t:TypeId)(x y:af)(h:Nat→Qz):XQ :=
 match x with
 | .ada id 0 n i=>match h id with
  | some (.lmp k u q j)=>match y with
   | .p _ (.int z) v=>match tb.find t with
    | some ti=>if u=n∧z=k∧ti.size=1 then some (.unk,[(id,some (.lmp k u (sf q i v) j))],True)else none
    | none=>none
   | _=>none
  | _=>none
 | .adr id i sz off=>match h id with
  | some (.lmp k n q j)=>match tb.find t with
   | some ti=>if(cellsOf y).all af.cell=true∧(cellsOf y).length=ti.size∧n≤i*sz+off∧i*sz+off - n+ti.size≤j.length then
     some (.unk,[(id,some (.lmp k n q (wr j (i*sz+off - n) (cellsOf y))))],True)else none
   | none=>none
  | _=>none
 | _=>none
def LS(x:af):XQ :=
 match x with
 | .loc β T y=>some (.loc β T y,[],True)
 | .p β (.ptr A) q=>if A.NB=true then some (.loc β A (q.getD A.zero),[],q.isSome=true)else none
 | _=>none
def Ig(tb:bQ)(t:TypeId)(x:af)(f:Nat):XQ :=
 match x with
 | .loc β T y=>match tb.find t with
  | some ti=>match ti.k with
   | .st j=>match j[f]? with
    | some (off,p)=>match tb.find p with
     | some q=>match q.T with
      | some T'=>match vH T' T y off with
       | some z=>some (.loc β T' z,[],True)
       | none=>none
      | none=>none
     | none=>none
    | none=>none
   | _=>none
  | none=>none
 | _=>none
def Ev(tb:bQ)(t:TypeId)(x:af)(f:Nat):XQ :=
 match x with
 | .agg j=>match tb.find t with
  | some ti=>match ti.k with
   | .st p=>match p[f]? with
    | some (off,q)=>match tb.find q with
     | some u=>match gn u j off with
      | some y=>some (y,[],True)
      | none=>none
     | none=>none
    | none=>none
   | _=>none
  | none=>none
 | _=>none
def Dj(tb:bQ)(t:TypeId)(x i:af)(h:Nat→Qz):XQ :=
 match x with
 | .p β (.slice (.arr k n)) u=>match i with
  | .p _ (.int _) m=>match ij tb t with
   | some (_,q,_)=>if n=q.size then some (.loc β (.arr k n) (u.getD (show Int from m).toNat (dq n)),[],0≤(show Int from m)∧(show Int from m)<u.length)else none
   | none=>none
  | _=>none
 | .loc β (.arr k n) u=>match i with
  | .p _ (.int _) m=>match tb.find t with
   | some ti=>match ti.k with
    | .ar z e=>match tb.find e with
     | some q=>if z=n∧q.size=1 then some (.loc β (.int k) (fE u (show Int from m).toNat),[],0≤(show Int from m)∧(show Int from m)<(n:Int))else none
     | none=>none
    | _=>none
   | none=>none
  | _=>none
 | .adr id j sz off=>match h id with
  | some (.lmp _ _ _ _)=>match i with
   | .p _ (.int _) m=>match tb.find t with
    | some ti=>match ti.k with
     | .ar n e=>match tb.find e with
      | some q=>if q.size=1 then some (.ada id (j*sz+off) n (show Int from m).toNat,[],0≤(show Int from m)∧(show Int from m)<(n:Int))else none
      | none=>none
     | _=>none
    | none=>none
   | _=>none
  | _=>none
 | .sl id=>match h id with
  | some (.vrow n sz _)=>match i with
   | .p _ (.int _) m=>match zX tb t with
    | some (_,q)=>if q.size=sz then some (.adr id (show Int from m).toNat sz 0,[],0≤(show Int from m)∧(show Int from m)<(n:Int))else none
    | none=>none
   | _=>none
  | _=>none
 | _=>none
def Mh(P:Program)(tb:bQ)(op:BinOp)(t:TypeId)(x y:af):XQ :=
 match x,y with
 | .lag k n f [],.lag j u z []=>match tb.find t with
  | some ti=>match ti.k with
   | .ar A e=>match tb.find e with
    | some B=>match B.k with
     | .int C=>if q:u=n then(if A=n∧j=k∧C=k then(match Hr op (Im f (q ▸ z))with
      | some r=>some (r,[],P.eqGuardType P.depth t=false)
      | none=>none)else none)else none
     | _=>none
    | none=>none
   | _=>none
  | none=>none
 | .p _ .flt a,.p _ .flt b=>match op with
  | .add=>some (.p false .flt (bR .add a b),[],True)
  | .sub=>some (.p false .flt (bR .sub a b),[],True)
  | .mul=>some (.p false .flt (bR .mul a b),[],True)
  | .quo=>some (.p false .flt (bR .quo a b),[],True)
  | _=>none
 | _,_=>none
def Gg(tb:bQ)(st q:TypeId)(x:af)(h:Nat→Qz):XQ :=
 match x with
 | .sl id=>match h id with
  | some (.arr u (.int .u8) j)=>if q=st then(match tb.find st with
   | some ti=>match ti.k with
    | .sl e=>match tb.find e with
     | some z=>match z.k with
      | .int .u8=>some (.sl id,[(id,some (.bytes u j)),(id,some (.bytes u j))],0<j.length)
      | _=>none
     | none=>none
    | _=>none
   | none=>none)else none
  | _=>none
 | .p _ .flt a=>match tb.find st,tb.find q with
  | some _,some A=>match A.k with
   | .int k=>some (.p false (.int k) ((ox a).getD 0),[],(ox a).isSome=true∧k.min≤(ox a).getD 0∧(ox a).getD 0≤k.max)
   | _=>none
  | _,_=>none
 | _=>none
def CE(tb:bQ)(t:TypeId)(x j:af)(h:Nat→Qz):XQ :=
 match x with
 | .sl id=>match h id with
  | some (.arr _ _ q)=>match j with
   | .p _ (.int _) l=>match ij tb t with
    | some (_,u,_)=>some (.suf id (show Int from l).toNat u.size,[],0≤(show Int from l)∧(show Int from l)≤q.length)
    | none=>none
   | _=>none
  | _=>none
 | _=>none
def F3(tb:bQ)(t:TypeId)(x y:af)(h:Nat→Qz):XQ :=
 match x with
 | .suf id j sz=>match h id with
  | some (.arr C B u)=>match ij tb t with
   | some (_,D,A)=>match eL h A y with
    | some z=>if q:B=A then(if sz=D.size then some (.p false (.int .i64) ((min z.length ((q ▸ u:List A.den).length - j):Nat):Int),[(id,some (.arr C A ((q ▸ u:List A.den).take j++(z.take ((q ▸ u:List A.den).length - j)++(q ▸ u:List A.den).drop (j+z.length)))))],True)else none)else none
    | none=>none
   | none=>none
  | _=>none
 | _=>none
def DV(P:Program)(iR:Option vE)(f:af)(j:List af)(h:Nat→Qz):XQ :=
 match f,iR with
 | .bfn fid p,some q=>if q.own=false∧q.die=none∧q.fl.any (fun b=>b)=false then(match om h (p++j)with
  | some args=>some (q.r,[],Pure P fid args q.r)
  | none=>none)else none
 | _,_=>none
def JS(fn:Fn)(first j:List af):XQ :=
 match fn,first,j with
 | .func f,x::p,[]=>some (.bfn f (x::p),[],True)
 | _,_,_=>none
def jr(P:Program)(tb:bQ)(new:Nat)(iR:Option vE)(op:Op)(s:Nat→af)(h:Nat→Qz):XQ :=
 match op with
 | .alloc t=>G2 tb new t
 | .box _ x=>LR new (ev s x)
 | .build t j=>GY tb t (j.toList.map (·.1)) (j.toList.map fun p=>ev s p.2)
 | .load t x=>Gq tb t (ev s x) h
 | .store t x y=>DL tb t (ev s x) (ev s y) h
 | .nilCheck x=>LS (ev s x)
 | .fieldAddr t x f=>Ig tb t (ev s x) f
 | .field t x f=>Ev tb t (ev s x) f
 | .indexAddr t x i=>Dj tb t (ev s x) (ev s i) h
 | .binOp op t x y _=>Mh P tb op t (ev s x) (ev s y)
 | .convert st A x=>Gg tb st A (ev s x) h
 | .slice t x (some B) none none=>CE tb t (ev s x) (ev s B) h
 | .makeFunc fn first q=>JS fn (first.toList.map (ev s)) (q.toList.map (ev s))
 | .buildSlice t len j=>Ls iR.isSome tb new t len (j.toList.map (·.1)) (j.toList.map fun p=>ev s p.2)
 | .lookup t x k z=>JN tb t (ev s x) (ev s k) z
 | .call c=>match c.callee with
  | .builtin .len=>match c.args.toList,c.argTypes.toList with
   | [x],[t]=>KW tb t (ev s x) h
   | _,_=>none
  | .builtin .append=>match c.args.toList,c.argTypes.toList with
   | [x,y],[t,u]=>J6 tb new t u (ev s x) (ev s y) h
   | _,_=>none
  | .builtin .clear=>match c.args.toList,c.argTypes.toList with
   | [x],[t]=>C0 tb t (ev s x) h
   | _,_=>none
  | .builtin .cap=>match c.args.toList,c.argTypes.toList with
   | [x],[t]=>LJ tb t (ev s x)
   | _,_=>none
  | .builtin .copy=>match c.args.toList,c.argTypes.toList with
   | [x,y],[t,_]=>F3 tb t (ev s x) (ev s y) h
   | _,_=>none
  | .value f=>DV P iR (ev s f) (gX tb (I5 iR) c.argTypes.toList (c.args.toList.map (ev s))) h
  | _=>none
 | _=>none
def FJ(P:Program)(tb:bQ)(new:Nat)(asm:Option Bool)(iR:Option vE)(op:Op)(s:Nat→af)(h:Nat→Qz):XQ :=
 match pU tb new iR.isSome op s h with
 | some r=>some r
 | none=>match jr P tb new iR op s h with
  | some r=>some r
  | none=>gU P tb new asm iR op s h
theorem Good.imp{P:Program}{o:Oper}{a:Act}{w:World}{p q:Value→World→Prop}(h:Good P o a w p)(j:∀v w',p v w'→q v w'):Good P o a w q:=fun K Q hk=>h K Q fun v w' hp=>hk v w' (j v w' hp)
section
variable{P:Program}{tb:bQ}{Bw:Nat→Prop}{w0:cr P}{ρ:Nat→QW}{φ:Nat→Nat→Prop}{h:Nat→Qz}{w:World}{new:Nat}{n:NS}{s:Nat→af}{a:Act}
theorem aF.val(f:af→af){x:af}(B:∀F ρ v,V F ρ x v→V F ρ (f x) v){u:gZ}{v:Value}{w':World}(hp:aF Bw w0 ρ φ h w new x u v w'):aF Bw w0 ρ φ h w new (f x) u v w':=by
 obtain⟨j,z,C,D,E,I,J⟩:=hp;exact⟨j,z,C,D,E,I,B _ _ _ J⟩
theorem ya(f:cb P tb)(m:Mem Bw w0 ρ φ h w)(A:eP n (Fr (own φ h) Bw w) ρ s a){o:Oper}{t:TypeId}{q:Array (Nat×Operand)}(ho:o.op = .build t q){x:af}{u:gZ}{c:Prop}
  (hd:oR tb t (q.toList.map (·.1)) (q.toList.map fun p=>ev s p.2)=some (x,u,c)):Good P o a w (aF Bw w0 ρ φ h w new x u):=by
 unfold oR at hd;split at hd
 ·rename_i ti ht;split at hd
  ·rename_i C hk;split at hd
   ·rename_i B j;cases hd;have:=jG A (q.toList.map (·.2));simp only[List.map_map]at this;exact wW m f (f.find ht) hk ho this j
   ·cases hd
  ·rename_i n e hk;split at hd
   ·rename_i D z;split at hd
    ·rename_i B j;cases hd;have:=jG A (q.toList.map (·.2));simp only[List.map_map]at this;exact ue m f (f.find ht) hk (f.find z) ho this j
    ·cases hd
   ·cases hd
  ·cases hd
 ·cases hd
theorem FU(C:cb P tb)(m:Mem Bw w0 ρ φ h w)(E:eP n (Fr (own φ h) Bw w) ρ s a)(hn:ρ new=none){o:Oper}{iR:Option vE}{x:af}{u:gZ}{c:Prop}
  (hd:jr P tb new iR o.op s h=some (x,u,c)) (hc:c):Good P o a w (aF Bw w0 ρ φ h w new x u):=by
 unfold jr at hd;split at hd
 ·-- alloc
  rename_i t ho;unfold G2 at hd;split at hd
  ·split at hd
   ·rename_i ti ht;split at hd
    ·rename_i hz;cases hd;exact AJ m hn (C.find ht) ho hz.1 hz.2
    ·cases hd
   ·cases hd
  ·cases hd
 ·-- box
  rename_i t xo ho;unfold LR at hd;split at hd
  ·rename_i k n xs cs ex;have D:=aV E xo;rw[ex]at D;cases hd;exact EX m hn D ho _
  ·cases hd
 ·-- build
  rename_i t ps ho;unfold GY at hd;split at hd
  ·split at hd
   ·rename_i ds c' hb;split at hd
    ·rename_i hz;cases hd;refine(ya (new:=new) C m E ho hb).imp fun v w' hp=>?_
     exact aF.val (fun _=> .lag _ _ (dq _) (ds.drop _)) (fun F ρ v hv=>Er hz.1 hz.2 hv) hp
    ·cases hd
   ·cases hd
  ·cases hd
 ·-- load
  rename_i t xo ho;have D:=aV E xo;unfold Gq at hd;split at hd
  ·rename_i β T y ex;rw[ex]at D;split at hd
   ·rename_i ti ht;split at hd
    ·rename_i hT;cases hd;exact zW m (C.find ht) D ho hT.1 hT.2
    ·cases hd
   ·cases hd
  ·rename_i id n i ex;rw[ex]at D;split at hd
   ·rename_i k n' xs cs hb;split at hd
    ·rename_i ti ht;split at hd
     ·rename_i k2 hk;split at hd
      ·rename_i L;obtain⟨rfl,rfl⟩:=L;cases hd;exact DA m (C.find ht) hk D ho hb
      ·cases hd
     ·cases hd
    ·cases hd
   ·cases hd
  ·rename_i id i sz off ex;rw[ex]at D;split at hd
   ·rename_i k n xs cs hb;split at hd
    ·rename_i ti ht;split at hd
     ·rename_i L;cases hd;exact Bt m (C.find ht) L.1 D ho hb L.2.1 L.2.2
     ·split at hd
      ·rename_i L;split at hd
       ·rename_i y I;cases hd;exact Ci m (C.find ht) D ho hb (by omega) I
       ·cases hd
      ·cases hd
    ·cases hd
   ·rename_i n b6 cs hb;split at hd
    ·rename_i ti ht;split at hd
     ·rename_i y I;cases hd;exact zE m (C.find ht) D ho hb I
     ·cases hd
    ·cases hd
   ·cases hd
  ·cases hd
 ·-- store
  rename_i t xo yo ho;have D:=aV E xo;have I:=aV E yo;unfold DL at hd;split at hd
  ·rename_i id n i ex;rw[ex]at D;split at hd
   ·rename_i k n' xs cs hb;split at hd
    ·rename_i β k2 v ey;rw[ey]at I;split at hd
     ·rename_i ti ht;split at hd
      ·rename_i L;obtain⟨rfl,rfl,a7⟩:=L;cases hd;exact Be m (C.find ht) a7 D I ho hb
      ·cases hd
     ·cases hd
    ·cases hd
   ·cases hd
  ·rename_i id i sz off ex;rw[ex]at D;split at hd
   ·rename_i k n xs cs hb;split at hd
    ·rename_i ti ht;split at hd
     ·rename_i L;obtain⟨q1,q2,q3,q4⟩:=L;cases hd;exact y6 m (C.find ht) D I q1 ho hb q2 (by omega) q4
     ·cases hd
    ·cases hd
   ·cases hd
  ·cases hd
 ·-- nilCheck
  rename_i xo ho;have D:=aV E xo;unfold LS at hd;split at hd
  ·rename_i β T y ex;rw[ex]at D;cases hd;exact zy m D ho
  ·rename_i β A q ex;rw[ex]at D;split at hd
   ·cases hd;exact BY m D ho hc
   ·cases hd
  ·cases hd
 ·-- fieldAddr
  rename_i t xo f ho;have D:=aV E xo;unfold Ig at hd;split at hd
  ·rename_i β T y ex;rw[ex]at D;split at hd
   ·rename_i ti ht;split at hd
    ·rename_i fs hk;split at hd
     ·rename_i off ft hf;split at hd
      ·split at hd
       ·split at hd
        ·rename_i z hz;cases hd;exact xn m (C.find ht) D ho hk hf hz
        ·cases hd
       ·cases hd
      ·cases hd
     ·cases hd
    ·cases hd
   ·cases hd
  ·cases hd
 ·-- field
  rename_i t xo f ho;have D:=aV E xo;unfold Ev at hd;split at hd
  ·rename_i cs ex;rw[ex]at D;split at hd
   ·rename_i ti ht;split at hd
    ·rename_i fs hk;split at hd
     ·rename_i off ft hf;split at hd
      ·rename_i fi a8;split at hd
       ·rename_i y I;cases hd;exact DM m (C.find ht) D ho hk hf (C.find a8) I
       ·cases hd
      ·cases hd
     ·cases hd
    ·cases hd
   ·cases hd
  ·cases hd
 ·-- indexAddr
  rename_i t xo io ho;have D:=aV E xo;have hi:=aV E io;unfold Dj at hd;split at hd
  ·rename_i β k n xs ex;rw[ex]at D;split at hd
   ·rename_i a1 k' mm ei;rw[ei]at hi;split at hd
    ·rename_i e te A J;obtain⟨ti,h1,_,h2,h3,h4,h5⟩:=bX C J;split at hd
     ·rename_i O;cases hd;exact sW m h1 h2 h3 D hi ho O hc.1 hc.2
     ·cases hd
    ·cases hd
   ·cases hd
  ·rename_i β k n xs ex;rw[ex]at D;split at hd
   ·rename_i a1 k' mm ei;rw[ei]at hi;split at hd
    ·rename_i ti ht;split at hd
     ·rename_i n' e hk;split at hd
      ·rename_i te M;split at hd
       ·rename_i L;obtain⟨rfl,O⟩:=L;cases hd;exact xU m (C.find ht) hk (C.find M) O D hi ho hc.1 hc.2
       ·cases hd
      ·cases hd
     ·cases hd
    ·cases hd
   ·cases hd
  ·rename_i id j sz off ex;rw[ex]at D;split at hd
   ·rename_i kk nn xs cs hb;split at hd
    ·rename_i a1 k' mm ei;rw[ei]at hi;split at hd
     ·rename_i ti ht;split at hd
      ·rename_i n e hk;split at hd
       ·rename_i te M;split at hd
        ·rename_i O;cases hd;exact Bv m (C.find ht) hk (C.find M) O D hb hi ho hc
        ·cases hd
       ·cases hd
      ·cases hd
     ·cases hd
    ·cases hd
   ·cases hd
  ·rename_i id ex;rw[ex]at D;split at hd
   ·rename_i n sz cs hb;split at hd
    ·rename_i a1 k' mm ei;rw[ei]at hi;split at hd
     ·rename_i e te J;obtain⟨ti,h1,h2,h3⟩:=ix C J;split at hd
      ·rename_i O;subst O;cases hd;exact xQ m h1 h2 h3 D hb hi ho hc.1 hc.2
      ·cases hd
     ·cases hd
    ·cases hd
   ·cases hd
  ·cases hd
 ·-- binOp
  rename_i op t xo yo t' ho;have D:=aV E xo;have I:=aV E yo;unfold Mh at hd;split at hd
  ·rename_i k n xs k2 n2 ys ex ey;rw[ex]at D;rw[ey]at I;split at hd
   ·rename_i ti ht;split at hd
    ·rename_i n' e hk;split at hd
     ·rename_i te M;split at hd
      ·rename_i k' a9;split at hd
       ·rename_i q;subst q;split at hd
        ·rename_i L;obtain⟨rfl,rfl,rfl⟩:=L;split at hd
         ·rename_i r hr;cases hd;simp only[V]at D I;obtain⟨vs,e1,l1,_⟩:=D;obtain⟨us,e2,l2,_⟩:=I;obtain rfl:=List.eq_nil_of_length_eq_zero l1;obtain rfl:=List.eq_nil_of_length_eq_zero l2;rw[List.append_nil]at e1 e2;obtain⟨z,h1,h2⟩:=rf (P:=P) (w:=w) (F:=Fr (own φ h) Bw w) (ρ:=ρ) (xo:=xo) (yo:=yo) hr (run_eqGuard_agg w op t xo yo _ _ hc) (E4 (C.find ht) hk (C.find M) a9 xs ys) ⟨rfl,rfl⟩;exact Good.aG (v:=z) (w':=w) (by simp only[execOp,ho,e1,e2];rw[Sem.run_bind,h1];rfl) (aF.pure m h2)
         ·cases hd
        ·cases hd
       ·cases hd
      ·cases hd
     ·cases hd
    ·cases hd
   ·cases hd
  ·rename_i β p a1 q ex ey;rw[ex]at D;rw[ey]at I;split at hd
   ·cases hd;exact so m (.inl rfl) ho D I
   ·cases hd;exact so m (.inr (.inl rfl)) ho D I
   ·cases hd;exact so m (.inr (.inr (.inl rfl))) ho D I
   ·cases hd;exact so m (.inr (.inr (.inr rfl))) ho D I
   ·cases hd
  ·cases hd
 ·-- convert
  rename_i st dt xo ho;have D:=aV E xo;unfold Gg at hd;split at hd
  ·rename_i id ex;rw[ex]at D;split at hd
   ·rename_i et xs hi;split at hd
    ·rename_i aa;subst aa;split at hd
     ·rename_i ti Z;split at hd
      ·rename_i e hk;split at hd
       ·rename_i te M;split at hd
        ·rename_i ac;cases hd;exact xw m (C.find Z) hk (C.find M) ac D ho hi hc
        ·cases hd
       ·cases hd
      ·cases hd
     ·cases hd
    ·cases hd
   ·cases hd
  ·rename_i β p ex;rw[ex]at D;split at hd
   ·rename_i si di ad ax;split at hd
    ·rename_i k hk;cases hd;exact Au m (C.find ad) (C.find ax) hk ho D hc
    ·cases hd
   ·cases hd
  ·cases hd
 ·-- slice
  rename_i t xo lo ho;have D:=aV E xo;have hl:=aV E lo;unfold CE at hd;split at hd
  ·rename_i id ex;rw[ex]at D;split at hd
   ·rename_i be A xs X;split at hd
    ·rename_i β k l el;rw[el]at hl;split at hd
     ·rename_i e te A' J;obtain⟨ti,h1,_,h2,h3,h4,h5⟩:=bX C J;cases hd;exact AA m h1 h2 h3 ho X D hl hc.1 hc.2
     ·cases hd
    ·cases hd
   ·cases hd
  ·cases hd
 ·-- makeFunc
  rename_i fn first a5 ho
  unfold JS at hd;split at hd
  ·rename_i f y ys ef ec;cases hd;have a6:a5 = #[]:=by
    cases a5 with
    | mk l=>cases l with
     | nil=>rfl
     | cons _ _=>simp at ec
   subst a6;have:=jG E first.toList
   rw[ef]at this;exact xK m ho this
  ·cases hd
 ·-- buildSlice
  rename_i t len ps ho;unfold Ls at hd;split at hd
  ·rename_i e te J;obtain⟨ti,h1,h2,h3⟩:=ix C J;split at hd
   ·rename_i L;cases hd;have:=jG E (ps.toList.map (·.2));simp only[List.map_map]at this;exact xM m hn h1 h2 h3 ho L.2.1 this (fun x D=>by
     have:=(List.all_eq_true.1 L.2.2.1) x D;simp only[Bool.and_eq_true,beq_iff_eq]at this;exact this) L.2.2.2
   ·cases hd
  ·cases hd
 ·-- lookup
  rename_i t xo ko b7 ho;have D:=aV E xo;have hk:=aV E ko;unfold JN at hd;split at hd
  ·rename_i β k1 k2 kv a1 k' i ex ek;rw[ex]at D;rw[ek]at hk;split at hd
   ·rename_i ti ht;split at hd
    ·rename_i kt et b1;split at hd
     ·rename_i tk te b2 M;split at hd
      ·rename_i b8 b3;split at hd
       ·rename_i L;obtain⟨rfl,rfl,hT⟩:=L;cases hd;exact yX m (C.find ht) b1 (C.find b2) b3 (C.find M) hT ho D hk
       ·cases hd
      ·cases hd
     ·cases hd
    ·cases hd
   ·cases hd
  ·cases hd
 ·-- call
  rename_i c0 ho;obtain⟨callee,args,a2⟩:=c0;cases callee with
  | builtin b =>
   cases b with
   | len =>
    simp only at hd;split at hd
    ·rename_i xo t ea et;have Y:args = #[xo]:=Array.ext' ea;have N:a2 = #[t]:=Array.ext' et;subst Y N;have D:=aV E xo;unfold KW at hd;split at hd
     ·rename_i id ex;rw[ex]at D;split at hd
      ·rename_i n sz cs hb;split at hd
       ·rename_i r J;obtain⟨e,te⟩:=r;obtain⟨ti,h1,h2,h3⟩:=ix C J;cases hd;exact BZ m h1 h2 D hb ho
       ·cases hd
      ·cases hd
     ·cases hd
    ·cases hd
   | append =>
    simp only at hd;split at hd
    ·rename_i xo yo t u ea et;have Y:args = #[xo,yo]:=Array.ext' ea;have N:a2 = #[t,u]:=Array.ext' et;subst Y N;have D:=aV E xo;have I:=aV E yo;unfold J6 at hd;split at hd
     ·rename_i r hz;cases hd;unfold Gc at hz;split at hz
      ·rename_i β k1 n ey;split at hz
       ·rename_i e te A tu J a3;obtain⟨ti,h1,_,h2,h3,h4,h5⟩:=bX C J;split at hz
        ·rename_i k2 a4;split at hz
         ·rename_i ex;cases hz;rw[ey]at I;exact yb m hn h1 h2 h3 h4 h5 (C.find a3) a4 ho D I (.inl ⟨ex,rfl,rfl,rfl⟩) hc.1 hc.2.1 hc.2.2
         ·rename_i id ex;split at hz
          ·rename_i e' B xs X;split at hz
           ·rename_i q;subst q;split at hz
            ·rename_i he;subst he;cases hz;rw[ey]at I;exact yb m hn h1 h2 h3 h4 h5 (C.find a3) a4 ho D I (.inr ⟨id,ex,X,rfl,rfl⟩) hc.1 hc.2.1 hc.2.2
            ·cases hz
           ·cases hz
          ·cases hz
         ·cases hz
        ·cases hz
       ·cases hz
      ·cases hz
     ·unfold zM at hd;split at hd
      ·rename_i β s0 ey;rw[ey]at I;split at hd
       ·rename_i tu a3;split at hd
        ·rename_i a4;split at hd
         ·rename_i ti Z;split at hd
          ·rename_i e hk;split at hd
           ·rename_i te M;split at hd
            ·rename_i L;split at hd
             ·rename_i ex;rw[ex]at D;cases hd;exact oH m hn (C.find Z) hk (C.find a3) a4 (C.find M) L.1 L.2 D I ho (.inl ⟨rfl,rfl,rfl,rfl⟩) hc
             ·rename_i id ex;rw[ex]at D;split at hd
              ·rename_i e' xs X;split at hd
               ·rename_i he;subst he;cases hd;exact oH m hn (C.find Z) hk (C.find a3) a4 (C.find M) L.1 L.2 D I ho (.inr ⟨id,rfl,X,rfl,rfl⟩) hc
               ·cases hd
              ·cases hd
             ·cases hd
            ·cases hd
           ·cases hd
          ·cases hd
         ·cases hd
        ·cases hd
       ·cases hd
      ·cases hd
    ·cases hd
   | clear =>
    simp only at hd;split at hd
    ·rename_i xo t ea et;have Y:args = #[xo]:=Array.ext' ea;have N:a2 = #[t]:=Array.ext' et;subst Y N;have D:=aV E xo;unfold C0 at hd;split at hd
     ·rename_i id ex;rw[ex]at D;split at hd
      ·rename_i K A kv X;split at hd
       ·rename_i ti Z;split at hd
        ·rename_i kt N hk;cases hd;exact Dl m (C.find Z) hk ho X D
        ·cases hd
       ·cases hd
      ·cases hd
     ·cases hd
    ·cases hd
   | cap =>
    simp only at hd;split at hd
    ·rename_i xo t ea et;have Y:args = #[xo]:=Array.ext' ea;have N:a2 = #[t]:=Array.ext' et;subst Y N;have D:=aV E xo;unfold LJ at hd;split at hd
     ·rename_i ex;rw[ex]at D;split at hd
      ·rename_i ti Z;split at hd
       ·rename_i e hk;cases hd;exact A2 m (C.find Z) hk ho D
       ·cases hd
      ·cases hd
     ·cases hd
    ·cases hd
   | copy =>
    simp only at hd;split at hd
    ·rename_i xo yo t t2 ea et;have Y:args = #[xo,yo]:=Array.ext' ea;have N:a2 = #[t,t2]:=Array.ext' et;subst Y N;have D:=aV E xo;have I:=aV E yo;unfold F3 at hd;split at hd
     ·rename_i id lo sz ex;rw[ex]at D;split at hd
      ·rename_i e' B xs X;split at hd
       ·rename_i e te A J;obtain⟨ti,h1,_,h2,h3,h4,h5⟩:=bX C J;split at hd
        ·rename_i ys b4;split at hd
         ·rename_i q;subst q;split at hd
          ·rename_i O;subst O;cases hd;exact zZ m h1 h2 h3 h4 D I ho X b4
          ·cases hd
         ·cases hd
        ·cases hd
       ·cases hd
      ·cases hd
     ·cases hd
    ·cases hd
   | _=>cases hd
  | value f =>
   simp only at hd;unfold DV at hd;split at hd
   ·rename_i fid fs q ef;have hf:=aV E f;rw[ef]at hf;split at hd
    ·split at hd
     ·rename_i b5 hl;cases hd;exact Dg m ho hf (jK (jG E args.toList)) hl hc
     ·cases hd
    ·cases hd
   ·cases hd
  | invoke _ _=>cases hd
 ·cases hd
theorem Ik(f:cb P tb)(m:Mem Bw w0 ρ φ h w)(v:eP n (Fr (own φ h) Bw w) ρ s a)(p:∀j,j<8→ρ (new+j)=none){o:Oper}{asm:Option Bool}{iR:Option vE}(q:dieOf iR=none){x:af}{u:gZ}{c:Prop}
  (hd:FJ P tb new asm iR o.op s h=some (x,u,c)) (hc:c):Good P o a w (aF Bw w0 ρ φ h w new x u):=by
 unfold FJ at hd;split at hd
 ·rename_i r z;cases hd;exact FL f m v (p 0 (by omega)) z hc
 split at hd
 ·rename_i r z;cases hd;exact FU f m v (p 0 (by omega)) z hc
 ·exact Fk f m v p q hd hc
theorem I7(m:Mem Bw w0 ρ φ h w)(I:eP n (Fr (own φ h) Bw w) ρ s a)(B:∀j,j<8→ρ (new+j)=none){o:Oper}{asm:Option Bool}{iR:Option vE}{y:Value}(f:dying o.op iR=some y){x:af}{u:gZ}{c:Prop}
  (hd:FJ P tb new asm iR o.op s h=some (x,u,c)) (hc:c):Lr P o a w y (fun J=>∃v,aF Bw w0 ρ φ h w new .unk u v J):=by
 refine HE (tb:=tb) m I B f (x:=x) (u:=u) (c:=c) (asm:=asm) ?_ hc;unfold FJ at hd;split at hd
 ·rename_i r p;exfalso
  unfold dying at f;split at f
  ·rename_i c0 q ho;split at f
   ·rename_i L z;rw[ho]at p;obtain⟨callee,args,C⟩:=c0;simp only at z;subst z;simp only[pU]at p;cases p
   ·cases f
  ·cases f
 rename_i D;clear D;split at hd
 ·rename_i r p;exfalso
  unfold dying at f;split at f
  ·rename_i c0 q ho;split at f
   ·rename_i L z;split at f
    ·rename_i A;simp only[Bool.and_eq_true]at A;rw[ho]at p;obtain⟨callee,args,C⟩:=c0;simp only at z;subst z;simp only[jr]at p;unfold DV at p;split at p
     ·rename_i e;cases e;rw[if_neg (fun E=>by rw[A.1.1]at E;cases E.1)]at p;cases p
     ·cases p
    ·cases f
   ·cases f
  ·cases f
 ·exact hd
theorem C4{s I:Nat→af}{h h':Nat→Qz}{op:Op}{iR:Option vE}(B:∀x∈op.operands.toList,ev s x=ev I x)(key:∀x∈op.operands.toList,(¬((∃x,op = .move x)∨(∃x,op = .assign x)∨(∃x,op = .nilCheck x)∨∃t x f,op = .fieldAddr t x f))→∀i∈ids (ev s x),h i=h' i)
  (hl:∀c,op = .call c→∀V,(∀i∈bu V,∃x∈op.operands.toList,i∈ids (ev s x))→om h V=om h' V) (L:∀c,op = .call c→∀A,∀x∈op.operands.toList,eL h A (ev s x)=eL h' A (ev s x)) :
  jr P tb new iR op s h=jr P tb new iR op I h':=by
 cases op with
 | alloc t=>rfl
 | box t x=>simp only[jr,B x (by simp[Op.operands])]
 | build t M =>
  simp only[jr];have e:M.toList.map (fun p=>ev s p.2)=M.toList.map (fun p=>ev I p.2):=List.map_congr_left (fun p hp=>B p.2 (by simp only[Op.operands,List.mem_map];exact⟨p,hp,rfl⟩));rw[e]
 | load t x =>
  have C:=key x (by simp[Op.operands]) (by rintro(⟨_,e⟩ | ⟨_,e⟩ | ⟨_,e⟩ | ⟨_,_,_,e⟩) <;> cases e);simp only[jr,←B x (by simp[Op.operands])];unfold Gq;split
  ·rfl
  ·rename_i id n i ex;rw[C id (by rw[ex];simp[ids])]
  ·rename_i id i sz off ex;rw[C id (by rw[ex];simp[ids])]
  ·rfl
 | store t x y =>
  have C:=key x (by simp[Op.operands]) (by rintro(⟨_,e⟩ | ⟨_,e⟩ | ⟨_,e⟩ | ⟨_,_,_,e⟩) <;> cases e);simp only[jr,←B x (by simp[Op.operands]),←B y (by simp[Op.operands])];unfold DL;split
  ·rename_i id n i ex;rw[C id (by rw[ex];simp[ids])]
  ·rename_i id i sz off ex;rw[C id (by rw[ex];simp[ids])]
  ·rfl
 | nilCheck x=>simp only[jr,B x (by simp[Op.operands])]
 | fieldAddr t x f=>simp only[jr,B x (by simp[Op.operands])]
 | field t x f=>simp only[jr,B x (by simp[Op.operands])]
 | indexAddr t x i =>
  have C:=key x (by simp[Op.operands]) (by rintro(⟨_,e⟩ | ⟨_,e⟩ | ⟨_,e⟩ | ⟨_,_,_,e⟩) <;> cases e);simp only[jr,←B x (by simp[Op.operands]),←B i (by simp[Op.operands])];unfold Dj;split
  ·rfl
  ·rfl
  ·rename_i id j sz off ex;rw[C id (by rw[ex];simp[ids])]
  ·rename_i id ex;rw[C id (by rw[ex];simp[ids])]
  ·rfl
 | binOp o t x y t'=>simp only[jr,B x (by simp[Op.operands]),B y (by simp[Op.operands])]
 | convert st dt x =>
  have C:=key x (by simp[Op.operands]) (by rintro(⟨_,e⟩ | ⟨_,e⟩ | ⟨_,e⟩ | ⟨_,_,_,e⟩) <;> cases e);simp only[jr,←B x (by simp[Op.operands])];unfold Gg;split
  ·rename_i id ex;rw[C id (by rw[ex];simp[ids])]
  ·rfl
  ·rfl
 | slice t x O hi mx =>
  cases O with
  | none=>rfl
  | some O =>
   cases hi with
   | some _=>rfl
   | none =>
    cases mx with
    | some _=>rfl
    | none =>
     have C:=key x (by simp[Op.operands]) (by rintro(⟨_,e⟩ | ⟨_,e⟩ | ⟨_,e⟩ | ⟨_,_,_,e⟩) <;> cases e);simp only[jr,←B x (by simp[Op.operands]),←B O (by simp[Op.operands])];unfold CE;split
     ·rename_i id ex;rw[C id (by rw[ex];simp[ids])]
     ·rfl
 | makeFunc f Z cs =>
  simp only[jr];rw[List.map_congr_left (l:=cs.toList) (f:=ev s) (g:=ev I) (fun p hp=>B p (by simp only[Op.operands,Array.toList_append,List.mem_append];exact .inr hp)),List.map_congr_left (l:=Z.toList) (f:=ev s) (g:=ev I) (fun p hp=>B p (by simp only[Op.operands,Array.toList_append,List.mem_append];exact .inl hp))]
 | buildSlice t len M =>
  simp only[jr];have e:M.toList.map (fun p=>ev s p.2)=M.toList.map (fun p=>ev I p.2):=List.map_congr_left (fun p hp=>B p.2 (by simp only[Op.operands,List.mem_map];exact⟨p,hp,rfl⟩));rw[e]
 | lookup t x k a1=>simp only[jr,B x (by simp[Op.operands]),B k (by simp[Op.operands])]
 | call c =>
  obtain⟨callee,args,J⟩:=c;have v:∀x∈args.toList,x∈(Op.call { callee,args,argTypes:=J }).operands.toList:=fun x C=>by simp only[Op.operands,Call.operands,Array.toList_append,List.mem_append];exact .inr C
  have e:args.toList.map (ev s)=args.toList.map (ev I):=List.map_congr_left (fun p hp=>B p (v p hp));cases callee with
  | builtin b =>
   cases b with
   | append =>
    simp only[jr];split
    ·rename_i x y t u D _;have C:x∈args.toList:=by rw[D];simp
     have E:y∈args.toList:=by rw[D];simp
     rw[←B x (v x C),←B y (v y E)];have hk:=key x (v x C) (by rintro(⟨_,e⟩ | ⟨_,e⟩ | ⟨_,e⟩ | ⟨_,_,_,e⟩) <;> cases e);unfold J6;cases X:ev s x with
     | sl id =>
      unfold zM Gc;dsimp only;rw[hk id (by rw[X];simp[ids])]
     | _=>rfl
    ·rfl
   | clear =>
    simp only[jr];split
    ·rename_i x t D _;have C:x∈args.toList:=by rw[D];simp
     rw[←B x (v x C)];have hk:=key x (v x C) (by rintro(⟨_,e⟩ | ⟨_,e⟩ | ⟨_,e⟩ | ⟨_,_,_,e⟩) <;> cases e);unfold C0;split
     ·rename_i id ex;rw[hk id (by rw[ex];simp[ids])]
     ·rfl
    ·rfl
   | cap =>
    simp only[jr];split
    ·rename_i x t D _;have C:x∈args.toList:=by rw[D];simp
     rw[←B x (v x C)]
    ·rfl
   | len =>
    simp only[jr];split
    ·rename_i x t D _;have C:x∈args.toList:=by rw[D];simp
     rw[←B x (v x C)];have hk:=key x (v x C) (by rintro(⟨_,e⟩ | ⟨_,e⟩ | ⟨_,e⟩ | ⟨_,_,_,e⟩) <;> cases e);unfold KW;split
     ·rename_i id ex;rw[hk id (by rw[ex];simp[ids])]
     ·rfl
    ·rfl
   | copy =>
    simp only[jr];split
    ·rename_i x y t t2 D _;have C:x∈args.toList:=by rw[D];simp
     have E:y∈args.toList:=by rw[D];simp
     rw[←B x (v x C),←B y (v y E)];have hk:=key x (v x C) (by rintro(⟨_,e⟩ | ⟨_,e⟩ | ⟨_,e⟩ | ⟨_,_,_,e⟩) <;> cases e);unfold F3;split
     ·rename_i id O sz ex;rw[hk id (by rw[ex];simp[ids])];split
      ·split
       ·rename_i A _;rw[L _ rfl A y (v y E)]
       ·rfl
      ·rfl
     ·rfl
    ·rfl
   | _=>rfl
  | value f =>
   have hf:f∈(Op.call { callee:= .value f,args,argTypes:=J }).operands.toList:=by simp[Op.operands,Call.operands]
   simp only[jr];rw[←B f hf,←e];unfold DV;split
   ·rename_i fid Z q ef;split
    ·rw[hl _ rfl _ (fun i hi=>by
      obtain⟨y,E,hi⟩:=cD.1 hi;rw[List.mem_append]at E;rcases E with E | E
      ·exact⟨f,hf,by rw[ef];simp only[ids];exact cD.2 ⟨y,E,hi⟩⟩
      ·have N:i∈bu (gX tb (I5 (some q)) J.toList (args.toList.map (ev s))):=cD.2 ⟨y,E,hi⟩;rw[nw]at N;obtain⟨z,hz,Y⟩:=cD.1 N;obtain⟨p,hp,rfl⟩:=List.mem_map.1 hz;exact⟨p,v p hp,Y⟩)]
    ·rfl
   ·rfl
  | invoke _ _=>rfl
 | _=>rfl
end
end Go.Tv
