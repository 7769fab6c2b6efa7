import Derived.Test.YtbedjpdfkmfplaaGreatDoorTvL
import Derived.Test.YtbedjpdfkmfplaaGreatDoorTvKnm
namespace Go.Tv
open Go Go.RowKit
def Ns(tb:bQ)(t:TypeId):Option (IntKind×Nat) :=
 match tb.find t with
 | some ti=>match ti.k with
  | .ar n e=>match tb.find e with
   | some f=>match f.k with
    | .int k=>if 16<n then some (k,n)else none
    | _=>none
   | none=>none
  | _=>none
 | none=>none
def Lf(tb:bQ)(t:TypeId):Option (IntKind×Nat) :=
 match Ns tb t with
 | some r=>some r
 | none=>match tb.find t with
  | some ti=>match ti.k with
   | .st ((0,e)::_)=>Ns tb e
   | _=>none
  | none=>none
def Ty.O2:Ty→Bool
 | .prod (.arr _ _) _=>true
 | _=>false
def M8(fl:Bool)(tb:bQ)(new:Nat)(t:TypeId)(len:Nat)(j:QV)(f:List ag):XQ :=
 match Be tb t with
 | some (_,e)=>if(fl || e.T.isNone)=true∧j=List.range len∧f.all (fun x=>(cellsOf x).all ag.cell && (cellsOf x).length == e.size)=true∧len*e.size≤16777216 then
   some (.sl new,[(new,some (.vrow len e.size (f.flatMap cellsOf)))],True)else none
 | none=>none
def Mu(tb:bQ)(t:TypeId)(x:ag)(h:Nat→Qz):XQ :=
 match x with
 | .sl id=>match h id with
  | some (.vrow n _ _)=>match Be tb t with
   | some _=>some (.p false (.int .i64) (n:Int),[],True)
   | none=>none
  | _=>none
 | _=>none
def Lm(tb:bQ)(t:TypeId)(x k:ag)(e:Bool):XQ :=
 match x,k with
 | .p _ (.mapi f q) u,.p _ (.int z) i=>match tb.find t with
  | some ti=>match ti.k with
   | .mp A B=>match tb.find A,tb.find B with
    | some C,some D=>match C.k with
     | .int j=>if j=f∧z=f∧D.T=some (.int q)then some (A8 q e (aT (α:=Int) (.int f) u i),[],True)else none
     | _=>none
    | _,_=>none
   | _=>none
  | none=>none
 | _,_=>none
def Am(tb:bQ)(new:Nat)(t u:TypeId)(x y:ag)(h:Nat→Qz):XQ :=
 match y with
 | .p _ .str s=>match tb.find u with
  | some z=>match z.k with
   | .str=>match tb.find t with
    | some ti=>match ti.k with
     | .sl e=>match tb.find e with
      | some j=>if j.T=some (.int .u8)∧j.bytes=1 then(match x with
       | .nils=>some (.sl new,[(new,some (.arr e (.int .u8) (cf s)))],([]:QK).length+List.length (α:=UInt8) s≤140737488355328)
       | .sl id=>match h id with
        | some (.arr A (.int .u8) q)=>if A=e then some (.sl new,[(id,none),(new,some (.arr e (.int .u8) (List.append (α:=Int) q (cf s))))],List.length (α:=Int) q+List.length (α:=UInt8) s≤140737488355328)else none
        | _=>none
       | _=>none)else none
      | none=>none
     | _=>none
    | none=>none
   | _=>none
  | none=>none
 | _=>none
def IQ(tb:bQ)(new:Nat)(t u:TypeId)(x y:ag)(h:Nat→Qz):XQ :=
 match y with
 | .p _ (.int _) n=>match iH tb t,tb.find u with
  | some (e,z,A),some C=>match C.k with
   | .int _=>match x with
    | .nils=>some (.sl new,[(new,some (.arr e A (List.replicate (show Int from n).toNat A.zero)))],0≤(show Int from n)∧(([]:List A.den).length+(show Int from n).toNat)*z.bytes≤140737488355328∧([]:List A.den).length+(show Int from n).toNat≤9223372036854775807)
    | .sl id=>match h id with
     | some (.arr D B j)=>if q:B=A then(if D=e then some (.sl new,[(id,none),(new,some (.arr e A ((q ▸ j:List A.den)++List.replicate (show Int from n).toNat A.zero)))],0≤(show Int from n)∧((q ▸ j:List A.den).length+(show Int from n).toNat)*z.bytes≤140737488355328∧(q ▸ j:List A.den).length+(show Int from n).toNat≤9223372036854775807)else none)else none
     | _=>none
    | _=>none
   | _=>none
  | _,_=>none
 | _=>none
def L3(tb:bQ)(new:Nat)(t u:TypeId)(x y:ag)(h:Nat→Qz):XQ :=
 match IQ tb new t u x y h with
 | some r=>some r
 | none=>Am tb new t u x y h
def EV(tb:bQ)(t:TypeId)(x:ag)(h:Nat→Qz):XQ :=
 match x with
 | .mp id=>match h id with
  | some (.mpo K A _)=>match tb.find t with
   | some ti=>match ti.k with
    | .mp _ _=>some (.tup [],[(id,some (.mpo K A []))],True)
    | _=>none
   | none=>none
  | _=>none
 | _=>none
def MY(tb:bQ)(t:TypeId)(x:ag):XQ :=
 match x with
 | .nils=>match tb.find t with
  | some ti=>match ti.k with
   | .sl _=>some (.p false (.int .i64) (0:Int),[],True)
   | _=>none
  | none=>none
 | _=>none
def IV(tb:bQ)(new:Nat)(t:TypeId):XQ :=
 match Lf tb t with
 | some (k,n)=>match tb.find t with
  | some ti=>if(ti.z.take n).all (MD k)=true∧n≤ti.z.length then some (.adr new 0 ti.size 0,[(new,some (.lmp k n (dC n) (ti.z.drop n)))],True)else none
  | none=>none
 | none=>none
def M7(new:Nat)(x:ag):XQ :=
 match x with
 | .lag k n f e=>some (.adr new 0 (n+e.length) 0,[(new,some (.lmp k n f e))],True)
 | _=>none
def H7(tb:bQ)(t:TypeId)(f:QV)(j:List ag):XQ :=
 match Lf tb t with
 | some (k,n)=>match pD tb t f j with
  | some (.agg e,[],c)=>if(e.take n).all (MD k)=true∧n≤e.length then some (.lag k n (dC n) (e.drop n),[],c)else none
  | _=>none
 | none=>none
def IG(tb:bQ)(t:TypeId)(x:ag)(h:Nat→Qz):XQ :=
 match x with
 | .loc β T y=>match tb.find t with
  | some ti=>if ti.T=some T∧T.scalar=true then some (.p β T y,[],True)else none
  | none=>none
 | .ada id 0 n i=>match h id with
  | some (.lmp k q j _)=>match tb.find t with
   | some ti=>match ti.k with
    | .int u=>if q=n∧u=k then some (.p false (.int k) (fR j i),[],True)else none
    | _=>none
   | none=>none
  | _=>none
 | .adr id i sz off=>match h id with
  | some (.lmp k n j e)=>match tb.find t with
   | some ti=>if ti.k.agg=true∧i*sz+off=0∧ti.size=n+e.length then some (.lag k n j e,[],True)
    else if n≤i*sz+off then(match fk ti e (i*sz+off - n)with
     | some y=>some (y,[],True)
     | none=>none)else none
   | none=>none
  | some (.vrow _ _ e)=>match tb.find t with
   | some ti=>match fk ti e (i*sz+off)with
    | some y=>some (y,[],True)
    | none=>none
   | none=>none
  | _=>none
 | _=>none
def Ew(tb:bQ)(t:TypeId)(x y:ag)(h:Nat→Qz):XQ :=
 match x with
 | .ada id 0 n i=>match h id with
  | some (.lmp k q j e)=>match y with
   | .p _ (.int u) v=>match tb.find t with
    | some ti=>if q=n∧u=k∧ti.size=1 then some (.unk,[(id,some (.lmp k q (uh j i v) e))],True)else none
    | none=>none
   | _=>none
  | _=>none
 | .adr id i sz off=>match h id with
  | some (.lmp k n j e)=>match tb.find t with
   | some ti=>if(cellsOf y).all ag.cell=true∧(cellsOf y).length=ti.size∧n≤i*sz+off∧i*sz+off - n+ti.size≤e.length then
     some (.unk,[(id,some (.lmp k n j (wr e (i*sz+off - n) (cellsOf y))))],True)else none
   | none=>none
  | _=>none
 | _=>none
def NJ(x:ag):XQ :=
 match x with
 | .loc β T y=>some (.loc β T y,[],True)
 | .p β (.ptr A) q=>if A.O2=true then some (.loc β A (q.getD A.zero),[],q.isSome=true)else none
 | _=>none
def Jb(tb:bQ)(t:TypeId)(x:ag)(f:Nat):XQ :=
 match x with
 | .loc β T y=>match tb.find t with
  | some ti=>match ti.k with
   | .st e=>match e[f]? with
    | some (off,j)=>match tb.find j with
     | some q=>match q.T with
      | some T'=>match xH T' T y off with
       | some z=>some (.loc β T' z,[],True)
       | none=>none
      | none=>none
     | none=>none
    | none=>none
   | _=>none
  | none=>none
 | _=>none
def Fx(tb:bQ)(t:TypeId)(x:ag)(f:Nat):XQ :=
 match x with
 | .agg e=>match tb.find t with
  | some ti=>match ti.k with
   | .st j=>match j[f]? with
    | some (off,q)=>match tb.find q with
     | some u=>match fk u e off with
      | some y=>some (y,[],True)
      | none=>none
     | none=>none
    | none=>none
   | _=>none
  | none=>none
 | _=>none
def Ea(tb:bQ)(t:TypeId)(x i:ag)(h:Nat→Qz):XQ :=
 match x with
 | .p β (.slice (.arr k n)) u=>match i with
  | .p _ (.int _) m=>match iH tb t with
   | some (_,q,_)=>if n=q.size then some (.loc β (.arr k n) (u.getD (show Int from m).toNat (dC n)),[],0≤(show Int from m)∧(show Int from m)<u.length)else none
   | none=>none
  | _=>none
 | .loc β (.arr k n) u=>match i with
  | .p _ (.int _) m=>match tb.find t with
   | some ti=>match ti.k with
    | .ar z e=>match tb.find e with
     | some q=>if z=n∧q.size=1 then some (.loc β (.int k) (fR u (show Int from m).toNat),[],0≤(show Int from m)∧(show Int from m)<(n:Int))else none
     | none=>none
    | _=>none
   | none=>none
  | _=>none
 | .adr id j sz off=>match h id with
  | some (.lmp _ _ _ _)=>match i with
   | .p _ (.int _) m=>match tb.find t with
    | some ti=>match ti.k with
     | .ar n e=>match tb.find e with
      | some q=>if q.size=1 then some (.ada id (j*sz+off) n (show Int from m).toNat,[],0≤(show Int from m)∧(show Int from m)<(n:Int))else none
      | none=>none
     | _=>none
    | none=>none
   | _=>none
  | _=>none
 | .sl id=>match h id with
  | some (.vrow n sz _)=>match i with
   | .p _ (.int _) m=>match Be tb t with
    | some (_,q)=>if q.size=sz then some (.adr id (show Int from m).toNat sz 0,[],0≤(show Int from m)∧(show Int from m)<(n:Int))else none
    | none=>none
   | _=>none
  | _=>none
 | _=>none
def MR(P:Program)(tb:bQ)(op:BinOp)(t:TypeId)(x y:ag):XQ :=
 match x,y with
 | .lag k n f [],.lag j u z []=>match tb.find t with
  | some ti=>match ti.k with
   | .ar A e=>match tb.find e with
    | some B=>match B.k with
     | .int C=>if q:u=n then(if A=n∧j=k∧C=k then(match Ii op (JN f (q ▸ z))with
      | some r=>some (r,[],P.eqGuardType P.depth t=false)
      | none=>none)else none)else none
     | _=>none
    | none=>none
   | _=>none
  | none=>none
 | .p _ .flt a,.p _ .flt b=>match op with
  | .add=>some (.p false .flt (bX .add a b),[],True)
  | .sub=>some (.p false .flt (bX .sub a b),[],True)
  | .mul=>some (.p false .flt (bX .mul a b),[],True)
  | .quo=>some (.p false .flt (bX .quo a b),[],True)
  | _=>none
 | _,_=>none
def JC(tb:bQ)(st q:TypeId)(x:ag)(h:Nat→Qz):XQ :=
 match x with
 | .sl id=>match h id with
  | some (.arr u (.int .u8) j)=>if q=st then(match tb.find st with
   | some ti=>match ti.k with
    | .sl e=>match tb.find e with
     | some z=>match z.k with
      | .int .u8=>some (.sl id,[(id,some (.bytes u j)),(id,some (.bytes u j))],0<j.length)
      | _=>none
     | none=>none
    | _=>none
   | none=>none)else none
  | _=>none
 | .p _ .flt a=>match tb.find st,tb.find q with
  | some _,some A=>match A.k with
   | .int k=>some (.p false (.int k) ((pf a).getD 0),[],(pf a).isSome=true∧k.min≤(pf a).getD 0∧(pf a).getD 0≤k.max)
   | _=>none
  | _,_=>none
 | _=>none
def Fl(tb:bQ)(t:TypeId)(x e:ag)(h:Nat→Qz):XQ :=
 match x with
 | .sl id=>match h id with
  | some (.arr _ _ j)=>match e with
   | .p _ (.int _) l=>match iH tb t with
    | some (_,q,_)=>some (.suf id (show Int from l).toNat q.size,[],0≤(show Int from l)∧(show Int from l)≤j.length)
    | none=>none
   | _=>none
  | _=>none
 | _=>none
def Ji(tb:bQ)(t:TypeId)(x y:ag)(h:Nat→Qz):XQ :=
 match x with
 | .suf id e sz=>match h id with
  | some (.arr z B j)=>match iH tb t with
   | some (_,C,A)=>match fp h A y with
    | some u=>if q:B=A then(if sz=C.size then some (.p false (.int .i64) ((min u.length ((q ▸ j:List A.den).length - e):Nat):Int),[(id,some (.arr z A ((q ▸ j:List A.den).take e++(u.take ((q ▸ j:List A.den).length - e)++(q ▸ j:List A.den).drop (e+u.length)))))],True)else none)else none
    | none=>none
   | none=>none
  | _=>none
 | _=>none
def FW(P:Program)(jg:Option yt)(f:ag)(e:List ag)(h:Nat→Qz):XQ :=
 match f,jg with
 | .bfn fid j,some q=>if q.own=false∧q.die=none∧q.fl.any (fun b=>b)=false then(match o5 h (j++e)with
  | some args=>some (q.r,[],Pure P fid args q.r)
  | none=>none)else none
 | _,_=>none
def Ld(fn:Fn)(first e:List ag):XQ :=
 match fn,first,e with
 | .func f,x::j,[]=>some (.bfn f (x::j),[],True)
 | _,_,_=>none
def jE(P:Program)(tb:bQ)(new:Nat)(jg:Option yt)(op:Op)(s:Nat→ag)(h:Nat→Qz):XQ :=
 match op with
 | .alloc t=>IV tb new t
 | .box _ x=>M7 new (ev s x)
 | .build t e=>H7 tb t (e.toList.map (·.1)) (e.toList.map fun p=>ev s p.2)
 | .load t x=>IG tb t (ev s x) h
 | .store t x y=>Ew tb t (ev s x) (ev s y) h
 | .nilCheck x=>NJ (ev s x)
 | .fieldAddr t x f=>Jb tb t (ev s x) f
 | .field t x f=>Fx tb t (ev s x) f
 | .indexAddr t x i=>Ea tb t (ev s x) (ev s i) h
 | .binOp op t x y _=>MR P tb op t (ev s x) (ev s y)
 | .convert st z x=>JC tb st z (ev s x) h
 | .slice t x (some A) none none=>Fl tb t (ev s x) (ev s A) h
 | .makeFunc fn first j=>Ld fn (first.toList.map (ev s)) (j.toList.map (ev s))
 | .buildSlice t len e=>M8 jg.isSome tb new t len (e.toList.map (·.1)) (e.toList.map fun p=>ev s p.2)
 | .lookup t x k q=>Lm tb t (ev s x) (ev s k) q
 | .call c=>match c.callee with
  | .builtin .len=>match c.args.toList,c.argTypes.toList with
   | [x],[t]=>Mu tb t (ev s x) h
   | _,_=>none
  | .builtin .append=>match c.args.toList,c.argTypes.toList with
   | [x,y],[t,u]=>L3 tb new t u (ev s x) (ev s y) h
   | _,_=>none
  | .builtin .clear=>match c.args.toList,c.argTypes.toList with
   | [x],[t]=>EV tb t (ev s x) h
   | _,_=>none
  | .builtin .cap=>match c.args.toList,c.argTypes.toList with
   | [x],[t]=>MY tb t (ev s x)
   | _,_=>none
  | .builtin .copy=>match c.args.toList,c.argTypes.toList with
   | [x,y],[t,_]=>Ji tb t (ev s x) (ev s y) h
   | _,_=>none
  | .value f=>FW P jg (ev s f) (il tb (KP jg) c.argTypes.toList (c.args.toList.map (ev s))) h
  | _=>none
 | _=>none
def GK(P:Program)(tb:bQ)(new:Nat)(asm:Option Bool)(jg:Option yt)(op:Op)(s:Nat→ag)(h:Nat→Qz):XQ :=
 match qJ tb new jg.isSome op s h with
 | some r=>some r
 | none=>match jE P tb new jg op s h with
  | some r=>some r
  | none=>im P tb new asm jg op s h
theorem Good.imp{P:Program}{o:Oper}{a:Act}{w:World}{p q:Value→World→Prop}(h:Good P o a w p)(j:∀v w',p v w'→q v w'):Good P o a w q:=fun K Q hk=>h K Q fun v w' z=>hk v w' (j v w' z)
section
variable{P:Program}{tb:bQ}{Bw:Nat→Prop}{w0:cE P}{ρ:Nat→QW}{φ:Nat→Nat→Prop}{h:Nat→Qz}{w:World}{new:Nat}{n:NS}{s:Nat→ag}{a:Act}
theorem aG.val(f:ag→ag){x:ag}(B:∀F ρ v,V F ρ x v→V F ρ (f x) v){u:iu}{v:Value}{w':World}(C:aG Bw w0 ρ φ h w new x u v w'):aG Bw w0 ρ φ h w new (f x) u v w':=by
 obtain⟨j,z,D,E,I,J,L⟩:=C;exact⟨j,z,D,E,I,J,B _ _ _ L⟩
theorem yG(f:bY P tb)(m:Mem Bw w0 ρ φ h w)(A:bV n (Fr (own φ h) Bw w) ρ s a){o:Oper}{t:TypeId}{q:Array (Nat×Operand)}(B:o.op = .build t q){x:ag}{u:iu}{c:Prop}
  (hd:pD tb t (q.toList.map (·.1)) (q.toList.map fun p=>ev s p.2)=some (x,u,c)):Good P o a w (aG Bw w0 ρ φ h w new x u):=by
 unfold pD at hd;split at hd
 ·rename_i ti ht;split at hd
  ·rename_i D hk;split at hd
   ·rename_i C j;cases hd;have:=jM A (q.toList.map (·.2));simp only[List.map_map]at this;exact xJ m f (f.find ht) hk B this j
   ·cases hd
  ·rename_i n e hk;split at hd
   ·rename_i E z;split at hd
    ·rename_i C j;cases hd;have:=jM A (q.toList.map (·.2));simp only[List.map_map]at this;exact uO m f (f.find ht) hk (f.find z) B this j
    ·cases hd
   ·cases hd
  ·cases hd
 ·cases hd
theorem G4(C:bY P tb)(m:Mem Bw w0 ρ φ h w)(I:bV n (Fr (own φ h) Bw w) ρ s a)(hn:ρ new=none){o:Oper}{jg:Option yt}{x:ag}{u:iu}{c:Prop}
  (hd:jE P tb new jg o.op s h=some (x,u,c)) (X:c):Good P o a w (aG Bw w0 ρ φ h w new x u):=by
 unfold jE at hd;split at hd
 ·-- alloc
  rename_i t E;unfold IV at hd;split at hd
  ·split at hd
   ·rename_i ti ht;split at hd
    ·rename_i hz;cases hd;exact Cf m hn (C.find ht) E hz.1 hz.2
    ·cases hd
   ·cases hd
  ·cases hd
 ·-- box
  rename_i t xo E;unfold M7 at hd;split at hd
  ·rename_i k n Z cs ex;have D:=ba I xo;rw[ex]at D;cases hd;exact HC m hn D E _
  ·cases hd
 ·-- build
  rename_i t ps E;unfold H7 at hd;split at hd
  ·split at hd
   ·rename_i ds c' hb;split at hd
    ·rename_i hz;cases hd;refine(yG (new:=new) C m I E hb).imp fun v w' hp=>?_
     exact aG.val (fun _=> .lag _ _ (dC _) (ds.drop _)) (fun F ρ v hv=>Fy hz.1 hz.2 hv) hp
    ·cases hd
   ·cases hd
  ·cases hd
 ·-- load
  rename_i t xo E;have D:=ba I xo;unfold IG at hd;split at hd
  ·rename_i β T y ex;rw[ex]at D;split at hd
   ·rename_i ti ht;split at hd
    ·rename_i hT;cases hd;exact AZ m (C.find ht) D E hT.1 hT.2
    ·cases hd
   ·cases hd
  ·rename_i id n i ex;rw[ex]at D;split at hd
   ·rename_i k n' Z cs hb;split at hd
    ·rename_i ti ht;split at hd
     ·rename_i k2 hk;split at hd
      ·rename_i J;obtain⟨rfl,rfl⟩:=J;cases hd;exact Ei m (C.find ht) hk D E hb
      ·cases hd
     ·cases hd
    ·cases hd
   ·cases hd
  ·rename_i id i sz off ex;rw[ex]at D;split at hd
   ·rename_i k n Z cs hb;split at hd
    ·rename_i ti ht;split at hd
     ·rename_i J;cases hd;exact DA m (C.find ht) J.1 D E hb J.2.1 J.2.2
     ·split at hd
      ·rename_i J;split at hd
       ·rename_i y M;cases hd;exact BY m (C.find ht) D E hb (by omega) M
       ·cases hd
      ·cases hd
    ·cases hd
   ·rename_i n b8 cs hb;split at hd
    ·rename_i ti ht;split at hd
     ·rename_i y M;cases hd;exact A2 m (C.find ht) D E hb M
     ·cases hd
    ·cases hd
   ·cases hd
  ·cases hd
 ·-- store
  rename_i t xo yo E;have D:=ba I xo;have M:=ba I yo;unfold Ew at hd;split at hd
  ·rename_i id n i ex;rw[ex]at D;split at hd
   ·rename_i k n' Z cs hb;split at hd
    ·rename_i β k2 v ey;rw[ey]at M;split at hd
     ·rename_i ti ht;split at hd
      ·rename_i J;obtain⟨rfl,rfl,aa⟩:=J;cases hd;exact Dy m (C.find ht) aa D M E hb
      ·cases hd
     ·cases hd
    ·cases hd
   ·cases hd
  ·rename_i id i sz off ex;rw[ex]at D;split at hd
   ·rename_i k n Z cs hb;split at hd
    ·rename_i ti ht;split at hd
     ·rename_i J;obtain⟨q1,q2,q3,q4⟩:=J;cases hd;exact AM m (C.find ht) D M q1 E hb q2 (by omega) q4
     ·cases hd
    ·cases hd
   ·cases hd
  ·cases hd
 ·-- nilCheck
  rename_i xo E;have D:=ba I xo;unfold NJ at hd;split at hd
  ·rename_i β T y ex;rw[ex]at D;cases hd;exact AY m D E
  ·grind (splits:=6) (ematch:=4) [Bu]
  ·cases hd
 ·-- fieldAddr
  rename_i t xo f E;have D:=ba I xo;unfold Jb at hd;split at hd
  ·rename_i β T y ex;rw[ex]at D;split at hd
   ·rename_i ti ht;split at hd
    ·rename_i fs hk;split at hd
     ·rename_i off ft hf;split at hd
      ·split at hd
       ·split at hd
        ·rename_i z hz;cases hd;exact zo m (C.find ht) D E hk hf hz
        ·cases hd
       ·cases hd
      ·cases hd
     ·cases hd
    ·cases hd
   ·cases hd
  ·cases hd
 ·-- field
  rename_i t xo f E;have D:=ba I xo;unfold Fx at hd;split at hd
  ·rename_i cs ex;rw[ex]at D;split at hd
   ·rename_i ti ht;split at hd
    ·rename_i fs hk;split at hd
     ·rename_i off ft hf;split at hd
      ·rename_i fi ac;split at hd
       ·rename_i y M;cases hd;exact EZ m (C.find ht) D E hk hf (C.find ac) M
       ·cases hd
      ·cases hd
     ·cases hd
    ·cases hd
   ·cases hd
  ·cases hd
 ·-- indexAddr
  rename_i t xo io E;have D:=ba I xo;have hi:=ba I io;unfold Ea at hd;split at hd
  ·rename_i β k n Z ex;rw[ex]at D;split at hd
   ·rename_i a7 k' mm ei;rw[ei]at hi;split at hd
    ·rename_i e te A a1;obtain⟨ti,h1,_,h2,h3,h4,h5⟩:=ca C a1;split at hd
     ·rename_i a2;cases hd;exact uq m h1 h2 h3 D hi E a2 X.1 X.2
     ·cases hd
    ·cases hd
   ·cases hd
  ·rename_i β k n Z ex;rw[ex]at D;split at hd
   ·rename_i a7 k' mm ei;rw[ei]at hi;split at hd
    ·rename_i ti ht;split at hd
     ·rename_i n' e hk;split at hd
      ·rename_i te L;split at hd
       ·rename_i J;obtain⟨rfl,a2⟩:=J;cases hd;exact yF m (C.find ht) hk (C.find L) a2 D hi E X.1 X.2
       ·cases hd
      ·cases hd
     ·cases hd
    ·cases hd
   ·cases hd
  ·rename_i id j sz off ex;rw[ex]at D;split at hd
   ·rename_i kk nn Z cs hb;split at hd
    ·rename_i a7 k' mm ei;rw[ei]at hi;split at hd
     ·rename_i ti ht;split at hd
      ·rename_i n e hk;split at hd
       ·rename_i te L;split at hd
        ·rename_i a2;cases hd;exact CW m (C.find ht) hk (C.find L) a2 D hb hi E X
        ·cases hd
       ·cases hd
      ·cases hd
     ·cases hd
    ·cases hd
   ·cases hd
  ·grind (splits:=6) (ematch:=4) [iP,zh]
  ·cases hd
 ·-- binOp
  rename_i op t xo yo t' E;have D:=ba I xo;have M:=ba I yo;unfold MR at hd;split at hd
  ·rename_i k n Z k2 n2 ys ex ey;rw[ex]at D;rw[ey]at M;split at hd
   ·rename_i ti ht;split at hd
    ·rename_i n' e hk;split at hd
     ·rename_i te L;split at hd
      ·rename_i k' ad;split at hd
       ·rename_i q;subst q;split at hd
        ·rename_i J;obtain⟨rfl,rfl,rfl⟩:=J;split at hd
         ·rename_i r hr;cases hd;simp only[V]at D M;obtain⟨vs,e1,l1,_⟩:=D;obtain⟨us,e2,l2,_⟩:=M;obtain rfl:=List.eq_nil_of_length_eq_zero l1;obtain rfl:=List.eq_nil_of_length_eq_zero l2;rw[List.append_nil]at e1 e2;obtain⟨z,h1,h2⟩:=td (P:=P) (w:=w) (F:=Fr (own φ h) Bw w) (ρ:=ρ) (xo:=xo) (yo:=yo) hr (run_eqGuard_agg w op t xo yo _ _ X) (Gs (C.find ht) hk (C.find L) ad Z ys) ⟨rfl,rfl⟩;exact Good.aH (v:=z) (w':=w) (by simp only[execOp,E,e1,e2];rw[Sem.run_bind,h1];rfl) (aG.pure m h2)
         ·cases hd
        ·cases hd
       ·cases hd
      ·cases hd
     ·cases hd
    ·cases hd
   ·cases hd
  ·grind (splits:=6) (ematch:=4) [Jp]
  ·cases hd
 ·-- convert
  rename_i st dt xo E;have D:=ba I xo;unfold JC at hd;split at hd
  ·rename_i id ex;rw[ex]at D;split at hd
   ·rename_i et Z hi;split at hd
    ·rename_i ax;subst ax;split at hd
     ·rename_i ti Y;split at hd
      ·rename_i e hk;split at hd
       ·rename_i te L;split at hd
        ·rename_i b1;cases hd;exact zg m (C.find Y) hk (C.find L) b1 D E hi X
        ·cases hd
       ·cases hd
      ·cases hd
     ·cases hd
    ·cases hd
   ·cases hd
  ·rename_i β p ex;rw[ex]at D;split at hd
   ·rename_i si di b2 b3;split at hd
    ·rename_i k hk;cases hd;exact CR m (C.find b2) (C.find b3) hk E D X
    ·cases hd
   ·cases hd
  ·cases hd
 ·-- slice
  rename_i t xo lo E;have D:=ba I xo;have hl:=ba I lo;unfold Fl at hd;split at hd
  ·grind (splits:=6) (ematch:=4) [ca,CE]
  ·cases hd
 ·-- makeFunc
  rename_i fn first a9 E
  unfold Ld at hd;split at hd
  ·rename_i f y ys ef ec;cases hd;have a8:a9 = #[]:=by simp_all
   subst a8;have:=jM I first.toList
   rw[ef]at this;exact zn m E this
  ·cases hd
 ·-- buildSlice
  rename_i t len ps E;unfold M8 at hd;split at hd
  ·rename_i e te a1;obtain⟨ti,h1,h2,h3⟩:=iP C a1;split at hd
   ·rename_i J;cases hd;have:=jM I (ps.toList.map (·.2));simp only[List.map_map]at this;exact yB m hn h1 h2 h3 E J.2.1 this (fun x D=>by
     have:=(List.all_eq_true.1 J.2.2.1) x D;simp only[Bool.and_eq_true,beq_iff_eq]at this;exact this) J.2.2.2
   ·cases hd
  ·cases hd
 ·-- lookup
  rename_i t xo ko b9 E;have D:=ba I xo;have hk:=ba I ko;unfold Lm at hd;split at hd
  ·rename_i β k1 k2 kv a7 k' i ex ek;rw[ex]at D;rw[ek]at hk;split at hd
   ·rename_i ti ht;split at hd
    ·rename_i kt et b4;split at hd
     ·rename_i tk te b5 L;split at hd
      ·rename_i be b6;split at hd
       ·rename_i J;obtain⟨rfl,rfl,hT⟩:=J;cases hd;exact Bj m (C.find ht) b4 (C.find b5) b6 (C.find L) hT E D hk
       ·cases hd
      ·cases hd
     ·cases hd
    ·cases hd
   ·cases hd
  ·cases hd
 ·-- call
  rename_i c0 E;obtain⟨callee,args,a3⟩:=c0;cases callee with
  | builtin b =>
   cases b with
   | len =>
    simp only at hd;split at hd
    ·rename_i xo t ea et;have O:args = #[xo]:=Array.ext' ea;have N:a3 = #[t]:=Array.ext' et;subst O N;have D:=ba I xo;unfold Mu at hd;split at hd
     ·grind (splits:=6) (ematch:=4) [iP,BM]
     ·cases hd
    ·cases hd
   | append =>
    simp only at hd;split at hd
    ·rename_i xo yo t u ea et;have O:args = #[xo,yo]:=Array.ext' ea;have N:a3 = #[t,u]:=Array.ext' et;subst O N;have D:=ba I xo;have M:=ba I yo;unfold L3 at hd;split at hd
     ·rename_i r hz;cases hd;unfold IQ at hz;split at hz
      ·rename_i β k1 n ey;split at hz
       ·rename_i e te A tu a1 a4;obtain⟨ti,h1,_,h2,h3,h4,h5⟩:=ca C a1;split at hz
        ·rename_i k2 a5;split at hz
         ·rename_i ex;cases hz;rw[ey]at M;exact zX m hn h1 h2 h3 h4 h5 (C.find a4) a5 E D M (.inl ⟨ex,rfl,rfl,rfl⟩) X.1 X.2.1 X.2.2
         ·rename_i id ex;split at hz
          ·rename_i e' B Z a6;split at hz
           ·rename_i q;subst q;split at hz
            ·rename_i he;subst he;cases hz;rw[ey]at M;exact zX m hn h1 h2 h3 h4 h5 (C.find a4) a5 E D M (.inr ⟨id,ex,a6,rfl,rfl⟩) X.1 X.2.1 X.2.2
            ·cases hz
           ·cases hz
          ·cases hz
         ·cases hz
        ·cases hz
       ·cases hz
      ·cases hz
     ·unfold Am at hd;split at hd
      ·rename_i β s0 ey;rw[ey]at M;split at hd
       ·rename_i tu a4;split at hd
        ·rename_i a5;split at hd
         ·rename_i ti Y;split at hd
          ·rename_i e hk;split at hd
           ·rename_i te L;split at hd
            ·rename_i J;split at hd
             ·rename_i ex;rw[ex]at D;cases hd;exact pS m hn (C.find Y) hk (C.find a4) a5 (C.find L) J.1 J.2 D M E (.inl ⟨rfl,rfl,rfl,rfl⟩) X
             ·rename_i id ex;rw[ex]at D;split at hd
              ·rename_i e' Z a6;split at hd
               ·rename_i he;subst he;cases hd;exact pS m hn (C.find Y) hk (C.find a4) a5 (C.find L) J.1 J.2 D M E (.inr ⟨id,rfl,a6,rfl,rfl⟩) X
               ·cases hd
              ·cases hd
             ·cases hd
            ·cases hd
           ·cases hd
          ·cases hd
         ·cases hd
        ·cases hd
       ·cases hd
      ·cases hd
    ·cases hd
   | clear =>
    simp only at hd;split at hd
    ·rename_i xo t ea et;have O:args = #[xo]:=Array.ext' ea;have N:a3 = #[t]:=Array.ext' et;subst O N;have D:=ba I xo;unfold EV at hd;split at hd
     ·rename_i id ex;rw[ex]at D;split at hd
      ·rename_i K A kv a6;split at hd
       ·rename_i ti Y;split at hd
        ·rename_i kt N hk;cases hd;exact EI m (C.find Y) hk E a6 D
        ·cases hd
       ·cases hd
      ·cases hd
     ·cases hd
    ·cases hd
   | cap =>
    simp only at hd;split at hd
    ·rename_i xo t ea et;have O:args = #[xo]:=Array.ext' ea;have N:a3 = #[t]:=Array.ext' et;subst O N;have D:=ba I xo;unfold MY at hd;split at hd
     ·rename_i ex;rw[ex]at D;split at hd
      ·rename_i ti Y;split at hd
       ·rename_i e hk;cases hd;exact C1 m (C.find Y) hk E D
       ·cases hd
      ·cases hd
     ·cases hd
    ·cases hd
   | copy =>
    simp only at hd;split at hd
    ·rename_i xo yo t t2 ea et;have O:args = #[xo,yo]:=Array.ext' ea;have N:a3 = #[t,t2]:=Array.ext' et;subst O N;have D:=ba I xo;have M:=ba I yo;unfold Ji at hd;split at hd
     ·grind (splits:=6) (ematch:=4) [ca,AB]
     ·cases hd
    ·cases hd
   | _=>cases hd
  | value f =>
   simp only at hd;unfold FW at hd;split at hd
   ·rename_i fid fs q ef;have hf:=ba I f;rw[ef]at hf;split at hd
    ·split at hd
     ·rename_i b7 hl;cases hd;exact Fa m E hf (jN (jM I args.toList)) hl X
     ·cases hd
    ·cases hd
   ·cases hd
  | invoke _ _=>cases hd
 ·cases hd
theorem HZ(e:bY P tb)(m:Mem Bw w0 ρ φ h w)(v:bV n (Fr (own φ h) Bw w) ρ s a)(f:∀j,j<8→ρ (new+j)=none){o:Oper}{asm:Option Bool}{jg:Option yt}(q:dieOf jg=none){x:ag}{u:iu}{c:Prop}
  (hd:GK P tb new asm jg o.op s h=some (x,u,c)) (z:c):Good P o a w (aG Bw w0 ρ φ h w new x u):=by
 unfold GK at hd;split at hd
 ·rename_i r A;cases hd;exact Hq e m v (f 0 (by omega)) A z
 split at hd
 ·rename_i r A;cases hd;exact G4 e m v (f 0 (by omega)) A z
 ·exact Hp e m v f q hd z
theorem Kr(m:Mem Bw w0 ρ φ h w)(I:bV n (Fr (own φ h) Bw w) ρ s a)(B:∀j,j<8→ρ (new+j)=none){o:Oper}{asm:Option Bool}{jg:Option yt}{y:Value}(e:dying o.op jg=some y){x:ag}{u:iu}{c:Prop}
  (hd:GK P tb new asm jg o.op s h=some (x,u,c)) (J:c):MA P o a w y (fun L=>∃v,aG Bw w0 ρ φ h w new .unk u v L):=by
 refine HK (tb:=tb) m I B e (x:=x) (u:=u) (c:=c) (asm:=asm) ?_ J;unfold GK at hd;split at hd
 ·rename_i r z;exfalso
  unfold dying at e;split at e
  ·rename_i c0 q C;split at e
   ·rename_i M f;rw[C]at z;obtain⟨callee,args,D⟩:=c0;simp only at f;subst f;simp only[qJ]at z;cases z
   ·cases e
  ·cases e
 rename_i E;clear E;split at hd
 ·rename_i r z;exfalso
  unfold dying at e;split at e
  ·rename_i c0 q C;split at e
   ·rename_i M f;split at e
    ·rename_i A;simp only[Bool.and_eq_true]at A;rw[C]at z;obtain⟨callee,args,D⟩:=c0;simp only at f;subst f;simp only[jE]at z;unfold FW at z;split at z
     ·simp_all
     ·cases z
    ·cases e
   ·cases e
  ·cases e
 ·exact hd
theorem Fi{s I:Nat→ag}{h h':Nat→Qz}{op:Op}{jg:Option yt}(v:∀x∈op.operands.toList,ev s x=ev I x)(key:∀x∈op.operands.toList,(¬((∃x,op = .move x)∨(∃x,op = .assign x)∨(∃x,op = .nilCheck x)∨∃t x f,op = .fieldAddr t x f))→∀i∈ids (ev s x),h i=h' i)
  (hl:∀c,op = .call c→∀N,(∀i∈bA N,∃x∈op.operands.toList,i∈ids (ev s x))→o5 h N=o5 h' N) (Y:∀c,op = .call c→∀A,∀x∈op.operands.toList,fp h A (ev s x)=fp h' A (ev s x)) :
  jE P tb new jg op s h=jE P tb new jg op I h':=by
 cases op with
 | alloc t=>rfl
 | box t x=>simp only[jE,v x (by simp[Op.operands])]
 | build t L =>
  simp only[jE];have e:L.toList.map (fun p=>ev s p.2)=L.toList.map (fun p=>ev I p.2):=List.map_congr_left (fun p C=>v p.2 (by simp only[Op.operands,List.mem_map];exact⟨p,C,rfl⟩));rw[e]
 | load t x =>
  have B:=key x (by simp[Op.operands]) (by rintro(⟨_,e⟩ | ⟨_,e⟩ | ⟨_,e⟩ | ⟨_,_,_,e⟩) <;> cases e);simp only[jE,←v x (by simp[Op.operands])];unfold IG;split
  ·rfl
  ·simp_all [ids]
  ·simp_all [ids]
  ·rfl
 | store t x y =>
  have B:=key x (by simp[Op.operands]) (by rintro(⟨_,e⟩ | ⟨_,e⟩ | ⟨_,e⟩ | ⟨_,_,_,e⟩) <;> cases e);simp only[jE,←v x (by simp[Op.operands]),←v y (by simp[Op.operands])];unfold Ew;split
  ·simp_all [ids]
  ·simp_all [ids]
  ·rfl
 | nilCheck x=>simp only[jE,v x (by simp[Op.operands])]
 | fieldAddr t x f=>simp only[jE,v x (by simp[Op.operands])]
 | field t x f=>simp only[jE,v x (by simp[Op.operands])]
 | indexAddr t x i =>
  have B:=key x (by simp[Op.operands]) (by rintro(⟨_,e⟩ | ⟨_,e⟩ | ⟨_,e⟩ | ⟨_,_,_,e⟩) <;> cases e);simp only[jE,←v x (by simp[Op.operands]),←v i (by simp[Op.operands])];unfold Ea;split
  ·rfl
  ·rfl
  ·simp_all [ids]
  ·simp_all [ids]
  ·rfl
 | binOp o t x y t'=>simp only[jE,v x (by simp[Op.operands]),v y (by simp[Op.operands])]
 | convert st dt x =>
  have B:=key x (by simp[Op.operands]) (by rintro(⟨_,e⟩ | ⟨_,e⟩ | ⟨_,e⟩ | ⟨_,_,_,e⟩) <;> cases e);simp only[jE,←v x (by simp[Op.operands])];unfold JC;split
  ·simp_all [ids]
  ·rfl
  ·rfl
 | slice t x O hi mx =>
  cases O with
  | none=>rfl
  | some O =>
   cases hi with
   | some _=>rfl
   | none =>
    cases mx with
    | some _=>rfl
    | none =>
     have B:=key x (by simp[Op.operands]) (by rintro(⟨_,e⟩ | ⟨_,e⟩ | ⟨_,e⟩ | ⟨_,_,_,e⟩) <;> cases e);simp only[jE,←v x (by simp[Op.operands]),←v O (by simp[Op.operands])];unfold Fl;split
     ·simp_all [ids]
     ·rfl
 | makeFunc f Z cs =>
  simp only[jE];rw[List.map_congr_left (l:=cs.toList) (f:=ev s) (g:=ev I) (fun p C=>v p (by simp only[Op.operands,Array.toList_append,List.mem_append];exact .inr C)),List.map_congr_left (l:=Z.toList) (f:=ev s) (g:=ev I) (fun p C=>v p (by simp only[Op.operands,Array.toList_append,List.mem_append];exact .inl C))]
 | buildSlice t len L =>
  simp only[jE];have e:L.toList.map (fun p=>ev s p.2)=L.toList.map (fun p=>ev I p.2):=List.map_congr_left (fun p C=>v p.2 (by simp only[Op.operands,List.mem_map];exact⟨p,C,rfl⟩));rw[e]
 | lookup t x k a1=>simp only[jE,v x (by simp[Op.operands]),v k (by simp[Op.operands])]
 | call c =>
  obtain⟨callee,args,J⟩:=c;have j:∀x∈args.toList,x∈(Op.call { callee,args,argTypes:=J }).operands.toList:=fun x B=>by simp only[Op.operands,Call.operands,Array.toList_append,List.mem_append];exact .inr B
  have e:args.toList.map (ev s)=args.toList.map (ev I):=List.map_congr_left (fun p C=>v p (j p C));cases callee with
  | builtin b =>
   cases b with
   | append =>
    simp only[jE];split
    ·rename_i x y t u E _;have B:x∈args.toList:=by rw[E];simp
     have D:y∈args.toList:=by rw[E];simp
     rw[←v x (j x B),←v y (j y D)];have hk:=key x (j x B) (by rintro(⟨_,e⟩ | ⟨_,e⟩ | ⟨_,e⟩ | ⟨_,_,_,e⟩) <;> cases e);unfold L3;cases V:ev s x with
     | sl id =>
      unfold Am IQ;dsimp only;rw[hk id (by rw[V];simp[ids])]
     | _=>rfl
    ·rfl
   | clear =>
    simp only[jE];split
    ·rename_i x t E _;have B:x∈args.toList:=by rw[E];simp
     rw[←v x (j x B)];have hk:=key x (j x B) (by rintro(⟨_,e⟩ | ⟨_,e⟩ | ⟨_,e⟩ | ⟨_,_,_,e⟩) <;> cases e);unfold EV;split
     ·simp_all [ids]
     ·rfl
    ·rfl
   | cap =>
    simp only[jE];split
    ·simp_all
    ·rfl
   | len =>
    simp only[jE];split
    ·rename_i x t E _;have B:x∈args.toList:=by rw[E];simp
     rw[←v x (j x B)];have hk:=key x (j x B) (by rintro(⟨_,e⟩ | ⟨_,e⟩ | ⟨_,e⟩ | ⟨_,_,_,e⟩) <;> cases e);unfold Mu;split
     ·simp_all [ids]
     ·rfl
    ·rfl
   | copy =>
    simp only[jE];split
    ·rename_i x y t t2 E _;have B:x∈args.toList:=by rw[E];simp
     have D:y∈args.toList:=by rw[E];simp
     rw[←v x (j x B),←v y (j y D)];have hk:=key x (j x B) (by rintro(⟨_,e⟩ | ⟨_,e⟩ | ⟨_,e⟩ | ⟨_,_,_,e⟩) <;> cases e);unfold Ji;split
     ·simp_all [ids]
     ·rfl
    ·rfl
   | _=>rfl
  | value f =>
   have hf:f∈(Op.call { callee:= .value f,args,argTypes:=J }).operands.toList:=by simp[Op.operands,Call.operands]
   simp only[jE];rw[←v f hf,←e];unfold FW;split
   ·rename_i fid Z q ef;split
    ·rw[hl _ rfl _ (fun i hi=>by
      obtain⟨y,D,hi⟩:=cO.1 hi;rw[List.mem_append]at D;rcases D with D | D
      ·exact⟨f,hf,by rw[ef];simp only[ids];exact cO.2 ⟨y,D,hi⟩⟩
      ·have M:i∈bA (il tb (KP (some q)) J.toList (args.toList.map (ev s))):=cO.2 ⟨y,D,hi⟩;rw[oN]at M;obtain⟨z,hz,X⟩:=cO.1 M;obtain⟨p,C,rfl⟩:=List.mem_map.1 hz;exact⟨p,j p C,X⟩)]
    ·rfl
   ·rfl
  | invoke _ _=>rfl
 | _=>rfl
end
end Go.Tv
