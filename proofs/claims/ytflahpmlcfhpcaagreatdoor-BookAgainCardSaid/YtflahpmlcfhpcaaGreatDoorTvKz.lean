import Derived.Test.YtflahpmlcfhpcaaGreatDoorTvL
import Derived.Test.YtflahpmlcfhpcaaGreatDoorTvKnm
namespace Go.Tv
open Go Go.RowKit
def Kx(tb:bU)(t:TypeId):Option (IntKind×Nat) :=
 match tb.find t with
 | some ti=>match ti.k with
  | .ar n e=>match tb.find e with
   | some f=>match f.k with
    | .int k=>if 16<n then some (k,n)else none
    | _=>none
   | none=>none
  | _=>none
 | none=>none
def IH(tb:bU)(t:TypeId):Option (IntKind×Nat) :=
 match Kx tb t with
 | some r=>some r
 | none=>match tb.find t with
  | some ti=>match ti.k with
   | .st ((0,e)::_)=>Kx tb e
   | _=>none
  | none=>none
def Ty.MP:Ty→Bool
 | .prod (.arr _ _) _=>true
 | _=>false
def Lg(fl:Bool)(tb:bU)(new:Nat)(t:TypeId)(len:Nat)(j:QV)(f:List ag):Qk :=
 match zi tb t with
 | some (_,e)=>if(fl || e.T.isNone)=true∧j=List.range len∧f.all (fun x=>(cellsOf x).all ag.cell && (cellsOf x).length == e.size)=true∧len*e.size≤16777216 then
   some (.sl new,[(new,some (.vrow len e.size (f.flatMap cellsOf)))],True)else none
 | none=>none
def JG(tb:bU)(t:TypeId)(x:ag)(h:Nat→Qz):Qk :=
 match x with
 | .sl id=>match h id with
  | some (.vrow n _ _)=>match zi tb t with
   | some _=>some (.p false (.int .i64) (n:Int),[],True)
   | none=>none
  | _=>none
 | _=>none
def IS(tb:bU)(t:TypeId)(x k:ag)(e:Bool):Qk :=
 match x,k with
 | .p _ (.mapi f q) u,.p _ (.int z) i=>match tb.find t with
  | some ti=>match ti.k with
   | .mp A B=>match tb.find A,tb.find B with
    | some C,some D=>match C.k with
     | .int j=>if j=f∧z=f∧D.T=some (.int q)then some (yT q e (bg (α:=Int) (.int f) u i),[],True)else none
     | _=>none
    | _,_=>none
   | _=>none
  | none=>none
 | _,_=>none
def zt(tb:bU)(new:Nat)(t u:TypeId)(x y:ag)(h:Nat→Qz):Qk :=
 match y with
 | .p _ .str s=>match tb.find u with
  | some z=>match z.k with
   | .str=>match tb.find t with
    | some ti=>match ti.k with
     | .sl e=>match tb.find e with
      | some j=>if j.T=some (.int .u8)∧j.bytes=1 then(match x with
       | .nils=>some (.sl new,[(new,some (.arr e (.int .u8) (cd s)))],([]:QK).length+List.length (α:=UInt8) s≤140737488355328)
       | .sl id=>match h id with
        | some (.arr A (.int .u8) q)=>if A=e then some (.sl new,[(id,none),(new,some (.arr e (.int .u8) (List.append (α:=Int) q (cd s))))],List.length (α:=Int) q+List.length (α:=UInt8) s≤140737488355328)else none
        | _=>none
       | _=>none)else none
      | none=>none
     | _=>none
    | none=>none
   | _=>none
  | none=>none
 | _=>none
def FQ(tb:bU)(new:Nat)(t u:TypeId)(x y:ag)(h:Nat→Qz):Qk :=
 match y with
 | .p _ (.int _) n=>match hN tb t,tb.find u with
  | some (e,z,A),some C=>match C.k with
   | .int _=>match x with
    | .nils=>some (.sl new,[(new,some (.arr e A (List.replicate (show Int from n).toNat A.zero)))],0≤(show Int from n)∧(([]:List A.den).length+(show Int from n).toNat)*z.bytes≤140737488355328∧([]:List A.den).length+(show Int from n).toNat≤9223372036854775807)
    | .sl id=>match h id with
     | some (.arr D B j)=>if q:B=A then(if D=e then some (.sl new,[(id,none),(new,some (.arr e A ((q ▸ j:List A.den)++List.replicate (show Int from n).toNat A.zero)))],0≤(show Int from n)∧((q ▸ j:List A.den).length+(show Int from n).toNat)*z.bytes≤140737488355328∧(q ▸ j:List A.den).length+(show Int from n).toNat≤9223372036854775807)else none)else none
     | _=>none
    | _=>none
   | _=>none
  | _,_=>none
 | _=>none
def Ju(tb:bU)(new:Nat)(t u:TypeId)(x y:ag)(h:Nat→Qz):Qk :=
 match FQ tb new t u x y h with
 | some r=>some r
 | none=>zt tb new t u x y h
def Cp(tb:bU)(t:TypeId)(x:ag)(h:Nat→Qz):Qk :=
 match x with
 | .mp id=>match h id with
  | some (.mpo K A _)=>match tb.find t with
   | some ti=>match ti.k with
    | .mp _ _=>some (.tup [],[(id,some (.mpo K A []))],True)
    | _=>none
   | none=>none
  | _=>none
 | _=>none
def KX(tb:bU)(t:TypeId)(x:ag):Qk :=
 match x with
 | .nils=>match tb.find t with
  | some ti=>match ti.k with
   | .sl _=>some (.p false (.int .i64) (0:Int),[],True)
   | _=>none
  | none=>none
 | _=>none
def Gn(tb:bU)(new:Nat)(t:TypeId):Qk :=
 match IH tb t with
 | some (k,n)=>match tb.find t with
  | some ti=>if(ti.z.take n).all (Kd k)=true∧n≤ti.z.length then some (.adr new 0 ti.size 0,[(new,some (.lmp k n (dB n) (ti.z.drop n)))],True)else none
  | none=>none
 | none=>none
def Kr(new:Nat)(x:ag):Qk :=
 match x with
 | .lag k n f e=>some (.adr new 0 (n+e.length) 0,[(new,some (.lmp k n f e))],True)
 | _=>none
def FN(tb:bU)(t:TypeId)(f:QV)(j:List ag):Qk :=
 match IH tb t with
 | some (k,n)=>match oM tb t f j with
  | some (.agg e,[],c)=>if(e.take n).all (Kd k)=true∧n≤e.length then some (.lag k n (dB n) (e.drop n),[],c)else none
  | _=>none
 | none=>none
def GF(tb:bU)(t:TypeId)(x:ag)(h:Nat→Qz):Qk :=
 match x with
 | .loc β T y=>match tb.find t with
  | some ti=>if ti.T=some T∧T.scalar=true then some (.p β T y,[],True)else none
  | none=>none
 | .ada id 0 n i=>match h id with
  | some (.lmp k q j _)=>match tb.find t with
   | some ti=>match ti.k with
    | .int u=>if q=n∧u=k then some (.p false (.int k) (fC j i),[],True)else none
    | _=>none
   | none=>none
  | _=>none
 | .adr id i sz off=>match h id with
  | some (.lmp k n j e)=>match tb.find t with
   | some ti=>if ti.k.agg=true∧i*sz+off=0∧ti.size=n+e.length then some (.lag k n j e,[],True)
    else if n≤i*sz+off then(match gk ti e (i*sz+off - n)with
     | some y=>some (y,[],True)
     | none=>none)else none
   | none=>none
  | some (.vrow _ _ e)=>match tb.find t with
   | some ti=>match gk ti e (i*sz+off)with
    | some y=>some (y,[],True)
    | none=>none
   | none=>none
  | _=>none
 | _=>none
def Cx(tb:bU)(t:TypeId)(x y:ag)(h:Nat→Qz):Qk :=
 match x with
 | .ada id 0 n i=>match h id with
  | some (.lmp k q j e)=>match y with
   | .p _ (.int u) v=>match tb.find t with
    | some ti=>if q=n∧u=k∧ti.size=1 then some (.unk,[(id,some (.lmp k q (qM j i v) e))],True)else none
    | none=>none
   | _=>none
  | _=>none
 | .adr id i sz off=>match h id with
  | some (.lmp k n j e)=>match tb.find t with
   | some ti=>if(cellsOf y).all ag.cell=true∧(cellsOf y).length=ti.size∧n≤i*sz+off∧i*sz+off - n+ti.size≤e.length then
     some (.unk,[(id,some (.lmp k n j (wr e (i*sz+off - n) (cellsOf y))))],True)else none
   | none=>none
  | _=>none
 | _=>none
def KQ(x:ag):Qk :=
 match x with
 | .loc β T y=>some (.loc β T y,[],True)
 | .p β (.ptr A) q=>if A.MP=true then some (.loc β A (q.getD A.zero),[],q.isSome=true)else none
 | _=>none
def Fi(tb:bU)(t:TypeId)(x:ag)(f:Nat):Qk :=
 match x with
 | .loc β T y=>match tb.find t with
  | some ti=>match ti.k with
   | .st e=>match e[f]? with
    | some (off,j)=>match tb.find j with
     | some p=>match p.T with
      | some T'=>match wJ T' T y off with
       | some z=>some (.loc β T' z,[],True)
       | none=>none
      | none=>none
     | none=>none
    | none=>none
   | _=>none
  | none=>none
 | _=>none
def Du(tb:bU)(t:TypeId)(x:ag)(f:Nat):Qk :=
 match x with
 | .agg e=>match tb.find t with
  | some ti=>match ti.k with
   | .st j=>match j[f]? with
    | some (off,p)=>match tb.find p with
     | some q=>match gk q e off with
      | some y=>some (y,[],True)
      | none=>none
     | none=>none
    | none=>none
   | _=>none
  | none=>none
 | _=>none
def Cb(tb:bU)(t:TypeId)(x i:ag)(h:Nat→Qz):Qk :=
 match x with
 | .p β (.slice (.arr k n)) u=>match i with
  | .p _ (.int _) m=>match hN tb t with
   | some (_,q,_)=>if n=q.size then some (.loc β (.arr k n) (u.getD (show Int from m).toNat (dB n)),[],0≤(show Int from m)∧(show Int from m)<u.length)else none
   | none=>none
  | _=>none
 | .loc β (.arr k n) u=>match i with
  | .p _ (.int _) m=>match tb.find t with
   | some ti=>match ti.k with
    | .ar z e=>match tb.find e with
     | some q=>if z=n∧q.size=1 then some (.loc β (.int k) (fC u (show Int from m).toNat),[],0≤(show Int from m)∧(show Int from m)<(n:Int))else none
     | none=>none
    | _=>none
   | none=>none
  | _=>none
 | .adr id j sz off=>match h id with
  | some (.lmp _ _ _ _)=>match i with
   | .p _ (.int _) m=>match tb.find t with
    | some ti=>match ti.k with
     | .ar n e=>match tb.find e with
      | some q=>if q.size=1 then some (.ada id (j*sz+off) n (show Int from m).toNat,[],0≤(show Int from m)∧(show Int from m)<(n:Int))else none
      | none=>none
     | _=>none
    | none=>none
   | _=>none
  | _=>none
 | .sl id=>match h id with
  | some (.vrow n sz _)=>match i with
   | .p _ (.int _) m=>match zi tb t with
    | some (_,q)=>if q.size=sz then some (.adr id (show Int from m).toNat sz 0,[],0≤(show Int from m)∧(show Int from m)<(n:Int))else none
    | none=>none
   | _=>none
  | _=>none
 | _=>none
def KM(P:Program)(tb:bU)(op:BinOp)(t:TypeId)(x y:ag):Qk :=
 match x,y with
 | .lag k n f [],.lag j u z []=>match tb.find t with
  | some ti=>match ti.k with
   | .ar A e=>match tb.find e with
    | some B=>match B.k with
     | .int C=>if q:u=n then(if A=n∧j=k∧C=k then(match GW op (Hr f (q ▸ z))with
      | some r=>some (r,[],P.eqGuardType P.depth t=false)
      | none=>none)else none)else none
     | _=>none
    | none=>none
   | _=>none
  | none=>none
 | .p _ .flt a,.p _ .flt b=>match op with
  | .add=>some (.p false .flt (cb .add a b),[],True)
  | .sub=>some (.p false .flt (cb .sub a b),[],True)
  | .mul=>some (.p false .flt (cb .mul a b),[],True)
  | .quo=>some (.p false .flt (cb .quo a b),[],True)
  | _=>none
 | _,_=>none
def Fy(tb:bU)(st q:TypeId)(x:ag)(h:Nat→Qz):Qk :=
 match x with
 | .sl id=>match h id with
  | some (.arr u (.int .u8) j)=>if q=st then(match tb.find st with
   | some ti=>match ti.k with
    | .sl e=>match tb.find e with
     | some z=>match z.k with
      | .int .u8=>some (.sl id,[(id,some (.bytes u j)),(id,some (.bytes u j))],0<j.length)
      | _=>none
     | none=>none
    | _=>none
   | none=>none)else none
  | _=>none
 | .p _ .flt a=>match tb.find st,tb.find q with
  | some _,some A=>match A.k with
   | .int k=>some (.p false (.int k) ((n4 a).getD 0),[],(n4 a).isSome=true∧k.min≤(n4 a).getD 0∧(n4 a).getD 0≤k.max)
   | _=>none
  | _,_=>none
 | _=>none
def CB(tb:bU)(t:TypeId)(x e:ag)(h:Nat→Qz):Qk :=
 match x with
 | .sl id=>match h id with
  | some (.arr _ _ j)=>match e with
   | .p _ (.int _) l=>match hN tb t with
    | some (_,q,_)=>some (.suf id (show Int from l).toNat q.size,[],0≤(show Int from l)∧(show Int from l)≤j.length)
    | none=>none
   | _=>none
  | _=>none
 | _=>none
def G8(tb:bU)(t:TypeId)(x y:ag)(h:Nat→Qz):Qk :=
 match x with
 | .suf id e sz=>match h id with
  | some (.arr z B j)=>match hN tb t with
   | some (_,C,A)=>match fb h A y with
    | some u=>if q:B=A then(if sz=C.size then some (.p false (.int .i64) ((min u.length ((q ▸ j:List A.den).length - e):Nat):Int),[(id,some (.arr z A ((q ▸ j:List A.den).take e++(u.take ((q ▸ j:List A.den).length - e)++(q ▸ j:List A.den).drop (e+u.length)))))],True)else none)else none
    | none=>none
   | none=>none
  | _=>none
 | _=>none
def C3(P:Program)(iM:Option wF)(f:ag)(e:List ag)(h:Nat→Qz):Qk :=
 match f,iM with
 | .bfn fid j,some q=>if q.own=false∧q.die=none∧q.fl.any (fun b=>b)=false then(match nU h (j++e)with
  | some args=>some (q.r,[],Pure P fid args q.r)
  | none=>none)else none
 | _,_=>none
def I0(fn:Fn)(first e:List ag):Qk :=
 match fn,first,e with
 | .func f,x::j,[]=>some (.bfn f (x::j),[],True)
 | _,_,_=>none
def jg(P:Program)(tb:bU)(new:Nat)(iM:Option wF)(op:Op)(s:Nat→ag)(h:Nat→Qz):Qk :=
 match op with
 | .alloc t=>Gn tb new t
 | .box _ x=>Kr new (ev s x)
 | .build t e=>FN tb t (e.toList.map (·.1)) (e.toList.map fun p=>ev s p.2)
 | .load t x=>GF tb t (ev s x) h
 | .store t x y=>Cx tb t (ev s x) (ev s y) h
 | .nilCheck x=>KQ (ev s x)
 | .fieldAddr t x f=>Fi tb t (ev s x) f
 | .field t x f=>Du tb t (ev s x) f
 | .indexAddr t x i=>Cb tb t (ev s x) (ev s i) h
 | .binOp op t x y _=>KM P tb op t (ev s x) (ev s y)
 | .convert st z x=>Fy tb st z (ev s x) h
 | .slice t x (some A) none none=>CB tb t (ev s x) (ev s A) h
 | .makeFunc fn first j=>I0 fn (first.toList.map (ev s)) (j.toList.map (ev s))
 | .buildSlice t len e=>Lg iM.isSome tb new t len (e.toList.map (·.1)) (e.toList.map fun p=>ev s p.2)
 | .lookup t x k q=>IS tb t (ev s x) (ev s k) q
 | .call c=>match c.callee with
  | .builtin .len=>match c.args.toList,c.argTypes.toList with
   | [x],[t]=>JG tb t (ev s x) h
   | _,_=>none
  | .builtin .append=>match c.args.toList,c.argTypes.toList with
   | [x,y],[t,u]=>Ju tb new t u (ev s x) (ev s y) h
   | _,_=>none
  | .builtin .clear=>match c.args.toList,c.argTypes.toList with
   | [x],[t]=>Cp tb t (ev s x) h
   | _,_=>none
  | .builtin .cap=>match c.args.toList,c.argTypes.toList with
   | [x],[t]=>KX tb t (ev s x)
   | _,_=>none
  | .builtin .copy=>match c.args.toList,c.argTypes.toList with
   | [x,y],[t,_]=>G8 tb t (ev s x) (ev s y) h
   | _,_=>none
  | .value f=>C3 P iM (ev s f) (gY tb (HC iM) c.argTypes.toList (c.args.toList.map (ev s))) h
  | _=>none
 | _=>none
def Ej(P:Program)(tb:bU)(new:Nat)(asm:Option Bool)(iM:Option wF)(op:Op)(s:Nat→ag)(h:Nat→Qz):Qk :=
 match pC tb new iM.isSome op s h with
 | some r=>some r
 | none=>match jg P tb new iM op s h with
  | some r=>some r
  | none=>gV P tb new asm iM op s h
theorem Good.imp{P:Program}{o:Oper}{a:Act}{w:World}{p q:Value→World→Prop}(h:Good P o a w p)(j:∀v w',p v w'→q v w'):Good P o a w q:=fun K Q hk=>h K Q fun v w' z=>hk v w' (j v w' z)
section
variable{P:Program}{tb:bU}{Bw:Nat→Prop}{w0:cw P}{ρ:Nat→QW}{φ:Nat→Nat→Prop}{h:Nat→Qz}{w:World}{new:Nat}{n:NS}{s:Nat→ag}{a:Act}
theorem aF.val(f:ag→ag){x:ag}(B:∀F ρ v,V F ρ x v→V F ρ (f x) v){u:gZ}{v:Value}{w':World}(C:aF Bw w0 ρ φ h w new x u v w'):aF Bw w0 ρ φ h w new (f x) u v w':=by
 obtain⟨j,z,D,E,I,J,L⟩:=C;exact⟨j,z,D,E,I,J,B _ _ _ L⟩
theorem xf(f:cg P tb)(m:Mem Bw w0 ρ φ h w)(A:eT n (Fr (own φ h) Bw w) ρ s a){o:Oper}{t:TypeId}{q:Array (Nat×Operand)}(B:o.op = .build t q){x:ag}{u:gZ}{c:Prop}
  (hd:oM tb t (q.toList.map (·.1)) (q.toList.map fun p=>ev s p.2)=some (x,u,c)):Good P o a w (aF Bw w0 ρ φ h w new x u):=by
 unfold oM at hd;split at hd
 ·rename_i ti ht;split at hd
  ·rename_i D hk;split at hd
   ·rename_i C j;cases hd;have:=jo A (q.toList.map (·.2));simp only[List.map_map]at this;exact vg m f (f.find ht) hk B this j
   ·cases hd
  ·rename_i n e hk;split at hd
   ·rename_i E z;split at hd
    ·rename_i C j;cases hd;have:=jo A (q.toList.map (·.2));simp only[List.map_map]at this;exact sY m f (f.find ht) hk (f.find z) B this j
    ·cases hd
   ·cases hd
  ·cases hd
 ·cases hd
theorem E9(C:cg P tb)(m:Mem Bw w0 ρ φ h w)(I:eT n (Fr (own φ h) Bw w) ρ s a)(hn:ρ new=none){o:Oper}{iM:Option wF}{x:ag}{u:gZ}{c:Prop}
  (hd:jg P tb new iM o.op s h=some (x,u,c)) (hc:c):Good P o a w (aF Bw w0 ρ φ h w new x u):=by
 unfold jg at hd;split at hd
 ·-- alloc
  rename_i t E;unfold Gn at hd;split at hd
  ·split at hd
   ·rename_i ti ht;split at hd
    ·rename_i hz;cases hd;exact AY m hn (C.find ht) E hz.1 hz.2
    ·cases hd
   ·cases hd
  ·cases hd
 ·-- box
  rename_i t xo E;unfold Kr at hd;split at hd
  ·rename_i k n xs cs ex;have D:=aV I xo;rw[ex]at D;cases hd;exact E7 m hn D E _
  ·cases hd
 ·-- build
  rename_i t ps E;unfold FN at hd;split at hd
  ·split at hd
   ·rename_i ds c' hb;split at hd
    ·rename_i hz;cases hd;refine(xf (new:=new) C m I E hb).imp fun v w' hp=>?_
     exact aF.val (fun _=> .lag _ _ (dB _) (ds.drop _)) (fun F ρ v hv=>C7 hz.1 hz.2 hv) hp
    ·cases hd
   ·cases hd
  ·cases hd
 ·-- load
  rename_i t xo E;have D:=aV I xo;unfold GF at hd;split at hd
  ·rename_i β T y ex;rw[ex]at D;split at hd
   ·rename_i ti ht;split at hd
    ·rename_i hT;cases hd;exact yu m (C.find ht) D E hT.1 hT.2
    ·cases hd
   ·cases hd
  ·rename_i id n i ex;rw[ex]at D;split at hd
   ·rename_i k n' xs cs hb;split at hd
    ·rename_i ti ht;split at hd
     ·rename_i k2 hk;split at hd
      ·rename_i M;obtain⟨rfl,rfl⟩:=M;cases hd;exact Cg m (C.find ht) hk D E hb
      ·cases hd
     ·cases hd
    ·cases hd
   ·cases hd
  ·rename_i id i sz off ex;rw[ex]at D;split at hd
   ·rename_i k n xs cs hb;split at hd
    ·rename_i ti ht;split at hd
     ·rename_i M;cases hd;exact Aw m (C.find ht) M.1 D E hb M.2.1 M.2.2
     ·split at hd
      ·rename_i M;split at hd
       ·rename_i y J;cases hd;exact Ax m (C.find ht) D E hb (by omega) J
       ·cases hd
      ·cases hd
    ·cases hd
   ·rename_i n b7 cs hb;split at hd
    ·rename_i ti ht;split at hd
     ·rename_i y J;cases hd;exact yE m (C.find ht) D E hb J
     ·cases hd
    ·cases hd
   ·cases hd
  ·cases hd
 ·-- store
  rename_i t xo yo E;have D:=aV I xo;have J:=aV I yo;unfold Cx at hd;split at hd
  ·rename_i id n i ex;rw[ex]at D;split at hd
   ·rename_i k n' xs cs hb;split at hd
    ·rename_i β k2 v ey;rw[ey]at J;split at hd
     ·rename_i ti ht;split at hd
      ·rename_i M;obtain⟨rfl,rfl,a8⟩:=M;cases hd;exact AF m (C.find ht) a8 D J E hb
      ·cases hd
     ·cases hd
    ·cases hd
   ·cases hd
  ·rename_i id i sz off ex;rw[ex]at D;split at hd
   ·rename_i k n xs cs hb;split at hd
    ·rename_i ti ht;split at hd
     ·rename_i M;obtain⟨q1,q2,q3,q4⟩:=M;cases hd;exact yx m (C.find ht) D J q1 E hb q2 (by omega) q4
     ·cases hd
    ·cases hd
   ·cases hd
  ·cases hd
 ·-- nilCheck
  rename_i xo E;have D:=aV I xo;unfold KQ at hd;split at hd
  ·rename_i β T y ex;rw[ex]at D;cases hd;exact yW m D E
  ·rename_i β A q ex;rw[ex]at D;split at hd
   ·cases hd;exact Bo m D E hc
   ·cases hd
  ·cases hd
 ·-- fieldAddr
  rename_i t xo f E;have D:=aV I xo;unfold Fi at hd;split at hd
  ·rename_i β T y ex;rw[ex]at D;split at hd
   ·rename_i ti ht;split at hd
    ·rename_i fs hk;split at hd
     ·rename_i off ft hf;split at hd
      ·split at hd
       ·split at hd
        ·rename_i z hz;cases hd;exact xb m (C.find ht) D E hk hf hz
        ·cases hd
       ·cases hd
      ·cases hd
     ·cases hd
    ·cases hd
   ·cases hd
  ·cases hd
 ·-- field
  rename_i t xo f E;have D:=aV I xo;unfold Du at hd;split at hd
  ·rename_i cs ex;rw[ex]at D;split at hd
   ·rename_i ti ht;split at hd
    ·rename_i fs hk;split at hd
     ·rename_i off ft hf;split at hd
      ·rename_i fi a9;split at hd
       ·rename_i y J;cases hd;exact Ca m (C.find ht) D E hk hf (C.find a9) J
       ·cases hd
      ·cases hd
     ·cases hd
    ·cases hd
   ·cases hd
  ·cases hd
 ·-- indexAddr
  rename_i t xo io E;have D:=aV I xo;have hi:=aV I io;unfold Cb at hd;split at hd
  ·rename_i β k n xs ex;rw[ex]at D;split at hd
   ·rename_i a2 k' mm ei;rw[ei]at hi;split at hd
    ·rename_i e te A L;obtain⟨ti,h1,_,h2,h3,h4,h5⟩:=ca C L;split at hd
     ·rename_i X;cases hd;exact sC m h1 h2 h3 D hi E X hc.1 hc.2
     ·cases hd
    ·cases hd
   ·cases hd
  ·rename_i β k n xs ex;rw[ex]at D;split at hd
   ·rename_i a2 k' mm ei;rw[ei]at hi;split at hd
    ·rename_i ti ht;split at hd
     ·rename_i n' e hk;split at hd
      ·rename_i te N;split at hd
       ·rename_i M;obtain⟨rfl,X⟩:=M;cases hd;exact xd m (C.find ht) hk (C.find N) X D hi E hc.1 hc.2
       ·cases hd
      ·cases hd
     ·cases hd
    ·cases hd
   ·cases hd
  ·rename_i id j sz off ex;rw[ex]at D;split at hd
   ·rename_i kk nn xs cs hb;split at hd
    ·rename_i a2 k' mm ei;rw[ei]at hi;split at hd
     ·rename_i ti ht;split at hd
      ·rename_i n e hk;split at hd
       ·rename_i te N;split at hd
        ·rename_i X;cases hd;exact Bb m (C.find ht) hk (C.find N) X D hb hi E hc
        ·cases hd
       ·cases hd
      ·cases hd
     ·cases hd
    ·cases hd
   ·cases hd
  ·rename_i id ex;rw[ex]at D;split at hd
   ·rename_i n sz cs hb;split at hd
    ·rename_i a2 k' mm ei;rw[ei]at hi;split at hd
     ·rename_i e te L;obtain⟨ti,h1,h2,h3⟩:=iw C L;split at hd
      ·rename_i X;subst X;cases hd;exact xx m h1 h2 h3 D hb hi E hc.1 hc.2
      ·cases hd
     ·cases hd
    ·cases hd
   ·cases hd
  ·cases hd
 ·-- binOp
  rename_i op t xo yo t' E;have D:=aV I xo;have J:=aV I yo;unfold KM at hd;split at hd
  ·rename_i k n xs k2 n2 ys ex ey;rw[ex]at D;rw[ey]at J;split at hd
   ·rename_i ti ht;split at hd
    ·rename_i n' e hk;split at hd
     ·rename_i te N;split at hd
      ·rename_i k' aa;split at hd
       ·rename_i q;subst q;split at hd
        ·rename_i M;obtain⟨rfl,rfl,rfl⟩:=M;split at hd
         ·rename_i r hr;cases hd;simp only[V]at D J;obtain⟨vs,e1,l1,_⟩:=D;obtain⟨us,e2,l2,_⟩:=J;obtain rfl:=List.eq_nil_of_length_eq_zero l1;obtain rfl:=List.eq_nil_of_length_eq_zero l2;rw[List.append_nil]at e1 e2;obtain⟨z,h1,h2⟩:=rG (P:=P) (w:=w) (F:=Fr (own φ h) Bw w) (ρ:=ρ) (xo:=xo) (yo:=yo) hr (run_eqGuard_agg w op t xo yo _ _ hc) (EF (C.find ht) hk (C.find N) aa xs ys) ⟨rfl,rfl⟩;exact Good.aG (v:=z) (w':=w) (by simp only[execOp,E,e1,e2];rw[Sem.run_bind,h1];rfl) (aF.pure m h2)
         ·cases hd
        ·cases hd
       ·cases hd
      ·cases hd
     ·cases hd
    ·cases hd
   ·cases hd
  ·rename_i β p a2 q ex ey;rw[ex]at D;rw[ey]at J;split at hd
   ·cases hd;exact rU m (.inl rfl) E D J
   ·cases hd;exact rU m (.inr (.inl rfl)) E D J
   ·cases hd;exact rU m (.inr (.inr (.inl rfl))) E D J
   ·cases hd;exact rU m (.inr (.inr (.inr rfl))) E D J
   ·cases hd
  ·cases hd
 ·-- convert
  rename_i st dt xo E;have D:=aV I xo;unfold Fy at hd;split at hd
  ·rename_i id ex;rw[ex]at D;split at hd
   ·rename_i et xs hi;split at hd
    ·rename_i ac;subst ac;split at hd
     ·rename_i ti a1;split at hd
      ·rename_i e hk;split at hd
       ·rename_i te N;split at hd
        ·rename_i ad;cases hd;exact wS m (C.find a1) hk (C.find N) ad D E hi hc
        ·cases hd
       ·cases hd
      ·cases hd
     ·cases hd
    ·cases hd
   ·cases hd
  ·rename_i β p ex;rw[ex]at D;split at hd
   ·rename_i si di ax b1;split at hd
    ·rename_i k hk;cases hd;exact As m (C.find ax) (C.find b1) hk E D hc
    ·cases hd
   ·cases hd
  ·cases hd
 ·-- slice
  rename_i t xo lo E;have D:=aV I xo;have hl:=aV I lo;unfold CB at hd;split at hd
  ·rename_i id ex;rw[ex]at D;split at hd
   ·rename_i be A xs Y;split at hd
    ·rename_i β k l el;rw[el]at hl;split at hd
     ·rename_i e te A' L;obtain⟨ti,h1,_,h2,h3,h4,h5⟩:=ca C L;cases hd;exact Bp m h1 h2 h3 E Y D hl hc.1 hc.2
     ·cases hd
    ·cases hd
   ·cases hd
  ·cases hd
 ·-- makeFunc
  rename_i fn first a6 E
  unfold I0 at hd;split at hd
  ·rename_i f y ys ef ec;cases hd;have a7:a6 = #[]:=by
    cases a6 with
    | mk l=>cases l with
     | nil=>rfl
     | cons _ _=>simp at ec
   subst a7;have:=jo I first.toList
   rw[ef]at this;exact xc m E this
  ·cases hd
 ·-- buildSlice
  rename_i t len ps E;unfold Lg at hd;split at hd
  ·rename_i e te L;obtain⟨ti,h1,h2,h3⟩:=iw C L;split at hd
   ·rename_i M;cases hd;have:=jo I (ps.toList.map (·.2));simp only[List.map_map]at this;exact xk m hn h1 h2 h3 E M.2.1 this (fun x D=>by
     have:=(List.all_eq_true.1 M.2.2.1) x D;simp only[Bool.and_eq_true,beq_iff_eq]at this;exact this) M.2.2.2
   ·cases hd
  ·cases hd
 ·-- lookup
  rename_i t xo ko b8 E;have D:=aV I xo;have hk:=aV I ko;unfold IS at hd;split at hd
  ·rename_i β k1 k2 kv a2 k' i ex ek;rw[ex]at D;rw[ek]at hk;split at hd
   ·rename_i ti ht;split at hd
    ·rename_i kt et b2;split at hd
     ·rename_i tk te b3 N;split at hd
      ·rename_i b9 b4;split at hd
       ·rename_i M;obtain⟨rfl,rfl,hT⟩:=M;cases hd;exact zA m (C.find ht) b2 (C.find b3) b4 (C.find N) hT E D hk
       ·cases hd
      ·cases hd
     ·cases hd
    ·cases hd
   ·cases hd
  ·cases hd
 ·-- call
  rename_i c0 E;obtain⟨callee,args,a3⟩:=c0;cases callee with
  | builtin b =>
   cases b with
   | len =>
    simp only at hd;split at hd
    ·rename_i xo t ea et;have Z:args = #[xo]:=Array.ext' ea;have O:a3 = #[t]:=Array.ext' et;subst Z O;have D:=aV I xo;unfold JG at hd;split at hd
     ·rename_i id ex;rw[ex]at D;split at hd
      ·rename_i n sz cs hb;split at hd
       ·rename_i r L;obtain⟨e,te⟩:=r;obtain⟨ti,h1,h2,h3⟩:=iw C L;cases hd;exact Al m h1 h2 D hb E
       ·cases hd
      ·cases hd
     ·cases hd
    ·cases hd
   | append =>
    simp only at hd;split at hd
    ·rename_i xo yo t u ea et;have Z:args = #[xo,yo]:=Array.ext' ea;have O:a3 = #[t,u]:=Array.ext' et;subst Z O;have D:=aV I xo;have J:=aV I yo;unfold Ju at hd;split at hd
     ·rename_i r hz;cases hd;unfold FQ at hz;split at hz
      ·rename_i β k1 n ey;split at hz
       ·rename_i e te A tu L a4;obtain⟨ti,h1,_,h2,h3,h4,h5⟩:=ca C L;split at hz
        ·rename_i k2 a5;split at hz
         ·rename_i ex;cases hz;rw[ey]at J;exact yn m hn h1 h2 h3 h4 h5 (C.find a4) a5 E D J (.inl ⟨ex,rfl,rfl,rfl⟩) hc.1 hc.2.1 hc.2.2
         ·rename_i id ex;split at hz
          ·rename_i e' B xs Y;split at hz
           ·rename_i q;subst q;split at hz
            ·rename_i he;subst he;cases hz;rw[ey]at J;exact yn m hn h1 h2 h3 h4 h5 (C.find a4) a5 E D J (.inr ⟨id,ex,Y,rfl,rfl⟩) hc.1 hc.2.1 hc.2.2
            ·cases hz
           ·cases hz
          ·cases hz
         ·cases hz
        ·cases hz
       ·cases hz
      ·cases hz
     ·unfold zt at hd;split at hd
      ·rename_i β s0 ey;rw[ey]at J;split at hd
       ·rename_i tu a4;split at hd
        ·rename_i a5;split at hd
         ·rename_i ti a1;split at hd
          ·rename_i e hk;split at hd
           ·rename_i te N;split at hd
            ·rename_i M;split at hd
             ·rename_i ex;rw[ex]at D;cases hd;exact oE m hn (C.find a1) hk (C.find a4) a5 (C.find N) M.1 M.2 D J E (.inl ⟨rfl,rfl,rfl,rfl⟩) hc
             ·rename_i id ex;rw[ex]at D;split at hd
              ·rename_i e' xs Y;split at hd
               ·rename_i he;subst he;cases hd;exact oE m hn (C.find a1) hk (C.find a4) a5 (C.find N) M.1 M.2 D J E (.inr ⟨id,rfl,Y,rfl,rfl⟩) hc
               ·cases hd
              ·cases hd
             ·cases hd
            ·cases hd
           ·cases hd
          ·cases hd
         ·cases hd
        ·cases hd
       ·cases hd
      ·cases hd
    ·cases hd
   | clear =>
    simp only at hd;split at hd
    ·rename_i xo t ea et;have Z:args = #[xo]:=Array.ext' ea;have O:a3 = #[t]:=Array.ext' et;subst Z O;have D:=aV I xo;unfold Cp at hd;split at hd
     ·rename_i id ex;rw[ex]at D;split at hd
      ·rename_i K A kv Y;split at hd
       ·rename_i ti a1;split at hd
        ·rename_i kt O hk;cases hd;exact Cy m (C.find a1) hk E Y D
        ·cases hd
       ·cases hd
      ·cases hd
     ·cases hd
    ·cases hd
   | cap =>
    simp only at hd;split at hd
    ·rename_i xo t ea et;have Z:args = #[xo]:=Array.ext' ea;have O:a3 = #[t]:=Array.ext' et;subst Z O;have D:=aV I xo;unfold KX at hd;split at hd
     ·rename_i ex;rw[ex]at D;split at hd
      ·rename_i ti a1;split at hd
       ·rename_i e hk;cases hd;exact Ap m (C.find a1) hk E D
       ·cases hd
      ·cases hd
     ·cases hd
    ·cases hd
   | copy =>
    simp only at hd;split at hd
    ·rename_i xo yo t t2 ea et;have Z:args = #[xo,yo]:=Array.ext' ea;have O:a3 = #[t,t2]:=Array.ext' et;subst Z O;have D:=aV I xo;have J:=aV I yo;unfold G8 at hd;split at hd
     ·rename_i id lo sz ex;rw[ex]at D;split at hd
      ·rename_i e' B xs Y;split at hd
       ·rename_i e te A L;obtain⟨ti,h1,_,h2,h3,h4,h5⟩:=ca C L;split at hd
        ·rename_i ys b5;split at hd
         ·rename_i q;subst q;split at hd
          ·rename_i X;subst X;cases hd;exact zx m h1 h2 h3 h4 D J E Y b5
          ·cases hd
         ·cases hd
        ·cases hd
       ·cases hd
      ·cases hd
     ·cases hd
    ·cases hd
   | _=>cases hd
  | value f =>
   simp only at hd;unfold C3 at hd;split at hd
   ·rename_i fid fs q ef;have hf:=aV I f;rw[ef]at hf;split at hd
    ·split at hd
     ·rename_i b6 hl;cases hd;exact CP m E hf (jq (jo I args.toList)) hl hc
     ·cases hd
    ·cases hd
   ·cases hd
  | invoke _ _=>cases hd
 ·cases hd
theorem Fe(e:cg P tb)(m:Mem Bw w0 ρ φ h w)(q:eT n (Fr (own φ h) Bw w) ρ s a)(f:∀j,j<8→ρ (new+j)=none){o:Oper}{asm:Option Bool}{iM:Option wF}(p:dieOf iM=none){x:ag}{u:gZ}{c:Prop}
  (hd:Ej P tb new asm iM o.op s h=some (x,u,c)) (hc:c):Good P o a w (aF Bw w0 ρ φ h w new x u):=by
 unfold Ej at hd;split at hd
 ·rename_i r v;cases hd;exact ES e m q (f 0 (by omega)) v hc
 split at hd
 ·rename_i r v;cases hd;exact E9 e m q (f 0 (by omega)) v hc
 ·exact E8 e m q f p hd hc
theorem Ih(m:Mem Bw w0 ρ φ h w)(J:eT n (Fr (own φ h) Bw w) ρ s a)(B:∀j,j<8→ρ (new+j)=none){o:Oper}{asm:Option Bool}{iM:Option wF}{y:Value}(f:dying o.op iM=some y){x:ag}{u:gZ}{c:Prop}
  (hd:Ej P tb new asm iM o.op s h=some (x,u,c)) (hc:c):Ki P o a w y (fun L=>∃v,aF Bw w0 ρ φ h w new .unk u v L):=by
 refine Hq (tb:=tb) m J B f (x:=x) (u:=u) (c:=c) (asm:=asm) ?_ hc;unfold Ej at hd;split at hd
 ·rename_i r p;exfalso
  unfold dying at f;split at f
  ·rename_i c0 q C;split at f
   ·rename_i M z;rw[C]at p;obtain⟨callee,args,D⟩:=c0;simp only at z;subst z;simp only[pC]at p;cases p
   ·cases f
  ·cases f
 rename_i E;clear E;split at hd
 ·rename_i r p;exfalso
  unfold dying at f;split at f
  ·rename_i c0 q C;split at f
   ·rename_i M z;split at f
    ·rename_i A;simp only[Bool.and_eq_true]at A;rw[C]at p;obtain⟨callee,args,D⟩:=c0;simp only at z;subst z;simp only[jg]at p;unfold C3 at p;split at p
     ·rename_i e;cases e;rw[if_neg (fun I=>by rw[A.1.1]at I;cases I.1)]at p;cases p
     ·cases p
    ·cases f
   ·cases f
  ·cases f
 ·exact hd
theorem CI{s J:Nat→ag}{h h':Nat→Qz}{op:Op}{iM:Option wF}(B:∀x∈op.operands.toList,ev s x=ev J x)(key:∀x∈op.operands.toList,(¬((∃x,op = .move x)∨(∃x,op = .assign x)∨(∃x,op = .nilCheck x)∨∃t x f,op = .fieldAddr t x f))→∀i∈ids (ev s x),h i=h' i)
  (hl:∀c,op = .call c→∀X,(∀i∈bz X,∃x∈op.operands.toList,i∈ids (ev s x))→nU h X=nU h' X) (M:∀c,op = .call c→∀A,∀x∈op.operands.toList,fb h A (ev s x)=fb h' A (ev s x)) :
  jg P tb new iM op s h=jg P tb new iM op J h':=by
 cases op with
 | alloc t=>rfl
 | box t x=>simp only[jg,B x (by simp[Op.operands])]
 | build t N =>
  simp only[jg];have e:N.toList.map (fun p=>ev s p.2)=N.toList.map (fun p=>ev J p.2):=List.map_congr_left (fun p D=>B p.2 (by simp only[Op.operands,List.mem_map];exact⟨p,D,rfl⟩));rw[e]
 | load t x =>
  have C:=key x (by simp[Op.operands]) (by rintro(⟨_,e⟩ | ⟨_,e⟩ | ⟨_,e⟩ | ⟨_,_,_,e⟩) <;> cases e);simp only[jg,←B x (by simp[Op.operands])];unfold GF;split
  ·rfl
  ·rename_i id n i ex;rw[C id (by rw[ex];simp[ids])]
  ·rename_i id i sz off ex;rw[C id (by rw[ex];simp[ids])]
  ·rfl
 | store t x y =>
  have C:=key x (by simp[Op.operands]) (by rintro(⟨_,e⟩ | ⟨_,e⟩ | ⟨_,e⟩ | ⟨_,_,_,e⟩) <;> cases e);simp only[jg,←B x (by simp[Op.operands]),←B y (by simp[Op.operands])];unfold Cx;split
  ·rename_i id n i ex;rw[C id (by rw[ex];simp[ids])]
  ·rename_i id i sz off ex;rw[C id (by rw[ex];simp[ids])]
  ·rfl
 | nilCheck x=>simp only[jg,B x (by simp[Op.operands])]
 | fieldAddr t x f=>simp only[jg,B x (by simp[Op.operands])]
 | field t x f=>simp only[jg,B x (by simp[Op.operands])]
 | indexAddr t x i =>
  have C:=key x (by simp[Op.operands]) (by rintro(⟨_,e⟩ | ⟨_,e⟩ | ⟨_,e⟩ | ⟨_,_,_,e⟩) <;> cases e);simp only[jg,←B x (by simp[Op.operands]),←B i (by simp[Op.operands])];unfold Cb;split
  ·rfl
  ·rfl
  ·rename_i id j sz off ex;rw[C id (by rw[ex];simp[ids])]
  ·rename_i id ex;rw[C id (by rw[ex];simp[ids])]
  ·rfl
 | binOp o t x y t'=>simp only[jg,B x (by simp[Op.operands]),B y (by simp[Op.operands])]
 | convert st dt x =>
  have C:=key x (by simp[Op.operands]) (by rintro(⟨_,e⟩ | ⟨_,e⟩ | ⟨_,e⟩ | ⟨_,_,_,e⟩) <;> cases e);simp only[jg,←B x (by simp[Op.operands])];unfold Fy;split
  ·rename_i id ex;rw[C id (by rw[ex];simp[ids])]
  ·rfl
  ·rfl
 | slice t x V hi mx =>
  cases V with
  | none=>rfl
  | some V =>
   cases hi with
   | some _=>rfl
   | none =>
    cases mx with
    | some _=>rfl
    | none =>
     have C:=key x (by simp[Op.operands]) (by rintro(⟨_,e⟩ | ⟨_,e⟩ | ⟨_,e⟩ | ⟨_,_,_,e⟩) <;> cases e);simp only[jg,←B x (by simp[Op.operands]),←B V (by simp[Op.operands])];unfold CB;split
     ·rename_i id ex;rw[C id (by rw[ex];simp[ids])]
     ·rfl
 | makeFunc f fs cs =>
  simp only[jg];rw[List.map_congr_left (l:=cs.toList) (f:=ev s) (g:=ev J) (fun p D=>B p (by simp only[Op.operands,Array.toList_append,List.mem_append];exact .inr D)),List.map_congr_left (l:=fs.toList) (f:=ev s) (g:=ev J) (fun p D=>B p (by simp only[Op.operands,Array.toList_append,List.mem_append];exact .inl D))]
 | buildSlice t len N =>
  simp only[jg];have e:N.toList.map (fun p=>ev s p.2)=N.toList.map (fun p=>ev J p.2):=List.map_congr_left (fun p D=>B p.2 (by simp only[Op.operands,List.mem_map];exact⟨p,D,rfl⟩));rw[e]
 | lookup t x k a1=>simp only[jg,B x (by simp[Op.operands]),B k (by simp[Op.operands])]
 | call c =>
  obtain⟨callee,args,L⟩:=c;have v:∀x∈args.toList,x∈(Op.call { callee,args,argTypes:=L }).operands.toList:=fun x C=>by simp only[Op.operands,Call.operands,Array.toList_append,List.mem_append];exact .inr C
  have e:args.toList.map (ev s)=args.toList.map (ev J):=List.map_congr_left (fun p D=>B p (v p D));cases callee with
  | builtin b =>
   cases b with
   | append =>
    simp only[jg];split
    ·rename_i x y t u E _;have C:x∈args.toList:=by rw[E];simp
     have I:y∈args.toList:=by rw[E];simp
     rw[←B x (v x C),←B y (v y I)];have hk:=key x (v x C) (by rintro(⟨_,e⟩ | ⟨_,e⟩ | ⟨_,e⟩ | ⟨_,_,_,e⟩) <;> cases e);unfold Ju;cases Y:ev s x with
     | sl id =>
      unfold zt FQ;dsimp only;rw[hk id (by rw[Y];simp[ids])]
     | _=>rfl
    ·rfl
   | clear =>
    simp only[jg];split
    ·rename_i x t E _;have C:x∈args.toList:=by rw[E];simp
     rw[←B x (v x C)];have hk:=key x (v x C) (by rintro(⟨_,e⟩ | ⟨_,e⟩ | ⟨_,e⟩ | ⟨_,_,_,e⟩) <;> cases e);unfold Cp;split
     ·rename_i id ex;rw[hk id (by rw[ex];simp[ids])]
     ·rfl
    ·rfl
   | cap =>
    simp only[jg];split
    ·rename_i x t E _;have C:x∈args.toList:=by rw[E];simp
     rw[←B x (v x C)]
    ·rfl
   | len =>
    simp only[jg];split
    ·rename_i x t E _;have C:x∈args.toList:=by rw[E];simp
     rw[←B x (v x C)];have hk:=key x (v x C) (by rintro(⟨_,e⟩ | ⟨_,e⟩ | ⟨_,e⟩ | ⟨_,_,_,e⟩) <;> cases e);unfold JG;split
     ·rename_i id ex;rw[hk id (by rw[ex];simp[ids])]
     ·rfl
    ·rfl
   | copy =>
    simp only[jg];split
    ·rename_i x y t t2 E _;have C:x∈args.toList:=by rw[E];simp
     have I:y∈args.toList:=by rw[E];simp
     rw[←B x (v x C),←B y (v y I)];have hk:=key x (v x C) (by rintro(⟨_,e⟩ | ⟨_,e⟩ | ⟨_,e⟩ | ⟨_,_,_,e⟩) <;> cases e);unfold G8;split
     ·rename_i id V sz ex;rw[hk id (by rw[ex];simp[ids])];split
      ·split
       ·rename_i A _;rw[M _ rfl A y (v y I)]
       ·rfl
      ·rfl
     ·rfl
    ·rfl
   | _=>rfl
  | value f =>
   have hf:f∈(Op.call { callee:= .value f,args,argTypes:=L }).operands.toList:=by simp[Op.operands,Call.operands]
   simp only[jg];rw[←B f hf,←e];unfold C3;split
   ·rename_i fid fs q ef;split
    ·rw[hl _ rfl _ (fun i hi=>by
      obtain⟨y,I,hi⟩:=cK.1 hi;rw[List.mem_append]at I;rcases I with I | I
      ·exact⟨f,hf,by rw[ef];simp only[ids];exact cK.2 ⟨y,I,hi⟩⟩
      ·have O:i∈bz (gY tb (HC (some q)) L.toList (args.toList.map (ev s))):=cK.2 ⟨y,I,hi⟩;rw[nk]at O;obtain⟨z,hz,Z⟩:=cK.1 O;obtain⟨p,D,rfl⟩:=List.mem_map.1 hz;exact⟨p,v p D,Z⟩)]
    ·rfl
   ·rfl
  | invoke _ _=>rfl
 | _=>rfl
end
end Go.Tv
