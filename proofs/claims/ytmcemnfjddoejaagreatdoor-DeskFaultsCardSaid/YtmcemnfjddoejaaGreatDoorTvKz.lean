import Derived.Test.YtmcemnfjddoejaaGreatDoorTvL
import Derived.Test.YtmcemnfjddoejaaGreatDoorTvKnm
namespace Go.Tv
open Go Go.RowKit
def MG(tb:bP)(t:TypeId):Option (IntKind×Nat) :=
 match tb.find t with
 | some ti=>match ti.k with
  | .ar n e=>match tb.find e with
   | some c=>match c.k with
    | .int k=>if 16<n then some (k,n)else none
    | _=>none
   | none=>none
  | _=>none
 | none=>none
def KT(tb:bP)(t:TypeId):Option (IntKind×Nat) :=
 match MG tb t with
 | some r=>some r
 | none=>match tb.find t with
  | some ti=>match ti.k with
   | .st ((0,e)::_)=>MG tb e
   | _=>none
  | none=>none
def Ty.OZ:Ty→Bool
 | .prod (.arr _ _) _=>true
 | _=>false
def NG(fl:Bool)(tb:bP)(new:Nat)(t:TypeId)(len:Nat)(f:QV)(e:List ag):Qk :=
 match Br tb t with
 | some (_,c)=>if(fl || c.T.isNone)=true∧f=List.range len∧e.all (fun x=>(cellsOf x).all ag.cell && (cellsOf x).length == c.size)=true∧len*c.size≤16777216 then
   some (.sl new,[(new,some (.vrow len c.size (e.flatMap cellsOf)))],True)else none
 | none=>none
def LJ(tb:bP)(t:TypeId)(x:ag)(h:Nat→Qz):Qk :=
 match x with
 | .sl id=>match h id with
  | some (.vrow n _ _)=>match Br tb t with
   | some _=>some (.p false (.int .i64) (n:Int),[],True)
   | none=>none
  | _=>none
 | _=>none
def Lf(tb:bP)(t:TypeId)(x k:ag)(c:Bool):Qk :=
 match x,k with
 | .p _ (.mapi e j) q,.p _ (.int u) i=>match tb.find t with
  | some ti=>match ti.k with
   | .mp z A=>match tb.find z,tb.find A with
    | some B,some C=>match B.k with
     | .int f=>if f=e∧u=e∧C.T=some (.int j)then some (As j c (aU (α:=Int) (.int e) q i),[],True)else none
     | _=>none
    | _,_=>none
   | _=>none
  | none=>none
 | _,_=>none
def Bm(tb:bP)(new:Nat)(t u:TypeId)(x y:ag)(h:Nat→Qz):Qk :=
 match y with
 | .p _ .str s=>match tb.find u with
  | some q=>match q.k with
   | .str=>match tb.find t with
    | some ti=>match ti.k with
     | .sl e=>match tb.find e with
      | some c=>if c.T=some (.int .u8)∧c.bytes=1 then(match x with
       | .nils=>some (.sl new,[(new,some (.arr e (.int .u8) (cR s)))],([]:QK).length+List.length (α:=UInt8) s≤140737488355328)
       | .sl id=>match h id with
        | some (.arr z (.int .u8) j)=>if z=e then some (.sl new,[(id,none),(new,some (.arr e (.int .u8) (List.append (α:=Int) j (cR s))))],List.length (α:=Int) j+List.length (α:=UInt8) s≤140737488355328)else none
        | _=>none
       | _=>none)else none
      | none=>none
     | _=>none
    | none=>none
   | _=>none
  | none=>none
 | _=>none
def Jh(tb:bP)(new:Nat)(t u:TypeId)(x y:ag)(h:Nat→Qz):Qk :=
 match y with
 | .p _ (.int _) n=>match ib tb t,tb.find u with
  | some (e,j,A),some z=>match z.k with
   | .int _=>match x with
    | .nils=>some (.sl new,[(new,some (.arr e A (List.replicate (show Int from n).toNat A.zero)))],0≤(show Int from n)∧(([]:List A.den).length+(show Int from n).toNat)*j.bytes≤140737488355328∧([]:List A.den).length+(show Int from n).toNat≤9223372036854775807)
    | .sl id=>match h id with
     | some (.arr C B c)=>if q:B=A then(if C=e then some (.sl new,[(id,none),(new,some (.arr e A ((q ▸ c:List A.den)++List.replicate (show Int from n).toNat A.zero)))],0≤(show Int from n)∧((q ▸ c:List A.den).length+(show Int from n).toNat)*j.bytes≤140737488355328∧(q ▸ c:List A.den).length+(show Int from n).toNat≤9223372036854775807)else none)else none
     | _=>none
    | _=>none
   | _=>none
  | _,_=>none
 | _=>none
def Ly(tb:bP)(new:Nat)(t u:TypeId)(x y:ag)(h:Nat→Qz):Qk :=
 match Jh tb new t u x y h with
 | some r=>some r
 | none=>Bm tb new t u x y h
def ER(tb:bP)(t:TypeId)(x:ag)(h:Nat→Qz):Qk :=
 match x with
 | .mp id=>match h id with
  | some (.mpo K A _)=>match tb.find t with
   | some ti=>match ti.k with
    | .mp _ _=>some (.tup [],[(id,some (.mpo K A []))],True)
    | _=>none
   | none=>none
  | _=>none
 | _=>none
def M3(tb:bP)(t:TypeId)(x:ag):Qk :=
 match x with
 | .nils=>match tb.find t with
  | some ti=>match ti.k with
   | .sl _=>some (.p false (.int .i64) (0:Int),[],True)
   | _=>none
  | none=>none
 | _=>none
def H5(tb:bP)(new:Nat)(t:TypeId):Qk :=
 match KT tb t with
 | some (k,n)=>match tb.find t with
  | some ti=>if(ti.z.take n).all (My k)=true∧n≤ti.z.length then some (.adr new 0 ti.size 0,[(new,some (.lmp k n (dv n) (ti.z.drop n)))],True)else none
  | none=>none
 | none=>none
def MF(new:Nat)(x:ag):Qk :=
 match x with
 | .lag k n e c=>some (.adr new 0 (n+c.length) 0,[(new,some (.lmp k n e c))],True)
 | _=>none
def IS(tb:bP)(t:TypeId)(f:QV)(j:List ag):Qk :=
 match KT tb t with
 | some (k,n)=>match pG tb t f j with
  | some (.agg e,[],c)=>if(e.take n).all (My k)=true∧n≤e.length then some (.lag k n (dv n) (e.drop n),[],c)else none
  | _=>none
 | none=>none
def Ja(tb:bP)(t:TypeId)(x:ag)(h:Nat→Qz):Qk :=
 match x with
 | .loc β T y=>match tb.find t with
  | some ti=>if ti.T=some T∧T.scalar=true then some (.p β T y,[],True)else none
  | none=>none
 | .ada id 0 n i=>match h id with
  | some (.lmp k j e _)=>match tb.find t with
   | some ti=>match ti.k with
    | .int q=>if j=n∧q=k then some (.p false (.int k) (fA e i),[],True)else none
    | _=>none
   | none=>none
  | _=>none
 | .adr id i sz off=>match h id with
  | some (.lmp k n e c)=>match tb.find t with
   | some ti=>if ti.k.agg=true∧i*sz+off=0∧ti.size=n+c.length then some (.lag k n e c,[],True)
    else if n≤i*sz+off then(match eR ti c (i*sz+off - n)with
     | some y=>some (y,[],True)
     | none=>none)else none
   | none=>none
  | some (.vrow _ _ c)=>match tb.find t with
   | some ti=>match eR ti c (i*sz+off)with
    | some y=>some (y,[],True)
    | none=>none
   | none=>none
  | _=>none
 | _=>none
def ES(tb:bP)(t:TypeId)(x y:ag)(h:Nat→Qz):Qk :=
 match x with
 | .ada id 0 n i=>match h id with
  | some (.lmp k j e c)=>match y with
   | .p _ (.int q) v=>match tb.find t with
    | some ti=>if j=n∧q=k∧ti.size=1 then some (.unk,[(id,some (.lmp k j (tJ e i v) c))],True)else none
    | none=>none
   | _=>none
  | _=>none
 | .adr id i sz off=>match h id with
  | some (.lmp k n e c)=>match tb.find t with
   | some ti=>if(cellsOf y).all ag.cell=true∧(cellsOf y).length=ti.size∧n≤i*sz+off∧i*sz+off - n+ti.size≤c.length then
     some (.unk,[(id,some (.lmp k n e (wr c (i*sz+off - n) (cellsOf y))))],True)else none
   | none=>none
  | _=>none
 | _=>none
def MX(x:ag):Qk :=
 match x with
 | .loc β T y=>some (.loc β T y,[],True)
 | .p β (.ptr A) q=>if A.OZ=true then some (.loc β A (q.getD A.zero),[],q.isSome=true)else none
 | _=>none
def I7(tb:bP)(t:TypeId)(x:ag)(f:Nat):Qk :=
 match x with
 | .loc β T y=>match tb.find t with
  | some ti=>match ti.k with
   | .st c=>match c[f]? with
    | some (off,e)=>match tb.find e with
     | some j=>match j.T with
      | some T'=>match yt T' T y off with
       | some z=>some (.loc β T' z,[],True)
       | none=>none
      | none=>none
     | none=>none
    | none=>none
   | _=>none
  | none=>none
 | _=>none
def Gl(tb:bP)(t:TypeId)(x:ag)(f:Nat):Qk :=
 match x with
 | .agg c=>match tb.find t with
  | some ti=>match ti.k with
   | .st e=>match e[f]? with
    | some (off,j)=>match tb.find j with
     | some p=>match eR p c off with
      | some y=>some (y,[],True)
      | none=>none
     | none=>none
    | none=>none
   | _=>none
  | none=>none
 | _=>none
def En(tb:bP)(t:TypeId)(x i:ag)(h:Nat→Qz):Qk :=
 match x with
 | .p β (.slice (.arr k n)) q=>match i with
  | .p _ (.int _) m=>match ib tb t with
   | some (_,c,_)=>if n=c.size then some (.loc β (.arr k n) (q.getD (show Int from m).toNat (dv n)),[],0≤(show Int from m)∧(show Int from m)<q.length)else none
   | none=>none
  | _=>none
 | .loc β (.arr k n) q=>match i with
  | .p _ (.int _) m=>match tb.find t with
   | some ti=>match ti.k with
    | .ar u e=>match tb.find e with
     | some c=>if u=n∧c.size=1 then some (.loc β (.int k) (fA q (show Int from m).toNat),[],0≤(show Int from m)∧(show Int from m)<(n:Int))else none
     | none=>none
    | _=>none
   | none=>none
  | _=>none
 | .adr id j sz off=>match h id with
  | some (.lmp _ _ _ _)=>match i with
   | .p _ (.int _) m=>match tb.find t with
    | some ti=>match ti.k with
     | .ar n e=>match tb.find e with
      | some c=>if c.size=1 then some (.ada id (j*sz+off) n (show Int from m).toNat,[],0≤(show Int from m)∧(show Int from m)<(n:Int))else none
      | none=>none
     | _=>none
    | none=>none
   | _=>none
  | _=>none
 | .sl id=>match h id with
  | some (.vrow n sz _)=>match i with
   | .p _ (.int _) m=>match Br tb t with
    | some (_,c)=>if c.size=sz then some (.adr id (show Int from m).toNat sz 0,[],0≤(show Int from m)∧(show Int from m)<(n:Int))else none
    | none=>none
   | _=>none
  | _=>none
 | _=>none
def M5(P:Program)(tb:bP)(op:BinOp)(t:TypeId)(x y:ag):Qk :=
 match x,y with
 | .lag k n c [],.lag f j u []=>match tb.find t with
  | some ti=>match ti.k with
   | .ar z e=>match tb.find e with
    | some A=>match A.k with
     | .int B=>if q:j=n then(if z=n∧f=k∧B=k then(match HI op (JK c (q ▸ u))with
      | some r=>some (r,[],P.eqGuardType P.depth t=false)
      | none=>none)else none)else none
     | _=>none
    | none=>none
   | _=>none
  | none=>none
 | .p _ .flt a,.p _ .flt b=>match op with
  | .add=>some (.p false .flt (bW .add a b),[],True)
  | .sub=>some (.p false .flt (bW .sub a b),[],True)
  | .mul=>some (.p false .flt (bW .mul a b),[],True)
  | .quo=>some (.p false .flt (bW .quo a b),[],True)
  | _=>none
 | _,_=>none
def Ir(tb:bP)(st j:TypeId)(x:ag)(h:Nat→Qz):Qk :=
 match x with
 | .sl id=>match h id with
  | some (.arr q (.int .u8) c)=>if j=st then(match tb.find st with
   | some ti=>match ti.k with
    | .sl e=>match tb.find e with
     | some u=>match u.k with
      | .int .u8=>some (.sl id,[(id,some (.bytes q c)),(id,some (.bytes q c))],0<c.length)
      | _=>none
     | none=>none
    | _=>none
   | none=>none)else none
  | _=>none
 | .p _ .flt a=>match tb.find st,tb.find j with
  | some _,some z=>match z.k with
   | .int k=>some (.p false (.int k) ((o6 a).getD 0),[],(o6 a).isSome=true∧k.min≤(o6 a).getD 0∧(o6 a).getD 0≤k.max)
   | _=>none
  | _,_=>none
 | _=>none
def EU(tb:bP)(t:TypeId)(x:ag)(c:ag)(h:Nat→Qz):Qk :=
 match x with
 | .sl id=>match h id with
  | some (.arr _ _ e)=>match c with
   | .p _ (.int _) l=>match ib tb t with
    | some (_,j,_)=>some (.suf id (show Int from l).toNat j.size,[],0≤(show Int from l)∧(show Int from l)≤e.length)
    | none=>none
   | _=>none
  | _=>none
 | _=>none
def It(tb:bP)(t:TypeId)(x y:ag)(h:Nat→Qz):Qk :=
 match x with
 | .suf id c sz=>match h id with
  | some (.arr u B e)=>match ib tb t with
   | some (_,z,A)=>match eT h A y with
    | some j=>if q:B=A then(if sz=z.size then some (.p false (.int .i64) ((min j.length ((q ▸ e:List A.den).length - c):Nat):Int),[(id,some (.arr u A ((q ▸ e:List A.den).take c++(j.take ((q ▸ e:List A.den).length - c)++(q ▸ e:List A.den).drop (c+j.length)))))],True)else none)else none
    | none=>none
   | none=>none
  | _=>none
 | _=>none
def F8(P:Program)(iO:Option xQ)(f:ag)(e:List ag)(h:Nat→Qz):Qk :=
 match f,iO with
 | .bfn fid j,some q=>if q.own=false∧q.die=none∧q.fl.any (fun b=>b)=false then(match o5 h (j++e)with
  | some args=>some (q.r,[],Pure P fid args q.r)
  | none=>none)else none
 | _,_=>none
def Lb(fn:Fn)(first c:List ag):Qk :=
 match fn,first,c with
 | .func f,x::e,[]=>some (.bfn f (x::e),[],True)
 | _,_,_=>none
def jl(P:Program)(tb:bP)(new:Nat)(iO:Option xQ)(op:Op)(s:Nat→ag)(h:Nat→Qz):Qk :=
 match op with
 | .alloc t=>H5 tb new t
 | .box _ x=>MF new (ev s x)
 | .build t e=>IS tb t (e.toList.map (·.1)) (e.toList.map fun p=>ev s p.2)
 | .load t x=>Ja tb t (ev s x) h
 | .store t x y=>ES tb t (ev s x) (ev s y) h
 | .nilCheck x=>MX (ev s x)
 | .fieldAddr t x f=>I7 tb t (ev s x) f
 | .field t x f=>Gl tb t (ev s x) f
 | .indexAddr t x i=>En tb t (ev s x) (ev s i) h
 | .binOp op t x y _=>M5 P tb op t (ev s x) (ev s y)
 | .convert st z x=>Ir tb st z (ev s x) h
 | .slice t x (some A) none none=>EU tb t (ev s x) (ev s A) h
 | .makeFunc fn first j=>Lb fn (first.toList.map (ev s)) (j.toList.map (ev s))
 | .buildSlice t len e=>NG iO.isSome tb new t len (e.toList.map (·.1)) (e.toList.map fun p=>ev s p.2)
 | .lookup t x k q=>Lf tb t (ev s x) (ev s k) q
 | .call c=>match c.callee with
  | .builtin .len=>match c.args.toList,c.argTypes.toList with
   | [x],[t]=>LJ tb t (ev s x) h
   | _,_=>none
  | .builtin .append=>match c.args.toList,c.argTypes.toList with
   | [x,y],[t,u]=>Ly tb new t u (ev s x) (ev s y) h
   | _,_=>none
  | .builtin .clear=>match c.args.toList,c.argTypes.toList with
   | [x],[t]=>ER tb t (ev s x) h
   | _,_=>none
  | .builtin .cap=>match c.args.toList,c.argTypes.toList with
   | [x],[t]=>M3 tb t (ev s x)
   | _,_=>none
  | .builtin .copy=>match c.args.toList,c.argTypes.toList with
   | [x,y],[t,_]=>It tb t (ev s x) (ev s y) h
   | _,_=>none
  | .value f=>F8 P iO (ev s f) (gY tb (Kq iO) c.argTypes.toList (c.args.toList.map (ev s))) h
  | _=>none
 | _=>none
def Gy(P:Program)(tb:bP)(new:Nat)(asm:Option Bool)(iO:Option xQ)(op:Op)(s:Nat→ag)(h:Nat→Qz):Qk :=
 match qz tb new iO.isSome op s h with
 | some r=>some r
 | none=>match jl P tb new iO op s h with
  | some r=>some r
  | none=>gV P tb new asm iO op s h
theorem Good.imp{P:Program}{o:Oper}{a:Act}{w:World}{p q:Value→World→Prop}(h:Good P o a w p)(j:∀v w',p v w'→q v w'):Good P o a w q:=fun K Q hk=>h K Q fun v w' z=>hk v w' (j v w' z)
section
variable{P:Program}{tb:bP}{Bw:Nat→Prop}{w0:cu P}{ρ:Nat→QW}{φ:Nat→Nat→Prop}{h:Nat→Qz}{w:World}{new:Nat}{n:NS}{s:Nat→ag}{a:Act}
theorem aG.val(f:ag→ag){x:ag}(B:∀F ρ v,V F ρ x v→V F ρ (f x) v){u:hD}{v:Value}{w':World}(C:aG Bw w0 ρ φ h w new x u v w'):aG Bw w0 ρ φ h w new (f x) u v w':=by
 obtain⟨j,z,D,E,I,J,L⟩:=C;exact⟨j,z,D,E,I,J,B _ _ _ L⟩
theorem zp(f:bV P tb)(m:Mem Bw w0 ρ φ h w)(A:bT n (Fr (own φ h) Bw w) ρ s a){o:Oper}{t:TypeId}{q:Array (Nat×Operand)}(B:o.op = .build t q){x:ag}{u:hD}{c:Prop}
  (hd:pG tb t (q.toList.map (·.1)) (q.toList.map fun p=>ev s p.2)=some (x,u,c)):Good P o a w (aG Bw w0 ρ φ h w new x u):=by
 unfold pG at hd;split at hd
 ·rename_i ti ht;split at hd
  ·rename_i D hk;split at hd
   ·rename_i C j;cases hd;have:=jF A (q.toList.map (·.2));simp only[List.map_map]at this;exact yA m f (f.find ht) hk B this j
   ·cases hd
  ·rename_i n e hk;split at hd
   ·rename_i E z;split at hd
    ·rename_i C j;cases hd;have:=jF A (q.toList.map (·.2));simp only[List.map_map]at this;exact uR m f (f.find ht) hk (f.find z) B this j
    ·cases hd
   ·cases hd
  ·cases hd
 ·cases hd
theorem GB(C:bV P tb)(m:Mem Bw w0 ρ φ h w)(I:bT n (Fr (own φ h) Bw w) ρ s a)(hn:ρ new=none){o:Oper}{iO:Option xQ}{x:ag}{u:hD}{c:Prop}
  (hd:jl P tb new iO o.op s h=some (x,u,c)) (O:c):Good P o a w (aG Bw w0 ρ φ h w new x u):=by
 unfold jl at hd;split at hd
 ·-- alloc
  rename_i t E;unfold H5 at hd;split at hd
  ·split at hd
   ·rename_i ti ht;split at hd
    ·rename_i hz;cases hd;exact Cz m hn (C.find ht) E hz.1 hz.2
    ·cases hd
   ·cases hd
  ·cases hd
 ·-- box
  rename_i t xo E;unfold MF at hd;split at hd
  ·rename_i k n xs cs ex;have D:=aX I xo;rw[ex]at D;cases hd;exact Gu m hn D E _
  ·cases hd
 ·-- build
  rename_i t ps E;unfold IS at hd;split at hd
  ·split at hd
   ·rename_i ds c' hb;split at hd
    ·rename_i hz;cases hd;refine(zp (new:=new) C m I E hb).imp fun v w' hp=>?_
     exact aG.val (fun _=> .lag _ _ (dv _) (ds.drop _)) (fun F ρ v hv=>F4 hz.1 hz.2 hv) hp
    ·cases hd
   ·cases hd
  ·cases hd
 ·-- load
  rename_i t xo E;have D:=aX I xo;unfold Ja at hd;split at hd
  ·rename_i β T y ex;rw[ex]at D;split at hd
   ·rename_i ti ht;split at hd
    ·rename_i hT;cases hd;exact Ar m (C.find ht) D E hT.1 hT.2
    ·cases hd
   ·cases hd
  ·rename_i id n i ex;rw[ex]at D;split at hd
   ·rename_i k n' xs cs hb;split at hd
    ·rename_i ti ht;split at hd
     ·rename_i k2 hk;split at hd
      ·rename_i M;obtain⟨rfl,rfl⟩:=M;cases hd;exact EI m (C.find ht) hk D E hb
      ·cases hd
     ·cases hd
    ·cases hd
   ·cases hd
  ·rename_i id i sz off ex;rw[ex]at D;split at hd
   ·rename_i k n xs cs hb;split at hd
    ·rename_i ti ht;split at hd
     ·rename_i M;cases hd;exact BQ m (C.find ht) M.1 D E hb M.2.1 M.2.2
     ·split at hd
      ·rename_i M;split at hd
       ·rename_i y J;cases hd;exact By m (C.find ht) D E hb (by omega) J
       ·cases hd
      ·cases hd
    ·cases hd
   ·rename_i n b8 cs hb;split at hd
    ·rename_i ti ht;split at hd
     ·rename_i y J;cases hd;exact AH m (C.find ht) D E hb J
     ·cases hd
    ·cases hd
   ·cases hd
  ·cases hd
 ·-- store
  rename_i t xo yo E;have D:=aX I xo;have J:=aX I yo;unfold ES at hd;split at hd
  ·rename_i id n i ex;rw[ex]at D;split at hd
   ·rename_i k n' xs cs hb;split at hd
    ·rename_i β k2 v ey;rw[ey]at J;split at hd
     ·rename_i ti ht;split at hd
      ·rename_i M;obtain⟨rfl,rfl,a9⟩:=M;cases hd;exact Dg m (C.find ht) a9 D J E hb
      ·cases hd
     ·cases hd
    ·cases hd
   ·cases hd
  ·rename_i id i sz off ex;rw[ex]at D;split at hd
   ·rename_i k n xs cs hb;split at hd
    ·rename_i ti ht;split at hd
     ·rename_i M;obtain⟨q1,q2,q3,q4⟩:=M;cases hd;exact AA m (C.find ht) D J q1 E hb q2 (by omega) q4
     ·cases hd
    ·cases hd
   ·cases hd
  ·cases hd
 ·-- nilCheck
  rename_i xo E;have D:=aX I xo;unfold MX at hd;split at hd
  ·rename_i β T y ex;rw[ex]at D;cases hd;exact AG m D E
  ·rename_i β A q ex;rw[ex]at D;split at hd
   ·cases hd;exact DR m D E O
   ·cases hd
  ·cases hd
 ·-- fieldAddr
  rename_i t xo f E;have D:=aX I xo;unfold I7 at hd;split at hd
  ·rename_i β T y ex;rw[ex]at D;split at hd
   ·rename_i ti ht;split at hd
    ·rename_i fs hk;split at hd
     ·rename_i off ft hf;split at hd
      ·split at hd
       ·split at hd
        ·rename_i z hz;cases hd;exact yY m (C.find ht) D E hk hf hz
        ·cases hd
       ·cases hd
      ·cases hd
     ·cases hd
    ·cases hd
   ·cases hd
  ·cases hd
 ·-- field
  rename_i t xo f E;have D:=aX I xo;unfold Gl at hd;split at hd
  ·rename_i cs ex;rw[ex]at D;split at hd
   ·rename_i ti ht;split at hd
    ·rename_i fs hk;split at hd
     ·rename_i off ft hf;split at hd
      ·rename_i fi aa;split at hd
       ·rename_i y J;cases hd;exact Fc m (C.find ht) D E hk hf (C.find aa) J
       ·cases hd
      ·cases hd
     ·cases hd
    ·cases hd
   ·cases hd
  ·cases hd
 ·-- indexAddr
  rename_i t xo io E;have D:=aX I xo;have hi:=aX I io;unfold En at hd;split at hd
  ·rename_i β k n xs ex;rw[ex]at D;split at hd
   ·rename_i a3 k' mm ei;rw[ei]at hi;split at hd
    ·rename_i e te A L;obtain⟨ti,h1,_,h2,h3,h4,h5⟩:=bX C L;split at hd
     ·rename_i Y;cases hd;exact uC m h1 h2 h3 D hi E Y O.1 O.2
     ·cases hd
    ·cases hd
   ·cases hd
  ·rename_i β k n xs ex;rw[ex]at D;split at hd
   ·rename_i a3 k' mm ei;rw[ei]at hi;split at hd
    ·rename_i ti ht;split at hd
     ·rename_i n' e hk;split at hd
      ·rename_i te N;split at hd
       ·rename_i M;obtain⟨rfl,Y⟩:=M;cases hd;exact za m (C.find ht) hk (C.find N) Y D hi E O.1 O.2
       ·cases hd
      ·cases hd
     ·cases hd
    ·cases hd
   ·cases hd
  ·rename_i id j sz off ex;rw[ex]at D;split at hd
   ·rename_i kk nn xs cs hb;split at hd
    ·rename_i a3 k' mm ei;rw[ei]at hi;split at hd
     ·rename_i ti ht;split at hd
      ·rename_i n e hk;split at hd
       ·rename_i te N;split at hd
        ·rename_i Y;cases hd;exact BA m (C.find ht) hk (C.find N) Y D hb hi E O
        ·cases hd
       ·cases hd
      ·cases hd
     ·cases hd
    ·cases hd
   ·cases hd
  ·rename_i id ex;rw[ex]at D;split at hd
   ·rename_i n sz cs hb;split at hd
    ·rename_i a3 k' mm ei;rw[ei]at hi;split at hd
     ·rename_i e te L;obtain⟨ti,h1,h2,h3⟩:=iB C L;split at hd
      ·rename_i Y;subst Y;cases hd;exact zn m h1 h2 h3 D hb hi E O.1 O.2
      ·cases hd
     ·cases hd
    ·cases hd
   ·cases hd
  ·cases hd
 ·-- binOp
  rename_i op t xo yo t' E;have D:=aX I xo;have J:=aX I yo;unfold M5 at hd;split at hd
  ·rename_i k n xs k2 n2 ys ex ey;rw[ex]at D;rw[ey]at J;split at hd
   ·rename_i ti ht;split at hd
    ·rename_i n' e hk;split at hd
     ·rename_i te N;split at hd
      ·rename_i k' ac;split at hd
       ·rename_i q;subst q;split at hd
        ·rename_i M;obtain⟨rfl,rfl,rfl⟩:=M;split at hd
         ·rename_i r hr;cases hd;simp only[V]at D J;obtain⟨vs,e1,l1,_⟩:=D;obtain⟨us,e2,l2,_⟩:=J;obtain rfl:=List.eq_nil_of_length_eq_zero l1;obtain rfl:=List.eq_nil_of_length_eq_zero l2;rw[List.append_nil]at e1 e2;obtain⟨z,h1,h2⟩:=sv (P:=P) (w:=w) (F:=Fr (own φ h) Bw w) (ρ:=ρ) (xo:=xo) (yo:=yo) hr (run_eqGuard_agg w op t xo yo _ _ O) (Hr (C.find ht) hk (C.find N) ac xs ys) ⟨rfl,rfl⟩;exact Good.aH (v:=z) (w':=w) (by simp only[execOp,E,e1,e2];rw[Sem.run_bind,h1];rfl) (aG.pure m h2)
         ·cases hd
        ·cases hd
       ·cases hd
      ·cases hd
     ·cases hd
    ·cases hd
   ·cases hd
  ·rename_i β p a3 q ex ey;rw[ex]at D;rw[ey]at J;split at hd
   ·cases hd;exact ua m (.inl rfl) E D J
   ·cases hd;exact ua m (.inr (.inl rfl)) E D J
   ·cases hd;exact ua m (.inr (.inr (.inl rfl))) E D J
   ·cases hd;exact ua m (.inr (.inr (.inr rfl))) E D J
   ·cases hd
  ·cases hd
 ·-- convert
  rename_i st dt xo E;have D:=aX I xo;unfold Ir at hd;split at hd
  ·rename_i id ex;rw[ex]at D;split at hd
   ·rename_i et xs hi;split at hd
    ·rename_i ad;subst ad;split at hd
     ·rename_i ti a2;split at hd
      ·rename_i e hk;split at hd
       ·rename_i te N;split at hd
        ·rename_i ax;cases hd;exact zq m (C.find a2) hk (C.find N) ax D E hi O
        ·cases hd
       ·cases hd
      ·cases hd
     ·cases hd
    ·cases hd
   ·cases hd
  ·rename_i β p ex;rw[ex]at D;split at hd
   ·rename_i si di b1 b2;split at hd
    ·rename_i k hk;cases hd;exact Dh m (C.find b1) (C.find b2) hk E D O
    ·cases hd
   ·cases hd
  ·cases hd
 ·-- slice
  rename_i t xo lo E;have D:=aX I xo;have hl:=aX I lo;unfold EU at hd;split at hd
  ·rename_i id ex;rw[ex]at D;split at hd
   ·rename_i be A xs Z;split at hd
    ·rename_i β k l el;rw[el]at hl;split at hd
     ·rename_i e te A' L;obtain⟨ti,h1,_,h2,h3,h4,h5⟩:=bX C L;cases hd;exact C8 m h1 h2 h3 E Z D hl O.1 O.2
     ·cases hd
    ·cases hd
   ·cases hd
  ·cases hd
 ·-- makeFunc
  rename_i fn first a7 E
  unfold Lb at hd;split at hd
  ·rename_i f y ys ef ec;cases hd;have a8:a7 = #[]:=by
    cases a7 with
    | mk l=>cases l with
     | nil=>rfl
     | cons _ _=>simp at ec
   subst a8;have:=jF I first.toList
   rw[ef]at this;exact yV m E this
  ·cases hd
 ·-- buildSlice
  rename_i t len ps E;unfold NG at hd;split at hd
  ·rename_i e te L;obtain⟨ti,h1,h2,h3⟩:=iB C L;split at hd
   ·rename_i M;cases hd;have:=jF I (ps.toList.map (·.2));simp only[List.map_map]at this;exact yW m hn h1 h2 h3 E M.2.1 this (fun x D=>by
     have:=(List.all_eq_true.1 M.2.2.1) x D;simp only[Bool.and_eq_true,beq_iff_eq]at this;exact this) M.2.2.2
   ·cases hd
  ·cases hd
 ·-- lookup
  rename_i t xo ko b9 E;have D:=aX I xo;have hk:=aX I ko;unfold Lf at hd;split at hd
  ·rename_i β k1 k2 kv a3 k' i ex ek;rw[ex]at D;rw[ek]at hk;split at hd
   ·rename_i ti ht;split at hd
    ·rename_i kt et b3;split at hd
     ·rename_i tk te b4 N;split at hd
      ·rename_i bi b5;split at hd
       ·rename_i M;obtain⟨rfl,rfl,hT⟩:=M;cases hd;exact Bg m (C.find ht) b3 (C.find b4) b5 (C.find N) hT E D hk
       ·cases hd
      ·cases hd
     ·cases hd
    ·cases hd
   ·cases hd
  ·cases hd
 ·-- call
  rename_i c0 E;obtain⟨callee,args,a4⟩:=c0;cases callee with
  | builtin b =>
   cases b with
   | len =>
    simp only at hd;split at hd
    ·rename_i xo t ea et;have a1:args = #[xo]:=Array.ext' ea;have X:a4 = #[t]:=Array.ext' et;subst a1 X;have D:=aX I xo;unfold LJ at hd;split at hd
     ·rename_i id ex;rw[ex]at D;split at hd
      ·rename_i n sz cs hb;split at hd
       ·rename_i r L;obtain⟨e,te⟩:=r;obtain⟨ti,h1,h2,h3⟩:=iB C L;cases hd;exact Dn m h1 h2 D hb E
       ·cases hd
      ·cases hd
     ·cases hd
    ·cases hd
   | append =>
    simp only at hd;split at hd
    ·rename_i xo yo t u ea et;have a1:args = #[xo,yo]:=Array.ext' ea;have X:a4 = #[t,u]:=Array.ext' et;subst a1 X;have D:=aX I xo;have J:=aX I yo;unfold Ly at hd;split at hd
     ·rename_i r hz;cases hd;unfold Jh at hz;split at hz
      ·rename_i β k1 n ey;split at hz
       ·rename_i e te A tu L a5;obtain⟨ti,h1,_,h2,h3,h4,h5⟩:=bX C L;split at hz
        ·rename_i k2 a6;split at hz
         ·rename_i ex;cases hz;rw[ey]at J;exact Ah m hn h1 h2 h3 h4 h5 (C.find a5) a6 E D J (.inl ⟨ex,rfl,rfl,rfl⟩) O.1 O.2.1 O.2.2
         ·rename_i id ex;split at hz
          ·rename_i e' B xs Z;split at hz
           ·rename_i q;subst q;split at hz
            ·rename_i he;subst he;cases hz;rw[ey]at J;exact Ah m hn h1 h2 h3 h4 h5 (C.find a5) a6 E D J (.inr ⟨id,ex,Z,rfl,rfl⟩) O.1 O.2.1 O.2.2
            ·cases hz
           ·cases hz
          ·cases hz
         ·cases hz
        ·cases hz
       ·cases hz
      ·cases hz
     ·unfold Bm at hd;split at hd
      ·rename_i β s0 ey;rw[ey]at J;split at hd
       ·rename_i tu a5;split at hd
        ·rename_i a6;split at hd
         ·rename_i ti a2;split at hd
          ·rename_i e hk;split at hd
           ·rename_i te N;split at hd
            ·rename_i M;split at hd
             ·rename_i ex;rw[ex]at D;cases hd;exact pF m hn (C.find a2) hk (C.find a5) a6 (C.find N) M.1 M.2 D J E (.inl ⟨rfl,rfl,rfl,rfl⟩) O
             ·rename_i id ex;rw[ex]at D;split at hd
              ·rename_i e' xs Z;split at hd
               ·rename_i he;subst he;cases hd;exact pF m hn (C.find a2) hk (C.find a5) a6 (C.find N) M.1 M.2 D J E (.inr ⟨id,rfl,Z,rfl,rfl⟩) O
               ·cases hd
              ·cases hd
             ·cases hd
            ·cases hd
           ·cases hd
          ·cases hd
         ·cases hd
        ·cases hd
       ·cases hd
      ·cases hd
    ·cases hd
   | clear =>
    simp only at hd;split at hd
    ·rename_i xo t ea et;have a1:args = #[xo]:=Array.ext' ea;have X:a4 = #[t]:=Array.ext' et;subst a1 X;have D:=aX I xo;unfold ER at hd;split at hd
     ·rename_i id ex;rw[ex]at D;split at hd
      ·rename_i K A kv Z;split at hd
       ·rename_i ti a2;split at hd
        ·rename_i kt X hk;cases hd;exact EA m (C.find a2) hk E Z D
        ·cases hd
       ·cases hd
      ·cases hd
     ·cases hd
    ·cases hd
   | cap =>
    simp only at hd;split at hd
    ·rename_i xo t ea et;have a1:args = #[xo]:=Array.ext' ea;have X:a4 = #[t]:=Array.ext' et;subst a1 X;have D:=aX I xo;unfold M3 at hd;split at hd
     ·rename_i ex;rw[ex]at D;split at hd
      ·rename_i ti a2;split at hd
       ·rename_i e hk;cases hd;exact Cn m (C.find a2) hk E D
       ·cases hd
      ·cases hd
     ·cases hd
    ·cases hd
   | copy =>
    simp only at hd;split at hd
    ·rename_i xo yo t t2 ea et;have a1:args = #[xo,yo]:=Array.ext' ea;have X:a4 = #[t,t2]:=Array.ext' et;subst a1 X;have D:=aX I xo;have J:=aX I yo;unfold It at hd;split at hd
     ·rename_i id lo sz ex;rw[ex]at D;split at hd
      ·rename_i e' B xs Z;split at hd
       ·rename_i e te A L;obtain⟨ti,h1,_,h2,h3,h4,h5⟩:=bX C L;split at hd
        ·rename_i ys b6;split at hd
         ·rename_i q;subst q;split at hd
          ·rename_i Y;subst Y;cases hd;exact A3 m h1 h2 h3 h4 D J E Z b6
          ·cases hd
         ·cases hd
        ·cases hd
       ·cases hd
      ·cases hd
     ·cases hd
    ·cases hd
   | _=>cases hd
  | value f =>
   simp only at hd;unfold F8 at hd;split at hd
   ·rename_i fid fs q ef;have hf:=aX I f;rw[ef]at hf;split at hd
    ·split at hd
     ·rename_i b7 hl;cases hd;exact Fe m E hf (jA (jF I args.toList)) hl O
     ·cases hd
    ·cases hd
   ·cases hd
  | invoke _ _=>cases hd
 ·cases hd
theorem HT(e:bV P tb)(m:Mem Bw w0 ρ φ h w)(q:bT n (Fr (own φ h) Bw w) ρ s a)(f:∀j,j<8→ρ (new+j)=none){o:Oper}{asm:Option Bool}{iO:Option xQ}(p:dieOf iO=none){x:ag}{u:hD}{c:Prop}
  (hd:Gy P tb new asm iO o.op s h=some (x,u,c)) (v:c):Good P o a w (aG Bw w0 ρ φ h w new x u):=by
 unfold Gy at hd;split at hd
 ·rename_i r z;cases hd;exact GV e m q (f 0 (by omega)) z v
 split at hd
 ·rename_i r z;cases hd;exact GB e m q (f 0 (by omega)) z v
 ·exact Hz e m q f p hd v
theorem Ko(m:Mem Bw w0 ρ φ h w)(J:bT n (Fr (own φ h) Bw w) ρ s a)(B:∀j,j<8→ρ (new+j)=none){o:Oper}{asm:Option Bool}{iO:Option xQ}{y:Value}(f:dying o.op iO=some y){x:ag}{u:hD}{c:Prop}
  (hd:Gy P tb new asm iO o.op s h=some (x,u,c)) (L:c):Mx P o a w y (fun M=>∃v,aG Bw w0 ρ φ h w new .unk u v M):=by
 refine Ih (tb:=tb) m J B f (x:=x) (u:=u) (c:=c) (asm:=asm) ?_ L;unfold Gy at hd;split at hd
 ·rename_i r p;exfalso
  unfold dying at f;split at f
  ·rename_i c0 q C;split at f
   ·rename_i N z;rw[C]at p;obtain⟨callee,args,D⟩:=c0;simp only at z;subst z;simp only[qz]at p;cases p
   ·cases f
  ·cases f
 rename_i E;clear E;split at hd
 ·rename_i r p;exfalso
  unfold dying at f;split at f
  ·rename_i c0 q C;split at f
   ·rename_i N z;split at f
    ·rename_i A;simp only[Bool.and_eq_true]at A;rw[C]at p;obtain⟨callee,args,D⟩:=c0;simp only at z;subst z;simp only[jl]at p;unfold F8 at p;split at p
     ·rename_i e;cases e;rw[if_neg (fun I=>by rw[A.1.1]at I;cases I.1)]at p;cases p
     ·cases p
    ·cases f
   ·cases f
  ·cases f
 ·exact hd
theorem EM{s J:Nat→ag}{h h':Nat→Qz}{op:Op}{iO:Option xQ}(B:∀x∈op.operands.toList,ev s x=ev J x)(key:∀x∈op.operands.toList,(¬((∃x,op = .move x)∨(∃x,op = .assign x)∨(∃x,op = .nilCheck x)∨∃t x f,op = .fieldAddr t x f))→∀i∈ids (ev s x),h i=h' i)
  (hl:∀c,op = .call c→∀X,(∀i∈bA X,∃x∈op.operands.toList,i∈ids (ev s x))→o5 h X=o5 h' X) (M:∀c,op = .call c→∀A,∀x∈op.operands.toList,eT h A (ev s x)=eT h' A (ev s x)) :
  jl P tb new iO op s h=jl P tb new iO op J h':=by
 cases op with
 | alloc t=>rfl
 | box t x=>simp only[jl,B x (by simp[Op.operands])]
 | build t N =>
  simp only[jl];have e:N.toList.map (fun p=>ev s p.2)=N.toList.map (fun p=>ev J p.2):=List.map_congr_left (fun p D=>B p.2 (by simp only[Op.operands,List.mem_map];exact⟨p,D,rfl⟩));rw[e]
 | load t x =>
  have C:=key x (by simp[Op.operands]) (by rintro(⟨_,e⟩ | ⟨_,e⟩ | ⟨_,e⟩ | ⟨_,_,_,e⟩) <;> cases e);simp only[jl,←B x (by simp[Op.operands])];unfold Ja;split
  ·rfl
  ·rename_i id n i ex;rw[C id (by rw[ex];simp[ids])]
  ·rename_i id i sz off ex;rw[C id (by rw[ex];simp[ids])]
  ·rfl
 | store t x y =>
  have C:=key x (by simp[Op.operands]) (by rintro(⟨_,e⟩ | ⟨_,e⟩ | ⟨_,e⟩ | ⟨_,_,_,e⟩) <;> cases e);simp only[jl,←B x (by simp[Op.operands]),←B y (by simp[Op.operands])];unfold ES;split
  ·rename_i id n i ex;rw[C id (by rw[ex];simp[ids])]
  ·rename_i id i sz off ex;rw[C id (by rw[ex];simp[ids])]
  ·rfl
 | nilCheck x=>simp only[jl,B x (by simp[Op.operands])]
 | fieldAddr t x f=>simp only[jl,B x (by simp[Op.operands])]
 | field t x f=>simp only[jl,B x (by simp[Op.operands])]
 | indexAddr t x i =>
  have C:=key x (by simp[Op.operands]) (by rintro(⟨_,e⟩ | ⟨_,e⟩ | ⟨_,e⟩ | ⟨_,_,_,e⟩) <;> cases e);simp only[jl,←B x (by simp[Op.operands]),←B i (by simp[Op.operands])];unfold En;split
  ·rfl
  ·rfl
  ·rename_i id j sz off ex;rw[C id (by rw[ex];simp[ids])]
  ·rename_i id ex;rw[C id (by rw[ex];simp[ids])]
  ·rfl
 | binOp o t x y t'=>simp only[jl,B x (by simp[Op.operands]),B y (by simp[Op.operands])]
 | convert st dt x =>
  have C:=key x (by simp[Op.operands]) (by rintro(⟨_,e⟩ | ⟨_,e⟩ | ⟨_,e⟩ | ⟨_,_,_,e⟩) <;> cases e);simp only[jl,←B x (by simp[Op.operands])];unfold Ir;split
  ·rename_i id ex;rw[C id (by rw[ex];simp[ids])]
  ·rfl
  ·rfl
 | slice t x V hi mx =>
  cases V with
  | none=>rfl
  | some V =>
   cases hi with
   | some _=>rfl
   | none =>
    cases mx with
    | some _=>rfl
    | none =>
     have C:=key x (by simp[Op.operands]) (by rintro(⟨_,e⟩ | ⟨_,e⟩ | ⟨_,e⟩ | ⟨_,_,_,e⟩) <;> cases e);simp only[jl,←B x (by simp[Op.operands]),←B V (by simp[Op.operands])];unfold EU;split
     ·rename_i id ex;rw[C id (by rw[ex];simp[ids])]
     ·rfl
 | makeFunc f fs cs =>
  simp only[jl];rw[List.map_congr_left (l:=cs.toList) (f:=ev s) (g:=ev J) (fun p D=>B p (by simp only[Op.operands,Array.toList_append,List.mem_append];exact .inr D)),List.map_congr_left (l:=fs.toList) (f:=ev s) (g:=ev J) (fun p D=>B p (by simp only[Op.operands,Array.toList_append,List.mem_append];exact .inl D))]
 | buildSlice t len N =>
  simp only[jl];have e:N.toList.map (fun p=>ev s p.2)=N.toList.map (fun p=>ev J p.2):=List.map_congr_left (fun p D=>B p.2 (by simp only[Op.operands,List.mem_map];exact⟨p,D,rfl⟩));rw[e]
 | lookup t x k a1=>simp only[jl,B x (by simp[Op.operands]),B k (by simp[Op.operands])]
 | call c =>
  obtain⟨callee,args,L⟩:=c;have v:∀x∈args.toList,x∈(Op.call { callee,args,argTypes:=L }).operands.toList:=fun x C=>by simp only[Op.operands,Call.operands,Array.toList_append,List.mem_append];exact .inr C
  have e:args.toList.map (ev s)=args.toList.map (ev J):=List.map_congr_left (fun p D=>B p (v p D));cases callee with
  | builtin b =>
   cases b with
   | append =>
    simp only[jl];split
    ·rename_i x y t u E _;have C:x∈args.toList:=by rw[E];simp
     have I:y∈args.toList:=by rw[E];simp
     rw[←B x (v x C),←B y (v y I)];have hk:=key x (v x C) (by rintro(⟨_,e⟩ | ⟨_,e⟩ | ⟨_,e⟩ | ⟨_,_,_,e⟩) <;> cases e);unfold Ly;cases Y:ev s x with
     | sl id =>
      unfold Bm Jh;dsimp only;rw[hk id (by rw[Y];simp[ids])]
     | _=>rfl
    ·rfl
   | clear =>
    simp only[jl];split
    ·rename_i x t E _;have C:x∈args.toList:=by rw[E];simp
     rw[←B x (v x C)];have hk:=key x (v x C) (by rintro(⟨_,e⟩ | ⟨_,e⟩ | ⟨_,e⟩ | ⟨_,_,_,e⟩) <;> cases e);unfold ER;split
     ·rename_i id ex;rw[hk id (by rw[ex];simp[ids])]
     ·rfl
    ·rfl
   | cap =>
    simp only[jl];split
    ·rename_i x t E _;have C:x∈args.toList:=by rw[E];simp
     rw[←B x (v x C)]
    ·rfl
   | len =>
    simp only[jl];split
    ·rename_i x t E _;have C:x∈args.toList:=by rw[E];simp
     rw[←B x (v x C)];have hk:=key x (v x C) (by rintro(⟨_,e⟩ | ⟨_,e⟩ | ⟨_,e⟩ | ⟨_,_,_,e⟩) <;> cases e);unfold LJ;split
     ·rename_i id ex;rw[hk id (by rw[ex];simp[ids])]
     ·rfl
    ·rfl
   | copy =>
    simp only[jl];split
    ·rename_i x y t t2 E _;have C:x∈args.toList:=by rw[E];simp
     have I:y∈args.toList:=by rw[E];simp
     rw[←B x (v x C),←B y (v y I)];have hk:=key x (v x C) (by rintro(⟨_,e⟩ | ⟨_,e⟩ | ⟨_,e⟩ | ⟨_,_,_,e⟩) <;> cases e);unfold It;split
     ·rename_i id V sz ex;rw[hk id (by rw[ex];simp[ids])];split
      ·split
       ·rename_i A _;rw[M _ rfl A y (v y I)]
       ·rfl
      ·rfl
     ·rfl
    ·rfl
   | _=>rfl
  | value f =>
   have hf:f∈(Op.call { callee:= .value f,args,argTypes:=L }).operands.toList:=by simp[Op.operands,Call.operands]
   simp only[jl];rw[←B f hf,←e];unfold F8;split
   ·rename_i fid fs q ef;split
    ·rw[hl _ rfl _ (fun i hi=>by
      obtain⟨y,I,hi⟩:=cH.1 hi;rw[List.mem_append]at I;rcases I with I | I
      ·exact⟨f,hf,by rw[ef];simp only[ids];exact cH.2 ⟨y,I,hi⟩⟩
      ·have O:i∈bA (gY tb (Kq (some q)) L.toList (args.toList.map (ev s))):=cH.2 ⟨y,I,hi⟩;rw[oA]at O;obtain⟨z,hz,Z⟩:=cH.1 O;obtain⟨p,D,rfl⟩:=List.mem_map.1 hz;exact⟨p,v p D,Z⟩)]
    ·rfl
   ·rfl
  | invoke _ _=>rfl
 | _=>rfl
end
end Go.Tv
