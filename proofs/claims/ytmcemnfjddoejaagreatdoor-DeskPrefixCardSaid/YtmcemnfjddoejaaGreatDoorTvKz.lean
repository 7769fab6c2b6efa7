/- What an operation comes to: great arrays, places within data, floats, bound functions. -/
import Derived.Test.YtmcemnfjddoejaaGreatDoorTvL
import Derived.Test.YtmcemnfjddoejaaGreatDoorTvKm
namespace Go.Tv
open Go Go.RowKit
def K9(tb:bR)(t:TypeId):Option (IntKind×Nat) :=
 match tb.find t with
 | some ti=>match ti.k with
  | .ar n e=>match tb.find e with
   | some c=>match c.k with
    | .int k=>if 16<n then some (k,n)else none
    | _=>none
   | none=>none
  | _=>none
 | none=>none
def I9(tb:bR)(t:TypeId):Option (IntKind×Nat) :=
 match K9 tb t with
 | some r=>some r
 | none=>match tb.find t with
  | some ti=>match ti.k with
   | .st ((0,e)::_)=>K9 tb e
   | _=>none
  | none=>none
def Ty.MF:Ty→Bool
 | .prod (.arr _ _) _=>true
 | _=>false
def Hj(tb:bR)(t:TypeId):Option (TypeId×TI) :=
 match tb.find t with
 | some ti=>match ti.k with
  | .sl e=>match tb.find e with
   | some c=>some (e,c)
   | none=>none
  | _=>none
 | none=>none
theorem rq{P:Program}{tb:bR}(c:bS P tb){t e:TypeId}{j:TI}(h:Hj tb t=some (e,j)):∃ti,aQ P t ti∧ti.k = .sl e∧aQ P e j:=by
 unfold Hj at h;split at h
 ·rename_i ti m;split at h
  ·rename_i u p;split at h
   ·rename_i q f;cases h;exact⟨ti,c.find m,p,c.find f⟩
   ·cases h
  ·cases h
 ·cases h
def Lq(fl:Bool)(tb:bR)(new:Nat)(t:TypeId)(len:Nat)(f:List Nat)(e:List ag):Option Out :=
 match Hj tb t with
 | some (_,c)=>if(fl || c.T.isNone)=true∧f=List.range len∧e.all (fun x=>(cellsOf x).all ag.cell && (cellsOf x).length == c.size)=true∧len*c.size≤16777216 then
   some (.sl new,[(new,some (.vrow len c.size (e.flatMap cellsOf)))],True)else none
 | none=>none
def JP(tb:bR)(t:TypeId)(x:ag)(h:Nat→Option Obj):Option Out :=
 match x with
 | .sl id=>match h id with
  | some (.vrow n _ _)=>match Hj tb t with
   | some _=>some (.p false (.int .i64) (n:Int),[],True)
   | none=>none
  | _=>none
 | _=>none
def I5(tb:bR)(t:TypeId)(x k:ag)(c:Bool):Option Out :=
 match x,k with
 | .p _ (.mapi e j) m,.p _ (.int q) i=>match tb.find t with
  | some ti=>match ti.k with
   | .mp u z=>match tb.find u,tb.find z with
    | some A,some B=>match A.k with
     | .int f=>if f=e∧q=e∧B.T=some (.int j)then some (HH j c (bc (α:=Int) (.int e) m i),[],True)else none
     | _=>none
    | _,_=>none
   | _=>none
  | none=>none
 | _,_=>none
def AA(tb:bR)(new:Nat)(t u:TypeId)(x y:ag)(h:Nat→Option Obj):Option Out :=
 match y with
 | .p _ .str s=>match tb.find u with
  | some m=>match m.k with
   | .str=>match tb.find t with
    | some ti=>match ti.k with
     | .sl e=>match tb.find e with
      | some c=>if c.T=some (.int .u8)∧c.bytes=1 then(match x with
       | .nils=>some (.sl new,[(new,some (.arr e (.int .u8) (cb s)))],([]:List Int).length+List.length (α:=UInt8) s≤140737488355328)
       | .sl id=>match h id with
        | some (.arr q (.int .u8) j)=>if q=e then some (.sl new,[(id,none),(new,some (.arr e (.int .u8) (List.append (α:=Int) j (cb s))))],List.length (α:=Int) j+List.length (α:=UInt8) s≤140737488355328)else none
        | _=>none
       | _=>none)else none
      | none=>none
     | _=>none
    | none=>none
   | _=>none
  | none=>none
 | _=>none
def Gk(tb:bR)(new:Nat)(t u:TypeId)(x y:ag)(h:Nat→Option Obj):Option Out :=
 match y with
 | .p _ (.int _) n=>match gU tb t,tb.find u with
  | some (e,j,A),some m=>match m.k with
   | .int _=>match x with
    | .nils=>some (.sl new,[(new,some (.arr e A (List.replicate (show Int from n).toNat A.zero)))],0≤(show Int from n)∧(([]:List A.den).length+(show Int from n).toNat)*j.bytes≤140737488355328∧([]:List A.den).length+(show Int from n).toNat≤9223372036854775807)
    | .sl id=>match h id with
     | some (.arr z B c)=>if q:B=A then(if z=e then some (.sl new,[(id,none),(new,some (.arr e A ((q ▸ c:List A.den)++List.replicate (show Int from n).toNat A.zero)))],0≤(show Int from n)∧((q ▸ c:List A.den).length+(show Int from n).toNat)*j.bytes≤140737488355328∧(q ▸ c:List A.den).length+(show Int from n).toNat≤9223372036854775807)else none)else none
     | _=>none
    | _=>none
   | _=>none
  | _,_=>none
 | _=>none
def J7(tb:bR)(new:Nat)(t u:TypeId)(x y:ag)(h:Nat→Option Obj):Option Out :=
 match Gk tb new t u x y h with
 | some r=>some r
 | none=>AA tb new t u x y h
def Dn(tb:bR)(t:TypeId)(x:ag)(h:Nat→Option Obj):Option Out :=
 match x with
 | .mp id=>match h id with
  | some (.mpo K A _)=>match tb.find t with
   | some ti=>match ti.k with
    | .mp _ _=>some (.tup [],[(id,some (.mpo K A []))],True)
    | _=>none
   | none=>none
  | _=>none
 | _=>none
def Lb(tb:bR)(t:TypeId)(x:ag):Option Out :=
 match x with
 | .nils=>match tb.find t with
  | some ti=>match ti.k with
   | .sl _=>some (.p false (.int .i64) (0:Int),[],True)
   | _=>none
  | none=>none
 | _=>none
def GH(tb:bR)(new:Nat)(t:TypeId):Option Out :=
 match I9 tb t with
 | some (k,n)=>match tb.find t with
  | some ti=>if(ti.z.take n).all (Kp k)=true∧n≤ti.z.length then some (.adr new 0 ti.size 0,[(new,some (.lmp k n (cW n) (ti.z.drop n)))],True)else none
  | none=>none
 | none=>none
def Lg(new:Nat)(x:ag):Option Out :=
 match x with
 | .lag k n e c=>some (.adr new 0 (n+c.length) 0,[(new,some (.lmp k n e c))],True)
 | _=>none
def Gd(tb:bR)(t:TypeId)(f:List Nat)(j:List ag):Option Out :=
 match I9 tb t with
 | some (k,n)=>match pa tb t f j with
  | some (.agg e,[],c)=>if(e.take n).all (Kp k)=true∧n≤e.length then some (.lag k n (cW n) (e.drop n),[],c)else none
  | _=>none
 | none=>none
def Gv(tb:bR)(t:TypeId)(x:ag)(h:Nat→Option Obj):Option Out :=
 match x with
 | .loc β T y=>match tb.find t with
  | some ti=>if ti.T=some T∧T.scalar=true then some (.p β T y,[],True)else none
  | none=>none
 | .ada id 0 n i=>match h id with
  | some (.lmp k j e _)=>match tb.find t with
   | some ti=>match ti.k with
    | .int m=>if j=n∧m=k then some (.p false (.int k) (eP e i),[],True)else none
    | _=>none
   | none=>none
  | _=>none
 | .adr id i sz off=>match h id with
  | some (.lmp k n e c)=>match tb.find t with
   | some ti=>if ti.k.agg=true∧i*sz+off=0∧ti.size=n+c.length then some (.lag k n e c,[],True)
    else if n≤i*sz+off then(match dV ti c (i*sz+off - n)with
     | some y=>some (y,[],True)
     | none=>none)else none
   | none=>none
  | some (.vrow _ _ c)=>match tb.find t with
   | some ti=>match dV ti c (i*sz+off)with
    | some y=>some (y,[],True)
    | none=>none
   | none=>none
  | _=>none
 | _=>none
def Df(tb:bR)(t:TypeId)(x y:ag)(h:Nat→Option Obj):Option Out :=
 match x with
 | .ada id 0 n i=>match h id with
  | some (.lmp k j e c)=>match y with
   | .p _ (.int m) v=>match tb.find t with
    | some ti=>if j=n∧m=k∧ti.size=1 then some (.unk,[(id,some (.lmp k j (rV e i v) c))],True)else none
    | none=>none
   | _=>none
  | _=>none
 | .adr id i sz off=>match h id with
  | some (.lmp k n e c)=>match tb.find t with
   | some ti=>if(cellsOf y).all ag.cell=true∧(cellsOf y).length=ti.size∧n≤i*sz+off∧i*sz+off - n+ti.size≤c.length then
     some (.unk,[(id,some (.lmp k n e (wr c (i*sz+off - n) (cellsOf y))))],True)else none
   | none=>none
  | _=>none
 | _=>none
def Ll(x:ag):Option Out :=
 match x with
 | .loc β T y=>some (.loc β T y,[],True)
 | .p β (.ptr A) q=>if A.MF=true then some (.loc β A (q.getD A.zero),[],q.isSome=true)else none
 | _=>none
def GJ(tb:bR)(t:TypeId)(x:ag)(f:Nat):Option Out :=
 match x with
 | .loc β T y=>match tb.find t with
  | some ti=>match ti.k with
   | .st c=>match c[f]? with
    | some (off,e)=>match tb.find e with
     | some j=>match j.T with
      | some T'=>match wO T' T y off with
       | some z=>some (.loc β T' z,[],True)
       | none=>none
      | none=>none
     | none=>none
    | none=>none
   | _=>none
  | none=>none
 | _=>none
def Er(tb:bR)(t:TypeId)(x:ag)(f:Nat):Option Out :=
 match x with
 | .agg c=>match tb.find t with
  | some ti=>match ti.k with
   | .st e=>match e[f]? with
    | some (off,j)=>match tb.find j with
     | some m=>match dV m c off with
      | some y=>some (y,[],True)
      | none=>none
     | none=>none
    | none=>none
   | _=>none
  | none=>none
 | _=>none
def Dy(tb:bR)(t:TypeId)(x i:ag)(h:Nat→Option Obj):Option Out :=
 match x with
 | .p β (.slice (.arr k n)) q=>match i with
  | .p _ (.int _) m=>match gU tb t with
   | some (_,c,_)=>if n=c.size then some (.loc β (.arr k n) (q.getD (show Int from m).toNat (cW n)),[],0≤(show Int from m)∧(show Int from m)<q.length)else none
   | none=>none
  | _=>none
 | .loc β (.arr k n) q=>match i with
  | .p _ (.int _) m=>match tb.find t with
   | some ti=>match ti.k with
    | .ar u e=>match tb.find e with
     | some c=>if u=n∧c.size=1 then some (.loc β (.int k) (eP q (show Int from m).toNat),[],0≤(show Int from m)∧(show Int from m)<(n:Int))else none
     | none=>none
    | _=>none
   | none=>none
  | _=>none
 | .adr id j sz off=>match h id with
  | some (.lmp _ _ _ _)=>match i with
   | .p _ (.int _) m=>match tb.find t with
    | some ti=>match ti.k with
     | .ar n e=>match tb.find e with
      | some c=>if c.size=1 then some (.ada id (j*sz+off) n (show Int from m).toNat,[],0≤(show Int from m)∧(show Int from m)<(n:Int))else none
      | none=>none
     | _=>none
    | none=>none
   | _=>none
  | _=>none
 | .sl id=>match h id with
  | some (.vrow n sz _)=>match i with
   | .p _ (.int _) m=>match Hj tb t with
    | some (_,c)=>if c.size=sz then some (.adr id (show Int from m).toNat sz 0,[],0≤(show Int from m)∧(show Int from m)<(n:Int))else none
    | none=>none
   | _=>none
  | _=>none
 | _=>none
def La(P:Program)(tb:bR)(op:BinOp)(t:TypeId)(x y:ag):Option Out :=
 match x,y with
 | .lag k n c [],.lag f j m []=>match tb.find t with
  | some ti=>match ti.k with
   | .ar u e=>match tb.find e with
    | some z=>match z.k with
     | .int A=>if q:j=n then(if u=n∧f=k∧A=k then(match IJ op (H3 c (q ▸ m))with
      | some r=>some (r,[],P.eqGuardType P.depth t=false)
      | none=>none)else none)else none
     | _=>none
    | none=>none
   | _=>none
  | none=>none
 | .p _ .flt a,.p _ .flt b=>match op with
  | .add=>some (.p false .flt (bN .add a b),[],True)
  | .sub=>some (.p false .flt (bN .sub a b),[],True)
  | .mul=>some (.p false .flt (bN .mul a b),[],True)
  | .quo=>some (.p false .flt (bN .quo a b),[],True)
  | _=>none
 | _,_=>none
def Hh(tb:bR)(st j:TypeId)(x:ag)(h:Nat→Option Obj):Option Out :=
 match x with
 | .sl id=>match h id with
  | some (.arr m (.int .u8) c)=>if j=st then(match tb.find st with
   | some ti=>match ti.k with
    | .sl e=>match tb.find e with
     | some q=>match q.k with
      | .int .u8=>some (.sl id,[(id,some (.bytes m c)),(id,some (.bytes m c))],0<c.length)
      | _=>none
     | none=>none
    | _=>none
   | none=>none)else none
  | _=>none
 | .p _ .flt a=>match tb.find st,tb.find j with
  | some _,some u=>match u.k with
   | .int k=>some (.p false (.int k) ((ov a).getD 0),[],(ov a).isSome=true∧k.min≤(ov a).getD 0∧(ov a).getD 0≤k.max)
   | _=>none
  | _,_=>none
 | _=>none
def Dd(tb:bR)(t:TypeId)(x:ag)(c:ag)(h:Nat→Option Obj):Option Out :=
 match x with
 | .sl id=>match h id with
  | some (.arr _ _ e)=>match c with
   | .p _ (.int _) l=>match gU tb t with
    | some (_,j,_)=>some (.suf id (show Int from l).toNat j.size,[],0≤(show Int from l)∧(show Int from l)≤e.length)
    | none=>none
   | _=>none
  | _=>none
 | _=>none
def Hc(tb:bR)(t:TypeId)(x y:ag)(h:Nat→Option Obj):Option Out :=
 match x with
 | .suf id c sz=>match h id with
  | some (.arr k B e)=>match gU tb t with
   | some (_,m,A)=>match dS h A y with
    | some j=>if q:B=A then(if sz=m.size then some (.p false (.int .i64) ((min j.length ((q ▸ e:List A.den).length - c):Nat):Int),[(id,some (.arr k A ((q ▸ e:List A.den).take c++(j.take ((q ▸ e:List A.den).length - c)++(q ▸ e:List A.den).drop (c+j.length)))))],True)else none)else none
    | none=>none
   | none=>none
  | _=>none
 | _=>none
def EF(P:Program)(jb:Option wo)(f:ag)(e:List ag)(h:Nat→Option Obj):Option Out :=
 match f,jb with
 | .bfn fid j,some q=>if q.own=false∧q.die=none∧q.fl.any (fun b=>b)=false then(match oq h (j++e)with
  | some args=>some (q.r,[],Pure P fid args q.r)
  | none=>none)else none
 | _,_=>none
def Jp(fn:Fn)(first c:List ag):Option Out :=
 match fn,first,c with
 | .func f,x::e,[]=>some (.bfn f (x::e),[],True)
 | _,_,_=>none
def ja(P:Program)(tb:bR)(new:Nat)(jb:Option wo)(op:Op)(s:Nat→ag)(h:Nat→Option Obj):Option Out :=
 match op with
 | .alloc t=>GH tb new t
 | .box _ x=>Lg new (ev s x)
 | .build t e=>Gd tb t (e.toList.map (·.1)) (e.toList.map fun p=>ev s p.2)
 | .load t x=>Gv tb t (ev s x) h
 | .store t x y=>Df tb t (ev s x) (ev s y) h
 | .nilCheck x=>Ll (ev s x)
 | .fieldAddr t x f=>GJ tb t (ev s x) f
 | .field t x f=>Er tb t (ev s x) f
 | .indexAddr t x i=>Dy tb t (ev s x) (ev s i) h
 | .binOp op t x y _=>La P tb op t (ev s x) (ev s y)
 | .convert st q x=>Hh tb st q (ev s x) h
 | .slice t x (some z) none none=>Dd tb t (ev s x) (ev s z) h
 | .makeFunc fn first j=>Jp fn (first.toList.map (ev s)) (j.toList.map (ev s))
 | .buildSlice t len e=>Lq jb.isSome tb new t len (e.toList.map (·.1)) (e.toList.map fun p=>ev s p.2)
 | .lookup t x k m=>I5 tb t (ev s x) (ev s k) m
 | .call c=>match c.callee with
  | .builtin .len=>match c.args.toList,c.argTypes.toList with
   | [x],[t]=>JP tb t (ev s x) h
   | _,_=>none
  | .builtin .append=>match c.args.toList,c.argTypes.toList with
   | [x,y],[t,u]=>J7 tb new t u (ev s x) (ev s y) h
   | _,_=>none
  | .builtin .clear=>match c.args.toList,c.argTypes.toList with
   | [x],[t]=>Dn tb t (ev s x) h
   | _,_=>none
  | .builtin .cap=>match c.args.toList,c.argTypes.toList with
   | [x],[t]=>Lb tb t (ev s x)
   | _,_=>none
  | .builtin .copy=>match c.args.toList,c.argTypes.toList with
   | [x,y],[t,_]=>Hc tb t (ev s x) (ev s y) h
   | _,_=>none
  | .value f=>EF P jb (ev s f) (gN tb (IK jb) c.argTypes.toList (c.args.toList.map (ev s))) h
  | _=>none
 | _=>none
def Fk(P:Program)(tb:bR)(new:Nat)(asm:Option Bool)(jb:Option wo)(op:Op)(s:Nat→ag)(h:Nat→Option Obj):Option Out :=
 match ja P tb new jb op s h with
 | some r=>some r
 | none=>gM P tb new asm jb op s h
theorem Good.imp{P:Program}{o:Oper}{a:Act}{w:World}{p q:Value→World→Prop}(h:Good P o a w p)(j:∀v w',p v w'→q v w'):Good P o a w q:=fun K Q z=>h K Q fun v w' B=>z v w' (j v w' B)
section
variable{P:Program}{tb:bR}{Bw:Nat→Prop}{w0:b9 P}{ρ:Nat→Option Value}{φ:Nat→Nat→Prop}{h:Nat→Option Obj}{w:World}{new:Nat}{n:NS}{s:Nat→ag}{a:Act}
theorem aE.val(f:ag→ag){x:ag}(B:∀F ρ v,V F ρ x v→V F ρ (f x) v){u:hZ}{v:Value}{w':World}(C:aE Bw w0 ρ φ h w new x u v w'):aE Bw w0 ρ φ h w new (f x) u v w':=by
 obtain⟨j,z,D,E,I,J,L⟩:=C;exact⟨j,z,D,E,I,J,B _ _ _ L⟩
theorem xX(j:bS P tb)(m:Mem Bw w0 ρ φ h w)(B:bP n (Fr (own φ h) Bw w) ρ s a){o:Oper}{t:TypeId}{q:Array (Nat×Operand)}(C:o.op = .build t q){x:ag}{u:hZ}{c:Prop}
  (f:pa tb t (q.toList.map (·.1)) (q.toList.map fun p=>ev s p.2)=some (x,u,c)):Good P o a w (aE Bw w0 ρ φ h w new x u):=by
 unfold pa at f;split at f
 ·rename_i ti D;split at f
  ·rename_i I z;split at f
   ·rename_i E k;cases f;have:=jw B (q.toList.map (·.2));simp only[List.map_map]at this;exact wA m j (j.find D) z C this k
   ·cases f
  ·rename_i n e z;split at f
   ·rename_i J A;split at f
    ·rename_i E k;cases f;have:=jw B (q.toList.map (·.2));simp only[List.map_map]at this;exact uJ m j (j.find D) z (j.find A) C this k
    ·cases f
   ·cases f
  ·cases f
 ·cases f
theorem FC(D:bS P tb)(m:Mem Bw w0 ρ φ h w)(J:bP n (Fr (own φ h) Bw w) ρ s a)(hn:ρ new=none){o:Oper}{jb:Option wo}{x:ag}{u:hZ}{c:Prop}
  (C:ja P tb new jb o.op s h=some (x,u,c)) (Y:c):Good P o a w (aE Bw w0 ρ φ h w new x u):=by
 unfold ja at C;split at C
 ·-- alloc
  rename_i t I;unfold GH at C;split at C
  ·split at C
   ·rename_i ti N;split at C
    ·rename_i hz;cases C;exact BO m hn (D.find N) I hz.1 hz.2
    ·cases C
   ·cases C
  ·cases C
 ·-- box
  rename_i t xo I;unfold Lg at C;split at C
  ·rename_i k n xs cs ex;have E:=aY J xo;rw[ex]at E;cases C;exact FV m hn E I _
  ·cases C
 ·-- build
  rename_i t ps I;unfold Gd at C;split at C
  ·split at C
   ·rename_i ds c' hb;split at C
    ·rename_i hz;cases C;refine(xX (new:=new) D m J I hb).imp fun v w' hp=> ?_
     exact aE.val (fun _=> .lag _ _ (cW _) (ds.drop _)) (fun F ρ v hv=>EN hz.1 hz.2 hv) hp
    ·cases C
   ·cases C
  ·cases C
 ·-- load
  rename_i t xo I;have E:=aY J xo;unfold Gv at C;split at C
  ·rename_i β T y ex;rw[ex]at E;split at C
   ·rename_i ti N;split at C
    ·rename_i hT;cases C;exact zC m (D.find N) E I hT.1 hT.2
    ·cases C
   ·cases C
  ·rename_i id n i ex;rw[ex]at E;split at C
   ·rename_i k n' xs cs hb;split at C
    ·rename_i ti N;split at C
     ·rename_i k2 O;split at C
      ·rename_i R;obtain⟨rfl,rfl⟩:=R;cases C;exact Ea m (D.find N) O E I hb
      ·cases C
     ·cases C
    ·cases C
   ·cases C
  ·rename_i id i sz off ex;rw[ex]at E;split at C
   ·rename_i k n xs cs hb;split at C
    ·rename_i ti N;split at C
     ·rename_i R;cases C;exact CD m (D.find N) R.1 E I hb R.2.1 R.2.2
     ·split at C
      ·rename_i R;split at C
       ·rename_i y L;cases C;exact Cl m (D.find N) E I hb (by omega) L
       ·cases C
      ·cases C
    ·cases C
   ·rename_i n bv cs hb;split at C
    ·rename_i ti N;split at C
     ·rename_i y L;cases C;exact zF m (D.find N) E I hb L
     ·cases C
    ·cases C
   ·cases C
  ·cases C
 ·-- store
  rename_i t xo yo I;have E:=aY J xo;have L:=aY J yo;unfold Df at C;split at C
  ·rename_i id n i ex;rw[ex]at E;split at C
   ·rename_i k n' xs cs hb;split at C
    ·rename_i β k2 v ey;rw[ey]at L;split at C
     ·rename_i ti N;split at C
      ·rename_i R;obtain⟨rfl,rfl,ac⟩:=R;cases C;exact CJ m (D.find N) ac E L I hb
      ·cases C
     ·cases C
    ·cases C
   ·cases C
  ·rename_i id i sz off ex;rw[ex]at E;split at C
   ·rename_i k n xs cs hb;split at C
    ·rename_i ti N;split at C
     ·rename_i R;obtain⟨q1,q2,q3,q4⟩:=R;cases C;exact Ac m (D.find N) E L q1 I hb q2 (by omega) q4
     ·cases C
    ·cases C
   ·cases C
  ·cases C
 ·-- nilCheck
  rename_i xo I;have E:=aY J xo;unfold Ll at C;split at C
  ·rename_i β T y ex;rw[ex]at E;cases C;exact zS m E I
  ·rename_i β A q ex;rw[ex]at E;split at C
   ·cases C;exact BB m E I Y
   ·cases C
  ·cases C
 ·-- fieldAddr
  rename_i t xo f I;have E:=aY J xo;unfold GJ at C;split at C
  ·rename_i β T y ex;rw[ex]at E;split at C
   ·rename_i ti N;split at C
    ·rename_i fs O;split at C
     ·rename_i off ft hf;split at C
      ·split at C
       ·split at C
        ·rename_i z hz;cases C;exact yt m (D.find N) E I O hf hz
        ·cases C
       ·cases C
      ·cases C
     ·cases C
    ·cases C
   ·cases C
  ·cases C
 ·-- field
  rename_i t xo f I;have E:=aY J xo;unfold Er at C;split at C
  ·rename_i cs ex;rw[ex]at E;split at C
   ·rename_i ti N;split at C
    ·rename_i fs O;split at C
     ·rename_i off ft hf;split at C
      ·rename_i fi ad;split at C
       ·rename_i y L;cases C;exact C3 m (D.find N) E I O hf (D.find ad) L
       ·cases C
      ·cases C
     ·cases C
    ·cases C
   ·cases C
  ·cases C
 ·-- indexAddr
  rename_i t xo io I;have E:=aY J xo;have hi:=aY J io;unfold Dy at C;split at C
  ·rename_i β k n xs ex;rw[ex]at E;split at C
   ·rename_i a5 k' mm ei;rw[ei]at hi;split at C
    ·rename_i e te A M;obtain⟨ti,h1,_,h2,h3,h4,h5⟩:=bO D M;split at C
     ·rename_i a1;cases C;exact tX m h1 h2 h3 E hi I a1 Y.1 Y.2
     ·cases C
    ·cases C
   ·cases C
  ·rename_i β k n xs ex;rw[ex]at E;split at C
   ·rename_i a5 k' mm ei;rw[ei]at hi;split at C
    ·rename_i ti N;split at C
     ·rename_i n' e O;split at C
      ·rename_i te X;split at C
       ·rename_i R;obtain⟨rfl,a1⟩:=R;cases C;exact yi m (D.find N) O (D.find X) a1 E hi I Y.1 Y.2
       ·cases C
      ·cases C
     ·cases C
    ·cases C
   ·cases C
  ·rename_i id j sz off ex;rw[ex]at E;split at C
   ·rename_i kk nn xs cs hb;split at C
    ·rename_i a5 k' mm ei;rw[ei]at hi;split at C
     ·rename_i ti N;split at C
      ·rename_i n e O;split at C
       ·rename_i te X;split at C
        ·rename_i a1;cases C;exact Cc m (D.find N) O (D.find X) a1 E hb hi I Y
        ·cases C
       ·cases C
      ·cases C
     ·cases C
    ·cases C
   ·cases C
  ·rename_i id ex;rw[ex]at E;split at C
   ·rename_i n sz cs hb;split at C
    ·rename_i a5 k' mm ei;rw[ei]at hi;split at C
     ·rename_i e te M;obtain⟨ti,h1,h2,h3⟩:=rq D M;split at C
      ·rename_i a1;subst a1;cases C;exact yz m h1 h2 h3 E hb hi I Y.1 Y.2
      ·cases C
     ·cases C
    ·cases C
   ·cases C
  ·cases C
 ·-- binOp
  rename_i op t xo yo t' I;have E:=aY J xo;have L:=aY J yo;unfold La at C;split at C
  ·rename_i k n xs k2 n2 ys ex ey;rw[ex]at E;rw[ey]at L;split at C
   ·rename_i ti N;split at C
    ·rename_i n' e O;split at C
     ·rename_i te X;split at C
      ·rename_i k' ax;split at C
       ·rename_i q;subst q;split at C
        ·rename_i R;obtain⟨rfl,rfl,rfl⟩:=R;split at C
         ·rename_i r hr;cases C;simp only[V]at E L;obtain⟨vs,e1,l1,_⟩:=E;obtain⟨us,e2,l2,_⟩:=L;obtain rfl:=List.eq_nil_of_length_eq_zero l1;obtain rfl:=List.eq_nil_of_length_eq_zero l2;rw[List.append_nil]at e1 e2;obtain⟨z,h1,h2⟩:=vv (P:=P) (w:=w) (F:=Fr (own φ h) Bw w) (ρ:=ρ) (xo:=xo) (yo:=yo) hr (run_eqGuard_agg w op t xo yo _ _ Y) (Fz (D.find N) O (D.find X) ax xs ys) ⟨rfl,rfl⟩;exact Good.aH (v:=z) (w':=w) (by simp only[execOp,I,e1,e2];rw[Sem.run_bind,h1];rfl) (aE.pure m h2)
         ·cases C
        ·cases C
       ·cases C
      ·cases C
     ·cases C
    ·cases C
   ·cases C
  ·rename_i β p a5 q ex ey;rw[ex]at E;rw[ey]at L;split at C
   ·cases C;exact rG m (.inl rfl) I E L
   ·cases C;exact rG m (.inr (.inl rfl)) I E L
   ·cases C;exact rG m (.inr (.inr (.inl rfl))) I E L
   ·cases C;exact rG m (.inr (.inr (.inr rfl))) I E L
   ·cases C
  ·cases C
 ·-- convert
  rename_i st dt xo I;have E:=aY J xo;unfold Hh at C;split at C
  ·rename_i id ex;rw[ex]at E;split at C
   ·rename_i et xs hi;split at C
    ·rename_i b1;subst b1;split at C
     ·rename_i ti a4;split at C
      ·rename_i e O;split at C
       ·rename_i te X;split at C
        ·rename_i b2;cases C;exact yJ m (D.find a4) O (D.find X) b2 E I hi Y
        ·cases C
       ·cases C
      ·cases C
     ·cases C
    ·cases C
   ·cases C
  ·rename_i β p ex;rw[ex]at E;split at C
   ·rename_i si di b3 b4;split at C
    ·rename_i k O;cases C;exact BL m (D.find b3) (D.find b4) O I E Y
    ·cases C
   ·cases C
  ·cases C
 ·-- slice
  rename_i t xo lo I;have E:=aY J xo;have hl:=aY J lo;unfold Dd at C;split at C
  ·rename_i id ex;rw[ex]at E;split at C
   ·rename_i be A xs a2;split at C
    ·rename_i β k l el;rw[el]at hl;split at C
     ·rename_i e te A' M;obtain⟨ti,h1,_,h2,h3,h4,h5⟩:=bO D M;cases C;exact Ct m h1 h2 h3 I a2 E hl Y.1 Y.2
     ·cases C
    ·cases C
   ·cases C
  ·cases C
 ·-- makeFunc
  rename_i fn first a9 I
  unfold Jp at C;split at C
  ·rename_i f y ys ef ec;cases C;have aa:a9 = #[]:=by
    cases a9 with
    | mk l=>cases l with
     | nil=>rfl
     | cons _ _=>simp at ec
   subst aa;have:=jw J first.toList
   rw[ef]at this;exact yn m I this
  ·cases C
 ·-- buildSlice
  rename_i t len ps I;unfold Lq at C;split at C
  ·rename_i e te M;obtain⟨ti,h1,h2,h3⟩:=rq D M;split at C
   ·rename_i R;cases C;have:=jw J (ps.toList.map (·.2));simp only[List.map_map]at this;exact yu m hn h1 h2 h3 I R.2.1 this (fun x E=>by
     have:=(List.all_eq_true.1 R.2.2.1) x E;simp only[Bool.and_eq_true,beq_iff_eq]at this;exact this) R.2.2.2
   ·cases C
  ·cases C
 ·-- lookup
  rename_i t xo ko bx I;have E:=aY J xo;have O:=aY J ko;unfold I5 at C;split at C
  ·rename_i β k1 k2 kv a5 k' i ex ek;rw[ex]at E;rw[ek]at O;split at C
   ·rename_i ti N;split at C
    ·rename_i kt et b5;split at C
     ·rename_i tk te b6 X;split at C
      ·rename_i c1 bi;split at C
       ·rename_i R;obtain⟨rfl,rfl,hT⟩:=R;cases C;exact z9 m (D.find N) b5 (D.find b6) bi (D.find X) hT I E O
       ·cases C
      ·cases C
     ·cases C
    ·cases C
   ·cases C
  ·cases C
 ·-- call
  rename_i c0 I;obtain⟨callee,args,a6⟩:=c0;cases callee with
  | builtin b =>
   cases b with
   | len =>
    simp only at C;split at C
    ·rename_i xo t ea et;have a3:args = #[xo]:=Array.ext' ea;have Z:a6 = #[t]:=Array.ext' et;subst a3 Z;have E:=aY J xo;unfold JP at C;split at C
     ·rename_i id ex;rw[ex]at E;split at C
      ·rename_i n sz cs hb;split at C
       ·rename_i r M;obtain⟨e,te⟩:=r;obtain⟨ti,h1,h2,h3⟩:=rq D M;cases C;exact Bu m h1 h2 E hb I
       ·cases C
      ·cases C
     ·cases C
    ·cases C
   | append =>
    simp only at C;split at C
    ·rename_i xo yo t u ea et;have a3:args = #[xo,yo]:=Array.ext' ea;have Z:a6 = #[t,u]:=Array.ext' et;subst a3 Z;have E:=aY J xo;have L:=aY J yo;unfold J7 at C;split at C
     ·rename_i r hz;cases C;unfold Gk at hz;split at hz
      ·rename_i β k1 n ey;split at hz
       ·rename_i e te A tu M a7;obtain⟨ti,h1,_,h2,h3,h4,h5⟩:=bO D M;split at hz
        ·rename_i k2 a8;split at hz
         ·rename_i ex;cases hz;rw[ey]at L;exact yM m hn h1 h2 h3 h4 h5 (D.find a7) a8 I E L (.inl ⟨ex,rfl,rfl,rfl⟩) Y.1 Y.2.1 Y.2.2
         ·rename_i id ex;split at hz
          ·rename_i e' B xs a2;split at hz
           ·rename_i q;subst q;split at hz
            ·rename_i he;subst he;cases hz;rw[ey]at L;exact yM m hn h1 h2 h3 h4 h5 (D.find a7) a8 I E L (.inr ⟨id,ex,a2,rfl,rfl⟩) Y.1 Y.2.1 Y.2.2
            ·cases hz
           ·cases hz
          ·cases hz
         ·cases hz
        ·cases hz
       ·cases hz
      ·cases hz
     ·unfold AA at C;split at C
      ·rename_i β s0 ey;rw[ey]at L;split at C
       ·rename_i tu a7;split at C
        ·rename_i a8;split at C
         ·rename_i ti a4;split at C
          ·rename_i e O;split at C
           ·rename_i te X;split at C
            ·rename_i R;split at C
             ·rename_i ex;rw[ex]at E;cases C;exact oE m hn (D.find a4) O (D.find a7) a8 (D.find X) R.1 R.2 E L I (.inl ⟨rfl,rfl,rfl,rfl⟩) Y
             ·rename_i id ex;rw[ex]at E;split at C
              ·rename_i e' xs a2;split at C
               ·rename_i he;subst he;cases C;exact oE m hn (D.find a4) O (D.find a7) a8 (D.find X) R.1 R.2 E L I (.inr ⟨id,rfl,a2,rfl,rfl⟩) Y
               ·cases C
              ·cases C
             ·cases C
            ·cases C
           ·cases C
          ·cases C
         ·cases C
        ·cases C
       ·cases C
      ·cases C
    ·cases C
   | clear =>
    simp only at C;split at C
    ·rename_i xo t ea et;have a3:args = #[xo]:=Array.ext' ea;have Z:a6 = #[t]:=Array.ext' et;subst a3 Z;have E:=aY J xo;unfold Dn at C;split at C
     ·rename_i id ex;rw[ex]at E;split at C
      ·rename_i K A kv a2;split at C
       ·rename_i ti a4;split at C
        ·rename_i kt Z O;cases C;exact Dh m (D.find a4) O I a2 E
        ·cases C
       ·cases C
      ·cases C
     ·cases C
    ·cases C
   | cap =>
    simp only at C;split at C
    ·rename_i xo t ea et;have a3:args = #[xo]:=Array.ext' ea;have Z:a6 = #[t]:=Array.ext' et;subst a3 Z;have E:=aY J xo;unfold Lb at C;split at C
     ·rename_i ex;rw[ex]at E;split at C
      ·rename_i ti a4;split at C
       ·rename_i e O;cases C;exact AL m (D.find a4) O I E
       ·cases C
      ·cases C
     ·cases C
    ·cases C
   | copy =>
    simp only at C;split at C
    ·rename_i xo yo t t2 ea et;have a3:args = #[xo,yo]:=Array.ext' ea;have Z:a6 = #[t,t2]:=Array.ext' et;subst a3 Z;have E:=aY J xo;have L:=aY J yo;unfold Hc at C;split at C
     ·rename_i id lo sz ex;rw[ex]at E;split at C
      ·rename_i e' B xs a2;split at C
       ·rename_i e te A M;obtain⟨ti,h1,_,h2,h3,h4,h5⟩:=bO D M;split at C
        ·rename_i ys bs;split at C
         ·rename_i q;subst q;split at C
          ·rename_i a1;subst a1;cases C;exact As m h1 h2 h3 h4 E L I a2 bs
          ·cases C
         ·cases C
        ·cases C
       ·cases C
      ·cases C
     ·cases C
    ·cases C
   | _=>cases C
  | value f =>
   simp only at C;unfold EF at C;split at C
   ·rename_i fid fs q ef;have hf:=aY J f;rw[ef]at hf;split at C
    ·split at C
     ·rename_i bt hl;cases C;exact Di m I hf (jr (jw J args.toList)) hl Y
     ·cases C
    ·cases C
   ·cases C
  | invoke _ _=>cases C
 ·cases C
theorem GL(e:bS P tb)(m:Mem Bw w0 ρ φ h w)(q:bP n (Fr (own φ h) Bw w) ρ s a)(f:∀j,j<8→ρ (new+j)=none){o:Oper}{asm:Option Bool}{jb:Option wo}(k:dieOf jb=none){x:ag}{u:hZ}{c:Prop}
  (p:Fk P tb new asm jb o.op s h=some (x,u,c)) (v:c):Good P o a w (aE Bw w0 ρ φ h w new x u):=by
 unfold Fk at p;split at p
 ·rename_i r z;cases p;exact FC e m q (f 0 (by omega)) z v
 ·exact Fb e m q f k p v
theorem Iy(m:Mem Bw w0 ρ φ h w)(D:bP n (Fr (own φ h) Bw w) ρ s a)(A:∀j,j<8→ρ (new+j)=none){o:Oper}{asm:Option Bool}{jb:Option wo}{y:Value}(f:dying o.op jb=some y){x:ag}{u:hZ}{c:Prop}
  (B:Fk P tb new asm jb o.op s h=some (x,u,c)) (E:c):Km P o a w y (fun I=>∃v,aE Bw w0 ρ φ h w new .unk u v I):=by
 refine G5 (tb:=tb) m D A f (x:=x) (u:=u) (c:=c) (asm:=asm) ?_ E;unfold Fk at B;split at B
 ·rename_i r p;exfalso
  unfold dying at f;split at f
  ·rename_i c0 q J;split at f
   ·rename_i M z;split at f
    ·rename_i k;simp only[Bool.and_eq_true]at k;rw[J]at p;obtain⟨callee,args,L⟩:=c0;simp only at z;subst z;simp only[ja]at p;unfold EF at p;split at p
     ·rename_i e;cases e;rw[if_neg (fun C=>by rw[k.1.1]at C;cases C.1)]at p;cases p
     ·cases p
    ·cases f
   ·cases f
  ·cases f
 ·exact B
theorem DW{s I:Nat→ag}{h h':Nat→Option Obj}{op:Op}{jb:Option wo}(v:∀x∈op.operands.toList,ev s x=ev I x)(key:∀x∈op.operands.toList,(¬((∃x,op = .move x)∨(∃x,op = .assign x)∨(∃x,op = .nilCheck x)∨∃t x f,op = .fieldAddr t x f))→∀i∈ids (ev s x),h i=h' i)
  (hl:∀c,op = .call c→∀V,(∀i∈bm V,∃x∈op.operands.toList,i∈ids (ev s x))→oq h V=oq h' V) (M:∀c,op = .call c→∀A,∀x∈op.operands.toList,dS h A (ev s x)=dS h' A (ev s x)) :
  ja P tb new jb op s h=ja P tb new jb op I h':=by
 cases op with
 | alloc t=>rfl
 | box t x=>simp only[ja,v x (by simp[Op.operands])]
 | build t N =>
  simp only[ja];have e:N.toList.map (fun p=>ev s p.2)=N.toList.map (fun p=>ev I p.2):=List.map_congr_left (fun p C=>v p.2 (by simp only[Op.operands,List.mem_map];exact⟨p,C,rfl⟩));rw[e]
 | load t x =>
  have B:=key x (by simp[Op.operands]) (by rintro(⟨_,e⟩ | ⟨_,e⟩ | ⟨_,e⟩ | ⟨_,_,_,e⟩) <;> cases e);simp only[ja,←v x (by simp[Op.operands])];unfold Gv;split
  ·rfl
  ·rename_i id n i ex;rw[B id (by rw[ex];simp[ids])]
  ·rename_i id i sz off ex;rw[B id (by rw[ex];simp[ids])]
  ·rfl
 | store t x y =>
  have B:=key x (by simp[Op.operands]) (by rintro(⟨_,e⟩ | ⟨_,e⟩ | ⟨_,e⟩ | ⟨_,_,_,e⟩) <;> cases e);simp only[ja,←v x (by simp[Op.operands]),←v y (by simp[Op.operands])];unfold Df;split
  ·rename_i id n i ex;rw[B id (by rw[ex];simp[ids])]
  ·rename_i id i sz off ex;rw[B id (by rw[ex];simp[ids])]
  ·rfl
 | nilCheck x=>simp only[ja,v x (by simp[Op.operands])]
 | fieldAddr t x f=>simp only[ja,v x (by simp[Op.operands])]
 | field t x f=>simp only[ja,v x (by simp[Op.operands])]
 | indexAddr t x i =>
  have B:=key x (by simp[Op.operands]) (by rintro(⟨_,e⟩ | ⟨_,e⟩ | ⟨_,e⟩ | ⟨_,_,_,e⟩) <;> cases e);simp only[ja,←v x (by simp[Op.operands]),←v i (by simp[Op.operands])];unfold Dy;split
  ·rfl
  ·rfl
  ·rename_i id j sz off ex;rw[B id (by rw[ex];simp[ids])]
  ·rename_i id ex;rw[B id (by rw[ex];simp[ids])]
  ·rfl
 | binOp o t x y t'=>simp only[ja,v x (by simp[Op.operands]),v y (by simp[Op.operands])]
 | convert st dt x =>
  have B:=key x (by simp[Op.operands]) (by rintro(⟨_,e⟩ | ⟨_,e⟩ | ⟨_,e⟩ | ⟨_,_,_,e⟩) <;> cases e);simp only[ja,←v x (by simp[Op.operands])];unfold Hh;split
  ·rename_i id ex;rw[B id (by rw[ex];simp[ids])]
  ·rfl
  ·rfl
 | slice t x R hi mx =>
  cases R with
  | none=>rfl
  | some R =>
   cases hi with
   | some _=>rfl
   | none =>
    cases mx with
    | some _=>rfl
    | none =>
     have B:=key x (by simp[Op.operands]) (by rintro(⟨_,e⟩ | ⟨_,e⟩ | ⟨_,e⟩ | ⟨_,_,_,e⟩) <;> cases e);simp only[ja,←v x (by simp[Op.operands]),←v R (by simp[Op.operands])];unfold Dd;split
     ·rename_i id ex;rw[B id (by rw[ex];simp[ids])]
     ·rfl
 | makeFunc f Z cs =>
  simp only[ja];rw[List.map_congr_left (l:=cs.toList) (f:=ev s) (g:=ev I) (fun p C=>v p (by simp only[Op.operands,Array.toList_append,List.mem_append];exact .inr C)),List.map_congr_left (l:=Z.toList) (f:=ev s) (g:=ev I) (fun p C=>v p (by simp only[Op.operands,Array.toList_append,List.mem_append];exact .inl C))]
 | buildSlice t len N =>
  simp only[ja];have e:N.toList.map (fun p=>ev s p.2)=N.toList.map (fun p=>ev I p.2):=List.map_congr_left (fun p C=>v p.2 (by simp only[Op.operands,List.mem_map];exact⟨p,C,rfl⟩));rw[e]
 | lookup t x k a1=>simp only[ja,v x (by simp[Op.operands]),v k (by simp[Op.operands])]
 | call c =>
  obtain⟨callee,args,J⟩:=c;have m:∀x∈args.toList,x∈(Op.call { callee,args,argTypes:=J }).operands.toList:=fun x B=>by simp only[Op.operands,Call.operands,Array.toList_append,List.mem_append];exact .inr B
  have e:args.toList.map (ev s)=args.toList.map (ev I):=List.map_congr_left (fun p C=>v p (m p C));cases callee with
  | builtin b =>
   cases b with
   | append =>
    simp only[ja];split
    ·rename_i x y t u D _;have B:x∈args.toList:=by rw[D];simp
     have E:y∈args.toList:=by rw[D];simp
     rw[←v x (m x B),←v y (m y E)];have L:=key x (m x B) (by rintro(⟨_,e⟩ | ⟨_,e⟩ | ⟨_,e⟩ | ⟨_,_,_,e⟩) <;> cases e);unfold J7;cases X:ev s x with
     | sl id =>
      unfold AA Gk;dsimp only;rw[L id (by rw[X];simp[ids])]
     | _=>rfl
    ·rfl
   | clear =>
    simp only[ja];split
    ·rename_i x t D _;have B:x∈args.toList:=by rw[D];simp
     rw[←v x (m x B)];have L:=key x (m x B) (by rintro(⟨_,e⟩ | ⟨_,e⟩ | ⟨_,e⟩ | ⟨_,_,_,e⟩) <;> cases e);unfold Dn;split
     ·rename_i id ex;rw[L id (by rw[ex];simp[ids])]
     ·rfl
    ·rfl
   | cap =>
    simp only[ja];split
    ·rename_i x t D _;have B:x∈args.toList:=by rw[D];simp
     rw[←v x (m x B)]
    ·rfl
   | len =>
    simp only[ja];split
    ·rename_i x t D _;have B:x∈args.toList:=by rw[D];simp
     rw[←v x (m x B)];have L:=key x (m x B) (by rintro(⟨_,e⟩ | ⟨_,e⟩ | ⟨_,e⟩ | ⟨_,_,_,e⟩) <;> cases e);unfold JP;split
     ·rename_i id ex;rw[L id (by rw[ex];simp[ids])]
     ·rfl
    ·rfl
   | copy =>
    simp only[ja];split
    ·rename_i x y t t2 D _;have B:x∈args.toList:=by rw[D];simp
     have E:y∈args.toList:=by rw[D];simp
     rw[←v x (m x B),←v y (m y E)];have L:=key x (m x B) (by rintro(⟨_,e⟩ | ⟨_,e⟩ | ⟨_,e⟩ | ⟨_,_,_,e⟩) <;> cases e);unfold Hc;split
     ·rename_i id R sz ex;rw[L id (by rw[ex];simp[ids])];split
      ·split
       ·rename_i A _;rw[M _ rfl A y (m y E)]
       ·rfl
      ·rfl
     ·rfl
    ·rfl
   | _=>rfl
  | value f =>
   have hf:f∈(Op.call { callee:= .value f,args,argTypes:=J }).operands.toList:=by simp[Op.operands,Call.operands]
   simp only[ja];rw[←v f hf,←e];unfold EF;split
   ·rename_i fid Z q ef;split
    ·rw[hl _ rfl _ (fun i hi=>by
      obtain⟨y,E,hi⟩:=cm.1 hi;rw[List.mem_append]at E;rcases E with E | E
      ·exact⟨f,hf,by rw[ef];simp only[ids];exact cm.2 ⟨y,E,hi⟩⟩
      ·have O:i∈bm (gN tb (IK (some q)) J.toList (args.toList.map (ev s))):=cm.2 ⟨y,E,hi⟩;rw[nZ]at O;obtain⟨z,hz,Y⟩:=cm.1 O;obtain⟨p,C,rfl⟩:=List.mem_map.1 hz;exact⟨p,m p C,Y⟩)]
    ·rfl
   ·rfl
  | invoke _ _=>rfl
 | _=>rfl
end
end Go.Tv
