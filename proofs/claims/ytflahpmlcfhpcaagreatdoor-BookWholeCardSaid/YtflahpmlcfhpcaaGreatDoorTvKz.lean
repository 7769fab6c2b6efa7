import Derived.Test.YtflahpmlcfhpcaaGreatDoorTvL
import Derived.Test.YtflahpmlcfhpcaaGreatDoorTvKnm
namespace Go.Tv
open Go Go.RowKit
def K6(tb:bQ)(t:TypeId):Option (IntKind×Nat) :=
 match tb.find t with
 | some ti=>match ti.k with
  | .ar n e=>match tb.find e with
   | some f=>match f.k with
    | .int k=>if 16<n then some (k,n)else none
    | _=>none
   | none=>none
  | _=>none
 | none=>none
def I2(tb:bQ)(t:TypeId):Option (IntKind×Nat) :=
 match K6 tb t with
 | some r=>some r
 | none=>match tb.find t with
  | some ti=>match ti.k with
   | .st ((0,e)::_)=>K6 tb e
   | _=>none
  | none=>none
def Ty.MU:Ty→Bool
 | .prod (.arr _ _) _=>true
 | _=>false
def KZ(fl:Bool)(tb:bQ)(new:Nat)(t:TypeId)(len:Nat)(j:QV)(f:List af):XQ :=
 match yH tb t with
 | some (_,e)=>if(fl || e.T.isNone)=true∧j=List.range len∧f.all (fun x=>(cellsOf x).all af.cell && (cellsOf x).length == e.size)=true∧len*e.size≤16777216 then
   some (.sl new,[(new,some (.vrow len e.size (f.flatMap cellsOf)))],True)else none
 | none=>none
def J0(tb:bQ)(t:TypeId)(x:af)(h:Nat→Qz):XQ :=
 match x with
 | .sl id=>match h id with
  | some (.vrow n _ _)=>match yH tb t with
   | some _=>some (.p false (.int .i64) (n:Int),[],True)
   | none=>none
  | _=>none
 | _=>none
def Jg(tb:bQ)(t:TypeId)(x k:af)(e:Bool):XQ :=
 match x,k with
 | .p _ (.mapi f q) u,.p _ (.int z) i=>match tb.find t with
  | some ti=>match ti.k with
   | .mp A B=>match tb.find A,tb.find B with
    | some C,some D=>match C.k with
     | .int j=>if j=f∧z=f∧D.T=some (.int q)then some (zy q e (aW (α:=Int) (.int f) u i),[],True)else none
     | _=>none
    | _,_=>none
   | _=>none
  | none=>none
 | _,_=>none
def yw(tb:bQ)(new:Nat)(t u:TypeId)(x y:af)(h:Nat→Qz):XQ :=
 match y with
 | .p _ .str s=>match tb.find u with
  | some z=>match z.k with
   | .str=>match tb.find t with
    | some ti=>match ti.k with
     | .sl e=>match tb.find e with
      | some j=>if j.T=some (.int .u8)∧j.bytes=1 then(match x with
       | .nils=>some (.sl new,[(new,some (.arr e (.int .u8) (bX s)))],([]:QK).length+List.length (α:=UInt8) s≤140737488355328)
       | .sl id=>match h id with
        | some (.arr A (.int .u8) q)=>if A=e then some (.sl new,[(id,none),(new,some (.arr e (.int .u8) (List.append (α:=Int) q (bX s))))],List.length (α:=Int) q+List.length (α:=UInt8) s≤140737488355328)else none
        | _=>none
       | _=>none)else none
      | none=>none
     | _=>none
    | none=>none
   | _=>none
  | none=>none
 | _=>none
def GZ(tb:bQ)(new:Nat)(t u:TypeId)(x y:af)(h:Nat→Qz):XQ :=
 match y with
 | .p _ (.int _) n=>match gU tb t,tb.find u with
  | some (e,z,A),some C=>match C.k with
   | .int _=>match x with
    | .nils=>some (.sl new,[(new,some (.arr e A (List.replicate (show Int from n).toNat A.zero)))],0≤(show Int from n)∧(([]:List A.den).length+(show Int from n).toNat)*z.bytes≤140737488355328∧([]:List A.den).length+(show Int from n).toNat≤9223372036854775807)
    | .sl id=>match h id with
     | some (.arr D B j)=>if q:B=A then(if D=e then some (.sl new,[(id,none),(new,some (.arr e A ((q ▸ j:List A.den)++List.replicate (show Int from n).toNat A.zero)))],0≤(show Int from n)∧((q ▸ j:List A.den).length+(show Int from n).toNat)*z.bytes≤140737488355328∧(q ▸ j:List A.den).length+(show Int from n).toNat≤9223372036854775807)else none)else none
     | _=>none
    | _=>none
   | _=>none
  | _,_=>none
 | _=>none
def Kq(tb:bQ)(new:Nat)(t u:TypeId)(x y:af)(h:Nat→Qz):XQ :=
 match GZ tb new t u x y h with
 | some r=>some r
 | none=>yw tb new t u x y h
def B0(tb:bQ)(t:TypeId)(x:af)(h:Nat→Qz):XQ :=
 match x with
 | .mp id=>match h id with
  | some (.mpo K A _)=>match tb.find t with
   | some ti=>match ti.k with
    | .mp _ _=>some (.tup [],[(id,some (.mpo K A []))],True)
    | _=>none
   | none=>none
  | _=>none
 | _=>none
def Ll(tb:bQ)(t:TypeId)(x:af):XQ :=
 match x with
 | .nils=>match tb.find t with
  | some ti=>match ti.k with
   | .sl _=>some (.p false (.int .i64) (0:Int),[],True)
   | _=>none
  | none=>none
 | _=>none
def GS(tb:bQ)(new:Nat)(t:TypeId):XQ :=
 match I2 tb t with
 | some (k,n)=>match tb.find t with
  | some ti=>if(ti.z.take n).all (Kt k)=true∧n≤ti.z.length then some (.adr new 0 ti.size 0,[(new,some (.lmp k n (dq n) (ti.z.drop n)))],True)else none
  | none=>none
 | none=>none
def KQ(new:Nat)(x:af):XQ :=
 match x with
 | .lag k n f e=>some (.adr new 0 (n+e.length) 0,[(new,some (.lmp k n f e))],True)
 | _=>none
def Hv(tb:bQ)(t:TypeId)(f:QV)(j:List af):XQ :=
 match I2 tb t with
 | some (k,n)=>match pa tb t f j with
  | some (.agg e,[],c)=>if(e.take n).all (Kt k)=true∧n≤e.length then some (.lag k n (dq n) (e.drop n),[],c)else none
  | _=>none
 | none=>none
def Gb(tb:bQ)(t:TypeId)(x:af)(h:Nat→Qz):XQ :=
 match x with
 | .loc β T y=>match tb.find t with
  | some ti=>if ti.T=some T∧T.scalar=true then some (.p β T y,[],True)else none
  | none=>none
 | .ada id 0 n i=>match h id with
  | some (.lmp k q j _)=>match tb.find t with
   | some ti=>match ti.k with
    | .int u=>if q=n∧u=k then some (.p false (.int k) (fy j i),[],True)else none
    | _=>none
   | none=>none
  | _=>none
 | .adr id i sz off=>match h id with
  | some (.lmp k n j e)=>match tb.find t with
   | some ti=>if ti.k.agg=true∧i*sz+off=0∧ti.size=n+e.length then some (.lag k n j e,[],True)
    else if n≤i*sz+off then(match gh ti e (i*sz+off - n)with
     | some y=>some (y,[],True)
     | none=>none)else none
   | none=>none
  | some (.vrow _ _ e)=>match tb.find t with
   | some ti=>match gh ti e (i*sz+off)with
    | some y=>some (y,[],True)
    | none=>none
   | none=>none
  | _=>none
 | _=>none
def Cm(tb:bQ)(t:TypeId)(x y:af)(h:Nat→Qz):XQ :=
 match x with
 | .ada id 0 n i=>match h id with
  | some (.lmp k q j e)=>match y with
   | .p _ (.int u) v=>match tb.find t with
    | some ti=>if q=n∧u=k∧ti.size=1 then some (.unk,[(id,some (.lmp k q (re j i v) e))],True)else none
    | none=>none
   | _=>none
  | _=>none
 | .adr id i sz off=>match h id with
  | some (.lmp k n j e)=>match tb.find t with
   | some ti=>if(cellsOf y).all af.cell=true∧(cellsOf y).length=ti.size∧n≤i*sz+off∧i*sz+off - n+ti.size≤e.length then
     some (.unk,[(id,some (.lmp k n j (wr e (i*sz+off - n) (cellsOf y))))],True)else none
   | none=>none
  | _=>none
 | _=>none
def KW(x:af):XQ :=
 match x with
 | .loc β T y=>some (.loc β T y,[],True)
 | .p β (.ptr A) q=>if A.MU=true then some (.loc β A (q.getD A.zero),[],q.isSome=true)else none
 | _=>none
def Gz(tb:bQ)(t:TypeId)(x:af)(f:Nat):XQ :=
 match x with
 | .loc β T y=>match tb.find t with
  | some ti=>match ti.k with
   | .st e=>match e[f]? with
    | some (off,j)=>match tb.find j with
     | some p=>match p.T with
      | some T'=>match we T' T y off with
       | some z=>some (.loc β T' z,[],True)
       | none=>none
      | none=>none
     | none=>none
    | none=>none
   | _=>none
  | none=>none
 | _=>none
def D9(tb:bQ)(t:TypeId)(x:af)(f:Nat):XQ :=
 match x with
 | .agg e=>match tb.find t with
  | some ti=>match ti.k with
   | .st j=>match j[f]? with
    | some (off,p)=>match tb.find p with
     | some q=>match gh q e off with
      | some y=>some (y,[],True)
      | none=>none
     | none=>none
    | none=>none
   | _=>none
  | none=>none
 | _=>none
def CS(tb:bQ)(t:TypeId)(x i:af)(h:Nat→Qz):XQ :=
 match x with
 | .p β (.slice (.arr k n)) u=>match i with
  | .p _ (.int _) m=>match gU tb t with
   | some (_,q,_)=>if n=q.size then some (.loc β (.arr k n) (u.getD (show Int from m).toNat (dq n)),[],0≤(show Int from m)∧(show Int from m)<u.length)else none
   | none=>none
  | _=>none
 | .loc β (.arr k n) u=>match i with
  | .p _ (.int _) m=>match tb.find t with
   | some ti=>match ti.k with
    | .ar z e=>match tb.find e with
     | some q=>if z=n∧q.size=1 then some (.loc β (.int k) (fy u (show Int from m).toNat),[],0≤(show Int from m)∧(show Int from m)<(n:Int))else none
     | none=>none
    | _=>none
   | none=>none
  | _=>none
 | .adr id j sz off=>match h id with
  | some (.lmp _ _ _ _)=>match i with
   | .p _ (.int _) m=>match tb.find t with
    | some ti=>match ti.k with
     | .ar n e=>match tb.find e with
      | some q=>if q.size=1 then some (.ada id (j*sz+off) n (show Int from m).toNat,[],0≤(show Int from m)∧(show Int from m)<(n:Int))else none
      | none=>none
     | _=>none
    | none=>none
   | _=>none
  | _=>none
 | .sl id=>match h id with
  | some (.vrow n sz _)=>match i with
   | .p _ (.int _) m=>match yH tb t with
    | some (_,q)=>if q.size=sz then some (.adr id (show Int from m).toNat sz 0,[],0≤(show Int from m)∧(show Int from m)<(n:Int))else none
    | none=>none
   | _=>none
  | _=>none
 | _=>none
def KR(P:Program)(tb:bQ)(op:BinOp)(t:TypeId)(x y:af):XQ :=
 match x,y with
 | .lag k n f [],.lag j u z []=>match tb.find t with
  | some ti=>match ti.k with
   | .ar A e=>match tb.find e with
    | some B=>match B.k with
     | .int C=>if q:u=n then(if A=n∧j=k∧C=k then(match Hk op (HD f (q ▸ z))with
      | some r=>some (r,[],P.eqGuardType P.depth t=false)
      | none=>none)else none)else none
     | _=>none
    | none=>none
   | _=>none
  | none=>none
 | .p _ .flt a,.p _ .flt b=>match op with
  | .add=>some (.p false .flt (bW .add a b),[],True)
  | .sub=>some (.p false .flt (bW .sub a b),[],True)
  | .mul=>some (.p false .flt (bW .mul a b),[],True)
  | .quo=>some (.p false .flt (bW .quo a b),[],True)
  | _=>none
 | _,_=>none
def FC(tb:bQ)(st q:TypeId)(x:af)(h:Nat→Qz):XQ :=
 match x with
 | .sl id=>match h id with
  | some (.arr u (.int .u8) j)=>if q=st then(match tb.find st with
   | some ti=>match ti.k with
    | .sl e=>match tb.find e with
     | some z=>match z.k with
      | .int .u8=>some (.sl id,[(id,some (.bytes u j)),(id,some (.bytes u j))],0<j.length)
      | _=>none
     | none=>none
    | _=>none
   | none=>none)else none
  | _=>none
 | .p _ .flt a=>match tb.find st,tb.find q with
  | some _,some A=>match A.k with
   | .int k=>some (.p false (.int k) ((n6 a).getD 0),[],(n6 a).isSome=true∧k.min≤(n6 a).getD 0∧(n6 a).getD 0≤k.max)
   | _=>none
  | _,_=>none
 | _=>none
def Ck(tb:bQ)(t:TypeId)(x e:af)(h:Nat→Qz):XQ :=
 match x with
 | .sl id=>match h id with
  | some (.arr _ _ j)=>match e with
   | .p _ (.int _) l=>match gU tb t with
    | some (_,q,_)=>some (.suf id (show Int from l).toNat q.size,[],0≤(show Int from l)∧(show Int from l)≤j.length)
    | none=>none
   | _=>none
  | _=>none
 | _=>none
def Gs(tb:bQ)(t:TypeId)(x y:af)(h:Nat→Qz):XQ :=
 match x with
 | .suf id e sz=>match h id with
  | some (.arr z B j)=>match gU tb t with
   | some (_,C,A)=>match eT h A y with
    | some u=>if q:B=A then(if sz=C.size then some (.p false (.int .i64) ((min u.length ((q ▸ j:List A.den).length - e):Nat):Int),[(id,some (.arr z A ((q ▸ j:List A.den).take e++(u.take ((q ▸ j:List A.den).length - e)++(q ▸ j:List A.den).drop (e+u.length)))))],True)else none)else none
    | none=>none
   | none=>none
  | _=>none
 | _=>none
def DE(P:Program)(iG:Option uY)(f:af)(e:List af)(h:Nat→Qz):XQ :=
 match f,iG with
 | .bfn fid j,some q=>if q.own=false∧q.die=none∧q.fl.any (fun b=>b)=false then(match nU h (j++e)with
  | some args=>some (q.r,[],Pure P fid args q.r)
  | none=>none)else none
 | _,_=>none
def Jh(fn:Fn)(first e:List af):XQ :=
 match fn,first,e with
 | .func f,x::j,[]=>some (.bfn f (x::j),[],True)
 | _,_,_=>none
def jc(P:Program)(tb:bQ)(new:Nat)(iG:Option uY)(op:Op)(s:Nat→af)(h:Nat→Qz):XQ :=
 match op with
 | .alloc t=>GS tb new t
 | .box _ x=>KQ new (ev s x)
 | .build t e=>Hv tb t (e.toList.map (·.1)) (e.toList.map fun p=>ev s p.2)
 | .load t x=>Gb tb t (ev s x) h
 | .store t x y=>Cm tb t (ev s x) (ev s y) h
 | .nilCheck x=>KW (ev s x)
 | .fieldAddr t x f=>Gz tb t (ev s x) f
 | .field t x f=>D9 tb t (ev s x) f
 | .indexAddr t x i=>CS tb t (ev s x) (ev s i) h
 | .binOp op t x y _=>KR P tb op t (ev s x) (ev s y)
 | .convert st z x=>FC tb st z (ev s x) h
 | .slice t x (some A) none none=>Ck tb t (ev s x) (ev s A) h
 | .makeFunc fn first j=>Jh fn (first.toList.map (ev s)) (j.toList.map (ev s))
 | .buildSlice t len e=>KZ iG.isSome tb new t len (e.toList.map (·.1)) (e.toList.map fun p=>ev s p.2)
 | .lookup t x k q=>Jg tb t (ev s x) (ev s k) q
 | .call c=>match c.callee with
  | .builtin .len=>match c.args.toList,c.argTypes.toList with
   | [x],[t]=>J0 tb t (ev s x) h
   | _,_=>none
  | .builtin .append=>match c.args.toList,c.argTypes.toList with
   | [x,y],[t,u]=>Kq tb new t u (ev s x) (ev s y) h
   | _,_=>none
  | .builtin .clear=>match c.args.toList,c.argTypes.toList with
   | [x],[t]=>B0 tb t (ev s x) h
   | _,_=>none
  | .builtin .cap=>match c.args.toList,c.argTypes.toList with
   | [x],[t]=>Ll tb t (ev s x)
   | _,_=>none
  | .builtin .copy=>match c.args.toList,c.argTypes.toList with
   | [x,y],[t,_]=>Gs tb t (ev s x) (ev s y) h
   | _,_=>none
  | .value f=>DE P iG (ev s f) (gR tb (IP iG) c.argTypes.toList (c.args.toList.map (ev s))) h
  | _=>none
 | _=>none
def EM(P:Program)(tb:bQ)(new:Nat)(asm:Option Bool)(iG:Option uY)(op:Op)(s:Nat→af)(h:Nat→Qz):XQ :=
 match pH tb new iG.isSome op s h with
 | some r=>some r
 | none=>match jc P tb new iG op s h with
  | some r=>some r
  | none=>gO P tb new asm iG op s h
theorem Good.imp{P:Program}{o:Oper}{a:Act}{w:World}{p q:Value→World→Prop}(h:Good P o a w p)(j:∀v w',p v w'→q v w'):Good P o a w q:=fun K Q hk=>h K Q fun v w' z=>hk v w' (j v w' z)
section
variable{P:Program}{tb:bQ}{Bw:Nat→Prop}{w0:cz P}{ρ:Nat→QW}{φ:Nat→Nat→Prop}{h:Nat→Qz}{w:World}{new:Nat}{n:NS}{s:Nat→af}{a:Act}
theorem aF.val(f:af→af){x:af}(B:∀F ρ v,V F ρ x v→V F ρ (f x) v){u:gT}{v:Value}{w':World}(C:aF Bw w0 ρ φ h w new x u v w'):aF Bw w0 ρ φ h w new (f x) u v w':=by
 obtain⟨j,z,D,E,I,J,L⟩:=C;exact⟨j,z,D,E,I,J,B _ _ _ L⟩
theorem xb(f:cb P tb)(m:Mem Bw w0 ρ φ h w)(A:eL n (Fr (own φ h) Bw w) ρ s a){o:Oper}{t:TypeId}{q:Array (Nat×Operand)}(B:o.op = .build t q){x:af}{u:gT}{c:Prop}
  (hd:pa tb t (q.toList.map (·.1)) (q.toList.map fun p=>ev s p.2)=some (x,u,c)):Good P o a w (aF Bw w0 ρ φ h w new x u):=by
 unfold pa at hd;split at hd
 ·rename_i ti ht;split at hd
  ·rename_i D hk;split at hd
   ·rename_i C j;cases hd;have:=jm A (q.toList.map (·.2));simp only[List.map_map]at this;exact uX m f (f.find ht) hk B this j
   ·cases hd
  ·rename_i n e hk;split at hd
   ·rename_i E z;split at hd
    ·rename_i C j;cases hd;have:=jm A (q.toList.map (·.2));simp only[List.map_map]at this;exact th m f (f.find ht) hk (f.find z) B this j
    ·cases hd
   ·cases hd
  ·cases hd
 ·cases hd
theorem EI(C:cb P tb)(m:Mem Bw w0 ρ φ h w)(I:eL n (Fr (own φ h) Bw w) ρ s a)(hn:ρ new=none){o:Oper}{iG:Option uY}{x:af}{u:gT}{c:Prop}
  (hd:jc P tb new iG o.op s h=some (x,u,c)) (hc:c):Good P o a w (aF Bw w0 ρ φ h w new x u):=by
 unfold jc at hd;split at hd
 ·-- alloc
  rename_i t E;unfold GS at hd;split at hd
  ·split at hd
   ·rename_i ti ht;split at hd
    ·rename_i hz;cases hd;exact AQ m hn (C.find ht) E hz.1 hz.2
    ·cases hd
   ·cases hd
  ·cases hd
 ·-- box
  rename_i t xo E;unfold KQ at hd;split at hd
  ·rename_i k n xs cs ex;have D:=aV I xo;rw[ex]at D;cases hd;exact E4 m hn D E _
  ·cases hd
 ·-- build
  rename_i t ps E;unfold Hv at hd;split at hd
  ·split at hd
   ·rename_i ds c' hb;split at hd
    ·rename_i hz;cases hd;refine(xb (new:=new) C m I E hb).imp fun v w' hp=>?_
     exact aF.val (fun _=> .lag _ _ (dq _) (ds.drop _)) (fun F ρ v hv=>Dl hz.1 hz.2 hv) hp
    ·cases hd
   ·cases hd
  ·cases hd
 ·-- load
  rename_i t xo E;have D:=aV I xo;unfold Gb at hd;split at hd
  ·rename_i β T y ex;rw[ex]at D;split at hd
   ·rename_i ti ht;split at hd
    ·rename_i hT;cases hd;exact zf m (C.find ht) D E hT.1 hT.2
    ·cases hd
   ·cases hd
  ·rename_i id n i ex;rw[ex]at D;split at hd
   ·rename_i k n' xs cs hb;split at hd
    ·rename_i ti ht;split at hd
     ·rename_i k2 hk;split at hd
      ·rename_i M;obtain⟨rfl,rfl⟩:=M;cases hd;exact BU m (C.find ht) hk D E hb
      ·cases hd
     ·cases hd
    ·cases hd
   ·cases hd
  ·rename_i id i sz off ex;rw[ex]at D;split at hd
   ·rename_i k n xs cs hb;split at hd
    ·rename_i ti ht;split at hd
     ·rename_i M;cases hd;exact AU m (C.find ht) M.1 D E hb M.2.1 M.2.2
     ·split at hd
      ·rename_i M;split at hd
       ·rename_i y J;cases hd;exact Bk m (C.find ht) D E hb (by omega) J
       ·cases hd
      ·cases hd
    ·cases hd
   ·rename_i n b7 cs hb;split at hd
    ·rename_i ti ht;split at hd
     ·rename_i y J;cases hd;exact yW m (C.find ht) D E hb J
     ·cases hd
    ·cases hd
   ·cases hd
  ·cases hd
 ·-- store
  rename_i t xo yo E;have D:=aV I xo;have J:=aV I yo;unfold Cm at hd;split at hd
  ·rename_i id n i ex;rw[ex]at D;split at hd
   ·rename_i k n' xs cs hb;split at hd
    ·rename_i β k2 v ey;rw[ey]at J;split at hd
     ·rename_i ti ht;split at hd
      ·rename_i M;obtain⟨rfl,rfl,a8⟩:=M;cases hd;exact Ao m (C.find ht) a8 D J E hb
      ·cases hd
     ·cases hd
    ·cases hd
   ·cases hd
  ·rename_i id i sz off ex;rw[ex]at D;split at hd
   ·rename_i k n xs cs hb;split at hd
    ·rename_i ti ht;split at hd
     ·rename_i M;obtain⟨q1,q2,q3,q4⟩:=M;cases hd;exact y9 m (C.find ht) D J q1 E hb q2 (by omega) q4
     ·cases hd
    ·cases hd
   ·cases hd
  ·cases hd
 ·-- nilCheck
  rename_i xo E;have D:=aV I xo;unfold KW at hd;split at hd
  ·rename_i β T y ex;rw[ex]at D;cases hd;exact zx m D E
  ·rename_i β A q ex;rw[ex]at D;split at hd
   ·cases hd;exact AO m D E hc
   ·cases hd
  ·cases hd
 ·-- fieldAddr
  rename_i t xo f E;have D:=aV I xo;unfold Gz at hd;split at hd
  ·rename_i β T y ex;rw[ex]at D;split at hd
   ·rename_i ti ht;split at hd
    ·rename_i fs hk;split at hd
     ·rename_i off ft hf;split at hd
      ·split at hd
       ·split at hd
        ·rename_i z hz;cases hd;exact xi m (C.find ht) D E hk hf hz
        ·cases hd
       ·cases hd
      ·cases hd
     ·cases hd
    ·cases hd
   ·cases hd
  ·cases hd
 ·-- field
  rename_i t xo f E;have D:=aV I xo;unfold D9 at hd;split at hd
  ·rename_i cs ex;rw[ex]at D;split at hd
   ·rename_i ti ht;split at hd
    ·rename_i fs hk;split at hd
     ·rename_i off ft hf;split at hd
      ·rename_i fi a9;split at hd
       ·rename_i y J;cases hd;exact CO m (C.find ht) D E hk hf (C.find a9) J
       ·cases hd
      ·cases hd
     ·cases hd
    ·cases hd
   ·cases hd
  ·cases hd
 ·-- indexAddr
  rename_i t xo io E;have D:=aV I xo;have hi:=aV I io;unfold CS at hd;split at hd
  ·rename_i β k n xs ex;rw[ex]at D;split at hd
   ·rename_i a2 k' mm ei;rw[ei]at hi;split at hd
    ·rename_i e te A L;obtain⟨ti,h1,_,h2,h3,h4,h5⟩:=ca C L;split at hd
     ·rename_i X;cases hd;exact sK m h1 h2 h3 D hi E X hc.1 hc.2
     ·cases hd
    ·cases hd
   ·cases hd
  ·rename_i β k n xs ex;rw[ex]at D;split at hd
   ·rename_i a2 k' mm ei;rw[ei]at hi;split at hd
    ·rename_i ti ht;split at hd
     ·rename_i n' e hk;split at hd
      ·rename_i te N;split at hd
       ·rename_i M;obtain⟨rfl,X⟩:=M;cases hd;exact wU m (C.find ht) hk (C.find N) X D hi E hc.1 hc.2
       ·cases hd
      ·cases hd
     ·cases hd
    ·cases hd
   ·cases hd
  ·rename_i id j sz off ex;rw[ex]at D;split at hd
   ·rename_i kk nn xs cs hb;split at hd
    ·rename_i a2 k' mm ei;rw[ei]at hi;split at hd
     ·rename_i ti ht;split at hd
      ·rename_i n e hk;split at hd
       ·rename_i te N;split at hd
        ·rename_i X;cases hd;exact zM m (C.find ht) hk (C.find N) X D hb hi E hc
        ·cases hd
       ·cases hd
      ·cases hd
     ·cases hd
    ·cases hd
   ·cases hd
  ·rename_i id ex;rw[ex]at D;split at hd
   ·rename_i n sz cs hb;split at hd
    ·rename_i a2 k' mm ei;rw[ei]at hi;split at hd
     ·rename_i e te L;obtain⟨ti,h1,h2,h3⟩:=ij C L;split at hd
      ·rename_i X;subst X;cases hd;exact w8 m h1 h2 h3 D hb hi E hc.1 hc.2
      ·cases hd
     ·cases hd
    ·cases hd
   ·cases hd
  ·cases hd
 ·-- binOp
  rename_i op t xo yo t' E;have D:=aV I xo;have J:=aV I yo;unfold KR at hd;split at hd
  ·rename_i k n xs k2 n2 ys ex ey;rw[ex]at D;rw[ey]at J;split at hd
   ·rename_i ti ht;split at hd
    ·rename_i n' e hk;split at hd
     ·rename_i te N;split at hd
      ·rename_i k' aa;split at hd
       ·rename_i q;subst q;split at hd
        ·rename_i M;obtain⟨rfl,rfl,rfl⟩:=M;split at hd
         ·rename_i r hr;cases hd;simp only[V]at D J;obtain⟨vs,e1,l1,_⟩:=D;obtain⟨us,e2,l2,_⟩:=J;obtain rfl:=List.eq_nil_of_length_eq_zero l1;obtain rfl:=List.eq_nil_of_length_eq_zero l2;rw[List.append_nil]at e1 e2;obtain⟨z,h1,h2⟩:=rH (P:=P) (w:=w) (F:=Fr (own φ h) Bw w) (ρ:=ρ) (xo:=xo) (yo:=yo) hr (run_eqGuard_agg w op t xo yo _ _ hc) (EG (C.find ht) hk (C.find N) aa xs ys) ⟨rfl,rfl⟩;exact Good.aG (v:=z) (w':=w) (by simp only[execOp,E,e1,e2];rw[Sem.run_bind,h1];rfl) (aF.pure m h2)
         ·cases hd
        ·cases hd
       ·cases hd
      ·cases hd
     ·cases hd
    ·cases hd
   ·cases hd
  ·rename_i β p a2 q ex ey;rw[ex]at D;rw[ey]at J;split at hd
   ·cases hd;exact rU m (.inl rfl) E D J
   ·cases hd;exact rU m (.inr (.inl rfl)) E D J
   ·cases hd;exact rU m (.inr (.inr (.inl rfl))) E D J
   ·cases hd;exact rU m (.inr (.inr (.inr rfl))) E D J
   ·cases hd
  ·cases hd
 ·-- convert
  rename_i st dt xo E;have D:=aV I xo;unfold FC at hd;split at hd
  ·rename_i id ex;rw[ex]at D;split at hd
   ·rename_i et xs hi;split at hd
    ·rename_i ac;subst ac;split at hd
     ·rename_i ti a1;split at hd
      ·rename_i e hk;split at hd
       ·rename_i te N;split at hd
        ·rename_i ad;cases hd;exact xm m (C.find a1) hk (C.find N) ad D E hi hc
        ·cases hd
       ·cases hd
      ·cases hd
     ·cases hd
    ·cases hd
   ·cases hd
  ·rename_i β p ex;rw[ex]at D;split at hd
   ·rename_i si di ax b1;split at hd
    ·rename_i k hk;cases hd;exact BL m (C.find ax) (C.find b1) hk E D hc
    ·cases hd
   ·cases hd
  ·cases hd
 ·-- slice
  rename_i t xo lo E;have D:=aV I xo;have hl:=aV I lo;unfold Ck at hd;split at hd
  ·rename_i id ex;rw[ex]at D;split at hd
   ·rename_i be A xs Y;split at hd
    ·rename_i β k l el;rw[el]at hl;split at hd
     ·rename_i e te A' L;obtain⟨ti,h1,_,h2,h3,h4,h5⟩:=ca C L;cases hd;exact Af m h1 h2 h3 E Y D hl hc.1 hc.2
     ·cases hd
    ·cases hd
   ·cases hd
  ·cases hd
 ·-- makeFunc
  rename_i fn first a6 E
  unfold Jh at hd;split at hd
  ·rename_i f y ys ef ec;cases hd;have a7:a6 = #[]:=by
    cases a6 with
    | mk l=>cases l with
     | nil=>rfl
     | cons _ _=>simp at ec
   subst a7;have:=jm I first.toList
   rw[ef]at this;exact xf m E this
  ·cases hd
 ·-- buildSlice
  rename_i t len ps E;unfold KZ at hd;split at hd
  ·rename_i e te L;obtain⟨ti,h1,h2,h3⟩:=ij C L;split at hd
   ·rename_i M;cases hd;have:=jm I (ps.toList.map (·.2));simp only[List.map_map]at this;exact xy m hn h1 h2 h3 E M.2.1 this (fun x D=>by
     have:=(List.all_eq_true.1 M.2.2.1) x D;simp only[Bool.and_eq_true,beq_iff_eq]at this;exact this) M.2.2.2
   ·cases hd
  ·cases hd
 ·-- lookup
  rename_i t xo ko b8 E;have D:=aV I xo;have hk:=aV I ko;unfold Jg at hd;split at hd
  ·rename_i β k1 k2 kv a2 k' i ex ek;rw[ex]at D;rw[ek]at hk;split at hd
   ·rename_i ti ht;split at hd
    ·rename_i kt et b2;split at hd
     ·rename_i tk te b3 N;split at hd
      ·rename_i b9 b4;split at hd
       ·rename_i M;obtain⟨rfl,rfl,hT⟩:=M;cases hd;exact y7 m (C.find ht) b2 (C.find b3) b4 (C.find N) hT E D hk
       ·cases hd
      ·cases hd
     ·cases hd
    ·cases hd
   ·cases hd
  ·cases hd
 ·-- call
  rename_i c0 E;obtain⟨callee,args,a3⟩:=c0;cases callee with
  | builtin b =>
   cases b with
   | len =>
    simp only at hd;split at hd
    ·rename_i xo t ea et;have Z:args = #[xo]:=Array.ext' ea;have O:a3 = #[t]:=Array.ext' et;subst Z O;have D:=aV I xo;unfold J0 at hd;split at hd
     ·rename_i id ex;rw[ex]at D;split at hd
      ·rename_i n sz cs hb;split at hd
       ·rename_i r L;obtain⟨e,te⟩:=r;obtain⟨ti,h1,h2,h3⟩:=ij C L;cases hd;exact Az m h1 h2 D hb E
       ·cases hd
      ·cases hd
     ·cases hd
    ·cases hd
   | append =>
    simp only at hd;split at hd
    ·rename_i xo yo t u ea et;have Z:args = #[xo,yo]:=Array.ext' ea;have O:a3 = #[t,u]:=Array.ext' et;subst Z O;have D:=aV I xo;have J:=aV I yo;unfold Kq at hd;split at hd
     ·rename_i r hz;cases hd;unfold GZ at hz;split at hz
      ·rename_i β k1 n ey;split at hz
       ·rename_i e te A tu L a4;obtain⟨ti,h1,_,h2,h3,h4,h5⟩:=ca C L;split at hz
        ·rename_i k2 a5;split at hz
         ·rename_i ex;cases hz;rw[ey]at J;exact yd m hn h1 h2 h3 h4 h5 (C.find a4) a5 E D J (.inl ⟨ex,rfl,rfl,rfl⟩) hc.1 hc.2.1 hc.2.2
         ·rename_i id ex;split at hz
          ·rename_i e' B xs Y;split at hz
           ·rename_i q;subst q;split at hz
            ·rename_i he;subst he;cases hz;rw[ey]at J;exact yd m hn h1 h2 h3 h4 h5 (C.find a4) a5 E D J (.inr ⟨id,ex,Y,rfl,rfl⟩) hc.1 hc.2.1 hc.2.2
            ·cases hz
           ·cases hz
          ·cases hz
         ·cases hz
        ·cases hz
       ·cases hz
      ·cases hz
     ·unfold yw at hd;split at hd
      ·rename_i β s0 ey;rw[ey]at J;split at hd
       ·rename_i tu a4;split at hd
        ·rename_i a5;split at hd
         ·rename_i ti a1;split at hd
          ·rename_i e hk;split at hd
           ·rename_i te N;split at hd
            ·rename_i M;split at hd
             ·rename_i ex;rw[ex]at D;cases hd;exact o8 m hn (C.find a1) hk (C.find a4) a5 (C.find N) M.1 M.2 D J E (.inl ⟨rfl,rfl,rfl,rfl⟩) hc
             ·rename_i id ex;rw[ex]at D;split at hd
              ·rename_i e' xs Y;split at hd
               ·rename_i he;subst he;cases hd;exact o8 m hn (C.find a1) hk (C.find a4) a5 (C.find N) M.1 M.2 D J E (.inr ⟨id,rfl,Y,rfl,rfl⟩) hc
               ·cases hd
              ·cases hd
             ·cases hd
            ·cases hd
           ·cases hd
          ·cases hd
         ·cases hd
        ·cases hd
       ·cases hd
      ·cases hd
    ·cases hd
   | clear =>
    simp only at hd;split at hd
    ·rename_i xo t ea et;have Z:args = #[xo]:=Array.ext' ea;have O:a3 = #[t]:=Array.ext' et;subst Z O;have D:=aV I xo;unfold B0 at hd;split at hd
     ·rename_i id ex;rw[ex]at D;split at hd
      ·rename_i K A kv Y;split at hd
       ·rename_i ti a1;split at hd
        ·rename_i kt O hk;cases hd;exact C0 m (C.find a1) hk E Y D
        ·cases hd
       ·cases hd
      ·cases hd
     ·cases hd
    ·cases hd
   | cap =>
    simp only at hd;split at hd
    ·rename_i xo t ea et;have Z:args = #[xo]:=Array.ext' ea;have O:a3 = #[t]:=Array.ext' et;subst Z O;have D:=aV I xo;unfold Ll at hd;split at hd
     ·rename_i ex;rw[ex]at D;split at hd
      ·rename_i ti a1;split at hd
       ·rename_i e hk;cases hd;exact Aw m (C.find a1) hk E D
       ·cases hd
      ·cases hd
     ·cases hd
    ·cases hd
   | copy =>
    simp only at hd;split at hd
    ·rename_i xo yo t t2 ea et;have Z:args = #[xo,yo]:=Array.ext' ea;have O:a3 = #[t,t2]:=Array.ext' et;subst Z O;have D:=aV I xo;have J:=aV I yo;unfold Gs at hd;split at hd
     ·rename_i id lo sz ex;rw[ex]at D;split at hd
      ·rename_i e' B xs Y;split at hd
       ·rename_i e te A L;obtain⟨ti,h1,_,h2,h3,h4,h5⟩:=ca C L;split at hd
        ·rename_i ys b5;split at hd
         ·rename_i q;subst q;split at hd
          ·rename_i X;subst X;cases hd;exact zj m h1 h2 h3 h4 D J E Y b5
          ·cases hd
         ·cases hd
        ·cases hd
       ·cases hd
      ·cases hd
     ·cases hd
    ·cases hd
   | _=>cases hd
  | value f =>
   simp only at hd;unfold DE at hd;split at hd
   ·rename_i fid fs q ef;have hf:=aV I f;rw[ef]at hf;split at hd
    ·split at hd
     ·rename_i b6 hl;cases hd;exact BV m E hf (ju (jm I args.toList)) hl hc
     ·cases hd
    ·cases hd
   ·cases hd
  | invoke _ _=>cases hd
 ·cases hd
theorem Gr(e:cb P tb)(m:Mem Bw w0 ρ φ h w)(q:eL n (Fr (own φ h) Bw w) ρ s a)(f:∀j,j<8→ρ (new+j)=none){o:Oper}{asm:Option Bool}{iG:Option uY}(p:dieOf iG=none){x:af}{u:gT}{c:Prop}
  (hd:EM P tb new asm iG o.op s h=some (x,u,c)) (hc:c):Good P o a w (aF Bw w0 ρ φ h w new x u):=by
 unfold EM at hd;split at hd
 ·rename_i r v;cases hd;exact Ee e m q (f 0 (by omega)) v hc
 split at hd
 ·rename_i r v;cases hd;exact EI e m q (f 0 (by omega)) v hc
 ·exact Ef e m q f p hd hc
theorem H3(m:Mem Bw w0 ρ φ h w)(J:eL n (Fr (own φ h) Bw w) ρ s a)(B:∀j,j<8→ρ (new+j)=none){o:Oper}{asm:Option Bool}{iG:Option uY}{y:Value}(f:dying o.op iG=some y){x:af}{u:gT}{c:Prop}
  (hd:EM P tb new asm iG o.op s h=some (x,u,c)) (hc:c):Ky P o a w y (fun L=>∃v,aF Bw w0 ρ φ h w new .unk u v L):=by
 refine Gv (tb:=tb) m J B f (x:=x) (u:=u) (c:=c) (asm:=asm) ?_ hc;unfold EM at hd;split at hd
 ·rename_i r p;exfalso
  unfold dying at f;split at f
  ·rename_i c0 q C;split at f
   ·rename_i M z;rw[C]at p;obtain⟨callee,args,D⟩:=c0;simp only at z;subst z;simp only[pH]at p;cases p
   ·cases f
  ·cases f
 rename_i E;clear E;split at hd
 ·rename_i r p;exfalso
  unfold dying at f;split at f
  ·rename_i c0 q C;split at f
   ·rename_i M z;split at f
    ·rename_i A;simp only[Bool.and_eq_true]at A;rw[C]at p;obtain⟨callee,args,D⟩:=c0;simp only at z;subst z;simp only[jc]at p;unfold DE at p;split at p
     ·rename_i e;cases e;rw[if_neg (fun I=>by rw[A.1.1]at I;cases I.1)]at p;cases p
     ·cases p
    ·cases f
   ·cases f
  ·cases f
 ·exact hd
theorem Cr{s J:Nat→af}{h h':Nat→Qz}{op:Op}{iG:Option uY}(B:∀x∈op.operands.toList,ev s x=ev J x)(key:∀x∈op.operands.toList,(¬((∃x,op = .move x)∨(∃x,op = .assign x)∨(∃x,op = .nilCheck x)∨∃t x f,op = .fieldAddr t x f))→∀i∈ids (ev s x),h i=h' i)
  (hl:∀c,op = .call c→∀X,(∀i∈bu X,∃x∈op.operands.toList,i∈ids (ev s x))→nU h X=nU h' X) (M:∀c,op = .call c→∀A,∀x∈op.operands.toList,eT h A (ev s x)=eT h' A (ev s x)) :
  jc P tb new iG op s h=jc P tb new iG op J h':=by
 cases op with
 | alloc t=>rfl
 | box t x=>simp only[jc,B x (by simp[Op.operands])]
 | build t N =>
  simp only[jc];have e:N.toList.map (fun p=>ev s p.2)=N.toList.map (fun p=>ev J p.2):=List.map_congr_left (fun p D=>B p.2 (by simp only[Op.operands,List.mem_map];exact⟨p,D,rfl⟩));rw[e]
 | load t x =>
  have C:=key x (by simp[Op.operands]) (by rintro(⟨_,e⟩ | ⟨_,e⟩ | ⟨_,e⟩ | ⟨_,_,_,e⟩) <;> cases e);simp only[jc,←B x (by simp[Op.operands])];unfold Gb;split
  ·rfl
  ·rename_i id n i ex;rw[C id (by rw[ex];simp[ids])]
  ·rename_i id i sz off ex;rw[C id (by rw[ex];simp[ids])]
  ·rfl
 | store t x y =>
  have C:=key x (by simp[Op.operands]) (by rintro(⟨_,e⟩ | ⟨_,e⟩ | ⟨_,e⟩ | ⟨_,_,_,e⟩) <;> cases e);simp only[jc,←B x (by simp[Op.operands]),←B y (by simp[Op.operands])];unfold Cm;split
  ·rename_i id n i ex;rw[C id (by rw[ex];simp[ids])]
  ·rename_i id i sz off ex;rw[C id (by rw[ex];simp[ids])]
  ·rfl
 | nilCheck x=>simp only[jc,B x (by simp[Op.operands])]
 | fieldAddr t x f=>simp only[jc,B x (by simp[Op.operands])]
 | field t x f=>simp only[jc,B x (by simp[Op.operands])]
 | indexAddr t x i =>
  have C:=key x (by simp[Op.operands]) (by rintro(⟨_,e⟩ | ⟨_,e⟩ | ⟨_,e⟩ | ⟨_,_,_,e⟩) <;> cases e);simp only[jc,←B x (by simp[Op.operands]),←B i (by simp[Op.operands])];unfold CS;split
  ·rfl
  ·rfl
  ·rename_i id j sz off ex;rw[C id (by rw[ex];simp[ids])]
  ·rename_i id ex;rw[C id (by rw[ex];simp[ids])]
  ·rfl
 | binOp o t x y t'=>simp only[jc,B x (by simp[Op.operands]),B y (by simp[Op.operands])]
 | convert st dt x =>
  have C:=key x (by simp[Op.operands]) (by rintro(⟨_,e⟩ | ⟨_,e⟩ | ⟨_,e⟩ | ⟨_,_,_,e⟩) <;> cases e);simp only[jc,←B x (by simp[Op.operands])];unfold FC;split
  ·rename_i id ex;rw[C id (by rw[ex];simp[ids])]
  ·rfl
  ·rfl
 | slice t x V hi mx =>
  cases V with
  | none=>rfl
  | some V =>
   cases hi with
   | some _=>rfl
   | none =>
    cases mx with
    | some _=>rfl
    | none =>
     have C:=key x (by simp[Op.operands]) (by rintro(⟨_,e⟩ | ⟨_,e⟩ | ⟨_,e⟩ | ⟨_,_,_,e⟩) <;> cases e);simp only[jc,←B x (by simp[Op.operands]),←B V (by simp[Op.operands])];unfold Ck;split
     ·rename_i id ex;rw[C id (by rw[ex];simp[ids])]
     ·rfl
 | makeFunc f fs cs =>
  simp only[jc];rw[List.map_congr_left (l:=cs.toList) (f:=ev s) (g:=ev J) (fun p D=>B p (by simp only[Op.operands,Array.toList_append,List.mem_append];exact .inr D)),List.map_congr_left (l:=fs.toList) (f:=ev s) (g:=ev J) (fun p D=>B p (by simp only[Op.operands,Array.toList_append,List.mem_append];exact .inl D))]
 | buildSlice t len N =>
  simp only[jc];have e:N.toList.map (fun p=>ev s p.2)=N.toList.map (fun p=>ev J p.2):=List.map_congr_left (fun p D=>B p.2 (by simp only[Op.operands,List.mem_map];exact⟨p,D,rfl⟩));rw[e]
 | lookup t x k a1=>simp only[jc,B x (by simp[Op.operands]),B k (by simp[Op.operands])]
 | call c =>
  obtain⟨callee,args,L⟩:=c;have v:∀x∈args.toList,x∈(Op.call { callee,args,argTypes:=L }).operands.toList:=fun x C=>by simp only[Op.operands,Call.operands,Array.toList_append,List.mem_append];exact .inr C
  have e:args.toList.map (ev s)=args.toList.map (ev J):=List.map_congr_left (fun p D=>B p (v p D));cases callee with
  | builtin b =>
   cases b with
   | append =>
    simp only[jc];split
    ·rename_i x y t u E _;have C:x∈args.toList:=by rw[E];simp
     have I:y∈args.toList:=by rw[E];simp
     rw[←B x (v x C),←B y (v y I)];have hk:=key x (v x C) (by rintro(⟨_,e⟩ | ⟨_,e⟩ | ⟨_,e⟩ | ⟨_,_,_,e⟩) <;> cases e);unfold Kq;cases Y:ev s x with
     | sl id =>
      unfold yw GZ;dsimp only;rw[hk id (by rw[Y];simp[ids])]
     | _=>rfl
    ·rfl
   | clear =>
    simp only[jc];split
    ·rename_i x t E _;have C:x∈args.toList:=by rw[E];simp
     rw[←B x (v x C)];have hk:=key x (v x C) (by rintro(⟨_,e⟩ | ⟨_,e⟩ | ⟨_,e⟩ | ⟨_,_,_,e⟩) <;> cases e);unfold B0;split
     ·rename_i id ex;rw[hk id (by rw[ex];simp[ids])]
     ·rfl
    ·rfl
   | cap =>
    simp only[jc];split
    ·rename_i x t E _;have C:x∈args.toList:=by rw[E];simp
     rw[←B x (v x C)]
    ·rfl
   | len =>
    simp only[jc];split
    ·rename_i x t E _;have C:x∈args.toList:=by rw[E];simp
     rw[←B x (v x C)];have hk:=key x (v x C) (by rintro(⟨_,e⟩ | ⟨_,e⟩ | ⟨_,e⟩ | ⟨_,_,_,e⟩) <;> cases e);unfold J0;split
     ·rename_i id ex;rw[hk id (by rw[ex];simp[ids])]
     ·rfl
    ·rfl
   | copy =>
    simp only[jc];split
    ·rename_i x y t t2 E _;have C:x∈args.toList:=by rw[E];simp
     have I:y∈args.toList:=by rw[E];simp
     rw[←B x (v x C),←B y (v y I)];have hk:=key x (v x C) (by rintro(⟨_,e⟩ | ⟨_,e⟩ | ⟨_,e⟩ | ⟨_,_,_,e⟩) <;> cases e);unfold Gs;split
     ·rename_i id V sz ex;rw[hk id (by rw[ex];simp[ids])];split
      ·split
       ·rename_i A _;rw[M _ rfl A y (v y I)]
       ·rfl
      ·rfl
     ·rfl
    ·rfl
   | _=>rfl
  | value f =>
   have hf:f∈(Op.call { callee:= .value f,args,argTypes:=L }).operands.toList:=by simp[Op.operands,Call.operands]
   simp only[jc];rw[←B f hf,←e];unfold DE;split
   ·rename_i fid fs q ef;split
    ·rw[hl _ rfl _ (fun i hi=>by
      obtain⟨y,I,hi⟩:=cF.1 hi;rw[List.mem_append]at I;rcases I with I | I
      ·exact⟨f,hf,by rw[ef];simp only[ids];exact cF.2 ⟨y,I,hi⟩⟩
      ·have O:i∈bu (gR tb (IP (some q)) L.toList (args.toList.map (ev s))):=cF.2 ⟨y,I,hi⟩;rw[m8]at O;obtain⟨z,hz,Z⟩:=cF.1 O;obtain⟨p,D,rfl⟩:=List.mem_map.1 hz;exact⟨p,v p D,Z⟩)]
    ·rfl
   ·rfl
  | invoke _ _=>rfl
 | _=>rfl
end
end Go.Tv
