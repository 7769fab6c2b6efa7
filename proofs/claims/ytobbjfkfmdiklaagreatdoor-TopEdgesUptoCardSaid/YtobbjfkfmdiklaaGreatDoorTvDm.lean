import Derived.Test.YtobbjfkfmdiklaaGreatDoorTvC
import Derived.WalkLawsBesides
namespace Go.Tv
open Go Go.RowKit
abbrev Out:=ag×gX×Prop
abbrev Qk:=Option Out
def ev(s:Nat→ag):Operand→ag
 | .tmp t=>s t
 | .const v=>zk v
 | .global _=> .unk
 | .func f=> .fn f []
section
variable{F:Bool→Addr→Value→Prop}{ρ:Nat→QW}{n:NS}{a:Act}{s:Nat→ag}
theorem aU(h:fb n F ρ s a)(x:Operand):V F ρ (ev s x) (a.eval x):=by
 cases x with
 | tmp t=>exact h.sl t
 | const v=>exact AN v
 | global g=>simp only[ev,V]
 | func f=>simp only[ev,V,Act.eval];exact⟨#[],rfl,rfl,trivial⟩
theorem bQ{β:Bool}{k:IntKind}{m:Int}{v:Value}(h:V F ρ (.p β (.int k) m) v):v = .int k m:=by
 simp only[V,ai]at h;exact h.2.symm
theorem nG{β b:Bool}{v:Value}(h:V F ρ (.p β .bool b) v):v = .bool b:=by
 simp only[V,ai]at h;exact h.2.symm
theorem pw{β:Bool}{l:QX}{v:Value}(h:V F ρ (.p β .str l) v):v = .string ⟨l.toArray⟩:=by
 simp only[V,ai]at h;exact h.2.symm
theorem xe{β:Bool}{x:QJ}{v:Value}(h:V F ρ (.p β .flt x) v):∃m,v = .float .f64 m∧cj m=x:=by
 simp only[V,ai]at h;obtain⟨_,m,h1,h2⟩:=h;exact⟨m,h1.symm,h2⟩
theorem vf(β:Bool)(m:Nat):V F ρ (.p β .flt (cj m)) (.float .f64 m):=by
 simp only[V,ai];exact⟨rfl,m,rfl,rfl⟩
theorem dF(β:Bool)(k:IntKind)(m:Int):V F ρ (.p β (.int k) m) (.int k m):=by simp[V,ai,Ty.scalar]
theorem iY(β b:Bool):V F ρ (.p β .bool b) (.bool b):=by simp[V,ai,Ty.scalar]
theorem pq(β:Bool)(l:QX):V F ρ (.p β .str l) (.string ⟨l.toArray⟩):=by simp[V,ai,Ty.scalar]
end
def bitsOf(op:BinOp)(k:IntKind)(x y:Int):Int :=
 let a:=BitVec.ofInt k.bits x
 let b:=BitVec.ofInt k.bits y
 match op with
 | .and=>k.wrap (a &&& b).toNat
 | .or=>k.wrap (a ||| b).toNat
 | .xor=>k.wrap (a ^^^ b).toNat
 | _=>k.wrap (a &&& ~~~b).toNat
def Dj(op:BinOp)(k:IntKind)(x:Int)(j:IntKind)(y:Int):Option (ag×Prop) :=
 match op with
 | .shl=>some (.p false (.int k) (k.wrap (x*2 ^ (min y.toNat k.bits))),0≤y)
 | .shr=>some (.p false (.int k) (x.fdiv (2 ^ (min y.toNat k.bits))),0≤y)
 | .add=>if k=j then some (.p false (.int k) (k.wrap (x+y)),True)else none
 | .sub=>if k=j then some (.p false (.int k) (k.wrap (x - y)),True)else none
 | .mul=>if k=j then some (.p false (.int k) (k.wrap (x*y)),True)else none
 | .quo=>if k=j then some (.p false (.int k) (k.wrap (x.tdiv y)),¬y=0)else none
 | .rem=>if k=j then some (.p false (.int k) (x.tmod y),¬y=0)else none
 | .and=>if k=j then some (.p false (.int k) (bitsOf .and k x y),True)else none
 | .or=>if k=j then some (.p false (.int k) (bitsOf .or k x y),True)else none
 | .xor=>if k=j then some (.p false (.int k) (bitsOf .xor k x y),True)else none
 | .andNot=>if k=j then some (.p false (.int k) (bitsOf .andNot k x y),True)else none
 | .eql=>if k=j then some (.p false .bool (x == y),True)else none
 | .neq=>if k=j then some (.p false .bool (x != y),True)else none
 | .lss=>if k=j then some (.p false .bool (decide (x<y)),True)else none
 | .leq=>if k=j then some (.p false .bool (decide (x≤y)),True)else none
 | .gtr=>if k=j then some (.p false .bool (decide (x > y)),True)else none
 | .geq=>if k=j then some (.p false .bool (decide (x≥y)),True)else none
theorem zQ{P:Program}{w:World}{op:BinOp}{k j:IntKind}{x y:Int}{r:ag}{c:Prop}(h:Dj op k x j y=some (r,c))(hc:c)
  {t:TypeId} {F:Bool→Addr→Value→Prop} {ρ:Nat→QW} :
  ∃v,(binOp op t (.int k x) (.int j y)).run P w = .ok v w∧V F ρ r v:=by
 cases op <;> simp only[Dj]at h
 case shl =>cases h;refine⟨_,?_,dF _ _ _⟩;simp only[binOp,Op.shift,if_neg (by omega:¬y<0)];rfl
 case shr =>cases h;refine⟨_,?_,dF _ _ _⟩;simp only[binOp,Op.shift,if_neg (by omega:¬y<0)];rfl
 all_goals
  split at h
  ·rename_i e;subst e;cases h
   first
    | exact⟨_,by simp only[binOp,ne_eq,not_true_eq_false,if_false,Op.intArith];rfl,dF _ _ _⟩
    | exact⟨_,by simp only[binOp,ne_eq,not_true_eq_false,if_false,Op.intDiv,if_neg hc];rfl,dF _ _ _⟩
    | exact⟨_,by simp only[binOp,ne_eq,not_true_eq_false,if_false];rfl,dF _ _ _⟩
    | exact⟨_,by simp only[binOp,ne_eq,not_true_eq_false,if_false,Op.intCmp];rfl,iY _ _⟩
  ·cases h
def J0(a b:QX):Bool:=Op.bytesLess a b
def bin(j:TK)(op:BinOp):ag→ag→Option (ag×Prop)
 | .p _ (.int k) x,.p _ (.int q) y=>Dj op k x q y
 | .p _ .bool x,.p _ .bool y=>match j,op with
  | .bool,.eql=>some (.p false .bool (x == y),True)
  | .bool,.neq=>some (.p false .bool (!(x == y)),True)
  | _,_=>none
 | .p _ .str x,.p _ .str y=>match op with
  | .add=>some (.p false .str (x++y),x.length+y.length≤9223372036854775807)
  | .eql=>some (.p false .bool (x == y),True)
  | .neq=>some (.p false .bool (!(x == y)),True)
  | .lss=>some (.p false .bool (J0 x y),True)
  | _=>none
 | .p _ .flt x,.p _ .flt y=>match op with
  | .eql=>some (.p false .bool (Lv x y),True)
  | .neq=>some (.p false .bool (!(Lv x y)),True)
  | .lss=>some (.p false .bool (Lf x y),True)
  | .leq=>some (.p false .bool (NP x y),True)
  | .gtr=>some (.p false .bool (xP x y),True)
  | .geq=>some (.p false .bool (NX x y),True)
  | _=>none
 | _,_=>none
theorem bL{P:Program}{w:World}{op:BinOp}{t:TypeId}{x y:Operand}{a b:Value}(ha:∀j,a ≠ .agg j)(hn:a ≠ .nilIface):
  (eqGuard op t x y a b).run P w = .ok () w:=by
 unfold eqGuard;rw[Sem.run_ite];cases a <;> first
  | exact(hn rfl).elim
  | exact(ha _ rfl).elim
  | (split <;> rfl)
theorem toList_mk(l:QX):(⟨l.toArray⟩:ByteArray).toList=l:=by
 rw[ByteArray.toList_eq]
theorem Gi{P:Program}{w:World}{op:BinOp}{t:TypeId}{ti:TI}(ht:aN P t ti){x y r:ag}{c:Prop}(h:bin ti.k op x y=some (r,c))(hc:c)
  {F:Bool→Addr→Value→Prop} {ρ:Nat→QW} {u v:Value} (hu:V F ρ x u) (j:V F ρ y v) (C D:Operand) :
  ∃z,(do eqGuard op t C D u v;binOp op t u v:Sem Value).run P w = .ok z w∧V F ρ r z:=by
 unfold bin at h;split at h
 ·rw[bQ hu,bQ j];obtain⟨z,h1,h2⟩:=zQ (P:=P) (w:=w) h hc (t:=t) (F:=F) (ρ:=ρ);exact⟨z,by rw[Sem.run_bind,bL (by intro p e;cases e) (by intro e;cases e)];exact h1,h2⟩
 ·rw[nG hu,nG j];obtain⟨d,hd,hk⟩:=ht.hu;split at h
  ·rename_i e;rw[e]at hk;simp only[UK]at hk;subst hk;cases h;exact⟨_,by rw[Sem.run_bind,bL (by intro p e;cases e) (by intro e;cases e)];exact run_eql_bool w t _ _ hd,iY _ _⟩
  ·rename_i e;rw[e]at hk;simp only[UK]at hk;subst hk;cases h;exact⟨_,by rw[Sem.run_bind,bL (by intro p e;cases e) (by intro e;cases e)];exact run_neq_bool w t _ _ hd,iY _ _⟩
  ·cases h
 ·rw[pw hu,pw j];rename_i q _ B;suffices E:∃z,(binOp op t (.string ⟨q.toArray⟩) (.string ⟨B.toArray⟩)).run P w = .ok z w∧V F ρ r z by obtain⟨z,h1,h2⟩:=E;exact⟨z,by rw[Sem.run_bind,bL (by intro p e;cases e) (by intro e;cases e)];exact h1,h2⟩
  split at h <;> cases h
  ·refine⟨_,?_,pq _ _⟩;have h1:¬(((q.length+B.length:Nat):Int) > 9223372036854775807):=by omega
   have h2:((⟨q.toArray⟩:ByteArray)++⟨B.toArray⟩)=⟨(q++B).toArray⟩:=by apply ByteArray.ext;simp[ByteArray.data_append]
   simp only[binOp,Op.stringOp,h2];have I:IntKind.i64.max=9223372036854775807:=rfl;rw[Sem.run_ite,I,if_neg (by simpa [ByteArray.size]using h1)];rfl
  ·exact⟨_,by simp only[binOp,Op.stringOp,toList_mk];rfl,iY _ _⟩
  ·exact⟨_,by simp only[binOp,Op.stringOp,toList_mk];rfl,iY _ _⟩
  ·exact⟨_,by simp only[binOp,Op.stringOp,toList_mk];rfl,iY _ _⟩
 ·obtain⟨a,rfl,ha⟩:=xe hu;obtain⟨b,rfl,hb⟩:=xe j;subst ha hb;have J:∀z,(binOp op t (.float .f64 a) (.float .f64 b)).run P w = .ok z w→(do eqGuard op t C D (.float .f64 a) (.float .f64 b);binOp op t (.float .f64 a) (.float .f64 b):Sem Value).run P w = .ok z w:=fun z hz=>by rw[Sem.run_bind,bL (by intro p e;cases e) (by intro e;cases e)];exact hz
  split at h <;> cases h
  all_goals
   refine⟨_,J _ (by simp only[binOp,ne_eq,not_true_eq_false,if_false,Op.floatCmp];rfl),?_⟩;simp only[Lv,Lf,NP,xP,NX,Eb];exact iY _ _
 ·cases h
def un(op:UnOp):ag→Option ag
 | .p _ .bool x=>match op with
  | .not=>some (.p false .bool (!x))
  | _=>none
 | .p _ (.int k) x=>match op with
  | .neg=>some (.p false (.int k) (k.wrap (0 - x)))
  | _=>none
 | _=>none
theorem Hb{P:Program}{w:World}{op:UnOp}{x r:ag}(h:un op x=some r){F:Bool→Addr→Value→Prop}{ρ:Nat→QW}{u:Value}(hu:V F ρ x u):
  ∃z,(Op.unary op u).run P w = .ok z w∧V F ρ r z:=by
 unfold un at h;split at h
 ·rw[nG hu];split at h
  ·cases h;exact⟨_,rfl,iY _ _⟩
  ·cases h
 ·rw[bQ hu];split at h
  ·cases h;exact⟨_,rfl,dF _ _ _⟩
  ·cases h
 ·cases h
def bytesOf(l:QK):QX:=l.map fun n=>UInt8.ofNat n.toNat
def bZ(l:QX):QK:=l.map fun b=>(b.toNat:Int)
def conv(j dst:TK)(h:Nat→Qz):ag→Option ag
 | .p _ (.int _) x=>match dst with
  | .int k=>some (.p false (.int k) (k.wrap x))
  | .flt=>some (.p false .flt (ofInt x))
  | _=>none
 | .p _ .flt x=>match dst with
  | .flt=>some (.p false .flt x)
  | _=>none
 | .p _ .str x=>match dst with
  | .str=>some (.p false .str x)
  | _=>none
 | .p _ (.slice (.int .u8)) x=>match j,dst with
  | .sl _,.str=>some (.p false .str (bytesOf x))
  | _,_=>none
 | .sl id=>match h id,j,dst with
  | some (.arr _ (.int .u8) q),.sl _,.str=>some (.p false .str (bytesOf q))
  | some (.fz (.int .u8) q),.sl _,.str=>some (.p false .str (bytesOf q))
  | some (.bytes _ q),.sl _,.str=>some (.p false .str (bytesOf q))
  | _,_,_=>none
 | .nils=>match j,dst with
  | .sl _,.str=>some (.p false .str [])
  | _,_=>none
 | _=>none
theorem foldl_push(j:QK):∀(r:ByteArray),j.foldl (fun r n=>r.push (UInt8.ofNat n.toNat)) r=⟨(r.data.toList++bytesOf j).toArray⟩:=by
 induction j with
 | nil=>intro r;simp[bytesOf]
 | cons x q p =>
  intro r;rw[List.foldl_cons,p];simp[bytesOf,ByteArray.push]
theorem pE{P:Program}{w:World}{G:Addr→Value→Prop}(C:∀a v,v.oneCell'=true→G a v→w.cell? a=some v){q:QK}{v:Value}
  (D:ai G (.slice (.int .u8)) q (fun _ u=>u=v)):(Conv.bytesToString v).run P w = .ok (.string ⟨(bytesOf q).toArray⟩) w:=by
 obtain⟨E,len,cap,e,⟨hl,_⟩,h⟩:=D;subst e;cases A:q with
 | nil =>
  cases E with
  | none=>rfl
  | some a =>
   have:len=0:=by rw[hl,A];rfl
   subst this;exact run_bytesToString w a 0 cap [] (by rfl)
 | cons y I =>
  obtain⟨b,hb,_⟩:=h 0 (by rw[A];simp);subst hb;have x:len=(q.map (Value.int .u8)).length:=by rw[hl];simp
  have p:=run_loadCells_list (P:=P) w b (q.map (Value.int .u8)) (fun j u hu=>by
   rw[List.getElem?_map]at hu;rcases Nat.lt_or_ge j q.length with z | z
   ·obtain⟨J,B,hc⟩:=h j z;cases B;simp only[ai,Ty.size,Nat.mul_one,Nat.add_zero]at hc;rw[List.getElem?_eq_getElem z]at hu;cases hu;exact C _ _ rfl hc
   ·rw[List.getElem?_eq_none z]at hu;cases hu)
  rw[←x]at p;have:=run_bytesToString (P:=P) w b len cap q p;rw[foldl_push]at this;rw[this,A];rfl
theorem C7{P:Program}{Bw:Nat→Prop}{w0:cC P}{w:World}{ρ:Nat→QW}{φ:Nat→Nat→Prop}{h:Nat→Qz}(m:Mem Bw w0 ρ φ h w){st E:TypeId}{O X:TI}
  (Z:aN P st O) (hd:aN P E X) (M:∀e,O.k = .sl e→P.underlying e=some (.int .u8)) {x r:ag} (hc:conv O.k X.k h x=some r) {u:Value}
  (hu:V (Fr (own φ h) Bw w) ρ x u):∃z,(convert st E u).run P w = .ok z w∧V (Fr (own φ h) Bw w) ρ r z:=by
 obtain⟨N,h1,h2⟩:=Z.hu;obtain⟨dd,B,j⟩:=hd.hu;unfold conv at hc
 split at hc
 ·rw[bQ hu];split at hc
  ·rename_i k e;cases hc;rw[e]at j;simp only[UK]at j;subst j;refine⟨_,?_,dF _ _ _⟩;simp only[convert,Sem.run_bind,run_underlying h1,run_underlying B,Result.andThen_ok];cases N <;> rfl
  ·rename_i e;cases hc;rw[e]at j;simp only[UK]at j;subst j;refine⟨_,?_,vf _ _⟩;simp only[convert,Sem.run_bind,run_underlying h1,run_underlying B,Result.andThen_ok];cases N <;> rfl
  ·cases hc
 ·obtain⟨a,rfl,ha⟩:=xe hu;split at hc
  ·rename_i e;cases hc;rw[e]at j;simp only[UK]at j;subst j;subst ha;refine⟨_,?_,vf _ _⟩;simp only[convert,Sem.run_bind,run_underlying h1,run_underlying B,Result.andThen_ok];cases N <;> rfl
  ·cases hc
 ·rw[pw hu];split at hc
  ·rename_i e;cases hc;rw[e]at j;simp only[UK]at j;subst j;refine⟨_,?_,pq _ _⟩;simp only[convert,Sem.run_bind,run_underlying h1,run_underlying B,Result.andThen_ok];cases N <;> rfl
  ·cases hc
 ·split at hc
  ·rename_i xs _ _ e q p C;cases hc;rw[p]at h2;rw[C]at j;simp only[UK]at h2 j;subst h2 j;simp only[V]at hu;refine⟨_,?_,pq _ _⟩;have:=pE (P:=P) (w:=w) (fun a v h1 h=>World.jH h.2.2 h1) hu.2;obtain⟨_,_,_,I,_⟩:=hu.2;subst I;rw[run_convert_bytes_string w st E _ _ _ _ h1 (M _ p) B];exact this
  ·cases hc
 ·rename_i id;split at hc
  ·rename_i te xs hi p C;cases hc;rw[p]at h2;rw[C]at j;simp only[UK]at h2 j;subst h2 j;obtain⟨Y,D,J⟩:=m.ob id _ hi;simp only[V]at hu;rw[hu.1]at D;cases D;obtain⟨_,_,cells,r1,r2⟩:=J;have L:=lJ (F':=fun _ a v=>w.qJ a=some v) (ρ':=ρ) r1 r2 false (fun a v h=>h.2.2) (fun a v _ h=>World.fB h);simp only[V]at L;refine⟨_,?_,pq _ _⟩;have:=pE (P:=P) (w:=w) (fun a v h1 h=>World.jH h h1) L.2;obtain⟨_,_,_,I,_⟩:=L.2;subst I;rw[run_convert_bytes_string w st E _ _ _ _ h1 (M _ p) B];exact this
  ·rename_i xs hi p C;cases hc;rw[p]at h2;rw[C]at j;simp only[UK]at h2 j;subst h2 j;obtain⟨Y,D,J⟩:=m.ob id _ hi;simp only[V]at hu;rw[hu.1]at D;cases D;simp only[OR,V]at J;refine⟨_,?_,pq _ _⟩;have:=pE (P:=P) (w:=w) (fun a v h1 h=>World.jH h.2.2 h1) J.2;obtain⟨_,_,_,I,_⟩:=J.2;subst I;rw[run_convert_bytes_string w st E _ _ _ _ h1 (M _ p) B];exact this
  ·rename_i te xs hi p C;cases hc;rw[p]at h2;rw[C]at j;simp only[UK]at h2 j;subst h2 j;obtain⟨Y,D,J⟩:=m.ob id _ hi;simp only[V]at hu;rw[hu.1]at D;cases D;have L:=JS (ρ':=ρ) J;simp only[V]at L;refine⟨_,?_,pq _ _⟩;have:=pE (P:=P) (w:=w) (fun a v _ h=>h) L.2;obtain⟨_,_,_,I,_⟩:=L.2;subst I;rw[run_convert_bytes_string w st E _ _ _ _ h1 (M _ p) B];exact this
  ·cases hc
 ·split at hc
  ·rename_i p C;cases hc;rw[p]at h2;rw[C]at j;simp only[UK]at h2 j;subst h2 j;simp only[V]at hu;subst hu;refine⟨_,?_,pq _ _⟩;rw[run_convert_bytes_string w st E _ _ _ _ h1 (M _ p) B];rfl
  ·cases hc
 ·cases hc
def Good(P:Program)(o:Oper)(a:Act)(w:World)(post:Value→World→Prop):Prop :=
 ∀K Q,(∀v w',post v w'→K (a.put o.dst v) w')→o.wp P a w K Q
theorem Good.aG{P:Program}{o:Oper}{a:Act}{w w':World}{post:Value→World→Prop}{v:Value}
  (h:(execOp a.eval o).run P w = .ok (.value v) w') (hp:post v w'):Good P o a w post:=fun K Q hk=>by
 unfold Oper.wp;rw[h];exact hk _ _ hp
theorem Good.jN{P:Program}{o:Oper}{a:Act}{w w':World}{post:Value→World→Prop}
  (h:(execOp a.eval o).run P w = .ok .skip w') (hp:post undef w'):Good P o a w post:=fun K Q hk=>by
 unfold Oper.wp;rw[h];exact hk _ _ hp
theorem Good.sn{P:Program}{o:Oper}{a:Act}{w w':World}{post:Value→World→Prop}{f:FuncId}{args:QU}
  (h:(execOp a.eval o).run P w = .ok (.enter f args) w') (hp:Calls P f args w' fun e j=>∃v,e = .returned v∧post v j):Good P o a w post:=fun K Q hk=>by
 unfold Oper.wp;rw[h];show Calls P f args w' _;exact hp.mono fun e j ⟨v,z,B⟩=>by subst z;exact hk _ _ B
def LO(P:Program)(o:Oper)(a:Act)(w:World)(x:Value)(post:World→Prop):Prop :=
 ∀K Q,(∀w',post w'→Q (.panic [{ v:=x,recovered:=false }]) a w')→o.wp P a w K Q
theorem LO.sn{P:Program}{o:Oper}{a:Act}{w w':World}{x:Value}{post:World→Prop}{f:FuncId}{args:QU}
  (h:(execOp a.eval o).run P w = .ok (.enter f args) w') (hp:Calls P f args w' fun e j=>e = .panicked [{ v:=x,recovered:=false }]∧post j):LO P o a w x post:=fun K Q hk=>by
 unfold Oper.wp;rw[h];show Calls P f args w' _;exact hp.mono fun e j ⟨p,q⟩=>by subst p;exact hk _ q
def aF{P:Program}(Bw:Nat→Prop)(w0:cC P)(ρ:Nat→QW)(φ:Nat→Nat→Prop)(h:Nat→Qz)(w:World)(new:Nat)(x:ag)(u:gX)(v:Value)(w':World):Prop :=
 ∃z B,Mem Bw w0 z B (apply u h) w'∧(∀β a v,Fr (own φ h) Bw w β a v→Fr (own B (apply u h)) Bw w' β a v)∧(∀i u,ρ i=some u→z i=some u) ∧
  (∀i u,z i=some u→ρ i=some u∨∃j,j<8∧i=new+j)∧V (Fr (own B (apply u h)) Bw w') z x v
theorem aF.pure{P:Program}{Bw:Nat→Prop}{w0:cC P}{ρ:Nat→QW}{φ:Nat→Nat→Prop}{h:Nat→Qz}{w:World}{new:Nat}{x:ag}{v:Value}
  (m:Mem Bw w0 ρ φ h w) (j:V (Fr (own φ h) Bw w) ρ x v):aF Bw w0 ρ φ h w new x [] v w :=
 ⟨ρ,φ,m,fun _ _ _ h=>h,fun _ _ h=>h,fun _ _ h=> .inl h,j⟩
theorem add_add(a:Addr)(i j:Nat):(a.add i).add j=a.add (i+j):=by
 unfold Addr.add;by_cases hi:i=0 <;> by_cases q:j=0 <;> simp[hi,q,Nat.add_assoc]
theorem ck(g i j:Nat):(⟨g,i,none⟩:Addr).add j=⟨g,i+j,none⟩:=by
 unfold Addr.add;by_cases q:j=0 <;> simp[q]
section
variable{F:Bool→Addr→Value→Prop}{ρ:Nat→QW}
theorem VL.list:∀ {cs:List ag} {g:Nat→Value→Prop},VL F ρ cs g→∃us:QY,us.length=cs.length∧(∀k u,us[k]? = some u→g k u)∧VL F ρ cs (fun k u=>us[k]? = some u)
 | [],g,_=>⟨[],rfl,fun k u h=>by simp at h,by simp only[VL]⟩
 | c::cs,g,h=>by
  simp only[VL]at h;obtain⟨⟨v,j,q⟩,z⟩:=h;obtain⟨us,A,B,C⟩:=VL.list z;refine⟨v::us,by simp[A],fun k u hk=>?_,?_⟩
  ·cases k with
   | zero=>simp at hk;subst hk;exact j
   | succ k=>exact B k u (by simpa using hk)
  ·simp only[VL];exact⟨⟨v,by simp,q⟩,VL.mono (fun _ _ _ h=>h) (fun _ _ h=>h) (fun k u hk=>by simpa using hk) C⟩
theorem VL.take{n:Nat}{cs:List ag}{g:Nat→Value→Prop}(h:VL F ρ cs g):VL F ρ (cs.take n) g :=
 VL.mk fun k x hk=>by
  rw[List.getElem?_take]at hk;split at hk
  ·exact VL.get h hk
  ·cases hk
end
def ag.cell:ag→Bool
 | .lit u=>u.oneCell'
 | .agg _=>false
 | .tup _=>false
 | .lag _ _ _ _=>false
 | .unk=>false
 | _=>true
def ag.CT:ag→Bool
 | .lag _ _ _ cs=>cs.all ag.cell
 | x=>(cellsOf x).all ag.cell
theorem C3{x:ag}(h:x.CT=true):(cellsOf x).all ag.cell=true:=by
 unfold ag.CT at h;split at h
 ·simp only[cellsOf,List.all_append,Bool.and_eq_true];refine⟨?_,h⟩;rw[List.all_map];exact List.all_eq_true.2 fun _ _=>rfl
 ·exact h
theorem ra{F:Bool→Addr→Value→Prop}{ρ:Nat→QW}{x:ag}(q:x.cell=true){v:Value}(j:V F ρ x v):v.oneCell'=true:=by
 cases x with
 | p β T y =>
  simp only[V]at j;obtain⟨h1,h2⟩:=j;cases T <;> simp only[Ty.scalar,Bool.false_eq_true]at h1
  ·simp only[ai]at h2;subst h2;rfl
  ·simp only[ai]at h2;subst h2;rfl
  ·simp only[ai]at h2;subst h2;rfl
  ·obtain⟨_,e,_⟩:=h2;subst e;rfl
  ·obtain⟨_,_,_,e,_⟩:=h2;subst e;rfl
  ·cases y with
   | none=>simp only[ai]at h2;subst h2;rfl
   | some z=>obtain⟨_,e,_⟩:=h2;subst e;rfl
  ·obtain⟨_,e,_⟩:=h2;subst e;rfl
 | nils=>simp only[V]at j;subst j;rfl
 | nilp=>simp only[V]at j;subst j;rfl
 | lit _=>simp only[V]at j;subst j;exact q
 | sl id=>simp only[V]at j;obtain⟨_,_,_,_,e⟩:=j;subst e;rfl
 | adr _ _ _ _=>simp only[V]at j;obtain⟨_,_,e⟩:=j;subst e;rfl
 | ada _ _ _ _=>simp only[V]at j;obtain⟨_,_,e,_⟩:=j;subst e;rfl
 | fad _ _ _=>simp only[V]at j;obtain⟨_,e,_⟩:=j;subst e;rfl
 | fn _ _=>simp only[V]at j;obtain⟨_,e,_⟩:=j;subst e;rfl
 | mp _=>simp only[V]at j;obtain⟨_,_,e⟩:=j;subst e;rfl
 | loc _ _ _=>simp only[V]at j;obtain⟨_,e,_⟩:=j;subst e;rfl
 | suf _ _ _=>simp only[V]at j;obtain⟨_,_,_,_,_,_,e⟩:=j;subst e;rfl
 | bfn _ _=>simp only[V]at j;obtain⟨_,e,_⟩:=j;subst e;rfl
 | lag _ _ _ _=>simp[ag.cell]at q
 | agg _=>simp[ag.cell]at q
 | tup _=>simp[ag.cell]at q
 | unk=>simp[ag.cell]at q
theorem fV{F:Bool→Addr→Value→Prop}{ρ:Nat→QW}{x:ag}(D:(cellsOf x).all ag.cell=true){v:Value}(I:V F ρ x v):
  VL F ρ (cellsOf x) (fun k u=>v.cells.toList[k]? = some u)∧v.cells.toList.length=(cellsOf x).length∧∀c∈v.cells.toList,c.oneCell'=true:=by
 by_cases z:∃A,x = .agg A
 ·obtain⟨A,rfl⟩:=z;simp only[V]at I;obtain⟨vs,rfl,O,hl⟩:=I;simp only[cellsOf]at D ⊢;refine⟨VL.mono (fun _ _ _ h=>h) (fun _ _ h=>h) (fun k u hk=>by simpa [Value.cells]using hk) hl,by simpa [Value.cells]using O,fun c hc=>?_⟩;obtain⟨k,hk,rfl⟩:=List.getElem_of_mem hc;have J:k<A.length:=by rw[←O];simpa [Value.cells]using hk
  obtain⟨u,L,X⟩:=VL.get hl (List.getElem?_eq_getElem J);have:u=(Value.agg vs).cells.toList[k]:=by
   have Y:k<vs.size:=by omega
   rw[Array.getElem?_eq_getElem Y]at L;cases L;simp[Value.cells]
  rw[←this];exact ra (List.all_eq_true.1 D _ (List.getElem_mem J)) X
 ·by_cases B:∃k n C A,x = .lag k n C A
  ·obtain⟨k,n,C,A,rfl⟩:=B;simp only[V]at I;obtain⟨vs,rfl,O,hl⟩:=I;simp only[cellsOf,List.all_append,Bool.and_eq_true]at D ⊢;have h1:VL F ρ (C.1.map (fun i=>ag.p false (.int k) i)) (fun j u=>(C.1.map (Value.int k)++vs)[j]? = some u):=VL.mk fun j y M=>by
    rw[List.getElem?_map]at M;rcases Nat.lt_or_ge j C.1.length with q | q
    ·rw[List.getElem?_eq_getElem q]at M;cases M;exact⟨.int k C.1[j],by rw[List.getElem?_append_left (by simpa using q)];simp[q],by simp only[V,ai];exact⟨rfl,trivial⟩⟩
    ·rw[List.getElem?_eq_none q]at M;cases M
   have h2:VL F ρ (C.1.map (fun i=>ag.p false (.int k) i)++A) (fun j u=>(C.1.map (Value.int k)++vs)[j]? = some u):=VL.append h1 (VL.mono (fun _ _ _ h=>h) (fun _ _ h=>h) (fun j u q=>by
    rw[List.length_map,List.getElem?_append_right (by simp)];simpa using q) hl)
   refine⟨VL.mono (fun _ _ _ h=>h) (fun _ _ h=>h) (fun j u q=>by simpa [Value.cells]using q) h2,by simp[Value.cells,O],fun c hc=>?_⟩;simp only[Value.cells,List.mem_append,List.mem_map]at hc;rcases hc with⟨i,_,rfl⟩ | hc
   ·rfl
   ·obtain⟨j,q,rfl⟩:=List.getElem_of_mem hc;have N:j<A.length:=by omega
    obtain⟨u,L,X⟩:=VL.get hl (List.getElem?_eq_getElem N);rw[List.getElem?_eq_getElem q]at L;cases L;exact ra (List.all_eq_true.1 D.2 _ (List.getElem_mem N)) X
  have E:cellsOf x=[x]:=by cases x <;> first | rfl | exact(z ⟨_,rfl⟩).elim | exact(B ⟨_,_,_,_,rfl⟩).elim
  rw[E]at D ⊢;simp only[List.all_cons,List.all_nil,Bool.and_true]at D;have h1:=ra D I;rw[fO h1];simp only[VL];exact⟨⟨⟨v,rfl,I⟩,trivial⟩,rfl,fun c hc=>by simp at hc;subst hc;exact h1⟩
section
variable{P:Program}{t:TypeId}{ti:TI}
theorem kY(ht:aN P t ti)(w:World):(isAgg t).run P w = .ok ti.k.agg w:=by
 obtain⟨d,h1,h2⟩:=ht.hu;unfold isAgg;rw[Sem.run_bind,run_underlying h1];simp only[Result.andThen_ok];cases hk:ti.k <;> rw[hk]at h2 <;> simp only[UK]at h2
 case other =>cases d <;> simp at h2 <;> rfl
 case st=>obtain⟨j,rfl,_⟩:=h2;rfl
 all_goals (subst h2;rfl)
theorem run_sizeOf(ht:aN P t ti)(w:World):(sizeOf t).run P w = .ok ti.size w:=by
 obtain⟨i,z,h1,_,j,_⟩:=ht.hi;simp[sizeOf,typeInfo,h1,j]
theorem dT(ht:aN P t ti)(w:World):∃z,(zeroValue t).run P w = .ok z w∧z.cells.toList.map kb=ti.z∧z.cells.size=ti.size∧∀c∈z.cells.toList,c.oneCell'=true:=by
 obtain⟨i,z,h1,h2,_,_,j,p,q⟩:=ht.hi;exact⟨z,by simp[zeroValue,typeInfo,h1,h2],j,p,q⟩
theorem aY(ht:aN P t ti){e:TypeId}(j:ti.k = .sl e):P.underlying t=some (.slice e):=by
 obtain⟨d,h1,h2⟩:=ht.hu;rw[j]at h2;simp only[UK]at h2;rw[h1,h2]
end
def gq(ti:TI)(cs:List ag)(off:Nat):Option ag :=
 if ti.k.agg then(if off+ti.size≤cs.length then some (.agg ((cs.drop off).take ti.size))else none)else cs[off]?
theorem iO{P:Program}{t:TypeId}{ti:TI}(ht:aN P t ti){F:Bool→Addr→Value→Prop}{ρ:Nat→QW}{w:World}{ad:Addr}{cs:List ag}
  (z:VL F ρ cs (fun k u=>w.cell? (ad.add k)=some u)) {off:Nat} {x:ag} (h:gq ti cs off=some x) :
  ∃v,(loadVar t (ad.add off)).run P w = .ok v w∧V F ρ x v:=by
 unfold gq at h;unfold loadVar;rw[Sem.run_bind,kY ht];simp only[Result.andThen_ok];split at h
 ·rename_i p;split at h
  ·rename_i D;cases h;have h1:=VL.take (n:=ti.size) (VL.drop (n:=off) z);obtain⟨B,C,E,I⟩:=VL.list h1;have A:B.length=ti.size:=by rw[C,List.length_take,List.length_drop];omega
   have q:=run_loadCells_list (P:=P) w (ad.add off) B (fun j u hu=>by rw[add_add];exact E j u hu);rw[A]at q;refine⟨.agg B.toArray,?_,?_⟩
   ·rw[if_pos p,Sem.run_bind,run_sizeOf ht];simp only[Result.andThen_ok,Sem.run_bind,q];rfl
   ·simp only[V];exact⟨_,rfl,by simp[C],VL.mono (fun _ _ _ h=>h) (fun _ _ h=>h) (fun k u hk=>by simpa using hk) I⟩
  ·cases h
 ·rename_i p;obtain⟨u,J,L⟩:=VL.get z h;refine⟨u,?_,L⟩;rw[if_neg (by simpa using p),run_load,J]
theorem gG{P:Program}{t:TypeId}{ti:TI}(ht:aN P t ti){w:World}{g p:Nat}{j:QU}{z:TypeId}(A:w.heap[g]? = some (.cells j z (0,0)))
  {v:Value} (u:v.cells.toList.length=ti.size) (q:p+ti.size≤j.size) (h1:∀c∈v.cells.toList,c.oneCell'=true) :
  (storeVar t ⟨g,p,none⟩ v).run P w = .ok () (w.setRow g (j.toList.take p++v.cells.toList++j.toList.drop (p+ti.size)).toArray):=by
 unfold storeVar;rw[Sem.run_bind,run_sizeOf ht];simp only[Result.andThen_ok];have x:v.cells.size=ti.size:=by simpa using u
 have:=run_storeCells_at P g p z v.cells.toList 0 j w A (by rw[u];simpa using q) h1;rw[Sem.run_ite,if_neg (by simpa using x),this];simp only[Nat.add_zero,u]
theorem aZ(w:World)(g:Nat)(cs:QU):w.grownBy (w.setRow g cs) (some g) :=
 ⟨rfl,rfl,rfl,by simp[World.setRow],fun k _ hk=>setRow_other w g k cs (fun e=>hk (by rw[e]))⟩
theorem bm{h:Nat→Qz}{i:Nat}{x:Qz}:bF (fun j=>if some i=some j then none else h j) i x=bF h i x:=by
 funext j;simp only[bF];split
 ·rfl
 ·rename_i e;rw[if_neg (fun q=>e (Option.some.inj q).symm)]
theorem bn{h:Nat→Qz}{i:Nat}{x:Qz}:bF (fun j=>if(none:QJ)=some j then none else h j) i x=bF h i x:=by
 funext j;simp only[bF];split
 ·rfl
 ·simp
theorem rY{h:Nat→Qz}{i j:Nat}{x:Qz}:bF (fun k=>if some i=some k then none else h k) j x=bF (bF h i none) j x:=by
 funext k;simp only[bF];split
 ·rfl
 ·by_cases e:i=k
  ·subst e;simp
  ·rw[if_neg (by simpa using e),if_neg (Ne.symm e)]
end Go.Tv
