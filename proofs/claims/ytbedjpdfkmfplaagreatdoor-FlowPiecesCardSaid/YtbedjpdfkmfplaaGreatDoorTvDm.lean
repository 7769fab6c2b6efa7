import Derived.Test.YtbedjpdfkmfplaaGreatDoorTvC
import Derived.WalkLawsBesides
namespace Go.Tv
open Go Go.RowKit
abbrev Out:=ag×iu×Prop
abbrev XQ:=Option Out
def ev(s:Nat→ag):Operand→ag
 | .tmp t=>s t
 | .const v=>A6 v
 | .global _=> .unk
 | .func f=> .fn f []
section
variable{F:Bool→Addr→Value→Prop}{ρ:Nat→QW}{n:NS}{a:Act}{s:Nat→ag}
theorem ba(h:bV n F ρ s a)(x:Operand):V F ρ (ev s x) (a.eval x):=by
 cases x with
 | tmp t=>exact h.sl t
 | const v=>exact DS v
 | global g=>simp only[ev,V]
 | func f=>simp only[ev,V,Act.eval];exact⟨#[],rfl,rfl,trivial⟩
theorem bR{β:Bool}{k:IntKind}{m:Int}{v:Value}(h:V F ρ (.p β (.int k) m) v):v = .int k m:=by
 simp only[V,ai]at h;exact h.2.symm
theorem kL{β b:Bool}{v:Value}(h:V F ρ (.p β .bool b) v):v = .bool b:=by
 simp only[V,ai]at h;exact h.2.symm
theorem pQ{β:Bool}{l:QX}{v:Value}(h:V F ρ (.p β .str l) v):v = .string ⟨l.toArray⟩:=by
 simp only[V,ai]at h;exact h.2.symm
theorem zq{β:Bool}{x:QJ}{v:Value}(h:V F ρ (.p β .flt x) v):∃m,v = .float .f64 m∧dO m=x:=by
 grind (splits:=6) (ematch:=4) [V,ai]
theorem Bq(β:Bool)(m:Nat):V F ρ (.p β .flt (dO m)) (.float .f64 m):=by
 simp only[V,ai];exact⟨rfl,m,rfl,rfl⟩
theorem dM(β:Bool)(k:IntKind)(m:Int):V F ρ (.p β (.int k) m) (.int k m):=by simp[V,ai,Ty.scalar]
theorem jy(β b:Bool):V F ρ (.p β .bool b) (.bool b):=by simp[V,ai,Ty.scalar]
theorem qm(β:Bool)(l:QX):V F ρ (.p β .str l) (.string ⟨l.toArray⟩):=by simp[V,ai,Ty.scalar]
end
def bitsOf(op:BinOp)(k:IntKind)(x y:Int):Int :=
 let a:=BitVec.ofInt k.bits x
 let b:=BitVec.ofInt k.bits y
 match op with
 | .and=>k.wrap (a &&& b).toNat
 | .or=>k.wrap (a ||| b).toNat
 | .xor=>k.wrap (a ^^^ b).toNat
 | _=>k.wrap (a &&& ~~~b).toNat
def ET(op:BinOp)(k:IntKind)(x:Int)(e:IntKind)(y:Int):Option (ag×Prop) :=
 match op with
 | .shl=>some (.p false (.int k) (k.wrap (x*2 ^ (min y.toNat k.bits))),0≤y)
 | .shr=>some (.p false (.int k) (x.fdiv (2 ^ (min y.toNat k.bits))),0≤y)
 | .add=>if k=e then some (.p false (.int k) (k.wrap (x+y)),True)else none
 | .sub=>if k=e then some (.p false (.int k) (k.wrap (x - y)),True)else none
 | .mul=>if k=e then some (.p false (.int k) (k.wrap (x*y)),True)else none
 | .quo=>if k=e then some (.p false (.int k) (k.wrap (x.tdiv y)),¬y=0)else none
 | .rem=>if k=e then some (.p false (.int k) (x.tmod y),¬y=0)else none
 | .and=>if k=e then some (.p false (.int k) (bitsOf .and k x y),True)else none
 | .or=>if k=e then some (.p false (.int k) (bitsOf .or k x y),True)else none
 | .xor=>if k=e then some (.p false (.int k) (bitsOf .xor k x y),True)else none
 | .andNot=>if k=e then some (.p false (.int k) (bitsOf .andNot k x y),True)else none
 | .eql=>if k=e then some (.p false .bool (x == y),True)else none
 | .neq=>if k=e then some (.p false .bool (x != y),True)else none
 | .lss=>if k=e then some (.p false .bool (decide (x<y)),True)else none
 | .leq=>if k=e then some (.p false .bool (decide (x≤y)),True)else none
 | .gtr=>if k=e then some (.p false .bool (decide (x > y)),True)else none
 | .geq=>if k=e then some (.p false .bool (decide (x≥y)),True)else none
theorem Bg{P:Program}{w:World}{op:BinOp}{k f:IntKind}{x y:Int}{r:ag}{c:Prop}(h:ET op k x f y=some (r,c))(j:c)
  {t:TypeId} {F:Bool→Addr→Value→Prop} {ρ:Nat→QW} :
  ∃v,(binOp op t (.int k x) (.int f y)).run P w = .ok v w∧V F ρ r v:=by
 cases op <;> simp only[ET]at h
 case shl =>cases h;refine⟨_,?_,dM _ _ _⟩;simp only[binOp,Op.shift,if_neg (by omega:¬y<0)];rfl
 case shr =>cases h;refine⟨_,?_,dM _ _ _⟩;simp only[binOp,Op.shift,if_neg (by omega:¬y<0)];rfl
 all_goals
  split at h
  ·rename_i e;subst e;cases h
   first
    | exact⟨_,by simp only[binOp,ne_eq,not_true_eq_false,if_false,Op.intArith];rfl,dM _ _ _⟩
    | exact⟨_,by simp only[binOp,ne_eq,not_true_eq_false,if_false,Op.intDiv,if_neg j];rfl,dM _ _ _⟩
    | exact⟨_,by simp only[binOp,ne_eq,not_true_eq_false,if_false];rfl,dM _ _ _⟩
    | exact⟨_,by simp only[binOp,ne_eq,not_true_eq_false,if_false,Op.intCmp];rfl,jy _ _⟩
  ·cases h
def KM(a b:QX):Bool:=Op.bytesLess a b
def bin(e:TK)(op:BinOp):ag→ag→Option (ag×Prop)
 | .p _ (.int k) x,.p _ (.int f) y=>ET op k x f y
 | .p _ .bool x,.p _ .bool y=>match e,op with
  | .bool,.eql=>some (.p false .bool (x == y),True)
  | .bool,.neq=>some (.p false .bool (!(x == y)),True)
  | _,_=>none
 | .p _ .str x,.p _ .str y=>match op with
  | .add=>some (.p false .str (x++y),x.length+y.length≤9223372036854775807)
  | .eql=>some (.p false .bool (x == y),True)
  | .neq=>some (.p false .bool (!(x == y)),True)
  | .lss=>some (.p false .bool (KM x y),True)
  | _=>none
 | .p _ .flt x,.p _ .flt y=>match op with
  | .eql=>some (.p false .bool (L1 x y),True)
  | .neq=>some (.p false .bool (!(L1 x y)),True)
  | .lss=>some (.p false .bool (LL x y),True)
  | .leq=>some (.p false .bool (OP x y),True)
  | .gtr=>some (.p false .bool (NU x y),True)
  | .geq=>some (.p false .bool (OO x y),True)
  | _=>none
 | _,_=>none
theorem bJ{P:Program}{w:World}{op:BinOp}{t:TypeId}{x y:Operand}{a b:Value}(ha:∀e,a ≠ .agg e)(hn:a ≠ .nilIface):
  (eqGuard op t x y a b).run P w = .ok () w:=by
 unfold eqGuard;rw[Sem.run_ite];cases a <;> first
  | exact(hn rfl).elim
  | exact(ha _ rfl).elim
  | (split <;> rfl)
theorem toList_mk(l:QX):(⟨l.toArray⟩:ByteArray).toList=l:=by
 rw[ByteArray.toList_eq]
theorem Hr{P:Program}{w:World}{op:BinOp}{t:TypeId}{ti:TI}(ht:aO P t ti){x y r:ag}{c:Prop}(h:bin ti.k op x y=some (r,c))(J:c)
  {F:Bool→Addr→Value→Prop} {ρ:Nat→QW} {u v:Value} (hu:V F ρ x u) (f:V F ρ y v) (D E:Operand) :
  ∃z,(do eqGuard op t D E u v;binOp op t u v:Sem Value).run P w = .ok z w∧V F ρ r z:=by
 unfold bin at h;split at h
 ·rw[bR hu,bR f];obtain⟨z,B,C⟩:=Bg (P:=P) (w:=w) h J (t:=t) (F:=F) (ρ:=ρ);exact⟨z,by rw[Sem.run_bind,bJ (by intro I e;cases e) (by intro e;cases e)];exact B,C⟩
 ·rw[kL hu,kL f];obtain⟨d,hd,hk⟩:=ht.hu;split at h
  ·rename_i e;rw[e]at hk;simp only[UK]at hk;subst hk;cases h;exact⟨_,by rw[Sem.run_bind,bJ (by intro I e;cases e) (by intro e;cases e)];exact run_eql_bool w t _ _ hd,jy _ _⟩
  ·rename_i e;rw[e]at hk;simp only[UK]at hk;subst hk;cases h;exact⟨_,by rw[Sem.run_bind,bJ (by intro I e;cases e) (by intro e;cases e)];exact run_neq_bool w t _ _ hd,jy _ _⟩
  ·cases h
 ·rw[pQ hu,pQ f];rename_i j _ q;suffices N:∃z,(binOp op t (.string ⟨j.toArray⟩) (.string ⟨q.toArray⟩)).run P w = .ok z w∧V F ρ r z by simp_all [bJ]
  split at h <;> cases h
  ·refine⟨_,?_,qm _ _⟩;have B:¬(((j.length+q.length:Nat):Int) > 9223372036854775807):=by omega
   have C:((⟨j.toArray⟩:ByteArray)++⟨q.toArray⟩)=⟨(j++q).toArray⟩:=by apply ByteArray.ext;simp[ByteArray.data_append]
   simp only[binOp,Op.stringOp,C];have L:IntKind.i64.max=9223372036854775807:=rfl;rw[Sem.run_ite,L,if_neg (by simpa [ByteArray.size]using B)];rfl
  ·exact⟨_,by simp only[binOp,Op.stringOp,toList_mk];rfl,jy _ _⟩
  ·exact⟨_,by simp only[binOp,Op.stringOp,toList_mk];rfl,jy _ _⟩
  ·exact⟨_,by simp only[binOp,Op.stringOp,toList_mk];rfl,jy _ _⟩
 ·obtain⟨a,rfl,ha⟩:=zq hu;obtain⟨b,rfl,hb⟩:=zq f;subst ha hb;have M:∀z,(binOp op t (.float .f64 a) (.float .f64 b)).run P w = .ok z w→(do eqGuard op t D E (.float .f64 a) (.float .f64 b);binOp op t (.float .f64 a) (.float .f64 b):Sem Value).run P w = .ok z w:=fun z hz=>by simp_all [bJ]
  split at h <;> cases h
  all_goals
   refine⟨_,M _ (by simp only[binOp,ne_eq,not_true_eq_false,if_false,Op.floatCmp];rfl),?_⟩;simp only[L1,LL,OP,NU,OO,FQ];exact jy _ _
 ·cases h
def un(op:UnOp):ag→Option ag
 | .p _ .bool x=>match op with
  | .not=>some (.p false .bool (!x))
  | _=>none
 | .p _ (.int k) x=>match op with
  | .neg=>some (.p false (.int k) (k.wrap (0 - x)))
  | _=>none
 | _=>none
theorem Dj{P:Program}{w:World}{op:UnOp}{x r:ag}(h:un op x=some r){F:Bool→Addr→Value→Prop}{ρ:Nat→QW}{u:Value}(hu:V F ρ x u):
  ∃z,(Op.unary op u).run P w = .ok z w∧V F ρ r z:=by
 unfold un at h;split at h
 ·rw[kL hu];split at h
  ·cases h;exact⟨_,rfl,jy _ _⟩
  ·cases h
 ·rw[bR hu];split at h
  ·cases h;exact⟨_,rfl,dM _ _ _⟩
  ·cases h
 ·cases h
def bytesOf(l:QK):QX:=l.map fun n=>UInt8.ofNat n.toNat
def cf(l:QX):QK:=l.map fun b=>(b.toNat:Int)
def conv(e dst:TK)(h:Nat→Qz):ag→Option ag
 | .p _ (.int _) x=>match dst with
  | .int k=>some (.p false (.int k) (k.wrap x))
  | .flt=>some (.p false .flt (ofInt x))
  | _=>none
 | .p _ .flt x=>match dst with
  | .flt=>some (.p false .flt x)
  | _=>none
 | .p _ .str x=>match dst with
  | .str=>some (.p false .str x)
  | _=>none
 | .p _ (.slice (.int .u8)) x=>match e,dst with
  | .sl _,.str=>some (.p false .str (bytesOf x))
  | _,_=>none
 | .sl id=>match h id,e,dst with
  | some (.arr _ (.int .u8) f),.sl _,.str=>some (.p false .str (bytesOf f))
  | some (.fz (.int .u8) f),.sl _,.str=>some (.p false .str (bytesOf f))
  | some (.bytes _ f),.sl _,.str=>some (.p false .str (bytesOf f))
  | _,_,_=>none
 | .nils=>match e,dst with
  | .sl _,.str=>some (.p false .str [])
  | _,_=>none
 | _=>none
theorem foldl_push(e:QK):∀(r:ByteArray),e.foldl (fun r n=>r.push (UInt8.ofNat n.toNat)) r=⟨(r.data.toList++bytesOf e).toArray⟩:=by
 induction e with
 | nil=>intro r;simp[bytesOf]
 | cons x j f =>
  intro r;rw[List.foldl_cons,f];simp[bytesOf,ByteArray.push]
theorem qo{P:Program}{w:World}{G:Addr→Value→Prop}(E:∀a v,v.oneCell'=true→G a v→w.cell? a=some v){q:QK}{v:Value}
  (I:ai G (.slice (.int .u8)) q (fun _ u=>u=v)):(Conv.bytesToString v).run P w = .ok (.string ⟨(bytesOf q).toArray⟩) w:=by
 obtain⟨J,len,cap,e,⟨hl,_⟩,h⟩:=I;subst e;cases B:q with
 | nil =>
  cases J with
  | none=>rfl
  | some a =>
   have:len=0:=by rw[hl,B];rfl
   subst this;exact run_bytesToString w a 0 cap [] (by rfl)
 | cons y L =>
  obtain⟨b,hb,_⟩:=h 0 (by rw[B];simp);subst hb;have z:len=(q.map (Value.int .u8)).length:=by rw[hl];simp
  have f:=run_loadCells_list (P:=P) w b (q.map (Value.int .u8)) (fun j u hu=>by
   rw[List.getElem?_map]at hu;rcases Nat.lt_or_ge j q.length with A | A
   ·obtain⟨M,C,D⟩:=h j A;cases C;simp only[ai,Ty.size,Nat.mul_one,Nat.add_zero]at D;rw[List.getElem?_eq_getElem A]at hu;cases hu;exact E _ _ rfl D
   ·rw[List.getElem?_eq_none A]at hu;cases hu)
  rw[←z]at f;have:=run_bytesToString (P:=P) w b len cap q f;rw[foldl_push]at this;rw[this,B];rfl
theorem Es{P:Program}{Bw:Nat→Prop}{w0:cE P}{w:World}{ρ:Nat→QW}{φ:Nat→Nat→Prop}{h:Nat→Qz}(m:Mem Bw w0 ρ φ h w){st L:TypeId}{Z di:TI}
  (hs:aO P st Z) (hd:aO P L di) (X:∀e,Z.k = .sl e→P.underlying e=some (.int .u8)) {x r:ag} (j:conv Z.k di.k h x=some r) {u:Value}
  (hu:V (Fr (own φ h) Bw w) ρ x u):∃z,(convert st L u).run P w = .ok z w∧V (Fr (own φ h) Bw w) ρ r z:=by
 obtain⟨Y,B,C⟩:=hs.hu;obtain⟨dd,E,f⟩:=hd.hu;unfold conv at j
 split at j
 ·rw[bR hu];split at j
  ·rename_i k e;cases j;rw[e]at f;simp only[UK]at f;subst f;refine⟨_,?_,dM _ _ _⟩;simp only[convert,Sem.run_bind,run_underlying B,run_underlying E,Result.andThen_ok];cases Y <;> rfl
  ·rename_i e;cases j;rw[e]at f;simp only[UK]at f;subst f;refine⟨_,?_,Bq _ _⟩;simp only[convert,Sem.run_bind,run_underlying B,run_underlying E,Result.andThen_ok];cases Y <;> rfl
  ·cases j
 ·obtain⟨a,rfl,ha⟩:=zq hu;split at j
  ·rename_i e;cases j;rw[e]at f;simp only[UK]at f;subst f;subst ha;refine⟨_,?_,Bq _ _⟩;simp only[convert,Sem.run_bind,run_underlying B,run_underlying E,Result.andThen_ok];cases Y <;> rfl
  ·cases j
 ·rw[pQ hu];split at j
  ·rename_i e;cases j;rw[e]at f;simp only[UK]at f;subst f;refine⟨_,?_,qm _ _⟩;simp only[convert,Sem.run_bind,run_underlying B,run_underlying E,Result.andThen_ok];cases Y <;> rfl
  ·cases j
 ·split at j
  ·rename_i xs _ _ e q D I;cases j;rw[D]at C;rw[I]at f;simp only[UK]at C f;subst C f;simp only[V]at hu;refine⟨_,?_,qm _ _⟩;have:=qo (P:=P) (w:=w) (fun a v B h=>World.jK h.2.2 B) hu.2;obtain⟨_,_,_,M,_⟩:=hu.2;subst M;rw[run_convert_bytes_string w st L _ _ _ _ B (X _ D) E];exact this
  ·cases j
 ·rename_i id;split at j
  ·rename_i te xs hi D I;cases j;rw[D]at C;rw[I]at f;simp only[UK]at C f;subst C f;obtain⟨u',J,N⟩:=m.ob id _ hi;simp only[V]at hu;rw[hu.1]at J;cases J;obtain⟨_,_,cells,r1,r2⟩:=N;have O:=lT (F':=fun _ a v=>w.pb a=some v) (ρ':=ρ) r1 r2 false (fun a v h=>h.2.2) (fun a v _ h=>World.fM h);simp only[V]at O;refine⟨_,?_,qm _ _⟩;have:=qo (P:=P) (w:=w) (fun a v B h=>World.jK h B) O.2;obtain⟨_,_,_,M,_⟩:=O.2;subst M;rw[run_convert_bytes_string w st L _ _ _ _ B (X _ D) E];exact this
  ·rename_i xs hi D I;cases j;rw[D]at C;rw[I]at f;simp only[UK]at C f;subst C f;obtain⟨u',J,N⟩:=m.ob id _ hi;simp only[V]at hu;rw[hu.1]at J;cases J;simp only[OR,V]at N;refine⟨_,?_,qm _ _⟩;have:=qo (P:=P) (w:=w) (fun a v B h=>World.jK h.2.2 B) N.2;obtain⟨_,_,_,M,_⟩:=N.2;subst M;rw[run_convert_bytes_string w st L _ _ _ _ B (X _ D) E];exact this
  ·rename_i te xs hi D I;cases j;rw[D]at C;rw[I]at f;simp only[UK]at C f;subst C f;obtain⟨u',J,N⟩:=m.ob id _ hi;simp only[V]at hu;rw[hu.1]at J;cases J;have O:=JW (ρ':=ρ) N;simp only[V]at O;refine⟨_,?_,qm _ _⟩;have:=qo (P:=P) (w:=w) (fun a v _ h=>h) O.2;obtain⟨_,_,_,M,_⟩:=O.2;subst M;rw[run_convert_bytes_string w st L _ _ _ _ B (X _ D) E];exact this
  ·cases j
 ·split at j
  ·rename_i D I;cases j;rw[D]at C;rw[I]at f;simp only[UK]at C f;subst C f;simp only[V]at hu;subst hu;refine⟨_,?_,qm _ _⟩;rw[run_convert_bytes_string w st L _ _ _ _ B (X _ D) E];rfl
  ·cases j
 ·cases j
def Good(P:Program)(o:Oper)(a:Act)(w:World)(post:Value→World→Prop):Prop :=
 ∀K Q,(∀v w',post v w'→K (a.put o.dst v) w')→o.wp P a w K Q
theorem Good.aH{P:Program}{o:Oper}{a:Act}{w w':World}{post:Value→World→Prop}{v:Value}
  (h:(execOp a.eval o).run P w = .ok (.value v) w') (j:post v w'):Good P o a w post:=fun K Q hk=>by
 unfold Oper.wp;rw[h];exact hk _ _ j
theorem Good.j5{P:Program}{o:Oper}{a:Act}{w w':World}{post:Value→World→Prop}
  (h:(execOp a.eval o).run P w = .ok .skip w') (j:post undef w'):Good P o a w post:=fun K Q hk=>by
 unfold Oper.wp;rw[h];exact hk _ _ j
theorem Good.th{P:Program}{o:Oper}{a:Act}{w w':World}{post:Value→World→Prop}{f:FuncId}{args:QU}
  (h:(execOp a.eval o).run P w = .ok (.enter f args) w') (z:Calls P f args w' fun e j=>∃v,e = .returned v∧post v j):Good P o a w post:=fun K Q hk=>by
 unfold Oper.wp;rw[h];show Calls P f args w' _;exact z.mono fun e j ⟨v,B,C⟩=>by subst B;exact hk _ _ C
def MA(P:Program)(o:Oper)(a:Act)(w:World)(x:Value)(post:World→Prop):Prop :=
 ∀K Q,(∀w',post w'→Q (.panic [{ v:=x,recovered:=false }]) a w')→o.wp P a w K Q
theorem MA.th{P:Program}{o:Oper}{a:Act}{w w':World}{x:Value}{post:World→Prop}{f:FuncId}{args:QU}
  (h:(execOp a.eval o).run P w = .ok (.enter f args) w') (q:Calls P f args w' fun e j=>e = .panicked [{ v:=x,recovered:=false }]∧post j):MA P o a w x post:=fun K Q hk=>by
 unfold Oper.wp;rw[h];show Calls P f args w' _;exact q.mono fun e j ⟨z,A⟩=>by subst z;exact hk _ A
def aG{P:Program}(Bw:Nat→Prop)(w0:cE P)(ρ:Nat→QW)(φ:Nat→Nat→Prop)(h:Nat→Qz)(w:World)(new:Nat)(x:ag)(u:iu)(v:Value)(w':World):Prop :=
 ∃z B,Mem Bw w0 z B (apply u h) w'∧(∀β a v,Fr (own φ h) Bw w β a v→Fr (own B (apply u h)) Bw w' β a v)∧(∀i u,ρ i=some u→z i=some u) ∧
  (∀i u,z i=some u→ρ i=some u∨∃j,j<8∧i=new+j)∧V (Fr (own B (apply u h)) Bw w') z x v
theorem aG.pure{P:Program}{Bw:Nat→Prop}{w0:cE P}{ρ:Nat→QW}{φ:Nat→Nat→Prop}{h:Nat→Qz}{w:World}{new:Nat}{x:ag}{v:Value}
  (m:Mem Bw w0 ρ φ h w) (j:V (Fr (own φ h) Bw w) ρ x v):aG Bw w0 ρ φ h w new x [] v w :=
 ⟨ρ,φ,m,fun _ _ _ h=>h,fun _ _ h=>h,fun _ _ h=> .inl h,j⟩
theorem add_add(a:Addr)(i j:Nat):(a.add i).add j=a.add (i+j):=by
 unfold Addr.add;by_cases hi:i=0 <;> by_cases e:j=0 <;> simp[hi,e,Nat.add_assoc]
theorem cu(g i j:Nat):(⟨g,i,none⟩:Addr).add j=⟨g,i+j,none⟩:=by
 unfold Addr.add;by_cases e:j=0 <;> simp[e]
section
variable{F:Bool→Addr→Value→Prop}{ρ:Nat→QW}
theorem VL.list:∀ {cs:List ag} {g:Nat→Value→Prop},VL F ρ cs g→∃us:QY,us.length=cs.length∧(∀k u,us[k]? = some u→g k u)∧VL F ρ cs (fun k u=>us[k]? = some u)
 | [],g,_=>⟨[],rfl,fun k u h=>by simp at h,by simp only[VL]⟩
 | c::cs,g,h=>by
  simp only[VL]at h;obtain⟨⟨v,q,z⟩,e⟩:=h;obtain⟨us,j,A,B⟩:=VL.list e;refine⟨v::us,by simp[j],fun k u hk=>?_,?_⟩
  ·grind
  ·simp_all [VL,VL.mono]
theorem VL.take{n:Nat}{cs:List ag}{g:Nat→Value→Prop}(h:VL F ρ cs g):VL F ρ (cs.take n) g :=
 VL.mk fun k x hk=>by
  grind (splits:=6) (ematch:=4) [VL.get]
end
def ag.cell:ag→Bool
 | .lit u=>u.oneCell'
 | .agg _=>false
 | .tup _=>false
 | .lag _ _ _ _=>false
 | .unk=>false
 | _=>true
def ag.Fj:ag→Bool
 | .lag _ _ _ cs=>cs.all ag.cell
 | x=>(cellsOf x).all ag.cell
theorem EF{x:ag}(h:x.Fj=true):(cellsOf x).all ag.cell=true:=by
 unfold ag.Fj at h;split at h
 ·simp only[cellsOf,List.all_append,Bool.and_eq_true];refine⟨?_,h⟩;rw[List.all_map];exact List.all_eq_true.2 fun _ _=>rfl
 ·exact h
theorem sT{F:Bool→Addr→Value→Prop}{ρ:Nat→QW}{x:ag}(q:x.cell=true){v:Value}(f:V F ρ x v):v.oneCell'=true:=by
 cases x with
 | p β T y =>
  simp only[V]at f;obtain⟨u,j⟩:=f;cases T <;> simp only[Ty.scalar,Bool.false_eq_true]at u
  ·simp only[ai]at j;subst j;rfl
  ·simp only[ai]at j;subst j;rfl
  ·simp only[ai]at j;subst j;rfl
  ·obtain⟨_,e,_⟩:=j;subst e;rfl
  ·obtain⟨_,_,_,e,_⟩:=j;subst e;rfl
  ·cases y with
   | none=>simp only[ai]at j;subst j;rfl
   | some z=>obtain⟨_,e,_⟩:=j;subst e;rfl
  ·obtain⟨_,e,_⟩:=j;subst e;rfl
 | nils=>simp only[V]at f;subst f;rfl
 | nilp=>simp only[V]at f;subst f;rfl
 | lit _=>simp only[V]at f;subst f;exact q
 | sl id=>simp only[V]at f;obtain⟨_,_,_,_,e⟩:=f;subst e;rfl
 | adr _ _ _ _=>simp only[V]at f;obtain⟨_,_,e⟩:=f;subst e;rfl
 | ada _ _ _ _=>simp only[V]at f;obtain⟨_,_,e,_⟩:=f;subst e;rfl
 | fad _ _ _=>simp only[V]at f;obtain⟨_,e,_⟩:=f;subst e;rfl
 | fn _ _=>simp only[V]at f;obtain⟨_,e,_⟩:=f;subst e;rfl
 | mp _=>simp only[V]at f;obtain⟨_,_,e⟩:=f;subst e;rfl
 | loc _ _ _=>simp only[V]at f;obtain⟨_,e,_⟩:=f;subst e;rfl
 | suf _ _ _=>simp only[V]at f;obtain⟨_,_,_,_,_,_,e⟩:=f;subst e;rfl
 | bfn _ _=>simp only[V]at f;obtain⟨_,e,_⟩:=f;subst e;rfl
 | lag _ _ _ _=>simp[ag.cell]at q
 | agg _=>simp[ag.cell]at q
 | tup _=>simp[ag.cell]at q
 | unk=>simp[ag.cell]at q
theorem gv{F:Bool→Addr→Value→Prop}{ρ:Nat→QW}{x:ag}(C:(cellsOf x).all ag.cell=true){v:Value}(E:V F ρ x v):
  VL F ρ (cellsOf x) (fun k u=>v.cells.toList[k]? = some u)∧v.cells.toList.length=(cellsOf x).length∧∀c∈v.cells.toList,c.oneCell'=true:=by
 by_cases q:∃z,x = .agg z
 ·obtain⟨z,rfl⟩:=q;simp only[V]at E;obtain⟨vs,rfl,N,hl⟩:=E;simp only[cellsOf]at C ⊢;refine⟨VL.mono (fun _ _ _ h=>h) (fun _ _ h=>h) (fun k u hk=>by simpa [Value.cells]using hk) hl,by simpa [Value.cells]using N,fun c f=>?_⟩;obtain⟨k,hk,rfl⟩:=List.getElem_of_mem f;have I:k<z.length:=by rw[←N];simpa [Value.cells]using hk
  obtain⟨u,J,X⟩:=VL.get hl (List.getElem?_eq_getElem I);have:u=(Value.agg vs).cells.toList[k]:=by
   have Y:k<vs.size:=by omega
   rw[Array.getElem?_eq_getElem Y]at J;cases J;simp[Value.cells]
  rw[←this];exact sT (List.all_eq_true.1 C _ (List.getElem_mem I)) X
 ·by_cases A:∃k n B z,x = .lag k n B z
  ·obtain⟨k,n,B,z,rfl⟩:=A;simp only[V]at E;obtain⟨vs,rfl,N,hl⟩:=E;simp only[cellsOf,List.all_append,Bool.and_eq_true]at C ⊢;have O:VL F ρ (B.1.map (fun i=>ag.p false (.int k) i)) (fun j u=>(B.1.map (Value.int k)++vs)[j]? = some u):=VL.mk fun j y L=>by
    rw[List.getElem?_map]at L;rcases Nat.lt_or_ge j B.1.length with e | e
    ·rw[List.getElem?_eq_getElem e]at L;cases L;exact⟨.int k B.1[j],by rw[List.getElem?_append_left (by simpa using e)];simp[e],by simp only[V,ai];exact⟨rfl,trivial⟩⟩
    ·rw[List.getElem?_eq_none e]at L;cases L
   have Z:VL F ρ (B.1.map (fun i=>ag.p false (.int k) i)++z) (fun j u=>(B.1.map (Value.int k)++vs)[j]? = some u):=VL.append O (VL.mono (fun _ _ _ h=>h) (fun _ _ h=>h) (fun j u e=>by
    rw[List.length_map,List.getElem?_append_right (by simp)];simpa using e) hl)
   refine⟨VL.mono (fun _ _ _ h=>h) (fun _ _ h=>h) (fun j u e=>by simpa [Value.cells]using e) Z,by simp[Value.cells,N],fun c f=>?_⟩;simp only[Value.cells,List.mem_append,List.mem_map]at f;rcases f with⟨i,_,rfl⟩ | f
   ·rfl
   ·obtain⟨j,e,rfl⟩:=List.getElem_of_mem f;have M:j<z.length:=by omega
    obtain⟨u,J,X⟩:=VL.get hl (List.getElem?_eq_getElem M);rw[List.getElem?_eq_getElem e]at J;cases J;exact sT (List.all_eq_true.1 C.2 _ (List.getElem_mem M)) X
  have D:cellsOf x=[x]:=by cases x <;> first | rfl | exact(q ⟨_,rfl⟩).elim | exact(A ⟨_,_,_,_,rfl⟩).elim
  rw[D]at C ⊢;simp only[List.all_cons,List.all_nil,Bool.and_true]at C;have O:=sT C E;rw[fW O];simp only[VL];exact⟨⟨⟨v,rfl,E⟩,trivial⟩,rfl,fun c f=>by simp at f;subst f;exact O⟩
section
variable{P:Program}{t:TypeId}{ti:TI}
theorem lv(ht:aO P t ti)(w:World):(isAgg t).run P w = .ok ti.k.agg w:=by
 obtain⟨d,f,e⟩:=ht.hu;unfold isAgg;rw[Sem.run_bind,run_underlying f];simp only[Result.andThen_ok];cases hk:ti.k <;> rw[hk]at e <;> simp only[UK]at e
 case other =>cases d <;> simp at e <;> rfl
 case st=>obtain⟨j,rfl,_⟩:=e;rfl
 all_goals (subst e;rfl)
theorem run_sizeOf(ht:aO P t ti)(w:World):(sizeOf t).run P w = .ok ti.size w:=by
 obtain⟨i,z,e,_,f,_⟩:=ht.hi;simp[sizeOf,typeInfo,e,f]
theorem dF(ht:aO P t ti)(w:World):∃z,(zeroValue t).run P w = .ok z w∧z.cells.toList.map kE=ti.z∧z.cells.size=ti.size∧∀c∈z.cells.toList,c.oneCell'=true:=by
 obtain⟨i,z,e,f,_,_,j,q,u⟩:=ht.hi;exact⟨z,by simp[zeroValue,typeInfo,e,f],j,q,u⟩
theorem aX(ht:aO P t ti){e:TypeId}(j:ti.k = .sl e):P.underlying t=some (.slice e):=by
 obtain⟨d,q,f⟩:=ht.hu;rw[j]at f;simp only[UK]at f;rw[q,f]
end
def fk(ti:TI)(cs:List ag)(off:Nat):Option ag :=
 if ti.k.agg then(if off+ti.size≤cs.length then some (.agg ((cs.drop off).take ti.size))else none)else cs[off]?
theorem gP{P:Program}{t:TypeId}{ti:TI}(ht:aO P t ti){F:Bool→Addr→Value→Prop}{ρ:Nat→QW}{w:World}{ad:Addr}{cs:List ag}
  (q:VL F ρ cs (fun k u=>w.cell? (ad.add k)=some u)) {off:Nat} {x:ag} (h:fk ti cs off=some x) :
  ∃v,(loadVar t (ad.add off)).run P w = .ok v w∧V F ρ x v:=by
 unfold fk at h;unfold loadVar;rw[Sem.run_bind,lv ht];simp only[Result.andThen_ok];split at h
 ·rename_i e;split at h
  ·rename_i C;cases h;have D:=VL.take (n:=ti.size) (VL.drop (n:=off) q);obtain⟨A,B,E,I⟩:=VL.list D;have z:A.length=ti.size:=by rw[B,List.length_take,List.length_drop];omega
   have f:=run_loadCells_list (P:=P) w (ad.add off) A (fun j u hu=>by rw[add_add];exact E j u hu);rw[z]at f;refine⟨.agg A.toArray,?_,?_⟩
   ·rw[if_pos e,Sem.run_bind,run_sizeOf ht];simp only[Result.andThen_ok,Sem.run_bind,f];rfl
   ·simp only[V];exact⟨_,rfl,by simp[B],VL.mono (fun _ _ _ h=>h) (fun _ _ h=>h) (fun k u hk=>by simpa using hk) I⟩
  ·cases h
 ·rename_i e;obtain⟨u,J,L⟩:=VL.get q h;refine⟨u,?_,L⟩;rw[if_neg (by simpa using e),run_load,J]
theorem ib{P:Program}{t:TypeId}{ti:TI}(ht:aO P t ti){w:World}{g p:Nat}{e:QU}{u:TypeId}(z:w.heap[g]? = some (.cells e u (0,0)))
  {v:Value} (j:v.cells.toList.length=ti.size) (f:p+ti.size≤e.size) (A:∀c∈v.cells.toList,c.oneCell'=true) :
  (storeVar t ⟨g,p,none⟩ v).run P w = .ok () (w.setRow g (e.toList.take p++v.cells.toList++e.toList.drop (p+ti.size)).toArray):=by
 unfold storeVar;rw[Sem.run_bind,run_sizeOf ht];simp only[Result.andThen_ok];have q:v.cells.size=ti.size:=by simpa using j
 have:=run_storeCells_at P g p u v.cells.toList 0 e w z (by rw[j];simpa using f) A;rw[Sem.run_ite,if_neg (by simpa using q),this];simp only[Nat.add_zero,j]
theorem bc(w:World)(g:Nat)(cs:QU):w.grownBy (w.setRow g cs) (some g) :=
 ⟨rfl,rfl,rfl,by simp[World.setRow],fun k _ hk=>setRow_other w g k cs (fun e=>hk (by rw[e]))⟩
theorem bf{h:Nat→Qz}{i:Nat}{x:Qz}:bu (fun j=>if some i=some j then none else h j) i x=bu h i x:=by
 grind (splits:=6) (ematch:=4) [bu]
theorem bp{h:Nat→Qz}{i:Nat}{x:Qz}:bu (fun j=>if(none:QJ)=some j then none else h j) i x=bu h i x:=by
 funext j;simp only[bu];split
 ·rfl
 ·simp
theorem su{h:Nat→Qz}{i j:Nat}{x:Qz}:bu (fun k=>if some i=some k then none else h k) j x=bu (bu h i none) j x:=by
 grind (splits:=6) (ematch:=4) [bu]
end Go.Tv
