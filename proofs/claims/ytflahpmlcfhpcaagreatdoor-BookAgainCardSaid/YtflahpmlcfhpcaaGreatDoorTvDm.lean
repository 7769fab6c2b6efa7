import Derived.Test.YtflahpmlcfhpcaaGreatDoorTvC
import Derived.WalkLawsBesides
namespace Go.Tv
open Go Go.RowKit
abbrev Out:=ag×gZ×Prop
abbrev Qk:=Option Out
def ev(s:Nat→ag):Operand→ag
 | .tmp t=>s t
 | .const v=>yw v
 | .global _=> .unk
 | .func f=> .fn f []
section
variable{F:Bool→Addr→Value→Prop}{ρ:Nat→QW}{n:NS}{a:Act}{s:Nat→ag}
theorem aV(h:eT n F ρ s a)(x:Operand):V F ρ (ev s x) (a.eval x):=by
 cases x with
 | tmp t=>exact h.sl t
 | const v=>exact Bs v
 | global g=>simp only[ev,V]
 | func f=>simp only[ev,V,Act.eval];exact⟨#[],rfl,rfl,trivial⟩
theorem bX{β:Bool}{k:IntKind}{m:Int}{v:Value}(h:V F ρ (.p β (.int k) m) v):v = .int k m:=by
 simp only[V,ah]at h;exact h.2.symm
theorem nj{β b:Bool}{v:Value}(h:V F ρ (.p β .bool b) v):v = .bool b:=by
 simp only[V,ah]at h;exact h.2.symm
theorem oC{β:Bool}{l:QX}{v:Value}(h:V F ρ (.p β .str l) v):v = .string ⟨l.toArray⟩:=by
 simp only[V,ah]at h;exact h.2.symm
theorem yd{β:Bool}{x:QJ}{v:Value}(h:V F ρ (.p β .flt x) v):∃m,v = .float .f64 m∧eG m=x:=by
 simp only[V,ah]at h;obtain⟨_,m,e,f⟩:=h;exact⟨m,e.symm,f⟩
theorem zm(β:Bool)(m:Nat):V F ρ (.p β .flt (eG m)) (.float .f64 m):=by
 simp only[V,ah];exact⟨rfl,m,rfl,rfl⟩
theorem dH(β:Bool)(k:IntKind)(m:Int):V F ρ (.p β (.int k) m) (.int k m):=by simp[V,ah,Ty.scalar]
theorem iV(β b:Bool):V F ρ (.p β .bool b) (.bool b):=by simp[V,ah,Ty.scalar]
theorem oy(β:Bool)(l:QX):V F ρ (.p β .str l) (.string ⟨l.toArray⟩):=by simp[V,ah,Ty.scalar]
end
def bitsOf(op:BinOp)(k:IntKind)(x y:Int):Int :=
 let a:=BitVec.ofInt k.bits x
 let b:=BitVec.ofInt k.bits y
 match op with
 | .and=>k.wrap (a &&& b).toNat
 | .or=>k.wrap (a ||| b).toNat
 | .xor=>k.wrap (a ^^^ b).toNat
 | _=>k.wrap (a &&& ~~~b).toNat
def Ce(op:BinOp)(k:IntKind)(x:Int)(e:IntKind)(y:Int):Option (ag×Prop) :=
 match op with
 | .shl=>some (.p false (.int k) (k.wrap (x*2 ^ (min y.toNat k.bits))),0≤y)
 | .shr=>some (.p false (.int k) (x.fdiv (2 ^ (min y.toNat k.bits))),0≤y)
 | .add=>if k=e then some (.p false (.int k) (k.wrap (x+y)),True)else none
 | .sub=>if k=e then some (.p false (.int k) (k.wrap (x - y)),True)else none
 | .mul=>if k=e then some (.p false (.int k) (k.wrap (x*y)),True)else none
 | .quo=>if k=e then some (.p false (.int k) (k.wrap (x.tdiv y)),¬y=0)else none
 | .rem=>if k=e then some (.p false (.int k) (x.tmod y),¬y=0)else none
 | .and=>if k=e then some (.p false (.int k) (bitsOf .and k x y),True)else none
 | .or=>if k=e then some (.p false (.int k) (bitsOf .or k x y),True)else none
 | .xor=>if k=e then some (.p false (.int k) (bitsOf .xor k x y),True)else none
 | .andNot=>if k=e then some (.p false (.int k) (bitsOf .andNot k x y),True)else none
 | .eql=>if k=e then some (.p false .bool (x == y),True)else none
 | .neq=>if k=e then some (.p false .bool (x != y),True)else none
 | .lss=>if k=e then some (.p false .bool (decide (x<y)),True)else none
 | .leq=>if k=e then some (.p false .bool (decide (x≤y)),True)else none
 | .gtr=>if k=e then some (.p false .bool (decide (x > y)),True)else none
 | .geq=>if k=e then some (.p false .bool (decide (x≥y)),True)else none
theorem y5{P:Program}{w:World}{op:BinOp}{k f:IntKind}{x y:Int}{r:ag}{c:Prop}(h:Ce op k x f y=some (r,c))(hc:c)
  {t:TypeId} {F:Bool→Addr→Value→Prop} {ρ:Nat→QW} :
  ∃v,(binOp op t (.int k x) (.int f y)).run P w = .ok v w∧V F ρ r v:=by
 cases op <;> simp only[Ce]at h
 case shl =>cases h;refine⟨_,?_,dH _ _ _⟩;simp only[binOp,Op.shift,if_neg (by omega:¬y<0)];rfl
 case shr =>cases h;refine⟨_,?_,dH _ _ _⟩;simp only[binOp,Op.shift,if_neg (by omega:¬y<0)];rfl
 all_goals
  split at h
  ·rename_i e;subst e;cases h
   first
    | exact⟨_,by simp only[binOp,ne_eq,not_true_eq_false,if_false,Op.intArith];rfl,dH _ _ _⟩
    | exact⟨_,by simp only[binOp,ne_eq,not_true_eq_false,if_false,Op.intDiv,if_neg hc];rfl,dH _ _ _⟩
    | exact⟨_,by simp only[binOp,ne_eq,not_true_eq_false,if_false];rfl,dH _ _ _⟩
    | exact⟨_,by simp only[binOp,ne_eq,not_true_eq_false,if_false,Op.intCmp];rfl,iV _ _⟩
  ·cases h
def HG(a b:QX):Bool:=Op.bytesLess a b
def bin(e:TK)(op:BinOp):ag→ag→Option (ag×Prop)
 | .p _ (.int k) x,.p _ (.int f) y=>Ce op k x f y
 | .p _ .bool x,.p _ .bool y=>match e,op with
  | .bool,.eql=>some (.p false .bool (x == y),True)
  | .bool,.neq=>some (.p false .bool (!(x == y)),True)
  | _,_=>none
 | .p _ .str x,.p _ .str y=>match op with
  | .add=>some (.p false .str (x++y),x.length+y.length≤9223372036854775807)
  | .eql=>some (.p false .bool (x == y),True)
  | .neq=>some (.p false .bool (!(x == y)),True)
  | .lss=>some (.p false .bool (HG x y),True)
  | _=>none
 | .p _ .flt x,.p _ .flt y=>match op with
  | .eql=>some (.p false .bool (Jw x y),True)
  | .neq=>some (.p false .bool (!(Jw x y)),True)
  | .lss=>some (.p false .bool (JV x y),True)
  | .leq=>some (.p false .bool (Mj x y),True)
  | .gtr=>some (.p false .bool (Lo x y),True)
  | .geq=>some (.p false .bool (Mf x y),True)
  | _=>none
 | _,_=>none
theorem bL{P:Program}{w:World}{op:BinOp}{t:TypeId}{x y:Operand}{a b:Value}(ha:∀e,a ≠ .agg e)(hn:a ≠ .nilIface):
  (eqGuard op t x y a b).run P w = .ok () w:=by
 unfold eqGuard;rw[Sem.run_ite];cases a <;> first
  | exact(hn rfl).elim
  | exact(ha _ rfl).elim
  | (split <;> rfl)
theorem toList_mk(l:QX):(⟨l.toArray⟩:ByteArray).toList=l:=by
 rw[ByteArray.toList_eq]
theorem EY{P:Program}{w:World}{op:BinOp}{t:TypeId}{ti:TI}(ht:aN P t ti){x y r:ag}{c:Prop}(h:bin ti.k op x y=some (r,c))(hc:c)
  {F:Bool→Addr→Value→Prop} {ρ:Nat→QW} {u v:Value} (hu:V F ρ x u) (p:V F ρ y v) (D E:Operand) :
  ∃z,(do eqGuard op t D E u v;binOp op t u v:Sem Value).run P w = .ok z w∧V F ρ r z:=by
 unfold bin at h;split at h
 ·rw[bX hu,bX p];obtain⟨z,f,j⟩:=y5 (P:=P) (w:=w) h hc (t:=t) (F:=F) (ρ:=ρ);exact⟨z,by rw[Sem.run_bind,bL (by intro q e;cases e) (by intro e;cases e)];exact f,j⟩
 ·rw[nj hu,nj p];obtain⟨d,hd,hk⟩:=ht.hu;split at h
  ·rename_i e;rw[e]at hk;simp only[UK]at hk;subst hk;cases h;exact⟨_,by rw[Sem.run_bind,bL (by intro q e;cases e) (by intro e;cases e)];exact run_eql_bool w t _ _ hd,iV _ _⟩
  ·rename_i e;rw[e]at hk;simp only[UK]at hk;subst hk;cases h;exact⟨_,by rw[Sem.run_bind,bL (by intro q e;cases e) (by intro e;cases e)];exact run_neq_bool w t _ _ hd,iV _ _⟩
  ·cases h
 ·rw[oC hu,oC p];rename_i B _ C;suffices I:∃z,(binOp op t (.string ⟨B.toArray⟩) (.string ⟨C.toArray⟩)).run P w = .ok z w∧V F ρ r z by obtain⟨z,f,j⟩:=I;exact⟨z,by rw[Sem.run_bind,bL (by intro q e;cases e) (by intro e;cases e)];exact f,j⟩
  split at h <;> cases h
  ·refine⟨_,?_,oy _ _⟩;have f:¬(((B.length+C.length:Nat):Int) > 9223372036854775807):=by omega
   have j:((⟨B.toArray⟩:ByteArray)++⟨C.toArray⟩)=⟨(B++C).toArray⟩:=by apply ByteArray.ext;simp[ByteArray.data_append]
   simp only[binOp,Op.stringOp,j];have J:IntKind.i64.max=9223372036854775807:=rfl;rw[Sem.run_ite,J,if_neg (by simpa [ByteArray.size]using f)];rfl
  ·exact⟨_,by simp only[binOp,Op.stringOp,toList_mk];rfl,iV _ _⟩
  ·exact⟨_,by simp only[binOp,Op.stringOp,toList_mk];rfl,iV _ _⟩
  ·exact⟨_,by simp only[binOp,Op.stringOp,toList_mk];rfl,iV _ _⟩
 ·obtain⟨a,rfl,ha⟩:=yd hu;obtain⟨b,rfl,hb⟩:=yd p;subst ha hb;have L:∀z,(binOp op t (.float .f64 a) (.float .f64 b)).run P w = .ok z w→(do eqGuard op t D E (.float .f64 a) (.float .f64 b);binOp op t (.float .f64 a) (.float .f64 b):Sem Value).run P w = .ok z w:=fun z hz=>by rw[Sem.run_bind,bL (by intro q e;cases e) (by intro e;cases e)];exact hz
  split at h <;> cases h
  all_goals
   refine⟨_,L _ (by simp only[binOp,ne_eq,not_true_eq_false,if_false,Op.floatCmp];rfl),?_⟩;simp only[Jw,JV,Mj,Lo,Mf,DF];exact iV _ _
 ·cases h
def un(op:UnOp):ag→Option ag
 | .p _ .bool x=>match op with
  | .not=>some (.p false .bool (!x))
  | _=>none
 | .p _ (.int k) x=>match op with
  | .neg=>some (.p false (.int k) (k.wrap (0 - x)))
  | _=>none
 | _=>none
theorem Gi{P:Program}{w:World}{op:UnOp}{x r:ag}(h:un op x=some r){F:Bool→Addr→Value→Prop}{ρ:Nat→QW}{u:Value}(hu:V F ρ x u):
  ∃z,(Op.unary op u).run P w = .ok z w∧V F ρ r z:=by
 unfold un at h;split at h
 ·rw[nj hu];split at h
  ·cases h;exact⟨_,rfl,iV _ _⟩
  ·cases h
 ·rw[bX hu];split at h
  ·cases h;exact⟨_,rfl,dH _ _ _⟩
  ·cases h
 ·cases h
def bytesOf(l:QK):QX:=l.map fun n=>UInt8.ofNat n.toNat
def cd(l:QX):QK:=l.map fun b=>(b.toNat:Int)
def conv(e dst:TK)(h:Nat→Qz):ag→Option ag
 | .p _ (.int _) x=>match dst with
  | .int k=>some (.p false (.int k) (k.wrap x))
  | .flt=>some (.p false .flt (ofInt x))
  | _=>none
 | .p _ .flt x=>match dst with
  | .flt=>some (.p false .flt x)
  | _=>none
 | .p _ .str x=>match dst with
  | .str=>some (.p false .str x)
  | _=>none
 | .p _ (.slice (.int .u8)) x=>match e,dst with
  | .sl _,.str=>some (.p false .str (bytesOf x))
  | _,_=>none
 | .sl id=>match h id,e,dst with
  | some (.arr _ (.int .u8) f),.sl _,.str=>some (.p false .str (bytesOf f))
  | some (.fz (.int .u8) f),.sl _,.str=>some (.p false .str (bytesOf f))
  | some (.bytes _ f),.sl _,.str=>some (.p false .str (bytesOf f))
  | _,_,_=>none
 | .nils=>match e,dst with
  | .sl _,.str=>some (.p false .str [])
  | _,_=>none
 | _=>none
theorem foldl_push(e:QK):∀(r:ByteArray),e.foldl (fun r n=>r.push (UInt8.ofNat n.toNat)) r=⟨(r.data.toList++bytesOf e).toArray⟩:=by
 induction e with
 | nil=>intro r;simp[bytesOf]
 | cons x j f =>
  intro r;rw[List.foldl_cons,f];simp[bytesOf,ByteArray.push]
theorem pk{P:Program}{w:World}{G:Addr→Value→Prop}(B:∀a v,v.oneCell'=true→G a v→w.cell? a=some v){p:QK}{v:Value}
  (C:ah G (.slice (.int .u8)) p (fun _ u=>u=v)):(Conv.bytesToString v).run P w = .ok (.string ⟨(bytesOf p).toArray⟩) w:=by
 obtain⟨D,len,cap,e,⟨hl,_⟩,h⟩:=C;subst e;cases z:p with
 | nil =>
  cases D with
  | none=>rfl
  | some a =>
   have:len=0:=by rw[hl,z];rfl
   subst this;exact run_bytesToString w a 0 cap [] (by rfl)
 | cons y E =>
  obtain⟨b,hb,_⟩:=h 0 (by rw[z];simp);subst hb;have q:len=(p.map (Value.int .u8)).length:=by rw[hl];simp
  have f:=run_loadCells_list (P:=P) w b (p.map (Value.int .u8)) (fun j u hu=>by
   rw[List.getElem?_map]at hu;rcases Nat.lt_or_ge j p.length with x | x
   ·obtain⟨I,A,hc⟩:=h j x;cases A;simp only[ah,Ty.size,Nat.mul_one,Nat.add_zero]at hc;rw[List.getElem?_eq_getElem x]at hu;cases hu;exact B _ _ rfl hc
   ·rw[List.getElem?_eq_none x]at hu;cases hu)
  rw[←q]at f;have:=run_bytesToString (P:=P) w b len cap p f;rw[foldl_push]at this;rw[this,z];rfl
theorem CD{P:Program}{Bw:Nat→Prop}{w0:cw P}{w:World}{ρ:Nat→QW}{φ:Nat→Nat→Prop}{h:Nat→Qz}(m:Mem Bw w0 ρ φ h w){st I:TypeId}{X Y:TI}
  (hs:aN P st X) (hd:aN P I Y) (N:∀e,X.k = .sl e→P.underlying e=some (.int .u8)) {x r:ag} (hc:conv X.k Y.k h x=some r) {u:Value}
  (hu:V (Fr (own φ h) Bw w) ρ x u):∃z,(convert st I u).run P w = .ok z w∧V (Fr (own φ h) Bw w) ρ r z:=by
 obtain⟨O,j,p⟩:=hs.hu;obtain⟨dd,C,f⟩:=hd.hu;unfold conv at hc
 split at hc
 ·rw[bX hu];split at hc
  ·rename_i k e;cases hc;rw[e]at f;simp only[UK]at f;subst f;refine⟨_,?_,dH _ _ _⟩;simp only[convert,Sem.run_bind,run_underlying j,run_underlying C,Result.andThen_ok];cases O <;> rfl
  ·rename_i e;cases hc;rw[e]at f;simp only[UK]at f;subst f;refine⟨_,?_,zm _ _⟩;simp only[convert,Sem.run_bind,run_underlying j,run_underlying C,Result.andThen_ok];cases O <;> rfl
  ·cases hc
 ·obtain⟨a,rfl,ha⟩:=yd hu;split at hc
  ·rename_i e;cases hc;rw[e]at f;simp only[UK]at f;subst f;subst ha;refine⟨_,?_,zm _ _⟩;simp only[convert,Sem.run_bind,run_underlying j,run_underlying C,Result.andThen_ok];cases O <;> rfl
  ·cases hc
 ·rw[oC hu];split at hc
  ·rename_i e;cases hc;rw[e]at f;simp only[UK]at f;subst f;refine⟨_,?_,oy _ _⟩;simp only[convert,Sem.run_bind,run_underlying j,run_underlying C,Result.andThen_ok];cases O <;> rfl
  ·cases hc
 ·split at hc
  ·rename_i xs _ _ e q B D;cases hc;rw[B]at p;rw[D]at f;simp only[UK]at p f;subst p f;simp only[V]at hu;refine⟨_,?_,oy _ _⟩;have:=pk (P:=P) (w:=w) (fun a v j h=>World.jt h.2.2 j) hu.2;obtain⟨_,_,_,J,_⟩:=hu.2;subst J;rw[run_convert_bytes_string w st I _ _ _ _ j (N _ B) C];exact this
  ·cases hc
 ·rename_i id;split at hc
  ·rename_i te xs hi B D;cases hc;rw[B]at p;rw[D]at f;simp only[UK]at p f;subst p f;obtain⟨Z,E,L⟩:=m.ob id _ hi;simp only[V]at hu;rw[hu.1]at E;cases E;obtain⟨_,_,cells,r1,r2⟩:=L;have M:=lD (F':=fun _ a v=>w.pZ a=some v) (ρ':=ρ) r1 r2 false (fun a v h=>h.2.2) (fun a v _ h=>World.fx h);simp only[V]at M;refine⟨_,?_,oy _ _⟩;have:=pk (P:=P) (w:=w) (fun a v j h=>World.jt h j) M.2;obtain⟨_,_,_,J,_⟩:=M.2;subst J;rw[run_convert_bytes_string w st I _ _ _ _ j (N _ B) C];exact this
  ·rename_i xs hi B D;cases hc;rw[B]at p;rw[D]at f;simp only[UK]at p f;subst p f;obtain⟨Z,E,L⟩:=m.ob id _ hi;simp only[V]at hu;rw[hu.1]at E;cases E;simp only[OR,V]at L;refine⟨_,?_,oy _ _⟩;have:=pk (P:=P) (w:=w) (fun a v j h=>World.jt h.2.2 j) L.2;obtain⟨_,_,_,J,_⟩:=L.2;subst J;rw[run_convert_bytes_string w st I _ _ _ _ j (N _ B) C];exact this
  ·rename_i te xs hi B D;cases hc;rw[B]at p;rw[D]at f;simp only[UK]at p f;subst p f;obtain⟨Z,E,L⟩:=m.ob id _ hi;simp only[V]at hu;rw[hu.1]at E;cases E;have M:=H8 (ρ':=ρ) L;simp only[V]at M;refine⟨_,?_,oy _ _⟩;have:=pk (P:=P) (w:=w) (fun a v _ h=>h) M.2;obtain⟨_,_,_,J,_⟩:=M.2;subst J;rw[run_convert_bytes_string w st I _ _ _ _ j (N _ B) C];exact this
  ·cases hc
 ·split at hc
  ·rename_i B D;cases hc;rw[B]at p;rw[D]at f;simp only[UK]at p f;subst p f;simp only[V]at hu;subst hu;refine⟨_,?_,oy _ _⟩;rw[run_convert_bytes_string w st I _ _ _ _ j (N _ B) C];rfl
  ·cases hc
 ·cases hc
def Good(P:Program)(o:Oper)(a:Act)(w:World)(post:Value→World→Prop):Prop :=
 ∀K Q,(∀v w',post v w'→K (a.put o.dst v) w')→o.wp P a w K Q
theorem Good.aG{P:Program}{o:Oper}{a:Act}{w w':World}{post:Value→World→Prop}{v:Value}
  (h:(execOp a.eval o).run P w = .ok (.value v) w') (j:post v w'):Good P o a w post:=fun K Q hk=>by
 unfold Oper.wp;rw[h];exact hk _ _ j
theorem Good.jD{P:Program}{o:Oper}{a:Act}{w w':World}{post:Value→World→Prop}
  (h:(execOp a.eval o).run P w = .ok .skip w') (j:post undef w'):Good P o a w post:=fun K Q hk=>by
 unfold Oper.wp;rw[h];exact hk _ _ j
theorem Good.sc{P:Program}{o:Oper}{a:Act}{w w':World}{post:Value→World→Prop}{f:FuncId}{args:QU}
  (h:(execOp a.eval o).run P w = .ok (.enter f args) w') (z:Calls P f args w' fun e j=>∃v,e = .returned v∧post v j):Good P o a w post:=fun K Q hk=>by
 unfold Oper.wp;rw[h];show Calls P f args w' _;exact z.mono fun e j ⟨v,B,C⟩=>by subst B;exact hk _ _ C
def Ki(P:Program)(o:Oper)(a:Act)(w:World)(x:Value)(post:World→Prop):Prop :=
 ∀K Q,(∀w',post w'→Q (.panic [{ v:=x,recovered:=false }]) a w')→o.wp P a w K Q
theorem Ki.sc{P:Program}{o:Oper}{a:Act}{w w':World}{x:Value}{post:World→Prop}{f:FuncId}{args:QU}
  (h:(execOp a.eval o).run P w = .ok (.enter f args) w') (p:Calls P f args w' fun e j=>e = .panicked [{ v:=x,recovered:=false }]∧post j):Ki P o a w x post:=fun K Q hk=>by
 unfold Oper.wp;rw[h];show Calls P f args w' _;exact p.mono fun e j ⟨q,z⟩=>by subst q;exact hk _ z
def aF{P:Program}(Bw:Nat→Prop)(w0:cw P)(ρ:Nat→QW)(φ:Nat→Nat→Prop)(h:Nat→Qz)(w:World)(new:Nat)(x:ag)(u:gZ)(v:Value)(w':World):Prop :=
 ∃z B,Mem Bw w0 z B (apply u h) w'∧(∀β a v,Fr (own φ h) Bw w β a v→Fr (own B (apply u h)) Bw w' β a v)∧(∀i u,ρ i=some u→z i=some u) ∧
  (∀i u,z i=some u→ρ i=some u∨∃j,j<8∧i=new+j)∧V (Fr (own B (apply u h)) Bw w') z x v
theorem aF.pure{P:Program}{Bw:Nat→Prop}{w0:cw P}{ρ:Nat→QW}{φ:Nat→Nat→Prop}{h:Nat→Qz}{w:World}{new:Nat}{x:ag}{v:Value}
  (m:Mem Bw w0 ρ φ h w) (j:V (Fr (own φ h) Bw w) ρ x v):aF Bw w0 ρ φ h w new x [] v w :=
 ⟨ρ,φ,m,fun _ _ _ h=>h,fun _ _ h=>h,fun _ _ h=> .inl h,j⟩
theorem add_add(a:Addr)(i j:Nat):(a.add i).add j=a.add (i+j):=by
 unfold Addr.add;by_cases hi:i=0 <;> by_cases e:j=0 <;> simp[hi,e,Nat.add_assoc]
theorem cr(g i j:Nat):(⟨g,i,none⟩:Addr).add j=⟨g,i+j,none⟩:=by
 unfold Addr.add;by_cases e:j=0 <;> simp[e]
section
variable{F:Bool→Addr→Value→Prop}{ρ:Nat→QW}
theorem VL.list:∀ {cs:List ag} {g:Nat→Value→Prop},VL F ρ cs g→∃us:QY,us.length=cs.length∧(∀k u,us[k]? = some u→g k u)∧VL F ρ cs (fun k u=>us[k]? = some u)
 | [],g,_=>⟨[],rfl,fun k u h=>by simp at h,by simp only[VL]⟩
 | c::cs,g,h=>by
  simp only[VL]at h;obtain⟨⟨v,e,j⟩,q⟩:=h;obtain⟨us,z,A,B⟩:=VL.list q;refine⟨v::us,by simp[z],fun k u hk=>?_,?_⟩
  ·cases k with
   | zero=>simp at hk;subst hk;exact e
   | succ k=>exact A k u (by simpa using hk)
  ·simp only[VL];exact⟨⟨v,by simp,j⟩,VL.mono (fun _ _ _ h=>h) (fun _ _ h=>h) (fun k u hk=>by simpa using hk) B⟩
theorem VL.take{n:Nat}{cs:List ag}{g:Nat→Value→Prop}(h:VL F ρ cs g):VL F ρ (cs.take n) g :=
 VL.mk fun k x hk=>by
  rw[List.getElem?_take]at hk;split at hk
  ·exact VL.get h hk
  ·cases hk
end
def ag.cell:ag→Bool
 | .lit u=>u.oneCell'
 | .agg _=>false
 | .tup _=>false
 | .lag _ _ _ _=>false
 | .unk=>false
 | _=>true
def ag.BT:ag→Bool
 | .lag _ _ _ cs=>cs.all ag.cell
 | x=>(cellsOf x).all ag.cell
theorem B0{x:ag}(h:x.BT=true):(cellsOf x).all ag.cell=true:=by
 unfold ag.BT at h;split at h
 ·simp only[cellsOf,List.all_append,Bool.and_eq_true];refine⟨?_,h⟩;rw[List.all_map];exact List.all_eq_true.2 fun _ _=>rfl
 ·exact h
theorem qV{F:Bool→Addr→Value→Prop}{ρ:Nat→QW}{x:ag}(q:x.cell=true){v:Value}(f:V F ρ x v):v.oneCell'=true:=by
 cases x with
 | p β T y =>
  simp only[V]at f;obtain⟨u,j⟩:=f;cases T <;> simp only[Ty.scalar,Bool.false_eq_true]at u
  ·simp only[ah]at j;subst j;rfl
  ·simp only[ah]at j;subst j;rfl
  ·simp only[ah]at j;subst j;rfl
  ·obtain⟨_,e,_⟩:=j;subst e;rfl
  ·obtain⟨_,_,_,e,_⟩:=j;subst e;rfl
  ·cases y with
   | none=>simp only[ah]at j;subst j;rfl
   | some z=>obtain⟨_,e,_⟩:=j;subst e;rfl
  ·obtain⟨_,e,_⟩:=j;subst e;rfl
 | nils=>simp only[V]at f;subst f;rfl
 | nilp=>simp only[V]at f;subst f;rfl
 | lit _=>simp only[V]at f;subst f;exact q
 | sl id=>simp only[V]at f;obtain⟨_,_,_,_,e⟩:=f;subst e;rfl
 | adr _ _ _ _=>simp only[V]at f;obtain⟨_,_,e⟩:=f;subst e;rfl
 | ada _ _ _ _=>simp only[V]at f;obtain⟨_,_,e,_⟩:=f;subst e;rfl
 | fad _ _ _=>simp only[V]at f;obtain⟨_,e,_⟩:=f;subst e;rfl
 | fn _ _=>simp only[V]at f;obtain⟨_,e,_⟩:=f;subst e;rfl
 | mp _=>simp only[V]at f;obtain⟨_,_,e⟩:=f;subst e;rfl
 | loc _ _ _=>simp only[V]at f;obtain⟨_,e,_⟩:=f;subst e;rfl
 | suf _ _ _=>simp only[V]at f;obtain⟨_,_,_,_,_,_,e⟩:=f;subst e;rfl
 | bfn _ _=>simp only[V]at f;obtain⟨_,e,_⟩:=f;subst e;rfl
 | lag _ _ _ _=>simp[ag.cell]at q
 | agg _=>simp[ag.cell]at q
 | tup _=>simp[ag.cell]at q
 | unk=>simp[ag.cell]at q
theorem fW{F:Bool→Addr→Value→Prop}{ρ:Nat→QW}{x:ag}(B:(cellsOf x).all ag.cell=true){v:Value}(D:V F ρ x v):
  VL F ρ (cellsOf x) (fun k u=>v.cells.toList[k]? = some u)∧v.cells.toList.length=(cellsOf x).length∧∀c∈v.cells.toList,c.oneCell'=true:=by
 by_cases f:∃q,x = .agg q
 ·obtain⟨q,rfl⟩:=f;simp only[V]at D;obtain⟨vs,rfl,M,hl⟩:=D;simp only[cellsOf]at B ⊢;refine⟨VL.mono (fun _ _ _ h=>h) (fun _ _ h=>h) (fun k u hk=>by simpa [Value.cells]using hk) hl,by simpa [Value.cells]using M,fun c hc=>?_⟩;obtain⟨k,hk,rfl⟩:=List.getElem_of_mem hc;have E:k<q.length:=by rw[←M];simpa [Value.cells]using hk
  obtain⟨u,I,O⟩:=VL.get hl (List.getElem?_eq_getElem E);have:u=(Value.agg vs).cells.toList[k]:=by
   have X:k<vs.size:=by omega
   rw[Array.getElem?_eq_getElem X]at I;cases I;simp[Value.cells]
  rw[←this];exact qV (List.all_eq_true.1 B _ (List.getElem_mem E)) O
 ·by_cases z:∃k n A q,x = .lag k n A q
  ·obtain⟨k,n,A,q,rfl⟩:=z;simp only[V]at D;obtain⟨vs,rfl,M,hl⟩:=D;simp only[cellsOf,List.all_append,Bool.and_eq_true]at B ⊢;have N:VL F ρ (A.1.map (fun i=>ag.p false (.int k) i)) (fun j u=>(A.1.map (Value.int k)++vs)[j]? = some u):=VL.mk fun j y J=>by
    rw[List.getElem?_map]at J;rcases Nat.lt_or_ge j A.1.length with e | e
    ·rw[List.getElem?_eq_getElem e]at J;cases J;exact⟨.int k A.1[j],by rw[List.getElem?_append_left (by simpa using e)];simp[e],by simp only[V,ah];exact⟨rfl,trivial⟩⟩
    ·rw[List.getElem?_eq_none e]at J;cases J
   have Y:VL F ρ (A.1.map (fun i=>ag.p false (.int k) i)++q) (fun j u=>(A.1.map (Value.int k)++vs)[j]? = some u):=VL.append N (VL.mono (fun _ _ _ h=>h) (fun _ _ h=>h) (fun j u e=>by
    rw[List.length_map,List.getElem?_append_right (by simp)];simpa using e) hl)
   refine⟨VL.mono (fun _ _ _ h=>h) (fun _ _ h=>h) (fun j u e=>by simpa [Value.cells]using e) Y,by simp[Value.cells,M],fun c hc=>?_⟩;simp only[Value.cells,List.mem_append,List.mem_map]at hc;rcases hc with⟨i,_,rfl⟩ | hc
   ·rfl
   ·obtain⟨j,e,rfl⟩:=List.getElem_of_mem hc;have L:j<q.length:=by omega
    obtain⟨u,I,O⟩:=VL.get hl (List.getElem?_eq_getElem L);rw[List.getElem?_eq_getElem e]at I;cases I;exact qV (List.all_eq_true.1 B.2 _ (List.getElem_mem L)) O
  have C:cellsOf x=[x]:=by cases x <;> first | rfl | exact(f ⟨_,rfl⟩).elim | exact(z ⟨_,_,_,_,rfl⟩).elim
  rw[C]at B ⊢;simp only[List.all_cons,List.all_nil,Bool.and_true]at B;have N:=qV B D;rw[fF N];simp only[VL];exact⟨⟨⟨v,rfl,D⟩,trivial⟩,rfl,fun c hc=>by simp at hc;subst hc;exact N⟩
section
variable{P:Program}{t:TypeId}{ti:TI}
theorem kP(ht:aN P t ti)(w:World):(isAgg t).run P w = .ok ti.k.agg w:=by
 obtain⟨d,f,e⟩:=ht.hu;unfold isAgg;rw[Sem.run_bind,run_underlying f];simp only[Result.andThen_ok];cases hk:ti.k <;> rw[hk]at e <;> simp only[UK]at e
 case other =>cases d <;> simp at e <;> rfl
 case st=>obtain⟨j,rfl,_⟩:=e;rfl
 all_goals (subst e;rfl)
theorem run_sizeOf(ht:aN P t ti)(w:World):(sizeOf t).run P w = .ok ti.size w:=by
 obtain⟨i,z,e,_,f,_⟩:=ht.hi;simp[sizeOf,typeInfo,e,f]
theorem dX(ht:aN P t ti)(w:World):∃z,(zeroValue t).run P w = .ok z w∧z.cells.toList.map j7=ti.z∧z.cells.size=ti.size∧∀c∈z.cells.toList,c.oneCell'=true:=by
 obtain⟨i,z,e,f,_,_,j,p,q⟩:=ht.hi;exact⟨z,by simp[zeroValue,typeInfo,e,f],j,p,q⟩
theorem aX(ht:aN P t ti){e:TypeId}(j:ti.k = .sl e):P.underlying t=some (.slice e):=by
 obtain⟨d,q,f⟩:=ht.hu;rw[j]at f;simp only[UK]at f;rw[q,f]
end
def gk(ti:TI)(cs:List ag)(off:Nat):Option ag :=
 if ti.k.agg then(if off+ti.size≤cs.length then some (.agg ((cs.drop off).take ti.size))else none)else cs[off]?
theorem iE{P:Program}{t:TypeId}{ti:TI}(ht:aN P t ti){F:Bool→Addr→Value→Prop}{ρ:Nat→QW}{w:World}{ad:Addr}{cs:List ag}
  (p:VL F ρ cs (fun k u=>w.cell? (ad.add k)=some u)) {off:Nat} {x:ag} (h:gk ti cs off=some x) :
  ∃v,(loadVar t (ad.add off)).run P w = .ok v w∧V F ρ x v:=by
 unfold gk at h;unfold loadVar;rw[Sem.run_bind,kP ht];simp only[Result.andThen_ok];split at h
 ·rename_i e;split at h
  ·rename_i B;cases h;have C:=VL.take (n:=ti.size) (VL.drop (n:=off) p);obtain⟨z,A,D,E⟩:=VL.list C;have q:z.length=ti.size:=by rw[A,List.length_take,List.length_drop];omega
   have f:=run_loadCells_list (P:=P) w (ad.add off) z (fun j u hu=>by rw[add_add];exact D j u hu);rw[q]at f;refine⟨.agg z.toArray,?_,?_⟩
   ·rw[if_pos e,Sem.run_bind,run_sizeOf ht];simp only[Result.andThen_ok,Sem.run_bind,f];rfl
   ·simp only[V];exact⟨_,rfl,by simp[A],VL.mono (fun _ _ _ h=>h) (fun _ _ h=>h) (fun k u hk=>by simpa using hk) E⟩
  ·cases h
 ·rename_i e;obtain⟨u,I,J⟩:=VL.get p h;refine⟨u,?_,J⟩;rw[if_neg (by simpa using e),run_load,I]
theorem gM{P:Program}{t:TypeId}{ti:TI}(ht:aN P t ti){w:World}{g p:Nat}{e:QU}{u:TypeId}(x:w.heap[g]? = some (.cells e u (0,0)))
  {v:Value} (j:v.cells.toList.length=ti.size) (f:p+ti.size≤e.size) (z:∀c∈v.cells.toList,c.oneCell'=true) :
  (storeVar t ⟨g,p,none⟩ v).run P w = .ok () (w.setRow g (e.toList.take p++v.cells.toList++e.toList.drop (p+ti.size)).toArray):=by
 unfold storeVar;rw[Sem.run_bind,run_sizeOf ht];simp only[Result.andThen_ok];have q:v.cells.size=ti.size:=by simpa using j
 have:=run_storeCells_at P g p u v.cells.toList 0 e w x (by rw[j];simpa using f) z;rw[Sem.run_ite,if_neg (by simpa using q),this];simp only[Nat.add_zero,j]
theorem ba(w:World)(g:Nat)(cs:QU):w.grownBy (w.setRow g cs) (some g) :=
 ⟨rfl,rfl,rfl,by simp[World.setRow],fun k _ hk=>setRow_other w g k cs (fun e=>hk (by rw[e]))⟩
theorem bm{h:Nat→Qz}{i:Nat}{x:Qz}:bF (fun j=>if some i=some j then none else h j) i x=bF h i x:=by
 funext j;simp only[bF];split
 ·rfl
 ·rename_i e;rw[if_neg (fun f=>e (Option.some.inj f).symm)]
theorem bp{h:Nat→Qz}{i:Nat}{x:Qz}:bF (fun j=>if(none:QJ)=some j then none else h j) i x=bF h i x:=by
 funext j;simp only[bF];split
 ·rfl
 ·simp
theorem rJ{h:Nat→Qz}{i j:Nat}{x:Qz}:bF (fun k=>if some i=some k then none else h k) j x=bF (bF h i none) j x:=by
 funext k;simp only[bF];split
 ·rfl
 ·by_cases e:i=k
  ·subst e;simp
  ·rw[if_neg (by simpa using e),if_neg (Ne.symm e)]
end Go.Tv
