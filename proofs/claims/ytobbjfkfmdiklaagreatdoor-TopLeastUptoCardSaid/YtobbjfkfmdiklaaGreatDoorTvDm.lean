import Derived.Test.YtobbjfkfmdiklaaGreatDoorTvC
import Derived.WalkLawsBesides
namespace Go.Tv
open Go Go.RowKit
abbrev Out:=af×gZ×Prop
abbrev XQ:=Option Out
def ev(s:Nat→af):Operand→af
 | .tmp t=>s t
 | .const v=>zC v
 | .global _=> .unk
 | .func f=> .fn f []
section
variable{F:Bool→Addr→Value→Prop}{ρ:Nat→QW}{n:NS}{a:Act}{s:Nat→af}
theorem aV(h:eP n F ρ s a)(x:Operand):V F ρ (ev s x) (a.eval x):=by
 cases x with
 | tmp t=>exact h.sl t
 | const v=>exact Cs v
 | global g=>simp only[ev,V]
 | func f=>simp only[ev,V,Act.eval];exact⟨#[],rfl,rfl,trivial⟩
theorem bV{β:Bool}{k:IntKind}{m:Int}{v:Value}(h:V F ρ (.p β (.int k) m) v):v = .int k m:=by
 simp only[V,ah]at h;exact h.2.symm
theorem n9{β b:Bool}{v:Value}(h:V F ρ (.p β .bool b) v):v = .bool b:=by
 simp only[V,ah]at h;exact h.2.symm
theorem pD{β:Bool}{l:QX}{v:Value}(h:V F ρ (.p β .str l) v):v = .string ⟨l.toArray⟩:=by
 simp only[V,ah]at h;exact h.2.symm
theorem yM{β:Bool}{x:QJ}{v:Value}(h:V F ρ (.p β .flt x) v):∃m,v = .float .f64 m∧eD m=x:=by
 simp only[V,ah]at h;obtain⟨_,m,h1,h2⟩:=h;exact⟨m,h1.symm,h2⟩
theorem y9(β:Bool)(m:Nat):V F ρ (.p β .flt (eD m)) (.float .f64 m):=by
 simp only[V,ah];exact⟨rfl,m,rfl,rfl⟩
theorem dy(β:Bool)(k:IntKind)(m:Int):V F ρ (.p β (.int k) m) (.int k m):=by simp[V,ah,Ty.scalar]
theorem jl(β b:Bool):V F ρ (.p β .bool b) (.bool b):=by simp[V,ah,Ty.scalar]
theorem pa(β:Bool)(l:QX):V F ρ (.p β .str l) (.string ⟨l.toArray⟩):=by simp[V,ah,Ty.scalar]
end
def bitsOf(op:BinOp)(k:IntKind)(x y:Int):Int :=
 let a:=BitVec.ofInt k.bits x
 let b:=BitVec.ofInt k.bits y
 match op with
 | .and=>k.wrap (a &&& b).toNat
 | .or=>k.wrap (a ||| b).toNat
 | .xor=>k.wrap (a ^^^ b).toNat
 | _=>k.wrap (a &&& ~~~b).toNat
def DO(op:BinOp)(k:IntKind)(x:Int)(f:IntKind)(y:Int):Option (af×Prop) :=
 match op with
 | .shl=>some (.p false (.int k) (k.wrap (x*2 ^ (min y.toNat k.bits))),0≤y)
 | .shr=>some (.p false (.int k) (x.fdiv (2 ^ (min y.toNat k.bits))),0≤y)
 | .add=>if k=f then some (.p false (.int k) (k.wrap (x+y)),True)else none
 | .sub=>if k=f then some (.p false (.int k) (k.wrap (x - y)),True)else none
 | .mul=>if k=f then some (.p false (.int k) (k.wrap (x*y)),True)else none
 | .quo=>if k=f then some (.p false (.int k) (k.wrap (x.tdiv y)),¬y=0)else none
 | .rem=>if k=f then some (.p false (.int k) (x.tmod y),¬y=0)else none
 | .and=>if k=f then some (.p false (.int k) (bitsOf .and k x y),True)else none
 | .or=>if k=f then some (.p false (.int k) (bitsOf .or k x y),True)else none
 | .xor=>if k=f then some (.p false (.int k) (bitsOf .xor k x y),True)else none
 | .andNot=>if k=f then some (.p false (.int k) (bitsOf .andNot k x y),True)else none
 | .eql=>if k=f then some (.p false .bool (x == y),True)else none
 | .neq=>if k=f then some (.p false .bool (x != y),True)else none
 | .lss=>if k=f then some (.p false .bool (decide (x<y)),True)else none
 | .leq=>if k=f then some (.p false .bool (decide (x≤y)),True)else none
 | .gtr=>if k=f then some (.p false .bool (decide (x > y)),True)else none
 | .geq=>if k=f then some (.p false .bool (decide (x≥y)),True)else none
theorem y7{P:Program}{w:World}{op:BinOp}{k f:IntKind}{x y:Int}{r:af}{c:Prop}(h:DO op k x f y=some (r,c))(hc:c)
  {t:TypeId} {F:Bool→Addr→Value→Prop} {ρ:Nat→QW} :
  ∃v,(binOp op t (.int k x) (.int f y)).run P w = .ok v w∧V F ρ r v:=by
 cases op <;> simp only[DO]at h
 case shl =>cases h;refine⟨_,?_,dy _ _ _⟩;simp only[binOp,Op.shift,if_neg (by omega:¬y<0)];rfl
 case shr =>cases h;refine⟨_,?_,dy _ _ _⟩;simp only[binOp,Op.shift,if_neg (by omega:¬y<0)];rfl
 all_goals
  split at h
  ·rename_i e;subst e;cases h
   first
    | exact⟨_,by simp only[binOp,ne_eq,not_true_eq_false,if_false,Op.intArith];rfl,dy _ _ _⟩
    | exact⟨_,by simp only[binOp,ne_eq,not_true_eq_false,if_false,Op.intDiv,if_neg hc];rfl,dy _ _ _⟩
    | exact⟨_,by simp only[binOp,ne_eq,not_true_eq_false,if_false];rfl,dy _ _ _⟩
    | exact⟨_,by simp only[binOp,ne_eq,not_true_eq_false,if_false,Op.intCmp];rfl,jl _ _⟩
  ·cases h
def IA(a b:QX):Bool:=Op.bytesLess a b
def bin(f:TK)(op:BinOp):af→af→Option (af×Prop)
 | .p _ (.int k) x,.p _ (.int j) y=>DO op k x j y
 | .p _ .bool x,.p _ .bool y=>match f,op with
  | .bool,.eql=>some (.p false .bool (x == y),True)
  | .bool,.neq=>some (.p false .bool (!(x == y)),True)
  | _,_=>none
 | .p _ .str x,.p _ .str y=>match op with
  | .add=>some (.p false .str (x++y),x.length+y.length≤9223372036854775807)
  | .eql=>some (.p false .bool (x == y),True)
  | .neq=>some (.p false .bool (!(x == y)),True)
  | .lss=>some (.p false .bool (IA x y),True)
  | _=>none
 | .p _ .flt x,.p _ .flt y=>match op with
  | .eql=>some (.p false .bool (Lf x y),True)
  | .neq=>some (.p false .bool (!(Lf x y)),True)
  | .lss=>some (.p false .bool (KQ x y),True)
  | .leq=>some (.p false .bool (Nf x y),True)
  | .gtr=>some (.p false .bool (Md x y),True)
  | .geq=>some (.p false .bool (No x y),True)
  | _=>none
 | _,_=>none
theorem bJ{P:Program}{w:World}{op:BinOp}{t:TypeId}{x y:Operand}{a b:Value}(ha:∀f,a ≠ .agg f)(hn:a ≠ .nilIface):
  (eqGuard op t x y a b).run P w = .ok () w:=by
 unfold eqGuard;rw[Sem.run_ite];cases a <;> first
  | exact(hn rfl).elim
  | exact(ha _ rfl).elim
  | (split <;> rfl)
theorem toList_mk(l:QX):(⟨l.toArray⟩:ByteArray).toList=l:=by
 rw[ByteArray.toList_eq]
theorem Fh{P:Program}{w:World}{op:BinOp}{t:TypeId}{ti:TI}(ht:aO P t ti){x y r:af}{c:Prop}(h:bin ti.k op x y=some (r,c))(hc:c)
  {F:Bool→Addr→Value→Prop} {ρ:Nat→QW} {u v:Value} (hu:V F ρ x u) (f:V F ρ y v) (B C:Operand) :
  ∃z,(do eqGuard op t B C u v;binOp op t u v:Sem Value).run P w = .ok z w∧V F ρ r z:=by
 unfold bin at h;split at h
 ·rw[bV hu,bV f];obtain⟨z,h1,h2⟩:=y7 (P:=P) (w:=w) h hc (t:=t) (F:=F) (ρ:=ρ);exact⟨z,by rw[Sem.run_bind,bJ (by intro j e;cases e) (by intro e;cases e)];exact h1,h2⟩
 ·rw[n9 hu,n9 f];obtain⟨d,hd,hk⟩:=ht.hu;split at h
  ·rename_i e;rw[e]at hk;simp only[UK]at hk;subst hk;cases h;exact⟨_,by rw[Sem.run_bind,bJ (by intro j e;cases e) (by intro e;cases e)];exact run_eql_bool w t _ _ hd,jl _ _⟩
  ·rename_i e;rw[e]at hk;simp only[UK]at hk;subst hk;cases h;exact⟨_,by rw[Sem.run_bind,bJ (by intro j e;cases e) (by intro e;cases e)];exact run_neq_bool w t _ _ hd,jl _ _⟩
  ·cases h
 ·rw[pD hu,pD f];rename_i p _ q;suffices D:∃z,(binOp op t (.string ⟨p.toArray⟩) (.string ⟨q.toArray⟩)).run P w = .ok z w∧V F ρ r z by obtain⟨z,h1,h2⟩:=D;exact⟨z,by rw[Sem.run_bind,bJ (by intro j e;cases e) (by intro e;cases e)];exact h1,h2⟩
  split at h <;> cases h
  ·refine⟨_,?_,pa _ _⟩;have h1:¬(((p.length+q.length:Nat):Int) > 9223372036854775807):=by omega
   have h2:((⟨p.toArray⟩:ByteArray)++⟨q.toArray⟩)=⟨(p++q).toArray⟩:=by apply ByteArray.ext;simp[ByteArray.data_append]
   simp only[binOp,Op.stringOp,h2];have E:IntKind.i64.max=9223372036854775807:=rfl;rw[Sem.run_ite,E,if_neg (by simpa [ByteArray.size]using h1)];rfl
  ·exact⟨_,by simp only[binOp,Op.stringOp,toList_mk];rfl,jl _ _⟩
  ·exact⟨_,by simp only[binOp,Op.stringOp,toList_mk];rfl,jl _ _⟩
  ·exact⟨_,by simp only[binOp,Op.stringOp,toList_mk];rfl,jl _ _⟩
 ·obtain⟨a,rfl,ha⟩:=yM hu;obtain⟨b,rfl,hb⟩:=yM f;subst ha hb;have I:∀z,(binOp op t (.float .f64 a) (.float .f64 b)).run P w = .ok z w→(do eqGuard op t B C (.float .f64 a) (.float .f64 b);binOp op t (.float .f64 a) (.float .f64 b):Sem Value).run P w = .ok z w:=fun z hz=>by rw[Sem.run_bind,bJ (by intro j e;cases e) (by intro e;cases e)];exact hz
  split at h <;> cases h
  all_goals
   refine⟨_,I _ (by simp only[binOp,ne_eq,not_true_eq_false,if_false,Op.floatCmp];rfl),?_⟩;simp only[Lf,KQ,Nf,Md,No,DU];exact jl _ _
 ·cases h
def un(op:UnOp):af→Option af
 | .p _ .bool x=>match op with
  | .not=>some (.p false .bool (!x))
  | _=>none
 | .p _ (.int k) x=>match op with
  | .neg=>some (.p false (.int k) (k.wrap (0 - x)))
  | _=>none
 | _=>none
theorem GB{P:Program}{w:World}{op:UnOp}{x r:af}(h:un op x=some r){F:Bool→Addr→Value→Prop}{ρ:Nat→QW}{u:Value}(hu:V F ρ x u):
  ∃z,(Op.unary op u).run P w = .ok z w∧V F ρ r z:=by
 unfold un at h;split at h
 ·rw[n9 hu];split at h
  ·cases h;exact⟨_,rfl,jl _ _⟩
  ·cases h
 ·rw[bV hu];split at h
  ·cases h;exact⟨_,rfl,dy _ _ _⟩
  ·cases h
 ·cases h
def bytesOf(l:QK):QX:=l.map fun n=>UInt8.ofNat n.toNat
def bZ(l:QX):QK:=l.map fun b=>(b.toNat:Int)
def conv(f dst:TK)(h:Nat→Qz):af→Option af
 | .p _ (.int _) x=>match dst with
  | .int k=>some (.p false (.int k) (k.wrap x))
  | .flt=>some (.p false .flt (ofInt x))
  | _=>none
 | .p _ .flt x=>match dst with
  | .flt=>some (.p false .flt x)
  | _=>none
 | .p _ .str x=>match dst with
  | .str=>some (.p false .str x)
  | _=>none
 | .p _ (.slice (.int .u8)) x=>match f,dst with
  | .sl _,.str=>some (.p false .str (bytesOf x))
  | _,_=>none
 | .sl id=>match h id,f,dst with
  | some (.arr _ (.int .u8) j),.sl _,.str=>some (.p false .str (bytesOf j))
  | some (.fz (.int .u8) j),.sl _,.str=>some (.p false .str (bytesOf j))
  | some (.bytes _ j),.sl _,.str=>some (.p false .str (bytesOf j))
  | _,_,_=>none
 | .nils=>match f,dst with
  | .sl _,.str=>some (.p false .str [])
  | _,_=>none
 | _=>none
theorem foldl_push(f:QK):∀(r:ByteArray),f.foldl (fun r n=>r.push (UInt8.ofNat n.toNat)) r=⟨(r.data.toList++bytesOf f).toArray⟩:=by
 induction f with
 | nil=>intro r;simp[bytesOf]
 | cons x p j =>
  intro r;rw[List.foldl_cons,j];simp[bytesOf,ByteArray.push]
theorem pM{P:Program}{w:World}{G:Addr→Value→Prop}(B:∀a v,v.oneCell'=true→G a v→w.cell? a=some v){p:QK}{v:Value}
  (C:ah G (.slice (.int .u8)) p (fun _ u=>u=v)):(Conv.bytesToString v).run P w = .ok (.string ⟨(bytesOf p).toArray⟩) w:=by
 obtain⟨D,len,cap,e,⟨hl,_⟩,h⟩:=C;subst e;cases z:p with
 | nil =>
  cases D with
  | none=>rfl
  | some a =>
   have:len=0:=by rw[hl,z];rfl
   subst this;exact run_bytesToString w a 0 cap [] (by rfl)
 | cons y E =>
  obtain⟨b,hb,_⟩:=h 0 (by rw[z];simp);subst hb;have q:len=(p.map (Value.int .u8)).length:=by rw[hl];simp
  have f:=run_loadCells_list (P:=P) w b (p.map (Value.int .u8)) (fun j u hu=>by
   rw[List.getElem?_map]at hu;rcases Nat.lt_or_ge j p.length with x | x
   ·obtain⟨I,A,hc⟩:=h j x;cases A;simp only[ah,Ty.size,Nat.mul_one,Nat.add_zero]at hc;rw[List.getElem?_eq_getElem x]at hu;cases hu;exact B _ _ rfl hc
   ·rw[List.getElem?_eq_none x]at hu;cases hu)
  rw[←q]at f;have:=run_bytesToString (P:=P) w b len cap p f;rw[foldl_push]at this;rw[this,z];rfl
theorem CW{P:Program}{Bw:Nat→Prop}{w0:cr P}{w:World}{ρ:Nat→QW}{φ:Nat→Nat→Prop}{h:Nat→Qz}(m:Mem Bw w0 ρ φ h w){st D:TypeId}{N O:TI}
  (Y:aO P st N) (hd:aO P D O) (L:∀e,N.k = .sl e→P.underlying e=some (.int .u8)) {x r:af} (hc:conv N.k O.k h x=some r) {u:Value}
  (hu:V (Fr (own φ h) Bw w) ρ x u):∃z,(convert st D u).run P w = .ok z w∧V (Fr (own φ h) Bw w) ρ r z:=by
 obtain⟨M,h1,h2⟩:=Y.hu;obtain⟨dd,p,f⟩:=hd.hu;unfold conv at hc
 split at hc
 ·rw[bV hu];split at hc
  ·rename_i k e;cases hc;rw[e]at f;simp only[UK]at f;subst f;refine⟨_,?_,dy _ _ _⟩;simp only[convert,Sem.run_bind,run_underlying h1,run_underlying p,Result.andThen_ok];cases M <;> rfl
  ·rename_i e;cases hc;rw[e]at f;simp only[UK]at f;subst f;refine⟨_,?_,y9 _ _⟩;simp only[convert,Sem.run_bind,run_underlying h1,run_underlying p,Result.andThen_ok];cases M <;> rfl
  ·cases hc
 ·obtain⟨a,rfl,ha⟩:=yM hu;split at hc
  ·rename_i e;cases hc;rw[e]at f;simp only[UK]at f;subst f;subst ha;refine⟨_,?_,y9 _ _⟩;simp only[convert,Sem.run_bind,run_underlying h1,run_underlying p,Result.andThen_ok];cases M <;> rfl
  ·cases hc
 ·rw[pD hu];split at hc
  ·rename_i e;cases hc;rw[e]at f;simp only[UK]at f;subst f;refine⟨_,?_,pa _ _⟩;simp only[convert,Sem.run_bind,run_underlying h1,run_underlying p,Result.andThen_ok];cases M <;> rfl
  ·cases hc
 ·split at hc
  ·rename_i xs _ _ e q j B;cases hc;rw[j]at h2;rw[B]at f;simp only[UK]at h2 f;subst h2 f;simp only[V]at hu;refine⟨_,?_,pa _ _⟩;have:=pM (P:=P) (w:=w) (fun a v h1 h=>World.jF h.2.2 h1) hu.2;obtain⟨_,_,_,E,_⟩:=hu.2;subst E;rw[run_convert_bytes_string w st D _ _ _ _ h1 (L _ j) p];exact this
  ·cases hc
 ·rename_i id;split at hc
  ·rename_i Z xs hi j B;cases hc;rw[j]at h2;rw[B]at f;simp only[UK]at h2 f;subst h2 f;obtain⟨X,C,I⟩:=m.ob id _ hi;simp only[V]at hu;rw[hu.1]at C;cases C;obtain⟨_,_,cells,r1,r2⟩:=I;have J:=lW (F':=fun _ a v=>w.qw a=some v) (ρ':=ρ) r1 r2 false (fun a v h=>h.2.2) (fun a v _ h=>World.fk h);simp only[V]at J;refine⟨_,?_,pa _ _⟩;have:=pM (P:=P) (w:=w) (fun a v h1 h=>World.jF h h1) J.2;obtain⟨_,_,_,E,_⟩:=J.2;subst E;rw[run_convert_bytes_string w st D _ _ _ _ h1 (L _ j) p];exact this
  ·rename_i xs hi j B;cases hc;rw[j]at h2;rw[B]at f;simp only[UK]at h2 f;subst h2 f;obtain⟨X,C,I⟩:=m.ob id _ hi;simp only[V]at hu;rw[hu.1]at C;cases C;simp only[OR,V]at I;refine⟨_,?_,pa _ _⟩;have:=pM (P:=P) (w:=w) (fun a v h1 h=>World.jF h.2.2 h1) I.2;obtain⟨_,_,_,E,_⟩:=I.2;subst E;rw[run_convert_bytes_string w st D _ _ _ _ h1 (L _ j) p];exact this
  ·rename_i Z xs hi j B;cases hc;rw[j]at h2;rw[B]at f;simp only[UK]at h2 f;subst h2 f;obtain⟨X,C,I⟩:=m.ob id _ hi;simp only[V]at hu;rw[hu.1]at C;cases C;have J:=Jw (ρ':=ρ) I;simp only[V]at J;refine⟨_,?_,pa _ _⟩;have:=pM (P:=P) (w:=w) (fun a v _ h=>h) J.2;obtain⟨_,_,_,E,_⟩:=J.2;subst E;rw[run_convert_bytes_string w st D _ _ _ _ h1 (L _ j) p];exact this
  ·cases hc
 ·split at hc
  ·rename_i j B;cases hc;rw[j]at h2;rw[B]at f;simp only[UK]at h2 f;subst h2 f;simp only[V]at hu;subst hu;refine⟨_,?_,pa _ _⟩;rw[run_convert_bytes_string w st D _ _ _ _ h1 (L _ j) p];rfl
  ·cases hc
 ·cases hc
def Good(P:Program)(o:Oper)(a:Act)(w:World)(post:Value→World→Prop):Prop :=
 ∀K Q,(∀v w',post v w'→K (a.put o.dst v) w')→o.wp P a w K Q
theorem Good.aG{P:Program}{o:Oper}{a:Act}{w w':World}{post:Value→World→Prop}{v:Value}
  (h:(execOp a.eval o).run P w = .ok (.value v) w') (hp:post v w'):Good P o a w post:=fun K Q hk=>by
 unfold Oper.wp;rw[h];exact hk _ _ hp
theorem Good.jM{P:Program}{o:Oper}{a:Act}{w w':World}{post:Value→World→Prop}
  (h:(execOp a.eval o).run P w = .ok .skip w') (hp:post undef w'):Good P o a w post:=fun K Q hk=>by
 unfold Oper.wp;rw[h];exact hk _ _ hp
theorem Good.sB{P:Program}{o:Oper}{a:Act}{w w':World}{post:Value→World→Prop}{f:FuncId}{args:QU}
  (h:(execOp a.eval o).run P w = .ok (.enter f args) w') (hp:Calls P f args w' fun e j=>∃v,e = .returned v∧post v j):Good P o a w post:=fun K Q hk=>by
 unfold Oper.wp;rw[h];show Calls P f args w' _;exact hp.mono fun e j ⟨v,z,B⟩=>by subst z;exact hk _ _ B
def Lr(P:Program)(o:Oper)(a:Act)(w:World)(x:Value)(post:World→Prop):Prop :=
 ∀K Q,(∀w',post w'→Q (.panic [{ v:=x,recovered:=false }]) a w')→o.wp P a w K Q
theorem Lr.sB{P:Program}{o:Oper}{a:Act}{w w':World}{x:Value}{post:World→Prop}{f:FuncId}{args:QU}
  (h:(execOp a.eval o).run P w = .ok (.enter f args) w') (hp:Calls P f args w' fun e j=>e = .panicked [{ v:=x,recovered:=false }]∧post j):Lr P o a w x post:=fun K Q hk=>by
 unfold Oper.wp;rw[h];show Calls P f args w' _;exact hp.mono fun e j ⟨p,q⟩=>by subst p;exact hk _ q
def aF{P:Program}(Bw:Nat→Prop)(w0:cr P)(ρ:Nat→QW)(φ:Nat→Nat→Prop)(h:Nat→Qz)(w:World)(new:Nat)(x:af)(u:gZ)(v:Value)(w':World):Prop :=
 ∃z B,Mem Bw w0 z B (apply u h) w'∧(∀β a v,Fr (own φ h) Bw w β a v→Fr (own B (apply u h)) Bw w' β a v)∧(∀i u,ρ i=some u→z i=some u) ∧
  (∀i u,z i=some u→ρ i=some u∨∃j,j<8∧i=new+j)∧V (Fr (own B (apply u h)) Bw w') z x v
theorem aF.pure{P:Program}{Bw:Nat→Prop}{w0:cr P}{ρ:Nat→QW}{φ:Nat→Nat→Prop}{h:Nat→Qz}{w:World}{new:Nat}{x:af}{v:Value}
  (m:Mem Bw w0 ρ φ h w) (j:V (Fr (own φ h) Bw w) ρ x v):aF Bw w0 ρ φ h w new x [] v w :=
 ⟨ρ,φ,m,fun _ _ _ h=>h,fun _ _ h=>h,fun _ _ h=> .inl h,j⟩
theorem add_add(a:Addr)(i j:Nat):(a.add i).add j=a.add (i+j):=by
 unfold Addr.add;by_cases hi:i=0 <;> by_cases f:j=0 <;> simp[hi,f,Nat.add_assoc]
theorem cj(g i j:Nat):(⟨g,i,none⟩:Addr).add j=⟨g,i+j,none⟩:=by
 unfold Addr.add;by_cases f:j=0 <;> simp[f]
section
variable{F:Bool→Addr→Value→Prop}{ρ:Nat→QW}
theorem VL.list:∀ {cs:List af} {g:Nat→Value→Prop},VL F ρ cs g→∃us:QY,us.length=cs.length∧(∀k u,us[k]? = some u→g k u)∧VL F ρ cs (fun k u=>us[k]? = some u)
 | [],g,_=>⟨[],rfl,fun k u h=>by simp at h,by simp only[VL]⟩
 | c::cs,g,h=>by
  simp only[VL]at h;obtain⟨⟨v,j,q⟩,z⟩:=h;obtain⟨us,A,B,C⟩:=VL.list z;refine⟨v::us,by simp[A],fun k u hk=>?_,?_⟩
  ·cases k with
   | zero=>simp at hk;subst hk;exact j
   | succ k=>exact B k u (by simpa using hk)
  ·simp only[VL];exact⟨⟨v,by simp,q⟩,VL.mono (fun _ _ _ h=>h) (fun _ _ h=>h) (fun k u hk=>by simpa using hk) C⟩
theorem VL.take{n:Nat}{cs:List af}{g:Nat→Value→Prop}(h:VL F ρ cs g):VL F ρ (cs.take n) g :=
 VL.mk fun k x hk=>by
  rw[List.getElem?_take]at hk;split at hk
  ·exact VL.get h hk
  ·cases hk
end
def af.cell:af→Bool
 | .lit u=>u.oneCell'
 | .agg _=>false
 | .tup _=>false
 | .lag _ _ _ _=>false
 | .unk=>false
 | _=>true
def af.Dr:af→Bool
 | .lag _ _ _ cs=>cs.all af.cell
 | x=>(cellsOf x).all af.cell
theorem DI{x:af}(h:x.Dr=true):(cellsOf x).all af.cell=true:=by
 unfold af.Dr at h;split at h
 ·simp only[cellsOf,List.all_append,Bool.and_eq_true];refine⟨?_,h⟩;rw[List.all_map];exact List.all_eq_true.2 fun _ _=>rfl
 ·exact h
theorem sJ{F:Bool→Addr→Value→Prop}{ρ:Nat→QW}{x:af}(j:x.cell=true){v:Value}(f:V F ρ x v):v.oneCell'=true:=by
 cases x with
 | p β T y =>
  simp only[V]at f;obtain⟨h1,h2⟩:=f;cases T <;> simp only[Ty.scalar,Bool.false_eq_true]at h1
  ·simp only[ah]at h2;subst h2;rfl
  ·simp only[ah]at h2;subst h2;rfl
  ·simp only[ah]at h2;subst h2;rfl
  ·obtain⟨_,e,_⟩:=h2;subst e;rfl
  ·obtain⟨_,_,_,e,_⟩:=h2;subst e;rfl
  ·cases y with
   | none=>simp only[ah]at h2;subst h2;rfl
   | some z=>obtain⟨_,e,_⟩:=h2;subst e;rfl
  ·obtain⟨_,e,_⟩:=h2;subst e;rfl
 | nils=>simp only[V]at f;subst f;rfl
 | nilp=>simp only[V]at f;subst f;rfl
 | lit _=>simp only[V]at f;subst f;exact j
 | sl id=>simp only[V]at f;obtain⟨_,_,_,_,e⟩:=f;subst e;rfl
 | adr _ _ _ _=>simp only[V]at f;obtain⟨_,_,e⟩:=f;subst e;rfl
 | ada _ _ _ _=>simp only[V]at f;obtain⟨_,_,e,_⟩:=f;subst e;rfl
 | fad _ _ _=>simp only[V]at f;obtain⟨_,e,_⟩:=f;subst e;rfl
 | fn _ _=>simp only[V]at f;obtain⟨_,e,_⟩:=f;subst e;rfl
 | mp _=>simp only[V]at f;obtain⟨_,_,e⟩:=f;subst e;rfl
 | loc _ _ _=>simp only[V]at f;obtain⟨_,e,_⟩:=f;subst e;rfl
 | suf _ _ _=>simp only[V]at f;obtain⟨_,_,_,_,_,_,e⟩:=f;subst e;rfl
 | bfn _ _=>simp only[V]at f;obtain⟨_,e,_⟩:=f;subst e;rfl
 | lag _ _ _ _=>simp[af.cell]at j
 | agg _=>simp[af.cell]at j
 | tup _=>simp[af.cell]at j
 | unk=>simp[af.cell]at j
theorem fV{F:Bool→Addr→Value→Prop}{ρ:Nat→QW}{x:af}(C:(cellsOf x).all af.cell=true){v:Value}(E:V F ρ x v):
  VL F ρ (cellsOf x) (fun k u=>v.cells.toList[k]? = some u)∧v.cells.toList.length=(cellsOf x).length∧∀c∈v.cells.toList,c.oneCell'=true:=by
 by_cases q:∃z,x = .agg z
 ·obtain⟨z,rfl⟩:=q;simp only[V]at E;obtain⟨vs,rfl,N,hl⟩:=E;simp only[cellsOf]at C ⊢;refine⟨VL.mono (fun _ _ _ h=>h) (fun _ _ h=>h) (fun k u hk=>by simpa [Value.cells]using hk) hl,by simpa [Value.cells]using N,fun c hc=>?_⟩;obtain⟨k,hk,rfl⟩:=List.getElem_of_mem hc;have I:k<z.length:=by rw[←N];simpa [Value.cells]using hk
  obtain⟨u,J,O⟩:=VL.get hl (List.getElem?_eq_getElem I);have:u=(Value.agg vs).cells.toList[k]:=by
   have X:k<vs.size:=by omega
   rw[Array.getElem?_eq_getElem X]at J;cases J;simp[Value.cells]
  rw[←this];exact sJ (List.all_eq_true.1 C _ (List.getElem_mem I)) O
 ·by_cases A:∃k n B z,x = .lag k n B z
  ·obtain⟨k,n,B,z,rfl⟩:=A;simp only[V]at E;obtain⟨vs,rfl,N,hl⟩:=E;simp only[cellsOf,List.all_append,Bool.and_eq_true]at C ⊢;have h1:VL F ρ (B.1.map (fun i=>af.p false (.int k) i)) (fun j u=>(B.1.map (Value.int k)++vs)[j]? = some u):=VL.mk fun j y L=>by
    rw[List.getElem?_map]at L;rcases Nat.lt_or_ge j B.1.length with f | f
    ·rw[List.getElem?_eq_getElem f]at L;cases L;exact⟨.int k B.1[j],by rw[List.getElem?_append_left (by simpa using f)];simp[f],by simp only[V,ah];exact⟨rfl,trivial⟩⟩
    ·rw[List.getElem?_eq_none f]at L;cases L
   have h2:VL F ρ (B.1.map (fun i=>af.p false (.int k) i)++z) (fun j u=>(B.1.map (Value.int k)++vs)[j]? = some u):=VL.append h1 (VL.mono (fun _ _ _ h=>h) (fun _ _ h=>h) (fun j u f=>by
    rw[List.length_map,List.getElem?_append_right (by simp)];simpa using f) hl)
   refine⟨VL.mono (fun _ _ _ h=>h) (fun _ _ h=>h) (fun j u f=>by simpa [Value.cells]using f) h2,by simp[Value.cells,N],fun c hc=>?_⟩;simp only[Value.cells,List.mem_append,List.mem_map]at hc;rcases hc with⟨i,_,rfl⟩ | hc
   ·rfl
   ·obtain⟨j,f,rfl⟩:=List.getElem_of_mem hc;have M:j<z.length:=by omega
    obtain⟨u,J,O⟩:=VL.get hl (List.getElem?_eq_getElem M);rw[List.getElem?_eq_getElem f]at J;cases J;exact sJ (List.all_eq_true.1 C.2 _ (List.getElem_mem M)) O
  have D:cellsOf x=[x]:=by cases x <;> first | rfl | exact(q ⟨_,rfl⟩).elim | exact(A ⟨_,_,_,_,rfl⟩).elim
  rw[D]at C ⊢;simp only[List.all_cons,List.all_nil,Bool.and_true]at C;have h1:=sJ C E;rw[fM h1];simp only[VL];exact⟨⟨⟨v,rfl,E⟩,trivial⟩,rfl,fun c hc=>by simp at hc;subst hc;exact h1⟩
section
variable{P:Program}{t:TypeId}{ti:TI}
theorem lj(ht:aO P t ti)(w:World):(isAgg t).run P w = .ok ti.k.agg w:=by
 obtain⟨d,h1,h2⟩:=ht.hu;unfold isAgg;rw[Sem.run_bind,run_underlying h1];simp only[Result.andThen_ok];cases hk:ti.k <;> rw[hk]at h2 <;> simp only[UK]at h2
 case other =>cases d <;> simp at h2 <;> rfl
 case st=>obtain⟨f,rfl,_⟩:=h2;rfl
 all_goals (subst h2;rfl)
theorem run_sizeOf(ht:aO P t ti)(w:World):(sizeOf t).run P w = .ok ti.size w:=by
 obtain⟨i,z,h1,_,f,_⟩:=ht.hi;simp[sizeOf,typeInfo,h1,f]
theorem dP(ht:aO P t ti)(w:World):∃z,(zeroValue t).run P w = .ok z w∧z.cells.toList.map kf=ti.z∧z.cells.size=ti.size∧∀c∈z.cells.toList,c.oneCell'=true:=by
 obtain⟨i,z,h1,h2,_,_,f,j,p⟩:=ht.hi;exact⟨z,by simp[zeroValue,typeInfo,h1,h2],f,j,p⟩
theorem aW(ht:aO P t ti){e:TypeId}(f:ti.k = .sl e):P.underlying t=some (.slice e):=by
 obtain⟨d,h1,h2⟩:=ht.hu;rw[f]at h2;simp only[UK]at h2;rw[h1,h2]
end
def gn(ti:TI)(cs:List af)(off:Nat):Option af :=
 if ti.k.agg then(if off+ti.size≤cs.length then some (.agg ((cs.drop off).take ti.size))else none)else cs[off]?
theorem iO{P:Program}{t:TypeId}{ti:TI}(ht:aO P t ti){F:Bool→Addr→Value→Prop}{ρ:Nat→QW}{w:World}{ad:Addr}{cs:List af}
  (q:VL F ρ cs (fun k u=>w.cell? (ad.add k)=some u)) {off:Nat} {x:af} (h:gn ti cs off=some x) :
  ∃v,(loadVar t (ad.add off)).run P w = .ok v w∧V F ρ x v:=by
 unfold gn at h;unfold loadVar;rw[Sem.run_bind,lj ht];simp only[Result.andThen_ok];split at h
 ·rename_i f;split at h
  ·rename_i C;cases h;have h1:=VL.take (n:=ti.size) (VL.drop (n:=off) q);obtain⟨A,B,D,E⟩:=VL.list h1;have z:A.length=ti.size:=by rw[B,List.length_take,List.length_drop];omega
   have p:=run_loadCells_list (P:=P) w (ad.add off) A (fun j u hu=>by rw[add_add];exact D j u hu);rw[z]at p;refine⟨.agg A.toArray,?_,?_⟩
   ·rw[if_pos f,Sem.run_bind,run_sizeOf ht];simp only[Result.andThen_ok,Sem.run_bind,p];rfl
   ·simp only[V];exact⟨_,rfl,by simp[B],VL.mono (fun _ _ _ h=>h) (fun _ _ h=>h) (fun k u hk=>by simpa using hk) E⟩
  ·cases h
 ·rename_i f;obtain⟨u,I,J⟩:=VL.get q h;refine⟨u,?_,J⟩;rw[if_neg (by simpa using f),run_load,I]
theorem gK{P:Program}{t:TypeId}{ti:TI}(ht:aO P t ti){w:World}{g p:Nat}{f:QU}{x:TypeId}(z:w.heap[g]? = some (.cells f x (0,0)))
  {v:Value} (q:v.cells.toList.length=ti.size) (j:p+ti.size≤f.size) (h1:∀c∈v.cells.toList,c.oneCell'=true) :
  (storeVar t ⟨g,p,none⟩ v).run P w = .ok () (w.setRow g (f.toList.take p++v.cells.toList++f.toList.drop (p+ti.size)).toArray):=by
 unfold storeVar;rw[Sem.run_bind,run_sizeOf ht];simp only[Result.andThen_ok];have u:v.cells.size=ti.size:=by simpa using q
 have:=run_storeCells_at P g p x v.cells.toList 0 f w z (by rw[q];simpa using j) h1;rw[Sem.run_ite,if_neg (by simpa using u),this];simp only[Nat.add_zero,q]
theorem ba(w:World)(g:Nat)(cs:QU):w.grownBy (w.setRow g cs) (some g) :=
 ⟨rfl,rfl,rfl,by simp[World.setRow],fun k _ hk=>setRow_other w g k cs (fun e=>hk (by rw[e]))⟩
theorem bm{h:Nat→Qz}{i:Nat}{x:Qz}:bG (fun j=>if some i=some j then none else h j) i x=bG h i x:=by
 funext j;simp only[bG];split
 ·rfl
 ·rename_i e;rw[if_neg (fun f=>e (Option.some.inj f).symm)]
theorem bn{h:Nat→Qz}{i:Nat}{x:Qz}:bG (fun j=>if(none:QJ)=some j then none else h j) i x=bG h i x:=by
 funext j;simp only[bG];split
 ·rfl
 ·simp
theorem rD{h:Nat→Qz}{i j:Nat}{x:Qz}:bG (fun k=>if some i=some k then none else h k) j x=bG (bG h i none) j x:=by
 funext k;simp only[bG];split
 ·rfl
 ·by_cases e:i=k
  ·subst e;simp
  ·rw[if_neg (by simpa using e),if_neg (Ne.symm e)]
end Go.Tv
