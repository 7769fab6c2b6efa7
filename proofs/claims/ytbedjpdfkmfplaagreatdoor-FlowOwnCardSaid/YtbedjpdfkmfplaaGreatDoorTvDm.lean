/- Operations on values: what they come to. -/
import Derived.Test.YtbedjpdfkmfplaaGreatDoorTvC
import Derived.WalkLawsBesides
namespace Go.Tv
open Go Go.RowKit
abbrev iL:=AVal×jJ×Prop
def ev(s:Nat→AVal):Operand→AVal
 | .tmp t=>s t
 | .const v=>aBP v
 | .global _=> .unk
 | .func f=> .fn f []
section
variable{F:Bool→Addr→Value→Prop}{ρ:Nat→Option Value}{n:NS}{a:Act}{s:Nat→AVal}
theorem bD(h:Slots n F ρ s a)(x:Operand):V F ρ (ev s x) (a.eval x):=by
 cases x with
 | tmp t=>exact h.sl t
 | const v=>exact aCy v
 | global g=>simp only[ev,V]
 | func f=>simp only[ev,V,Act.eval];exact⟨#[],rfl,rfl,trivial⟩
theorem cN{β:Bool}{k:IntKind}{m:Int}{v:Value}(h:V F ρ (.p β (.int k) m) v):v = .int k m:=by
 simp only[V,Vcells]at h;exact h.2.symm
theorem l4{β b:Bool}{v:Value}(h:V F ρ (.p β .bool b) v):v = .bool b:=by
 simp only[V,Vcells]at h;exact h.2.symm
theorem vT{β:Bool}{l:List UInt8}{v:Value}(h:V F ρ (.p β .str l) v):v = .string ⟨l.toArray⟩:=by
 simp only[V,Vcells]at h;exact h.2.symm
theorem aAM{β:Bool}{x:Option Nat}{v:Value}(h:V F ρ (.p β .flt x) v):∃m,v = .float .f64 m∧eK m=x:=by
 simp only[V,Vcells]at h
 obtain⟨_,m,h1,h2⟩:=h
 exact⟨m,h1.symm,h2⟩
theorem aBW(β:Bool)(m:Nat):V F ρ (.p β .flt (eK m)) (.float .f64 m):=by
 simp only[V,Vcells]
 exact⟨rfl,m,rfl,rfl⟩
theorem eQ(β:Bool)(k:IntKind)(m:Int):V F ρ (.p β (.int k) m) (.int k m):=by simp[V,Vcells,Ty.scalar]
theorem kF(β b:Bool):V F ρ (.p β .bool b) (.bool b):=by simp[V,Vcells,Ty.scalar]
theorem uK(β:Bool)(l:List UInt8):V F ρ (.p β .str l) (.string ⟨l.toArray⟩):=by simp[V,Vcells,Ty.scalar]
end
def aT(op:BinOp)(k:IntKind)(x y:Int):Int :=
 let a:=BitVec.ofInt k.bits x
 let b:=BitVec.ofInt k.bits y
 match op with
 | .and=>k.wrap (a &&& b).toNat
 | .or=>k.wrap (a ||| b).toNat
 | .xor=>k.wrap (a ^^^ b).toNat
 | _=>k.wrap (a &&& ~~~b).toNat
def aEJ(op:BinOp)(k:IntKind)(x:Int)(k':IntKind)(y:Int):Option (AVal×Prop) :=
 match op with
 | .shl=>some (.p false (.int k) (k.wrap (x*2 ^ (min y.toNat k.bits))),0≤y)
 | .shr=>some (.p false (.int k) (x.fdiv (2 ^ (min y.toNat k.bits))),0≤y)
 | .add=>if k=k' then some (.p false (.int k) (k.wrap (x+y)),True)else none
 | .sub=>if k=k' then some (.p false (.int k) (k.wrap (x - y)),True)else none
 | .mul=>if k=k' then some (.p false (.int k) (k.wrap (x*y)),True)else none
 | .quo=>if k=k' then some (.p false (.int k) (k.wrap (x.tdiv y)),¬y=0)else none
 | .rem=>if k=k' then some (.p false (.int k) (x.tmod y),¬y=0)else none
 | .and=>if k=k' then some (.p false (.int k) (aT .and k x y),True)else none
 | .or=>if k=k' then some (.p false (.int k) (aT .or k x y),True)else none
 | .xor=>if k=k' then some (.p false (.int k) (aT .xor k x y),True)else none
 | .andNot=>if k=k' then some (.p false (.int k) (aT .andNot k x y),True)else none
 | .eql=>if k=k' then some (.p false .bool (x == y),True)else none
 | .neq=>if k=k' then some (.p false .bool (x != y),True)else none
 | .lss=>if k=k' then some (.p false .bool (decide (x<y)),True)else none
 | .leq=>if k=k' then some (.p false .bool (decide (x≤y)),True)else none
 | .gtr=>if k=k' then some (.p false .bool (decide (x > y)),True)else none
 | .geq=>if k=k' then some (.p false .bool (decide (x≥y)),True)else none
theorem aBt{P:Program}{w:World}{op:BinOp}{k k':IntKind}{x y:Int}{r:AVal}{c:Prop}(h:aEJ op k x k' y=some (r,c))(hc:c)
  {t:TypeId} {F:Bool→Addr→Value→Prop} {ρ:Nat→Option Value} :
  ∃v,(binOp op t (.int k x) (.int k' y)).run P w = .ok v w∧V F ρ r v:=by
 cases op <;> simp only[aEJ]at h
 case shl =>
  cases h
  refine⟨_,?_,eQ _ _ _⟩
  simp only[binOp,Op.shift,if_neg (by omega:¬y<0)];rfl
 case shr =>
  cases h
  refine⟨_,?_,eQ _ _ _⟩
  simp only[binOp,Op.shift,if_neg (by omega:¬y<0)];rfl
 all_goals
  split at h
  ·rename_i e
   subst e
   cases h
   first
    | exact⟨_,by simp only[binOp,ne_eq,not_true_eq_false,if_false,Op.intArith];rfl,eQ _ _ _⟩
    | exact⟨_,by simp only[binOp,ne_eq,not_true_eq_false,if_false,Op.intDiv,if_neg hc];rfl,eQ _ _ _⟩
    | exact⟨_,by simp only[binOp,ne_eq,not_true_eq_false,if_false];rfl,eQ _ _ _⟩
    | exact⟨_,by simp only[binOp,ne_eq,not_true_eq_false,if_false,Op.intCmp];rfl,kF _ _⟩
  ·cases h
def aIN(a b:List UInt8):Bool:=Op.bytesLess a b
def bin(tk:TK)(op:BinOp):AVal→AVal→Option (AVal×Prop)
 | .p _ (.int k) x,.p _ (.int k') y=>aEJ op k x k' y
 | .p _ .bool x,.p _ .bool y=>match tk,op with
  | .bool,.eql=>some (.p false .bool (x == y),True)
  | .bool,.neq=>some (.p false .bool (!(x == y)),True)
  | _,_=>none
 | .p _ .str x,.p _ .str y=>match op with
  | .add=>some (.p false .str (x++y),x.length+y.length≤9223372036854775807)
  | .eql=>some (.p false .bool (x == y),True)
  | .neq=>some (.p false .bool (!(x == y)),True)
  | .lss=>some (.p false .bool (aIN x y),True)
  | _=>none
 | .p _ .flt x,.p _ .flt y=>match op with
  | .eql=>some (.p false .bool (fEq x y),True)
  | .neq=>some (.p false .bool (!(fEq x y)),True)
  | .lss=>some (.p false .bool (fLt x y),True)
  | .leq=>some (.p false .bool (fLe x y),True)
  | .gtr=>some (.p false .bool (fGt x y),True)
  | .geq=>some (.p false .bool (fGe x y),True)
  | _=>none
 | _,_=>none
theorem b7{P:Program}{w:World}{op:BinOp}{t:TypeId}{x y:Operand}{a b:Value}(ha:∀cs,a ≠ .agg cs)(hn:a ≠ .nilIface):
  (eqGuard op t x y a b).run P w = .ok () w:=by
 unfold eqGuard
 rw[Sem.run_ite]
 cases a <;> first
  | exact(hn rfl).elim
  | exact(ha _ rfl).elim
  | (split <;> rfl)
theorem F3(l:List UInt8):(⟨l.toArray⟩:ByteArray).toList=l:=by
 rw[ByteArray.toList_eq]
theorem aFW{P:Program}{w:World}{op:BinOp}{t:TypeId}{ti:TI}(ht:TIok P t ti){x y r:AVal}{c:Prop}(h:bin ti.k op x y=some (r,c))(hc:c)
  {F:Bool→Addr→Value→Prop} {ρ:Nat→Option Value} {u v:Value} (hu:V F ρ x u) (hv:V F ρ y v) (xo yo:Operand) :
  ∃z,(do eqGuard op t xo yo u v;binOp op t u v:Sem Value).run P w = .ok z w∧V F ρ r z:=by
 unfold bin at h
 split at h
 ·rw[cN hu,cN hv]
  obtain⟨z,h1,h2⟩:=aBt (P:=P) (w:=w) h hc (t:=t) (F:=F) (ρ:=ρ)
  exact⟨z,by rw[Sem.run_bind,b7 (by intro cs e;cases e) (by intro e;cases e)];exact h1,h2⟩
 ·rw[l4 hu,l4 hv]
  obtain⟨d,hd,hk⟩:=ht.hu
  split at h
  ·rename_i e
   rw[e]at hk
   simp only[UK]at hk
   subst hk
   cases h
   exact⟨_,by rw[Sem.run_bind,b7 (by intro cs e;cases e) (by intro e;cases e)];exact run_eql_bool w t _ _ hd,kF _ _⟩
  ·rename_i e
   rw[e]at hk
   simp only[UK]at hk
   subst hk
   cases h
   exact⟨_,by rw[Sem.run_bind,b7 (by intro cs e;cases e) (by intro e;cases e)];exact run_neq_bool w t _ _ hd,kF _ _⟩
  ·cases h
 ·rw[vT hu,vT hv]
  rename_i l1 _ l2
  suffices hh:∃z,(binOp op t (.string ⟨l1.toArray⟩) (.string ⟨l2.toArray⟩)).run P w = .ok z w∧V F ρ r z by
   obtain⟨z,h1,h2⟩:=hh
   exact⟨z,by rw[Sem.run_bind,b7 (by intro cs e;cases e) (by intro e;cases e)];exact h1,h2⟩
  split at h <;> cases h
  ·refine⟨_,?_,uK _ _⟩
   have h1:¬(((l1.length+l2.length:Nat):Int) > 9223372036854775807):=by omega
   have h2:((⟨l1.toArray⟩:ByteArray)++⟨l2.toArray⟩)=⟨(l1++l2).toArray⟩:=by
    apply ByteArray.ext
    simp[ByteArray.data_append]
   simp only[binOp,Op.stringOp,h2]
   have h3:IntKind.i64.max=9223372036854775807:=rfl
   rw[Sem.run_ite,h3,if_neg (by simpa [ByteArray.size]using h1)]
   rfl
  ·exact⟨_,by simp only[binOp,Op.stringOp,F3];rfl,kF _ _⟩
  ·exact⟨_,by simp only[binOp,Op.stringOp,F3];rfl,kF _ _⟩
  ·exact⟨_,by simp only[binOp,Op.stringOp,F3];rfl,kF _ _⟩
 ·obtain⟨a,rfl,ha⟩:=aAM hu
  obtain⟨b,rfl,hb⟩:=aAM hv
  subst ha hb
  have hg:∀z,(binOp op t (.float .f64 a) (.float .f64 b)).run P w = .ok z w→(do eqGuard op t xo yo (.float .f64 a) (.float .f64 b);binOp op t (.float .f64 a) (.float .f64 b):Sem Value).run P w = .ok z w:=fun z hz=>by
   rw[Sem.run_bind,b7 (by intro cs e;cases e) (by intro e;cases e)]
   exact hz
  split at h <;> cases h
  all_goals
   refine⟨_,hg _ (by simp only[binOp,ne_eq,not_true_eq_false,if_false,Op.floatCmp];rfl),?_⟩
   simp only[fEq,fLt,fLe,fGt,fGe,aFq]
   exact kF _ _
 ·cases h
def un(op:UnOp):AVal→Option AVal
 | .p _ .bool x=>match op with
  | .not=>some (.p false .bool (!x))
  | _=>none
 | .p _ (.int k) x=>match op with
  | .neg=>some (.p false (.int k) (k.wrap (0 - x)))
  | _=>none
 | _=>none
theorem aDv{P:Program}{w:World}{op:UnOp}{x r:AVal}(h:un op x=some r){F:Bool→Addr→Value→Prop}{ρ:Nat→Option Value}{u:Value}(hu:V F ρ x u):
  ∃z,(Op.unary op u).run P w = .ok z w∧V F ρ r z:=by
 unfold un at h
 split at h
 ·rw[l4 hu]
  split at h
  ·cases h;exact⟨_,rfl,kF _ _⟩
  ·cases h
 ·rw[cN hu]
  split at h
  ·cases h;exact⟨_,rfl,eQ _ _ _⟩
  ·cases h
 ·cases h
def dG(l:List Int):List UInt8:=l.map fun n=>UInt8.ofNat n.toNat
def dB(l:List UInt8):List Int:=l.map fun b=>(b.toNat:Int)
def conv(src dst:TK)(h:Nat→Option Obj):AVal→Option AVal
 | .p _ (.int _) x=>match dst with
  | .int k=>some (.p false (.int k) (k.wrap x))
  | .flt=>some (.p false .flt (ofInt x))
  | _=>none
 | .p _ .flt x=>match dst with
  | .flt=>some (.p false .flt x)
  | _=>none
 | .p _ .str x=>match dst with
  | .str=>some (.p false .str x)
  | _=>none
 | .p _ (.slice (.int .u8)) x=>match src,dst with
  | .sl _,.str=>some (.p false .str (dG x))
  | _,_=>none
 | .sl id=>match h id,src,dst with
  | some (.arr _ (.int .u8) xs),.sl _,.str=>some (.p false .str (dG xs))
  | some (.fz (.int .u8) xs),.sl _,.str=>some (.p false .str (dG xs))
  | some (.bytes _ xs),.sl _,.str=>some (.p false .str (dG xs))
  | _,_,_=>none
 | .nils=>match src,dst with
  | .sl _,.str=>some (.p false .str [])
  | _,_=>none
 | _=>none
theorem aEI(ns:List Int):∀(r:ByteArray),ns.foldl (fun r n=>r.push (UInt8.ofNat n.toNat)) r=⟨(r.data.toList++dG ns).toArray⟩:=by
 induction ns with
 | nil=>intro r;simp[dG]
 | cons x xs ih =>
  intro r
  rw[List.foldl_cons,ih]
  simp[dG,ByteArray.push]
theorem wH{P:Program}{w:World}{G:Addr→Value→Prop}(hG:∀a v,v.oneCell'=true→G a v→w.cell? a=some v){xs:List Int}{v:Value}
  (hv:Vcells G (.slice (.int .u8)) xs (fun _ u=>u=v)):(Conv.bytesToString v).run P w = .ok (.string ⟨(dG xs).toArray⟩) w:=by
 obtain⟨ad,len,cap,e,⟨hl,_⟩,h⟩:=hv
 subst e
 cases hx:xs with
 | nil =>
  cases ad with
  | none=>rfl
  | some a =>
   have:len=0:=by rw[hl,hx];rfl
   subst this
   exact run_bytesToString w a 0 cap [] (by rfl)
 | cons y ys =>
  obtain⟨b,hb,_⟩:=h 0 (by rw[hx];simp)
  subst hb
  have hlen:len=(xs.map (Value.int .u8)).length:=by rw[hl];simp
  have hrow:=run_loadCells_list (P:=P) w b (xs.map (Value.int .u8)) (fun j u hu=>by
   rw[List.getElem?_map]at hu
   rcases Nat.lt_or_ge j xs.length with hj | hj
   ·obtain⟨b',hb',hc⟩:=h j hj
    cases hb'
    simp only[Vcells,Ty.size,Nat.mul_one,Nat.add_zero]at hc
    rw[List.getElem?_eq_getElem hj]at hu
    cases hu
    exact hG _ _ rfl hc
   ·rw[List.getElem?_eq_none hj]at hu
    cases hu)
  rw[←hlen]at hrow
  have:=run_bytesToString (P:=P) w b len cap xs hrow
  rw[aEI]at this
  rw[this,hx]
  rfl
theorem aEV{P:Program}{Bw:Nat→Prop}{w0:Base P}{w:World}{ρ:Nat→Option Value}{φ:Nat→Nat→Prop}{h:Nat→Option Obj}(m:Mem Bw w0 ρ φ h w){st dt:TypeId}{si di:TI}
  (hs:TIok P st si) (hd:TIok P dt di) (he:∀e,si.k = .sl e→P.underlying e=some (.int .u8)) {x r:AVal} (hc:conv si.k di.k h x=some r) {u:Value}
  (hu:V (Fr (own φ h) Bw w) ρ x u):∃z,(convert st dt u).run P w = .ok z w∧V (Fr (own φ h) Bw w) ρ r z:=by
 obtain⟨ds,h1,h2⟩:=hs.hu
 obtain⟨dd,h3,h4⟩:=hd.hu
 unfold conv at hc
 split at hc
 ·rw[cN hu]
  split at hc
  ·rename_i k e
   cases hc
   rw[e]at h4
   simp only[UK]at h4
   subst h4
   refine⟨_,?_,eQ _ _ _⟩
   simp only[convert,Sem.run_bind,run_underlying h1,run_underlying h3,Result.andThen_ok]
   cases ds <;> rfl
  ·rename_i e
   cases hc
   rw[e]at h4
   simp only[UK]at h4
   subst h4
   refine⟨_,?_,aBW _ _⟩
   simp only[convert,Sem.run_bind,run_underlying h1,run_underlying h3,Result.andThen_ok]
   cases ds <;> rfl
  ·cases hc
 ·obtain⟨a,rfl,ha⟩:=aAM hu
  split at hc
  ·rename_i e
   cases hc
   rw[e]at h4
   simp only[UK]at h4
   subst h4
   subst ha
   refine⟨_,?_,aBW _ _⟩
   simp only[convert,Sem.run_bind,run_underlying h1,run_underlying h3,Result.andThen_ok]
   cases ds <;> rfl
  ·cases hc
 ·rw[vT hu]
  split at hc
  ·rename_i e
   cases hc
   rw[e]at h4
   simp only[UK]at h4
   subst h4
   refine⟨_,?_,uK _ _⟩
   simp only[convert,Sem.run_bind,run_underlying h1,run_underlying h3,Result.andThen_ok]
   cases ds <;> rfl
  ·cases hc
 ·split at hc
  ·rename_i xs _ _ e q e1 e2
   cases hc
   rw[e1]at h2;rw[e2]at h4
   simp only[UK]at h2 h4
   subst h2 h4
   simp only[V]at hu
   refine⟨_,?_,uK _ _⟩
   have:=wH (P:=P) (w:=w) (fun a v h1 h=>World.peek_cell h.2.2 h1) hu.2
   obtain⟨_,_,_,eu,_⟩:=hu.2
   subst eu
   rw[run_convert_bytes_string w st dt _ _ _ _ h1 (he _ e1) h3]
   exact this
  ·cases hc
 ·rename_i id
  split at hc
  ·rename_i te xs hi e1 e2
   cases hc
   rw[e1]at h2;rw[e2]at h4
   simp only[UK]at h2 h4
   subst h2 h4
   obtain⟨u',q1,q2⟩:=m.ob id _ hi
   simp only[V]at hu
   rw[hu.1]at q1
   cases q1
   obtain⟨_,_,cells,r1,r2⟩:=q2
   have hv:=vP (F':=fun _ a v=>w.peek a=some v) (ρ':=ρ) r1 r2 false (fun a v h=>h.2.2) (fun a v _ h=>World.cell_peek h)
   simp only[V]at hv
   refine⟨_,?_,uK _ _⟩
   have:=wH (P:=P) (w:=w) (fun a v h1 h=>World.peek_cell h h1) hv.2
   obtain⟨_,_,_,eu,_⟩:=hv.2
   subst eu
   rw[run_convert_bytes_string w st dt _ _ _ _ h1 (he _ e1) h3]
   exact this
  ·rename_i xs hi e1 e2
   cases hc
   rw[e1]at h2;rw[e2]at h4
   simp only[UK]at h2 h4
   subst h2 h4
   obtain⟨u',q1,q2⟩:=m.ob id _ hi
   simp only[V]at hu
   rw[hu.1]at q1
   cases q1
   simp only[OR,V]at q2
   refine⟨_,?_,uK _ _⟩
   have:=wH (P:=P) (w:=w) (fun a v h1 h=>World.peek_cell h.2.2 h1) q2.2
   obtain⟨_,_,_,eu,_⟩:=q2.2
   subst eu
   rw[run_convert_bytes_string w st dt _ _ _ _ h1 (he _ e1) h3]
   exact this
  ·rename_i te xs hi e1 e2
   cases hc
   rw[e1]at h2;rw[e2]at h4
   simp only[UK]at h2 h4
   subst h2 h4
   obtain⟨u',q1,q2⟩:=m.ob id _ hi
   simp only[V]at hu
   rw[hu.1]at q1
   cases q1
   have hv:=aI0 (ρ':=ρ) q2
   simp only[V]at hv
   refine⟨_,?_,uK _ _⟩
   have:=wH (P:=P) (w:=w) (fun a v _ h=>h) hv.2
   obtain⟨_,_,_,eu,_⟩:=hv.2
   subst eu
   rw[run_convert_bytes_string w st dt _ _ _ _ h1 (he _ e1) h3]
   exact this
  ·cases hc
 ·split at hc
  ·rename_i e1 e2
   cases hc
   rw[e1]at h2;rw[e2]at h4
   simp only[UK]at h2 h4
   subst h2 h4
   simp only[V]at hu
   subst hu
   refine⟨_,?_,uK _ _⟩
   rw[run_convert_bytes_string w st dt _ _ _ _ h1 (he _ e1) h3]
   rfl
  ·cases hc
 ·cases hc
end Go.Tv
namespace Go.Tv
open Go Go.RowKit
def Good(P:Program)(o:Oper)(a:Act)(w:World)(post:Value→World→Prop):Prop :=
 ∀K Q,(∀v w',post v w'→K (a.put o.dst v) w')→o.wp P a w K Q
theorem Good.of_run{P:Program}{o:Oper}{a:Act}{w w':World}{post:Value→World→Prop}{v:Value}
  (h:(execOp a.eval o).run P w = .ok (.value v) w') (hp:post v w'):Good P o a w post:=fun K Q hk=>by
 unfold Oper.wp;rw[h];exact hk _ _ hp
theorem Good.of_skip{P:Program}{o:Oper}{a:Act}{w w':World}{post:Value→World→Prop}
  (h:(execOp a.eval o).run P w = .ok .skip w') (hp:post undef w'):Good P o a w post:=fun K Q hk=>by
 unfold Oper.wp;rw[h];exact hk _ _ hp
theorem Good.of_call{P:Program}{o:Oper}{a:Act}{w w':World}{post:Value→World→Prop}{f:FuncId}{args:Array Value}
  (h:(execOp a.eval o).run P w = .ok (.enter f args) w') (hp:Calls P f args w' fun e w''=>∃v,e = .returned v∧post v w''):Good P o a w post:=fun K Q hk=>by
 unfold Oper.wp;rw[h]
 show Calls P f args w' _
 exact hp.mono fun e w'' ⟨v,he,hv⟩=>by subst he;exact hk _ _ hv
def Bad(P:Program)(o:Oper)(a:Act)(w:World)(x:Value)(post:World→Prop):Prop :=
 ∀K Q,(∀w',post w'→Q (.panic [{ v:=x,recovered:=false }]) a w')→o.wp P a w K Q
theorem Bad.of_call{P:Program}{o:Oper}{a:Act}{w w':World}{x:Value}{post:World→Prop}{f:FuncId}{args:Array Value}
  (h:(execOp a.eval o).run P w = .ok (.enter f args) w') (hp:Calls P f args w' fun e w''=>e = .panicked [{ v:=x,recovered:=false }]∧post w''):Bad P o a w x post:=fun K Q hk=>by
 unfold Oper.wp;rw[h]
 show Calls P f args w' _
 exact hp.mono fun e w'' ⟨he,hv⟩=>by subst he;exact hk _ hv
def Post{P:Program}(Bw:Nat→Prop)(w0:Base P)(ρ:Nat→Option Value)(φ:Nat→Nat→Prop)(h:Nat→Option Obj)(w:World)(new:Nat)(x:AVal)(u:jJ)(v:Value)(w':World):Prop :=
 ∃ρ' φ',Mem Bw w0 ρ' φ' (apply u h) w'∧(∀β a v,Fr (own φ h) Bw w β a v→Fr (own φ' (apply u h)) Bw w' β a v)∧(∀i u,ρ i=some u→ρ' i=some u) ∧
  (∀i u,ρ' i=some u→ρ i=some u∨∃j,j<8∧i=new+j)∧V (Fr (own φ' (apply u h)) Bw w') ρ' x v
theorem Post.pure{P:Program}{Bw:Nat→Prop}{w0:Base P}{ρ:Nat→Option Value}{φ:Nat→Nat→Prop}{h:Nat→Option Obj}{w:World}{new:Nat}{x:AVal}{v:Value}
  (m:Mem Bw w0 ρ φ h w) (hv:V (Fr (own φ h) Bw w) ρ x v):Post Bw w0 ρ φ h w new x [] v w :=
 ⟨ρ,φ,m,fun _ _ _ h=>h,fun _ _ h=>h,fun _ _ h=> .inl h,hv⟩
theorem mS(a:Addr)(i j:Nat):(a.add i).add j=a.add (i+j):=by
 unfold Addr.add
 by_cases hi:i=0 <;> by_cases hj:j=0 <;> simp[hi,hj,Nat.add_assoc]
theorem dA(g i j:Nat):(⟨g,i,none⟩:Addr).add j=⟨g,i+j,none⟩:=by
 unfold Addr.add
 by_cases hj:j=0 <;> simp[hj]
section
variable{F:Bool→Addr→Value→Prop}{ρ:Nat→Option Value}
theorem VL.list:∀ {cs:List AVal} {g:Nat→Value→Prop},VL F ρ cs g→∃us:List Value,us.length=cs.length∧(∀k u,us[k]? = some u→g k u)∧VL F ρ cs (fun k u=>us[k]? = some u)
 | [],g,_=>⟨[],rfl,fun k u h=>by simp at h,by simp only[VL]⟩
 | c::cs,g,h=>by
  simp only[VL]at h
  obtain⟨⟨v,q1,q2⟩,q3⟩:=h
  obtain⟨us,r1,r2,r3⟩:=VL.list q3
  refine⟨v::us,by simp[r1],fun k u hk=> ?_,?_⟩
  ·cases k with
   | zero=>simp at hk;subst hk;exact q1
   | succ k=>exact r2 k u (by simpa using hk)
  ·simp only[VL]
   exact⟨⟨v,by simp,q2⟩,VL.mono (fun _ _ _ h=>h) (fun _ _ h=>h) (fun k u hk=>by simpa using hk) r3⟩
theorem VL.take{n:Nat}{cs:List AVal}{g:Nat→Value→Prop}(h:VL F ρ cs g):VL F ρ (cs.take n) g :=
 VL.mk fun k x hk=>by
  rw[List.getElem?_take]at hk
  split at hk
  ·exact VL.get h hk
  ·cases hk
end
def AVal.cell:AVal→Bool
 | .lit _=>false
 | .agg _=>false
 | .tup _=>false
 | .lag _ _ _ _=>false
 | .unk=>false
 | _=>true
def AVal.cellOk:AVal→Bool
 | .lag _ _ _ cs=>cs.all AVal.cell
 | x=>(cellsOf x).all AVal.cell
theorem aEe{x:AVal}(h:x.cellOk=true):(cellsOf x).all AVal.cell=true:=by
 unfold AVal.cellOk at h
 split at h
 ·simp only[cellsOf,List.all_append,Bool.and_eq_true]
  refine⟨?_,h⟩
  rw[List.all_map]
  exact List.all_eq_true.2 fun _ _=>rfl
 ·exact h
theorem yX{F:Bool→Addr→Value→Prop}{ρ:Nat→Option Value}{x:AVal}(hx:x.cell=true){v:Value}(hv:V F ρ x v):v.oneCell'=true:=by
 cases x with
 | p β T y =>
  simp only[V]at hv
  obtain⟨h1,h2⟩:=hv
  cases T <;> simp only[Ty.scalar,Bool.false_eq_true]at h1
  ·simp only[Vcells]at h2;subst h2;rfl
  ·simp only[Vcells]at h2;subst h2;rfl
  ·simp only[Vcells]at h2;subst h2;rfl
  ·obtain⟨_,e,_⟩:=h2;subst e;rfl
  ·obtain⟨_,_,_,e,_⟩:=h2;subst e;rfl
  ·cases y with
   | none=>simp only[Vcells]at h2;subst h2;rfl
   | some z=>obtain⟨_,e,_⟩:=h2;subst e;rfl
  ·obtain⟨_,e,_⟩:=h2;subst e;rfl
 | nils=>simp only[V]at hv;subst hv;rfl
 | nilp=>simp only[V]at hv;subst hv;rfl
 | lit _=>simp[AVal.cell]at hx
 | sl id=>simp only[V]at hv;obtain⟨_,_,_,_,e⟩:=hv;subst e;rfl
 | adr _ _ _ _=>simp only[V]at hv;obtain⟨_,_,e⟩:=hv;subst e;rfl
 | ada _ _ _ _=>simp only[V]at hv;obtain⟨_,_,e,_⟩:=hv;subst e;rfl
 | fad _ _ _=>simp only[V]at hv;obtain⟨_,e,_⟩:=hv;subst e;rfl
 | fn _ _=>simp only[V]at hv;obtain⟨_,e,_⟩:=hv;subst e;rfl
 | mp _=>simp only[V]at hv;obtain⟨_,_,e⟩:=hv;subst e;rfl
 | loc _ _ _=>simp only[V]at hv;obtain⟨_,e,_⟩:=hv;subst e;rfl
 | suf _ _ _=>simp only[V]at hv;obtain⟨_,_,_,_,_,_,e⟩:=hv;subst e;rfl
 | bfn _ _=>simp only[V]at hv;obtain⟨_,e,_⟩:=hv;subst e;rfl
 | lag _ _ _ _=>simp[AVal.cell]at hx
 | agg _=>simp[AVal.cell]at hx
 | tup _=>simp[AVal.cell]at hx
 | unk=>simp[AVal.cell]at hx
theorem jY{v:Value}(h:v.oneCell'=true):v.cells = #[v]:=by
 cases v <;> first | rfl | simp[Value.oneCell']at h
theorem gW{F:Bool→Addr→Value→Prop}{ρ:Nat→Option Value}{x:AVal}(hx:(cellsOf x).all AVal.cell=true){v:Value}(hv:V F ρ x v):
  VL F ρ (cellsOf x) (fun k u=>v.cells.toList[k]? = some u)∧v.cells.toList.length=(cellsOf x).length∧∀c∈v.cells.toList,c.oneCell'=true:=by
 by_cases hagg:∃cs,x = .agg cs
 ·obtain⟨cs,rfl⟩:=hagg
  simp only[V]at hv
  obtain⟨vs,rfl,hs,hl⟩:=hv
  simp only[cellsOf]at hx ⊢
  refine⟨VL.mono (fun _ _ _ h=>h) (fun _ _ h=>h) (fun k u hk=>by simpa [Value.cells]using hk) hl,by simpa [Value.cells]using hs,fun c hc=> ?_⟩
  obtain⟨k,hk,rfl⟩:=List.getElem_of_mem hc
  have hk':k<cs.length:=by rw[←hs];simpa [Value.cells]using hk
  obtain⟨u,q1,q2⟩:=VL.get hl (List.getElem?_eq_getElem hk')
  have:u=(Value.agg vs).cells.toList[k]:=by
   have hk2:k<vs.size:=by omega
   rw[Array.getElem?_eq_getElem hk2]at q1
   cases q1
   simp[Value.cells]
  rw[←this]
  exact yX (List.all_eq_true.1 hx _ (List.getElem_mem hk')) q2
 ·by_cases hlag:∃k n xs cs,x = .lag k n xs cs
  ·obtain⟨k,n,xs,cs,rfl⟩:=hlag
   simp only[V]at hv
   obtain⟨vs,rfl,hs,hl⟩:=hv
   simp only[cellsOf,List.all_append,Bool.and_eq_true]at hx ⊢
   have h1:VL F ρ (xs.1.map (fun i=>AVal.p false (.int k) i)) (fun j u=>(xs.1.map (Value.int k)++vs)[j]? = some u):=VL.mk fun j y hy=>by
    rw[List.getElem?_map]at hy
    rcases Nat.lt_or_ge j xs.1.length with hj | hj
    ·rw[List.getElem?_eq_getElem hj]at hy
     cases hy
     exact⟨.int k xs.1[j],by rw[List.getElem?_append_left (by simpa using hj)];simp[hj],by simp only[V,Vcells];exact⟨rfl,trivial⟩⟩
    ·rw[List.getElem?_eq_none hj]at hy
     cases hy
   have h2:VL F ρ (xs.1.map (fun i=>AVal.p false (.int k) i)++cs) (fun j u=>(xs.1.map (Value.int k)++vs)[j]? = some u):=VL.append h1 (VL.mono (fun _ _ _ h=>h) (fun _ _ h=>h) (fun j u hj=>by
    rw[List.length_map,List.getElem?_append_right (by simp)]
    simpa using hj) hl)
   refine⟨VL.mono (fun _ _ _ h=>h) (fun _ _ h=>h) (fun j u hj=>by simpa [Value.cells]using hj) h2,by simp[Value.cells,hs],fun c hc=> ?_⟩
   simp only[Value.cells,List.mem_append,List.mem_map]at hc
   rcases hc with⟨i,_,rfl⟩ | hc
   ·rfl
   ·obtain⟨j,hj,rfl⟩:=List.getElem_of_mem hc
    have hj':j<cs.length:=by omega
    obtain⟨u,q1,q2⟩:=VL.get hl (List.getElem?_eq_getElem hj')
    rw[List.getElem?_eq_getElem hj]at q1
    cases q1
    exact yX (List.all_eq_true.1 hx.2 _ (List.getElem_mem hj')) q2
  have hcell:cellsOf x=[x]:=by
   cases x <;> first | rfl | exact(hagg ⟨_,rfl⟩).elim | exact(hlag ⟨_,_,_,_,rfl⟩).elim
  rw[hcell]at hx ⊢
  simp only[List.all_cons,List.all_nil,Bool.and_true]at hx
  have h1:=yX hx hv
  rw[jY h1]
  simp only[VL]
  exact⟨⟨⟨v,rfl,hv⟩,trivial⟩,rfl,fun c hc=>by simp at hc;subst hc;exact h1⟩
section
variable{P:Program}{t:TypeId}{ti:TI}
theorem qG(ht:TIok P t ti)(w:World):(isAgg t).run P w = .ok ti.k.agg w:=by
 obtain⟨d,h1,h2⟩:=ht.hu
 unfold isAgg
 rw[Sem.run_bind,run_underlying h1]
 simp only[Result.andThen_ok]
 cases hk:ti.k <;> rw[hk]at h2 <;> simp only[UK]at h2
 case other =>
  cases d <;> simp at h2 <;> rfl
 case st=>obtain⟨fs,rfl,_⟩:=h2;rfl
 all_goals (subst h2;rfl)
theorem run_sizeOf(ht:TIok P t ti)(w:World):(sizeOf t).run P w = .ok ti.size w:=by
 obtain⟨i,z,h1,_,h3,_⟩:=ht.hi
 simp[sizeOf,typeInfo,h1,h3]
theorem eC(ht:TIok P t ti)(w:World):∃z,(zeroValue t).run P w = .ok z w∧z.cells.toList.map pI=ti.z∧z.cells.size=ti.size∧∀c∈z.cells.toList,c.oneCell'=true:=by
 obtain⟨i,z,h1,h2,_,_,h5,h6,h7⟩:=ht.hi
 exact⟨z,by simp[zeroValue,typeInfo,h1,h2],h5,h6,h7⟩
theorem bK(ht:TIok P t ti){e:TypeId}(he:ti.k = .sl e):P.underlying t=some (.slice e):=by
 obtain⟨d,h1,h2⟩:=ht.hu
 rw[he]at h2
 simp only[UK]at h2
 rw[h1,h2]
end
def fN(ti:TI)(cs:List AVal)(off:Nat):Option AVal :=
 if ti.k.agg then(if off+ti.size≤cs.length then some (.agg ((cs.drop off).take ti.size))else none)else cs[off]?
theorem hZ{P:Program}{t:TypeId}{ti:TI}(ht:TIok P t ti){F:Bool→Addr→Value→Prop}{ρ:Nat→Option Value}{w:World}{ad:Addr}{cs:List AVal}
  (hcs:VL F ρ cs (fun k u=>w.cell? (ad.add k)=some u)) {off:Nat} {x:AVal} (h:fN ti cs off=some x) :
  ∃v,(loadVar t (ad.add off)).run P w = .ok v w∧V F ρ x v:=by
 unfold fN at h
 unfold loadVar
 rw[Sem.run_bind,qG ht]
 simp only[Result.andThen_ok]
 split at h
 ·rename_i hagg
  split at h
  ·rename_i hle
   cases h
   have h1:=VL.take (n:=ti.size) (VL.drop (n:=off) hcs)
   obtain⟨us,r1,r2,r3⟩:=VL.list h1
   have hlen:us.length=ti.size:=by rw[r1,List.length_take,List.length_drop];omega
   have hrow:=run_loadCells_list (P:=P) w (ad.add off) us (fun j u hu=>by rw[mS];exact r2 j u hu)
   rw[hlen]at hrow
   refine⟨.agg us.toArray,?_,?_⟩
   ·rw[if_pos hagg,Sem.run_bind,run_sizeOf ht]
    simp only[Result.andThen_ok,Sem.run_bind,hrow]
    rfl
   ·simp only[V]
    exact⟨_,rfl,by simp[r1],VL.mono (fun _ _ _ h=>h) (fun _ _ h=>h) (fun k u hk=>by simpa using hk) r3⟩
  ·cases h
 ·rename_i hagg
  obtain⟨u,q1,q2⟩:=VL.get hcs h
  refine⟨u,?_,q2⟩
  rw[if_neg (by simpa using hagg),run_load,q1]
theorem jX{P:Program}{t:TypeId}{ti:TI}(ht:TIok P t ti){w:World}{g p:Nat}{cur:Array Value}{te:TypeId}(hg:w.heap[g]? = some (.cells cur te (0,0)))
  {v:Value} (hs:v.cells.toList.length=ti.size) (hfit:p+ti.size≤cur.size) (h1:∀c∈v.cells.toList,c.oneCell'=true) :
  (storeVar t ⟨g,p,none⟩ v).run P w = .ok () (w.setRow g (cur.toList.take p++v.cells.toList++cur.toList.drop (p+ti.size)).toArray):=by
 unfold storeVar
 rw[Sem.run_bind,run_sizeOf ht]
 simp only[Result.andThen_ok]
 have hs':v.cells.size=ti.size:=by simpa using hs
 have:=run_storeCells_at P g p te v.cells.toList 0 cur w hg (by rw[hs];simpa using hfit) h1
 rw[Sem.run_ite,if_neg (by simpa using hs'),this]
 simp only[Nat.add_zero,hs]
theorem bL(w:World)(g:Nat)(cs:Array Value):w.grownBy (w.setRow g cs) (some g) :=
 ⟨rfl,rfl,rfl,by simp[World.setRow],fun k _ hk=>setRow_other w g k cs (fun e=>hk (by rw[e]))⟩
theorem bE{h:Nat→Option Obj}{i:Nat}{x:Option Obj}:upd (fun j=>if some i=some j then none else h j) i x=upd h i x:=by
 funext j
 simp only[upd]
 split
 ·rfl
 ·rename_i e;rw[if_neg (fun e'=>e (Option.some.inj e').symm)]
theorem bQ{h:Nat→Option Obj}{i:Nat}{x:Option Obj}:upd (fun j=>if(none:Option Nat)=some j then none else h j) i x=upd h i x:=by
 funext j
 simp only[upd]
 split
 ·rfl
 ·simp
theorem M8{h:Nat→Option Obj}{i j:Nat}{x:Option Obj}:upd (fun k=>if some i=some k then none else h k) j x=upd (upd h i none) j x:=by
 funext k
 simp only[upd]
 split
 ·rfl
 ·by_cases e:i=k
  ·subst e;simp
  ·rw[if_neg (by simpa using e),if_neg (Ne.symm e)]
end Go.Tv
