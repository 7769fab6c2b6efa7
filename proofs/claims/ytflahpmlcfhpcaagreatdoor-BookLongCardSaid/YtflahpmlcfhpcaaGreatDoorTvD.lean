/- Operations on values: what they come to. -/
import Derived.Test.YtflahpmlcfhpcaaGreatDoorTvC
import Derived.WalkLawsBesides
namespace Go.Tv
open Go Go.RowKit
abbrev gH:=AVal×gR×Prop
def ev(s:Nat→AVal):Operand→AVal
 | .tmp t=>s t
 | .const v=>I1 v
 | .global _=> .unk
 | .func f=> .fn f []
section
variable{F:Bool→Addr→Value→Prop}{ρ:Nat→Option Value}{n:NS}{a:Act}{s:Nat→AVal}
theorem bC(h:Slots n F ρ s a)(x:Operand):V F ρ (ev s x) (a.eval x):=by
 cases x with
 | tmp t=>exact h.sl t
 | const v=>exact M9 v
 | global g=>simp only[ev,V]
 | func f=>simp only[ev,V,Act.eval];exact⟨#[],rfl,rfl,trivial⟩
theorem cC{β:Bool}{k:IntKind}{m:Int}{v:Value}(h:V F ρ (.p β (.int k) m) v):v = .int k m:=by
 simp only[V,Vcells]at h;exact h.2.symm
theorem mX{β b:Bool}{v:Value}(h:V F ρ (.p β .bool b) v):v = .bool b:=by
 simp only[V,Vcells]at h;exact h.2.symm
theorem rO{β:Bool}{l:List UInt8}{v:Value}(h:V F ρ (.p β .str l) v):v = .string ⟨l.toArray⟩:=by
 simp only[V,Vcells]at h;exact h.2.symm
theorem C4{β:Bool}{x:Option Nat}{v:Value}(h:V F ρ (.p β .flt x) v):∃m,v = .float .f64 m∧dS m=x:=by
 simp only[V,Vcells]at h
 obtain⟨_,m,h1,h2⟩:=h
 exact⟨m,h1.symm,h2⟩
theorem H8(β:Bool)(m:Nat):V F ρ (.p β .flt (dS m)) (.float .f64 m):=by
 simp only[V,Vcells]
 exact⟨rfl,m,rfl,rfl⟩
theorem dO(β:Bool)(k:IntKind)(m:Int):V F ρ (.p β (.int k) m) (.int k m):=by simp[V,Vcells,Ty.scalar]
theorem hI(β b:Bool):V F ρ (.p β .bool b) (.bool b):=by simp[V,Vcells,Ty.scalar]
theorem oL(β:Bool)(l:List UInt8):V F ρ (.p β .str l) (.string ⟨l.toArray⟩):=by simp[V,Vcells,Ty.scalar]
end
def aZ(op:BinOp)(k:IntKind)(x y:Int):Int :=
 let a:=BitVec.ofInt k.bits x
 let b:=BitVec.ofInt k.bits y
 match op with
 | .and=>k.wrap (a &&& b).toNat
 | .or=>k.wrap (a ||| b).toNat
 | .xor=>k.wrap (a ^^^ b).toNat
 | _=>k.wrap (a &&& ~~~b).toNat
def W8(op:BinOp)(k:IntKind)(x:Int)(k':IntKind)(y:Int):Option (AVal×Prop) :=
 match op with
 | .shl=>some (.p false (.int k) (k.wrap (x*2 ^ (min y.toNat k.bits))),0≤y)
 | .shr=>some (.p false (.int k) (x.fdiv (2 ^ (min y.toNat k.bits))),0≤y)
 | .add=>if k=k' then some (.p false (.int k) (k.wrap (x+y)),True)else none
 | .sub=>if k=k' then some (.p false (.int k) (k.wrap (x - y)),True)else none
 | .mul=>if k=k' then some (.p false (.int k) (k.wrap (x*y)),True)else none
 | .quo=>if k=k' then some (.p false (.int k) (k.wrap (x.tdiv y)),¬y=0)else none
 | .rem=>if k=k' then some (.p false (.int k) (x.tmod y),¬y=0)else none
 | .and=>if k=k' then some (.p false (.int k) (aZ .and k x y),True)else none
 | .or=>if k=k' then some (.p false (.int k) (aZ .or k x y),True)else none
 | .xor=>if k=k' then some (.p false (.int k) (aZ .xor k x y),True)else none
 | .andNot=>if k=k' then some (.p false (.int k) (aZ .andNot k x y),True)else none
 | .eql=>if k=k' then some (.p false .bool (x == y),True)else none
 | .neq=>if k=k' then some (.p false .bool (x != y),True)else none
 | .lss=>if k=k' then some (.p false .bool (decide (x<y)),True)else none
 | .leq=>if k=k' then some (.p false .bool (decide (x≤y)),True)else none
 | .gtr=>if k=k' then some (.p false .bool (decide (x > y)),True)else none
 | .geq=>if k=k' then some (.p false .bool (decide (x≥y)),True)else none
theorem I5{P:Program}{w:World}{op:BinOp}{k k':IntKind}{x y:Int}{r:AVal}{c:Prop}(h:W8 op k x k' y=some (r,c))(hc:c)
  {t:TypeId} {F:Bool→Addr→Value→Prop} {ρ:Nat→Option Value} :
  ∃v,(binOp op t (.int k x) (.int k' y)).run P w = .ok v w∧V F ρ r v:=by
 cases op <;> simp only[W8]at h
 case shl =>
  cases h
  refine⟨_,?_,dO _ _ _⟩
  simp only[binOp,Op.shift,if_neg (by omega:¬y<0)];rfl
 case shr =>
  cases h
  refine⟨_,?_,dO _ _ _⟩
  simp only[binOp,Op.shift,if_neg (by omega:¬y<0)];rfl
 all_goals
  split at h
  ·rename_i e
   subst e
   cases h
   first
    | exact⟨_,by simp only[binOp,ne_eq,not_true_eq_false,if_false,Op.intArith];rfl,dO _ _ _⟩
    | exact⟨_,by simp only[binOp,ne_eq,not_true_eq_false,if_false,Op.intDiv,if_neg hc];rfl,dO _ _ _⟩
    | exact⟨_,by simp only[binOp,ne_eq,not_true_eq_false,if_false];rfl,dO _ _ _⟩
    | exact⟨_,by simp only[binOp,ne_eq,not_true_eq_false,if_false,Op.intCmp];rfl,hI _ _⟩
  ·cases h
def aCL(a b:List UInt8):Bool:=Op.bytesLess a b
def bin(tk:TK)(op:BinOp):AVal→AVal→Option (AVal×Prop)
 | .p _ (.int k) x,.p _ (.int k') y=>W8 op k x k' y
 | .p _ .bool x,.p _ .bool y=>match tk,op with
  | .bool,.eql=>some (.p false .bool (x == y),True)
  | .bool,.neq=>some (.p false .bool (!(x == y)),True)
  | _,_=>none
 | .p _ .str x,.p _ .str y=>match op with
  | .add=>some (.p false .str (x++y),x.length+y.length≤9223372036854775807)
  | .eql=>some (.p false .bool (x == y),True)
  | .neq=>some (.p false .bool (!(x == y)),True)
  | .lss=>some (.p false .bool (aCL x y),True)
  | _=>none
 | .p _ .flt x,.p _ .flt y=>match op with
  | .eql=>some (.p false .bool (fEq x y),True)
  | .neq=>some (.p false .bool (!(fEq x y)),True)
  | .lss=>some (.p false .bool (fLt x y),True)
  | .leq=>some (.p false .bool (fLe x y),True)
  | .gtr=>some (.p false .bool (fGt x y),True)
  | .geq=>some (.p false .bool (fGe x y),True)
  | _=>none
 | _,_=>none
theorem bX{P:Program}{w:World}{op:BinOp}{t:TypeId}{x y:Operand}{a b:Value}(ha:∀cs,a ≠ .agg cs)(hn:a ≠ .nilIface):
  (eqGuard op t x y a b).run P w = .ok () w:=by
 unfold eqGuard
 rw[Sem.run_ite]
 cases a <;> first
  | exact(hn rfl).elim
  | exact(ha _ rfl).elim
  | (split <;> rfl)
theorem uY(l:List UInt8):(⟨l.toArray⟩:ByteArray).toList=l:=by
 rw[ByteArray.toList_eq]
theorem aAN{P:Program}{w:World}{op:BinOp}{t:TypeId}{ti:TI}(ht:TIok P t ti){x y r:AVal}{c:Prop}(h:bin ti.k op x y=some (r,c))(hc:c)
  {F:Bool→Addr→Value→Prop} {ρ:Nat→Option Value} {u v:Value} (hu:V F ρ x u) (hv:V F ρ y v) (xo yo:Operand) :
  ∃z,(do eqGuard op t xo yo u v;binOp op t u v:Sem Value).run P w = .ok z w∧V F ρ r z:=by
 unfold bin at h
 split at h
 ·rw[cC hu,cC hv]
  obtain⟨z,h1,h2⟩:=I5 (P:=P) (w:=w) h hc (t:=t) (F:=F) (ρ:=ρ)
  exact⟨z,by rw[Sem.run_bind,bX (by intro cs e;cases e) (by intro e;cases e)];exact h1,h2⟩
 ·rw[mX hu,mX hv]
  obtain⟨d,hd,hk⟩:=ht.hu
  split at h
  ·rename_i e
   rw[e]at hk
   simp only[UK]at hk
   subst hk
   cases h
   exact⟨_,by rw[Sem.run_bind,bX (by intro cs e;cases e) (by intro e;cases e)];exact run_eql_bool w t _ _ hd,hI _ _⟩
  ·rename_i e
   rw[e]at hk
   simp only[UK]at hk
   subst hk
   cases h
   exact⟨_,by rw[Sem.run_bind,bX (by intro cs e;cases e) (by intro e;cases e)];exact run_neq_bool w t _ _ hd,hI _ _⟩
  ·cases h
 ·rw[rO hu,rO hv]
  rename_i l1 _ l2
  suffices hh:∃z,(binOp op t (.string ⟨l1.toArray⟩) (.string ⟨l2.toArray⟩)).run P w = .ok z w∧V F ρ r z by
   obtain⟨z,h1,h2⟩:=hh
   exact⟨z,by rw[Sem.run_bind,bX (by intro cs e;cases e) (by intro e;cases e)];exact h1,h2⟩
  split at h <;> cases h
  ·refine⟨_,?_,oL _ _⟩
   have h1:¬(((l1.length+l2.length:Nat):Int) > 9223372036854775807):=by omega
   have h2:((⟨l1.toArray⟩:ByteArray)++⟨l2.toArray⟩)=⟨(l1++l2).toArray⟩:=by
    apply ByteArray.ext
    simp[ByteArray.data_append]
   simp only[binOp,Op.stringOp,h2]
   have h3:IntKind.i64.max=9223372036854775807:=rfl
   rw[Sem.run_ite,h3,if_neg (by simpa [ByteArray.size]using h1)]
   rfl
  ·exact⟨_,by simp only[binOp,Op.stringOp,uY];rfl,hI _ _⟩
  ·exact⟨_,by simp only[binOp,Op.stringOp,uY];rfl,hI _ _⟩
  ·exact⟨_,by simp only[binOp,Op.stringOp,uY];rfl,hI _ _⟩
 ·obtain⟨a,rfl,ha⟩:=C4 hu
  obtain⟨b,rfl,hb⟩:=C4 hv
  subst ha hb
  have hg:∀z,(binOp op t (.float .f64 a) (.float .f64 b)).run P w = .ok z w→(do eqGuard op t xo yo (.float .f64 a) (.float .f64 b);binOp op t (.float .f64 a) (.float .f64 b):Sem Value).run P w = .ok z w:=fun z hz=>by
   rw[Sem.run_bind,bX (by intro cs e;cases e) (by intro e;cases e)]
   exact hz
  split at h <;> cases h
  all_goals
   refine⟨_,hg _ (by simp only[binOp,ne_eq,not_true_eq_false,if_false,Op.floatCmp];rfl),?_⟩
   simp only[fEq,fLt,fLe,fGt,fGe,aAs]
   exact hI _ _
 ·cases h
def un(op:UnOp):AVal→Option AVal
 | .p _ .bool x=>match op with
  | .not=>some (.p false .bool (!x))
  | _=>none
 | .p _ (.int k) x=>match op with
  | .neg=>some (.p false (.int k) (k.wrap (0 - x)))
  | _=>none
 | _=>none
theorem aB2{P:Program}{w:World}{op:UnOp}{x r:AVal}(h:un op x=some r){F:Bool→Addr→Value→Prop}{ρ:Nat→Option Value}{u:Value}(hu:V F ρ x u):
  ∃z,(Op.unary op u).run P w = .ok z w∧V F ρ r z:=by
 unfold un at h
 split at h
 ·rw[mX hu]
  split at h
  ·cases h;exact⟨_,rfl,hI _ _⟩
  ·cases h
 ·rw[cC hu]
  split at h
  ·cases h;exact⟨_,rfl,dO _ _ _⟩
  ·cases h
 ·cases h
def fE(l:List Int):List UInt8:=l.map fun n=>UInt8.ofNat n.toNat
def iE(l:List UInt8):List Int:=l.map fun b=>(b.toNat:Int)
def conv(src dst:TK)(h:Nat→Option Obj):AVal→Option AVal
 | .p _ (.int _) x=>match dst with
  | .int k=>some (.p false (.int k) (k.wrap x))
  | .flt=>some (.p false .flt (ofInt x))
  | _=>none
 | .p _ .flt x=>match dst with
  | .flt=>some (.p false .flt x)
  | _=>none
 | .p _ .str x=>match dst with
  | .str=>some (.p false .str x)
  | _=>none
 | .p _ (.slice (.int .u8)) x=>match src,dst with
  | .sl _,.str=>some (.p false .str (fE x))
  | _,_=>none
 | .sl id=>match h id,src,dst with
  | some (.arr _ (.int .u8) xs),.sl _,.str=>some (.p false .str (fE xs))
  | some (.fz (.int .u8) xs),.sl _,.str=>some (.p false .str (fE xs))
  | some (.bytes _ xs),.sl _,.str=>some (.p false .str (fE xs))
  | _,_,_=>none
 | .nils=>match src,dst with
  | .sl _,.str=>some (.p false .str [])
  | _,_=>none
 | _=>none
theorem W3(ns:List Int):∀(r:ByteArray),ns.foldl (fun r n=>r.push (UInt8.ofNat n.toNat)) r=⟨(r.data.toList++fE ns).toArray⟩:=by
 induction ns with
 | nil=>intro r;simp[fE]
 | cons x xs ih =>
  intro r
  rw[List.foldl_cons,ih]
  simp[fE,ByteArray.push]
theorem qL{P:Program}{w:World}{G:Addr→Value→Prop}(hG:∀a v,v.oneCell'=true→G a v→w.cell? a=some v){xs:List Int}{v:Value}
  (hv:Vcells G (.slice (.int .u8)) xs (fun _ u=>u=v)):(Conv.bytesToString v).run P w = .ok (.string ⟨(fE xs).toArray⟩) w:=by
 obtain⟨ad,len,cap,e,⟨hl,_⟩,h⟩:=hv
 subst e
 cases hx:xs with
 | nil =>
  cases ad with
  | none=>rfl
  | some a =>
   have:len=0:=by rw[hl,hx];rfl
   subst this
   exact run_bytesToString w a 0 cap [] (by rfl)
 | cons y ys =>
  obtain⟨b,hb,_⟩:=h 0 (by rw[hx];simp)
  subst hb
  have hlen:len=(xs.map (Value.int .u8)).length:=by rw[hl];simp
  have hrow:=run_loadCells_list (P:=P) w b (xs.map (Value.int .u8)) (fun j u hu=>by
   rw[List.getElem?_map]at hu
   rcases Nat.lt_or_ge j xs.length with hj | hj
   ·obtain⟨b',hb',hc⟩:=h j hj
    cases hb'
    simp only[Vcells,Ty.size,Nat.mul_one,Nat.add_zero]at hc
    rw[List.getElem?_eq_getElem hj]at hu
    cases hu
    exact hG _ _ rfl hc
   ·rw[List.getElem?_eq_none hj]at hu
    cases hu)
  rw[←hlen]at hrow
  have:=run_bytesToString (P:=P) w b len cap xs hrow
  rw[W3]at this
  rw[this,hx]
  rfl
theorem U0{P:Program}{Bw:Nat→Prop}{w0:Base P}{w:World}{ρ:Nat→Option Value}{φ:Nat→Nat→Prop}{h:Nat→Option Obj}(m:Mem Bw w0 ρ φ h w){st dt:TypeId}{si di:TI}
  (hs:TIok P st si) (hd:TIok P dt di) (he:∀e,si.k = .sl e→P.underlying e=some (.int .u8)) {x r:AVal} (hc:conv si.k di.k h x=some r) {u:Value}
  (hu:V (Fr (own φ h) Bw w) ρ x u):∃z,(convert st dt u).run P w = .ok z w∧V (Fr (own φ h) Bw w) ρ r z:=by
 obtain⟨ds,h1,h2⟩:=hs.hu
 obtain⟨dd,h3,h4⟩:=hd.hu
 unfold conv at hc
 split at hc
 ·rw[cC hu]
  split at hc
  ·rename_i k e
   cases hc
   rw[e]at h4
   simp only[UK]at h4
   subst h4
   refine⟨_,?_,dO _ _ _⟩
   simp only[convert,Sem.run_bind,run_underlying h1,run_underlying h3,Result.andThen_ok]
   cases ds <;> rfl
  ·rename_i e
   cases hc
   rw[e]at h4
   simp only[UK]at h4
   subst h4
   refine⟨_,?_,H8 _ _⟩
   simp only[convert,Sem.run_bind,run_underlying h1,run_underlying h3,Result.andThen_ok]
   cases ds <;> rfl
  ·cases hc
 ·obtain⟨a,rfl,ha⟩:=C4 hu
  split at hc
  ·rename_i e
   cases hc
   rw[e]at h4
   simp only[UK]at h4
   subst h4
   subst ha
   refine⟨_,?_,H8 _ _⟩
   simp only[convert,Sem.run_bind,run_underlying h1,run_underlying h3,Result.andThen_ok]
   cases ds <;> rfl
  ·cases hc
 ·rw[rO hu]
  split at hc
  ·rename_i e
   cases hc
   rw[e]at h4
   simp only[UK]at h4
   subst h4
   refine⟨_,?_,oL _ _⟩
   simp only[convert,Sem.run_bind,run_underlying h1,run_underlying h3,Result.andThen_ok]
   cases ds <;> rfl
  ·cases hc
 ·split at hc
  ·rename_i xs _ _ e q e1 e2
   cases hc
   rw[e1]at h2;rw[e2]at h4
   simp only[UK]at h2 h4
   subst h2 h4
   simp only[V]at hu
   refine⟨_,?_,oL _ _⟩
   have:=qL (P:=P) (w:=w) (fun a v h1 h=>World.peek_cell h.2.2 h1) hu.2
   obtain⟨_,_,_,eu,_⟩:=hu.2
   subst eu
   rw[run_convert_bytes_string w st dt _ _ _ _ h1 (he _ e1) h3]
   exact this
  ·cases hc
 ·rename_i id
  split at hc
  ·rename_i te xs hi e1 e2
   cases hc
   rw[e1]at h2;rw[e2]at h4
   simp only[UK]at h2 h4
   subst h2 h4
   obtain⟨u',q1,q2⟩:=m.ob id _ hi
   simp only[V]at hu
   rw[hu.1]at q1
   cases q1
   obtain⟨_,_,cells,r1,r2⟩:=q2
   have hv:=pV (F':=fun _ a v=>w.peek a=some v) (ρ':=ρ) r1 r2 false (fun a v h=>h.2.2) (fun a v _ h=>World.cell_peek h)
   simp only[V]at hv
   refine⟨_,?_,oL _ _⟩
   have:=qL (P:=P) (w:=w) (fun a v h1 h=>World.peek_cell h h1) hv.2
   obtain⟨_,_,_,eu,_⟩:=hv.2
   subst eu
   rw[run_convert_bytes_string w st dt _ _ _ _ h1 (he _ e1) h3]
   exact this
  ·rename_i xs hi e1 e2
   cases hc
   rw[e1]at h2;rw[e2]at h4
   simp only[UK]at h2 h4
   subst h2 h4
   obtain⟨u',q1,q2⟩:=m.ob id _ hi
   simp only[V]at hu
   rw[hu.1]at q1
   cases q1
   simp only[OR,V]at q2
   refine⟨_,?_,oL _ _⟩
   have:=qL (P:=P) (w:=w) (fun a v h1 h=>World.peek_cell h.2.2 h1) q2.2
   obtain⟨_,_,_,eu,_⟩:=q2.2
   subst eu
   rw[run_convert_bytes_string w st dt _ _ _ _ h1 (he _ e1) h3]
   exact this
  ·rename_i te xs hi e1 e2
   cases hc
   rw[e1]at h2;rw[e2]at h4
   simp only[UK]at h2 h4
   subst h2 h4
   obtain⟨u',q1,q2⟩:=m.ob id _ hi
   simp only[V]at hu
   rw[hu.1]at q1
   cases q1
   have hv:=aC3 (ρ':=ρ) q2
   simp only[V]at hv
   refine⟨_,?_,oL _ _⟩
   have:=qL (P:=P) (w:=w) (fun a v _ h=>h) hv.2
   obtain⟨_,_,_,eu,_⟩:=hv.2
   subst eu
   rw[run_convert_bytes_string w st dt _ _ _ _ h1 (he _ e1) h3]
   exact this
  ·cases hc
 ·split at hc
  ·rename_i e1 e2
   cases hc
   rw[e1]at h2;rw[e2]at h4
   simp only[UK]at h2 h4
   subst h2 h4
   simp only[V]at hu
   subst hu
   refine⟨_,?_,oL _ _⟩
   rw[run_convert_bytes_string w st dt _ _ _ _ h1 (he _ e1) h3]
   rfl
  ·cases hc
 ·cases hc
end Go.Tv
