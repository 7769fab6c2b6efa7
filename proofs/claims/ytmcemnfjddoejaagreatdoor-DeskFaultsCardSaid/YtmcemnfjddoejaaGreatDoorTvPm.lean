import Derived.Test.YtmcemnfjddoejaaGreatDoorTvO
namespace Go.Tv
open Go Go.RowKit
structure R{P:Program}(n:NS)(Bw:Nat→Prop)(w0:cu P)(σ:St)(a:Act)(w:World):Prop where
 ex:∃ρ φ,Mem Bw w0 ρ φ σ.h w∧bT n (Fr (own φ σ.h) Bw w) ρ σ.s a∧∀id u,ρ id=some u→id<σ.nx
 pn:∀i u,w0.pd i=some u→i<σ.pn
def W(P:Program)(n:NS)(Bw:Nat→Prop)(w0:cu P)(c:Code)(σ:St)(Q:Exit→St→Prop):Prop :=
 ∀a w,R n Bw w0 σ a w→c.wp P (fun e j w'=>∃σ',R n Bw w0 σ' j w'∧Q e σ') a w
section
variable{P:Program}{n:NS}{Bw:Nat→Prop}{w0:cu P}{Q Q':Exit→St→Prop}{σ:St}
theorem W.mono{c:Code}(h:W P n Bw w0 c σ Q)(j:∀e σ',Q e σ'→Q' e σ'):W P n Bw w0 c σ Q':=fun a w z =>
 wp_mono (h a w z) fun e _ w' ⟨σ',B,D⟩=>⟨σ',B,j _ _ D⟩
theorem Mn(h:Q .normal σ):W P n Bw w0 .skip σ Q:=fun _ _ c=>wp_skip ⟨σ,c,h⟩
theorem au(h:Q .ret σ):W P n Bw w0 .ret σ Q:=fun _ _ c=>wp_ret ⟨σ,c,h⟩
theorem Mp{id:Nat}(h:Q (.exit id) σ):W P n Bw w0 (.exit id) σ Q:=fun _ _ c=>wp_exit ⟨σ,c,h⟩
def zx(P:Program)(n:NS)(Bw:Nat→Prop)(w0:cu P)(d:Code)(Q:Exit→St→Prop):Exit→St→Prop
 | .normal,σ=>W P n Bw w0 d σ Q
 | e,σ=>Q e σ
theorem af{c d:Code}(h:W P n Bw w0 c σ (zx P n Bw w0 d Q)):W P n Bw w0 (.seq c d) σ Q:=fun a w p =>
 wp_seq (wp_mono (h a w p) fun e q w' ⟨σ',f,j⟩=>by
  cases e with
  | normal=>exact j q w' f
  | _=>exact⟨σ',f,j⟩)
theorem Ed{c:Operand}{x y:Code}{β b:Bool}(j:ev σ.s c = .p β .bool b)(q:b=true→W P n Bw w0 x σ Q)(u:b=false→W P n Bw w0 y σ Q):W P n Bw w0 (.cond c x y) σ Q:=fun a w e=>by
 obtain⟨ρ,φ,_,v,_⟩:=e.ex;have f:=aX v c;rw[j]at f;refine wp_cond (kq f) ?_;cases b with
 | true=>exact q rfl a w e
 | false=>exact u rfl a w e
def lE(id:Nat)(Q:Exit→St→Prop):Exit→St→Prop
 | .exit c,σ=>if c=id then Q .normal σ else Q (.exit c) σ
 | e,σ=>Q e σ
theorem ak{id:Nat}{c:Code}(h:W P n Bw w0 c σ (lE id Q)):W P n Bw w0 (.block id c) σ Q:=fun a w p =>
 wp_block (wp_mono (h a w p) fun e u v ⟨σ',j,f⟩=>by
  cases e with
  | exit q =>
   simp only[lE]at f;simp only[Exit.inBlock];split at f
   ·rename_i e;rw[if_pos e];exact⟨σ',j,f⟩
   ·rename_i e;rw[if_neg e];exact⟨σ',j,f⟩
  | _=>exact⟨σ',j,f⟩)
theorem BG(p:Nat→Prop)(h:∃k,p k):∃k,p k∧∀m,p m→k≤m:=by
 obtain⟨k,hk⟩:=h;induction k using Nat.strongRecOn with
 | _ k j =>
  by_cases f:∃m,m<k∧p m
  ·obtain⟨m,c,e⟩:=f;exact j m c e
  ·exact⟨k,hk,fun m e=>Nat.le_of_not_lt fun c=>f ⟨m,c,e⟩⟩
def Le(n:NS)(σ σ':St):Prop:=∀(P:Program) Bw (w0:cu P) a w,R n Bw w0 σ a w→R n Bw w0 σ' a w
theorem Le.refl(σ:St):Le n σ σ:=fun _ _ _ _ _ h=>h
theorem Le.trans{σ1 c e:St}(h:Le n σ1 c)(k:Le n c e):Le n σ1 e:=fun _ _ _ _ _ j=>k _ _ _ _ _ (h _ _ _ _ _ j)
theorem JX{σ':St}{c:Code}(hl:Le n σ σ')(h:W P n Bw w0 c σ' Q):W P n Bw w0 c σ Q:=fun a w e=>h a w (hl _ _ _ _ _ e)
def LH{α:Type}(n:NS)(Inv:Nat→α→Prop)(f:α→St)(k:Nat)(Q:Exit→St→Prop):Exit→St→Prop
 | .normal,σ=>∃m y,m<k∧Inv m y∧Le n σ (f y)
 | e,σ=>Q e σ
theorem L9{α:Type}{c:Code}(Inv:Nat→α→Prop)(f:α→St)(h:∀k x,Inv k x→W P n Bw w0 c (f x) (LH n Inv f k Q)){k:Nat}{x:α}(I:Inv k x)(hl:Le n σ (f x)):
  W P n Bw w0 (.loop c) σ Q:=fun a w J=>by
 let p:Act→World→Nat→Prop:=fun a w k=>∃x,Inv k x∧R n Bw w0 (f x) a w
 have A:∀a w,(∃k,p a w k)→∃k,p a w k∧∀m,p a w m→k≤m:=fun a w=>BG (p a w)
 classical
 let u:Act→World→Nat:=fun a w=>if h:∃k,p a w k then(A a w h).choose else 0
 have q:∀a w (h:∃k,p a w k),p a w (u a w)∧∀m,p a w m→u a w≤m:=fun a w h=>by simp only[u,dif_pos h];exact(A a w h).choose_spec
 refine Go.wp_loop (fun a w=>∃k,p a w k) u ⟨k,x,I,hl _ _ _ _ _ J⟩ fun a w hi=>?_
 obtain⟨⟨x,L,M⟩,_⟩:=q a w hi;refine wp_mono (h _ x L a w M) fun e B C ⟨σ',D,E⟩=>?_
 cases e with
 | normal =>
  obtain⟨m,y,N,v,z⟩:=E;have j:p B C m:=⟨y,v,z _ _ _ _ _ D⟩;exact⟨⟨m,j⟩,Nat.lt_of_le_of_lt ((q B C ⟨m,j⟩).2 m j) N⟩
 | _=>exact⟨σ',D,E⟩
theorem Dr{tb:bP}(c:bV P tb)(an:An){id:Nat}{ops:Array Oper}{q:Nat→ag}{h':Nat→Qz}{v:List Prop}(C:GZ P tb an n σ.nx ops ops.toList 0 σ.s σ.h=some (q,h',v))(D:pz v)
  (E:Q .normal ⟨q,h',σ.nx+8*ops.size,σ.pn⟩):W P n Bw w0 (.region id ops false) σ Q:=fun a w x=>by
 obtain⟨ρ,φ,I,J,L⟩:=x.ex;refine wp_region ?_;have:=xH (P:=P) (tb:=tb) (an:=an) (n:=n) (base:=σ.nx) (ops:=ops) (Bw:=Bw) (w0:=w0) c (Q:=fun e z A=>∃σ',R n Bw w0 σ' z A∧Q e σ') ops.toList 0 (a:=a) (w:=w)
  ⟨ρ,φ,I,J,fun id u hu=> .inl (L id u hu)⟩ (fun j=>by simp) C D (fun z A M=>⟨_,?_,E⟩)
 ·rw[←List.range_eq_range']at this;simpa using this
 ·obtain⟨f,p,N,O,B⟩:=M.ex;refine⟨⟨f,p,N,O,fun id u hu=>?_⟩,x.pn⟩;simp only[Array.length_toList]at B;rcases B id u hu with V | ⟨i,j,V,X,Y⟩ <;> simp only <;> omega
theorem vE{tb:bP}(c:bV P tb)(an:An)(r:Nat){id:Nat}{ops:Array Oper}{q:Nat→ag}{h':Nat→Qz}{x:List Prop}{y:Value}(D:pE P tb an n σ.nx ops r ops.toList 0 σ.s σ.h=some (q,h',x,y))(E:pz x)
  (I:Q (.panic [{ v:=y,recovered:=false }]) ⟨q,h',σ.nx+8*ops.size,σ.pn⟩):W P n Bw w0 (.region id ops false) σ Q:=fun a w z=>by
 obtain⟨ρ,φ,J,L,M⟩:=z.ex;refine wp_region ?_;have:=rZ (P:=P) (tb:=tb) (an:=an) (n:=n) (base:=σ.nx) (ops:=ops) (Bw:=Bw) (w0:=w0) c (Q:=fun e A B=>∃σ',R n Bw w0 σ' A B∧Q e σ') r ops.toList 0 (a:=a) (w:=w)
  ⟨ρ,φ,J,L,fun id u hu=> .inl (M id u hu)⟩ (fun j=>by simp) D E (fun A B N=>⟨_,?_,I⟩)
 ·rw[←List.range_eq_range']at this;simpa using this
 ·obtain⟨f,p,O,V,C⟩:=N.ex;refine⟨⟨f,p,O,V,fun id u hu=>?_⟩,z.pn⟩;simp only[Array.length_toList]at C;rcases C id u hu with X | ⟨i,j,X,Y,Z⟩ <;> simp only <;> omega
def rj(c:List (QV×QV))(i:Nat):QV:=match c[i]? with | some p=>p.1 | none=>[]
def rS(c:List (QV×QV))(i:Nat):QV:=match c[i]? with | some p=>p.2 | none=>[]
theorem vt{tb:bP}{an:An}{base:Nat}{ops:Array Oper}:∀(l:List Oper) (k:Nat) {s f:Nat→ag} {h h':Nat→Qz} {j:List Prop} {e:List (QV×QV)},Dz P tb an n base ops l k s h=some (f,h',j,e)→e.length=l.length
 | [],_,_,_,_,_,_,_,c=>by cases c;rfl
 | o::l,k,s,f,h,h',j,e,c=>by
  simp only[Dz]at c;split at c
  ·split at c
   ·rename_i p;cases c;simp[vt l (k+1) p]
   ·cases c
  ·cases c
theorem L1{tb:bP}(z:bV P tb)(X:P.follows .mixedOrders=true)(an:An){id:Nat}{ops:Array Oper}{v:Nat→ag}{h':Nat→Qz}{J:List Prop}{e:List (QV×QV)}
  (L:Dz P tb an n σ.nx ops ops.toList 0 σ.s σ.h=some (v,h',J,e)) (Y:Hm ops (rj e) (rS e) (qv ops) ops.size 0 (Array.replicate ops.size false)=true) (Z:pz J)
  (hq:Q .normal ⟨v,h',σ.nx+8*ops.size,σ.pn⟩):W P n Bw w0 (.region id ops true) σ Q:=fun a w M=>by
 obtain⟨ρ,φ,q1,q2,q3⟩:=M.ex;obtain⟨A,qF⟩:=q1.drew;have N:=vt ops.toList 0 L;refine wp_region_any X ?_;have hA:=DD (P:=P) (tb:=tb) (an:=an) (n:=n) (base:=σ.nx) (ops:=ops) (F:=rj e) (W:=rS e) (Q:=fun s h=>s=v∧h=h') ops.toList 0 (Array.replicate ops.size false) (fun j=>by simp)
  (fun j=>by
   simp only[Nat.zero_add];split
   ·rename_i B;have c:j<e.length:=by omega
    simp[rj,c]
   ·rename_i B;have c:e.length≤j:=by omega
    simp[List.getElem?_eq_none c])
  (fun j=>by
   simp only[Nat.zero_add];split
   ·rename_i B;have c:j<e.length:=by omega
    simp[rS,c]
   ·rename_i B;have c:e.length≤j:=by omega
    simp[List.getElem?_eq_none c])
  (fun k o hk hl=>by simp[Array.getD]at hl) (by simpa using Y) L Z ⟨rfl,rfl⟩
 have C:Ht P tb an n σ.nx ops (rj e) (rS e) (fun s h=>s=v∧h=h') ops.size (Array.replicate ops.size false) σ.s σ.h:=by simpa using hA
 refine qL (P:=P) (tb:=tb) (an:=an) (n:=n) (base:=σ.nx) (ops:=ops) (Bw:=Bw) (w0:=w0) z (fun s h a w D f=>?_) ops.size _ (by simp) ⟨ρ,φ,A,q2.mono qF (fun _ _ h=>h),fun id u hu=> .inl (q3 id u hu)⟩ C;obtain⟨rfl,rfl⟩:=D;obtain⟨E,I,r1,r2,r3⟩:=f.ex;refine⟨⟨s,h,σ.nx+8*ops.size,σ.pn⟩,⟨⟨E,I,r1,r2,fun id u hu=>?_⟩,M.pn⟩,hq⟩;rcases r3 id u hu with h1 | ⟨i,j,h1,h2,h3⟩ <;> simp only <;> omega
/-! ### x O: V is dead is dropped,p get new q -/
def aA(l:List (Nat×ag))(m:Qw)(nx:Nat)(pn:Nat:=0):St:=⟨fun t=>(look l t).getD .unk,fun i=>look m i,nx,pn⟩
def qQ(f:Nat→Nat)(s:Nat→ag):List (Nat×ag)→Prop
 | []=>True
 | (t,x)::r=>s t=mv f x∧qQ f s r
def qO(f:Nat→Nat)(h:Nat→Qz):Qw→Prop
 | []=>True
 | (i,o)::r=>h (f i)=some (om f o)∧qO f h r
theorem qQ.get{f:Nat→Nat}{s:Nat→ag}:∀ {l:List (Nat×ag)},qQ f s l→∀ {t x},(t,x)∈l→s t=mv f x
 | (_,_)::_,h,t,x,c=>by
  rcases List.mem_cons.1 c with e | c
  ·cases e;exact h.1
  ·exact qQ.get h.2 c
theorem qO.get{f:Nat→Nat}{h:Nat→Qz}:∀ {l:Qw},qO f h l→∀ {t x},(t,x)∈l→h (f t)=some (om f x)
 | (_,_)::_,h,t,x,c=>by
  rcases List.mem_cons.1 c with e | c
  ·cases e;exact h.1
  ·exact qO.get h.2 c
def kK(f:Nat→Nat)(l:List (Nat×ag))(m:Qw)(nx pn:Nat):Bool :=
 (List.range pn).all (fun i=>f i == i && decide (i<nx)) &&
 l.all (fun p=>(ids p.2).all (· < nx)) && m.all (fun p=>decide (p.1<nx) && (o8 p.2).all (· < nx)) && m.all (fun p=>m.all fun q=>p.1 == q.1 || !(f p.1 == f q.1))
theorem MK(f:Nat→Nat){l:List (Nat×ag)}{m:Qw}{nx:Nat}(hs:qQ f σ.s l)(ho:qO f σ.h m)(N:kK f l m nx σ.pn=true):Le n σ (aA l m nx σ.pn):=fun P Bw w0 a w hr=>by
 obtain⟨ρ,φ,E,q2,q3⟩:=hr.ex;simp only[kK,Bool.and_eq_true,List.all_eq_true,decide_eq_true_eq,Bool.or_eq_true,beq_iff_eq,Bool.not_eq_true',beq_eq_false_iff_ne]at N;obtain⟨⟨⟨k0,k1⟩,k2⟩,k3⟩:=N;let ρ':Nat→QW:=fun i=>if i<nx then ρ (f i)else none
 let I:Nat→Nat→Prop:=fun i=>φ (f i)
 have c:∀i,i<nx→ρ' i=ρ (f i):=fun i hi=>by simp only[ρ',if_pos hi]
 have p:∀i o,look m i=some o→σ.h (f i)=some (om f o)∧i<nx∧∀j∈o8 o,j<nx:=fun i o hi=>by have J:=m6 hi;exact⟨qO.get ho J,(k2 _ J).1,(k2 _ J).2⟩
 have q:∀o,(om f o).live=o.live:=fun o=>gJ
 have D:∀k,own I (fun i=>look m i) k→own φ σ.h k:=by rintro k ⟨id,o,L,O,h4⟩;obtain⟨X,p2,_⟩:=p id o L;exact⟨f id,_,X,by rw[q];exact O,h4⟩
 have C:∀β a v,Fr (own φ σ.h) Bw w β a v→Fr (own I (fun i=>look m i)) Bw w β a v:=fun β a v h=>⟨fun x=>h.1 (D _ x),h.2⟩
 refine⟨⟨ρ',I,⟨fun id o a1=>?_,fun id o k L O h3=>E.lt _ _ k (p id o L).1 (by rw[q];exact O) h3,fun id z o o' k L O h3 h4 h5 h6=>?_,E.bw,fun k hk=>E.ow k (D k hk),E.kp,fun i u hi=>?_⟩,⟨q2.tm,q2.df,fun t=>?_⟩,fun id u hu=>?_⟩,hr.pn⟩
 ·obtain⟨X,p2,p3⟩:=p id o a1;obtain⟨u,r1,B⟩:=E.ob _ _ X;refine⟨u,by rw[c id p2];exact r1,?_⟩;cases o with
  | arr e A M=>exact OR.mono (ρ:=ρ) (ρ':=ρ) (w:=w) (o:= .arr e A M) C (fun _ _ h=>h) (fun _ h=>h) (fun _ _ _=>rfl) B
  | fz A M =>
   simp only[om,OR]at B ⊢;exact rC rfl (V.mono C (fun _ _ h=>h) B)
  | mat e e2 A a3 hole=>exact E8 (fun k z e=>c z (p3 z (by subst e;simp[o8]))) (OR.mono (ρ:=ρ) (ρ':=ρ) (w:=w) C (fun _ _ h=>h) (fun _ h=>h) (fun _ _ _=>rfl) B)
  | mpo K A kv=>exact OR.mono (ρ:=ρ) (ρ':=ρ) (w:=w) (o:= .mpo K A kv) C (fun _ _ h=>h) (fun _ h=>h) (fun _ _ _=>rfl) B
  | mpl K kv=>exact OR.mono (ρ:=ρ) (ρ':=ρ) (w:=w) (o:= .mpl K kv) C (fun _ _ h=>h) (fun _ h=>h) (fun _ _ _=>rfl) B
  | cutz A M =>
   simp only[om,OR]at B ⊢;exact⟨B.1,rC rfl (V.mono C (fun _ _ h=>h) B.2)⟩
  | bytes e M=>exact OR.mono (ρ:=ρ) (ρ':=ρ) (w:=w) (o:= .bytes e M) C (fun _ _ h=>h) (fun _ h=>h) (fun _ _ _=>rfl) B
  | mpq b kv=>exact B
  | nds e e2 ns hole =>
   have r3:=OR.mono (ρ:=ρ) (ρ':=ρ) (w:=w) C (fun _ _ h=>h) (fun _ h=>h) (fun _ _ _=>rfl) B;match hole with
   | none=>exact vb r3
   | some (k,g,z)=>exact u5 (c z (p3 z (by simp[o8]))) r3
  | lmp k n M cs =>
   obtain⟨g,t,cells,e,Y,Z,s2,s3,s4⟩:=B;refine⟨g,t,cells,e,Y,Z,by rw[s2,bE],s3,?_⟩;exact mN (fun i hi=>c i (p3 i (by simpa only [o8]using hi))) (VL.mono C (fun _ _ h=>h) (fun _ _ h=>h) s4)
  | vrow n sz cs =>
   obtain⟨g,t,cells,e,Y,Z,s2,s3,s4⟩:=B;refine⟨g,t,cells,e,Y,Z,by rw[s2,bE],by rw[←s3,bE],?_⟩;exact mN (fun i hi=>c i (p3 i (by simpa only [o8]using hi))) (VL.mono C (fun _ _ h=>h) (fun _ _ h=>h) s4)
  | box cs =>
   obtain⟨g,t,cells,e,Y,Z,s2,s3⟩:=B;refine⟨g,t,cells,e,Y,Z,by rw[s2,bE],?_⟩;exact mN (fun i hi=>c i (p3 i (by simpa only [o8]using hi))) (VL.mono C (fun _ _ h=>h) (fun _ _ h=>h) s3)
 ·obtain⟨X,p2,_⟩:=p id o L;obtain⟨a2,a4,_⟩:=p z o' h3;have:=E.dj _ _ _ _ k X (by rw[q];exact O) a2 (by rw[q];exact h4) h5 h6;rcases k3 _ (m6 L) _ (m6 h3)with e | e
  ·exact e
  ·exact absurd this e
 ·have:=k0 i (List.mem_range.2 (hr.pn i u hi));rw[c i this.2,this.1];exact E.pd i u hi
 ·simp only[aA];cases hl:look l t with
  | none=>simp only[Option.getD_none,V]
  | some x =>
   have J:=m6 hl;have hv:=q2.sl t;rw[qQ.get hs J]at hv;simp only[Option.getD_some];exact Lc (fun i hi=>c i (k1 _ J i hi)) (V.mono C (fun _ _ h=>h) hv)
 ·simp only[ρ']at hu;split at hu
  ·assumption
  ·cases hu
end
def bc(β:Bool):List (Σ T:Ty,T.den)→List ag
 | []=>[]
 | ⟨T,x⟩::r=>enc β T x::bc β r
def aJ:List ag→ag
 | [x]=>x
 | xs=> .tup xs
def uc(tb:bP)(s:Nat→ag)(h:Nat→Qz):List ResultVar→Option (List ag)
 | []=>some []
 | .tmp t::r=>match uc tb s h r with
  | some xs=>some (s t::xs)
  | none=>none
 | .cell a t::r=>match s a with
  | .adr id i sz off=>match h id with
   | some (.box cs)=>match tb.find t with
    | some ti=>match eR ti cs (i*sz+off)with
     | some x=>match uc tb s h r with
      | some xs=>some (x::xs)
      | none=>none
     | none=>none
    | none=>none
   | _=>none
  | _=>none
def mQ(h:Nat→Qz):List ag→List Ty→Option (List (Σ T:Ty,T.den))
 | [],[]=>some []
 | x::xs,T::Ts=>if(cellsOf x).all ag.cell && kP T x then match HA T h x with
  | some (y,u)=>match mQ (apply u h) xs Ts with
   | some ys=>some (⟨T,y⟩::ys)
   | none=>none
  | none=>none
  else none
 | _,_=>none
def Mt(tb:bP)(f:List ResultVar)(c:List (Σ T:Ty,T.den)):Exit→St→Prop
 | .normal,σ=>∃e Ts,uc tb σ.s σ.h f=some e∧mQ σ.h e Ts=some c
 | .ret,σ=>∃e Ts,uc tb σ.s σ.h f=some e∧mQ σ.h e Ts=some c
 | _,_=>False
def ot(args:List ag):St:=⟨fun t=>(args[t]?).getD .unk,fun _=>none,0,0⟩
section
variable{P:Program}{tb:bP}{n:NS}{Bw:Nat→Prop}{w0:cu P}{w:World}{ρ:Nat→QW}{φ:Nat→Nat→Prop}{s:Nat→ag}{h:Nat→Qz}{a:Act}
theorem iW(p:bV P tb)(m:Mem Bw w0 ρ φ h w)(z:bT n (Fr (own φ h) Bw w) ρ s a):∀ {I:List ResultVar} {u:List ag},uc tb s h I=some u →
  ∃q,(I.mapM (fun r:ResultVar=>(match r with | .tmp t=>pure (a.tmps.getD t undef) | .cell B t=>(do loadVar t (←asAddr (a.tmps.getD B undef)):Sem Value)))).run P w = .ok q w∧iP (Fr (own φ h) Bw w) ρ u q
 | [],u,j=>by cases j;exact⟨[],rfl,trivial⟩
 | .tmp t::r,u,j=>by
  simp only[uc]at j;split at j
  ·rename_i C D;cases j;obtain⟨q,A,E⟩:=iW p m z D;refine⟨a.tmps.getD t undef::q,?_,z.sl t,E⟩;rw[List.mapM_cons,Sem.run_bind];simp only[Sem.run_pure,Result.andThen_ok,Sem.run_bind,A]
  ·cases j
 | .cell B t::r,u,j=>by
  simp only[uc]at j;split at j
  ·rename_i id i sz off e;split at j
   ·rename_i cs hi;split at j
    ·rename_i ti ht;split at j
     ·rename_i x L;split at j
      ·rename_i C D;cases j;obtain⟨q,A,E⟩:=iW p m z D;have J:=z.sl B;rw[e]at J;obtain⟨b,M,N⟩:=mT m J (cs:=cs) (off:=i*sz+off) (c:=True) (by simp only[kN,hi]) trivial;obtain⟨v,O,V⟩:=gx (P:=P) (p.find ht) N L;refine⟨v::q,?_,V,E⟩;rw[List.mapM_cons,Sem.run_bind];simp only[M,asAddr,Sem.run_bind,Sem.run_pure,Result.andThen_ok,O];simp only[asAddr]at A;rw[A];rfl
      ·cases j
     ·cases j
    ·cases j
   ·cases j
  ·cases j
theorem oQ:∀ {I:List ag} {Ts:List Ty} {h:Nat→Qz} {c:List (Σ T:Ty,T.den)} {A:QY},Mem Bw w0 ρ φ h w→mQ h I Ts=some c→iP (Fr (own φ h) Bw w) ρ I A →
  iP (fun _=>Fr gr Bw w false) js (bc false c) A
 | [],[],h,c,A,_,f,B=>by
  cases f;cases A with
  | nil=>trivial
  | cons _ _=>exact B.elim
 | x::I,T::Ts,h,c,A,m,f,B=>by
  simp only[mQ]at f;split at f
  ·rename_i L;split at f
   ·rename_i y u N;split at f
    ·rename_i ys O;cases f;cases A with
     | nil=>exact B.elim
     | cons v A =>
      obtain⟨X,Y,Z⟩:=nw m N;simp only[Bool.and_eq_true]at L;obtain⟨p,q⟩:=L;obtain⟨r1,r2,r3⟩:=fV p B.1;obtain⟨s1,s2⟩:=Z _ r1;refine⟨?_,oQ X O (iP.mono Y (fun _ _ h=>h) B.2)⟩;have C:ai (Fr gr Bw w false) T y (fun k u=>v.cells.toList[k]? = some u):=ai.mono (fun a u hh=>⟨fun e=>e,hh.2⟩) (fun _ _ h=>h) s1;by_cases j:∃M,x = .agg M
      ·obtain⟨M,rfl⟩:=j;have E:=B.1;simp only[V]at E;obtain⟨us,rfl,e2,e3⟩:=E;have z:T.scalar=false:=by simpa [kP]using q
       simp only[enc,z];simp only[Bool.false_eq_true,if_false,V];refine⟨us,rfl,?_,jJ false T y _ (ai.mono (fun _ _ h=>h) (fun k u hk=>by simpa [Value.cells]using hk) C)⟩;rw[eG,s2,e2];rfl
      ·have D:cellsOf x=[x]:=by cases x <;> first | rfl | exact(j ⟨_,rfl⟩).elim | cases q
       have z:T.scalar=true:=by cases x <;> first | exact q | exact(j ⟨_,rfl⟩).elim | cases q
       rw[D]at p;simp only[List.all_cons,List.all_nil,Bool.and_true]at p;have J:=fE (tM p B.1);simp only[enc,z,if_true,V];refine⟨trivial,?_⟩;rw[J]at C;refine ai.gB (fun k u hk hu=>?_) C;rw[Ty.fB z]at hk;obtain rfl:k=0:=by omega
       simp at hu;exact hu.symm
    ·cases f
   ·cases f
  ·cases f
 | [],_::_,_,_,_,_,f,_=>by cases f
 | _::_,[],_,_,_,_,f,_=>by cases f
theorem ji{F:Bool→Addr→Value→Prop}:∀ {xs:List ag} {c:QY},iP F ρ xs c→xs.length=c.length∧∀t:Nat,V F ρ ((xs[t]?).getD .unk) ((c[t]?).getD undef)
 | [],[],_=>⟨rfl,fun t=>by simp only[List.getElem?_nil,Option.getD_none,V]⟩
 | x::xs,v::c,h=>by
  obtain⟨e,j⟩:=ji h.2;refine⟨by simp[e],fun t=>?_⟩;cases t with
  | zero=>exact h.1
  | succ t=>simpa using j t
 | [],_::_,h=>h.elim
 | _::_,[],h=>h.elim
theorem lC{α β:Type}(f:α→Sem β)(l:Array α)(w:World){c:List β}(h:(l.toList.mapM f).run P w = .ok c w):(l.mapM f).run P w = .ok c.toArray w:=by
 rw[Array.mapM_eq_mapM_toList,Sem.run_map,h];rfl
def FU:Nat→Nat→Prop:=fun _ _=>False
theorem Pure.jH{f:FuncId}{fn:Func}{c:Code}(X:bV P tb)(hf:P.funcs[f]? = some fn)(p:(fn.name == "runtime.NumGoroutine")=false)(hb:fn.body=some c){args:List ag}(a2:args.length≤fn.ntmps)
  {j:List (Σ T:Ty,T.den)} (h:∀Bw w0,W P fn.ntmps Bw w0 c (ot args) (Mt tb fn.results.toList j)) (_:oZ args=true):Pure P f args (aJ (bc false j)):=by
 refine⟨⟨fn,hf,p,by rw[hb];rfl⟩,fun Bw w z L Y B=>calls_of_wp hf hb ?_⟩;have Z:∀β a v,Fr gr Bw w β a v→Fr (own FU (ot args).h) Bw w β a v:=fun β a v hh=>⟨fun⟨_,_,_,_,h3⟩=>h3,hh.2⟩
 obtain⟨hl,hg⟩:=ji B;have hR:R fn.ntmps Bw (lR L) (ot args) { tmps:=z++Array.replicate (fn.ntmps - z.size) undef,defers:=[] } w:=by
  refine⟨⟨js,FU,⟨fun id o h=>(by cases h),fun id o k h=>(by cases h),fun id a3 o o' k C=>(by cases C),Y,fun k ⟨_,_,_,_,h3⟩=>h3.elim,Kept.refl _,fun i u h=>(by cases h)⟩,⟨?_,rfl,fun t=>?_⟩,fun id u hu=>(by cases hu)⟩,fun i u h=>(by cases h)⟩
  ·have:z.size=args.length:=by rw[hl,Array.length_toList]
   simp only[Array.size_append,Array.size_replicate];omega
  ·have hv:=V.mono Z (fun _ _ h=>h) (hg t);simp only[ot];rcases Nat.lt_or_ge t z.size with q | q
   ·have e:(z++Array.replicate (fn.ntmps - z.size) undef).getD t undef=(z.toList[t]?).getD undef:=by simp[Array.getD_eq_getD_getElem?,Array.getElem?_append,q]
    rw[e];exact hv
   ·have:args[t]? = none:=List.getElem?_eq_none (by rw[hl,Array.length_toList];exact q);rw[this];simp only[Option.getD_none,V]
 refine wp_mono (h Bw (lR L) _ _ hR) fun e a' w' ⟨σ',a1,J⟩=>?_
 have key:∀xs Ts,uc tb σ'.s σ'.h fn.results.toList=some xs→mQ σ'.h xs Ts=some j→a'.defers=[]∧∃v,(results fn a'.tmps).run P w' = .ok v w' ∧
   ∃M,Ending.returned v = .returned M∧Below w.heap.size w w'∧V (fun _=>Fr gr Bw w' false) js (aJ (bc false j)) M:=fun xs Ts C N=>by
  obtain⟨ρ,φ,q1,q2,_⟩:=a1.ex;obtain⟨D,r1,r2⟩:=iW (P:=P) X q1 q2 C;have E:=oQ q1 N r2;have r4:=lC (P:=P) _ fn.results w' r1;refine⟨q2.df,(if h:D.toArray.size=1 then D.toArray[0]else .tuple D.toArray),?_,_,rfl,q1.kp.below,?_⟩
  ·unfold results;rw[Sem.run_bind];exact(congrArg (fun r=>Result.andThen r (fun a w'=>Sem.run P (pure (if h:a.size=1 then a[0]else Value.tuple a)) w')) r4).trans rfl
  ·have I:=(ji E).1;generalize bc false j=ys at E I ⊢;match ys,D,E with
   | [],[],_=>simp only[aJ,V];exact⟨#[],rfl,rfl,by simp only[VL]⟩
   | [y],[v],E=>exact E.1
   | y::y'::ys,v::M::D,E =>
    have:¬((v::M::D).toArray.size=1):=by simp
    rw[dif_neg this];simp only[aJ,V];refine⟨_,rfl,by simpa using I.symm,VL.mk fun k x hk=>?_⟩;have:=(ji E).2 k;rw[hk]at this;have O:k<(v::M::D).length:=by rw[←I];exact(List.getElem?_eq_some_iff.1 hk).1
    rw[List.getElem?_eq_getElem O]at this;exact⟨_,by simp[O],this⟩
 cases e with
 | normal =>
  obtain⟨xs,Ts,C,N⟩:=J;exact key xs Ts C N
 | ret =>
  obtain⟨xs,Ts,C,N⟩:=J;exact key xs Ts C N
 | exit _=>exact J.elim
 | goto _=>exact J.elim
 | panic _=>exact J.elim
 | outgrown=>exact J.elim
end
end Go.Tv
