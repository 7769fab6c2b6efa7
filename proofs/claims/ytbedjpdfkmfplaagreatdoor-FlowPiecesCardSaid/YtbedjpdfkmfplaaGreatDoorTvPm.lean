import Derived.Test.YtbedjpdfkmfplaaGreatDoorTvO
namespace Go.Tv
open Go Go.RowKit
structure R{P:Program}(n:NS)(Bw:Nat→Prop)(w0:cE P)(σ:St)(a:Act)(w:World):Prop where
 ex:∃ρ φ,Mem Bw w0 ρ φ σ.h w∧bV n (Fr (own φ σ.h) Bw w) ρ σ.s a∧∀id u,ρ id=some u→id<σ.nx
 pn:∀i u,w0.pk i=some u→i<σ.pn
def W(P:Program)(n:NS)(Bw:Nat→Prop)(w0:cE P)(c:Code)(σ:St)(Q:Exit→St→Prop):Prop :=
 ∀a w,R n Bw w0 σ a w→c.wp P (fun e j w'=>∃σ',R n Bw w0 σ' j w'∧Q e σ') a w
section
variable{P:Program}{n:NS}{Bw:Nat→Prop}{w0:cE P}{Q Q':Exit→St→Prop}{σ:St}
theorem W.mono{c:Code}(h:W P n Bw w0 c σ Q)(j:∀e σ',Q e σ'→Q' e σ'):W P n Bw w0 c σ Q':=fun a w z =>
 wp_mono (h a w z) fun e _ w' ⟨σ',B,D⟩=>⟨σ',B,j _ _ D⟩
theorem LB(h:Q .normal σ):W P n Bw w0 .skip σ Q:=fun _ _ e=>wp_skip ⟨σ,e,h⟩
theorem au(h:Q .ret σ):W P n Bw w0 .ret σ Q:=fun _ _ f=>wp_ret ⟨σ,f,h⟩
theorem Mf{id:Nat}(h:Q (.exit id) σ):W P n Bw w0 (.exit id) σ Q:=fun _ _ e=>wp_exit ⟨σ,e,h⟩
def Ac(P:Program)(n:NS)(Bw:Nat→Prop)(w0:cE P)(d:Code)(Q:Exit→St→Prop):Exit→St→Prop
 | .normal,σ=>W P n Bw w0 d σ Q
 | e,σ=>Q e σ
theorem af{c d:Code}(h:W P n Bw w0 c σ (Ac P n Bw w0 d Q)):W P n Bw w0 (.seq c d) σ Q:=fun a w q =>
 wp_seq (wp_mono (h a w q) fun e u w' ⟨σ',f,j⟩=>by
  cases e with
  | normal=>exact j u w' f
  | _=>exact⟨σ',f,j⟩)
theorem En{c:Operand}{x y:Code}{β b:Bool}(j:ev σ.s c = .p β .bool b)(q:b=true→W P n Bw w0 x σ Q)(u:b=false→W P n Bw w0 y σ Q):W P n Bw w0 (.cond c x y) σ Q:=fun a w e=>by
 obtain⟨ρ,φ,_,v,_⟩:=e.ex;have f:=ba v c;rw[j]at f;refine wp_cond (kL f) ?_;cases b with
 | true=>exact q rfl a w e
 | false=>exact u rfl a w e
def lR(id:Nat)(Q:Exit→St→Prop):Exit→St→Prop
 | .exit f,σ=>if f=id then Q .normal σ else Q (.exit f) σ
 | e,σ=>Q e σ
theorem ak{id:Nat}{c:Code}(h:W P n Bw w0 c σ (lR id Q)):W P n Bw w0 (.block id c) σ Q:=fun a w q =>
 wp_block (wp_mono (h a w q) fun e v z ⟨σ',j,f⟩=>by
  cases e with
  | exit u =>
   simp only[lR]at f;simp only[Exit.inBlock];split at f
   ·rename_i e;rw[if_pos e];exact⟨σ',j,f⟩
   ·rename_i e;rw[if_neg e];exact⟨σ',j,f⟩
  | _=>exact⟨σ',j,f⟩)
theorem DH(p:Nat→Prop)(h:∃k,p k):∃k,p k∧∀m,p m→k≤m:=by
 obtain⟨k,hk⟩:=h;induction k using Nat.strongRecOn with
 | _ k e =>
  by_cases f:∃m,m<k∧p m
  ·obtain⟨m,j,q⟩:=f;exact e m j q
  ·grind
def Le(n:NS)(σ σ':St):Prop:=∀(P:Program) Bw (w0:cE P) a w,R n Bw w0 σ a w→R n Bw w0 σ' a w
theorem Le.refl(σ:St):Le n σ σ:=fun _ _ _ _ _ h=>h
theorem Le.trans{σ1 e j:St}(h:Le n σ1 e)(k:Le n e j):Le n σ1 j:=fun _ _ _ _ _ q=>k _ _ _ _ _ (h _ _ _ _ _ q)
theorem J8{σ':St}{c:Code}(hl:Le n σ σ')(h:W P n Bw w0 c σ' Q):W P n Bw w0 c σ Q:=fun a w e=>h a w (hl _ _ _ _ _ e)
def Lv{α:Type}(n:NS)(Inv:Nat→α→Prop)(f:α→St)(k:Nat)(Q:Exit→St→Prop):Exit→St→Prop
 | .normal,σ=>∃m y,m<k∧Inv m y∧Le n σ (f y)
 | e,σ=>Q e σ
theorem LH{α:Type}{c:Code}(Inv:Nat→α→Prop)(f:α→St)(h:∀k x,Inv k x→W P n Bw w0 c (f x) (Lv n Inv f k Q)){k:Nat}{x:α}(E:Inv k x)(hl:Le n σ (f x)):
  W P n Bw w0 (.loop c) σ Q:=fun a w I=>by
 let p:Act→World→Nat→Prop:=fun a w k=>∃x,Inv k x∧R n Bw w0 (f x) a w
 have J:∀a w,(∃k,p a w k)→∃k,p a w k∧∀m,p a w m→k≤m:=fun a w=>DH (p a w)
 classical
 let u:Act→World→Nat:=fun a w=>if h:∃k,p a w k then(J a w h).choose else 0
 have q:∀a w (h:∃k,p a w k),p a w (u a w)∧∀m,p a w m→u a w≤m:=fun a w h=>by
  grind
 refine Go.wp_loop (fun a w=>∃k,p a w k) u ⟨k,x,E,hl _ _ _ _ _ I⟩ fun a w hi=>?_
 obtain⟨⟨x,L,M⟩,_⟩:=q a w hi;refine wp_mono (h _ x L a w M) fun e A B ⟨σ',C,D⟩=>?_
 cases e with
 | normal =>
  obtain⟨m,y,N,v,z⟩:=D;have j:p A B m:=⟨y,v,z _ _ _ _ _ C⟩;exact⟨⟨m,j⟩,Nat.lt_of_le_of_lt ((q A B ⟨m,j⟩).2 m j) N⟩
 | _=>exact⟨σ',C,D⟩
theorem BI{tb:bQ}(f:bY P tb)(an:An){id:Nat}{ops:Array Oper}{z:Nat→ag}{h':Nat→Qz}{A:List Prop}(I:Hn P tb an n σ.nx ops ops.toList 0 σ.s σ.h=some (z,h',A))(J:qj A)
  (L:Q .normal ⟨z,h',σ.nx+8*ops.size,σ.pn⟩):W P n Bw w0 (.region id ops false) σ Q:=fun a w B=>by
 obtain⟨ρ,φ,M,N,O⟩:=B.ex;refine wp_region ?_;have:=yn (P:=P) (tb:=tb) (an:=an) (n:=n) (base:=σ.nx) (ops:=ops) (Bw:=Bw) (w0:=w0) f (Q:=fun e C D=>∃σ',R n Bw w0 σ' C D∧Q e σ') ops.toList 0 (a:=a) (w:=w)
  ⟨ρ,φ,M,N,fun id u hu=> .inl (O id u hu)⟩ (fun j=>by simp) I J (fun C D V=>⟨_,?_,L⟩)
 ·rw[←List.range_eq_range']at this;simpa using this
 ·obtain⟨q,v,X,Y,E⟩:=V.ex;refine⟨⟨q,v,X,Y,fun id u hu=>?_⟩,B.pn⟩;simp only[Array.length_toList]at E;rcases E id u hu with Z | ⟨i,j,Z,h2,h3⟩ <;> simp only <;> omega
theorem vz{tb:bQ}(f:bY P tb)(an:An)(r:Nat){id:Nat}{ops:Array Oper}{A:Nat→ag}{h':Nat→Qz}{B:List Prop}{y:Value}(J:pK P tb an n σ.nx ops r ops.toList 0 σ.s σ.h=some (A,h',B,y))(L:qj B)
  (M:Q (.panic [{ v:=y,recovered:=false }]) ⟨A,h',σ.nx+8*ops.size,σ.pn⟩):W P n Bw w0 (.region id ops false) σ Q:=fun a w C=>by
 obtain⟨ρ,φ,N,O,V⟩:=C.ex;refine wp_region ?_;have:=sH (P:=P) (tb:=tb) (an:=an) (n:=n) (base:=σ.nx) (ops:=ops) (Bw:=Bw) (w0:=w0) f (Q:=fun e D E=>∃σ',R n Bw w0 σ' D E∧Q e σ') r ops.toList 0 (a:=a) (w:=w)
  ⟨ρ,φ,N,O,fun id u hu=> .inl (V id u hu)⟩ (fun j=>by simp) J L (fun D E X=>⟨_,?_,M⟩)
 ·rw[←List.range_eq_range']at this;simpa using this
 ·obtain⟨q,z,Y,Z,I⟩:=X.ex;refine⟨⟨q,z,Y,Z,fun id u hu=>?_⟩,C.pn⟩;simp only[Array.length_toList]at I;rcases I id u hu with h1 | ⟨i,j,h1,h2,h3⟩ <;> simp only <;> omega
def ry(e:List (QV×QV))(i:Nat):QV:=match e[i]? with | some p=>p.1 | none=>[]
def rU(e:List (QV×QV))(i:Nat):QV:=match e[i]? with | some p=>p.2 | none=>[]
theorem uV{tb:bQ}{an:An}{base:Nat}{ops:Array Oper}:∀(l:List Oper) (k:Nat) {s j:Nat→ag} {h h':Nat→Qz} {q:List Prop} {f:List (QV×QV)},Df P tb an n base ops l k s h=some (j,h',q,f)→f.length=l.length
 | [],_,_,_,_,_,_,_,e=>by cases e;rfl
 | o::l,k,s,j,h,h',q,f,e=>by
  simp only[Df]at e;split at e
  ·split at e
   ·rename_i u;cases e;simp[uV l (k+1) u]
   ·cases e
  ·cases e
theorem LK{tb:bQ}(C:bY P tb)(Z:P.follows .mixedOrders=true)(an:An){id:Nat}{ops:Array Oper}{A:Nat→ag}{h':Nat→Qz}{M:List Prop}{e:List (QV×QV)}
  (N:Df P tb an n σ.nx ops ops.toList 0 σ.s σ.h=some (A,h',M,e)) (hx:GZ ops (ry e) (rU e) (qI ops) ops.size 0 (Array.replicate ops.size false)=true) (hc:qj M)
  (hq:Q .normal ⟨A,h',σ.nx+8*ops.size,σ.pn⟩):W P n Bw w0 (.region id ops true) σ Q:=fun a w O=>by
 obtain⟨ρ,φ,q1,q2,q3⟩:=O.ex;obtain⟨D,qF⟩:=q1.drew;have V:=uV ops.toList 0 N;refine wp_region_any Z ?_;have hA:=Cl (P:=P) (tb:=tb) (an:=an) (n:=n) (base:=σ.nx) (ops:=ops) (F:=ry e) (W:=rU e) (Q:=fun s h=>s=A∧h=h') ops.toList 0 (Array.replicate ops.size false) (fun j=>by simp)
  (fun j=>by
   simp only[Nat.zero_add];split
   ·simp_all [ry]
   ·rename_i hj;have f:e.length≤j:=by omega
    simp[List.getElem?_eq_none f])
  (fun j=>by
   simp only[Nat.zero_add];split
   ·simp_all [rU]
   ·rename_i hj;have f:e.length≤j:=by omega
    simp[List.getElem?_eq_none f])
  (fun k o hk hl=>by simp[Array.getD]at hl) (by simpa using hx) N hc ⟨rfl,rfl⟩
 have E:Hl P tb an n σ.nx ops (ry e) (rU e) (fun s h=>s=A∧h=h') ops.size (Array.replicate ops.size false) σ.s σ.h:=by simpa using hA
 refine qN (P:=P) (tb:=tb) (an:=an) (n:=n) (base:=σ.nx) (ops:=ops) (Bw:=Bw) (w0:=w0) C (fun s h a w I q=>?_) ops.size _ (by simp) ⟨ρ,φ,D,q2.mono qF (fun _ _ h=>h),fun id u hu=> .inl (q3 id u hu)⟩ E;obtain⟨rfl,rfl⟩:=I;obtain⟨J,L,r1,r2,r3⟩:=q.ex;refine⟨⟨s,h,σ.nx+8*ops.size,σ.pn⟩,⟨⟨J,L,r1,r2,fun id u hu=>?_⟩,O.pn⟩,hq⟩;rcases r3 id u hu with h1 | ⟨i,j,h1,h2,h3⟩ <;> simp only <;> omega
/-! ### B X: Y is dead is dropped,v get new z -/
def aA(l:List (Nat×ag))(m:Qw)(nx:Nat)(pn:Nat:=0):St:=⟨fun t=>(look l t).getD .unk,fun i=>look m i,nx,pn⟩
def qQ(f:Nat→Nat)(s:Nat→ag):List (Nat×ag)→Prop
 | []=>True
 | (t,x)::r=>s t=mM f x∧qQ f s r
def qR(f:Nat→Nat)(h:Nat→Qz):Qw→Prop
 | []=>True
 | (i,o)::r=>h (f i)=some (oL f o)∧qR f h r
theorem qQ.get{f:Nat→Nat}{s:Nat→ag}:∀ {l:List (Nat×ag)},qQ f s l→∀ {t x},(t,x)∈l→s t=mM f x
 | (_,_)::_,h,t,x,j=>by
  rcases List.mem_cons.1 j with e | j
  ·cases e;exact h.1
  ·exact qQ.get h.2 j
theorem qR.get{f:Nat→Nat}{h:Nat→Qz}:∀ {l:Qw},qR f h l→∀ {t x},(t,x)∈l→h (f t)=some (oL f x)
 | (_,_)::_,h,t,x,j=>by
  rcases List.mem_cons.1 j with e | j
  ·cases e;exact h.1
  ·exact qR.get h.2 j
def lh(f:Nat→Nat)(l:List (Nat×ag))(m:Qw)(nx pn:Nat):Bool :=
 (List.range pn).all (fun i=>f i == i && decide (i<nx)) &&
 l.all (fun p=>(ids p.2).all (· < nx)) && m.all (fun p=>decide (p.1<nx) && (ph p.2).all (· < nx)) && m.all (fun p=>m.all fun q=>p.1 == q.1 || !(f p.1 == f q.1))
theorem M9(f:Nat→Nat){l:List (Nat×ag)}{m:Qw}{nx:Nat}(hs:qQ f σ.s l)(ho:qR f σ.h m)(X:lh f l m nx σ.pn=true):Le n σ (aA l m nx σ.pn):=fun P Bw w0 a w hr=>by
 obtain⟨ρ,φ,J,q2,q3⟩:=hr.ex;simp only[lh,Bool.and_eq_true,List.all_eq_true,decide_eq_true_eq,Bool.or_eq_true,beq_iff_eq,Bool.not_eq_true',beq_eq_false_iff_ne]at X;obtain⟨⟨⟨k0,k1⟩,k2⟩,k3⟩:=X;let ρ':Nat→QW:=fun i=>if i<nx then ρ (f i)else none
 let L:Nat→Nat→Prop:=fun i=>φ (f i)
 have q:∀i,i<nx→ρ' i=ρ (f i):=fun i hi=>by simp only[ρ',if_pos hi]
 have z:∀i o,look m i=some o→σ.h (f i)=some (oL f o)∧i<nx∧∀j∈ph o,j<nx:=fun i o hi=>by have M:=nf hi;exact⟨qR.get ho M,(k2 _ M).1,(k2 _ M).2⟩
 have B:∀o,(oL f o).live=o.live:=fun o=>gZ
 have I:∀k,own L (fun i=>look m i) k→own φ σ.h k:=by rintro k ⟨id,o,N,Y,h4⟩;obtain⟨Z,p2,_⟩:=z id o N;exact⟨f id,_,Z,by rw[B];exact Y,h4⟩
 have E:∀β a v,Fr (own φ σ.h) Bw w β a v→Fr (own L (fun i=>look m i)) Bw w β a v:=fun β a v h=>⟨fun x=>h.1 (I _ x),h.2⟩
 refine⟨⟨ρ',L,⟨fun id o a1=>?_,fun id o k N Y h3=>J.lt _ _ k (z id o N).1 (by rw[B];exact Y) h3,fun id C o o' k N Y h3 h4 h5 h6=>?_,J.bw,fun k hk=>J.ow k (I k hk),J.kp,fun i u hi=>?_⟩,⟨q2.tm,q2.df,fun t=>?_⟩,fun id u hu=>?_⟩,hr.pn⟩
 ·obtain⟨Z,p2,p3⟩:=z id o a1;obtain⟨u,r1,D⟩:=J.ob _ _ Z;refine⟨u,by rw[q id p2];exact r1,?_⟩;cases o with
  | arr e A O=>exact OR.mono (ρ:=ρ) (ρ':=ρ) (w:=w) (o:= .arr e A O) E (fun _ _ h=>h) (fun _ h=>h) (fun _ _ _=>rfl) D
  | fz A O =>
   simp only[oL,OR]at D ⊢;exact rE rfl (V.mono E (fun _ _ h=>h) D)
  | mat e e2 A a3 hole=>exact E5 (fun k C e=>q C (p3 C (by subst e;simp[ph]))) (OR.mono (ρ:=ρ) (ρ':=ρ) (w:=w) E (fun _ _ h=>h) (fun _ h=>h) (fun _ _ _=>rfl) D)
  | mpo K A kv=>exact OR.mono (ρ:=ρ) (ρ':=ρ) (w:=w) (o:= .mpo K A kv) E (fun _ _ h=>h) (fun _ h=>h) (fun _ _ _=>rfl) D
  | mpl K kv=>exact OR.mono (ρ:=ρ) (ρ':=ρ) (w:=w) (o:= .mpl K kv) E (fun _ _ h=>h) (fun _ h=>h) (fun _ _ _=>rfl) D
  | cutz A O =>
   simp only[oL,OR]at D ⊢;exact⟨D.1,rE rfl (V.mono E (fun _ _ h=>h) D.2)⟩
  | bytes e O=>exact OR.mono (ρ:=ρ) (ρ':=ρ) (w:=w) (o:= .bytes e O) E (fun _ _ h=>h) (fun _ h=>h) (fun _ _ _=>rfl) D
  | mpq b kv=>exact D
  | nds e e2 ns hole =>
   have r3:=OR.mono (ρ:=ρ) (ρ':=ρ) (w:=w) E (fun _ _ h=>h) (fun _ h=>h) (fun _ _ _=>rfl) D;match hole with
   | none=>exact u3 r3
   | some (k,g,C)=>exact vG (q C (p3 C (by simp[ph]))) r3
  | lmp k n O cs =>
   obtain⟨g,t,cells,e,sg,s1,s2,s3,s4⟩:=D;refine⟨g,t,cells,e,sg,s1,by rw[s2,bE],s3,?_⟩;exact m9 (fun i hi=>q i (p3 i (by simpa only [ph]using hi))) (VL.mono E (fun _ _ h=>h) (fun _ _ h=>h) s4)
  | vrow n sz cs =>
   obtain⟨g,t,cells,e,sg,s1,s2,s3,s4⟩:=D;refine⟨g,t,cells,e,sg,s1,by rw[s2,bE],by rw[←s3,bE],?_⟩;exact m9 (fun i hi=>q i (p3 i (by simpa only [ph]using hi))) (VL.mono E (fun _ _ h=>h) (fun _ _ h=>h) s4)
  | box cs =>
   obtain⟨g,t,cells,e,sg,s1,s2,s3⟩:=D;refine⟨g,t,cells,e,sg,s1,by rw[s2,bE],?_⟩;exact m9 (fun i hi=>q i (p3 i (by simpa only [ph]using hi))) (VL.mono E (fun _ _ h=>h) (fun _ _ h=>h) s3)
 ·obtain⟨Z,p2,_⟩:=z id o N;obtain⟨a2,a4,_⟩:=z C o' h3;have:=J.dj _ _ _ _ k Z (by rw[B];exact Y) a2 (by rw[B];exact h4) h5 h6;rcases k3 _ (nf N) _ (nf h3)with e | e
  ·exact e
  ·exact absurd this e
 ·have:=k0 i (List.mem_range.2 (hr.pn i u hi));rw[q i this.2,this.1];exact J.pk i u hi
 ·simp only[aA];cases hl:look l t with
  | none=>simp only[Option.getD_none,V]
  | some x =>
   have M:=nf hl;have hv:=q2.sl t;rw[qQ.get hs M]at hv;simp only[Option.getD_some];exact Li (fun i hi=>q i (k1 _ M i hi)) (V.mono E (fun _ _ h=>h) hv)
 ·simp only[ρ']at hu;split at hu
  ·assumption
  ·cases hu
end
def bg(β:Bool):List (Σ T:Ty,T.den)→List ag
 | []=>[]
 | ⟨T,x⟩::r=>enc β T x::bg β r
def aM:List ag→ag
 | [x]=>x
 | xs=> .tup xs
def uy(tb:bQ)(s:Nat→ag)(h:Nat→Qz):List ResultVar→Option (List ag)
 | []=>some []
 | .tmp t::r=>match uy tb s h r with
  | some xs=>some (s t::xs)
  | none=>none
 | .cell a t::r=>match s a with
  | .adr id i sz off=>match h id with
   | some (.box cs)=>match tb.find t with
    | some ti=>match fk ti cs (i*sz+off)with
     | some x=>match uy tb s h r with
      | some xs=>some (x::xs)
      | none=>none
     | none=>none
    | none=>none
   | _=>none
  | _=>none
def mS(h:Nat→Qz):List ag→List Ty→Option (List (Σ T:Ty,T.den))
 | [],[]=>some []
 | x::xs,T::Ts=>if(cellsOf x).all ag.cell && kY T x then match HE T h x with
  | some (y,u)=>match mS (apply u h) xs Ts with
   | some ys=>some (⟨T,y⟩::ys)
   | none=>none
  | none=>none
  else none
 | _,_=>none
def ME(tb:bQ)(j:List ResultVar)(e:List (Σ T:Ty,T.den)):Exit→St→Prop
 | .normal,σ=>∃f Ts,uy tb σ.s σ.h j=some f∧mS σ.h f Ts=some e
 | .ret,σ=>∃f Ts,uy tb σ.s σ.h j=some f∧mS σ.h f Ts=some e
 | _,_=>False
def oM(args:List ag):St:=⟨fun t=>(args[t]?).getD .unk,fun _=>none,0,0⟩
section
variable{P:Program}{tb:bQ}{n:NS}{Bw:Nat→Prop}{w0:cE P}{w:World}{ρ:Nat→QW}{φ:Nat→Nat→Prop}{s:Nat→ag}{h:Nat→Qz}{a:Act}
theorem ji(q:bY P tb)(m:Mem Bw w0 ρ φ h w)(A:bV n (Fr (own φ h) Bw w) ρ s a):∀ {J:List ResultVar} {z:List ag},uy tb s h J=some z →
  ∃u,(J.mapM (fun r:ResultVar=>(match r with | .tmp t=>pure (a.tmps.getD t undef) | .cell C t=>(do loadVar t (←asAddr (a.tmps.getD C undef)):Sem Value)))).run P w = .ok u w∧jf (Fr (own φ h) Bw w) ρ z u
 | [],z,j=>by cases j;exact⟨[],rfl,trivial⟩
 | .tmp t::r,z,j=>by
  simp only[uy]at j;split at j
  ·rename_i D E;cases j;obtain⟨u,B,I⟩:=ji q m A E;refine⟨a.tmps.getD t undef::u,?_,A.sl t,I⟩;rw[List.mapM_cons,Sem.run_bind];simp only[Sem.run_pure,Result.andThen_ok,Sem.run_bind,B]
  ·cases j
 | .cell C t::r,z,j=>by
  simp only[uy]at j;split at j
  ·rename_i id i sz off e;split at j
   ·rename_i cs hi;split at j
    ·rename_i ti ht;split at j
     ·rename_i x M;split at j
      ·rename_i D E;cases j;obtain⟨u,B,I⟩:=ji q m A E;have L:=A.sl C;rw[e]at L;obtain⟨b,N,O⟩:=m7 m L (cs:=cs) (off:=i*sz+off) (c:=True) (by simp only[ll,hi]) trivial;obtain⟨v,V,X⟩:=gP (P:=P) (q.find ht) O M;refine⟨v::u,?_,X,I⟩;rw[List.mapM_cons,Sem.run_bind];simp only[N,asAddr,Sem.run_bind,Sem.run_pure,Result.andThen_ok,V];simp only[asAddr]at B;rw[B];rfl
      ·cases j
     ·cases j
    ·cases j
   ·cases j
  ·cases j
theorem ox:∀ {L:List ag} {Ts:List Ty} {h:Nat→Qz} {f:List (Σ T:Ty,T.den)} {C:QY},Mem Bw w0 ρ φ h w→mS h L Ts=some f→jf (Fr (own φ h) Bw w) ρ L C →
  jf (fun _=>Fr gJ Bw w false) jF (bg false f) C
 | [],[],h,f,C,_,j,D=>by
  cases j;cases C with
  | nil=>trivial
  | cons _ _=>exact D.elim
 | x::L,T::Ts,h,f,C,m,j,D=>by
  simp only[mS]at j;split at j
  ·rename_i N;split at j
   ·rename_i y u X;split at j
    ·rename_i ys Y;cases j;cases C with
     | nil=>exact D.elim
     | cons v C =>
      obtain⟨Z,f1,g1⟩:=nq m X;simp only[Bool.and_eq_true]at N;obtain⟨z,A⟩:=N;obtain⟨r1,r2,r3⟩:=gv z D.1;obtain⟨s1,s2⟩:=g1 _ r1;refine⟨?_,ox Z Y (jf.mono f1 (fun _ _ h=>h) D.2)⟩;have E:ai (Fr gJ Bw w false) T y (fun k u=>v.cells.toList[k]? = some u):=ai.mono (fun a u hh=>⟨fun e=>e,hh.2⟩) (fun _ _ h=>h) s1;by_cases q:∃O,x = .agg O
      ·obtain⟨O,rfl⟩:=q;have J:=D.1;simp only[V]at J;obtain⟨us,rfl,e2,e3⟩:=J;have B:T.scalar=false:=by simpa [kY]using A
       simp only[enc,B];simp only[Bool.false_eq_true,if_false,V];refine⟨us,rfl,?_,jX false T y _ (ai.mono (fun _ _ h=>h) (fun k u hk=>by simpa [Value.cells]using hk) E)⟩;rw[eW,s2,e2];rfl
      ·have I:cellsOf x=[x]:=by cases x <;> first | rfl | exact(q ⟨_,rfl⟩).elim | cases A
       have B:T.scalar=true:=by cases x <;> first | exact A | exact(q ⟨_,rfl⟩).elim | cases A
       rw[I]at z;simp only[List.all_cons,List.all_nil,Bool.and_true]at z;have M:=fW (sT z D.1);simp only[enc,B,if_true,V];refine⟨trivial,?_⟩;rw[M]at E;refine ai.gV (fun k u hk hu=>?_) E;rw[Ty.fT B]at hk;obtain rfl:k=0:=by omega
       simp at hu;exact hu.symm
    ·cases j
   ·cases j
  ·cases j
 | [],_::_,_,_,_,_,j,_=>by cases j
 | _::_,[],_,_,_,_,j,_=>by cases j
theorem jh{F:Bool→Addr→Value→Prop}:∀ {xs:List ag} {e:QY},jf F ρ xs e→xs.length=e.length∧∀t:Nat,V F ρ ((xs[t]?).getD .unk) ((e[t]?).getD undef)
 | [],[],_=>⟨rfl,fun t=>by simp only[List.getElem?_nil,Option.getD_none,V]⟩
 | x::xs,v::e,h=>by
  obtain⟨j,q⟩:=jh h.2;refine⟨by simp[j],fun t=>?_⟩;cases t with
  | zero=>exact h.1
  | succ t=>simpa using q t
 | [],_::_,h=>h.elim
 | _::_,[],h=>h.elim
theorem mj{α β:Type}(f:α→Sem β)(l:Array α)(w:World){e:List β}(h:(l.toList.mapM f).run P w = .ok e w):(l.mapM f).run P w = .ok e.toArray w:=by
 simp_all [Array.mapM_eq_mapM_toList]
def Fw:Nat→Nat→Prop:=fun _ _=>False
theorem Pure.jZ{f:FuncId}{fn:Func}{c:Code}(Y:bY P tb)(hf:P.funcs[f]? = some fn)(z:(fn.name == "runtime.NumGoroutine")=false)(hb:fn.body=some c){args:List ag}(a3:args.length≤fn.ntmps)
  {j:List (Σ T:Ty,T.den)} (h:∀Bw w0,W P fn.ntmps Bw w0 c (oM args) (ME tb fn.results.toList j)) (_:oZ args=true):Pure P f args (aM (bg false j)):=by
 refine⟨⟨fn,hf,z,by rw[hb];rfl⟩,fun Bw w B M Z C=>calls_of_wp hf hb ?_⟩;have a1:∀β a v,Fr gJ Bw w β a v→Fr (own Fw (oM args).h) Bw w β a v:=fun β a v hh=>⟨fun⟨_,_,_,_,h3⟩=>h3,hh.2⟩
 obtain⟨hl,hg⟩:=jh C;have hR:R fn.ntmps Bw (lJ M) (oM args) { tmps:=B++Array.replicate (fn.ntmps - B.size) undef,defers:=[] } w:=by
  refine⟨⟨jF,Fw,⟨fun id o h=>(by cases h),fun id o k h=>(by cases h),fun id a4 o o' k D=>(by cases D),Z,fun k ⟨_,_,_,_,h3⟩=>h3.elim,Kept.refl _,fun i u h=>(by cases h)⟩,⟨?_,rfl,fun t=>?_⟩,fun id u hu=>(by cases hu)⟩,fun i u h=>(by cases h)⟩
  ·have:B.size=args.length:=by rw[hl,Array.length_toList]
   simp only[Array.size_append,Array.size_replicate];omega
  ·have hv:=V.mono a1 (fun _ _ h=>h) (hg t);simp only[oM];rcases Nat.lt_or_ge t B.size with q | q
   ·have e:(B++Array.replicate (fn.ntmps - B.size) undef).getD t undef=(B.toList[t]?).getD undef:=by simp[Array.getD_eq_getD_getElem?,Array.getElem?_append,q]
    rw[e];exact hv
   ·have:args[t]? = none:=List.getElem?_eq_none (by rw[hl,Array.length_toList];exact q);rw[this];simp only[Option.getD_none,V]
 refine wp_mono (h Bw (lJ M) _ _ hR) fun e a' w' ⟨σ',a2,L⟩=>?_
 have key:∀xs Ts,uy tb σ'.s σ'.h fn.results.toList=some xs→mS σ'.h xs Ts=some j→a'.defers=[]∧∃v,(results fn a'.tmps).run P w' = .ok v w' ∧
   ∃N,Ending.returned v = .returned N∧Below w.heap.size w w'∧V (fun _=>Fr gJ Bw w' false) jF (aM (bg false j)) N:=fun xs Ts D O=>by
  obtain⟨ρ,φ,q1,q2,_⟩:=a2.ex;obtain⟨E,r1,r2⟩:=ji (P:=P) Y q1 q2 D;have I:=ox q1 O r2;have r4:=mj (P:=P) _ fn.results w' r1;refine⟨q2.df,(if h:E.toArray.size=1 then E.toArray[0]else .tuple E.toArray),?_,_,rfl,q1.kp.below,?_⟩
  ·unfold results;rw[Sem.run_bind];exact(congrArg (fun r=>Result.andThen r (fun a w'=>Sem.run P (pure (if h:a.size=1 then a[0]else Value.tuple a)) w')) r4).trans rfl
  ·have J:=(jh I).1;generalize bg false j=ys at I J ⊢;match ys,E,I with
   | [],[],_=>simp only[aM,V];exact⟨#[],rfl,rfl,by simp only[VL]⟩
   | [y],[v],I=>exact I.1
   | y::y'::ys,v::N::E,I =>
    have:¬((v::N::E).toArray.size=1):=by simp
    rw[dif_neg this];simp only[aM,V];refine⟨_,rfl,by simpa using J.symm,VL.mk fun k x hk=>?_⟩;have:=(jh I).2 k;rw[hk]at this;have X:k<(v::N::E).length:=by rw[←J];exact(List.getElem?_eq_some_iff.1 hk).1
    rw[List.getElem?_eq_getElem X]at this;exact⟨_,by simp[X],this⟩
 cases e with
 | normal =>
  obtain⟨xs,Ts,D,O⟩:=L;exact key xs Ts D O
 | ret =>
  obtain⟨xs,Ts,D,O⟩:=L;exact key xs Ts D O
 | exit _=>exact L.elim
 | goto _=>exact L.elim
 | panic _=>exact L.elim
 | outgrown=>exact L.elim
end
end Go.Tv
