/- Code, functions: the rules. -/
import Derived.Test.YtmcemnfjddoejaaGreatDoorTvO
namespace Go.Tv
open Go Go.RowKit
structure R{P:Program}(n:NS)(Bw:Nat→Prop)(w0:b9 P)(σ:St)(a:Act)(w:World):Prop where
 ex:∃ρ φ,Mem Bw w0 ρ φ σ.h w∧bP n (Fr (own φ σ.h) Bw w) ρ σ.s a∧∀id u,ρ id=some u→id<σ.nx
 pn:∀i u,w0.pM i=some u→i<σ.pn
def W(P:Program)(n:NS)(Bw:Nat→Prop)(w0:b9 P)(c:Code)(σ:St)(Q:Exit→St→Prop):Prop :=
 ∀a w,R n Bw w0 σ a w→c.wp P (fun e j w'=>∃σ',R n Bw w0 σ' j w'∧Q e σ') a w
section
variable{P:Program}{n:NS}{Bw:Nat→Prop}{w0:b9 P}{Q Q':Exit→St→Prop}{σ:St}
theorem W.mono{c:Code}(h:W P n Bw w0 c σ Q)(j:∀e σ',Q e σ'→Q' e σ'):W P n Bw w0 c σ Q':=fun a w z =>
 wp_mono (h a w z) fun e E w' ⟨σ',B,D⟩=>⟨σ',B,j _ _ D⟩
theorem JN(h:Q .normal σ):W P n Bw w0 .skip σ Q:=fun _ _ c=>wp_skip ⟨σ,c,h⟩
theorem ao(h:Q .ret σ):W P n Bw w0 .ret σ Q:=fun _ _ c=>wp_ret ⟨σ,c,h⟩
theorem JA{id:Nat}(h:Q (.exit id) σ):W P n Bw w0 (.exit id) σ Q:=fun _ _ c=>wp_exit ⟨σ,c,h⟩
def zx(P:Program)(n:NS)(Bw:Nat→Prop)(w0:b9 P)(d:Code)(Q:Exit→St→Prop):Exit→St→Prop
 | .normal,σ=>W P n Bw w0 d σ Q
 | e,σ=>Q e σ
theorem af{c d:Code}(h:W P n Bw w0 c σ (zx P n Bw w0 d Q)):W P n Bw w0 (.seq c d) σ Q:=fun a w k =>
 wp_seq (wp_mono (h a w k) fun e p w' ⟨σ',f,j⟩=>by
  cases e with
  | normal=>exact j p w' f
  | _=>exact⟨σ',f,j⟩)
theorem DV{c:Operand}{x y:Code}{β b:Bool}(j:ev σ.s c = .p β .bool b)(k:b=true→W P n Bw w0 x σ Q)(m:b=false→W P n Bw w0 y σ Q):W P n Bw w0 (.cond c x y) σ Q:=fun a w e=>by
 obtain⟨ρ,φ,_,q,_⟩:=e.ex;have f:=aY q c;rw[j]at f;refine wp_cond (jY f) ?_;cases b with
 | true=>exact k rfl a w e
 | false=>exact m rfl a w e
def lr(id:Nat)(Q:Exit→St→Prop):Exit→St→Prop
 | .exit c,σ=>if c=id then Q .normal σ else Q (.exit c) σ
 | e,σ=>Q e σ
theorem ak{id:Nat}{c:Code}(h:W P n Bw w0 c σ (lr id Q)):W P n Bw w0 (.block id c) σ Q:=fun a w k =>
 wp_block (wp_mono (h a w k) fun e p q ⟨σ',j,f⟩=>by
  cases e with
  | exit m =>
   simp only[lr]at f;simp only[Exit.inBlock];split at f
   ·rename_i e;rw[if_pos e];exact⟨σ',j,f⟩
   ·rename_i e;rw[if_neg e];exact⟨σ',j,f⟩
  | _=>exact⟨σ',j,f⟩)
theorem Cs(p:Nat→Prop)(h:∃k,p k):∃k,p k∧∀m,p m→k≤m:=by
 obtain⟨k,j⟩:=h;induction k using Nat.strongRecOn with
 | _ k q =>
  by_cases f:∃m,m<k∧p m
  ·obtain⟨m,c,e⟩:=f;exact q m c e
  ·exact⟨k,j,fun m e=>Nat.le_of_not_lt fun c=>f ⟨m,c,e⟩⟩
def Le(n:NS)(σ σ':St):Prop:=∀(P:Program) Bw (w0:b9 P) a w,R n Bw w0 σ a w→R n Bw w0 σ' a w
theorem Le.refl(σ:St):Le n σ σ:=fun _ _ _ _ _ h=>h
theorem Le.trans{σ1 c e:St}(h:Le n σ1 c)(k:Le n c e):Le n σ1 e:=fun _ _ _ _ _ j=>k _ _ _ _ _ (h _ _ _ _ _ j)
theorem JV{σ':St}{c:Code}(hl:Le n σ σ')(h:W P n Bw w0 c σ' Q):W P n Bw w0 c σ Q:=fun a w e=>h a w (hl _ _ _ _ _ e)
def Kj{α:Type}(n:NS)(Inv:Nat→α→Prop)(f:α→St)(k:Nat)(Q:Exit→St→Prop):Exit→St→Prop
 | .normal,σ=>∃m y,m<k∧Inv m y∧Le n σ (f y)
 | e,σ=>Q e σ
theorem Jv{α:Type}{c:Code}(Inv:Nat→α→Prop)(f:α→St)(h:∀k x,Inv k x→W P n Bw w0 c (f x) (Kj n Inv f k Q)){k:Nat}{x:α}(I:Inv k x)(hl:Le n σ (f x)):
  W P n Bw w0 (.loop c) σ Q:=fun a w J=>by
 let p:Act→World→Nat→Prop:=fun a w k=>∃x,Inv k x∧R n Bw w0 (f x) a w
 have A:∀a w,(∃k,p a w k)→∃k,p a w k∧∀m,p a w m→k≤m:=fun a w=>Cs (p a w)
 classical
 let u:Act→World→Nat:=fun a w=>if h:∃k,p a w k then(A a w h).choose else 0
 have q:∀a w (h:∃k,p a w k),p a w (u a w)∧∀m,p a w m→u a w≤m:=fun a w h=>by simp only[u,dif_pos h];exact(A a w h).choose_spec
 refine Go.wp_loop (fun a w=>∃k,p a w k) u ⟨k,x,I,hl _ _ _ _ _ J⟩ fun a w hi=> ?_
 obtain⟨⟨x,L,M⟩,_⟩:=q a w hi;refine wp_mono (h _ x L a w M) fun e B C ⟨σ',D,E⟩=> ?_
 cases e with
 | normal =>
  obtain⟨m,y,N,v,z⟩:=E;have j:p B C m:=⟨y,v,z _ _ _ _ _ D⟩;exact⟨⟨m,j⟩,Nat.lt_of_le_of_lt ((q B C ⟨m,j⟩).2 m j) N⟩
 | _=>exact⟨σ',D,E⟩
theorem Ca{tb:bR}(c:bS P tb)(an:An){id:Nat}{ops:Array Oper}{m:Nat→ag}{h':Nat→Option Obj}{p:List Prop}(A:E6 P tb an n σ.nx ops ops.toList 0 σ.s σ.h=some (m,h',p))(B:oQ p)
  (C:Q .normal ⟨m,h',σ.nx+8*ops.size,σ.pn⟩):W P n Bw w0 (.region id ops false) σ Q:=fun a w q=>by
 obtain⟨ρ,φ,D,E,I⟩:=q.ex;refine wp_region ?_;have:=xh (P:=P) (tb:=tb) (an:=an) (n:=n) (base:=σ.nx) (ops:=ops) (Bw:=Bw) (w0:=w0) c (Q:=fun e v x=>∃σ',R n Bw w0 σ' v x∧Q e σ') ops.toList 0 (a:=a) (w:=w)
  ⟨ρ,φ,D,E,fun id u hu=> .inl (I id u hu)⟩ (fun j=>by simp) A B (fun v x J=>⟨_,?_,C⟩)
 ·rw[←List.range_eq_range']at this;simpa using this
 ·obtain⟨f,k,L,M,z⟩:=J.ex;refine⟨⟨f,k,L,M,fun id u hu=> ?_⟩,q.pn⟩;simp only[Array.length_toList]at z;rcases z id u hu with N | ⟨i,j,N,O,V⟩ <;> simp only <;> omega
theorem uS{tb:bR}(c:bS P tb)(an:An)(r:Nat){id:Nat}{ops:Array Oper}{m:Nat→ag}{h':Nat→Option Obj}{p:List Prop}{y:Value}(B:oV P tb an n σ.nx ops r ops.toList 0 σ.s σ.h=some (m,h',p,y))(C:oQ p)
  (D:Q (.panic [{ v:=y,recovered:=false }]) ⟨m,h',σ.nx+8*ops.size,σ.pn⟩):W P n Bw w0 (.region id ops false) σ Q:=fun a w q=>by
 obtain⟨ρ,φ,E,I,J⟩:=q.ex;refine wp_region ?_;have:=rM (P:=P) (tb:=tb) (an:=an) (n:=n) (base:=σ.nx) (ops:=ops) (Bw:=Bw) (w0:=w0) c (Q:=fun e x z=>∃σ',R n Bw w0 σ' x z∧Q e σ') r ops.toList 0 (a:=a) (w:=w)
  ⟨ρ,φ,E,I,fun id u hu=> .inl (J id u hu)⟩ (fun j=>by simp) B C (fun x z L=>⟨_,?_,D⟩)
 ·rw[←List.range_eq_range']at this;simpa using this
 ·obtain⟨f,k,M,N,A⟩:=L.ex;refine⟨⟨f,k,M,N,fun id u hu=> ?_⟩,q.pn⟩;simp only[Array.length_toList]at A;rcases A id u hu with O | ⟨i,j,O,V,X⟩ <;> simp only <;> omega
def qQ(c:List (List Nat×List Nat))(i:Nat):List Nat:=match c[i]? with | some p=>p.1 | none=>[]
def qI(c:List (List Nat×List Nat))(i:Nat):List Nat:=match c[i]? with | some p=>p.2 | none=>[]
theorem uF{tb:bR}{an:An}{base:Nat}{ops:Array Oper}:∀(l:List Oper) (k:Nat) {s f:Nat→ag} {h h':Nat→Option Obj} {j:List Prop} {e:List (List Nat×List Nat)},Bp P tb an n base ops l k s h=some (f,h',j,e)→e.length=l.length
 | [],_,_,_,_,_,_,_,c=>by cases c;rfl
 | o::l,k,s,f,h,h',j,e,c=>by
  simp only[Bp]at c;split at c
  ·split at c
   ·rename_i m;cases c;simp[uF l (k+1) m]
   ·cases c
  ·cases c
theorem JG{tb:bR}(x:bS P tb)(R:P.follows .mixedOrders=true)(an:An){id:Nat}{ops:Array Oper}{q:Nat→ag}{h':Nat→Option Obj}{I:List Prop}{e:List (List Nat×List Nat)}
  (J:Bp P tb an n σ.nx ops ops.toList 0 σ.s σ.h=some (q,h',I,e)) (V:Fg ops (qQ e) (qI e) (p9 ops) ops.size 0 (Array.replicate ops.size false)=true) (X:oQ I)
  (Y:Q .normal ⟨q,h',σ.nx+8*ops.size,σ.pn⟩):W P n Bw w0 (.region id ops true) σ Q:=fun a w L=>by
 obtain⟨ρ,φ,Z,q2,q3⟩:=L.ex;obtain⟨z,qF⟩:=Z.drew;have M:=uF ops.toList 0 J;refine wp_region_any R ?_;have hA:=AJ (P:=P) (tb:=tb) (an:=an) (n:=n) (base:=σ.nx) (ops:=ops) (F:=qQ e) (W:=qI e) (Q:=fun s h=>s=q∧h=h') ops.toList 0 (Array.replicate ops.size false) (fun j=>by simp)
  (fun j=>by
   simp only[Nat.zero_add];split
   ·rename_i A;have c:j<e.length:=by omega
    simp[qQ,c]
   ·rename_i A;have c:e.length≤j:=by omega
    simp[List.getElem?_eq_none c])
  (fun j=>by
   simp only[Nat.zero_add];split
   ·rename_i A;have c:j<e.length:=by omega
    simp[qI,c]
   ·rename_i A;have c:e.length≤j:=by omega
    simp[List.getElem?_eq_none c])
  (fun k o hk hl=>by simp[Array.getD]at hl) (by simpa using V) J X ⟨rfl,rfl⟩
 have B:Fj P tb an n σ.nx ops (qQ e) (qI e) (fun s h=>s=q∧h=h') ops.size (Array.replicate ops.size false) σ.s σ.h:=by simpa using hA
 refine qv (P:=P) (tb:=tb) (an:=an) (n:=n) (base:=σ.nx) (ops:=ops) (Bw:=Bw) (w0:=w0) x (fun s h a w C f=> ?_) ops.size _ (by simp) ⟨ρ,φ,z,q2.mono qF (fun _ _ h=>h),fun id u hu=> .inl (q3 id u hu)⟩ B;obtain⟨rfl,rfl⟩:=C;obtain⟨D,E,r1,r2,r3⟩:=f.ex;refine⟨⟨s,h,σ.nx+8*ops.size,σ.pn⟩,⟨⟨D,E,r1,r2,fun id u hu=> ?_⟩,L.pn⟩,Y⟩;rcases r3 id u hu with h1 | ⟨i,j,h1,h2,h3⟩ <;> simp only <;> omega
/-! ### v N: O is dead is dropped,m get new p -/
def ay(l:List (Nat×ag))(m:List (Nat×Obj))(nx:Nat)(pn:Nat:=0):St:=⟨fun t=>(look l t).getD .unk,fun i=>look m i,nx,pn⟩
def qn(f:Nat→Nat)(s:Nat→ag):List (Nat×ag)→Prop
 | []=>True
 | (t,x)::r=>s t=lP f x∧qn f s r
def qG(f:Nat→Nat)(h:Nat→Option Obj):List (Nat×Obj)→Prop
 | []=>True
 | (i,o)::r=>h (f i)=some (m7 f o)∧qG f h r
theorem qn.get{f:Nat→Nat}{s:Nat→ag}:∀ {l:List (Nat×ag)},qn f s l→∀ {t x},(t,x)∈l→s t=lP f x
 | (_,_)::_,h,t,x,c=>by
  rcases List.mem_cons.1 c with e | c
  ·cases e;exact h.1
  ·exact qn.get h.2 c
theorem qG.get{f:Nat→Nat}{h:Nat→Option Obj}:∀ {l:List (Nat×Obj)},qG f h l→∀ {t x},(t,x)∈l→h (f t)=some (m7 f x)
 | (_,_)::_,h,t,x,c=>by
  rcases List.mem_cons.1 c with e | c
  ·cases e;exact h.1
  ·exact qG.get h.2 c
def kA(f:Nat→Nat)(l:List (Nat×ag))(m:List (Nat×Obj))(nx pn:Nat):Bool :=
 (List.range pn).all (fun i=>f i == i && decide (i<nx)) &&
 l.all (fun p=>(ids p.2).all (· < nx)) && m.all (fun p=>decide (p.1<nx) && (qa p.2).all (· < nx)) && m.all (fun p=>m.all fun q=>p.1 == q.1 || !(f p.1 == f q.1))
theorem KK(f:Nat→Nat){l:List (Nat×ag)}{m:List (Nat×Obj)}{nx:Nat}(hs:qn f σ.s l)(ho:qG f σ.h m)(N:kA f l m nx σ.pn=true):Le n σ (ay l m nx σ.pn):=fun P Bw w0 a w hr=>by
 obtain⟨ρ,φ,E,q2,q3⟩:=hr.ex;simp only[kA,Bool.and_eq_true,List.all_eq_true,decide_eq_true_eq,Bool.or_eq_true,beq_iff_eq,Bool.not_eq_true',beq_eq_false_iff_ne]at N;obtain⟨⟨⟨k0,k1⟩,k2⟩,k3⟩:=N;let ρ':Nat→Option Value:=fun i=>if i<nx then ρ (f i)else none
 let I:Nat→Nat→Prop:=fun i=>φ (f i)
 have c:∀i,i<nx→ρ' i=ρ (f i):=fun i hi=>by simp only[ρ',if_pos hi]
 have p:∀i o,look m i=some o→σ.h (f i)=some (m7 f o)∧i<nx∧∀j∈qa o,j<nx:=fun i o hi=>by have J:=mA hi;exact⟨qG.get ho J,(k2 _ J).1,(k2 _ J).2⟩
 have q:∀o,(m7 f o).live=o.live:=fun o=>gE
 have D:∀k,own I (fun i=>look m i) k→own φ σ.h k:=by rintro k ⟨id,o,L,O,h4⟩;obtain⟨R,p2,_⟩:=p id o L;exact⟨f id,_,R,by rw[q];exact O,h4⟩
 have B:∀β a v,Fr (own φ σ.h) Bw w β a v→Fr (own I (fun i=>look m i)) Bw w β a v:=fun β a v h=>⟨fun x=>h.1 (D _ x),h.2⟩
 refine⟨⟨ρ',I,⟨fun id o a1=> ?_,fun id o k L O h3=>E.lt _ _ k (p id o L).1 (by rw[q];exact O) h3,fun id C o o' k L O h3 h4 h5 h6=> ?_,E.bw,fun k hk=>E.ow k (D k hk),E.kp,fun i u hi=> ?_⟩,⟨q2.tm,q2.df,fun t=> ?_⟩,fun id u hu=> ?_⟩,hr.pn⟩
 ·obtain⟨R,p2,p3⟩:=p id o a1;obtain⟨u,r1,z⟩:=E.ob _ _ R;refine⟨u,by rw[c id p2];exact r1,?_⟩;cases o with
  | arr e A M=>exact OR.mono (ρ:=ρ) (ρ':=ρ) (w:=w) (o:= .arr e A M) B (fun _ _ h=>h) (fun _ h=>h) (fun _ _ _=>rfl) z
  | fz A M =>
   simp only[m7,OR]at z ⊢;exact qZ rfl (V.mono B (fun _ _ h=>h) z)
  | mat e e2 A a3 hole=>exact CW (fun k C e=>c C (p3 C (by subst e;simp[qa]))) (OR.mono (ρ:=ρ) (ρ':=ρ) (w:=w) B (fun _ _ h=>h) (fun _ h=>h) (fun _ _ _=>rfl) z)
  | mpo K A kv=>exact OR.mono (ρ:=ρ) (ρ':=ρ) (w:=w) (o:= .mpo K A kv) B (fun _ _ h=>h) (fun _ h=>h) (fun _ _ _=>rfl) z
  | mpl K kv=>exact OR.mono (ρ:=ρ) (ρ':=ρ) (w:=w) (o:= .mpl K kv) B (fun _ _ h=>h) (fun _ h=>h) (fun _ _ _=>rfl) z
  | cutz A M =>
   simp only[m7,OR]at z ⊢;exact⟨z.1,qZ rfl (V.mono B (fun _ _ h=>h) z.2)⟩
  | bytes e M=>exact OR.mono (ρ:=ρ) (ρ':=ρ) (w:=w) (o:= .bytes e M) B (fun _ _ h=>h) (fun _ h=>h) (fun _ _ _=>rfl) z
  | lmp k n M cs =>
   obtain⟨g,t,cells,e,X,Y,Z,s3,s4⟩:=z;refine⟨g,t,cells,e,X,Y,by rw[Z,bA],s3,?_⟩;exact mr (fun i hi=>c i (p3 i (by simpa only [qa]using hi))) (VL.mono B (fun _ _ h=>h) (fun _ _ h=>h) s4)
  | vrow n sz cs =>
   obtain⟨g,t,cells,e,X,Y,Z,s3,s4⟩:=z;refine⟨g,t,cells,e,X,Y,by rw[Z,bA],by rw[←s3,bA],?_⟩;exact mr (fun i hi=>c i (p3 i (by simpa only [qa]using hi))) (VL.mono B (fun _ _ h=>h) (fun _ _ h=>h) s4)
  | box cs =>
   obtain⟨g,t,cells,e,X,Y,Z,s3⟩:=z;refine⟨g,t,cells,e,X,Y,by rw[Z,bA],?_⟩;exact mr (fun i hi=>c i (p3 i (by simpa only [qa]using hi))) (VL.mono B (fun _ _ h=>h) (fun _ _ h=>h) s3)
 ·obtain⟨R,p2,_⟩:=p id o L;obtain⟨a2,a4,_⟩:=p C o' h3;have:=E.dj _ _ _ _ k R (by rw[q];exact O) a2 (by rw[q];exact h4) h5 h6;rcases k3 _ (mA L) _ (mA h3)with e | e
  ·exact e
  ·exact absurd this e
 ·have:=k0 i (List.mem_range.2 (hr.pn i u hi));rw[c i this.2,this.1];exact E.pM i u hi
 ·simp only[ay];cases hl:look l t with
  | none=>simp only[Option.getD_none,V]
  | some x =>
   have J:=mA hl;have hv:=q2.sl t;rw[qn.get hs J]at hv;simp only[Option.getD_some];exact Jg (fun i hi=>c i (k1 _ J i hi)) (V.mono B (fun _ _ h=>h) hv)
 ·simp only[ρ']at hu;split at hu
  ·assumption
  ·cases hu
end
end Go.Tv
namespace Go.Tv
open Go Go.RowKit
def aU(β:Bool):List (Σ T:Ty,T.den)→List ag
 | []=>[]
 | ⟨T,x⟩::r=>enc β T x::aU β r
def aG:List ag→ag
 | [x]=>x
 | xs=> .tup xs
def tv(tb:bR)(s:Nat→ag)(h:Nat→Option Obj):List ResultVar→Option (List ag)
 | []=>some []
 | .tmp t::r=>match tv tb s h r with
  | some xs=>some (s t::xs)
  | none=>none
 | .cell a t::r=>match s a with
  | .adr id i sz off=>match h id with
   | some (.box cs)=>match tb.find t with
    | some ti=>match dV ti cs (i*sz+off)with
     | some x=>match tv tb s h r with
      | some xs=>some (x::xs)
      | none=>none
     | none=>none
    | none=>none
   | _=>none
  | _=>none
def lZ(h:Nat→Option Obj):List ag→List Ty→Option (List (Σ T:Ty,T.den))
 | [],[]=>some []
 | x::xs,T::Ts=>if(cellsOf x).all ag.cell && kB T x then match F5 T h x with
  | some (y,u)=>match lZ (apply u h) xs Ts with
   | some ys=>some (⟨T,y⟩::ys)
   | none=>none
  | none=>none
  else none
 | _,_=>none
def Ko(tb:bR)(f:List ResultVar)(c:List (Σ T:Ty,T.den)):Exit→St→Prop
 | .normal,σ=>∃e Ts,tv tb σ.s σ.h f=some e∧lZ σ.h e Ts=some c
 | .ret,σ=>∃e Ts,tv tb σ.s σ.h f=some e∧lZ σ.h e Ts=some c
 | _,_=>False
def nq(args:List ag):St:=⟨fun t=>(args[t]?).getD .unk,fun _=>none,0,0⟩
section
variable{P:Program}{tb:bR}{n:NS}{Bw:Nat→Prop}{w0:b9 P}{w:World}{ρ:Nat→Option Value}{φ:Nat→Nat→Prop}{s:Nat→ag}{h:Nat→Option Obj}{a:Act}
theorem iD(k:bS P tb)(m:Mem Bw w0 ρ φ h w)(u:bP n (Fr (own φ h) Bw w) ρ s a):∀ {E:List ResultVar} {q:List ag},tv tb s h E=some q →
  ∃p,(E.mapM (fun r:ResultVar=>(match r with | .tmp t=>pure (a.tmps.getD t undef) | .cell A t=>(do loadVar t (←asAddr (a.tmps.getD A undef)):Sem Value)))).run P w = .ok p w∧iA (Fr (own φ h) Bw w) ρ q p
 | [],q,j=>by cases j;exact⟨[],rfl,trivial⟩
 | .tmp t::r,q,j=>by
  simp only[tv]at j;split at j
  ·rename_i B C;cases j;obtain⟨p,z,D⟩:=iD k m u C;refine⟨a.tmps.getD t undef::p,?_,u.sl t,D⟩;rw[List.mapM_cons,Sem.run_bind];simp only[Sem.run_pure,Result.andThen_ok,Sem.run_bind,z]
  ·cases j
 | .cell A t::r,q,j=>by
  simp only[tv]at j;split at j
  ·rename_i id i sz off e;split at j
   ·rename_i cs hi;split at j
    ·rename_i ti J;split at j
     ·rename_i x L;split at j
      ·rename_i B C;cases j;obtain⟨p,z,D⟩:=iD k m u C;have I:=u.sl A;rw[e]at I;obtain⟨b,M,N⟩:=mj m I (cs:=cs) (off:=i*sz+off) (c:=True) (by simp only[kE,hi]) trivial;obtain⟨v,O,R⟩:=gn (P:=P) (k.find J) N L;refine⟨v::p,?_,R,D⟩;rw[List.mapM_cons,Sem.run_bind];simp only[M,asAddr,Sem.run_bind,Sem.run_pure,Result.andThen_ok,O];simp only[asAddr]at z;rw[z];rfl
      ·cases j
     ·cases j
    ·cases j
   ·cases j
  ·cases j
theorem nh:∀ {I:List ag} {Ts:List Ty} {h:Nat→Option Obj} {c:List (Σ T:Ty,T.den)} {A:List Value},Mem Bw w0 ρ φ h w→lZ h I Ts=some c→iA (Fr (own φ h) Bw w) ρ I A →
  iA (fun _=>Fr fN Bw w false) jK (aU false c) A
 | [],[],h,c,A,_,f,B=>by
  cases f;cases A with
  | nil=>trivial
  | cons _ _=>exact B.elim
 | x::I,T::Ts,h,c,A,m,f,B=>by
  simp only[lZ]at f;split at f
  ·rename_i M;split at f
   ·rename_i y u O;split at f
    ·rename_i ys R;cases f;cases A with
     | nil=>exact B.elim
     | cons v A =>
      obtain⟨X,Y,Z⟩:=mN m O;simp only[Bool.and_eq_true]at M;obtain⟨p,q⟩:=M;obtain⟨r1,r2,r3⟩:=fA p B.1;obtain⟨s1,s2⟩:=Z _ r1;refine⟨?_,nh X R (iA.mono Y (fun _ _ h=>h) B.2)⟩;have C:ai (Fr fN Bw w false) T y (fun k u=>v.cells.toList[k]? = some u):=ai.mono (fun a u hh=>⟨fun e=>e,hh.2⟩) (fun _ _ h=>h) s1;by_cases j:∃N,x = .agg N
      ·obtain⟨N,rfl⟩:=j;have E:=B.1;simp only[V]at E;obtain⟨us,rfl,e2,e3⟩:=E;have z:T.scalar=false:=by simpa [kB]using q
       simp only[enc,z];simp only[Bool.false_eq_true,if_false,V];refine⟨us,rfl,?_,jE false T y _ (ai.mono (fun _ _ h=>h) (fun k u J=>by simpa [Value.cells]using J) C)⟩;rw[dR,s2,e2];rfl
      ·have D:cellsOf x=[x]:=by cases x <;> first | rfl | exact(j ⟨_,rfl⟩).elim | cases q
       have z:T.scalar=true:=by cases x <;> first | exact q | exact(j ⟨_,rfl⟩).elim | cases q
       rw[D]at p;simp only[List.all_cons,List.all_nil,Bool.and_true]at p;have L:=iE (rz p B.1);simp only[enc,z,if_true,V];refine⟨trivial,?_⟩;rw[L]at C;refine ai.fR (fun k u J hu=> ?_) C;rw[Ty.eS z]at J;obtain rfl:k=0:=by omega
       simp at hu;exact hu.symm
    ·cases f
   ·cases f
  ·cases f
 | [],_::_,_,_,_,_,f,_=>by cases f
 | _::_,[],_,_,_,_,f,_=>by cases f
theorem iS{F:Bool→Addr→Value→Prop}:∀ {xs:List ag} {c:List Value},iA F ρ xs c→xs.length=c.length∧∀t:Nat,V F ρ ((xs[t]?).getD .unk) ((c[t]?).getD undef)
 | [],[],_=>⟨rfl,fun t=>by simp only[List.getElem?_nil,Option.getD_none,V]⟩
 | x::xs,v::c,h=>by
  obtain⟨e,j⟩:=iS h.2;refine⟨by simp[e],fun t=> ?_⟩;cases t with
  | zero=>exact h.1
  | succ t=>simpa using j t
 | [],_::_,h=>h.elim
 | _::_,[],h=>h.elim
theorem lG{α β:Type}(f:α→Sem β)(l:Array α)(w:World){c:List β}(h:(l.toList.mapM f).run P w = .ok c w):(l.mapM f).run P w = .ok c.toArray w:=by
 rw[Array.mapM_eq_mapM_toList,Sem.run_map,h];rfl
def EP:Nat→Nat→Prop:=fun _ _=>False
theorem Pure.jD{f:FuncId}{fn:Func}{c:Code}(X:bS P tb)(hf:P.funcs[f]? = some fn)(p:(fn.name == "runtime.NumGoroutine")=false)(hb:fn.body=some c){args:List ag}(a2:args.length≤fn.ntmps)
  {j:List (Σ T:Ty,T.den)} (h:∀Bw w0,W P fn.ntmps Bw w0 c (nq args) (Ko tb fn.results.toList j)) (a3:ou args=true):Pure P f args (aG (aU false j)):=by
 refine⟨⟨fn,hf,p,by rw[hb];rfl⟩,fun Bw w z L Y B=>calls_of_wp hf hb ?_⟩;have Z:∀β a v,Fr fN Bw w β a v→Fr (own EP (nq args).h) Bw w β a v:=fun β a v hh=>⟨fun⟨_,_,_,_,h3⟩=>h3,hh.2⟩
 obtain⟨hl,hg⟩:=iS B;have hR:R fn.ntmps Bw (lv L) (nq args) { tmps:=z++Array.replicate (fn.ntmps - z.size) undef,defers:=[] } w:=by
  refine⟨⟨jK,EP,⟨fun id o h=>(by cases h),fun id o k h=>(by cases h),fun id a4 o o' k C=>(by cases C),Y,fun k ⟨_,_,_,_,h3⟩=>h3.elim,Kept.refl _,fun i u h=>(by cases h)⟩,⟨?_,rfl,fun t=> ?_⟩,fun id u hu=>(by cases hu)⟩,fun i u h=>(by cases h)⟩
  ·have:z.size=args.length:=by rw[hl,Array.length_toList]
   simp only[Array.size_append,Array.size_replicate];omega
  ·have hv:=V.mono Z (fun _ _ h=>h) (hg t);simp only[nq];rcases Nat.lt_or_ge t z.size with q | q
   ·have e:(z++Array.replicate (fn.ntmps - z.size) undef).getD t undef=(z.toList[t]?).getD undef:=by simp[Array.getD_eq_getD_getElem?,Array.getElem?_append,q]
    rw[e];exact hv
   ·have:args[t]? = none:=List.getElem?_eq_none (by rw[hl,Array.length_toList];exact q);rw[this];simp only[Option.getD_none,V]
 refine wp_mono (h Bw (lv L) _ _ hR) fun e a' w' ⟨σ',a1,J⟩=> ?_
 have key:∀xs Ts,tv tb σ'.s σ'.h fn.results.toList=some xs→lZ σ'.h xs Ts=some j→a'.defers=[]∧∃v,(results fn a'.tmps).run P w' = .ok v w' ∧
   ∃M,Ending.returned v = .returned M∧Below w.heap.size w w'∧V (fun _=>Fr fN Bw w' false) jK (aG (aU false j)) M:=fun xs Ts C N=>by
  obtain⟨ρ,φ,q1,q2,_⟩:=a1.ex;obtain⟨D,r1,r2⟩:=iD (P:=P) X q1 q2 C;have E:=nh q1 N r2;have r4:=lG (P:=P) _ fn.results w' r1;refine⟨q2.df,(if h:D.toArray.size=1 then D.toArray[0]else .tuple D.toArray),?_,_,rfl,q1.kp.below,?_⟩
  ·unfold results;rw[Sem.run_bind];exact(congrArg (fun r=>Result.andThen r (fun a w'=>Sem.run P (pure (if h:a.size=1 then a[0]else Value.tuple a)) w')) r4).trans rfl
  ·have I:=(iS E).1;generalize aU false j=ys at E I ⊢;match ys,D,E with
   | [],[],_=>simp only[aG,V];exact⟨#[],rfl,rfl,by simp only[VL]⟩
   | [y],[v],E=>exact E.1
   | y::y'::ys,v::M::D,E =>
    have:¬((v::M::D).toArray.size=1):=by simp
    rw[dif_neg this];simp only[aG,V];refine⟨_,rfl,by simpa using I.symm,VL.mk fun k x hk=> ?_⟩;have:=(iS E).2 k;rw[hk]at this;have O:k<(v::M::D).length:=by rw[←I];exact(List.getElem?_eq_some_iff.1 hk).1
    rw[List.getElem?_eq_getElem O]at this;exact⟨_,by simp[O],this⟩
 cases e with
 | normal =>
  obtain⟨xs,Ts,C,N⟩:=J;exact key xs Ts C N
 | ret =>
  obtain⟨xs,Ts,C,N⟩:=J;exact key xs Ts C N
 | exit _=>exact J.elim
 | goto _=>exact J.elim
 | panic _=>exact J.elim
 | outgrown=>exact J.elim
end
end Go.Tv
