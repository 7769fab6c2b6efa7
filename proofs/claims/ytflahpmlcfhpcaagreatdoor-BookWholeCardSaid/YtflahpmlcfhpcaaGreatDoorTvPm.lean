import Derived.Test.YtflahpmlcfhpcaaGreatDoorTvO
namespace Go.Tv
open Go Go.RowKit
structure R{P:Program}(n:NS)(Bw:Nat→Prop)(w0:cz P)(σ:St)(a:Act)(w:World):Prop where
 ex:∃ρ φ,Mem Bw w0 ρ φ σ.h w∧eL n (Fr (own φ σ.h) Bw w) ρ σ.s a∧∀id u,ρ id=some u→id<σ.nx
 pn:∀i u,w0.oW i=some u→i<σ.pn
def W(P:Program)(n:NS)(Bw:Nat→Prop)(w0:cz P)(c:Code)(σ:St)(Q:Exit→St→Prop):Prop :=
 ∀a w,R n Bw w0 σ a w→c.wp P (fun e j w'=>∃σ',R n Bw w0 σ' j w'∧Q e σ') a w
section
variable{P:Program}{n:NS}{Bw:Nat→Prop}{w0:cz P}{Q Q':Exit→St→Prop}{σ:St}
theorem W.mono{c:Code}(h:W P n Bw w0 c σ Q)(j:∀e σ',Q e σ'→Q' e σ'):W P n Bw w0 c σ Q':=fun a w z =>
 wp_mono (h a w z) fun e _ w' ⟨σ',B,D⟩=>⟨σ',B,j _ _ D⟩
theorem JD(h:Q .normal σ):W P n Bw w0 .skip σ Q:=fun _ _ e=>wp_skip ⟨σ,e,h⟩
theorem aw(h:Q .ret σ):W P n Bw w0 .ret σ Q:=fun _ _ f=>wp_ret ⟨σ,f,h⟩
theorem JC{id:Nat}(h:Q (.exit id) σ):W P n Bw w0 (.exit id) σ Q:=fun _ _ e=>wp_exit ⟨σ,e,h⟩
def xY(P:Program)(n:NS)(Bw:Nat→Prop)(w0:cz P)(d:Code)(Q:Exit→St→Prop):Exit→St→Prop
 | .normal,σ=>W P n Bw w0 d σ Q
 | e,σ=>Q e σ
theorem ag{c d:Code}(h:W P n Bw w0 c σ (xY P n Bw w0 d Q)):W P n Bw w0 (.seq c d) σ Q:=fun a w p =>
 wp_seq (wp_mono (h a w p) fun e q w' ⟨σ',f,j⟩=>by
  cases e with
  | normal=>exact j q w' f
  | _=>exact⟨σ',f,j⟩)
theorem Cd{c:Operand}{x y:Code}{β b:Bool}(hc:ev σ.s c = .p β .bool b)(j:b=true→W P n Bw w0 x σ Q)(q:b=false→W P n Bw w0 y σ Q):W P n Bw w0 (.cond c x y) σ Q:=fun a w e=>by
 obtain⟨ρ,φ,_,u,_⟩:=e.ex;have f:=aV u c;rw[hc]at f;refine wp_cond (nh f) ?_;cases b with
 | true=>exact j rfl a w e
 | false=>exact q rfl a w e
def kO(id:Nat)(Q:Exit→St→Prop):Exit→St→Prop
 | .exit f,σ=>if f=id then Q .normal σ else Q (.exit f) σ
 | e,σ=>Q e σ
theorem ak{id:Nat}{c:Code}(h:W P n Bw w0 c σ (kO id Q)):W P n Bw w0 (.block id c) σ Q:=fun a w p =>
 wp_block (wp_mono (h a w p) fun e u v ⟨σ',j,f⟩=>by
  cases e with
  | exit q =>
   simp only[kO]at f;simp only[Exit.inBlock];split at f
   ·rename_i e;rw[if_pos e];exact⟨σ',j,f⟩
   ·rename_i e;rw[if_neg e];exact⟨σ',j,f⟩
  | _=>exact⟨σ',j,f⟩)
theorem FA(p:Nat→Prop)(h:∃k,p k):∃k,p k∧∀m,p m→k≤m:=by
 obtain⟨k,hk⟩:=h;induction k using Nat.strongRecOn with
 | _ k q =>
  by_cases j:∃m,m<k∧p m
  ·obtain⟨m,e,f⟩:=j;exact q m e f
  ·exact⟨k,hk,fun m f=>Nat.le_of_not_lt fun e=>j ⟨m,e,f⟩⟩
def Le(n:NS)(σ σ':St):Prop:=∀(P:Program) Bw (w0:cz P) a w,R n Bw w0 σ a w→R n Bw w0 σ' a w
theorem Le.refl(σ:St):Le n σ σ:=fun _ _ _ _ _ h=>h
theorem Le.trans{σ1 e j:St}(h:Le n σ1 e)(k:Le n e j):Le n σ1 j:=fun _ _ _ _ _ p=>k _ _ _ _ _ (h _ _ _ _ _ p)
theorem If{σ':St}{c:Code}(hl:Le n σ σ')(h:W P n Bw w0 c σ' Q):W P n Bw w0 c σ Q:=fun a w e=>h a w (hl _ _ _ _ _ e)
def J8{α:Type}(n:NS)(Inv:Nat→α→Prop)(f:α→St)(k:Nat)(Q:Exit→St→Prop):Exit→St→Prop
 | .normal,σ=>∃m y,m<k∧Inv m y∧Le n σ (f y)
 | e,σ=>Q e σ
theorem Kp{α:Type}{c:Code}(Inv:Nat→α→Prop)(f:α→St)(h:∀k x,Inv k x→W P n Bw w0 c (f x) (J8 n Inv f k Q)){k:Nat}{x:α}(I:Inv k x)(hl:Le n σ (f x)):
  W P n Bw w0 (.loop c) σ Q:=fun a w J=>by
 let p:Act→World→Nat→Prop:=fun a w k=>∃x,Inv k x∧R n Bw w0 (f x) a w
 have A:∀a w,(∃k,p a w k)→∃k,p a w k∧∀m,p a w m→k≤m:=fun a w=>FA (p a w)
 classical
 let u:Act→World→Nat:=fun a w=>if h:∃k,p a w k then(A a w h).choose else 0
 have q:∀a w (h:∃k,p a w k),p a w (u a w)∧∀m,p a w m→u a w≤m:=fun a w h=>by simp only[u,dif_pos h];exact(A a w h).choose_spec
 refine Go.wp_loop (fun a w=>∃k,p a w k) u ⟨k,x,I,hl _ _ _ _ _ J⟩ fun a w hi=>?_
 obtain⟨⟨x,L,M⟩,_⟩:=q a w hi;refine wp_mono (h _ x L a w M) fun e B C ⟨σ',D,E⟩=>?_
 cases e with
 | normal =>
  obtain⟨m,y,N,v,z⟩:=E;have j:p B C m:=⟨y,v,z _ _ _ _ _ D⟩;exact⟨⟨m,j⟩,Nat.lt_of_le_of_lt ((q B C ⟨m,j⟩).2 m j) N⟩
 | _=>exact⟨σ',D,E⟩
theorem Bd{tb:bQ}(f:cb P tb)(an:An){id:Nat}{ops:Array Oper}{v:Nat→af}{h':Nat→Qz}{x:List Prop}(D:EC P tb an n σ.nx ops ops.toList 0 σ.s σ.h=some (v,h',x))(hc:oU x)
  (E:Q .normal ⟨v,h',σ.nx+8*ops.size,σ.pn⟩):W P n Bw w0 (.region id ops false) σ Q:=fun a w z=>by
 obtain⟨ρ,φ,I,J,L⟩:=z.ex;refine wp_region ?_;have:=u7 (P:=P) (tb:=tb) (an:=an) (n:=n) (base:=σ.nx) (ops:=ops) (Bw:=Bw) (w0:=w0) f (Q:=fun e A B=>∃σ',R n Bw w0 σ' A B∧Q e σ') ops.toList 0 (a:=a) (w:=w)
  ⟨ρ,φ,I,J,fun id u hu=> .inl (L id u hu)⟩ (fun j=>by simp) D hc (fun A B M=>⟨_,?_,E⟩)
 ·rw[←List.range_eq_range']at this;simpa using this
 ·obtain⟨p,q,N,O,C⟩:=M.ex;refine⟨⟨p,q,N,O,fun id u hu=>?_⟩,z.pn⟩;simp only[Array.length_toList]at C;rcases C id u hu with V | ⟨i,j,V,X,Y⟩ <;> simp only <;> omega
theorem ta{tb:bQ}(f:cb P tb)(an:An)(r:Nat){id:Nat}{ops:Array Oper}{x:Nat→af}{h':Nat→Qz}{z:List Prop}{y:Value}(E:n9 P tb an n σ.nx ops r ops.toList 0 σ.s σ.h=some (x,h',z,y))(hc:oU z)
  (I:Q (.panic [{ v:=y,recovered:=false }]) ⟨x,h',σ.nx+8*ops.size,σ.pn⟩):W P n Bw w0 (.region id ops false) σ Q:=fun a w A=>by
 obtain⟨ρ,φ,J,L,M⟩:=A.ex;refine wp_region ?_;have:=rI (P:=P) (tb:=tb) (an:=an) (n:=n) (base:=σ.nx) (ops:=ops) (Bw:=Bw) (w0:=w0) f (Q:=fun e B C=>∃σ',R n Bw w0 σ' B C∧Q e σ') r ops.toList 0 (a:=a) (w:=w)
  ⟨ρ,φ,J,L,fun id u hu=> .inl (M id u hu)⟩ (fun j=>by simp) E hc (fun B C N=>⟨_,?_,I⟩)
 ·rw[←List.range_eq_range']at this;simpa using this
 ·obtain⟨p,q,O,V,D⟩:=N.ex;refine⟨⟨p,q,O,V,fun id u hu=>?_⟩,A.pn⟩;simp only[Array.length_toList]at D;rcases D id u hu with X | ⟨i,j,X,Y,Z⟩ <;> simp only <;> omega
def qA(e:List (QV×QV))(i:Nat):QV:=match e[i]? with | some p=>p.1 | none=>[]
def qb(e:List (QV×QV))(i:Nat):QV:=match e[i]? with | some p=>p.2 | none=>[]
theorem sY{tb:bQ}{an:An}{base:Nat}{ops:Array Oper}:∀(l:List Oper) (k:Nat) {s j:Nat→af} {h h':Nat→Qz} {p:List Prop} {f:List (QV×QV)},A6 P tb an n base ops l k s h=some (j,h',p,f)→f.length=l.length
 | [],_,_,_,_,_,_,_,e=>by cases e;rfl
 | o::l,k,s,j,h,h',p,f,e=>by
  simp only[A6]at e;split at e
  ·split at e
   ·rename_i q;cases e;simp[sY l (k+1) q]
   ·cases e
  ·cases e
theorem J9{tb:bQ}(A:cb P tb)(Y:P.follows .mixedOrders=true)(an:An){id:Nat}{ops:Array Oper}{x:Nat→af}{h':Nat→Qz}{L:List Prop}{f:List (QV×QV)}
  (M:A6 P tb an n σ.nx ops ops.toList 0 σ.s σ.h=some (x,h',L,f)) (Z:Fl ops (qA f) (qb f) (pK ops) ops.size 0 (Array.replicate ops.size false)=true) (hc:oU L)
  (hq:Q .normal ⟨x,h',σ.nx+8*ops.size,σ.pn⟩):W P n Bw w0 (.region id ops true) σ Q:=fun a w N=>by
 obtain⟨ρ,φ,q1,q2,q3⟩:=N.ex;obtain⟨B,qF⟩:=q1.drew;have O:=sY ops.toList 0 M;refine wp_region_any Y ?_;have hA:=Am (P:=P) (tb:=tb) (an:=an) (n:=n) (base:=σ.nx) (ops:=ops) (F:=qA f) (W:=qb f) (Q:=fun s h=>s=x∧h=h') ops.toList 0 (Array.replicate ops.size false) (fun j=>by simp)
  (fun j=>by
   simp only[Nat.zero_add];split
   ·rename_i C;have e:j<f.length:=by omega
    simp[qA,e]
   ·rename_i C;have e:f.length≤j:=by omega
    simp[List.getElem?_eq_none e])
  (fun j=>by
   simp only[Nat.zero_add];split
   ·rename_i C;have e:j<f.length:=by omega
    simp[qb,e]
   ·rename_i C;have e:f.length≤j:=by omega
    simp[List.getElem?_eq_none e])
  (fun k o hk hl=>by simp[Array.getD]at hl) (by simpa using Z) M hc ⟨rfl,rfl⟩
 have D:EW P tb an n σ.nx ops (qA f) (qb f) (fun s h=>s=x∧h=h') ops.size (Array.replicate ops.size false) σ.s σ.h:=by simpa using hA
 refine pQ (P:=P) (tb:=tb) (an:=an) (n:=n) (base:=σ.nx) (ops:=ops) (Bw:=Bw) (w0:=w0) A (fun s h a w E p=>?_) ops.size _ (by simp) ⟨ρ,φ,B,q2.mono qF (fun _ _ h=>h),fun id u hu=> .inl (q3 id u hu)⟩ D;obtain⟨rfl,rfl⟩:=E;obtain⟨I,J,r1,r2,r3⟩:=p.ex;refine⟨⟨s,h,σ.nx+8*ops.size,σ.pn⟩,⟨⟨I,J,r1,r2,fun id u hu=>?_⟩,N.pn⟩,hq⟩;rcases r3 id u hu with h1 | ⟨i,j,h1,h2,h3⟩ <;> simp only <;> omega
/-! ### z V: X is dead is dropped,q get new v -/
def aA(l:List (Nat×af))(m:Qw)(nx:Nat)(pn:Nat:=0):St:=⟨fun t=>(look l t).getD .unk,fun i=>look m i,nx,pn⟩
def pV(f:Nat→Nat)(s:Nat→af):List (Nat×af)→Prop
 | []=>True
 | (t,x)::r=>s t=lL f x∧pV f s r
def pY(f:Nat→Nat)(h:Nat→Qz):Qw→Prop
 | []=>True
 | (i,o)::r=>h (f i)=some (nu f o)∧pY f h r
theorem pV.get{f:Nat→Nat}{s:Nat→af}:∀ {l:List (Nat×af)},pV f s l→∀ {t x},(t,x)∈l→s t=lL f x
 | (_,_)::_,h,t,x,j=>by
  rcases List.mem_cons.1 j with e | j
  ·cases e;exact h.1
  ·exact pV.get h.2 j
theorem pY.get{f:Nat→Nat}{h:Nat→Qz}:∀ {l:Qw},pY f h l→∀ {t x},(t,x)∈l→h (f t)=some (nu f x)
 | (_,_)::_,h,t,x,j=>by
  rcases List.mem_cons.1 j with e | j
  ·cases e;exact h.1
  ·exact pY.get h.2 j
def kB(f:Nat→Nat)(l:List (Nat×af))(m:Qw)(nx pn:Nat):Bool :=
 (List.range pn).all (fun i=>f i == i && decide (i<nx)) &&
 l.all (fun p=>(ids p.2).all (· < nx)) && m.all (fun p=>decide (p.1<nx) && (n5 p.2).all (· < nx)) && m.all (fun p=>m.all fun q=>p.1 == q.1 || !(f p.1 == f q.1))
theorem K8(f:Nat→Nat){l:List (Nat×af)}{m:Qw}{nx:Nat}(hs:pV f σ.s l)(ho:pY f σ.h m)(O:kB f l m nx σ.pn=true):Le n σ (aA l m nx σ.pn):=fun P Bw w0 a w hr=>by
 obtain⟨ρ,φ,I,q2,q3⟩:=hr.ex;simp only[kB,Bool.and_eq_true,List.all_eq_true,decide_eq_true_eq,Bool.or_eq_true,beq_iff_eq,Bool.not_eq_true',beq_eq_false_iff_ne]at O;obtain⟨⟨⟨k0,k1⟩,k2⟩,k3⟩:=O;let ρ':Nat→QW:=fun i=>if i<nx then ρ (f i)else none
 let J:Nat→Nat→Prop:=fun i=>φ (f i)
 have p:∀i,i<nx→ρ' i=ρ (f i):=fun i hi=>by simp only[ρ',if_pos hi]
 have q:∀i o,look m i=some o→σ.h (f i)=some (nu f o)∧i<nx∧∀j∈n5 o,j<nx:=fun i o hi=>by have L:=mB hi;exact⟨pY.get ho L,(k2 _ L).1,(k2 _ L).2⟩
 have z:∀o,(nu f o).live=o.live:=fun o=>gB
 have E:∀k,own J (fun i=>look m i) k→own φ σ.h k:=by rintro k ⟨id,o,M,X,h4⟩;obtain⟨Y,p2,_⟩:=q id o M;exact⟨f id,_,Y,by rw[z];exact X,h4⟩
 have D:∀β a v,Fr (own φ σ.h) Bw w β a v→Fr (own J (fun i=>look m i)) Bw w β a v:=fun β a v h=>⟨fun x=>h.1 (E _ x),h.2⟩
 refine⟨⟨ρ',J,⟨fun id o a1=>?_,fun id o k M X h3=>I.lt _ _ k (q id o M).1 (by rw[z];exact X) h3,fun id B o o' k M X h3 h4 h5 h6=>?_,I.bw,fun k hk=>I.ow k (E k hk),I.kp,fun i u hi=>?_⟩,⟨q2.tm,q2.df,fun t=>?_⟩,fun id u hu=>?_⟩,hr.pn⟩
 ·obtain⟨Y,p2,p3⟩:=q id o a1;obtain⟨u,r1,C⟩:=I.ob _ _ Y;refine⟨u,by rw[p id p2];exact r1,?_⟩;cases o with
  | arr e A N=>exact OR.mono (ρ:=ρ) (ρ':=ρ) (w:=w) (o:= .arr e A N) D (fun _ _ h=>h) (fun _ h=>h) (fun _ _ _=>rfl) C
  | fz A N =>
   simp only[nu,OR]at C ⊢;exact qn rfl (V.mono D (fun _ _ h=>h) C)
  | mat e e2 A a3 hole=>exact C3 (fun k B e=>p B (p3 B (by subst e;simp[n5]))) (OR.mono (ρ:=ρ) (ρ':=ρ) (w:=w) D (fun _ _ h=>h) (fun _ h=>h) (fun _ _ _=>rfl) C)
  | mpo K A kv=>exact OR.mono (ρ:=ρ) (ρ':=ρ) (w:=w) (o:= .mpo K A kv) D (fun _ _ h=>h) (fun _ h=>h) (fun _ _ _=>rfl) C
  | mpl K kv=>exact OR.mono (ρ:=ρ) (ρ':=ρ) (w:=w) (o:= .mpl K kv) D (fun _ _ h=>h) (fun _ h=>h) (fun _ _ _=>rfl) C
  | cutz A N =>
   simp only[nu,OR]at C ⊢;exact⟨C.1,qn rfl (V.mono D (fun _ _ h=>h) C.2)⟩
  | bytes e N=>exact OR.mono (ρ:=ρ) (ρ':=ρ) (w:=w) (o:= .bytes e N) D (fun _ _ h=>h) (fun _ h=>h) (fun _ _ _=>rfl) C
  | mpq b kv=>exact C
  | nds e e2 ns hole =>
   have r3:=OR.mono (ρ:=ρ) (ρ':=ρ) (w:=w) D (fun _ _ h=>h) (fun _ h=>h) (fun _ _ _=>rfl) C;match hole with
   | none=>exact tD r3
   | some (k,g,B)=>exact tA (p B (p3 B (by simp[n5]))) r3
  | lmp k n N cs =>
   obtain⟨g,t,cells,e,Z,s1,s2,s3,s4⟩:=C;refine⟨g,t,cells,e,Z,s1,by rw[s2,bE],s3,?_⟩;exact mn (fun i hi=>p i (p3 i (by simpa only [n5]using hi))) (VL.mono D (fun _ _ h=>h) (fun _ _ h=>h) s4)
  | vrow n sz cs =>
   obtain⟨g,t,cells,e,Z,s1,s2,s3,s4⟩:=C;refine⟨g,t,cells,e,Z,s1,by rw[s2,bE],by rw[←s3,bE],?_⟩;exact mn (fun i hi=>p i (p3 i (by simpa only [n5]using hi))) (VL.mono D (fun _ _ h=>h) (fun _ _ h=>h) s4)
  | box cs =>
   obtain⟨g,t,cells,e,Z,s1,s2,s3⟩:=C;refine⟨g,t,cells,e,Z,s1,by rw[s2,bE],?_⟩;exact mn (fun i hi=>p i (p3 i (by simpa only [n5]using hi))) (VL.mono D (fun _ _ h=>h) (fun _ _ h=>h) s3)
 ·obtain⟨Y,p2,_⟩:=q id o M;obtain⟨a2,a4,_⟩:=q B o' h3;have:=I.dj _ _ _ _ k Y (by rw[z];exact X) a2 (by rw[z];exact h4) h5 h6;rcases k3 _ (mB M) _ (mB h3)with e | e
  ·exact e
  ·exact absurd this e
 ·have:=k0 i (List.mem_range.2 (hr.pn i u hi));rw[p i this.2,this.1];exact I.oW i u hi
 ·simp only[aA];cases hl:look l t with
  | none=>simp only[Option.getD_none,V]
  | some x =>
   have L:=mB hl;have hv:=q2.sl t;rw[pV.get hs L]at hv;simp only[Option.getD_some];exact I3 (fun i hi=>p i (k1 _ L i hi)) (V.mono D (fun _ _ h=>h) hv)
 ·simp only[ρ']at hu;split at hu
  ·assumption
  ·cases hu
end
def bh(β:Bool):List (Σ T:Ty,T.den)→List af
 | []=>[]
 | ⟨T,x⟩::r=>enc β T x::bh β r
def aL:List af→af
 | [x]=>x
 | xs=> .tup xs
def sU(tb:bQ)(s:Nat→af)(h:Nat→Qz):List ResultVar→Option (List af)
 | []=>some []
 | .tmp t::r=>match sU tb s h r with
  | some xs=>some (s t::xs)
  | none=>none
 | .cell a t::r=>match s a with
  | .adr id i sz off=>match h id with
   | some (.box cs)=>match tb.find t with
    | some ti=>match gh ti cs (i*sz+off)with
     | some x=>match sU tb s h r with
      | some xs=>some (x::xs)
      | none=>none
     | none=>none
    | none=>none
   | _=>none
  | _=>none
def mi(h:Nat→Qz):List af→List Ty→Option (List (Σ T:Ty,T.den))
 | [],[]=>some []
 | x::xs,T::Ts=>if(cellsOf x).all af.cell && kj T x then match Fm T h x with
  | some (y,u)=>match mi (apply u h) xs Ts with
   | some ys=>some (⟨T,y⟩::ys)
   | none=>none
  | none=>none
  else none
 | _,_=>none
def Ku(tb:bQ)(j:List ResultVar)(e:List (Σ T:Ty,T.den)):Exit→St→Prop
 | .normal,σ=>∃f Ts,sU tb σ.s σ.h j=some f∧mi σ.h f Ts=some e
 | .ret,σ=>∃f Ts,sU tb σ.s σ.h j=some f∧mi σ.h f Ts=some e
 | _,_=>False
def nz(args:List af):St:=⟨fun t=>(args[t]?).getD .unk,fun _=>none,0,0⟩
section
variable{P:Program}{tb:bQ}{n:NS}{Bw:Nat→Prop}{w0:cz P}{w:World}{ρ:Nat→QW}{φ:Nat→Nat→Prop}{s:Nat→af}{h:Nat→Qz}{a:Act}
theorem iO(p:cb P tb)(m:Mem Bw w0 ρ φ h w)(z:eL n (Fr (own φ h) Bw w) ρ s a):∀ {I:List ResultVar} {u:List af},sU tb s h I=some u →
  ∃q,(I.mapM (fun r:ResultVar=>(match r with | .tmp t=>pure (a.tmps.getD t undef) | .cell B t=>(do loadVar t (←asAddr (a.tmps.getD B undef)):Sem Value)))).run P w = .ok q w∧iH (Fr (own φ h) Bw w) ρ u q
 | [],u,j=>by cases j;exact⟨[],rfl,trivial⟩
 | .tmp t::r,u,j=>by
  simp only[sU]at j;split at j
  ·rename_i C D;cases j;obtain⟨q,A,E⟩:=iO p m z D;refine⟨a.tmps.getD t undef::q,?_,z.sl t,E⟩;rw[List.mapM_cons,Sem.run_bind];simp only[Sem.run_pure,Result.andThen_ok,Sem.run_bind,A]
  ·cases j
 | .cell B t::r,u,j=>by
  simp only[sU]at j;split at j
  ·rename_i id i sz off e;split at j
   ·rename_i cs hi;split at j
    ·rename_i ti ht;split at j
     ·rename_i x L;split at j
      ·rename_i C D;cases j;obtain⟨q,A,E⟩:=iO p m z D;have J:=z.sl B;rw[e]at J;obtain⟨b,M,N⟩:=p7 m J (cs:=cs) (off:=i*sz+off) (c:=True) (by simp only[lP,hi]) trivial;obtain⟨v,O,V⟩:=ir (P:=P) (p.find ht) N L;refine⟨v::q,?_,V,E⟩;rw[List.mapM_cons,Sem.run_bind];simp only[M,asAddr,Sem.run_bind,Sem.run_pure,Result.andThen_ok,O];simp only[asAddr]at A;rw[A];rfl
      ·cases j
     ·cases j
    ·cases j
   ·cases j
  ·cases j
theorem m6:∀ {J:List af} {Ts:List Ty} {h:Nat→Qz} {f:List (Σ T:Ty,T.den)} {B:QY},Mem Bw w0 ρ φ h w→mi h J Ts=some f→iH (Fr (own φ h) Bw w) ρ J B →
  iH (fun _=>Fr gf Bw w false) jg (bh false f) B
 | [],[],h,f,B,_,j,C=>by
  cases j;cases B with
  | nil=>trivial
  | cons _ _=>exact C.elim
 | x::J,T::Ts,h,f,B,m,j,C=>by
  simp only[mi]at j;split at j
  ·rename_i hc;split at j
   ·rename_i y u N;split at j
    ·rename_i ys O;cases j;cases B with
     | nil=>exact C.elim
     | cons v B =>
      obtain⟨X,Y,Z⟩:=mI m N;simp only[Bool.and_eq_true]at hc;obtain⟨q,z⟩:=hc;obtain⟨r1,r2,r3⟩:=fV q C.1;obtain⟨s1,s2⟩:=Z _ r1;refine⟨?_,m6 X O (iH.mono Y (fun _ _ h=>h) C.2)⟩;have D:ah (Fr gf Bw w false) T y (fun k u=>v.cells.toList[k]? = some u):=ah.mono (fun a u hh=>⟨fun e=>e,hh.2⟩) (fun _ _ h=>h) s1;by_cases p:∃M,x = .agg M
      ·obtain⟨M,rfl⟩:=p;have I:=C.1;simp only[V]at I;obtain⟨us,rfl,e2,e3⟩:=I;have A:T.scalar=false:=by simpa [kj]using z
       simp only[enc,A];simp only[Bool.false_eq_true,if_false,V];refine⟨us,rfl,?_,jy false T y _ (ah.mono (fun _ _ h=>h) (fun k u hk=>by simpa [Value.cells]using hk) D)⟩;rw[eP,s2,e2];rfl
      ·have E:cellsOf x=[x]:=by cases x <;> first | rfl | exact(p ⟨_,rfl⟩).elim | cases z
       have A:T.scalar=true:=by cases x <;> first | exact z | exact(p ⟨_,rfl⟩).elim | cases z
       rw[E]at q;simp only[List.all_cons,List.all_nil,Bool.and_true]at q;have L:=fL (rK q C.1);simp only[enc,A,if_true,V];refine⟨trivial,?_⟩;rw[L]at D;refine ah.gm (fun k u hk hu=>?_) D;rw[Ty.fB A]at hk;obtain rfl:k=0:=by omega
       simp at hu;exact hu.symm
    ·cases j
   ·cases j
  ·cases j
 | [],_::_,_,_,_,_,j,_=>by cases j
 | _::_,[],_,_,_,_,j,_=>by cases j
theorem iK{F:Bool→Addr→Value→Prop}:∀ {xs:List af} {e:QY},iH F ρ xs e→xs.length=e.length∧∀t:Nat,V F ρ ((xs[t]?).getD .unk) ((e[t]?).getD undef)
 | [],[],_=>⟨rfl,fun t=>by simp only[List.getElem?_nil,Option.getD_none,V]⟩
 | x::xs,v::e,h=>by
  obtain⟨j,p⟩:=iK h.2;refine⟨by simp[j],fun t=>?_⟩;cases t with
  | zero=>exact h.1
  | succ t=>simpa using p t
 | [],_::_,h=>h.elim
 | _::_,[],h=>h.elim
theorem kW{α β:Type}(f:α→Sem β)(l:Array α)(w:World){e:List β}(h:(l.toList.mapM f).run P w = .ok e w):(l.mapM f).run P w = .ok e.toArray w:=by
 rw[Array.mapM_eq_mapM_toList,Sem.run_map,h];rfl
def D6:Nat→Nat→Prop:=fun _ _=>False
theorem Pure.jB{f:FuncId}{fn:Func}{c:Code}(X:cb P tb)(hf:P.funcs[f]? = some fn)(p:(fn.name == "runtime.NumGoroutine")=false)(hb:fn.body=some c){args:List af}(a2:args.length≤fn.ntmps)
  {j:List (Σ T:Ty,T.den)} (h:∀Bw w0,W P fn.ntmps Bw w0 c (nz args) (Ku tb fn.results.toList j)) (_:nO args=true):Pure P f args (aL (bh false j)):=by
 refine⟨⟨fn,hf,p,by rw[hb];rfl⟩,fun Bw w z L Y B=>calls_of_wp hf hb ?_⟩;have Z:∀β a v,Fr gf Bw w β a v→Fr (own D6 (nz args).h) Bw w β a v:=fun β a v hh=>⟨fun⟨_,_,_,_,h3⟩=>h3,hh.2⟩
 obtain⟨hl,hg⟩:=iK B;have hR:R fn.ntmps Bw (kY L) (nz args) { tmps:=z++Array.replicate (fn.ntmps - z.size) undef,defers:=[] } w:=by
  refine⟨⟨jg,D6,⟨fun id o h=>(by cases h),fun id o k h=>(by cases h),fun id a3 o o' k C=>(by cases C),Y,fun k ⟨_,_,_,_,h3⟩=>h3.elim,Kept.refl _,fun i u h=>(by cases h)⟩,⟨?_,rfl,fun t=>?_⟩,fun id u hu=>(by cases hu)⟩,fun i u h=>(by cases h)⟩
  ·have:z.size=args.length:=by rw[hl,Array.length_toList]
   simp only[Array.size_append,Array.size_replicate];omega
  ·have hv:=V.mono Z (fun _ _ h=>h) (hg t);simp only[nz];rcases Nat.lt_or_ge t z.size with q | q
   ·have e:(z++Array.replicate (fn.ntmps - z.size) undef).getD t undef=(z.toList[t]?).getD undef:=by simp[Array.getD_eq_getD_getElem?,Array.getElem?_append,q]
    rw[e];exact hv
   ·have:args[t]? = none:=List.getElem?_eq_none (by rw[hl,Array.length_toList];exact q);rw[this];simp only[Option.getD_none,V]
 refine wp_mono (h Bw (kY L) _ _ hR) fun e a' w' ⟨σ',a1,J⟩=>?_
 have key:∀xs Ts,sU tb σ'.s σ'.h fn.results.toList=some xs→mi σ'.h xs Ts=some j→a'.defers=[]∧∃v,(results fn a'.tmps).run P w' = .ok v w' ∧
   ∃M,Ending.returned v = .returned M∧Below w.heap.size w w'∧V (fun _=>Fr gf Bw w' false) jg (aL (bh false j)) M:=fun xs Ts C N=>by
  obtain⟨ρ,φ,q1,q2,_⟩:=a1.ex;obtain⟨D,r1,r2⟩:=iO (P:=P) X q1 q2 C;have E:=m6 q1 N r2;have r4:=kW (P:=P) _ fn.results w' r1;refine⟨q2.df,(if h:D.toArray.size=1 then D.toArray[0]else .tuple D.toArray),?_,_,rfl,q1.kp.below,?_⟩
  ·unfold results;rw[Sem.run_bind];exact(congrArg (fun r=>Result.andThen r (fun a w'=>Sem.run P (pure (if h:a.size=1 then a[0]else Value.tuple a)) w')) r4).trans rfl
  ·have I:=(iK E).1;generalize bh false j=ys at E I ⊢;match ys,D,E with
   | [],[],_=>simp only[aL,V];exact⟨#[],rfl,rfl,by simp only[VL]⟩
   | [y],[v],E=>exact E.1
   | y::y'::ys,v::M::D,E =>
    have:¬((v::M::D).toArray.size=1):=by simp
    rw[dif_neg this];simp only[aL,V];refine⟨_,rfl,by simpa using I.symm,VL.mk fun k x hk=>?_⟩;have:=(iK E).2 k;rw[hk]at this;have O:k<(v::M::D).length:=by rw[←I];exact(List.getElem?_eq_some_iff.1 hk).1
    rw[List.getElem?_eq_getElem O]at this;exact⟨_,by simp[O],this⟩
 cases e with
 | normal =>
  obtain⟨xs,Ts,C,N⟩:=J;exact key xs Ts C N
 | ret =>
  obtain⟨xs,Ts,C,N⟩:=J;exact key xs Ts C N
 | exit _=>exact J.elim
 | goto _=>exact J.elim
 | panic _=>exact J.elim
 | outgrown=>exact J.elim
end
end Go.Tv
