import Derived.Test.YtflahpmlcfhpcaaGreatDoorTvO
namespace Go.Tv
open Go Go.RowKit
structure R{P:Program}(n:NS)(Bw:Nat→Prop)(w0:cw P)(σ:St)(a:Act)(w:World):Prop where
 ex:∃ρ φ,Mem Bw w0 ρ φ σ.h w∧eT n (Fr (own φ σ.h) Bw w) ρ σ.s a∧∀id u,ρ id=some u→id<σ.nx
 pn:∀i u,w0.pc i=some u→i<σ.pn
def W(P:Program)(n:NS)(Bw:Nat→Prop)(w0:cw P)(c:Code)(σ:St)(Q:Exit→St→Prop):Prop :=
 ∀a w,R n Bw w0 σ a w→c.wp P (fun e j w'=>∃σ',R n Bw w0 σ' j w'∧Q e σ') a w
section
variable{P:Program}{n:NS}{Bw:Nat→Prop}{w0:cw P}{Q Q':Exit→St→Prop}{σ:St}
theorem W.mono{c:Code}(h:W P n Bw w0 c σ Q)(j:∀e σ',Q e σ'→Q' e σ'):W P n Bw w0 c σ Q':=fun a w z =>
 wp_mono (h a w z) fun e _ w' ⟨σ',B,D⟩=>⟨σ',B,j _ _ D⟩
theorem JH(h:Q .normal σ):W P n Bw w0 .skip σ Q:=fun _ _ e=>wp_skip ⟨σ,e,h⟩
theorem aw(h:Q .ret σ):W P n Bw w0 .ret σ Q:=fun _ _ f=>wp_ret ⟨σ,f,h⟩
theorem J2{id:Nat}(h:Q (.exit id) σ):W P n Bw w0 (.exit id) σ Q:=fun _ _ e=>wp_exit ⟨σ,e,h⟩
def yg(P:Program)(n:NS)(Bw:Nat→Prop)(w0:cw P)(d:Code)(Q:Exit→St→Prop):Exit→St→Prop
 | .normal,σ=>W P n Bw w0 d σ Q
 | e,σ=>Q e σ
theorem af{c d:Code}(h:W P n Bw w0 c σ (yg P n Bw w0 d Q)):W P n Bw w0 (.seq c d) σ Q:=fun a w p =>
 wp_seq (wp_mono (h a w p) fun e q w' ⟨σ',f,j⟩=>by
  cases e with
  | normal=>exact j q w' f
  | _=>exact⟨σ',f,j⟩)
theorem BS{c:Operand}{x y:Code}{β b:Bool}(hc:ev σ.s c = .p β .bool b)(j:b=true→W P n Bw w0 x σ Q)(q:b=false→W P n Bw w0 y σ Q):W P n Bw w0 (.cond c x y) σ Q:=fun a w e=>by
 obtain⟨ρ,φ,_,u,_⟩:=e.ex;have f:=aV u c;rw[hc]at f;refine wp_cond (nj f) ?_;cases b with
 | true=>exact j rfl a w e
 | false=>exact q rfl a w e
def lq(id:Nat)(Q:Exit→St→Prop):Exit→St→Prop
 | .exit f,σ=>if f=id then Q .normal σ else Q (.exit f) σ
 | e,σ=>Q e σ
theorem ak{id:Nat}{c:Code}(h:W P n Bw w0 c σ (lq id Q)):W P n Bw w0 (.block id c) σ Q:=fun a w p =>
 wp_block (wp_mono (h a w p) fun e u v ⟨σ',j,f⟩=>by
  cases e with
  | exit q =>
   simp only[lq]at f;simp only[Exit.inBlock];split at f
   ·rename_i e;rw[if_pos e];exact⟨σ',j,f⟩
   ·rename_i e;rw[if_neg e];exact⟨σ',j,f⟩
  | _=>exact⟨σ',j,f⟩)
theorem Gm(p:Nat→Prop)(h:∃k,p k):∃k,p k∧∀m,p m→k≤m:=by
 obtain⟨k,hk⟩:=h;induction k using Nat.strongRecOn with
 | _ k q =>
  by_cases j:∃m,m<k∧p m
  ·obtain⟨m,e,f⟩:=j;exact q m e f
  ·exact⟨k,hk,fun m f=>Nat.le_of_not_lt fun e=>j ⟨m,e,f⟩⟩
def Le(n:NS)(σ σ':St):Prop:=∀(P:Program) Bw (w0:cw P) a w,R n Bw w0 σ a w→R n Bw w0 σ' a w
theorem Le.refl(σ:St):Le n σ σ:=fun _ _ _ _ _ h=>h
theorem Le.trans{σ1 e j:St}(h:Le n σ1 e)(k:Le n e j):Le n σ1 j:=fun _ _ _ _ _ p=>k _ _ _ _ _ (h _ _ _ _ _ p)
theorem IB{σ':St}{c:Code}(hl:Le n σ σ')(h:W P n Bw w0 c σ' Q):W P n Bw w0 c σ Q:=fun a w e=>h a w (hl _ _ _ _ _ e)
def JR{α:Type}(n:NS)(Inv:Nat→α→Prop)(f:α→St)(k:Nat)(Q:Exit→St→Prop):Exit→St→Prop
 | .normal,σ=>∃m y,m<k∧Inv m y∧Le n σ (f y)
 | e,σ=>Q e σ
theorem J3{α:Type}{c:Code}(Inv:Nat→α→Prop)(f:α→St)(h:∀k x,Inv k x→W P n Bw w0 c (f x) (JR n Inv f k Q)){k:Nat}{x:α}(I:Inv k x)(hl:Le n σ (f x)):
  W P n Bw w0 (.loop c) σ Q:=fun a w J=>by
 let p:Act→World→Nat→Prop:=fun a w k=>∃x,Inv k x∧R n Bw w0 (f x) a w
 have A:∀a w,(∃k,p a w k)→∃k,p a w k∧∀m,p a w m→k≤m:=fun a w=>Gm (p a w)
 classical
 let u:Act→World→Nat:=fun a w=>if h:∃k,p a w k then(A a w h).choose else 0
 have q:∀a w (h:∃k,p a w k),p a w (u a w)∧∀m,p a w m→u a w≤m:=fun a w h=>by simp only[u,dif_pos h];exact(A a w h).choose_spec
 refine Go.wp_loop (fun a w=>∃k,p a w k) u ⟨k,x,I,hl _ _ _ _ _ J⟩ fun a w hi=>?_
 obtain⟨⟨x,L,M⟩,_⟩:=q a w hi;refine wp_mono (h _ x L a w M) fun e B C ⟨σ',D,E⟩=>?_
 cases e with
 | normal =>
  obtain⟨m,y,N,v,z⟩:=E;have j:p B C m:=⟨y,v,z _ _ _ _ _ D⟩;exact⟨⟨m,j⟩,Nat.lt_of_le_of_lt ((q B C ⟨m,j⟩).2 m j) N⟩
 | _=>exact⟨σ',D,E⟩
theorem AG{tb:bU}(f:cg P tb)(an:An){id:Nat}{ops:Array Oper}{v:Nat→ag}{h':Nat→Qz}{x:List Prop}(D:D7 P tb an n σ.nx ops ops.toList 0 σ.s σ.h=some (v,h',x))(hc:oU x)
  (E:Q .normal ⟨v,h',σ.nx+8*ops.size,σ.pn⟩):W P n Bw w0 (.region id ops false) σ Q:=fun a w z=>by
 obtain⟨ρ,φ,I,J,L⟩:=z.ex;refine wp_region ?_;have:=vN (P:=P) (tb:=tb) (an:=an) (n:=n) (base:=σ.nx) (ops:=ops) (Bw:=Bw) (w0:=w0) f (Q:=fun e A B=>∃σ',R n Bw w0 σ' A B∧Q e σ') ops.toList 0 (a:=a) (w:=w)
  ⟨ρ,φ,I,J,fun id u hu=> .inl (L id u hu)⟩ (fun j=>by simp) D hc (fun A B M=>⟨_,?_,E⟩)
 ·rw[←List.range_eq_range']at this;simpa using this
 ·obtain⟨p,q,N,O,C⟩:=M.ex;refine⟨⟨p,q,N,O,fun id u hu=>?_⟩,z.pn⟩;simp only[Array.length_toList]at C;rcases C id u hu with V | ⟨i,j,V,X,Y⟩ <;> simp only <;> omega
theorem tJ{tb:bU}(f:cg P tb)(an:An)(r:Nat){id:Nat}{ops:Array Oper}{x:Nat→ag}{h':Nat→Qz}{z:List Prop}{y:Value}(E:oS P tb an n σ.nx ops r ops.toList 0 σ.s σ.h=some (x,h',z,y))(hc:oU z)
  (I:Q (.panic [{ v:=y,recovered:=false }]) ⟨x,h',σ.nx+8*ops.size,σ.pn⟩):W P n Bw w0 (.region id ops false) σ Q:=fun a w A=>by
 obtain⟨ρ,φ,J,L,M⟩:=A.ex;refine wp_region ?_;have:=qJ (P:=P) (tb:=tb) (an:=an) (n:=n) (base:=σ.nx) (ops:=ops) (Bw:=Bw) (w0:=w0) f (Q:=fun e B C=>∃σ',R n Bw w0 σ' B C∧Q e σ') r ops.toList 0 (a:=a) (w:=w)
  ⟨ρ,φ,J,L,fun id u hu=> .inl (M id u hu)⟩ (fun j=>by simp) E hc (fun B C N=>⟨_,?_,I⟩)
 ·rw[←List.range_eq_range']at this;simpa using this
 ·obtain⟨p,q,O,V,D⟩:=N.ex;refine⟨⟨p,q,O,V,fun id u hu=>?_⟩,A.pn⟩;simp only[Array.length_toList]at D;rcases D id u hu with X | ⟨i,j,X,Y,Z⟩ <;> simp only <;> omega
def qn(e:List (QV×QV))(i:Nat):QV:=match e[i]? with | some p=>p.1 | none=>[]
def qa(e:List (QV×QV))(i:Nat):QV:=match e[i]? with | some p=>p.2 | none=>[]
theorem tM{tb:bU}{an:An}{base:Nat}{ops:Array Oper}:∀(l:List Oper) (k:Nat) {s j:Nat→ag} {h h':Nat→Qz} {p:List Prop} {f:List (QV×QV)},Bt P tb an n base ops l k s h=some (j,h',p,f)→f.length=l.length
 | [],_,_,_,_,_,_,_,e=>by cases e;rfl
 | o::l,k,s,j,h,h',p,f,e=>by
  simp only[Bt]at e;split at e
  ·split at e
   ·rename_i q;cases e;simp[tM l (k+1) q]
   ·cases e
  ·cases e
theorem Js{tb:bU}(A:cg P tb)(Y:P.follows .mixedOrders=true)(an:An){id:Nat}{ops:Array Oper}{x:Nat→ag}{h':Nat→Qz}{L:List Prop}{f:List (QV×QV)}
  (M:Bt P tb an n σ.nx ops ops.toList 0 σ.s σ.h=some (x,h',L,f)) (Z:EA ops (qn f) (qa f) (pD ops) ops.size 0 (Array.replicate ops.size false)=true) (hc:oU L)
  (hq:Q .normal ⟨x,h',σ.nx+8*ops.size,σ.pn⟩):W P n Bw w0 (.region id ops true) σ Q:=fun a w N=>by
 obtain⟨ρ,φ,q1,q2,q3⟩:=N.ex;obtain⟨B,qF⟩:=q1.drew;have O:=tM ops.toList 0 M;refine wp_region_any Y ?_;have hA:=AA (P:=P) (tb:=tb) (an:=an) (n:=n) (base:=σ.nx) (ops:=ops) (F:=qn f) (W:=qa f) (Q:=fun s h=>s=x∧h=h') ops.toList 0 (Array.replicate ops.size false) (fun j=>by simp)
  (fun j=>by
   simp only[Nat.zero_add];split
   ·rename_i C;have e:j<f.length:=by omega
    simp[qn,e]
   ·rename_i C;have e:f.length≤j:=by omega
    simp[List.getElem?_eq_none e])
  (fun j=>by
   simp only[Nat.zero_add];split
   ·rename_i C;have e:j<f.length:=by omega
    simp[qa,e]
   ·rename_i C;have e:f.length≤j:=by omega
    simp[List.getElem?_eq_none e])
  (fun k o hk hl=>by simp[Array.getD]at hl) (by simpa using Z) M hc ⟨rfl,rfl⟩
 have D:EZ P tb an n σ.nx ops (qn f) (qa f) (fun s h=>s=x∧h=h') ops.size (Array.replicate ops.size false) σ.s σ.h:=by simpa using hA
 refine pX (P:=P) (tb:=tb) (an:=an) (n:=n) (base:=σ.nx) (ops:=ops) (Bw:=Bw) (w0:=w0) A (fun s h a w E p=>?_) ops.size _ (by simp) ⟨ρ,φ,B,q2.mono qF (fun _ _ h=>h),fun id u hu=> .inl (q3 id u hu)⟩ D;obtain⟨rfl,rfl⟩:=E;obtain⟨I,J,r1,r2,r3⟩:=p.ex;refine⟨⟨s,h,σ.nx+8*ops.size,σ.pn⟩,⟨⟨I,J,r1,r2,fun id u hu=>?_⟩,N.pn⟩,hq⟩;rcases r3 id u hu with h1 | ⟨i,j,h1,h2,h3⟩ <;> simp only <;> omega
/-! ### z V: X is dead is dropped,q get new v -/
def aA(l:List (Nat×ag))(m:Qw)(nx:Nat)(pn:Nat:=0):St:=⟨fun t=>(look l t).getD .unk,fun i=>look m i,nx,pn⟩
def pN(f:Nat→Nat)(s:Nat→ag):List (Nat×ag)→Prop
 | []=>True
 | (t,x)::r=>s t=lT f x∧pN f s r
def pU(f:Nat→Nat)(h:Nat→Qz):Qw→Prop
 | []=>True
 | (i,o)::r=>h (f i)=some (nb f o)∧pU f h r
theorem pN.get{f:Nat→Nat}{s:Nat→ag}:∀ {l:List (Nat×ag)},pN f s l→∀ {t x},(t,x)∈l→s t=lT f x
 | (_,_)::_,h,t,x,j=>by
  rcases List.mem_cons.1 j with e | j
  ·cases e;exact h.1
  ·exact pN.get h.2 j
theorem pU.get{f:Nat→Nat}{h:Nat→Qz}:∀ {l:Qw},pU f h l→∀ {t x},(t,x)∈l→h (f t)=some (nb f x)
 | (_,_)::_,h,t,x,j=>by
  rcases List.mem_cons.1 j with e | j
  ·cases e;exact h.1
  ·exact pU.get h.2 j
def kG(f:Nat→Nat)(l:List (Nat×ag))(m:Qw)(nx pn:Nat):Bool :=
 (List.range pn).all (fun i=>f i == i && decide (i<nx)) &&
 l.all (fun p=>(ids p.2).all (· < nx)) && m.all (fun p=>decide (p.1<nx) && (n9 p.2).all (· < nx)) && m.all (fun p=>m.all fun q=>p.1 == q.1 || !(f p.1 == f q.1))
theorem Kp(f:Nat→Nat){l:List (Nat×ag)}{m:Qw}{nx:Nat}(hs:pN f σ.s l)(ho:pU f σ.h m)(O:kG f l m nx σ.pn=true):Le n σ (aA l m nx σ.pn):=fun P Bw w0 a w hr=>by
 obtain⟨ρ,φ,I,q2,q3⟩:=hr.ex;simp only[kG,Bool.and_eq_true,List.all_eq_true,decide_eq_true_eq,Bool.or_eq_true,beq_iff_eq,Bool.not_eq_true',beq_eq_false_iff_ne]at O;obtain⟨⟨⟨k0,k1⟩,k2⟩,k3⟩:=O;let ρ':Nat→QW:=fun i=>if i<nx then ρ (f i)else none
 let J:Nat→Nat→Prop:=fun i=>φ (f i)
 have p:∀i,i<nx→ρ' i=ρ (f i):=fun i hi=>by simp only[ρ',if_pos hi]
 have q:∀i o,look m i=some o→σ.h (f i)=some (nb f o)∧i<nx∧∀j∈n9 o,j<nx:=fun i o hi=>by have L:=mW hi;exact⟨pU.get ho L,(k2 _ L).1,(k2 _ L).2⟩
 have z:∀o,(nb f o).live=o.live:=fun o=>gH
 have E:∀k,own J (fun i=>look m i) k→own φ σ.h k:=by rintro k ⟨id,o,M,X,h4⟩;obtain⟨Y,p2,_⟩:=q id o M;exact⟨f id,_,Y,by rw[z];exact X,h4⟩
 have D:∀β a v,Fr (own φ σ.h) Bw w β a v→Fr (own J (fun i=>look m i)) Bw w β a v:=fun β a v h=>⟨fun x=>h.1 (E _ x),h.2⟩
 refine⟨⟨ρ',J,⟨fun id o a1=>?_,fun id o k M X h3=>I.lt _ _ k (q id o M).1 (by rw[z];exact X) h3,fun id B o o' k M X h3 h4 h5 h6=>?_,I.bw,fun k hk=>I.ow k (E k hk),I.kp,fun i u hi=>?_⟩,⟨q2.tm,q2.df,fun t=>?_⟩,fun id u hu=>?_⟩,hr.pn⟩
 ·obtain⟨Y,p2,p3⟩:=q id o a1;obtain⟨u,r1,C⟩:=I.ob _ _ Y;refine⟨u,by rw[p id p2];exact r1,?_⟩;cases o with
  | arr e A N=>exact OR.mono (ρ:=ρ) (ρ':=ρ) (w:=w) (o:= .arr e A N) D (fun _ _ h=>h) (fun _ h=>h) (fun _ _ _=>rfl) C
  | fz A N =>
   simp only[nb,OR]at C ⊢;exact qd rfl (V.mono D (fun _ _ h=>h) C)
  | mat e e2 A a3 hole=>exact Cu (fun k B e=>p B (p3 B (by subst e;simp[n9]))) (OR.mono (ρ:=ρ) (ρ':=ρ) (w:=w) D (fun _ _ h=>h) (fun _ h=>h) (fun _ _ _=>rfl) C)
  | mpo K A kv=>exact OR.mono (ρ:=ρ) (ρ':=ρ) (w:=w) (o:= .mpo K A kv) D (fun _ _ h=>h) (fun _ h=>h) (fun _ _ _=>rfl) C
  | mpl K kv=>exact OR.mono (ρ:=ρ) (ρ':=ρ) (w:=w) (o:= .mpl K kv) D (fun _ _ h=>h) (fun _ h=>h) (fun _ _ _=>rfl) C
  | cutz A N =>
   simp only[nb,OR]at C ⊢;exact⟨C.1,qd rfl (V.mono D (fun _ _ h=>h) C.2)⟩
  | bytes e N=>exact OR.mono (ρ:=ρ) (ρ':=ρ) (w:=w) (o:= .bytes e N) D (fun _ _ h=>h) (fun _ h=>h) (fun _ _ _=>rfl) C
  | mpq b kv=>exact C
  | nds e e2 ns hole =>
   have r3:=OR.mono (ρ:=ρ) (ρ':=ρ) (w:=w) D (fun _ _ h=>h) (fun _ h=>h) (fun _ _ _=>rfl) C;match hole with
   | none=>exact tS r3
   | some (k,g,B)=>exact tp (p B (p3 B (by simp[n9]))) r3
  | lmp k n N cs =>
   obtain⟨g,t,cells,e,Z,s1,s2,s3,s4⟩:=C;refine⟨g,t,cells,e,Z,s1,by rw[s2,bD],s3,?_⟩;exact mr (fun i hi=>p i (p3 i (by simpa only [n9]using hi))) (VL.mono D (fun _ _ h=>h) (fun _ _ h=>h) s4)
  | vrow n sz cs =>
   obtain⟨g,t,cells,e,Z,s1,s2,s3,s4⟩:=C;refine⟨g,t,cells,e,Z,s1,by rw[s2,bD],by rw[←s3,bD],?_⟩;exact mr (fun i hi=>p i (p3 i (by simpa only [n9]using hi))) (VL.mono D (fun _ _ h=>h) (fun _ _ h=>h) s4)
  | box cs =>
   obtain⟨g,t,cells,e,Z,s1,s2,s3⟩:=C;refine⟨g,t,cells,e,Z,s1,by rw[s2,bD],?_⟩;exact mr (fun i hi=>p i (p3 i (by simpa only [n9]using hi))) (VL.mono D (fun _ _ h=>h) (fun _ _ h=>h) s3)
 ·obtain⟨Y,p2,_⟩:=q id o M;obtain⟨a2,a4,_⟩:=q B o' h3;have:=I.dj _ _ _ _ k Y (by rw[z];exact X) a2 (by rw[z];exact h4) h5 h6;rcases k3 _ (mW M) _ (mW h3)with e | e
  ·exact e
  ·exact absurd this e
 ·have:=k0 i (List.mem_range.2 (hr.pn i u hi));rw[p i this.2,this.1];exact I.pc i u hi
 ·simp only[aA];cases hl:look l t with
  | none=>simp only[Option.getD_none,V]
  | some x =>
   have L:=mW hl;have hv:=q2.sl t;rw[pN.get hs L]at hv;simp only[Option.getD_some];exact IU (fun i hi=>p i (k1 _ L i hi)) (V.mono D (fun _ _ h=>h) hv)
 ·simp only[ρ']at hu;split at hu
  ·assumption
  ·cases hu
end
def bk(β:Bool):List (Σ T:Ty,T.den)→List ag
 | []=>[]
 | ⟨T,x⟩::r=>enc β T x::bk β r
def aM:List ag→ag
 | [x]=>x
 | xs=> .tup xs
def sN(tb:bU)(s:Nat→ag)(h:Nat→Qz):List ResultVar→Option (List ag)
 | []=>some []
 | .tmp t::r=>match sN tb s h r with
  | some xs=>some (s t::xs)
  | none=>none
 | .cell a t::r=>match s a with
  | .adr id i sz off=>match h id with
   | some (.box cs)=>match tb.find t with
    | some ti=>match gk ti cs (i*sz+off)with
     | some x=>match sN tb s h r with
      | some xs=>some (x::xs)
      | none=>none
     | none=>none
    | none=>none
   | _=>none
  | _=>none
def me(h:Nat→Qz):List ag→List Ty→Option (List (Σ T:Ty,T.den))
 | [],[]=>some []
 | x::xs,T::Ts=>if(cellsOf x).all ag.cell && kz T x then match Fa T h x with
  | some (y,u)=>match me (apply u h) xs Ts with
   | some ys=>some (⟨T,y⟩::ys)
   | none=>none
  | none=>none
  else none
 | _,_=>none
def Kg(tb:bU)(j:List ResultVar)(e:List (Σ T:Ty,T.den)):Exit→St→Prop
 | .normal,σ=>∃f Ts,sN tb σ.s σ.h j=some f∧me σ.h f Ts=some e
 | .ret,σ=>∃f Ts,sN tb σ.s σ.h j=some f∧me σ.h f Ts=some e
 | _,_=>False
def nE(args:List ag):St:=⟨fun t=>(args[t]?).getD .unk,fun _=>none,0,0⟩
section
variable{P:Program}{tb:bU}{n:NS}{Bw:Nat→Prop}{w0:cw P}{w:World}{ρ:Nat→QW}{φ:Nat→Nat→Prop}{s:Nat→ag}{h:Nat→Qz}{a:Act}
theorem iN(p:cg P tb)(m:Mem Bw w0 ρ φ h w)(z:eT n (Fr (own φ h) Bw w) ρ s a):∀ {I:List ResultVar} {u:List ag},sN tb s h I=some u →
  ∃q,(I.mapM (fun r:ResultVar=>(match r with | .tmp t=>pure (a.tmps.getD t undef) | .cell B t=>(do loadVar t (←asAddr (a.tmps.getD B undef)):Sem Value)))).run P w = .ok q w∧iL (Fr (own φ h) Bw w) ρ u q
 | [],u,j=>by cases j;exact⟨[],rfl,trivial⟩
 | .tmp t::r,u,j=>by
  simp only[sN]at j;split at j
  ·rename_i C D;cases j;obtain⟨q,A,E⟩:=iN p m z D;refine⟨a.tmps.getD t undef::q,?_,z.sl t,E⟩;rw[List.mapM_cons,Sem.run_bind];simp only[Sem.run_pure,Result.andThen_ok,Sem.run_bind,A]
  ·cases j
 | .cell B t::r,u,j=>by
  simp only[sN]at j;split at j
  ·rename_i id i sz off e;split at j
   ·rename_i cs hi;split at j
    ·rename_i ti ht;split at j
     ·rename_i x L;split at j
      ·rename_i C D;cases j;obtain⟨q,A,E⟩:=iN p m z D;have J:=z.sl B;rw[e]at J;obtain⟨b,M,N⟩:=pR m J (cs:=cs) (off:=i*sz+off) (c:=True) (by simp only[lU,hi]) trivial;obtain⟨v,O,V⟩:=iE (P:=P) (p.find ht) N L;refine⟨v::q,?_,V,E⟩;rw[List.mapM_cons,Sem.run_bind];simp only[M,asAddr,Sem.run_bind,Sem.run_pure,Result.andThen_ok,O];simp only[asAddr]at A;rw[A];rfl
      ·cases j
     ·cases j
    ·cases j
   ·cases j
  ·cases j
theorem m9:∀ {J:List ag} {Ts:List Ty} {h:Nat→Qz} {f:List (Σ T:Ty,T.den)} {B:QY},Mem Bw w0 ρ φ h w→me h J Ts=some f→iL (Fr (own φ h) Bw w) ρ J B →
  iL (fun _=>Fr gm Bw w false) jh (bk false f) B
 | [],[],h,f,B,_,j,C=>by
  cases j;cases B with
  | nil=>trivial
  | cons _ _=>exact C.elim
 | x::J,T::Ts,h,f,B,m,j,C=>by
  simp only[me]at j;split at j
  ·rename_i hc;split at j
   ·rename_i y u N;split at j
    ·rename_i ys O;cases j;cases B with
     | nil=>exact C.elim
     | cons v B =>
      obtain⟨X,Y,Z⟩:=mI m N;simp only[Bool.and_eq_true]at hc;obtain⟨q,z⟩:=hc;obtain⟨r1,r2,r3⟩:=fW q C.1;obtain⟨s1,s2⟩:=Z _ r1;refine⟨?_,m9 X O (iL.mono Y (fun _ _ h=>h) C.2)⟩;have D:ah (Fr gm Bw w false) T y (fun k u=>v.cells.toList[k]? = some u):=ah.mono (fun a u hh=>⟨fun e=>e,hh.2⟩) (fun _ _ h=>h) s1;by_cases p:∃M,x = .agg M
      ·obtain⟨M,rfl⟩:=p;have I:=C.1;simp only[V]at I;obtain⟨us,rfl,e2,e3⟩:=I;have A:T.scalar=false:=by simpa [kz]using z
       simp only[enc,A];simp only[Bool.false_eq_true,if_false,V];refine⟨us,rfl,?_,jB false T y _ (ah.mono (fun _ _ h=>h) (fun k u hk=>by simpa [Value.cells]using hk) D)⟩;rw[eW,s2,e2];rfl
      ·have E:cellsOf x=[x]:=by cases x <;> first | rfl | exact(p ⟨_,rfl⟩).elim | cases z
       have A:T.scalar=true:=by cases x <;> first | exact z | exact(p ⟨_,rfl⟩).elim | cases z
       rw[E]at q;simp only[List.all_cons,List.all_nil,Bool.and_true]at q;have L:=fF (qV q C.1);simp only[enc,A,if_true,V];refine⟨trivial,?_⟩;rw[L]at D;refine ah.gD (fun k u hk hu=>?_) D;rw[Ty.fD A]at hk;obtain rfl:k=0:=by omega
       simp at hu;exact hu.symm
    ·cases j
   ·cases j
  ·cases j
 | [],_::_,_,_,_,_,j,_=>by cases j
 | _::_,[],_,_,_,_,j,_=>by cases j
theorem je{F:Bool→Addr→Value→Prop}:∀ {xs:List ag} {e:QY},iL F ρ xs e→xs.length=e.length∧∀t:Nat,V F ρ ((xs[t]?).getD .unk) ((e[t]?).getD undef)
 | [],[],_=>⟨rfl,fun t=>by simp only[List.getElem?_nil,Option.getD_none,V]⟩
 | x::xs,v::e,h=>by
  obtain⟨j,p⟩:=je h.2;refine⟨by simp[j],fun t=>?_⟩;cases t with
  | zero=>exact h.1
  | succ t=>simpa using p t
 | [],_::_,h=>h.elim
 | _::_,[],h=>h.elim
theorem kZ{α β:Type}(f:α→Sem β)(l:Array α)(w:World){e:List β}(h:(l.toList.mapM f).run P w = .ok e w):(l.mapM f).run P w = .ok e.toArray w:=by
 rw[Array.mapM_eq_mapM_toList,Sem.run_map,h];rfl
def DG:Nat→Nat→Prop:=fun _ _=>False
theorem Pure.jC{f:FuncId}{fn:Func}{c:Code}(X:cg P tb)(hf:P.funcs[f]? = some fn)(p:(fn.name == "runtime.NumGoroutine")=false)(hb:fn.body=some c){args:List ag}(a2:args.length≤fn.ntmps)
  {j:List (Σ T:Ty,T.den)} (h:∀Bw w0,W P fn.ntmps Bw w0 c (nE args) (Kg tb fn.results.toList j)) (_:nX args=true):Pure P f args (aM (bk false j)):=by
 refine⟨⟨fn,hf,p,by rw[hb];rfl⟩,fun Bw w z L Y B=>calls_of_wp hf hb ?_⟩;have Z:∀β a v,Fr gm Bw w β a v→Fr (own DG (nE args).h) Bw w β a v:=fun β a v hh=>⟨fun⟨_,_,_,_,h3⟩=>h3,hh.2⟩
 obtain⟨hl,hg⟩:=je B;have hR:R fn.ntmps Bw (kU L) (nE args) { tmps:=z++Array.replicate (fn.ntmps - z.size) undef,defers:=[] } w:=by
  refine⟨⟨jh,DG,⟨fun id o h=>(by cases h),fun id o k h=>(by cases h),fun id a3 o o' k C=>(by cases C),Y,fun k ⟨_,_,_,_,h3⟩=>h3.elim,Kept.refl _,fun i u h=>(by cases h)⟩,⟨?_,rfl,fun t=>?_⟩,fun id u hu=>(by cases hu)⟩,fun i u h=>(by cases h)⟩
  ·have:z.size=args.length:=by rw[hl,Array.length_toList]
   simp only[Array.size_append,Array.size_replicate];omega
  ·have hv:=V.mono Z (fun _ _ h=>h) (hg t);simp only[nE];rcases Nat.lt_or_ge t z.size with q | q
   ·have e:(z++Array.replicate (fn.ntmps - z.size) undef).getD t undef=(z.toList[t]?).getD undef:=by simp[Array.getD_eq_getD_getElem?,Array.getElem?_append,q]
    rw[e];exact hv
   ·have:args[t]? = none:=List.getElem?_eq_none (by rw[hl,Array.length_toList];exact q);rw[this];simp only[Option.getD_none,V]
 refine wp_mono (h Bw (kU L) _ _ hR) fun e a' w' ⟨σ',a1,J⟩=>?_
 have key:∀xs Ts,sN tb σ'.s σ'.h fn.results.toList=some xs→me σ'.h xs Ts=some j→a'.defers=[]∧∃v,(results fn a'.tmps).run P w' = .ok v w' ∧
   ∃M,Ending.returned v = .returned M∧Below w.heap.size w w'∧V (fun _=>Fr gm Bw w' false) jh (aM (bk false j)) M:=fun xs Ts C N=>by
  obtain⟨ρ,φ,q1,q2,_⟩:=a1.ex;obtain⟨D,r1,r2⟩:=iN (P:=P) X q1 q2 C;have E:=m9 q1 N r2;have r4:=kZ (P:=P) _ fn.results w' r1;refine⟨q2.df,(if h:D.toArray.size=1 then D.toArray[0]else .tuple D.toArray),?_,_,rfl,q1.kp.below,?_⟩
  ·unfold results;rw[Sem.run_bind];exact(congrArg (fun r=>Result.andThen r (fun a w'=>Sem.run P (pure (if h:a.size=1 then a[0]else Value.tuple a)) w')) r4).trans rfl
  ·have I:=(je E).1;generalize bk false j=ys at E I ⊢;match ys,D,E with
   | [],[],_=>simp only[aM,V];exact⟨#[],rfl,rfl,by simp only[VL]⟩
   | [y],[v],E=>exact E.1
   | y::y'::ys,v::M::D,E =>
    have:¬((v::M::D).toArray.size=1):=by simp
    rw[dif_neg this];simp only[aM,V];refine⟨_,rfl,by simpa using I.symm,VL.mk fun k x hk=>?_⟩;have:=(je E).2 k;rw[hk]at this;have O:k<(v::M::D).length:=by rw[←I];exact(List.getElem?_eq_some_iff.1 hk).1
    rw[List.getElem?_eq_getElem O]at this;exact⟨_,by simp[O],this⟩
 cases e with
 | normal =>
  obtain⟨xs,Ts,C,N⟩:=J;exact key xs Ts C N
 | ret =>
  obtain⟨xs,Ts,C,N⟩:=J;exact key xs Ts C N
 | exit _=>exact J.elim
 | goto _=>exact J.elim
 | panic _=>exact J.elim
 | outgrown=>exact J.elim
end
end Go.Tv
