import Derived.Test.YtobbjfkfmdiklaaGreatDoorTvOm
namespace Go.Tv
open Go Go.RowKit
/-! ### Ghost steps -/
inductive G where
 | nilS (t id:Nat) (e:TypeId) (A:Ty)
 | nilC (b k id:Nat) (e:TypeId) (A:Ty)
 | nilSp (t:Nat) (A:Ty)
 | nilCp (b k:Nat) (A:Ty)
 | frzS (t:Nat)
 | frzC (b k:Nat)
 | weakS (t:Nat)
 | shut (id:Nat)
 | toB (id:Nat)
 | frzL (b k:Nat)
 | nilCq (b k:Nat) (A:Ty)
def ghost(g:G)(σ:St):Option St :=
 match g with
 | .nilS t id e A=>match σ.s t with
  | .nils=>if σ.nx≤id∧0<A.size then some ⟨bF σ.s t (.sl id),bF σ.h id (some (.arr e A [])),id+1,σ.pn⟩else none
  | _=>none
 | .nilC b k id e A=>match σ.h b with
  | some (.box cs)=>match cs[k]? with
   | some .nils=>if σ.nx≤id∧0<A.size∧b≠id then some ⟨σ.s,bF (bF σ.h id (some (.arr e A []))) b (some (.box (cs.set k (.sl id)))),id+1,σ.pn⟩else none
   | _=>none
  | _=>none
 | .nilSp t A=>match σ.s t with
  | .nils=>some ⟨bF σ.s t (.p false (.slice A) []),σ.h,σ.nx,σ.pn⟩
  | _=>none
 | .nilCp b k A=>match σ.h b with
  | some (.box cs)=>match cs[k]? with
   | some .nils=>some ⟨σ.s,bF σ.h b (some (.box (cs.set k (.p false (.slice A) [])))),σ.nx,σ.pn⟩
   | _=>none
  | _=>none
 | .nilCq b k A=>match σ.h b with
  | some (.box cs)=>match cs[k]? with
   | some .nilp=>some ⟨σ.s,bF σ.h b (some (.box (cs.set k (.p false (.ptr A) none)))),σ.nx,σ.pn⟩
   | _=>none
  | _=>none
 | .frzS t=>match gk σ.h (σ.s t)with
  | some (y,u)=>some ⟨bF σ.s t y,apply u σ.h,σ.nx,σ.pn⟩
  | none=>none
 | .frzC b k=>match σ.h b with
  | some (.box cs)=>match cs[k]? with
   | some x=>match gk σ.h x with
    | some (y,u)=>some ⟨σ.s,bF (apply u σ.h) b (some (.box (cs.set k y))),σ.nx,σ.pn⟩
    | none=>none
   | none=>none
  | _=>none
 | .weakS t=>match σ.s t with
  | .p false T x=>some ⟨bF σ.s t (.p true T x),σ.h,σ.nx,σ.pn⟩
  | _=>none
 | .shut id=>match σ.h id with
  | some (.mat e v A C (some (k,j)))=>match σ.h j with
   | some (.arr I B J)=>if q:B=A then(if I=v then some ⟨σ.s,bF (bF σ.h j none) id (some (.mat e v A (C.set k (q ▸ J:List A.den)) none)),σ.nx,σ.pn⟩else none)else none
   | _=>none
  | some (.nds e v E (some (k,f,j)))=>match σ.h j with
   | some o=>if id≠j then(match Ej v f o (E.getD k Nd.z)with
    | some y=>some ⟨σ.s,bF (bF σ.h j none) id (some (.nds e v (E.set k y) none)),σ.nx,σ.pn⟩
    | none=>none)else none
   | none=>none
  | _=>none
 | .toB id=>match σ.h id with
  | some (.arr e (.int .u8) D)=>some ⟨σ.s,bF σ.h id (some (.bytes e D)),σ.nx,σ.pn⟩
  | _=>none
 | .frzL b k=>match σ.h b with
  | some (.lmp L n D cs)=>match cs[k]? with
   | some x=>match gk σ.h x with
    | some (y,u)=>some ⟨σ.s,bF (apply u σ.h) b (some (.lmp L n D (cs.set k y))),σ.nx,σ.pn⟩
    | none=>none
   | none=>none
  | _=>none
def oV:List G→St→Option St
 | [],σ=>some σ
 | g::j,σ=>match ghost g σ with
  | some σ'=>oV j σ'
  | none=>none
section
variable{P:Program}{n:NS}{Bw:Nat→Prop}{w0:cC P}{w:World}{σ σ':St}{ρ:Nat→QW}{φ:Nat→Nat→Prop}{h:Nat→Qz}
theorem nu(row:QJ):w.grownBy w row:=⟨rfl,rfl,rfl,Nat.le_refl _,fun _ _ _=>rfl⟩
theorem Mem.EH(m:Mem Bw w0 ρ φ h w){b:Nat}{cs cs':List ag}(hb:h b=some (.box cs))(hl:cs'.length=cs.length)
  (I:∀F' ρ' (g:Nat→Value→Prop),(∀β a v,Fr (own φ h) Bw w β a v→F' β a v)→(∀i u,ρ i=some u→ρ' i=some u)→VL (Fr (own φ h) Bw w) ρ cs g→VL F' ρ' cs' g) :
  Mem Bw w0 ρ φ (bF h b (some (.box cs'))) w∧∀β a v,Fr (own φ h) Bw w β a v→Fr (own φ (bF h b (some (.box cs')))) Bw w β a v:=by
 obtain⟨u,C,g,t,cells,rfl,J,L,M,N⟩:=m.ob b _ hb;have z:bF ρ b (some (.pointer (some ⟨g,0,none⟩)))=ρ:=by
  funext i;by_cases e:i=b
  ·subst e;rw[aB,C]
  ·rw[aR _ _ e]
 have j:bF φ b (φ b)=φ:=by
  funext i;by_cases e:i=b
  ·subst e;rw[aB]
  ·rw[aR _ _ e]
 obtain⟨D,E,_⟩:=m.put (w':=w) (some b) b (.box cs') (.pointer (some ⟨g,0,none⟩)) (φ b) none (nu _) (fun k hk=>by cases hk) (.inr ⟨rfl,C⟩)
  (fun _ k hk=>m.lt b _ k hb rfl hk) (fun _ k hk=> .inr ⟨b,_,rfl,hb,rfl,hk⟩)
  (fun F' ρ' O B=>⟨g,t,cells,rfl,J,L,by rw[M,hl],I F' ρ' _ O B N⟩)
 rw[z,j,bm]at D;rw[j,bm]at E;exact⟨D,E⟩
theorem Mem.LV(m:Mem Bw w0 ρ φ h w){b:Nat}{B:IntKind}{j:Nat}{xs:fh j}{cs cs':List ag}(hb:h b=some (.lmp B j xs cs))(hl:cs'.length=cs.length)
  (L:∀F' ρ' (g:Nat→Value→Prop),(∀β a v,Fr (own φ h) Bw w β a v→F' β a v)→(∀i u,ρ i=some u→ρ' i=some u)→VL (Fr (own φ h) Bw w) ρ cs g→VL F' ρ' cs' g) :
  Mem Bw w0 ρ φ (bF h b (some (.lmp B j xs cs'))) w∧∀β a v,Fr (own φ h) Bw w β a v→Fr (own φ (bF h b (some (.lmp B j xs cs')))) Bw w β a v:=by
 obtain⟨u,E,g,t,cells,rfl,M,N,O,V,X⟩:=m.ob b _ hb;have C:bF ρ b (some (.pointer (some ⟨g,0,none⟩)))=ρ:=by
  funext i;by_cases e:i=b
  ·subst e;rw[aB,E]
  ·rw[aR _ _ e]
 have z:bF φ b (φ b)=φ:=by
  funext i;by_cases e:i=b
  ·subst e;rw[aB]
  ·rw[aR _ _ e]
 obtain⟨I,J,_⟩:=m.put (w':=w) (some b) b (.lmp B j xs cs') (.pointer (some ⟨g,0,none⟩)) (φ b) none (nu _) (fun k hk=>by cases hk) (.inr ⟨rfl,E⟩)
  (fun _ k hk=>m.lt b _ k hb rfl hk) (fun _ k hk=> .inr ⟨b,_,rfl,hb,rfl,hk⟩)
  (fun F' ρ' Y D=>⟨g,t,cells,rfl,M,N,by rw[O,hl],V,L F' ρ' _ Y D X⟩)
 rw[C,z,bm]at I;rw[z,bm]at J;exact⟨I,J⟩
def Mv:Obj→Bool
 | .arr _ _ _=>true
 | .mat _ _ _ _ _=>true
 | .bytes _ _=>true
 | .nds _ _ _ _=>true
 | _=>false
theorem rO{x y:ag}{u:gX}(hd:gk h x=some (y,u)){b:Nat}{ob:Obj}(hb:h b=some ob)(j:Mv ob=false):apply u h b=some ob:=by
 rw[gO,hb];intro p hp e;unfold gk at hd;split at hd
 ·split at hd <;> cases hd <;> simp at hp
  all_goals
   subst hp;simp only at e;subst e;rename_i hi;rw[hb]at hi;cases hi;cases j
 ·cases hd;simp at hp
theorem y4{x y:ag}{u:gX}(hd:gk h x=some (y,u))(q:Mem Bw w0 ρ φ (apply u h) w){v:Value}(C:V (Fr (own φ (apply u h)) Bw w) ρ x v):V (Fr (own φ (apply u h)) Bw w) ρ y v:=by
 unfold gk at hd;split at hd
 ·rename_i id;simp only[V]at C;obtain⟨z,_⟩:=C;split at hd
  ·rename_i A D hi;cases hd;obtain⟨B,j,p⟩:=q.ob id _ (by simp only[apply];exact aB _ _ _);rw[z]at j;cases j;exact p
  ·rename_i A D hi;cases hd;obtain⟨B,j,p⟩:=q.ob id _ hi;rw[z]at j;cases j;exact p
  ·rename_i E I A J hi;cases hd;obtain⟨B,j,p⟩:=q.ob id _ (by simp only[apply];exact aB _ _ _);rw[z]at j;cases j;exact p
  ·rename_i E D hi;cases hd;obtain⟨B,j,p⟩:=q.ob id _ (by simp only[apply];exact aB _ _ _);rw[z]at j;cases j;exact p
  ·rename_i E I L hi;cases hd;obtain⟨B,j,p⟩:=q.ob id _ (by simp only[apply];exact aB _ _ _);rw[z]at j;cases j;exact p
  ·cases hd
 ·cases hd;exact C
theorem Mem.GR(m:Mem Bw w0 ρ φ h w){id:Nat}(hn:ρ id=none)(e:TypeId){A:Ty}(hA:0<A.size):
  Mem Bw w0 (bF ρ id (some (.slice none 0 0))) (bF φ id (fun _=>False)) (bF h id (some (.arr e A []))) w ∧
  (∀β a v,Fr (own φ h) Bw w β a v→Fr (own (bF φ id (fun _=>False)) (bF h id (some (.arr e A [])))) Bw w β a v) ∧
  (∀i u,ρ i=some u→bF ρ id (some (.slice none 0 0)) i=some u):=by
 obtain⟨j,z,B⟩:=m.put (w':=w) none id (.arr e A []) (.slice none 0 0) (fun _=>False) none (nu _) (fun k hk=>by cases hk) (.inl hn) (fun _ k hk=>hk.elim) (fun _ k hk=>hk.elim)
  (fun F' ρ' D C=>⟨fun k hk=>by simp[dw]at hk,hA,[],World.ownsRow_nil w 0 e _,fun i hi=>absurd hi (by simp)⟩)
 rw[bn]at j z;exact⟨j,z,B⟩
theorem fb.bF{F:Bool→Addr→Value→Prop}{s:Nat→ag}{a:Act}(j:fb n F ρ s a){t:Nat}{y:ag}(q:∀v,V F ρ (s t) v→V F ρ y v):fb n F ρ (Tv.bF s t y) a :=
 ⟨j.tm,j.df,fun k=>by
  by_cases e:k=t
  ·subst e;rw[aB];exact q _ (j.sl k)
  ·rw[aR _ _ e];exact j.sl k⟩
theorem y9{F F':Bool→Addr→Value→Prop}{ρ p:Nat→QW}(E:∀β a v,F β a v→F' β a v)(A:∀i u,ρ i=some u→p i=some u){cs:List ag}{k:Nat}{x y:ag}(hk:cs[k]? = some x)(I:∀v,V F ρ x v→V F' p y v){g:Nat→Value→Prop}(h:VL F ρ cs g):
  VL F' p (cs.set k y) g:=VL.mk fun j z q=>by
 by_cases e:k=j
 ·subst e;have B:k<cs.length:=(List.getElem?_eq_some_iff.1 hk).1;rw[List.getElem?_set_self B]at q;cases q;obtain⟨u,C,D⟩:=VL.get h hk;exact⟨u,C,I u D⟩
 ·rw[List.getElem?_set_ne e]at q;obtain⟨u,C,D⟩:=VL.get h q;exact⟨u,C,V.mono E A D⟩
theorem FY{F:Bool→Addr→Value→Prop}{ρ:Nat→QW}{A:Ty}{v:Value}(h:V F ρ .nilp v):V F ρ (.p false (.ptr A) none) v:=by
 simp only[V]at h;subst h;simp only[V,ai];exact⟨rfl,trivial⟩
theorem Ct{F:Bool→Addr→Value→Prop}{A:Ty}{v:Value}(j:V F ρ .nils v):V F ρ (.p false (.slice A) []) v:=by
 simp only[V]at j ⊢;exact⟨rfl,none,0,0,j.symm,⟨rfl,Nat.le_refl _⟩,fun i hi=>absurd hi (by simp)⟩
theorem H3{g:G}(C:ghost g σ=some σ'):Le n σ σ':=fun P Bw w0 a w N=>by
 obtain⟨ρ,φ,O,J,M⟩:=N.ex;cases g with
 | nilS t id e A =>
  simp only[ghost]at C;split at C
  ·rename_i hs;split at C
   ·rename_i hc;cases C;have hn:ρ id=none:=by
     cases hq:ρ id with
     | none=>rfl
     | some u=>have:=M id u hq;omega
    obtain⟨I,L,f2⟩:=O.GR hn e hc.2;refine⟨⟨_,_,I,(J.mono L f2).bF fun v D=>?_,fun i u hu=>?_⟩,N.pn⟩
    ·rw[hs]at D;simp only[V]at D ⊢;subst D;exact⟨aB _ _ _,_,_,_,rfl⟩
    ·by_cases e:i=id
     ·subst e;simp only;omega
     ·rw[aR _ _ e]at hu;have:=M i u hu;simp only;omega
   ·cases C
  ·cases C
 | nilC b k id e A =>
  simp only[ghost]at C;split at C
  ·rename_i cs hb;split at C
   ·rename_i hk;split at C
    ·rename_i hc;cases C;have hn:ρ id=none:=by
      cases hq:ρ id with
      | none=>rfl
      | some u=>have:=M id u hq;omega
     obtain⟨I,L,f2⟩:=O.GR hn e hc.2.1;obtain⟨Y,Z⟩:=I.EH (b:=b) (cs:=cs) (cs':=cs.set k (.sl id)) (by rw[aR _ _ hc.2.2];exact hb) (by simp) (fun F' a1 g X E D=>y9 X E hk (fun v D=>by
      simp only[V]at D ⊢;subst D;exact⟨E _ _ (aB _ _ _),_,_,_,rfl⟩) D)
     refine⟨⟨_,_,Y,(J.mono L f2).mono Z (fun _ _ h=>h),fun i u hu=>?_⟩,N.pn⟩;by_cases e:i=id
     ·subst e;simp only;omega
     ·rw[aR _ _ e]at hu;have:=M i u hu;simp only;omega
    ·cases C
   ·cases C
  ·cases C
 | nilSp t A =>
  simp only[ghost]at C;split at C
  ·rename_i hs;cases C;exact⟨⟨ρ,φ,O,J.bF fun v D=>by rw[hs]at D;exact Ct D,M⟩,N.pn⟩
  ·cases C
 | nilCq b k A =>
  simp only[ghost]at C;split at C
  ·rename_i cs hb;split at C
   ·rename_i hk;cases C;obtain⟨Y,Z⟩:=O.EH (b:=b) (cs:=cs) (cs':=cs.set k (.p false (.ptr A) none)) hb (by simp) (fun F' a1 g X E D=>y9 X E hk (fun v D=>V.mono X E (FY D)) D);exact⟨⟨ρ,φ,Y,J.mono Z (fun _ _ h=>h),M⟩,N.pn⟩
   ·cases C
  ·cases C
 | nilCp b k A =>
  simp only[ghost]at C;split at C
  ·rename_i cs hb;split at C
   ·rename_i hk;cases C;obtain⟨Y,Z⟩:=O.EH (b:=b) (cs:=cs) (cs':=cs.set k (.p false (.slice A) [])) hb (by simp) (fun F' a1 g X E D=>y9 X E hk (fun v D=>V.mono X E (Ct D)) D);exact⟨⟨ρ,φ,Y,J.mono Z (fun _ _ h=>h),M⟩,N.pn⟩
   ·cases C
  ·cases C
 | frzS t =>
  simp only[ghost]at C;split at C
  ·rename_i y u hd;cases C;obtain⟨I,L,g1⟩:=gJ O hd;refine⟨⟨ρ,φ,I,⟨J.tm,J.df,fun k=>?_⟩,M⟩,N.pn⟩;by_cases e:k=t
   ·subst e;simp only[aB];exact g1 _ (J.sl k)
   ·simp only[aR _ _ e];exact V.mono L (fun _ _ h=>h) (J.sl k)
  ·cases C
 | frzC b k =>
  simp only[ghost]at C;split at C
  ·rename_i cs hb;split at C
   ·rename_i x hk;split at C
    ·rename_i y u hd;cases C;obtain⟨I,L,g1⟩:=gJ O hd;have a2:apply u σ.h b=some (.box cs):=by exact rO hd hb rfl
     obtain⟨Y,Z⟩:=I.EH (b:=b) (cs:=cs) (cs':=cs.set k y) a2 (by simp) (fun F' a1 g X E D=>by
      obtain⟨u',r1,g',t,cells,e,sg,s1,s2,s3⟩:=O.ob b _ hb;refine VL.mk fun j z hj=>?_
      by_cases e:k=j
      ·subst e;have a3:k<cs.length:=(List.getElem?_eq_some_iff.1 hk).1;rw[List.getElem?_set_self a3]at hj;cases hj;obtain⟨v,t1,t2⟩:=VL.get D hk;refine⟨v,t1,V.mono X E ?_⟩;exact y4 hd I t2
      ·rw[List.getElem?_set_ne e]at hj;obtain⟨v,t1,t2⟩:=VL.get D hj;exact⟨v,t1,V.mono X E t2⟩)
     exact⟨⟨ρ,φ,Y,(J.mono L (fun _ _ h=>h)).mono Z (fun _ _ h=>h),M⟩,N.pn⟩
    ·cases C
   ·cases C
  ·cases C
 | weakS t =>
  simp only[ghost]at C;split at C
  ·rename_i T x hs;cases C;refine⟨⟨ρ,φ,O,J.bF fun v D=>?_,M⟩,N.pn⟩;rw[hs]at D;simp only[V]at D ⊢;exact⟨D.1,ai.mono (fun a v hh=>⟨hh.1,fun e=>(by cases e),hh.2.2⟩) (fun _ _ h=>h) D.2⟩
  ·cases C
 | shut id =>
  simp only[ghost]at C;split at C
  ·rename_i e e2 A a5 k j hi;split at C
   ·rename_i e3 B ys hj;split at C
    ·rename_i q;subst q;split at C
     ·rename_i he;subst he;cases C;obtain⟨I,L⟩:=O.wX hi hj;exact⟨⟨ρ,_,I,J.mono L (fun _ _ h=>h),M⟩,N.pn⟩
     ·cases C
    ·cases C
   ·cases C
  ·rename_i e e2 ns k f j hi;split at C
   ·rename_i o hj;split at C
    ·rename_i a4;split at C
     ·rename_i y hy;cases C;obtain⟨I,L⟩:=O.Jk hi hj a4 hy;exact⟨⟨ρ,_,I,J.mono L (fun _ _ h=>h),M⟩,N.pn⟩
     ·cases C
    ·cases C
   ·cases C
  ·cases C
 | toB id =>
  simp only[ghost]at C;split at C
  ·rename_i e xs hi;cases C;obtain⟨I,L⟩:=O.Eu hi;exact⟨⟨ρ,φ,I,J.mono L (fun _ _ h=>h),M⟩,N.pn⟩
  ·cases C
 | frzL b k =>
  simp only[ghost]at C;split at C
  ·rename_i kk nn xs cs hb;split at C
   ·rename_i x hk;split at C
    ·rename_i y u hd;cases C;obtain⟨I,L,g1⟩:=gJ O hd;have a2:apply u σ.h b=some (.lmp kk nn xs cs):=by exact rO hd hb rfl
     obtain⟨Y,Z⟩:=I.LV (b:=b) (cs:=cs) (cs':=cs.set k y) a2 (by simp) (fun F' a1 g X E D=>y9 X E hk (fun v D=>V.mono X E (y4 hd I D)) D);exact⟨⟨ρ,φ,Y,(J.mono L (fun _ _ h=>h)).mono Z (fun _ _ h=>h),M⟩,N.pn⟩
    ·cases C
   ·cases C
  ·cases C
theorem sV:∀ {p:List G} {σ σ':St},oV p σ=some σ'→Le n σ σ'
 | [],σ,σ',h=>by cases h;exact Le.refl _
 | g::p,σ,σ',h=>by
  simp only[oV]at h;split at h
  ·rename_i σ1 h1;exact Le.trans (H3 h1) (sV h)
  ·cases h
/-! ### u a j q v written out -/
theorem IC{g:G}{σ σ':St}(h:ghost g σ=some σ'):σ'.pn=σ.pn:=by
 unfold ghost at h;split at h
 all_goals repeat' (split at h)
 all_goals first
  | (cases h;rfl)
  | cases h
theorem yI:∀ {j:List G} {σ σ':St},oV j σ=some σ'→σ'.pn=σ.pn
 | [],σ,σ',h=>by cases h;rfl
 | g::j,σ,σ',h=>by
  simp only[oV]at h;split at h
  ·rename_i σ1 h1;rw[yI h,IC h1]
  ·cases h
def Fy(f:QV)(i:Nat):Nat:=f.getD i 0
def goal(j:List G)(f:QV)(l:List (Nat×ag))(m:Qw)(σ:St):Option (List ag×List Qz) :=
 match oV j σ with
 | some σ'=>some (l.map (fun p=>σ'.s p.1),m.map (fun p=>σ'.h (Fy f p.1)))
 | none=>none
def want(f:QV)(l:List (Nat×ag))(m:Qw):List ag×List Qz :=
 (l.map (fun p=>lV (Fy f) p.2),m.map (fun p=>some (ny (Fy f) p.2)))
theorem qa.of{f:Nat→Nat}{s:Nat→ag}:∀ {l:List (Nat×ag)},l.map (fun p=>s p.1)=l.map (fun p=>lV f p.2)→qa f s l
 | [],_=>trivial
 | (t,x)::r,h=>by simp only[List.map_cons,List.cons.injEq]at h;exact⟨h.1,qa.of h.2⟩
theorem pV.of{f:Nat→Nat}{s:Nat→Qz}:∀ {l:Qw},l.map (fun p=>s (f p.1))=l.map (fun p=>some (ny f p.2))→pV f s l
 | [],_=>trivial
 | (t,x)::r,h=>by simp only[List.map_cons,List.cons.injEq]at h;exact⟨h.1,pV.of h.2⟩
theorem qN{p:List G}{f:QV}{l:List (Nat×ag)}{m:Qw}{nx pn:Nat}(h:goal p f l m σ=some (want f l m))(j:(σ.pn == pn && jg (Fy f) l m nx pn)=true):Le n σ (aA l m nx pn):=by
 simp only[Bool.and_eq_true,beq_iff_eq]at j;obtain⟨rfl,j⟩:=j;unfold goal at h;split at h
 ·rename_i σ1 h1;simp only[want,Option.some.injEq,Prod.mk.injEq]at h;have e:=yI h1;rw[←e]at j ⊢;exact Le.trans (sV h1) (L2 (Fy f) (qa.of h.1) (pV.of h.2) j)
 ·cases h
def Dx(j:List G)(f:QV)(l:List (Nat×ag))(m:Qw)(nx pn:Nat)(r:Option ((Nat→ag)×(Nat→Qz)×List Prop)):Option ((List ag×List Qz)×List Prop) :=
 match r with
 | some (s,h,p)=>match goal j f l m ⟨s,h,nx,pn⟩with
  | some q=>some (q,p)
  | none=>none
 | none=>none
variable{Q:Exit→St→Prop}{tb:bT}
theorem Mu(p:bX P tb)(an:An){id:Nat}{ops:Array Oper}(z:List G)(f:QV)(l:List (Nat×ag))(m:Qw)(nx pn:Nat)(x:List Prop)
  (j:Dx z f l m (σ.nx+8*ops.size) σ.pn (AX P tb an n σ.nx ops ops.toList 0 σ.s σ.h)=some (want f l m,x)) (u:(σ.pn == pn && jg (Fy f) l m nx pn)=true) (hc:nV x)
  (A:∀σ',Le n σ' (aA l m nx pn)→Q .normal σ'):W P n Bw w0 (.region id ops false) σ Q:=by
 unfold Dx at j;split at j
 ·rename_i s h B v;split at j
  ·rename_i q C;cases j;exact vS p an v hc (A _ (qN C u))
  ·cases j
 ·cases j
def BV(j:List G)(f:QV)(l:List (Nat×ag))(m:Qw)(nx pn:Nat)(r:Option ((Nat→ag)×(Nat→Qz)×List Prop×Value)):Option ((List ag×List Qz)×List Prop×Value) :=
 match r with
 | some (s,h,p,y)=>match goal j f l m ⟨s,h,nx,pn⟩with
  | some q=>some (q,p,y)
  | none=>none
 | none=>none
theorem Kj(p:bX P tb)(an:An)(r:Nat)(y:Value){id:Nat}{ops:Array Oper}(A:List G)(f:QV)(l:List (Nat×ag))(m:Qw)(nx pn:Nat)(z:List Prop)
  (j:BV A f l m (σ.nx+8*ops.size) σ.pn (py P tb an n σ.nx ops r ops.toList 0 σ.s σ.h)=some (want f l m,z,y)) (u:(σ.pn == pn && jg (Fy f) l m nx pn)=true) (hc:nV z)
  (B:∀σ',Le n σ' (aA l m nx pn)→Q (.panic [{ v:=y,recovered:=false }]) σ'):W P n Bw w0 (.region id ops false) σ Q:=by
 unfold BV at j;split at j
 ·rename_i s h C E x;split at j
  ·rename_i q D;cases j;exact tI p an r x hc (B _ (qN D u))
  ·cases j
 ·cases j
theorem JA{d:Code}{l:List (Nat×ag)}{m:Qw}{nx pn:Nat}(h:W P n Bw w0 d (aA l m nx pn) Q):∀σ',Le n σ' (aA l m nx pn)→w7 P n Bw w0 d Q .normal σ':=fun _ hl=>HM hl h
theorem ay{id:Nat}{σ1:St}(h:∀σ',Le n σ' σ1→Q .normal σ'):∀σ',Le n σ' σ1→lj id Q .normal σ':=h
theorem F5{id:Nat}(h:Q .normal σ):lj id Q (.exit id) σ:=by simp only[lj,if_true];exact h
theorem Gg{id k:Nat}(j:(k == id)=false)(h:Q (.exit k) σ):lj id Q (.exit k) σ:=by simp only[lj];rw[if_neg (by simpa using j)];exact h
theorem ah{d:Code}(h:Q .ret σ):w7 P n Bw w0 d Q .ret σ:=h
theorem au{id:Nat}(h:Q .ret σ):lj id Q .ret σ:=h
theorem Fg{q:List ResultVar}{j:List (Σ T:Ty,T.den)}(Ts:List Ty)(h:(match sM tb σ.s σ.h q with | some p=>mE σ.h p Ts | none=>none)=some j):LQ tb q j .ret σ:=by
 split at h
 ·rename_i p u;exact⟨p,Ts,u,h⟩
 ·cases h
end
/-! ### Loops as functions -/
def jt{S T:Type}(body:S→Option (S⊕T)):Nat→S→Option T
 | 0,_=>none
 | k+1,s=>match body s with
  | some (.inl j)=>jt body k j
  | some (.inr r)=>some r
  | none=>none
open Classical in
noncomputable def yT {S T:Type} (body:S→Option (S⊕T)) (s:S):Option T :=
 if h:∃r,∃k,jt body k s=some r then some h.choose else none
noncomputable def iter {S T:Type} (body:S→Option (S⊕T)) (s:S):Option T :=
 match jt body 1000000 s with
 | some r=>some r
 | none=>yT body s
theorem ql{S T:Type}{body:S→Option (S⊕T)}:∀ {k:Nat} {s:S} {r:T},jt body k s=some r→∀j,jt body (k+j) s=some r
 | 0,_,_,h,_=>by cases h
 | k+1,s,r,h,j=>by
  rw[Nat.add_right_comm];simp only[jt]at h ⊢;split at h
  ·exact ql h j
  ·exact h
  ·cases h
theorem AM{S T:Type}{body:S→Option (S⊕T)}{k:Nat}{s:S}{r:T}(h:jt body k s=some r):yT body s=some r:=by
 have p:∃r,∃k,jt body k s=some r:=⟨r,k,h⟩;unfold yT;rw[dif_pos p];obtain⟨j,q⟩:=p.choose_spec;have h1:=ql h j;have h2:=ql q k;rw[Nat.add_comm]at h2;rw[h1]at h2;exact h2.symm
theorem D7{S T:Type}{body:S→Option (S⊕T)}{s:S}{r:T}(h:yT body s=some r):∃k,jt body k s=some r:=by
 unfold yT at h;split at h
 ·rename_i j;cases h;exact j.choose_spec
 ·cases h
theorem HR{S T:Type}(body:S→Option (S⊕T))(s:S):iter body s=yT body s:=by
 unfold iter;generalize 1000000=n;cases h:jt body n s with
 | none=>rfl
 | some r=>exact(AM h).symm
theorem Af{S T:Type}{body:S→Option (S⊕T)}{k:Nat}{s:S}{r:T}(h:jt body k s=some r):iter body s=some r:=by
 rw[HR];exact AM h
theorem pL{S T:Type}{body:S→Option (S⊕T)}{s:S}{r:T}(h:iter body s=some r):∃k,jt body k s=some r:=by
 rw[HR]at h;exact D7 h
theorem iter_eq{S T:Type}(body:S→Option (S⊕T))(s:S):iter body s=match body s with
  | some (.inl j)=>iter body j
  | some (.inr r)=>some r
  | none=>none:=by
 cases hb:body s with
 | none =>
  cases hi:iter body s with
  | none=>rfl
  | some r =>
   obtain⟨k,hk⟩:=pL hi;cases k with
   | zero=>cases hk
   | succ k=>simp[jt,hb]at hk
 | some o =>
  cases o with
  | inr r=>exact Af (k:=1) (by simp[jt,hb])
  | inl j =>
   simp only;cases hi:iter body j with
   | some r =>
    obtain⟨k,hk⟩:=pL hi;exact Af (k:=k+1) (by simp[jt,hb,hk])
   | none =>
    cases p:iter body s with
    | none=>rfl
    | some r =>
     obtain⟨k,hk⟩:=pL p;cases k with
     | zero=>cases hk
     | succ k =>
      simp only[jt,hb]at hk;rw[Af hk]at hi;cases hi
section
variable{P:Program}{n:NS}{Bw:Nat→Prop}{w0:cC P}{σ:St}
def nh{S T:Type}(n:NS)(f:S→St)(Q:T→Exit→St→Prop):S⊕T→Exit→St→Prop
 | .inl y,.normal,σ=>Le n σ (f y)
 | .inl _,_,_=>False
 | .inr _,.normal,_=>False
 | .inr r,e,σ=>Q r e σ
theorem KF{S T:Type}{body:S→Option (S⊕T)}{c:Code}(f:S→St)(Q:T→Exit→St→Prop){x:S}{r:T}(h:iter body x=some r)(hl:Le n σ (f x))
  (step:∀y o,body y=some o→W P n Bw w0 c (f y) (nh n f Q o)):W P n Bw w0 (.loop c) σ (Q r):=by
 obtain⟨k,hk⟩:=pL h;refine KE (fun k x=>jt body k x=some r) f (fun k y j=>?_) hk hl;cases k with
 | zero=>cases j
 | succ k =>
  simp only[jt]at j;cases hb:body y with
  | none=>rw[hb]at j;cases j
  | some o =>
   rw[hb]at j;refine(step y o hb).mono fun e σ' p=>?_
   cases o with
   | inl z =>
    cases e with
    | normal=>exact⟨k,z,Nat.lt_succ_self k,j,p⟩
    | _=>exact p.elim
   | inr q =>
    cases j;cases e with
    | normal=>exact p.elim
    | _=>exact p
theorem bK{S T:Type}{f:S→St}{Q:T→Exit→St→Prop}{r:T}(h:Q r .ret σ):nh n f Q (.inr r) .ret σ:=h
end
/-! ### Steps in a printed function -/
section
variable{α β:Type}
theorem ND{c:Prop}[Decidable c]{x y:Option α}{r:α}(hc:c)(h:(if c then x else y)=some r):x=some r:=by rw[if_pos hc]at h;exact h
theorem KH{b:Bool}{x y:Option α}{r:α}(hb:b=false)(h:(if b=true then x else y)=some r):y=some r:=by rw[hb]at h;exact h
theorem aD{c:Prop}[Decidable c]{x:Option α}{r:α}(h:(if c then x else none)=some r):c∧x=some r:=by
 split at h
 ·exact⟨by assumption,h⟩
 ·cases h
theorem aj{m:Option β}{f:β→Option α}{r:α}(h:m.bind f=some r):∃b,m=some b∧f b=some r:=by
 cases m with
 | none=>cases h
 | some b=>exact⟨b,rfl,h⟩
end
/-! ### Ends that are come to up to a smaller state -/
section
variable{P:Program}{tb:bT}{n:NS}{Bw:Nat→Prop}{w0:cC P}{σ σ1:St}{Q:Exit→St→Prop}{S T U:Type}
theorem ae(h:∀σ',Le n σ' σ→Q .normal σ'):W P n Bw w0 .skip σ Q:=KP (h σ (Le.refl σ))
theorem av{id:Nat}(h:∀σ',Le n σ' σ→Q (.exit id) σ'):W P n Bw w0 (.exit id) σ Q:=KT (h σ (Le.refl σ))
theorem aP{d:Code}{k:Nat}(h:∀σ',Le n σ' σ1→Q (.exit k) σ'):∀σ',Le n σ' σ1→w7 P n Bw w0 d Q (.exit k) σ':=fun σ' hl=>h σ' hl
theorem az{id:Nat}(h:∀σ',Le n σ' σ1→Q .normal σ'):∀σ',Le n σ' σ1→lj id Q (.exit id) σ':=fun σ' hl=>F5 (h σ' hl)
theorem jG{id k:Nat}(j:(k == id)=false)(h:∀σ',Le n σ' σ1→Q (.exit k) σ'):∀σ',Le n σ' σ1→lj id Q (.exit k) σ':=fun σ' hl=>Gg j (h σ' hl)
theorem dL{f:S→St}{Q:T→Exit→St→Prop}{r:T}{k:Nat}(h:∀σ',Le n σ' σ1→Q r (.exit k) σ'):∀σ',Le n σ' σ1→nh n f Q (.inr r) (.exit k) σ':=fun σ' hl=>h σ' hl
theorem K7{f:S→St}{Q:T→Exit→St→Prop}{y:S}(h:Le n σ1 (f y)):∀σ',Le n σ' σ1→nh n f Q (.inl y) .normal σ':=fun _ hl=>Le.trans hl h
theorem cF{e:Exit}(h:∀σ',Le n σ' σ1→Q e σ')(hl:Le n σ σ1):Q e σ:=h σ hl
def n9(n:NS)(f:T→St)(v:T)(e:Exit)(σ:St):Prop:=e = .normal∧Le n σ (f v)
def fj(n:NS)(k:Nat)(f:T→St)(v:T)(e:Exit)(σ:St):Prop:=e = .exit k∧Le n σ (f v)
def gr(tb:bT)(j:List ResultVar)(g:T→List (Σ T:Ty,T.den))(v:T)(e:Exit)(σ:St):Prop:=e = .ret∧LQ tb j (g v) .ret σ
def dy(A:T→Exit→St→Prop)(B:U→Exit→St→Prop):T⊕U→Exit→St→Prop
 | .inl x=>A x
 | .inr y=>B y
theorem cV{f:T→St}{v:T}(h:Le n σ1 (f v)):∀σ',Le n σ' σ1→n9 n f v .normal σ':=fun _ hl=>⟨rfl,Le.trans hl h⟩
theorem bS{k:Nat}{f:T→St}{v:T}(h:Le n σ1 (f v)):∀σ',Le n σ' σ1→fj n k f v (.exit k) σ':=fun _ hl=>⟨rfl,Le.trans hl h⟩
theorem bH{j:List ResultVar}{g:T→List (Σ T:Ty,T.den)}{v:T}(h:LQ tb j (g v) .ret σ):gr tb j g v .ret σ:=⟨rfl,h⟩
theorem bk{A:T→Exit→St→Prop}{B:U→Exit→St→Prop}{x:T}{e:Exit}(h:∀σ',Le n σ' σ1→A x e σ'):∀σ',Le n σ' σ1→dy A B (.inl x) e σ':=h
theorem A4{A:T→Exit→St→Prop}{B:U→Exit→St→Prop}{x:T}{e:Exit}(h:A x e σ):dy A B (.inl x) e σ:=h
theorem aL{A:T→Exit→St→Prop}{B:U→Exit→St→Prop}{y:U}{e:Exit}(h:B y e σ):dy A B (.inr y) e σ:=h
def rS(g:T→Value)(v:T)(e:Exit)(_:St):Prop:=e = .panic [{ v:=g v,recovered:=false }]
theorem aE{d:Code}{j:List PanicEntry}(h:Q (.panic j) σ):w7 P n Bw w0 d Q (.panic j) σ:=h
theorem bq{id:Nat}{j:List PanicEntry}(h:Q (.panic j) σ):lj id Q (.panic j) σ:=h
theorem bY{f:S→St}{Q:T→Exit→St→Prop}{r:T}{j:List PanicEntry}(h:Q r (.panic j) σ):nh n f Q (.inr r) (.panic j) σ:=h
end
end Go.Tv
