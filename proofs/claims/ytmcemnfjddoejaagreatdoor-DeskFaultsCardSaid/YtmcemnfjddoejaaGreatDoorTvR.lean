import Derived.Test.YtmcemnfjddoejaaGreatDoorTvPm
namespace Go.Tv
open Go Go.RowKit
/-! ### Ghost steps -/
inductive G where
 | nilS (t id:Nat) (e:TypeId) (A:Ty)
 | nilC (b k id:Nat) (e:TypeId) (A:Ty)
 | nilSp (t:Nat) (A:Ty)
 | nilCp (b k:Nat) (A:Ty)
 | frzS (t:Nat)
 | frzC (b k:Nat)
 | weakS (t:Nat)
 | shut (id:Nat)
 | toB (id:Nat)
 | frzL (b k:Nat)
 | nilCq (b k:Nat) (A:Ty)
def ghost(g:G)(σ:St):Option St :=
 match g with
 | .nilS t id e A=>match σ.s t with
  | .nils=>if σ.nx≤id∧0<A.size then some ⟨bq σ.s t (.sl id),bq σ.h id (some (.arr e A [])),id+1,σ.pn⟩else none
  | _=>none
 | .nilC b k id e A=>match σ.h b with
  | some (.box cs)=>match cs[k]? with
   | some .nils=>if σ.nx≤id∧0<A.size∧b≠id then some ⟨σ.s,bq (bq σ.h id (some (.arr e A []))) b (some (.box (cs.set k (.sl id)))),id+1,σ.pn⟩else none
   | _=>none
  | _=>none
 | .nilSp t A=>match σ.s t with
  | .nils=>some ⟨bq σ.s t (.p false (.slice A) []),σ.h,σ.nx,σ.pn⟩
  | _=>none
 | .nilCp b k A=>match σ.h b with
  | some (.box cs)=>match cs[k]? with
   | some .nils=>some ⟨σ.s,bq σ.h b (some (.box (cs.set k (.p false (.slice A) [])))),σ.nx,σ.pn⟩
   | _=>none
  | _=>none
 | .nilCq b k A=>match σ.h b with
  | some (.box cs)=>match cs[k]? with
   | some .nilp=>some ⟨σ.s,bq σ.h b (some (.box (cs.set k (.p false (.ptr A) none)))),σ.nx,σ.pn⟩
   | _=>none
  | _=>none
 | .frzS t=>match gf σ.h (σ.s t)with
  | some (y,u)=>some ⟨bq σ.s t y,apply u σ.h,σ.nx,σ.pn⟩
  | none=>none
 | .frzC b k=>match σ.h b with
  | some (.box cs)=>match cs[k]? with
   | some x=>match gf σ.h x with
    | some (y,u)=>some ⟨σ.s,bq (apply u σ.h) b (some (.box (cs.set k y))),σ.nx,σ.pn⟩
    | none=>none
   | none=>none
  | _=>none
 | .weakS t=>match σ.s t with
  | .p false T x=>some ⟨bq σ.s t (.p true T x),σ.h,σ.nx,σ.pn⟩
  | _=>none
 | .shut id=>match σ.h id with
  | some (.mat e c A v (some (k,j)))=>match σ.h j with
   | some (.arr E B I)=>if q:B=A then(if E=c then some ⟨σ.s,bq (bq σ.h j none) id (some (.mat e c A (v.set k (q ▸ I:List A.den)) none)),σ.nx,σ.pn⟩else none)else none
   | _=>none
  | some (.nds e c D (some (k,f,j)))=>match σ.h j with
   | some o=>if id≠j then(match Gk c f o (D.getD k Nd.z)with
    | some y=>some ⟨σ.s,bq (bq σ.h j none) id (some (.nds e c (D.set k y) none)),σ.nx,σ.pn⟩
    | none=>none)else none
   | none=>none
  | _=>none
 | .toB id=>match σ.h id with
  | some (.arr e (.int .u8) C)=>some ⟨σ.s,bq σ.h id (some (.bytes e C)),σ.nx,σ.pn⟩
  | _=>none
 | .frzL b k=>match σ.h b with
  | some (.lmp J n C cs)=>match cs[k]? with
   | some x=>match gf σ.h x with
    | some (y,u)=>some ⟨σ.s,bq (apply u σ.h) b (some (.lmp J n C (cs.set k y))),σ.nx,σ.pn⟩
    | none=>none
   | none=>none
  | _=>none
def qh:List G→St→Option St
 | [],σ=>some σ
 | g::c,σ=>match ghost g σ with
  | some σ'=>qh c σ'
  | none=>none
section
variable{P:Program}{n:NS}{Bw:Nat→Prop}{w0:cu P}{w:World}{σ σ':St}{ρ:Nat→QW}{φ:Nat→Nat→Prop}{h:Nat→Qz}
theorem nV(row:QJ):w.grownBy w row:=⟨rfl,rfl,rfl,Nat.le_refl _,fun _ _ _=>rfl⟩
theorem Mem.Gb(m:Mem Bw w0 ρ φ h w){b:Nat}{cs cs':List ag}(hb:h b=some (.box cs))(hl:cs'.length=cs.length)
  (I:∀F' ρ' (g:Nat→Value→Prop),(∀β a v,Fr (own φ h) Bw w β a v→F' β a v)→(∀i u,ρ i=some u→ρ' i=some u)→VL (Fr (own φ h) Bw w) ρ cs g→VL F' ρ' cs' g) :
  Mem Bw w0 ρ φ (bq h b (some (.box cs'))) w∧∀β a v,Fr (own φ h) Bw w β a v→Fr (own φ (bq h b (some (.box cs')))) Bw w β a v:=by
 obtain⟨u,C,g,t,cells,rfl,J,L,M,N⟩:=m.ob b _ hb;have z:bq ρ b (some (.pointer (some ⟨g,0,none⟩)))=ρ:=by
  funext i;by_cases e:i=b
  ·subst e;rw[ao,C]
  ·rw[aD _ _ e]
 have j:bq φ b (φ b)=φ:=by
  funext i;by_cases e:i=b
  ·subst e;rw[ao]
  ·rw[aD _ _ e]
 obtain⟨D,E,_⟩:=m.put (w':=w) (some b) b (.box cs') (.pointer (some ⟨g,0,none⟩)) (φ b) none (nV _) (fun k hk=>by cases hk) (.inr ⟨rfl,C⟩)
  (fun _ k hk=>m.lt b _ k hb rfl hk) (fun _ k hk=> .inr ⟨b,_,rfl,hb,rfl,hk⟩)
  (fun F' ρ' O B=>⟨g,t,cells,rfl,J,L,by rw[M,hl],I F' ρ' _ O B N⟩)
 rw[z,j,bg]at D;rw[j,bg]at E;exact⟨D,E⟩
theorem Mem.NB(m:Mem Bw w0 ρ φ h w){b:Nat}{B:IntKind}{j:Nat}{xs:fb j}{cs cs':List ag}(hb:h b=some (.lmp B j xs cs))(hl:cs'.length=cs.length)
  (L:∀F' ρ' (g:Nat→Value→Prop),(∀β a v,Fr (own φ h) Bw w β a v→F' β a v)→(∀i u,ρ i=some u→ρ' i=some u)→VL (Fr (own φ h) Bw w) ρ cs g→VL F' ρ' cs' g) :
  Mem Bw w0 ρ φ (bq h b (some (.lmp B j xs cs'))) w∧∀β a v,Fr (own φ h) Bw w β a v→Fr (own φ (bq h b (some (.lmp B j xs cs')))) Bw w β a v:=by
 obtain⟨u,E,g,t,cells,rfl,M,N,O,V,X⟩:=m.ob b _ hb;have C:bq ρ b (some (.pointer (some ⟨g,0,none⟩)))=ρ:=by
  funext i;by_cases e:i=b
  ·subst e;rw[ao,E]
  ·rw[aD _ _ e]
 have z:bq φ b (φ b)=φ:=by
  funext i;by_cases e:i=b
  ·subst e;rw[ao]
  ·rw[aD _ _ e]
 obtain⟨I,J,_⟩:=m.put (w':=w) (some b) b (.lmp B j xs cs') (.pointer (some ⟨g,0,none⟩)) (φ b) none (nV _) (fun k hk=>by cases hk) (.inr ⟨rfl,E⟩)
  (fun _ k hk=>m.lt b _ k hb rfl hk) (fun _ k hk=> .inr ⟨b,_,rfl,hb,rfl,hk⟩)
  (fun F' ρ' Y D=>⟨g,t,cells,rfl,M,N,by rw[O,hl],V,L F' ρ' _ Y D X⟩)
 rw[C,z,bg]at I;rw[z,bg]at J;exact⟨I,J⟩
def ME:Obj→Bool
 | .arr _ _ _=>true
 | .mat _ _ _ _ _=>true
 | .bytes _ _=>true
 | .nds _ _ _ _=>true
 | _=>false
theorem so{x y:ag}{u:hD}(hd:gf h x=some (y,u)){b:Nat}{ob:Obj}(hb:h b=some ob)(f:ME ob=false):apply u h b=some ob:=by
 rw[gS,hb];intro p c e;unfold gf at hd;split at hd
 ·split at hd <;> cases hd <;> simp at c
  all_goals
   subst c;simp only at e;subst e;rename_i hi;rw[hb]at hi;cases hi;cases f
 ·cases hd;simp at c
theorem Ac{x y:ag}{u:hD}(hd:gf h x=some (y,u))(f:Mem Bw w0 ρ φ (apply u h) w){v:Value}(q:V (Fr (own φ (apply u h)) Bw w) ρ x v):V (Fr (own φ (apply u h)) Bw w) ρ y v:=by
 unfold gf at hd;split at hd
 ·rename_i id;simp only[V]at q;obtain⟨j,_⟩:=q;split at hd
  ·rename_i A z hi;cases hd;obtain⟨p,c,e⟩:=f.ob id _ (by simp only[apply];exact ao _ _ _);rw[j]at c;cases c;exact e
  ·rename_i A z hi;cases hd;obtain⟨p,c,e⟩:=f.ob id _ hi;rw[j]at c;cases c;exact e
  ·rename_i B C A D hi;cases hd;obtain⟨p,c,e⟩:=f.ob id _ (by simp only[apply];exact ao _ _ _);rw[j]at c;cases c;exact e
  ·rename_i B z hi;cases hd;obtain⟨p,c,e⟩:=f.ob id _ (by simp only[apply];exact ao _ _ _);rw[j]at c;cases c;exact e
  ·rename_i B C E hi;cases hd;obtain⟨p,c,e⟩:=f.ob id _ (by simp only[apply];exact ao _ _ _);rw[j]at c;cases c;exact e
  ·cases hd
 ·cases hd;exact q
theorem Mem.H9(m:Mem Bw w0 ρ φ h w){id:Nat}(hn:ρ id=none)(e:TypeId){A:Ty}(hA:0<A.size):
  Mem Bw w0 (bq ρ id (some (.slice none 0 0))) (bq φ id (fun _=>False)) (bq h id (some (.arr e A []))) w ∧
  (∀β a v,Fr (own φ h) Bw w β a v→Fr (own (bq φ id (fun _=>False)) (bq h id (some (.arr e A [])))) Bw w β a v) ∧
  (∀i u,ρ i=some u→bq ρ id (some (.slice none 0 0)) i=some u):=by
 obtain⟨j,z,B⟩:=m.put (w':=w) none id (.arr e A []) (.slice none 0 0) (fun _=>False) none (nV _) (fun k hk=>by cases hk) (.inl hn) (fun _ k hk=>hk.elim) (fun _ k hk=>hk.elim)
  (fun F' ρ' D C=>⟨fun k hk=>by simp[dg]at hk,hA,[],World.ownsRow_nil w 0 e _,fun i hi=>absurd hi (by simp)⟩)
 rw[bp]at j z;exact⟨j,z,B⟩
theorem bT.bq{F:Bool→Addr→Value→Prop}{s:Nat→ag}{a:Act}(f:bT n F ρ s a){t:Nat}{y:ag}(j:∀v,V F ρ (s t) v→V F ρ y v):bT n F ρ (Tv.bq s t y) a :=
 ⟨f.tm,f.df,fun k=>by
  by_cases e:k=t
  ·subst e;rw[ao];exact j _ (f.sl k)
  ·rw[aD _ _ e];exact f.sl k⟩
theorem Ay{F F':Bool→Addr→Value→Prop}{ρ c:Nat→QW}(C:∀β a v,F β a v→F' β a v)(p:∀i u,ρ i=some u→c i=some u){cs:List ag}{k:Nat}{x y:ag}(hk:cs[k]? = some x)(D:∀v,V F ρ x v→V F' c y v){g:Nat→Value→Prop}(h:VL F ρ cs g):
  VL F' c (cs.set k y) g:=VL.mk fun j z f=>by
 by_cases e:k=j
 ·subst e;have q:k<cs.length:=(List.getElem?_eq_some_iff.1 hk).1;rw[List.getElem?_set_self q]at f;cases f;obtain⟨u,A,B⟩:=VL.get h hk;exact⟨u,A,D u B⟩
 ·rw[List.getElem?_set_ne e]at f;obtain⟨u,A,B⟩:=VL.get h f;exact⟨u,A,V.mono C p B⟩
theorem GJ{F:Bool→Addr→Value→Prop}{ρ:Nat→QW}{A:Ty}{v:Value}(h:V F ρ .nilp v):V F ρ (.p false (.ptr A) none) v:=by
 simp only[V]at h;subst h;simp only[V,ai];exact⟨rfl,trivial⟩
theorem Dv{F:Bool→Addr→Value→Prop}{A:Ty}{v:Value}(c:V F ρ .nils v):V F ρ (.p false (.slice A) []) v:=by
 simp only[V]at c ⊢;exact⟨rfl,none,0,0,c.symm,⟨rfl,Nat.le_refl _⟩,fun i hi=>absurd hi (by simp)⟩
theorem HU{g:G}(c:ghost g σ=some σ'):Le n σ σ':=fun P Bw w0 a w M=>by
 obtain⟨ρ,φ,N,I,L⟩:=M.ex;cases g with
 | nilS t id e A =>
  simp only[ghost]at c;split at c
  ·rename_i hs;split at c
   ·rename_i hc;cases c;have hn:ρ id=none:=by
     cases hq:ρ id with
     | none=>rfl
     | some u=>have:=L id u hq;omega
    obtain⟨E,J,f2⟩:=N.H9 hn e hc.2;refine⟨⟨_,_,E,(I.mono J f2).bq fun v C=>?_,fun i u hu=>?_⟩,M.pn⟩
    ·rw[hs]at C;simp only[V]at C ⊢;subst C;exact⟨ao _ _ _,_,_,_,rfl⟩
    ·by_cases e:i=id
     ·subst e;simp only;omega
     ·rw[aD _ _ e]at hu;have:=L i u hu;simp only;omega
   ·cases c
  ·cases c
 | nilC b k id e A =>
  simp only[ghost]at c;split at c
  ·rename_i cs hb;split at c
   ·rename_i hk;split at c
    ·rename_i hc;cases c;have hn:ρ id=none:=by
      cases hq:ρ id with
      | none=>rfl
      | some u=>have:=L id u hq;omega
     obtain⟨E,J,f2⟩:=N.H9 hn e hc.2.1;obtain⟨X,Y⟩:=E.Gb (b:=b) (cs:=cs) (cs':=cs.set k (.sl id)) (by rw[aD _ _ hc.2.2];exact hb) (by simp) (fun F' Z g O D C=>Ay O D hk (fun v C=>by
      simp only[V]at C ⊢;subst C;exact⟨D _ _ (ao _ _ _),_,_,_,rfl⟩) C)
     refine⟨⟨_,_,X,(I.mono J f2).mono Y (fun _ _ h=>h),fun i u hu=>?_⟩,M.pn⟩;by_cases e:i=id
     ·subst e;simp only;omega
     ·rw[aD _ _ e]at hu;have:=L i u hu;simp only;omega
    ·cases c
   ·cases c
  ·cases c
 | nilSp t A =>
  simp only[ghost]at c;split at c
  ·rename_i hs;cases c;exact⟨⟨ρ,φ,N,I.bq fun v C=>by rw[hs]at C;exact Dv C,L⟩,M.pn⟩
  ·cases c
 | nilCq b k A =>
  simp only[ghost]at c;split at c
  ·rename_i cs hb;split at c
   ·rename_i hk;cases c;obtain⟨X,Y⟩:=N.Gb (b:=b) (cs:=cs) (cs':=cs.set k (.p false (.ptr A) none)) hb (by simp) (fun F' Z g O D C=>Ay O D hk (fun v C=>V.mono O D (GJ C)) C);exact⟨⟨ρ,φ,X,I.mono Y (fun _ _ h=>h),L⟩,M.pn⟩
   ·cases c
  ·cases c
 | nilCp b k A =>
  simp only[ghost]at c;split at c
  ·rename_i cs hb;split at c
   ·rename_i hk;cases c;obtain⟨X,Y⟩:=N.Gb (b:=b) (cs:=cs) (cs':=cs.set k (.p false (.slice A) [])) hb (by simp) (fun F' Z g O D C=>Ay O D hk (fun v C=>V.mono O D (Dv C)) C);exact⟨⟨ρ,φ,X,I.mono Y (fun _ _ h=>h),L⟩,M.pn⟩
   ·cases c
  ·cases c
 | frzS t =>
  simp only[ghost]at c;split at c
  ·rename_i y u hd;cases c;obtain⟨E,J,g1⟩:=gI N hd;refine⟨⟨ρ,φ,E,⟨I.tm,I.df,fun k=>?_⟩,L⟩,M.pn⟩;by_cases e:k=t
   ·subst e;simp only[ao];exact g1 _ (I.sl k)
   ·simp only[aD _ _ e];exact V.mono J (fun _ _ h=>h) (I.sl k)
  ·cases c
 | frzC b k =>
  simp only[ghost]at c;split at c
  ·rename_i cs hb;split at c
   ·rename_i x hk;split at c
    ·rename_i y u hd;cases c;obtain⟨E,J,g1⟩:=gI N hd;have a1:apply u σ.h b=some (.box cs):=by exact so hd hb rfl
     obtain⟨X,Y⟩:=E.Gb (b:=b) (cs:=cs) (cs':=cs.set k y) a1 (by simp) (fun F' Z g O D C=>by
      obtain⟨u',r1,g',t,cells,e,sg,s1,s2,s3⟩:=N.ob b _ hb;refine VL.mk fun j z hj=>?_
      by_cases e:k=j
      ·subst e;have a2:k<cs.length:=(List.getElem?_eq_some_iff.1 hk).1;rw[List.getElem?_set_self a2]at hj;cases hj;obtain⟨v,t1,t2⟩:=VL.get C hk;refine⟨v,t1,V.mono O D ?_⟩;exact Ac hd E t2
      ·rw[List.getElem?_set_ne e]at hj;obtain⟨v,t1,t2⟩:=VL.get C hj;exact⟨v,t1,V.mono O D t2⟩)
     exact⟨⟨ρ,φ,X,(I.mono J (fun _ _ h=>h)).mono Y (fun _ _ h=>h),L⟩,M.pn⟩
    ·cases c
   ·cases c
  ·cases c
 | weakS t =>
  simp only[ghost]at c;split at c
  ·rename_i T x hs;cases c;refine⟨⟨ρ,φ,N,I.bq fun v C=>?_,L⟩,M.pn⟩;rw[hs]at C;simp only[V]at C ⊢;exact⟨C.1,ai.mono (fun a v hh=>⟨hh.1,fun e=>(by cases e),hh.2.2⟩) (fun _ _ h=>h) C.2⟩
  ·cases c
 | shut id =>
  simp only[ghost]at c;split at c
  ·rename_i e e2 A a4 k j hi;split at c
   ·rename_i e3 B ys hj;split at c
    ·rename_i q;subst q;split at c
     ·rename_i he;subst he;cases c;obtain⟨E,J⟩:=N.wW hi hj;exact⟨⟨ρ,_,E,I.mono J (fun _ _ h=>h),L⟩,M.pn⟩
     ·cases c
    ·cases c
   ·cases c
  ·rename_i e e2 ns k f j hi;split at c
   ·rename_i o hj;split at c
    ·rename_i a3;split at c
     ·rename_i y hy;cases c;obtain⟨E,J⟩:=N.Kb hi hj a3 hy;exact⟨⟨ρ,_,E,I.mono J (fun _ _ h=>h),L⟩,M.pn⟩
     ·cases c
    ·cases c
   ·cases c
  ·cases c
 | toB id =>
  simp only[ghost]at c;split at c
  ·rename_i e xs hi;cases c;obtain⟨E,J⟩:=N.F1 hi;exact⟨⟨ρ,φ,E,I.mono J (fun _ _ h=>h),L⟩,M.pn⟩
  ·cases c
 | frzL b k =>
  simp only[ghost]at c;split at c
  ·rename_i kk nn xs cs hb;split at c
   ·rename_i x hk;split at c
    ·rename_i y u hd;cases c;obtain⟨E,J,g1⟩:=gI N hd;have a1:apply u σ.h b=some (.lmp kk nn xs cs):=by exact so hd hb rfl
     obtain⟨X,Y⟩:=E.NB (b:=b) (cs:=cs) (cs':=cs.set k y) a1 (by simp) (fun F' Z g O D C=>Ay O D hk (fun v C=>V.mono O D (Ac hd E C)) C);exact⟨⟨ρ,φ,X,(I.mono J (fun _ _ h=>h)).mono Y (fun _ _ h=>h),L⟩,M.pn⟩
    ·cases c
   ·cases c
  ·cases c
theorem uf:∀ {e:List G} {σ σ':St},qh e σ=some σ'→Le n σ σ'
 | [],σ,σ',h=>by cases h;exact Le.refl _
 | g::e,σ,σ',h=>by
  simp only[qh]at h;split at h
  ·rename_i σ1 j;exact Le.trans (HU j) (uf h)
  ·cases h
/-! ### p a c f q written out -/
theorem HZ{g:G}{σ σ':St}(h:ghost g σ=some σ'):σ'.pn=σ.pn:=by
 unfold ghost at h;split at h
 all_goals repeat' (split at h)
 all_goals first
  | (cases h;rfl)
  | cases h
theorem zT:∀ {c:List G} {σ σ':St},qh c σ=some σ'→σ'.pn=σ.pn
 | [],σ,σ',h=>by cases h;rfl
 | g::c,σ,σ',h=>by
  simp only[qh]at h;split at h
  ·rename_i σ1 e;rw[zT h,HZ e]
  ·cases h
def HW(f:QV)(i:Nat):Nat:=f.getD i 0
def goal(c:List G)(f:QV)(l:List (Nat×ag))(m:Qw)(σ:St):Option (List ag×List Qz) :=
 match qh c σ with
 | some σ'=>some (l.map (fun p=>σ'.s p.1),m.map (fun p=>σ'.h (HW f p.1)))
 | none=>none
def want(f:QV)(l:List (Nat×ag))(m:Qw):List ag×List Qz :=
 (l.map (fun p=>mv (HW f) p.2),m.map (fun p=>some (om (HW f) p.2)))
theorem qQ.of{f:Nat→Nat}{s:Nat→ag}:∀ {l:List (Nat×ag)},l.map (fun p=>s p.1)=l.map (fun p=>mv f p.2)→qQ f s l
 | [],_=>trivial
 | (t,x)::r,h=>by simp only[List.map_cons,List.cons.injEq]at h;exact⟨h.1,qQ.of h.2⟩
theorem qO.of{f:Nat→Nat}{s:Nat→Qz}:∀ {l:Qw},l.map (fun p=>s (f p.1))=l.map (fun p=>some (om f p.2))→qO f s l
 | [],_=>trivial
 | (t,x)::r,h=>by simp only[List.map_cons,List.cons.injEq]at h;exact⟨h.1,qO.of h.2⟩
theorem wu{p:List G}{f:QV}{l:List (Nat×ag)}{m:Qw}{nx pn:Nat}(h:goal p f l m σ=some (want f l m))(c:(σ.pn == pn && kK (HW f) l m nx pn)=true):Le n σ (aA l m nx pn):=by
 simp only[Bool.and_eq_true,beq_iff_eq]at c;obtain⟨rfl,c⟩:=c;unfold goal at h;split at h
 ·rename_i σ1 j;simp only[want,Option.some.injEq,Prod.mk.injEq]at h;have e:=zT j;rw[←e]at c ⊢;exact Le.trans (uf j) (MK (HW f) (qQ.of h.1) (qO.of h.2) c)
 ·cases h
def Oi(c:List G)(f:QV)(l:List (Nat×ag))(m:Qw)(nx pn:Nat)(r:Option ((Nat→ag)×(Nat→Qz)×List Prop)):Option ((List ag×List Qz)×List Prop) :=
 match r with
 | some (s,h,e)=>match goal c f l m ⟨s,h,nx,pn⟩with
  | some q=>some (q,e)
  | none=>none
 | none=>none
variable{Q:Exit→St→Prop}{tb:bP}
def CI(c:List G)(f:QV)(l:List (Nat×ag))(m:Qw)(nx pn:Nat)(r:Option ((Nat→ag)×(Nat→Qz)×List Prop×Value)):Option ((List ag×List Qz)×List Prop×Value) :=
 match r with
 | some (s,h,e,y)=>match goal c f l m ⟨s,h,nx,pn⟩with
  | some q=>some (q,e,y)
  | none=>none
 | none=>none
theorem KY(e:bV P tb)(an:An)(r:Nat)(y:Value){id:Nat}{ops:Array Oper}(x:List G)(f:QV)(l:List (Nat×ag))(m:Qw)(nx pn:Nat)(u:List Prop)
  (c:CI x f l m (σ.nx+8*ops.size) σ.pn (pE P tb an n σ.nx ops r ops.toList 0 σ.s σ.h)=some (want f l m,u,y)) (j:(σ.pn == pn && kK (HW f) l m nx pn)=true) (z:pz u)
  (A:∀σ',Le n σ' (aA l m nx pn)→Q (.panic [{ v:=y,recovered:=false }]) σ'):W P n Bw w0 (.region id ops false) σ Q:=by
 unfold CI at c;split at c
 ·rename_i s h B D p;split at c
  ·rename_i q C;cases c;exact vE e an r p z (A _ (wu C j))
  ·cases c
 ·cases c
theorem ay{id:Nat}{σ1:St}(h:∀σ',Le n σ' σ1→Q .normal σ'):∀σ',Le n σ' σ1→lE id Q .normal σ':=h
theorem GL{id:Nat}(h:Q .normal σ):lE id Q (.exit id) σ:=by simp only[lE,if_true];exact h
theorem GG{id k:Nat}(c:(k == id)=false)(h:Q (.exit k) σ):lE id Q (.exit k) σ:=by simp only[lE];rw[if_neg (by simpa using c)];exact h
theorem ah{d:Code}(h:Q .ret σ):zx P n Bw w0 d Q .ret σ:=h
theorem aB{id:Nat}(h:Q .ret σ):lE id Q .ret σ:=h
theorem Hg{f:List ResultVar}{c:List (Σ T:Ty,T.den)}(Ts:List Ty)(h:(match uc tb σ.s σ.h f with | some e=>mQ σ.h e Ts | none=>none)=some c):Mt tb f c .ret σ:=by
 split at h
 ·rename_i e j;exact⟨e,Ts,j,h⟩
 ·cases h
end
/-! ### Loops as functions -/
def jq{S T:Type}(c:S→Option (S⊕T)):Nat→S→Option T
 | 0,_=>none
 | k+1,s=>match c s with
  | some (.inl e)=>jq c k e
  | some (.inr r)=>some r
  | none=>none
open Classical in
noncomputable def zY {S T:Type} (c:S→Option (S⊕T)) (s:S):Option T :=
 if h:∃r,∃k,jq c k s=some r then some h.choose else none
noncomputable def iter {S T:Type} (body:S→Option (S⊕T)) (s:S):Option T :=
 match jq body 1000000 s with
 | some r=>some r
 | none=>zY body s
theorem qZ{S T:Type}{c:S→Option (S⊕T)}:∀ {k:Nat} {s:S} {r:T},jq c k s=some r→∀j,jq c (k+j) s=some r
 | 0,_,_,h,_=>by cases h
 | k+1,s,r,h,j=>by
  rw[Nat.add_right_comm];simp only[jq]at h ⊢;split at h
  ·exact qZ h j
  ·exact h
  ·cases h
theorem DW{S T:Type}{c:S→Option (S⊕T)}{k:Nat}{s:S}{r:T}(h:jq c k s=some r):zY c s=some r:=by
 have e:∃r,∃k,jq c k s=some r:=⟨r,k,h⟩;unfold zY;rw[dif_pos e];obtain⟨j,p⟩:=e.choose_spec;have q:=qZ h j;have f:=qZ p k;rw[Nat.add_comm]at f;rw[q]at f;exact f.symm
theorem EH{S T:Type}{c:S→Option (S⊕T)}{s:S}{r:T}(h:zY c s=some r):∃k,jq c k s=some r:=by
 unfold zY at h;split at h
 ·rename_i e;cases h;exact e.choose_spec
 ·cases h
theorem HY{S T:Type}(c:S→Option (S⊕T))(s:S):iter c s=zY c s:=by
 unfold iter;generalize 1000000=n;cases h:jq c n s with
 | none=>rfl
 | some r=>exact(DW h).symm
theorem AS{S T:Type}{c:S→Option (S⊕T)}{k:Nat}{s:S}{r:T}(h:jq c k s=some r):iter c s=some r:=by
 rw[HY];exact DW h
theorem qo{S T:Type}{c:S→Option (S⊕T)}{s:S}{r:T}(h:iter c s=some r):∃k,jq c k s=some r:=by
 rw[HY]at h;exact EH h
theorem iter_eq{S T:Type}(c:S→Option (S⊕T))(s:S):iter c s=match c s with
  | some (.inl e)=>iter c e
  | some (.inr r)=>some r
  | none=>none:=by
 cases hb:c s with
 | none =>
  cases hi:iter c s with
  | none=>rfl
  | some r =>
   obtain⟨k,hk⟩:=qo hi;cases k with
   | zero=>cases hk
   | succ k=>simp[jq,hb]at hk
 | some o =>
  cases o with
  | inr r=>exact AS (k:=1) (by simp[jq,hb])
  | inl e =>
   simp only;cases hi:iter c e with
   | some r =>
    obtain⟨k,hk⟩:=qo hi;exact AS (k:=k+1) (by simp[jq,hb,hk])
   | none =>
    cases f:iter c s with
    | none=>rfl
    | some r =>
     obtain⟨k,hk⟩:=qo f;cases k with
     | zero=>cases hk
     | succ k =>
      simp only[jq,hb]at hk;rw[AS hk]at hi;cases hi
section
variable{P:Program}{n:NS}{Bw:Nat→Prop}{w0:cu P}{σ:St}
def oR{S T:Type}(n:NS)(f:S→St)(Q:T→Exit→St→Prop):S⊕T→Exit→St→Prop
 | .inl y,.normal,σ=>Le n σ (f y)
 | .inl _,_,_=>False
 | .inr _,.normal,_=>False
 | .inr r,e,σ=>Q r e σ
theorem Md{S T:Type}{j:S→Option (S⊕T)}{c:Code}(f:S→St)(Q:T→Exit→St→Prop){x:S}{r:T}(h:iter j x=some r)(hl:Le n σ (f x))
  (step:∀y o,j y=some o→W P n Bw w0 c (f y) (oR n f Q o)):W P n Bw w0 (.loop c) σ (Q r):=by
 obtain⟨k,hk⟩:=qo h;refine L9 (fun k x=>jq j k x=some r) f (fun k y p=>?_) hk hl;cases k with
 | zero=>cases p
 | succ k =>
  simp only[jq]at p;cases hb:j y with
  | none=>rw[hb]at p;cases p
  | some o =>
   rw[hb]at p;refine(step y o hb).mono fun e σ' q=>?_
   cases o with
   | inl z =>
    cases e with
    | normal=>exact⟨k,z,Nat.lt_succ_self k,p,q⟩
    | _=>exact q.elim
   | inr u =>
    cases p;cases e with
    | normal=>exact q.elim
    | _=>exact q
theorem bG{S T:Type}{f:S→St}{Q:T→Exit→St→Prop}{r:T}(h:Q r .ret σ):oR n f Q (.inr r) .ret σ:=h
end
/-! ### Steps in a printed function -/
section
variable{α β:Type}
theorem Oa{c:Prop}[Decidable c]{x y:Option α}{r:α}(e:c)(h:(if c then x else y)=some r):x=some r:=by rw[if_pos e]at h;exact h
theorem Lx{b:Bool}{x y:Option α}{r:α}(hb:b=false)(h:(if b=true then x else y)=some r):y=some r:=by rw[hb]at h;exact h
theorem aE{c:Prop}[Decidable c]{x:Option α}{r:α}(h:(if c then x else none)=some r):c∧x=some r:=by
 split at h
 ·exact⟨by assumption,h⟩
 ·cases h
theorem aj{m:Option β}{f:β→Option α}{r:α}(h:m.bind f=some r):∃b,m=some b∧f b=some r:=by
 cases m with
 | none=>cases h
 | some b=>exact⟨b,rfl,h⟩
end
/-! ### Ends that are come to up to a smaller state -/
section
variable{P:Program}{tb:bP}{n:NS}{Bw:Nat→Prop}{w0:cu P}{σ σ1:St}{Q:Exit→St→Prop}{S T U:Type}
theorem ae(h:∀σ',Le n σ' σ→Q .normal σ'):W P n Bw w0 .skip σ Q:=Mn (h σ (Le.refl σ))
theorem aw{id:Nat}(h:∀σ',Le n σ' σ→Q (.exit id) σ'):W P n Bw w0 (.exit id) σ Q:=Mp (h σ (Le.refl σ))
theorem aQ{d:Code}{k:Nat}(h:∀σ',Le n σ' σ1→Q (.exit k) σ'):∀σ',Le n σ' σ1→zx P n Bw w0 d Q (.exit k) σ':=fun σ' hl=>h σ' hl
theorem az{id:Nat}(h:∀σ',Le n σ' σ1→Q .normal σ'):∀σ',Le n σ' σ1→lE id Q (.exit id) σ':=fun σ' hl=>GL (h σ' hl)
theorem jz{id k:Nat}(c:(k == id)=false)(h:∀σ',Le n σ' σ1→Q (.exit k) σ'):∀σ',Le n σ' σ1→lE id Q (.exit k) σ':=fun σ' hl=>GG c (h σ' hl)
theorem dJ{f:S→St}{Q:T→Exit→St→Prop}{r:T}{k:Nat}(h:∀σ',Le n σ' σ1→Q r (.exit k) σ'):∀σ',Le n σ' σ1→oR n f Q (.inr r) (.exit k) σ':=fun σ' hl=>h σ' hl
theorem LI{f:S→St}{Q:T→Exit→St→Prop}{y:S}(h:Le n σ1 (f y)):∀σ',Le n σ' σ1→oR n f Q (.inl y) .normal σ':=fun _ hl=>Le.trans hl h
theorem cC{e:Exit}(h:∀σ',Le n σ' σ1→Q e σ')(hl:Le n σ σ1):Q e σ:=h σ hl
def oT(n:NS)(f:T→St)(v:T)(e:Exit)(σ:St):Prop:=e = .normal∧Le n σ (f v)
def fc(n:NS)(k:Nat)(f:T→St)(v:T)(e:Exit)(σ:St):Prop:=e = .exit k∧Le n σ (f v)
def gm(tb:bP)(c:List ResultVar)(g:T→List (Σ T:Ty,T.den))(v:T)(e:Exit)(σ:St):Prop:=e = .ret∧Mt tb c (g v) .ret σ
def dw(A:T→Exit→St→Prop)(B:U→Exit→St→Prop):T⊕U→Exit→St→Prop
 | .inl x=>A x
 | .inr y=>B y
theorem cM{f:T→St}{v:T}(h:Le n σ1 (f v)):∀σ',Le n σ' σ1→oT n f v .normal σ':=fun _ hl=>⟨rfl,Le.trans hl h⟩
theorem bN{k:Nat}{f:T→St}{v:T}(h:Le n σ1 (f v)):∀σ',Le n σ' σ1→fc n k f v (.exit k) σ':=fun _ hl=>⟨rfl,Le.trans hl h⟩
theorem bH{c:List ResultVar}{g:T→List (Σ T:Ty,T.den)}{v:T}(h:Mt tb c (g v) .ret σ):gm tb c g v .ret σ:=⟨rfl,h⟩
theorem bm{A:T→Exit→St→Prop}{B:U→Exit→St→Prop}{x:T}{e:Exit}(h:∀σ',Le n σ' σ1→A x e σ'):∀σ',Le n σ' σ1→dw A B (.inl x) e σ':=h
theorem BN{A:T→Exit→St→Prop}{B:U→Exit→St→Prop}{x:T}{e:Exit}(h:A x e σ):dw A B (.inl x) e σ:=h
theorem aN{A:T→Exit→St→Prop}{B:U→Exit→St→Prop}{y:U}{e:Exit}(h:B y e σ):dw A B (.inr y) e σ:=h
def sD(g:T→Value)(v:T)(e:Exit)(_:St):Prop:=e = .panic [{ v:=g v,recovered:=false }]
theorem aF{d:Code}{c:List PanicEntry}(h:Q (.panic c) σ):zx P n Bw w0 d Q (.panic c) σ:=h
theorem bu{id:Nat}{c:List PanicEntry}(h:Q (.panic c) σ):lE id Q (.panic c) σ:=h
theorem bU{f:S→St}{Q:T→Exit→St→Prop}{r:T}{c:List PanicEntry}(h:Q r (.panic c) σ):oR n f Q (.inr r) (.panic c) σ:=h
end
end Go.Tv
