import Derived.Test.YtobbjfkfmdiklaaGreatDoorTvOm
namespace Go.Tv
open Go Go.RowKit
/-! ### Ghost steps -/
inductive G where
 | nilS (t id:Nat) (e:TypeId) (A:Ty)
 | nilC (b k id:Nat) (e:TypeId) (A:Ty)
 | nilSp (t:Nat) (A:Ty)
 | nilCp (b k:Nat) (A:Ty)
 | frzS (t:Nat)
 | frzC (b k:Nat)
 | weakS (t:Nat)
 | shut (id:Nat)
 | toB (id:Nat)
 | frzL (b k:Nat)
 | nilCq (b k:Nat) (A:Ty)
def ghost(g:G)(σ:St):Option St :=
 match g with
 | .nilS t id e A=>match σ.s t with
  | .nils=>if σ.nx≤id∧0<A.size then some ⟨bG σ.s t (.sl id),bG σ.h id (some (.arr e A [])),id+1,σ.pn⟩else none
  | _=>none
 | .nilC b k id e A=>match σ.h b with
  | some (.box cs)=>match cs[k]? with
   | some .nils=>if σ.nx≤id∧0<A.size∧b≠id then some ⟨σ.s,bG (bG σ.h id (some (.arr e A []))) b (some (.box (cs.set k (.sl id)))),id+1,σ.pn⟩else none
   | _=>none
  | _=>none
 | .nilSp t A=>match σ.s t with
  | .nils=>some ⟨bG σ.s t (.p false (.slice A) []),σ.h,σ.nx,σ.pn⟩
  | _=>none
 | .nilCp b k A=>match σ.h b with
  | some (.box cs)=>match cs[k]? with
   | some .nils=>some ⟨σ.s,bG σ.h b (some (.box (cs.set k (.p false (.slice A) [])))),σ.nx,σ.pn⟩
   | _=>none
  | _=>none
 | .nilCq b k A=>match σ.h b with
  | some (.box cs)=>match cs[k]? with
   | some .nilp=>some ⟨σ.s,bG σ.h b (some (.box (cs.set k (.p false (.ptr A) none)))),σ.nx,σ.pn⟩
   | _=>none
  | _=>none
 | .frzS t=>match gf σ.h (σ.s t)with
  | some (y,u)=>some ⟨bG σ.s t y,apply u σ.h,σ.nx,σ.pn⟩
  | none=>none
 | .frzC b k=>match σ.h b with
  | some (.box cs)=>match cs[k]? with
   | some x=>match gf σ.h x with
    | some (y,u)=>some ⟨σ.s,bG (apply u σ.h) b (some (.box (cs.set k y))),σ.nx,σ.pn⟩
    | none=>none
   | none=>none
  | _=>none
 | .weakS t=>match σ.s t with
  | .p false T x=>some ⟨bG σ.s t (.p true T x),σ.h,σ.nx,σ.pn⟩
  | _=>none
 | .shut id=>match σ.h id with
  | some (.mat e v A C (some (k,j)))=>match σ.h j with
   | some (.arr I B J)=>if q:B=A then(if I=v then some ⟨σ.s,bG (bG σ.h j none) id (some (.mat e v A (C.set k (q ▸ J:List A.den)) none)),σ.nx,σ.pn⟩else none)else none
   | _=>none
  | some (.nds e v E (some (k,f,j)))=>match σ.h j with
   | some o=>if id≠j then(match D8 v f o (E.getD k Nd.z)with
    | some y=>some ⟨σ.s,bG (bG σ.h j none) id (some (.nds e v (E.set k y) none)),σ.nx,σ.pn⟩
    | none=>none)else none
   | none=>none
  | _=>none
 | .toB id=>match σ.h id with
  | some (.arr e (.int .u8) D)=>some ⟨σ.s,bG σ.h id (some (.bytes e D)),σ.nx,σ.pn⟩
  | _=>none
 | .frzL b k=>match σ.h b with
  | some (.lmp L n D cs)=>match cs[k]? with
   | some x=>match gf σ.h x with
    | some (y,u)=>some ⟨σ.s,bG (apply u σ.h) b (some (.lmp L n D (cs.set k y))),σ.nx,σ.pn⟩
    | none=>none
   | none=>none
  | _=>none
def oY:List G→St→Option St
 | [],σ=>some σ
 | g::f,σ=>match ghost g σ with
  | some σ'=>oY f σ'
  | none=>none
section
variable{P:Program}{n:NS}{Bw:Nat→Prop}{w0:cr P}{w:World}{σ σ':St}{ρ:Nat→QW}{φ:Nat→Nat→Prop}{h:Nat→Qz}
theorem nL(row:QJ):w.grownBy w row:=⟨rfl,rfl,rfl,Nat.le_refl _,fun _ _ _=>rfl⟩
theorem Mem.D7(m:Mem Bw w0 ρ φ h w){b:Nat}{cs cs':List af}(hb:h b=some (.box cs))(hl:cs'.length=cs.length)
  (I:∀F' ρ' (g:Nat→Value→Prop),(∀β a v,Fr (own φ h) Bw w β a v→F' β a v)→(∀i u,ρ i=some u→ρ' i=some u)→VL (Fr (own φ h) Bw w) ρ cs g→VL F' ρ' cs' g) :
  Mem Bw w0 ρ φ (bG h b (some (.box cs'))) w∧∀β a v,Fr (own φ h) Bw w β a v→Fr (own φ (bG h b (some (.box cs')))) Bw w β a v:=by
 obtain⟨u,C,g,t,cells,rfl,J,L,M,N⟩:=m.ob b _ hb;have z:bG ρ b (some (.pointer (some ⟨g,0,none⟩)))=ρ:=by
  funext i;by_cases e:i=b
  ·subst e;rw[aB,C]
  ·rw[aR _ _ e]
 have j:bG φ b (φ b)=φ:=by
  funext i;by_cases e:i=b
  ·subst e;rw[aB]
  ·rw[aR _ _ e]
 obtain⟨D,E,_⟩:=m.put (w':=w) (some b) b (.box cs') (.pointer (some ⟨g,0,none⟩)) (φ b) none (nL _) (fun k hk=>by cases hk) (.inr ⟨rfl,C⟩)
  (fun _ k hk=>m.lt b _ k hb rfl hk) (fun _ k hk=> .inr ⟨b,_,rfl,hb,rfl,hk⟩)
  (fun F' ρ' O B=>⟨g,t,cells,rfl,J,L,by rw[M,hl],I F' ρ' _ O B N⟩)
 rw[z,j,bm]at D;rw[j,bm]at E;exact⟨D,E⟩
theorem Mem.L6(m:Mem Bw w0 ρ φ h w){b:Nat}{B:IntKind}{j:Nat}{xs:ff j}{cs cs':List af}(hb:h b=some (.lmp B j xs cs))(hl:cs'.length=cs.length)
  (L:∀F' ρ' (g:Nat→Value→Prop),(∀β a v,Fr (own φ h) Bw w β a v→F' β a v)→(∀i u,ρ i=some u→ρ' i=some u)→VL (Fr (own φ h) Bw w) ρ cs g→VL F' ρ' cs' g) :
  Mem Bw w0 ρ φ (bG h b (some (.lmp B j xs cs'))) w∧∀β a v,Fr (own φ h) Bw w β a v→Fr (own φ (bG h b (some (.lmp B j xs cs')))) Bw w β a v:=by
 obtain⟨u,E,g,t,cells,rfl,M,N,O,V,X⟩:=m.ob b _ hb;have C:bG ρ b (some (.pointer (some ⟨g,0,none⟩)))=ρ:=by
  funext i;by_cases e:i=b
  ·subst e;rw[aB,E]
  ·rw[aR _ _ e]
 have z:bG φ b (φ b)=φ:=by
  funext i;by_cases e:i=b
  ·subst e;rw[aB]
  ·rw[aR _ _ e]
 obtain⟨I,J,_⟩:=m.put (w':=w) (some b) b (.lmp B j xs cs') (.pointer (some ⟨g,0,none⟩)) (φ b) none (nL _) (fun k hk=>by cases hk) (.inr ⟨rfl,E⟩)
  (fun _ k hk=>m.lt b _ k hb rfl hk) (fun _ k hk=> .inr ⟨b,_,rfl,hb,rfl,hk⟩)
  (fun F' ρ' Y D=>⟨g,t,cells,rfl,M,N,by rw[O,hl],V,L F' ρ' _ Y D X⟩)
 rw[C,z,bm]at I;rw[z,bm]at J;exact⟨I,J⟩
def L3:Obj→Bool
 | .arr _ _ _=>true
 | .mat _ _ _ _ _=>true
 | .bytes _ _=>true
 | .nds _ _ _ _=>true
 | _=>false
theorem sk{x y:af}{u:gZ}(hd:gf h x=some (y,u)){b:Nat}{ob:Obj}(hb:h b=some ob)(f:L3 ob=false):apply u h b=some ob:=by
 rw[gG,hb];intro p hp e;unfold gf at hd;split at hd
 ·split at hd <;> cases hd <;> simp at hp
  all_goals
   subst hp;simp only at e;subst e;rename_i hi;rw[hb]at hi;cases hi;cases f
 ·cases hd;simp at hp
theorem yr{x y:af}{u:gZ}(hd:gf h x=some (y,u))(p:Mem Bw w0 ρ φ (apply u h) w){v:Value}(B:V (Fr (own φ (apply u h)) Bw w) ρ x v):V (Fr (own φ (apply u h)) Bw w) ρ y v:=by
 unfold gf at hd;split at hd
 ·rename_i id;simp only[V]at B;obtain⟨q,_⟩:=B;split at hd
  ·rename_i A C hi;cases hd;obtain⟨z,f,j⟩:=p.ob id _ (by simp only[apply];exact aB _ _ _);rw[q]at f;cases f;exact j
  ·rename_i A C hi;cases hd;obtain⟨z,f,j⟩:=p.ob id _ hi;rw[q]at f;cases f;exact j
  ·rename_i D E A I hi;cases hd;obtain⟨z,f,j⟩:=p.ob id _ (by simp only[apply];exact aB _ _ _);rw[q]at f;cases f;exact j
  ·rename_i D C hi;cases hd;obtain⟨z,f,j⟩:=p.ob id _ (by simp only[apply];exact aB _ _ _);rw[q]at f;cases f;exact j
  ·rename_i D E J hi;cases hd;obtain⟨z,f,j⟩:=p.ob id _ (by simp only[apply];exact aB _ _ _);rw[q]at f;cases f;exact j
  ·cases hd
 ·cases hd;exact B
theorem Mem.Gd(m:Mem Bw w0 ρ φ h w){id:Nat}(hn:ρ id=none)(e:TypeId){A:Ty}(hA:0<A.size):
  Mem Bw w0 (bG ρ id (some (.slice none 0 0))) (bG φ id (fun _=>False)) (bG h id (some (.arr e A []))) w ∧
  (∀β a v,Fr (own φ h) Bw w β a v→Fr (own (bG φ id (fun _=>False)) (bG h id (some (.arr e A [])))) Bw w β a v) ∧
  (∀i u,ρ i=some u→bG ρ id (some (.slice none 0 0)) i=some u):=by
 obtain⟨j,z,B⟩:=m.put (w':=w) none id (.arr e A []) (.slice none 0 0) (fun _=>False) none (nL _) (fun k hk=>by cases hk) (.inl hn) (fun _ k hk=>hk.elim) (fun _ k hk=>hk.elim)
  (fun F' ρ' D C=>⟨fun k hk=>by simp[dp]at hk,hA,[],World.ownsRow_nil w 0 e _,fun i hi=>absurd hi (by simp)⟩)
 rw[bn]at j z;exact⟨j,z,B⟩
theorem eP.bG{F:Bool→Addr→Value→Prop}{s:Nat→af}{a:Act}(f:eP n F ρ s a){t:Nat}{y:af}(j:∀v,V F ρ (s t) v→V F ρ y v):eP n F ρ (Tv.bG s t y) a :=
 ⟨f.tm,f.df,fun k=>by
  by_cases e:k=t
  ·subst e;rw[aB];exact j _ (f.sl k)
  ·rw[aR _ _ e];exact f.sl k⟩
theorem zS{F F':Bool→Addr→Value→Prop}{ρ f:Nat→QW}(D:∀β a v,F β a v→F' β a v)(q:∀i u,ρ i=some u→f i=some u){cs:List af}{k:Nat}{x y:af}(hk:cs[k]? = some x)(E:∀v,V F ρ x v→V F' f y v){g:Nat→Value→Prop}(h:VL F ρ cs g):
  VL F' f (cs.set k y) g:=VL.mk fun j z p=>by
 by_cases e:k=j
 ·subst e;have A:k<cs.length:=(List.getElem?_eq_some_iff.1 hk).1;rw[List.getElem?_set_self A]at p;cases p;obtain⟨u,B,C⟩:=VL.get h hk;exact⟨u,B,E u C⟩
 ·rw[List.getElem?_set_ne e]at p;obtain⟨u,B,C⟩:=VL.get h p;exact⟨u,B,V.mono D q C⟩
theorem Fw{F:Bool→Addr→Value→Prop}{ρ:Nat→QW}{A:Ty}{v:Value}(h:V F ρ .nilp v):V F ρ (.p false (.ptr A) none) v:=by
 simp only[V]at h;subst h;simp only[V,ah];exact⟨rfl,trivial⟩
theorem AO{F:Bool→Addr→Value→Prop}{A:Ty}{v:Value}(f:V F ρ .nils v):V F ρ (.p false (.slice A) []) v:=by
 simp only[V]at f ⊢;exact⟨rfl,none,0,0,f.symm,⟨rfl,Nat.le_refl _⟩,fun i hi=>absurd hi (by simp)⟩
theorem Hn{g:G}(C:ghost g σ=some σ'):Le n σ σ':=fun P Bw w0 a w N=>by
 obtain⟨ρ,φ,O,J,M⟩:=N.ex;cases g with
 | nilS t id e A =>
  simp only[ghost]at C;split at C
  ·rename_i hs;split at C
   ·rename_i hc;cases C;have hn:ρ id=none:=by
     cases hq:ρ id with
     | none=>rfl
     | some u=>have:=M id u hq;omega
    obtain⟨I,L,f2⟩:=O.Gd hn e hc.2;refine⟨⟨_,_,I,(J.mono L f2).bG fun v D=>?_,fun i u hu=>?_⟩,N.pn⟩
    ·rw[hs]at D;simp only[V]at D ⊢;subst D;exact⟨aB _ _ _,_,_,_,rfl⟩
    ·by_cases e:i=id
     ·subst e;simp only;omega
     ·rw[aR _ _ e]at hu;have:=M i u hu;simp only;omega
   ·cases C
  ·cases C
 | nilC b k id e A =>
  simp only[ghost]at C;split at C
  ·rename_i cs hb;split at C
   ·rename_i hk;split at C
    ·rename_i hc;cases C;have hn:ρ id=none:=by
      cases hq:ρ id with
      | none=>rfl
      | some u=>have:=M id u hq;omega
     obtain⟨I,L,f2⟩:=O.Gd hn e hc.2.1;obtain⟨Y,Z⟩:=I.D7 (b:=b) (cs:=cs) (cs':=cs.set k (.sl id)) (by rw[aR _ _ hc.2.2];exact hb) (by simp) (fun F' a1 g X E D=>zS X E hk (fun v D=>by
      simp only[V]at D ⊢;subst D;exact⟨E _ _ (aB _ _ _),_,_,_,rfl⟩) D)
     refine⟨⟨_,_,Y,(J.mono L f2).mono Z (fun _ _ h=>h),fun i u hu=>?_⟩,N.pn⟩;by_cases e:i=id
     ·subst e;simp only;omega
     ·rw[aR _ _ e]at hu;have:=M i u hu;simp only;omega
    ·cases C
   ·cases C
  ·cases C
 | nilSp t A =>
  simp only[ghost]at C;split at C
  ·rename_i hs;cases C;exact⟨⟨ρ,φ,O,J.bG fun v D=>by rw[hs]at D;exact AO D,M⟩,N.pn⟩
  ·cases C
 | nilCq b k A =>
  simp only[ghost]at C;split at C
  ·rename_i cs hb;split at C
   ·rename_i hk;cases C;obtain⟨Y,Z⟩:=O.D7 (b:=b) (cs:=cs) (cs':=cs.set k (.p false (.ptr A) none)) hb (by simp) (fun F' a1 g X E D=>zS X E hk (fun v D=>V.mono X E (Fw D)) D);exact⟨⟨ρ,φ,Y,J.mono Z (fun _ _ h=>h),M⟩,N.pn⟩
   ·cases C
  ·cases C
 | nilCp b k A =>
  simp only[ghost]at C;split at C
  ·rename_i cs hb;split at C
   ·rename_i hk;cases C;obtain⟨Y,Z⟩:=O.D7 (b:=b) (cs:=cs) (cs':=cs.set k (.p false (.slice A) [])) hb (by simp) (fun F' a1 g X E D=>zS X E hk (fun v D=>V.mono X E (AO D)) D);exact⟨⟨ρ,φ,Y,J.mono Z (fun _ _ h=>h),M⟩,N.pn⟩
   ·cases C
  ·cases C
 | frzS t =>
  simp only[ghost]at C;split at C
  ·rename_i y u hd;cases C;obtain⟨I,L,g1⟩:=gF O hd;refine⟨⟨ρ,φ,I,⟨J.tm,J.df,fun k=>?_⟩,M⟩,N.pn⟩;by_cases e:k=t
   ·subst e;simp only[aB];exact g1 _ (J.sl k)
   ·simp only[aR _ _ e];exact V.mono L (fun _ _ h=>h) (J.sl k)
  ·cases C
 | frzC b k =>
  simp only[ghost]at C;split at C
  ·rename_i cs hb;split at C
   ·rename_i x hk;split at C
    ·rename_i y u hd;cases C;obtain⟨I,L,g1⟩:=gF O hd;have a2:apply u σ.h b=some (.box cs):=by exact sk hd hb rfl
     obtain⟨Y,Z⟩:=I.D7 (b:=b) (cs:=cs) (cs':=cs.set k y) a2 (by simp) (fun F' a1 g X E D=>by
      obtain⟨u',r1,g',t,cells,e,sg,s1,s2,s3⟩:=O.ob b _ hb;refine VL.mk fun j z hj=>?_
      by_cases e:k=j
      ·subst e;have a3:k<cs.length:=(List.getElem?_eq_some_iff.1 hk).1;rw[List.getElem?_set_self a3]at hj;cases hj;obtain⟨v,t1,t2⟩:=VL.get D hk;refine⟨v,t1,V.mono X E ?_⟩;exact yr hd I t2
      ·rw[List.getElem?_set_ne e]at hj;obtain⟨v,t1,t2⟩:=VL.get D hj;exact⟨v,t1,V.mono X E t2⟩)
     exact⟨⟨ρ,φ,Y,(J.mono L (fun _ _ h=>h)).mono Z (fun _ _ h=>h),M⟩,N.pn⟩
    ·cases C
   ·cases C
  ·cases C
 | weakS t =>
  simp only[ghost]at C;split at C
  ·rename_i T x hs;cases C;refine⟨⟨ρ,φ,O,J.bG fun v D=>?_,M⟩,N.pn⟩;rw[hs]at D;simp only[V]at D ⊢;exact⟨D.1,ah.mono (fun a v hh=>⟨hh.1,fun e=>(by cases e),hh.2.2⟩) (fun _ _ h=>h) D.2⟩
  ·cases C
 | shut id =>
  simp only[ghost]at C;split at C
  ·rename_i e e2 A a5 k j hi;split at C
   ·rename_i e3 B ys hj;split at C
    ·rename_i q;subst q;split at C
     ·rename_i he;subst he;cases C;obtain⟨I,L⟩:=O.vz hi hj;exact⟨⟨ρ,_,I,J.mono L (fun _ _ h=>h),M⟩,N.pn⟩
     ·cases C
    ·cases C
   ·cases C
  ·rename_i e e2 ns k f j hi;split at C
   ·rename_i o hj;split at C
    ·rename_i a4;split at C
     ·rename_i y hy;cases C;obtain⟨I,L⟩:=O.IM hi hj a4 hy;exact⟨⟨ρ,_,I,J.mono L (fun _ _ h=>h),M⟩,N.pn⟩
     ·cases C
    ·cases C
   ·cases C
  ·cases C
 | toB id =>
  simp only[ghost]at C;split at C
  ·rename_i e xs hi;cases C;obtain⟨I,L⟩:=O.EK hi;exact⟨⟨ρ,φ,I,J.mono L (fun _ _ h=>h),M⟩,N.pn⟩
  ·cases C
 | frzL b k =>
  simp only[ghost]at C;split at C
  ·rename_i kk nn xs cs hb;split at C
   ·rename_i x hk;split at C
    ·rename_i y u hd;cases C;obtain⟨I,L,g1⟩:=gF O hd;have a2:apply u σ.h b=some (.lmp kk nn xs cs):=by exact sk hd hb rfl
     obtain⟨Y,Z⟩:=I.L6 (b:=b) (cs:=cs) (cs':=cs.set k y) a2 (by simp) (fun F' a1 g X E D=>zS X E hk (fun v D=>V.mono X E (yr hd I D)) D);exact⟨⟨ρ,φ,Y,(J.mono L (fun _ _ h=>h)).mono Z (fun _ _ h=>h),M⟩,N.pn⟩
    ·cases C
   ·cases C
  ·cases C
theorem sY:∀ {j:List G} {σ σ':St},oY j σ=some σ'→Le n σ σ'
 | [],σ,σ',h=>by cases h;exact Le.refl _
 | g::j,σ,σ',h=>by
  simp only[oY]at h;split at h
  ·rename_i σ1 h1;exact Le.trans (Hn h1) (sY h)
  ·cases h
/-! ### q a f p u written out -/
theorem Ht{g:G}{σ σ':St}(h:ghost g σ=some σ'):σ'.pn=σ.pn:=by
 unfold ghost at h;split at h
 all_goals repeat' (split at h)
 all_goals first
  | (cases h;rfl)
  | cases h
theorem yf:∀ {f:List G} {σ σ':St},oY f σ=some σ'→σ'.pn=σ.pn
 | [],σ,σ',h=>by cases h;rfl
 | g::f,σ,σ',h=>by
  simp only[oY]at h;split at h
  ·rename_i σ1 h1;rw[yf h,Ht h1]
  ·cases h
def H3(f:QV)(i:Nat):Nat:=f.getD i 0
def goal(j:List G)(f:QV)(l:List (Nat×af))(m:Qk)(σ:St):Option (List af×List Qz) :=
 match oY j σ with
 | some σ'=>some (l.map (fun p=>σ'.s p.1),m.map (fun p=>σ'.h (H3 f p.1)))
 | none=>none
def want(f:QV)(l:List (Nat×af))(m:Qk):List af×List Qz :=
 (l.map (fun p=>mq (H3 f) p.2),m.map (fun p=>some (nT (H3 f) p.2)))
theorem qk.of{f:Nat→Nat}{s:Nat→af}:∀ {l:List (Nat×af)},l.map (fun p=>s p.1)=l.map (fun p=>mq f p.2)→qk f s l
 | [],_=>trivial
 | (t,x)::r,h=>by simp only[List.map_cons,List.cons.injEq]at h;exact⟨h.1,qk.of h.2⟩
theorem qp.of{f:Nat→Nat}{s:Nat→Qz}:∀ {l:Qk},l.map (fun p=>s (f p.1))=l.map (fun p=>some (nT f p.2))→qp f s l
 | [],_=>trivial
 | (t,x)::r,h=>by simp only[List.map_cons,List.cons.injEq]at h;exact⟨h.1,qp.of h.2⟩
theorem uV{p:List G}{f:QV}{l:List (Nat×af)}{m:Qk}{nx pn:Nat}(h:goal p f l m σ=some (want f l m))(j:(σ.pn == pn && kU (H3 f) l m nx pn)=true):Le n σ (az l m nx pn):=by
 simp only[Bool.and_eq_true,beq_iff_eq]at j;obtain⟨rfl,j⟩:=j;unfold goal at h;split at h
 ·rename_i σ1 h1;simp only[want,Option.some.injEq,Prod.mk.injEq]at h;have e:=yf h1;rw[←e]at j ⊢;exact Le.trans (sY h1) (LA (H3 f) (qk.of h.1) (qp.of h.2) j)
 ·cases h
def Mu(j:List G)(f:QV)(l:List (Nat×af))(m:Qk)(nx pn:Nat)(r:Option ((Nat→af)×(Nat→Qz)×List Prop)):Option ((List af×List Qz)×List Prop) :=
 match r with
 | some (s,h,p)=>match goal j f l m ⟨s,h,nx,pn⟩with
  | some q=>some (q,p)
  | none=>none
 | none=>none
variable{Q:Exit→St→Prop}{tb:bQ}
def BN(j:List G)(f:QV)(l:List (Nat×af))(m:Qk)(nx pn:Nat)(r:Option ((Nat→af)×(Nat→Qz)×List Prop×Value)):Option ((List af×List Qz)×List Prop×Value) :=
 match r with
 | some (s,h,p,y)=>match goal j f l m ⟨s,h,nx,pn⟩with
  | some q=>some (q,p,y)
  | none=>none
 | none=>none
theorem JK(p:cb P tb)(an:An)(r:Nat)(y:Value){id:Nat}{ops:Array Oper}(A:List G)(f:QV)(l:List (Nat×af))(m:Qk)(nx pn:Nat)(z:List Prop)
  (j:BN A f l m (σ.nx+8*ops.size) σ.pn (o9 P tb an n σ.nx ops r ops.toList 0 σ.s σ.h)=some (want f l m,z,y)) (u:(σ.pn == pn && kU (H3 f) l m nx pn)=true) (hc:pj z)
  (B:∀σ',Le n σ' (az l m nx pn)→Q (.panic [{ v:=y,recovered:=false }]) σ'):W P n Bw w0 (.region id ops false) σ Q:=by
 unfold BN at j;split at j
 ·rename_i s h C E x;split at j
  ·rename_i q D;cases j;exact tZ p an r x hc (B _ (uV D u))
  ·cases j
 ·cases j
theorem ay{id:Nat}{σ1:St}(h:∀σ',Le n σ' σ1→Q .normal σ'):∀σ',Le n σ' σ1→lP id Q .normal σ':=h
theorem EY{id:Nat}(h:Q .normal σ):lP id Q (.exit id) σ:=by simp only[lP,if_true];exact h
theorem FN{id k:Nat}(f:(k == id)=false)(h:Q (.exit k) σ):lP id Q (.exit k) σ:=by simp only[lP];rw[if_neg (by simpa using f)];exact h
theorem aj{d:Code}(h:Q .ret σ):yI P n Bw w0 d Q .ret σ:=h
theorem aA{id:Nat}(h:Q .ret σ):lP id Q .ret σ:=h
theorem Fs{p:List ResultVar}{f:List (Σ T:Ty,T.den)}(Ts:List Ty)(h:(match tp tb σ.s σ.h p with | some j=>mE σ.h j Ts | none=>none)=some f):Ln tb p f .ret σ:=by
 split at h
 ·rename_i j q;exact⟨j,Ts,q,h⟩
 ·cases h
end
/-! ### Loops as functions -/
def jw{S T:Type}(f:S→Option (S⊕T)):Nat→S→Option T
 | 0,_=>none
 | k+1,s=>match f s with
  | some (.inl j)=>jw f k j
  | some (.inr r)=>some r
  | none=>none
open Classical in
noncomputable def yq {S T:Type} (f:S→Option (S⊕T)) (s:S):Option T :=
 if h:∃r,∃k,jw f k s=some r then some h.choose else none
noncomputable def iter {S T:Type} (body:S→Option (S⊕T)) (s:S):Option T :=
 match jw body 1000000 s with
 | some r=>some r
 | none=>yq body s
theorem qA{S T:Type}{f:S→Option (S⊕T)}:∀ {k:Nat} {s:S} {r:T},jw f k s=some r→∀j,jw f (k+j) s=some r
 | 0,_,_,h,_=>by cases h
 | k+1,s,r,h,j=>by
  rw[Nat.add_right_comm];simp only[jw]at h ⊢;split at h
  ·exact qA h j
  ·exact h
  ·cases h
theorem Bj{S T:Type}{f:S→Option (S⊕T)}{k:Nat}{s:S}{r:T}(h:jw f k s=some r):yq f s=some r:=by
 have p:∃r,∃k,jw f k s=some r:=⟨r,k,h⟩;unfold yq;rw[dif_pos p];obtain⟨j,q⟩:=p.choose_spec;have h1:=qA h j;have h2:=qA q k;rw[Nat.add_comm]at h2;rw[h1]at h2;exact h2.symm
theorem C3{S T:Type}{f:S→Option (S⊕T)}{s:S}{r:T}(h:yq f s=some r):∃k,jw f k s=some r:=by
 unfold yq at h;split at h
 ·rename_i j;cases h;exact j.choose_spec
 ·cases h
theorem Gl{S T:Type}(f:S→Option (S⊕T))(s:S):iter f s=yq f s:=by
 unfold iter;generalize 1000000=n;cases h:jw f n s with
 | none=>rfl
 | some r=>exact(Bj h).symm
theorem y8{S T:Type}{f:S→Option (S⊕T)}{k:Nat}{s:S}{r:T}(h:jw f k s=some r):iter f s=some r:=by
 rw[Gl];exact Bj h
theorem pG{S T:Type}{f:S→Option (S⊕T)}{s:S}{r:T}(h:iter f s=some r):∃k,jw f k s=some r:=by
 rw[Gl]at h;exact C3 h
theorem iter_eq{S T:Type}(f:S→Option (S⊕T))(s:S):iter f s=match f s with
  | some (.inl j)=>iter f j
  | some (.inr r)=>some r
  | none=>none:=by
 cases hb:f s with
 | none =>
  cases hi:iter f s with
  | none=>rfl
  | some r =>
   obtain⟨k,hk⟩:=pG hi;cases k with
   | zero=>cases hk
   | succ k=>simp[jw,hb]at hk
 | some o =>
  cases o with
  | inr r=>exact y8 (k:=1) (by simp[jw,hb])
  | inl j =>
   simp only;cases hi:iter f j with
   | some r =>
    obtain⟨k,hk⟩:=pG hi;exact y8 (k:=k+1) (by simp[jw,hb,hk])
   | none =>
    cases p:iter f s with
    | none=>rfl
    | some r =>
     obtain⟨k,hk⟩:=pG p;cases k with
     | zero=>cases hk
     | succ k =>
      simp only[jw,hb]at hk;rw[y8 hk]at hi;cases hi
section
variable{P:Program}{n:NS}{Bw:Nat→Prop}{w0:cr P}{σ:St}
def nW{S T:Type}(n:NS)(f:S→St)(Q:T→Exit→St→Prop):S⊕T→Exit→St→Prop
 | .inl y,.normal,σ=>Le n σ (f y)
 | .inl _,_,_=>False
 | .inr _,.normal,_=>False
 | .inr r,e,σ=>Q r e σ
theorem KZ{S T:Type}{j:S→Option (S⊕T)}{c:Code}(f:S→St)(Q:T→Exit→St→Prop){x:S}{r:T}(h:iter j x=some r)(hl:Le n σ (f x))
  (step:∀y o,j y=some o→W P n Bw w0 c (f y) (nW n f Q o)):W P n Bw w0 (.loop c) σ (Q r):=by
 obtain⟨k,hk⟩:=pG h;refine Ld (fun k x=>jw j k x=some r) f (fun k y p=>?_) hk hl;cases k with
 | zero=>cases p
 | succ k =>
  simp only[jw]at p;cases hb:j y with
  | none=>rw[hb]at p;cases p
  | some o =>
   rw[hb]at p;refine(step y o hb).mono fun e σ' q=>?_
   cases o with
   | inl z =>
    cases e with
    | normal=>exact⟨k,z,Nat.lt_succ_self k,p,q⟩
    | _=>exact q.elim
   | inr u =>
    cases p;cases e with
    | normal=>exact q.elim
    | _=>exact q
theorem bM{S T:Type}{f:S→St}{Q:T→Exit→St→Prop}{r:T}(h:Q r .ret σ):nW n f Q (.inr r) .ret σ:=h
end
/-! ### Steps in a printed function -/
section
variable{α β:Type}
theorem MF{c:Prop}[Decidable c]{x y:Option α}{r:α}(hc:c)(h:(if c then x else y)=some r):x=some r:=by rw[if_pos hc]at h;exact h
theorem KO{b:Bool}{x y:Option α}{r:α}(hb:b=false)(h:(if b=true then x else y)=some r):y=some r:=by rw[hb]at h;exact h
theorem aD{c:Prop}[Decidable c]{x:Option α}{r:α}(h:(if c then x else none)=some r):c∧x=some r:=by
 split at h
 ·exact⟨by assumption,h⟩
 ·cases h
theorem ai{m:Option β}{f:β→Option α}{r:α}(h:m.bind f=some r):∃b,m=some b∧f b=some r:=by
 cases m with
 | none=>cases h
 | some b=>exact⟨b,rfl,h⟩
end
/-! ### Ends that are come to up to a smaller state -/
section
variable{P:Program}{tb:bQ}{n:NS}{Bw:Nat→Prop}{w0:cr P}{σ σ1:St}{Q:Exit→St→Prop}{S T U:Type}
theorem ae(h:∀σ',Le n σ' σ→Q .normal σ'):W P n Bw w0 .skip σ Q:=Kt (h σ (Le.refl σ))
theorem au{id:Nat}(h:∀σ',Le n σ' σ→Q (.exit id) σ'):W P n Bw w0 (.exit id) σ Q:=K6 (h σ (Le.refl σ))
theorem aQ{d:Code}{k:Nat}(h:∀σ',Le n σ' σ1→Q (.exit k) σ'):∀σ',Le n σ' σ1→yI P n Bw w0 d Q (.exit k) σ':=fun σ' hl=>h σ' hl
theorem aw{id:Nat}(h:∀σ',Le n σ' σ1→Q .normal σ'):∀σ',Le n σ' σ1→lP id Q (.exit id) σ':=fun σ' hl=>EY (h σ' hl)
theorem jA{id k:Nat}(f:(k == id)=false)(h:∀σ',Le n σ' σ1→Q (.exit k) σ'):∀σ',Le n σ' σ1→lP id Q (.exit k) σ':=fun σ' hl=>FN f (h σ' hl)
theorem dL{f:S→St}{Q:T→Exit→St→Prop}{r:T}{k:Nat}(h:∀σ',Le n σ' σ1→Q r (.exit k) σ'):∀σ',Le n σ' σ1→nW n f Q (.inr r) (.exit k) σ':=fun σ' hl=>h σ' hl
theorem Ky{f:S→St}{Q:T→Exit→St→Prop}{y:S}(h:Le n σ1 (f y)):∀σ',Le n σ' σ1→nW n f Q (.inl y) .normal σ':=fun _ hl=>Le.trans hl h
theorem cH{e:Exit}(h:∀σ',Le n σ' σ1→Q e σ')(hl:Le n σ σ1):Q e σ:=h σ hl
def oa(n:NS)(f:T→St)(v:T)(e:Exit)(σ:St):Prop:=e = .normal∧Le n σ (f v)
def fD(n:NS)(k:Nat)(f:T→St)(v:T)(e:Exit)(σ:St):Prop:=e = .exit k∧Le n σ (f v)
def gB(tb:bQ)(f:List ResultVar)(g:T→List (Σ T:Ty,T.den))(v:T)(e:Exit)(σ:St):Prop:=e = .ret∧Ln tb f (g v) .ret σ
def dz(A:T→Exit→St→Prop)(B:U→Exit→St→Prop):T⊕U→Exit→St→Prop
 | .inl x=>A x
 | .inr y=>B y
theorem cJ{f:T→St}{v:T}(h:Le n σ1 (f v)):∀σ',Le n σ' σ1→oa n f v .normal σ':=fun _ hl=>⟨rfl,Le.trans hl h⟩
theorem bT{k:Nat}{f:T→St}{v:T}(h:Le n σ1 (f v)):∀σ',Le n σ' σ1→fD n k f v (.exit k) σ':=fun _ hl=>⟨rfl,Le.trans hl h⟩
theorem bL{f:List ResultVar}{g:T→List (Σ T:Ty,T.den)}{v:T}(h:Ln tb f (g v) .ret σ):gB tb f g v .ret σ:=⟨rfl,h⟩
theorem bk{A:T→Exit→St→Prop}{B:U→Exit→St→Prop}{x:T}{e:Exit}(h:∀σ',Le n σ' σ1→A x e σ'):∀σ',Le n σ' σ1→dz A B (.inl x) e σ':=h
theorem Ck{A:T→Exit→St→Prop}{B:U→Exit→St→Prop}{x:T}{e:Exit}(h:A x e σ):dz A B (.inl x) e σ:=h
theorem aM{A:T→Exit→St→Prop}{B:U→Exit→St→Prop}{y:U}{e:Exit}(h:B y e σ):dz A B (.inr y) e σ:=h
def rH(g:T→Value)(v:T)(e:Exit)(_:St):Prop:=e = .panic [{ v:=g v,recovered:=false }]
theorem aE{d:Code}{f:List PanicEntry}(h:Q (.panic f) σ):yI P n Bw w0 d Q (.panic f) σ:=h
theorem bp{id:Nat}{f:List PanicEntry}(h:Q (.panic f) σ):lP id Q (.panic f) σ:=h
theorem bW{f:S→St}{Q:T→Exit→St→Prop}{r:T}{j:List PanicEntry}(h:Q r (.panic j) σ):nW n f Q (.inr r) (.panic j) σ:=h
end
end Go.Tv
