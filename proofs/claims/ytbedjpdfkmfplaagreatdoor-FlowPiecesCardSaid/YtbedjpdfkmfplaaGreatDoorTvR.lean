import Derived.Test.YtbedjpdfkmfplaaGreatDoorTvPm
namespace Go.Tv
open Go Go.RowKit
/-! ### Ghost steps -/
inductive G where
 | nilS (t id:Nat) (e:TypeId) (A:Ty)
 | nilC (b k id:Nat) (e:TypeId) (A:Ty)
 | nilSp (t:Nat) (A:Ty)
 | nilCp (b k:Nat) (A:Ty)
 | frzS (t:Nat)
 | frzC (b k:Nat)
 | weakS (t:Nat)
 | shut (id:Nat)
 | toB (id:Nat)
 | frzL (b k:Nat)
 | nilCq (b k:Nat) (A:Ty)
def ghost(g:G)(σ:St):Option St :=
 match g with
 | .nilS t id e A=>match σ.s t with
  | .nils=>if σ.nx≤id∧0<A.size then some ⟨bu σ.s t (.sl id),bu σ.h id (some (.arr e A [])),id+1,σ.pn⟩else none
  | _=>none
 | .nilC b k id e A=>match σ.h b with
  | some (.box cs)=>match cs[k]? with
   | some .nils=>if σ.nx≤id∧0<A.size∧b≠id then some ⟨σ.s,bu (bu σ.h id (some (.arr e A []))) b (some (.box (cs.set k (.sl id)))),id+1,σ.pn⟩else none
   | _=>none
  | _=>none
 | .nilSp t A=>match σ.s t with
  | .nils=>some ⟨bu σ.s t (.p false (.slice A) []),σ.h,σ.nx,σ.pn⟩
  | _=>none
 | .nilCp b k A=>match σ.h b with
  | some (.box cs)=>match cs[k]? with
   | some .nils=>some ⟨σ.s,bu σ.h b (some (.box (cs.set k (.p false (.slice A) [])))),σ.nx,σ.pn⟩
   | _=>none
  | _=>none
 | .nilCq b k A=>match σ.h b with
  | some (.box cs)=>match cs[k]? with
   | some .nilp=>some ⟨σ.s,bu σ.h b (some (.box (cs.set k (.p false (.ptr A) none)))),σ.nx,σ.pn⟩
   | _=>none
  | _=>none
 | .frzS t=>match gG σ.h (σ.s t)with
  | some (y,u)=>some ⟨bu σ.s t y,apply u σ.h,σ.nx,σ.pn⟩
  | none=>none
 | .frzC b k=>match σ.h b with
  | some (.box cs)=>match cs[k]? with
   | some x=>match gG σ.h x with
    | some (y,u)=>some ⟨σ.s,bu (apply u σ.h) b (some (.box (cs.set k y))),σ.nx,σ.pn⟩
    | none=>none
   | none=>none
  | _=>none
 | .weakS t=>match σ.s t with
  | .p false T x=>some ⟨bu σ.s t (.p true T x),σ.h,σ.nx,σ.pn⟩
  | _=>none
 | .shut id=>match σ.h id with
  | some (.mat e v A C (some (k,j)))=>match σ.h j with
   | some (.arr I B J)=>if q:B=A then(if I=v then some ⟨σ.s,bu (bu σ.h j none) id (some (.mat e v A (C.set k (q ▸ J:List A.den)) none)),σ.nx,σ.pn⟩else none)else none
   | _=>none
  | some (.nds e v E (some (k,f,j)))=>match σ.h j with
   | some o=>if id≠j then(match FB v f o (E.getD k Nd.z)with
    | some y=>some ⟨σ.s,bu (bu σ.h j none) id (some (.nds e v (E.set k y) none)),σ.nx,σ.pn⟩
    | none=>none)else none
   | none=>none
  | _=>none
 | .toB id=>match σ.h id with
  | some (.arr e (.int .u8) D)=>some ⟨σ.s,bu σ.h id (some (.bytes e D)),σ.nx,σ.pn⟩
  | _=>none
 | .frzL b k=>match σ.h b with
  | some (.lmp L n D cs)=>match cs[k]? with
   | some x=>match gG σ.h x with
    | some (y,u)=>some ⟨σ.s,bu (apply u σ.h) b (some (.lmp L n D (cs.set k y))),σ.nx,σ.pn⟩
    | none=>none
   | none=>none
  | _=>none
def pz:List G→St→Option St
 | [],σ=>some σ
 | g::e,σ=>match ghost g σ with
  | some σ'=>pz e σ'
  | none=>none
section
variable{P:Program}{n:NS}{Bw:Nat→Prop}{w0:cE P}{w:World}{σ σ':St}{ρ:Nat→QW}{φ:Nat→Nat→Prop}{h:Nat→Qz}
theorem n5(row:QJ):w.grownBy w row:=⟨rfl,rfl,rfl,Nat.le_refl _,fun _ _ _=>rfl⟩
theorem Mem.Fs(m:Mem Bw w0 ρ φ h w){b:Nat}{cs cs':List ag}(hb:h b=some (.box cs))(hl:cs'.length=cs.length)
  (E:∀F' ρ' (g:Nat→Value→Prop),(∀β a v,Fr (own φ h) Bw w β a v→F' β a v)→(∀i u,ρ i=some u→ρ' i=some u)→VL (Fr (own φ h) Bw w) ρ cs g→VL F' ρ' cs' g) :
  Mem Bw w0 ρ φ (bu h b (some (.box cs'))) w∧∀β a v,Fr (own φ h) Bw w β a v→Fr (own φ (bu h b (some (.box cs')))) Bw w β a v:=by
 obtain⟨u,I,g,t,cells,rfl,J,L,M,N⟩:=m.ob b _ hb;have z:bu ρ b (some (.pointer (some ⟨g,0,none⟩)))=ρ:=by
  grind (splits:=6) (ematch:=4) [av,aD]
 have j:bu φ b (φ b)=φ:=by
  grind (splits:=6) (ematch:=4) [av,aD]
 obtain⟨C,D,_⟩:=m.put (w':=w) (some b) b (.box cs') (.pointer (some ⟨g,0,none⟩)) (φ b) none (n5 _) (fun k hk=>by cases hk) (.inr ⟨rfl,I⟩)
  (fun _ k hk=>m.lt b _ k hb rfl hk) (fun _ k hk=> .inr ⟨b,_,rfl,hb,rfl,hk⟩)
  (fun F' ρ' O B=>⟨g,t,cells,rfl,J,L,by rw[M,hl],E F' ρ' _ O B N⟩)
 rw[z,j,bf]at C;rw[j,bf]at D;exact⟨C,D⟩
theorem Mem.M5(m:Mem Bw w0 ρ φ h w){b:Nat}{B:IntKind}{j:Nat}{xs:fG j}{cs cs':List ag}(hb:h b=some (.lmp B j xs cs))(hl:cs'.length=cs.length)
  (J:∀F' ρ' (g:Nat→Value→Prop),(∀β a v,Fr (own φ h) Bw w β a v→F' β a v)→(∀i u,ρ i=some u→ρ' i=some u)→VL (Fr (own φ h) Bw w) ρ cs g→VL F' ρ' cs' g) :
  Mem Bw w0 ρ φ (bu h b (some (.lmp B j xs cs'))) w∧∀β a v,Fr (own φ h) Bw w β a v→Fr (own φ (bu h b (some (.lmp B j xs cs')))) Bw w β a v:=by
 obtain⟨u,L,g,t,cells,rfl,M,N,O,V,X⟩:=m.ob b _ hb;have C:bu ρ b (some (.pointer (some ⟨g,0,none⟩)))=ρ:=by
  grind (splits:=6) (ematch:=4) [av,aD]
 have z:bu φ b (φ b)=φ:=by
  grind (splits:=6) (ematch:=4) [av,aD]
 obtain⟨E,I,_⟩:=m.put (w':=w) (some b) b (.lmp B j xs cs') (.pointer (some ⟨g,0,none⟩)) (φ b) none (n5 _) (fun k hk=>by cases hk) (.inr ⟨rfl,L⟩)
  (fun _ k hk=>m.lt b _ k hb rfl hk) (fun _ k hk=> .inr ⟨b,_,rfl,hb,rfl,hk⟩)
  (fun F' ρ' Y D=>⟨g,t,cells,rfl,M,N,by rw[O,hl],V,J F' ρ' _ Y D X⟩)
 rw[C,z,bf]at E;rw[z,bf]at I;exact⟨E,I⟩
def Nc:Obj→Bool
 | .arr _ _ _=>true
 | .mat _ _ _ _ _=>true
 | .bytes _ _=>true
 | .nds _ _ _ _=>true
 | _=>false
theorem sW{x y:ag}{u:iu}(hd:gG h x=some (y,u)){b:Nat}{ob:Obj}(hb:h b=some ob)(j:Nc ob=false):apply u h b=some ob:=by
 rw[lu,hb];intro p f e;unfold gG at hd;split at hd
 ·split at hd <;> cases hd <;> simp at f
  all_goals
   subst f;simp only at e;subst e;rename_i hi;rw[hb]at hi;cases hi;cases j
 ·cases hd;simp at f
theorem zy{x y:ag}{u:iu}(hd:gG h x=some (y,u))(j:Mem Bw w0 ρ φ (apply u h) w){v:Value}(B:V (Fr (own φ (apply u h)) Bw w) ρ x v):V (Fr (own φ (apply u h)) Bw w) ρ y v:=by
 unfold gG at hd;split at hd
 ·rename_i id;simp only[V]at B;obtain⟨q,_⟩:=B;split at hd
  ·rename_i A C hi;cases hd;obtain⟨z,e,f⟩:=j.ob id _ (by simp only[apply];exact av _ _ _);rw[q]at e;cases e;exact f
  ·rename_i A C hi;cases hd;obtain⟨z,e,f⟩:=j.ob id _ hi;rw[q]at e;cases e;exact f
  ·rename_i D E A I hi;cases hd;obtain⟨z,e,f⟩:=j.ob id _ (by simp only[apply];exact av _ _ _);rw[q]at e;cases e;exact f
  ·rename_i D C hi;cases hd;obtain⟨z,e,f⟩:=j.ob id _ (by simp only[apply];exact av _ _ _);rw[q]at e;cases e;exact f
  ·rename_i D E J hi;cases hd;obtain⟨z,e,f⟩:=j.ob id _ (by simp only[apply];exact av _ _ _);rw[q]at e;cases e;exact f
  ·cases hd
 ·cases hd;exact B
theorem Mem.IK(m:Mem Bw w0 ρ φ h w){id:Nat}(hn:ρ id=none)(e:TypeId){A:Ty}(hA:0<A.size):
  Mem Bw w0 (bu ρ id (some (.slice none 0 0))) (bu φ id (fun _=>False)) (bu h id (some (.arr e A []))) w ∧
  (∀β a v,Fr (own φ h) Bw w β a v→Fr (own (bu φ id (fun _=>False)) (bu h id (some (.arr e A [])))) Bw w β a v) ∧
  (∀i u,ρ i=some u→bu ρ id (some (.slice none 0 0)) i=some u):=by
 obtain⟨j,z,B⟩:=m.put (w':=w) none id (.arr e A []) (.slice none 0 0) (fun _=>False) none (n5 _) (fun k hk=>by cases hk) (.inl hn) (fun _ k hk=>hk.elim) (fun _ k hk=>hk.elim)
  (fun F' ρ' D C=>⟨fun k hk=>by simp[dH]at hk,hA,[],World.ownsRow_nil w 0 e _,fun i hi=>absurd hi (by simp)⟩)
 rw[bp]at j z;exact⟨j,z,B⟩
theorem bV.bu{F:Bool→Addr→Value→Prop}{s:Nat→ag}{a:Act}(f:bV n F ρ s a){t:Nat}{y:ag}(j:∀v,V F ρ (s t) v→V F ρ y v):bV n F ρ (Tv.bu s t y) a :=
 ⟨f.tm,f.df,fun k=>by
  by_cases e:k=t
  ·subst e;rw[av];exact j _ (f.sl k)
  ·rw[aD _ _ e];exact f.sl k⟩
theorem Az{F F':Bool→Addr→Value→Prop}{ρ e:Nat→QW}(q:∀β a v,F β a v→F' β a v)(f:∀i u,ρ i=some u→e i=some u){cs:List ag}{k:Nat}{x y:ag}(hk:cs[k]? = some x)(A:∀v,V F ρ x v→V F' e y v){g:Nat→Value→Prop}(h:VL F ρ cs g):
  VL F' e (cs.set k y) g:=VL.mk fun j z B=>by
 grind (splits:=6) (ematch:=4) [VL.get,V.mono]
theorem GF{F:Bool→Addr→Value→Prop}{ρ:Nat→QW}{A:Ty}{v:Value}(h:V F ρ .nilp v):V F ρ (.p false (.ptr A) none) v:=by
 simp only[V]at h;subst h;simp only[V,ai];exact⟨rfl,trivial⟩
theorem Da{F:Bool→Addr→Value→Prop}{A:Ty}{v:Value}(e:V F ρ .nils v):V F ρ (.p false (.slice A) []) v:=by
 simp only[V]at e ⊢;exact⟨rfl,none,0,0,e.symm,⟨rfl,Nat.le_refl _⟩,fun i hi=>absurd hi (by simp)⟩
theorem IL{g:G}(C:ghost g σ=some σ'):Le n σ σ':=fun P Bw w0 a w M=>by
 obtain⟨ρ,φ,N,J,X⟩:=M.ex;cases g with
 | nilS t id e A =>
  simp only[ghost]at C;split at C
  ·rename_i hs;split at C
   ·rename_i hc;cases C;have hn:ρ id=none:=by
     cases hq:ρ id with
     | none=>rfl
     | some u=>have:=X id u hq;omega
    obtain⟨I,L,f2⟩:=N.IK hn e hc.2;refine⟨⟨_,_,I,(J.mono L f2).bu fun v E=>?_,fun i u hu=>?_⟩,M.pn⟩
    ·simp_all [V,av]
    ·grind (splits:=6) (ematch:=4) [aD]
   ·cases C
  ·cases C
 | nilC b k id e A =>
  simp only[ghost]at C;split at C
  ·rename_i cs hb;split at C
   ·rename_i hk;split at C
    ·rename_i hc;cases C;have hn:ρ id=none:=by
      cases hq:ρ id with
      | none=>rfl
      | some u=>have:=X id u hq;omega
     obtain⟨I,L,f2⟩:=N.IK hn e hc.2.1;obtain⟨Y,Z⟩:=I.Fs (b:=b) (cs:=cs) (cs':=cs.set k (.sl id)) (by rw[aD _ _ hc.2.2];exact hb) (by simp) (fun F' a1 g O D E=>Az O D hk (fun v E=>by
      simp only[V]at E ⊢;subst E;exact⟨D _ _ (av _ _ _),_,_,_,rfl⟩) E)
     refine⟨⟨_,_,Y,(J.mono L f2).mono Z (fun _ _ h=>h),fun i u hu=>?_⟩,M.pn⟩;by_cases e:i=id
     ·subst e;simp only;omega
     ·grind (splits:=6) (ematch:=4) [aD]
    ·cases C
   ·cases C
  ·cases C
 | nilSp t A =>
  simp only[ghost]at C;split at C
  ·rename_i hs;cases C;exact⟨⟨ρ,φ,N,J.bu fun v E=>by rw[hs]at E;exact Da E,X⟩,M.pn⟩
  ·cases C
 | nilCq b k A =>
  simp only[ghost]at C;split at C
  ·rename_i cs hb;split at C
   ·rename_i hk;cases C;obtain⟨Y,Z⟩:=N.Fs (b:=b) (cs:=cs) (cs':=cs.set k (.p false (.ptr A) none)) hb (by simp) (fun F' a1 g O D E=>Az O D hk (fun v E=>V.mono O D (GF E)) E);exact⟨⟨ρ,φ,Y,J.mono Z (fun _ _ h=>h),X⟩,M.pn⟩
   ·cases C
  ·cases C
 | nilCp b k A =>
  simp only[ghost]at C;split at C
  ·rename_i cs hb;split at C
   ·rename_i hk;cases C;obtain⟨Y,Z⟩:=N.Fs (b:=b) (cs:=cs) (cs':=cs.set k (.p false (.slice A) [])) hb (by simp) (fun F' a1 g O D E=>Az O D hk (fun v E=>V.mono O D (Da E)) E);exact⟨⟨ρ,φ,Y,J.mono Z (fun _ _ h=>h),X⟩,M.pn⟩
   ·cases C
  ·cases C
 | frzS t =>
  simp only[ghost]at C;split at C
  ·rename_i y u hd;cases C;obtain⟨I,L,g1⟩:=hZ N hd;refine⟨⟨ρ,φ,I,⟨J.tm,J.df,fun k=>?_⟩,X⟩,M.pn⟩;by_cases e:k=t
   ·subst e;simp only[av];exact g1 _ (J.sl k)
   ·simp only[aD _ _ e];exact V.mono L (fun _ _ h=>h) (J.sl k)
  ·cases C
 | frzC b k =>
  simp only[ghost]at C;split at C
  ·rename_i cs hb;split at C
   ·rename_i x hk;split at C
    ·rename_i y u hd;cases C;obtain⟨I,L,g1⟩:=hZ N hd;have a2:apply u σ.h b=some (.box cs):=by exact sW hd hb rfl
     obtain⟨Y,Z⟩:=I.Fs (b:=b) (cs:=cs) (cs':=cs.set k y) a2 (by simp) (fun F' a1 g O D E=>by
      obtain⟨u',r1,g',t,cells,e,sg,s1,s2,s3⟩:=N.ob b _ hb;refine VL.mk fun j z hj=>?_
      by_cases e:k=j
      ·subst e;have a3:k<cs.length:=(List.getElem?_eq_some_iff.1 hk).1;rw[List.getElem?_set_self a3]at hj;cases hj;obtain⟨v,t1,t2⟩:=VL.get E hk;refine⟨v,t1,V.mono O D ?_⟩;exact zy hd I t2
      ·rw[List.getElem?_set_ne e]at hj;obtain⟨v,t1,t2⟩:=VL.get E hj;exact⟨v,t1,V.mono O D t2⟩)
     exact⟨⟨ρ,φ,Y,(J.mono L (fun _ _ h=>h)).mono Z (fun _ _ h=>h),X⟩,M.pn⟩
    ·cases C
   ·cases C
  ·cases C
 | weakS t =>
  simp only[ghost]at C;split at C
  ·rename_i T x hs;cases C;refine⟨⟨ρ,φ,N,J.bu fun v E=>?_,X⟩,M.pn⟩;rw[hs]at E;simp only[V]at E ⊢;exact⟨E.1,ai.mono (fun a v hh=>⟨hh.1,fun e=>(by cases e),hh.2.2⟩) (fun _ _ h=>h) E.2⟩
  ·cases C
 | shut id =>
  simp only[ghost]at C;split at C
  ·rename_i e e2 A a5 k j hi;split at C
   ·rename_i e3 B ys hj;split at C
    ·rename_i q;subst q;split at C
     ·rename_i he;subst he;cases C;obtain⟨I,L⟩:=N.xX hi hj;exact⟨⟨ρ,_,I,J.mono L (fun _ _ h=>h),X⟩,M.pn⟩
     ·cases C
    ·cases C
   ·cases C
  ·rename_i e e2 ns k f j hi;split at C
   ·rename_i o hj;split at C
    ·rename_i a4;split at C
     ·rename_i y hy;cases C;obtain⟨I,L⟩:=N.Kw hi hj a4 hy;exact⟨⟨ρ,_,I,J.mono L (fun _ _ h=>h),X⟩,M.pn⟩
     ·cases C
    ·cases C
   ·cases C
  ·cases C
 | toB id =>
  simp only[ghost]at C;split at C
  ·rename_i e xs hi;cases C;obtain⟨I,L⟩:=N.Gl hi;exact⟨⟨ρ,φ,I,J.mono L (fun _ _ h=>h),X⟩,M.pn⟩
  ·cases C
 | frzL b k =>
  simp only[ghost]at C;split at C
  ·rename_i kk nn xs cs hb;split at C
   ·rename_i x hk;split at C
    ·rename_i y u hd;cases C;obtain⟨I,L,g1⟩:=hZ N hd;have a2:apply u σ.h b=some (.lmp kk nn xs cs):=by exact sW hd hb rfl
     obtain⟨Y,Z⟩:=I.M5 (b:=b) (cs:=cs) (cs':=cs.set k y) a2 (by simp) (fun F' a1 g O D E=>Az O D hk (fun v E=>V.mono O D (zy hd I E)) E);exact⟨⟨ρ,φ,Y,(J.mono L (fun _ _ h=>h)).mono Z (fun _ _ h=>h),X⟩,M.pn⟩
    ·cases C
   ·cases C
  ·cases C
theorem uC:∀ {f:List G} {σ σ':St},pz f σ=some σ'→Le n σ σ'
 | [],σ,σ',h=>by cases h;exact Le.refl _
 | g::f,σ,σ',h=>by
  simp only[pz]at h;split at h
  ·rename_i σ1 q;exact Le.trans (IL q) (uC h)
  ·cases h
/-! ### u a e j v written out -/
theorem JB{g:G}{σ σ':St}(h:ghost g σ=some σ'):σ'.pn=σ.pn:=by
 unfold ghost at h;split at h
 all_goals repeat' (split at h)
 all_goals first
  | (cases h;rfl)
  | cases h
theorem zA:∀ {e:List G} {σ σ':St},pz e σ=some σ'→σ'.pn=σ.pn
 | [],σ,σ',h=>by cases h;rfl
 | g::e,σ,σ',h=>by
  simp only[pz]at h;split at h
  ·rename_i σ1 f;rw[zA h,JB f]
  ·cases h
def Jf(f:QV)(i:Nat):Nat:=f.getD i 0
def goal(e:List G)(f:QV)(l:List (Nat×ag))(m:Qw)(σ:St):Option (List ag×List Qz) :=
 match pz e σ with
 | some σ'=>some (l.map (fun p=>σ'.s p.1),m.map (fun p=>σ'.h (Jf f p.1)))
 | none=>none
def want(f:QV)(l:List (Nat×ag))(m:Qw):List ag×List Qz :=
 (l.map (fun p=>mM (Jf f) p.2),m.map (fun p=>some (oL (Jf f) p.2)))
theorem qQ.of{f:Nat→Nat}{s:Nat→ag}:∀ {l:List (Nat×ag)},l.map (fun p=>s p.1)=l.map (fun p=>mM f p.2)→qQ f s l
 | [],_=>trivial
 | (t,x)::r,h=>by simp only[List.map_cons,List.cons.injEq]at h;exact⟨h.1,qQ.of h.2⟩
theorem qR.of{f:Nat→Nat}{s:Nat→Qz}:∀ {l:Qw},l.map (fun p=>s (f p.1))=l.map (fun p=>some (oL f p.2))→qR f s l
 | [],_=>trivial
 | (t,x)::r,h=>by simp only[List.map_cons,List.cons.injEq]at h;exact⟨h.1,qR.of h.2⟩
theorem vW{u:List G}{f:QV}{l:List (Nat×ag)}{m:Qw}{nx pn:Nat}(h:goal u f l m σ=some (want f l m))(j:(σ.pn == pn && lh (Jf f) l m nx pn)=true):Le n σ (aA l m nx pn):=by
 simp only[Bool.and_eq_true,beq_iff_eq]at j;obtain⟨rfl,j⟩:=j;unfold goal at h;split at h
 ·rename_i σ1 q;simp only[want,Option.some.injEq,Prod.mk.injEq]at h;have e:=zA q;rw[←e]at j ⊢;exact Le.trans (uC q) (M9 (Jf f) (qQ.of h.1) (qR.of h.2) j)
 ·cases h
def Og(e:List G)(f:QV)(l:List (Nat×ag))(m:Qw)(nx pn:Nat)(r:Option ((Nat→ag)×(Nat→Qz)×List Prop)):Option ((List ag×List Qz)×List Prop) :=
 match r with
 | some (s,h,j)=>match goal e f l m ⟨s,h,nx,pn⟩with
  | some q=>some (q,j)
  | none=>none
 | none=>none
variable{Q:Exit→St→Prop}{tb:bQ}
def CD(e:List G)(f:QV)(l:List (Nat×ag))(m:Qw)(nx pn:Nat)(r:Option ((Nat→ag)×(Nat→Qz)×List Prop×Value)):Option ((List ag×List Qz)×List Prop×Value) :=
 match r with
 | some (s,h,j,y)=>match goal e f l m ⟨s,h,nx,pn⟩with
  | some q=>some (q,j,y)
  | none=>none
 | none=>none
theorem K3(j:bY P tb)(an:An)(r:Nat)(y:Value){id:Nat}{ops:Array Oper}(B:List G)(f:QV)(l:List (Nat×ag))(m:Qw)(nx pn:Nat)(A:List Prop)
  (e:CD B f l m (σ.nx+8*ops.size) σ.pn (pK P tb an n σ.nx ops r ops.toList 0 σ.s σ.h)=some (want f l m,A,y)) (u:(σ.pn == pn && lh (Jf f) l m nx pn)=true) (C:qj A)
  (D:∀σ',Le n σ' (aA l m nx pn)→Q (.panic [{ v:=y,recovered:=false }]) σ'):W P n Bw w0 (.region id ops false) σ Q:=by
 unfold CD at e;split at e
 ·rename_i s h E J z;split at e
  ·rename_i q I;cases e;exact vz j an r z C (D _ (vW I u))
  ·cases e
 ·cases e
theorem ay{id:Nat}{σ1:St}(h:∀σ',Le n σ' σ1→Q .normal σ'):∀σ',Le n σ' σ1→lR id Q .normal σ':=h
theorem Gp{id:Nat}(h:Q .normal σ):lR id Q (.exit id) σ:=by simp only[lR,if_true];exact h
theorem Hb{id k:Nat}(e:(k == id)=false)(h:Q (.exit k) σ):lR id Q (.exit k) σ:=by simp only[lR];rw[if_neg (by simpa using e)];exact h
theorem ah{d:Code}(h:Q .ret σ):Ac P n Bw w0 d Q .ret σ:=h
theorem aB{id:Nat}(h:Q .ret σ):lR id Q .ret σ:=h
theorem Gt{j:List ResultVar}{e:List (Σ T:Ty,T.den)}(Ts:List Ty)(h:(match uy tb σ.s σ.h j with | some f=>mS σ.h f Ts | none=>none)=some e):ME tb j e .ret σ:=by
 split at h
 ·rename_i f q;exact⟨f,Ts,q,h⟩
 ·cases h
end
/-! ### Loops as functions -/
def jv{S T:Type}(e:S→Option (S⊕T)):Nat→S→Option T
 | 0,_=>none
 | k+1,s=>match e s with
  | some (.inl f)=>jv e k f
  | some (.inr r)=>some r
  | none=>none
open Classical in
noncomputable def zI {S T:Type} (e:S→Option (S⊕T)) (s:S):Option T :=
 if h:∃r,∃k,jv e k s=some r then some h.choose else none
noncomputable def iter {S T:Type} (body:S→Option (S⊕T)) (s:S):Option T :=
 match jv body 1000000 s with
 | some r=>some r
 | none=>zI body s
theorem rC{S T:Type}{e:S→Option (S⊕T)}:∀ {k:Nat} {s:S} {r:T},jv e k s=some r→∀j,jv e (k+j) s=some r
 | 0,_,_,h,_=>by cases h
 | k+1,s,r,h,j=>by
  rw[Nat.add_right_comm];simp only[jv]at h ⊢;split at h
  ·exact rC h j
  ·exact h
  ·cases h
theorem Ct{S T:Type}{e:S→Option (S⊕T)}{k:Nat}{s:S}{r:T}(h:jv e k s=some r):zI e s=some r:=by
 have f:∃r,∃k,jv e k s=some r:=⟨r,k,h⟩;unfold zI;rw[dif_pos f];obtain⟨j,u⟩:=f.choose_spec;have v:=rC h j;have q:=rC u k;rw[Nat.add_comm]at q;rw[v]at q;exact q.symm
theorem D6{S T:Type}{e:S→Option (S⊕T)}{s:S}{r:T}(h:zI e s=some r):∃k,jv e k s=some r:=by
 unfold zI at h;split at h
 ·rename_i f;cases h;exact f.choose_spec
 ·cases h
theorem IC{S T:Type}(e:S→Option (S⊕T))(s:S):iter e s=zI e s:=by
 unfold iter;generalize 1000000=n;cases h:jv e n s with
 | none=>rfl
 | some r=>exact(Ct h).symm
theorem Ak{S T:Type}{e:S→Option (S⊕T)}{k:Nat}{s:S}{r:T}(h:jv e k s=some r):iter e s=some r:=by
 rw[IC];exact Ct h
theorem nz{S T:Type}{e:S→Option (S⊕T)}{s:S}{r:T}(h:iter e s=some r):∃k,jv e k s=some r:=by
 rw[IC]at h;exact D6 h
theorem iter_eq{S T:Type}(e:S→Option (S⊕T))(s:S):iter e s=match e s with
  | some (.inl f)=>iter e f
  | some (.inr r)=>some r
  | none=>none:=by
 cases hb:e s with
 | none =>
  cases hi:iter e s with
  | none=>rfl
  | some r =>
   obtain⟨k,hk⟩:=nz hi;cases k with
   | zero=>cases hk
   | succ k=>simp[jv,hb]at hk
 | some o =>
  cases o with
  | inr r=>exact Ak (k:=1) (by simp[jv,hb])
  | inl f =>
   simp only;cases hi:iter e f with
   | some r =>
    obtain⟨k,hk⟩:=nz hi;exact Ak (k:=k+1) (by simp[jv,hb,hk])
   | none =>
    cases j:iter e s with
    | none=>rfl
    | some r =>
     obtain⟨k,hk⟩:=nz j;cases k with
     | zero=>cases hk
     | succ k =>
      simp only[jv,hb]at hk;rw[Ak hk]at hi;cases hi
section
variable{P:Program}{n:NS}{Bw:Nat→Prop}{w0:cE P}{σ:St}
def oU{S T:Type}(n:NS)(f:S→St)(Q:T→Exit→St→Prop):S⊕T→Exit→St→Prop
 | .inl y,.normal,σ=>Le n σ (f y)
 | .inl _,_,_=>False
 | .inr _,.normal,_=>False
 | .inr r,e,σ=>Q r e σ
theorem Mp{S T:Type}{j:S→Option (S⊕T)}{c:Code}(f:S→St)(Q:T→Exit→St→Prop){x:S}{r:T}(h:iter j x=some r)(hl:Le n σ (f x))
  (step:∀y o,j y=some o→W P n Bw w0 c (f y) (oU n f Q o)):W P n Bw w0 (.loop c) σ (Q r):=by
 obtain⟨k,hk⟩:=nz h;refine LH (fun k x=>jv j k x=some r) f (fun k y q=>?_) hk hl;cases k with
 | zero=>cases q
 | succ k =>
  simp only[jv]at q;cases hb:j y with
  | none=>rw[hb]at q;cases q
  | some o =>
   rw[hb]at q;refine(step y o hb).mono fun e σ' u=>?_
   cases o with
   | inl z =>
    cases e with
    | normal=>exact⟨k,z,Nat.lt_succ_self k,q,u⟩
    | _=>exact u.elim
   | inr v =>
    cases q;cases e with
    | normal=>exact u.elim
    | _=>exact u
theorem bL{S T:Type}{f:S→St}{Q:T→Exit→St→Prop}{r:T}(h:Q r .ret σ):oU n f Q (.inr r) .ret σ:=h
end
/-! ### Steps in a printed function -/
section
variable{α β:Type}
theorem Oe{c:Prop}[Decidable c]{x y:Option α}{r:α}(e:c)(h:(if c then x else y)=some r):x=some r:=by rw[if_pos e]at h;exact h
theorem Mg{b:Bool}{x y:Option α}{r:α}(hb:b=false)(h:(if b=true then x else y)=some r):y=some r:=by rw[hb]at h;exact h
theorem aE{c:Prop}[Decidable c]{x:Option α}{r:α}(h:(if c then x else none)=some r):c∧x=some r:=by
 split at h
 ·exact⟨by assumption,h⟩
 ·cases h
theorem aj{m:Option β}{f:β→Option α}{r:α}(h:m.bind f=some r):∃b,m=some b∧f b=some r:=by
 cases m with
 | none=>cases h
 | some b=>exact⟨b,rfl,h⟩
end
/-! ### Ends that are come to up to a smaller state -/
section
variable{P:Program}{tb:bQ}{n:NS}{Bw:Nat→Prop}{w0:cE P}{σ σ1:St}{Q:Exit→St→Prop}{S T U:Type}
theorem ae(h:∀σ',Le n σ' σ→Q .normal σ'):W P n Bw w0 .skip σ Q:=LB (h σ (Le.refl σ))
theorem aw{id:Nat}(h:∀σ',Le n σ' σ→Q (.exit id) σ'):W P n Bw w0 (.exit id) σ Q:=Mf (h σ (Le.refl σ))
theorem aR{d:Code}{k:Nat}(h:∀σ',Le n σ' σ1→Q (.exit k) σ'):∀σ',Le n σ' σ1→Ac P n Bw w0 d Q (.exit k) σ':=fun σ' hl=>h σ' hl
theorem az{id:Nat}(h:∀σ',Le n σ' σ1→Q .normal σ'):∀σ',Le n σ' σ1→lR id Q (.exit id) σ':=fun σ' hl=>Gp (h σ' hl)
theorem jT{id k:Nat}(e:(k == id)=false)(h:∀σ',Le n σ' σ1→Q (.exit k) σ'):∀σ',Le n σ' σ1→lR id Q (.exit k) σ':=fun σ' hl=>Hb e (h σ' hl)
theorem eo{f:S→St}{Q:T→Exit→St→Prop}{r:T}{k:Nat}(h:∀σ',Le n σ' σ1→Q r (.exit k) σ'):∀σ',Le n σ' σ1→oU n f Q (.inr r) (.exit k) σ':=fun σ' hl=>h σ' hl
theorem Ml{f:S→St}{Q:T→Exit→St→Prop}{y:S}(h:Le n σ1 (f y)):∀σ',Le n σ' σ1→oU n f Q (.inl y) .normal σ':=fun _ hl=>Le.trans hl h
theorem cU{e:Exit}(h:∀σ',Le n σ' σ1→Q e σ')(hl:Le n σ σ1):Q e σ:=h σ hl
def o6(n:NS)(f:T→St)(v:T)(e:Exit)(σ:St):Prop:=e = .normal∧Le n σ (f v)
def fK(n:NS)(k:Nat)(f:T→St)(v:T)(e:Exit)(σ:St):Prop:=e = .exit k∧Le n σ (f v)
def gM(tb:bQ)(f:List ResultVar)(g:T→List (Σ T:Ty,T.den))(v:T)(e:Exit)(σ:St):Prop:=e = .ret∧ME tb f (g v) .ret σ
def dL(A:T→Exit→St→Prop)(B:U→Exit→St→Prop):T⊕U→Exit→St→Prop
 | .inl x=>A x
 | .inr y=>B y
theorem cW{f:T→St}{v:T}(h:Le n σ1 (f v)):∀σ',Le n σ' σ1→o6 n f v .normal σ':=fun _ hl=>⟨rfl,Le.trans hl h⟩
theorem bT{k:Nat}{f:T→St}{v:T}(h:Le n σ1 (f v)):∀σ',Le n σ' σ1→fK n k f v (.exit k) σ':=fun _ hl=>⟨rfl,Le.trans hl h⟩
theorem bK{e:List ResultVar}{g:T→List (Σ T:Ty,T.den)}{v:T}(h:ME tb e (g v) .ret σ):gM tb e g v .ret σ:=⟨rfl,h⟩
theorem bn{A:T→Exit→St→Prop}{B:U→Exit→St→Prop}{x:T}{e:Exit}(h:∀σ',Le n σ' σ1→A x e σ'):∀σ',Le n σ' σ1→dL A B (.inl x) e σ':=h
theorem Cu{A:T→Exit→St→Prop}{B:U→Exit→St→Prop}{x:T}{e:Exit}(h:A x e σ):dL A B (.inl x) e σ:=h
theorem aN{A:T→Exit→St→Prop}{B:U→Exit→St→Prop}{y:U}{e:Exit}(h:B y e σ):dL A B (.inr y) e σ:=h
def tV(g:T→Value)(v:T)(e:Exit)(_:St):Prop:=e = .panic [{ v:=g v,recovered:=false }]
theorem aF{d:Code}{e:List PanicEntry}(h:Q (.panic e) σ):Ac P n Bw w0 d Q (.panic e) σ:=h
theorem bz{id:Nat}{e:List PanicEntry}(h:Q (.panic e) σ):lR id Q (.panic e) σ:=h
theorem bW{f:S→St}{Q:T→Exit→St→Prop}{r:T}{e:List PanicEntry}(h:Q r (.panic e) σ):oU n f Q (.inr r) (.panic e) σ:=h
end
end Go.Tv
