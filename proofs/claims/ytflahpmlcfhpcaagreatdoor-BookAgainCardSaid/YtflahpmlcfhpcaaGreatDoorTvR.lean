import Derived.Test.YtflahpmlcfhpcaaGreatDoorTvPm
namespace Go.Tv
open Go Go.RowKit
/-! ### Ghost steps -/
inductive G where
 | nilS (t id:Nat) (e:TypeId) (A:Ty)
 | nilC (b k id:Nat) (e:TypeId) (A:Ty)
 | nilSp (t:Nat) (A:Ty)
 | nilCp (b k:Nat) (A:Ty)
 | frzS (t:Nat)
 | frzC (b k:Nat)
 | weakS (t:Nat)
 | shut (id:Nat)
 | toB (id:Nat)
 | frzL (b k:Nat)
 | nilCq (b k:Nat) (A:Ty)
def ghost(g:G)(σ:St):Option St :=
 match g with
 | .nilS t id e A=>match σ.s t with
  | .nils=>if σ.nx≤id∧0<A.size then some ⟨bF σ.s t (.sl id),bF σ.h id (some (.arr e A [])),id+1,σ.pn⟩else none
  | _=>none
 | .nilC b k id e A=>match σ.h b with
  | some (.box cs)=>match cs[k]? with
   | some .nils=>if σ.nx≤id∧0<A.size∧b≠id then some ⟨σ.s,bF (bF σ.h id (some (.arr e A []))) b (some (.box (cs.set k (.sl id)))),id+1,σ.pn⟩else none
   | _=>none
  | _=>none
 | .nilSp t A=>match σ.s t with
  | .nils=>some ⟨bF σ.s t (.p false (.slice A) []),σ.h,σ.nx,σ.pn⟩
  | _=>none
 | .nilCp b k A=>match σ.h b with
  | some (.box cs)=>match cs[k]? with
   | some .nils=>some ⟨σ.s,bF σ.h b (some (.box (cs.set k (.p false (.slice A) [])))),σ.nx,σ.pn⟩
   | _=>none
  | _=>none
 | .nilCq b k A=>match σ.h b with
  | some (.box cs)=>match cs[k]? with
   | some .nilp=>some ⟨σ.s,bF σ.h b (some (.box (cs.set k (.p false (.ptr A) none)))),σ.nx,σ.pn⟩
   | _=>none
  | _=>none
 | .frzS t=>match gf σ.h (σ.s t)with
  | some (y,u)=>some ⟨bF σ.s t y,apply u σ.h,σ.nx,σ.pn⟩
  | none=>none
 | .frzC b k=>match σ.h b with
  | some (.box cs)=>match cs[k]? with
   | some x=>match gf σ.h x with
    | some (y,u)=>some ⟨σ.s,bF (apply u σ.h) b (some (.box (cs.set k y))),σ.nx,σ.pn⟩
    | none=>none
   | none=>none
  | _=>none
 | .weakS t=>match σ.s t with
  | .p false T x=>some ⟨bF σ.s t (.p true T x),σ.h,σ.nx,σ.pn⟩
  | _=>none
 | .shut id=>match σ.h id with
  | some (.mat e v A C (some (k,j)))=>match σ.h j with
   | some (.arr I B J)=>if q:B=A then(if I=v then some ⟨σ.s,bF (bF σ.h j none) id (some (.mat e v A (C.set k (q ▸ J:List A.den)) none)),σ.nx,σ.pn⟩else none)else none
   | _=>none
  | some (.nds e v E (some (k,f,j)))=>match σ.h j with
   | some o=>if id≠j then(match Db v f o (E.getD k Nd.z)with
    | some y=>some ⟨σ.s,bF (bF σ.h j none) id (some (.nds e v (E.set k y) none)),σ.nx,σ.pn⟩
    | none=>none)else none
   | none=>none
  | _=>none
 | .toB id=>match σ.h id with
  | some (.arr e (.int .u8) D)=>some ⟨σ.s,bF σ.h id (some (.bytes e D)),σ.nx,σ.pn⟩
  | _=>none
 | .frzL b k=>match σ.h b with
  | some (.lmp L n D cs)=>match cs[k]? with
   | some x=>match gf σ.h x with
    | some (y,u)=>some ⟨σ.s,bF (apply u σ.h) b (some (.lmp L n D (cs.set k y))),σ.nx,σ.pn⟩
    | none=>none
   | none=>none
  | _=>none
def ph:List G→St→Option St
 | [],σ=>some σ
 | g::e,σ=>match ghost g σ with
  | some σ'=>ph e σ'
  | none=>none
section
variable{P:Program}{n:NS}{Bw:Nat→Prop}{w0:cw P}{w:World}{σ σ':St}{ρ:Nat→QW}{φ:Nat→Nat→Prop}{h:Nat→Qz}
theorem nt(row:QJ):w.grownBy w row:=⟨rfl,rfl,rfl,Nat.le_refl _,fun _ _ _=>rfl⟩
theorem Mem.Dl(m:Mem Bw w0 ρ φ h w){b:Nat}{cs cs':List ag}(hb:h b=some (.box cs))(hl:cs'.length=cs.length)
  (I:∀F' ρ' (g:Nat→Value→Prop),(∀β a v,Fr (own φ h) Bw w β a v→F' β a v)→(∀i u,ρ i=some u→ρ' i=some u)→VL (Fr (own φ h) Bw w) ρ cs g→VL F' ρ' cs' g) :
  Mem Bw w0 ρ φ (bF h b (some (.box cs'))) w∧∀β a v,Fr (own φ h) Bw w β a v→Fr (own φ (bF h b (some (.box cs')))) Bw w β a v:=by
 obtain⟨u,C,g,t,cells,rfl,J,L,M,N⟩:=m.ob b _ hb;have z:bF ρ b (some (.pointer (some ⟨g,0,none⟩)))=ρ:=by
  funext i;by_cases e:i=b
  ·subst e;rw[aB,C]
  ·rw[aQ _ _ e]
 have j:bF φ b (φ b)=φ:=by
  funext i;by_cases e:i=b
  ·subst e;rw[aB]
  ·rw[aQ _ _ e]
 obtain⟨D,E,_⟩:=m.put (w':=w) (some b) b (.box cs') (.pointer (some ⟨g,0,none⟩)) (φ b) none (nt _) (fun k hk=>by cases hk) (.inr ⟨rfl,C⟩)
  (fun _ k hk=>m.lt b _ k hb rfl hk) (fun _ k hk=> .inr ⟨b,_,rfl,hb,rfl,hk⟩)
  (fun F' ρ' O B=>⟨g,t,cells,rfl,J,L,by rw[M,hl],I F' ρ' _ O B N⟩)
 rw[z,j,bm]at D;rw[j,bm]at E;exact⟨D,E⟩
theorem Mem.Kz(m:Mem Bw w0 ρ φ h w){b:Nat}{B:IntKind}{j:Nat}{xs:fh j}{cs cs':List ag}(hb:h b=some (.lmp B j xs cs))(hl:cs'.length=cs.length)
  (L:∀F' ρ' (g:Nat→Value→Prop),(∀β a v,Fr (own φ h) Bw w β a v→F' β a v)→(∀i u,ρ i=some u→ρ' i=some u)→VL (Fr (own φ h) Bw w) ρ cs g→VL F' ρ' cs' g) :
  Mem Bw w0 ρ φ (bF h b (some (.lmp B j xs cs'))) w∧∀β a v,Fr (own φ h) Bw w β a v→Fr (own φ (bF h b (some (.lmp B j xs cs')))) Bw w β a v:=by
 obtain⟨u,E,g,t,cells,rfl,M,N,O,V,X⟩:=m.ob b _ hb;have C:bF ρ b (some (.pointer (some ⟨g,0,none⟩)))=ρ:=by
  funext i;by_cases e:i=b
  ·subst e;rw[aB,E]
  ·rw[aQ _ _ e]
 have z:bF φ b (φ b)=φ:=by
  funext i;by_cases e:i=b
  ·subst e;rw[aB]
  ·rw[aQ _ _ e]
 obtain⟨I,J,_⟩:=m.put (w':=w) (some b) b (.lmp B j xs cs') (.pointer (some ⟨g,0,none⟩)) (φ b) none (nt _) (fun k hk=>by cases hk) (.inr ⟨rfl,E⟩)
  (fun _ k hk=>m.lt b _ k hb rfl hk) (fun _ k hk=> .inr ⟨b,_,rfl,hb,rfl,hk⟩)
  (fun F' ρ' Y D=>⟨g,t,cells,rfl,M,N,by rw[O,hl],V,L F' ρ' _ Y D X⟩)
 rw[C,z,bm]at I;rw[z,bm]at J;exact⟨I,J⟩
def KO:Obj→Bool
 | .arr _ _ _=>true
 | .mat _ _ _ _ _=>true
 | .bytes _ _=>true
 | .nds _ _ _ _=>true
 | _=>false
theorem rH{x y:ag}{u:gZ}(hd:gf h x=some (y,u)){b:Nat}{ob:Obj}(hb:h b=some ob)(j:KO ob=false):apply u h b=some ob:=by
 rw[gK,hb];intro p f e;unfold gf at hd;split at hd
 ·split at hd <;> cases hd <;> simp at f
  all_goals
   subst f;simp only at e;subst e;rename_i hi;rw[hb]at hi;cases hi;cases j
 ·cases hd;simp at f
theorem xQ{x y:ag}{u:gZ}(hd:gf h x=some (y,u))(j:Mem Bw w0 ρ φ (apply u h) w){v:Value}(z:V (Fr (own φ (apply u h)) Bw w) ρ x v):V (Fr (own φ (apply u h)) Bw w) ρ y v:=by
 unfold gf at hd;split at hd
 ·rename_i id;simp only[V]at z;obtain⟨p,_⟩:=z;split at hd
  ·rename_i A B hi;cases hd;obtain⟨q,e,f⟩:=j.ob id _ (by simp only[apply];exact aB _ _ _);rw[p]at e;cases e;exact f
  ·rename_i A B hi;cases hd;obtain⟨q,e,f⟩:=j.ob id _ hi;rw[p]at e;cases e;exact f
  ·rename_i C D A E hi;cases hd;obtain⟨q,e,f⟩:=j.ob id _ (by simp only[apply];exact aB _ _ _);rw[p]at e;cases e;exact f
  ·rename_i C B hi;cases hd;obtain⟨q,e,f⟩:=j.ob id _ (by simp only[apply];exact aB _ _ _);rw[p]at e;cases e;exact f
  ·rename_i C D I hi;cases hd;obtain⟨q,e,f⟩:=j.ob id _ (by simp only[apply];exact aB _ _ _);rw[p]at e;cases e;exact f
  ·cases hd
 ·cases hd;exact z
theorem Mem.Hp(m:Mem Bw w0 ρ φ h w){id:Nat}(hn:ρ id=none)(e:TypeId){A:Ty}(hA:0<A.size):
  Mem Bw w0 (bF ρ id (some (.slice none 0 0))) (bF φ id (fun _=>False)) (bF h id (some (.arr e A []))) w ∧
  (∀β a v,Fr (own φ h) Bw w β a v→Fr (own (bF φ id (fun _=>False)) (bF h id (some (.arr e A [])))) Bw w β a v) ∧
  (∀i u,ρ i=some u→bF ρ id (some (.slice none 0 0)) i=some u):=by
 obtain⟨j,z,B⟩:=m.put (w':=w) none id (.arr e A []) (.slice none 0 0) (fun _=>False) none (nt _) (fun k hk=>by cases hk) (.inl hn) (fun _ k hk=>hk.elim) (fun _ k hk=>hk.elim)
  (fun F' ρ' D C=>⟨fun k hk=>by simp[dx]at hk,hA,[],World.ownsRow_nil w 0 e _,fun i hi=>absurd hi (by simp)⟩)
 rw[bp]at j z;exact⟨j,z,B⟩
theorem eT.bF{F:Bool→Addr→Value→Prop}{s:Nat→ag}{a:Act}(f:eT n F ρ s a){t:Nat}{y:ag}(j:∀v,V F ρ (s t) v→V F ρ y v):eT n F ρ (Tv.bF s t y) a :=
 ⟨f.tm,f.df,fun k=>by
  by_cases e:k=t
  ·subst e;rw[aB];exact j _ (f.sl k)
  ·rw[aQ _ _ e];exact f.sl k⟩
theorem y7{F F':Bool→Addr→Value→Prop}{ρ f:Nat→QW}(D:∀β a v,F β a v→F' β a v)(q:∀i u,ρ i=some u→f i=some u){cs:List ag}{k:Nat}{x y:ag}(hk:cs[k]? = some x)(E:∀v,V F ρ x v→V F' f y v){g:Nat→Value→Prop}(h:VL F ρ cs g):
  VL F' f (cs.set k y) g:=VL.mk fun j z p=>by
 by_cases e:k=j
 ·subst e;have A:k<cs.length:=(List.getElem?_eq_some_iff.1 hk).1;rw[List.getElem?_set_self A]at p;cases p;obtain⟨u,B,C⟩:=VL.get h hk;exact⟨u,B,E u C⟩
 ·rw[List.getElem?_set_ne e]at p;obtain⟨u,B,C⟩:=VL.get h p;exact⟨u,B,V.mono D q C⟩
theorem EL{F:Bool→Addr→Value→Prop}{ρ:Nat→QW}{A:Ty}{v:Value}(h:V F ρ .nilp v):V F ρ (.p false (.ptr A) none) v:=by
 simp only[V]at h;subst h;simp only[V,ah];exact⟨rfl,trivial⟩
theorem Ab{F:Bool→Addr→Value→Prop}{A:Ty}{v:Value}(e:V F ρ .nils v):V F ρ (.p false (.slice A) []) v:=by
 simp only[V]at e ⊢;exact⟨rfl,none,0,0,e.symm,⟨rfl,Nat.le_refl _⟩,fun i hi=>absurd hi (by simp)⟩
theorem FH{g:G}(C:ghost g σ=some σ'):Le n σ σ':=fun P Bw w0 a w N=>by
 obtain⟨ρ,φ,O,J,M⟩:=N.ex;cases g with
 | nilS t id e A =>
  simp only[ghost]at C;split at C
  ·rename_i hs;split at C
   ·rename_i hc;cases C;have hn:ρ id=none:=by
     cases hq:ρ id with
     | none=>rfl
     | some u=>have:=M id u hq;omega
    obtain⟨I,L,f2⟩:=O.Hp hn e hc.2;refine⟨⟨_,_,I,(J.mono L f2).bF fun v D=>?_,fun i u hu=>?_⟩,N.pn⟩
    ·rw[hs]at D;simp only[V]at D ⊢;subst D;exact⟨aB _ _ _,_,_,_,rfl⟩
    ·by_cases e:i=id
     ·subst e;simp only;omega
     ·rw[aQ _ _ e]at hu;have:=M i u hu;simp only;omega
   ·cases C
  ·cases C
 | nilC b k id e A =>
  simp only[ghost]at C;split at C
  ·rename_i cs hb;split at C
   ·rename_i hk;split at C
    ·rename_i hc;cases C;have hn:ρ id=none:=by
      cases hq:ρ id with
      | none=>rfl
      | some u=>have:=M id u hq;omega
     obtain⟨I,L,f2⟩:=O.Hp hn e hc.2.1;obtain⟨Y,Z⟩:=I.Dl (b:=b) (cs:=cs) (cs':=cs.set k (.sl id)) (by rw[aQ _ _ hc.2.2];exact hb) (by simp) (fun F' a1 g X E D=>y7 X E hk (fun v D=>by
      simp only[V]at D ⊢;subst D;exact⟨E _ _ (aB _ _ _),_,_,_,rfl⟩) D)
     refine⟨⟨_,_,Y,(J.mono L f2).mono Z (fun _ _ h=>h),fun i u hu=>?_⟩,N.pn⟩;by_cases e:i=id
     ·subst e;simp only;omega
     ·rw[aQ _ _ e]at hu;have:=M i u hu;simp only;omega
    ·cases C
   ·cases C
  ·cases C
 | nilSp t A =>
  simp only[ghost]at C;split at C
  ·rename_i hs;cases C;exact⟨⟨ρ,φ,O,J.bF fun v D=>by rw[hs]at D;exact Ab D,M⟩,N.pn⟩
  ·cases C
 | nilCq b k A =>
  simp only[ghost]at C;split at C
  ·rename_i cs hb;split at C
   ·rename_i hk;cases C;obtain⟨Y,Z⟩:=O.Dl (b:=b) (cs:=cs) (cs':=cs.set k (.p false (.ptr A) none)) hb (by simp) (fun F' a1 g X E D=>y7 X E hk (fun v D=>V.mono X E (EL D)) D);exact⟨⟨ρ,φ,Y,J.mono Z (fun _ _ h=>h),M⟩,N.pn⟩
   ·cases C
  ·cases C
 | nilCp b k A =>
  simp only[ghost]at C;split at C
  ·rename_i cs hb;split at C
   ·rename_i hk;cases C;obtain⟨Y,Z⟩:=O.Dl (b:=b) (cs:=cs) (cs':=cs.set k (.p false (.slice A) [])) hb (by simp) (fun F' a1 g X E D=>y7 X E hk (fun v D=>V.mono X E (Ab D)) D);exact⟨⟨ρ,φ,Y,J.mono Z (fun _ _ h=>h),M⟩,N.pn⟩
   ·cases C
  ·cases C
 | frzS t =>
  simp only[ghost]at C;split at C
  ·rename_i y u hd;cases C;obtain⟨I,L,g1⟩:=gI O hd;refine⟨⟨ρ,φ,I,⟨J.tm,J.df,fun k=>?_⟩,M⟩,N.pn⟩;by_cases e:k=t
   ·subst e;simp only[aB];exact g1 _ (J.sl k)
   ·simp only[aQ _ _ e];exact V.mono L (fun _ _ h=>h) (J.sl k)
  ·cases C
 | frzC b k =>
  simp only[ghost]at C;split at C
  ·rename_i cs hb;split at C
   ·rename_i x hk;split at C
    ·rename_i y u hd;cases C;obtain⟨I,L,g1⟩:=gI O hd;have a2:apply u σ.h b=some (.box cs):=by exact rH hd hb rfl
     obtain⟨Y,Z⟩:=I.Dl (b:=b) (cs:=cs) (cs':=cs.set k y) a2 (by simp) (fun F' a1 g X E D=>by
      obtain⟨u',r1,g',t,cells,e,sg,s1,s2,s3⟩:=O.ob b _ hb;refine VL.mk fun j z hj=>?_
      by_cases e:k=j
      ·subst e;have a3:k<cs.length:=(List.getElem?_eq_some_iff.1 hk).1;rw[List.getElem?_set_self a3]at hj;cases hj;obtain⟨v,t1,t2⟩:=VL.get D hk;refine⟨v,t1,V.mono X E ?_⟩;exact xQ hd I t2
      ·rw[List.getElem?_set_ne e]at hj;obtain⟨v,t1,t2⟩:=VL.get D hj;exact⟨v,t1,V.mono X E t2⟩)
     exact⟨⟨ρ,φ,Y,(J.mono L (fun _ _ h=>h)).mono Z (fun _ _ h=>h),M⟩,N.pn⟩
    ·cases C
   ·cases C
  ·cases C
 | weakS t =>
  simp only[ghost]at C;split at C
  ·rename_i T x hs;cases C;refine⟨⟨ρ,φ,O,J.bF fun v D=>?_,M⟩,N.pn⟩;rw[hs]at D;simp only[V]at D ⊢;exact⟨D.1,ah.mono (fun a v hh=>⟨hh.1,fun e=>(by cases e),hh.2.2⟩) (fun _ _ h=>h) D.2⟩
  ·cases C
 | shut id =>
  simp only[ghost]at C;split at C
  ·rename_i e e2 A a5 k j hi;split at C
   ·rename_i e3 B ys hj;split at C
    ·rename_i q;subst q;split at C
     ·rename_i he;subst he;cases C;obtain⟨I,L⟩:=O.vS hi hj;exact⟨⟨ρ,_,I,J.mono L (fun _ _ h=>h),M⟩,N.pn⟩
     ·cases C
    ·cases C
   ·cases C
  ·rename_i e e2 ns k f j hi;split at C
   ·rename_i o hj;split at C
    ·rename_i a4;split at C
     ·rename_i y hy;cases C;obtain⟨I,L⟩:=O.HI hi hj a4 hy;exact⟨⟨ρ,_,I,J.mono L (fun _ _ h=>h),M⟩,N.pn⟩
     ·cases C
    ·cases C
   ·cases C
  ·cases C
 | toB id =>
  simp only[ghost]at C;split at C
  ·rename_i e xs hi;cases C;obtain⟨I,L⟩:=O.De hi;exact⟨⟨ρ,φ,I,J.mono L (fun _ _ h=>h),M⟩,N.pn⟩
  ·cases C
 | frzL b k =>
  simp only[ghost]at C;split at C
  ·rename_i kk nn xs cs hb;split at C
   ·rename_i x hk;split at C
    ·rename_i y u hd;cases C;obtain⟨I,L,g1⟩:=gI O hd;have a2:apply u σ.h b=some (.lmp kk nn xs cs):=by exact rH hd hb rfl
     obtain⟨Y,Z⟩:=I.Kz (b:=b) (cs:=cs) (cs':=cs.set k y) a2 (by simp) (fun F' a1 g X E D=>y7 X E hk (fun v D=>V.mono X E (xQ hd I D)) D);exact⟨⟨ρ,φ,Y,(J.mono L (fun _ _ h=>h)).mono Z (fun _ _ h=>h),M⟩,N.pn⟩
    ·cases C
   ·cases C
  ·cases C
theorem sM:∀ {f:List G} {σ σ':St},ph f σ=some σ'→Le n σ σ'
 | [],σ,σ',h=>by cases h;exact Le.refl _
 | g::f,σ,σ',h=>by
  simp only[ph]at h;split at h
  ·rename_i σ1 p;exact Le.trans (FH p) (sM h)
  ·cases h
/-! ### q a e j u written out -/
theorem F2{g:G}{σ σ':St}(h:ghost g σ=some σ'):σ'.pn=σ.pn:=by
 unfold ghost at h;split at h
 all_goals repeat' (split at h)
 all_goals first
  | (cases h;rfl)
  | cases h
theorem yi:∀ {e:List G} {σ σ':St},ph e σ=some σ'→σ'.pn=σ.pn
 | [],σ,σ',h=>by cases h;rfl
 | g::e,σ,σ',h=>by
  simp only[ph]at h;split at h
  ·rename_i σ1 f;rw[yi h,F2 f]
  ·cases h
def GL(f:QV)(i:Nat):Nat:=f.getD i 0
def goal(e:List G)(f:QV)(l:List (Nat×ag))(m:Qw)(σ:St):Option (List ag×List Qz) :=
 match ph e σ with
 | some σ'=>some (l.map (fun p=>σ'.s p.1),m.map (fun p=>σ'.h (GL f p.1)))
 | none=>none
def want(f:QV)(l:List (Nat×ag))(m:Qw):List ag×List Qz :=
 (l.map (fun p=>lT (GL f) p.2),m.map (fun p=>some (nb (GL f) p.2)))
theorem pN.of{f:Nat→Nat}{s:Nat→ag}:∀ {l:List (Nat×ag)},l.map (fun p=>s p.1)=l.map (fun p=>lT f p.2)→pN f s l
 | [],_=>trivial
 | (t,x)::r,h=>by simp only[List.map_cons,List.cons.injEq]at h;exact⟨h.1,pN.of h.2⟩
theorem pU.of{f:Nat→Nat}{s:Nat→Qz}:∀ {l:Qw},l.map (fun p=>s (f p.1))=l.map (fun p=>some (nb f p.2))→pU f s l
 | [],_=>trivial
 | (t,x)::r,h=>by simp only[List.map_cons,List.cons.injEq]at h;exact⟨h.1,pU.of h.2⟩
theorem uy{q:List G}{f:QV}{l:List (Nat×ag)}{m:Qw}{nx pn:Nat}(h:goal q f l m σ=some (want f l m))(j:(σ.pn == pn && kG (GL f) l m nx pn)=true):Le n σ (aA l m nx pn):=by
 simp only[Bool.and_eq_true,beq_iff_eq]at j;obtain⟨rfl,j⟩:=j;unfold goal at h;split at h
 ·rename_i σ1 p;simp only[want,Option.some.injEq,Prod.mk.injEq]at h;have e:=yi p;rw[←e]at j ⊢;exact Le.trans (sM p) (Kp (GL f) (pN.of h.1) (pU.of h.2) j)
 ·cases h
def LM(e:List G)(f:QV)(l:List (Nat×ag))(m:Qw)(nx pn:Nat)(r:Option ((Nat→ag)×(Nat→Qz)×List Prop)):Option ((List ag×List Qz)×List Prop) :=
 match r with
 | some (s,h,j)=>match goal e f l m ⟨s,h,nx,pn⟩with
  | some q=>some (q,j)
  | none=>none
 | none=>none
variable{Q:Exit→St→Prop}{tb:bU}
def Av(e:List G)(f:QV)(l:List (Nat×ag))(m:Qw)(nx pn:Nat)(r:Option ((Nat→ag)×(Nat→Qz)×List Prop×Value)):Option ((List ag×List Qz)×List Prop×Value) :=
 match r with
 | some (s,h,j,y)=>match goal e f l m ⟨s,h,nx,pn⟩with
  | some q=>some (q,j,y)
  | none=>none
 | none=>none
theorem IF(j:cg P tb)(an:An)(r:Nat)(y:Value){id:Nat}{ops:Array Oper}(z:List G)(f:QV)(l:List (Nat×ag))(m:Qw)(nx pn:Nat)(x:List Prop)
  (e:Av z f l m (σ.nx+8*ops.size) σ.pn (oS P tb an n σ.nx ops r ops.toList 0 σ.s σ.h)=some (want f l m,x,y)) (p:(σ.pn == pn && kG (GL f) l m nx pn)=true) (hc:oU x)
  (A:∀σ',Le n σ' (aA l m nx pn)→Q (.panic [{ v:=y,recovered:=false }]) σ'):W P n Bw w0 (.region id ops false) σ Q:=by
 unfold Av at e;split at e
 ·rename_i s h B D u;split at e
  ·rename_i q C;cases e;exact tJ j an r u hc (A _ (uy C p))
  ·cases e
 ·cases e
theorem ay{id:Nat}{σ1:St}(h:∀σ',Le n σ' σ1→Q .normal σ'):∀σ',Le n σ' σ1→lq id Q .normal σ':=h
theorem Es{id:Nat}(h:Q .normal σ):lq id Q (.exit id) σ:=by simp only[lq,if_true];exact h
theorem Et{id k:Nat}(e:(k == id)=false)(h:Q (.exit k) σ):lq id Q (.exit k) σ:=by simp only[lq];rw[if_neg (by simpa using e)];exact h
theorem ai{d:Code}(h:Q .ret σ):yg P n Bw w0 d Q .ret σ:=h
theorem az{id:Nat}(h:Q .ret σ):lq id Q .ret σ:=h
theorem D9{j:List ResultVar}{e:List (Σ T:Ty,T.den)}(Ts:List Ty)(h:(match sN tb σ.s σ.h j with | some f=>me σ.h f Ts | none=>none)=some e):Kg tb j e .ret σ:=by
 split at h
 ·rename_i f p;exact⟨f,Ts,p,h⟩
 ·cases h
end
/-! ### Loops as functions -/
def ji{S T:Type}(e:S→Option (S⊕T)):Nat→S→Option T
 | 0,_=>none
 | k+1,s=>match e s with
  | some (.inl f)=>ji e k f
  | some (.inr r)=>some r
  | none=>none
open Classical in
noncomputable def ya {S T:Type} (e:S→Option (S⊕T)) (s:S):Option T :=
 if h:∃r,∃k,ji e k s=some r then some h.choose else none
noncomputable def iter {S T:Type} (body:S→Option (S⊕T)) (s:S):Option T :=
 match ji body 1000000 s with
 | some r=>some r
 | none=>ya body s
theorem qj{S T:Type}{e:S→Option (S⊕T)}:∀ {k:Nat} {s:S} {r:T},ji e k s=some r→∀j,ji e (k+j) s=some r
 | 0,_,_,h,_=>by cases h
 | k+1,s,r,h,j=>by
  rw[Nat.add_right_comm];simp only[ji]at h ⊢;split at h
  ·exact qj h j
  ·exact h
  ·cases h
theorem A4{S T:Type}{e:S→Option (S⊕T)}{k:Nat}{s:S}{r:T}(h:ji e k s=some r):ya e s=some r:=by
 have f:∃r,∃k,ji e k s=some r:=⟨r,k,h⟩;unfold ya;rw[dif_pos f];obtain⟨j,q⟩:=f.choose_spec;have u:=qj h j;have p:=qj q k;rw[Nat.add_comm]at p;rw[u]at p;exact p.symm
theorem BP{S T:Type}{e:S→Option (S⊕T)}{s:S}{r:T}(h:ya e s=some r):∃k,ji e k s=some r:=by
 unfold ya at h;split at h
 ·rename_i f;cases h;exact f.choose_spec
 ·cases h
theorem Gb{S T:Type}(e:S→Option (S⊕T))(s:S):iter e s=ya e s:=by
 unfold iter;generalize 1000000=n;cases h:ji e n s with
 | none=>rfl
 | some r=>exact(A4 h).symm
theorem yr{S T:Type}{e:S→Option (S⊕T)}{k:Nat}{s:S}{r:T}(h:ji e k s=some r):iter e s=some r:=by
 rw[Gb];exact A4 h
theorem pv{S T:Type}{e:S→Option (S⊕T)}{s:S}{r:T}(h:iter e s=some r):∃k,ji e k s=some r:=by
 rw[Gb]at h;exact BP h
theorem iter_eq{S T:Type}(e:S→Option (S⊕T))(s:S):iter e s=match e s with
  | some (.inl f)=>iter e f
  | some (.inr r)=>some r
  | none=>none:=by
 cases hb:e s with
 | none =>
  cases hi:iter e s with
  | none=>rfl
  | some r =>
   obtain⟨k,hk⟩:=pv hi;cases k with
   | zero=>cases hk
   | succ k=>simp[ji,hb]at hk
 | some o =>
  cases o with
  | inr r=>exact yr (k:=1) (by simp[ji,hb])
  | inl f =>
   simp only;cases hi:iter e f with
   | some r =>
    obtain⟨k,hk⟩:=pv hi;exact yr (k:=k+1) (by simp[ji,hb,hk])
   | none =>
    cases j:iter e s with
    | none=>rfl
    | some r =>
     obtain⟨k,hk⟩:=pv j;cases k with
     | zero=>cases hk
     | succ k =>
      simp only[ji,hb]at hk;rw[yr hk]at hi;cases hi
section
variable{P:Program}{n:NS}{Bw:Nat→Prop}{w0:cw P}{σ:St}
def nr{S T:Type}(n:NS)(f:S→St)(Q:T→Exit→St→Prop):S⊕T→Exit→St→Prop
 | .inl y,.normal,σ=>Le n σ (f y)
 | .inl _,_,_=>False
 | .inr _,.normal,_=>False
 | .inr r,e,σ=>Q r e σ
theorem Jd{S T:Type}{j:S→Option (S⊕T)}{c:Code}(f:S→St)(Q:T→Exit→St→Prop){x:S}{r:T}(h:iter j x=some r)(hl:Le n σ (f x))
  (step:∀y o,j y=some o→W P n Bw w0 c (f y) (nr n f Q o)):W P n Bw w0 (.loop c) σ (Q r):=by
 obtain⟨k,hk⟩:=pv h;refine J3 (fun k x=>ji j k x=some r) f (fun k y p=>?_) hk hl;cases k with
 | zero=>cases p
 | succ k =>
  simp only[ji]at p;cases hb:j y with
  | none=>rw[hb]at p;cases p
  | some o =>
   rw[hb]at p;refine(step y o hb).mono fun e σ' q=>?_
   cases o with
   | inl z =>
    cases e with
    | normal=>exact⟨k,z,Nat.lt_succ_self k,p,q⟩
    | _=>exact q.elim
   | inr u =>
    cases p;cases e with
    | normal=>exact q.elim
    | _=>exact q
theorem bG{S T:Type}{f:S→St}{Q:T→Exit→St→Prop}{r:T}(h:Q r .ret σ):nr n f Q (.inr r) .ret σ:=h
end
/-! ### Steps in a printed function -/
section
variable{α β:Type}
theorem LR{c:Prop}[Decidable c]{x y:Option α}{r:α}(hc:c)(h:(if c then x else y)=some r):x=some r:=by rw[if_pos hc]at h;exact h
theorem Jx{b:Bool}{x y:Option α}{r:α}(hb:b=false)(h:(if b=true then x else y)=some r):y=some r:=by rw[hb]at h;exact h
theorem aE{c:Prop}[Decidable c]{x:Option α}{r:α}(h:(if c then x else none)=some r):c∧x=some r:=by
 split at h
 ·exact⟨by assumption,h⟩
 ·cases h
theorem aj{m:Option β}{f:β→Option α}{r:α}(h:m.bind f=some r):∃b,m=some b∧f b=some r:=by
 cases m with
 | none=>cases h
 | some b=>exact⟨b,rfl,h⟩
end
/-! ### Ends that are come to up to a smaller state -/
section
variable{P:Program}{tb:bU}{n:NS}{Bw:Nat→Prop}{w0:cw P}{σ σ1:St}{Q:Exit→St→Prop}{S T U:Type}
theorem ae(h:∀σ',Le n σ' σ→Q .normal σ'):W P n Bw w0 .skip σ Q:=JH (h σ (Le.refl σ))
theorem au{id:Nat}(h:∀σ',Le n σ' σ→Q (.exit id) σ'):W P n Bw w0 (.exit id) σ Q:=J2 (h σ (Le.refl σ))
theorem aO{d:Code}{k:Nat}(h:∀σ',Le n σ' σ1→Q (.exit k) σ'):∀σ',Le n σ' σ1→yg P n Bw w0 d Q (.exit k) σ':=fun σ' hl=>h σ' hl
theorem av{id:Nat}(h:∀σ',Le n σ' σ1→Q .normal σ'):∀σ',Le n σ' σ1→lq id Q (.exit id) σ':=fun σ' hl=>Es (h σ' hl)
theorem jv{id k:Nat}(e:(k == id)=false)(h:∀σ',Le n σ' σ1→Q (.exit k) σ'):∀σ',Le n σ' σ1→lq id Q (.exit k) σ':=fun σ' hl=>Et e (h σ' hl)
theorem dI{f:S→St}{Q:T→Exit→St→Prop}{r:T}{k:Nat}(h:∀σ',Le n σ' σ1→Q r (.exit k) σ'):∀σ',Le n σ' σ1→nr n f Q (.inr r) (.exit k) σ':=fun σ' hl=>h σ' hl
theorem Jp{f:S→St}{Q:T→Exit→St→Prop}{y:S}(h:Le n σ1 (f y)):∀σ',Le n σ' σ1→nr n f Q (.inl y) .normal σ':=fun _ hl=>Le.trans hl h
theorem cz{e:Exit}(h:∀σ',Le n σ' σ1→Q e σ')(hl:Le n σ σ1):Q e σ:=h σ hl
def nV(n:NS)(f:T→St)(v:T)(e:Exit)(σ:St):Prop:=e = .normal∧Le n σ (f v)
def eO(n:NS)(k:Nat)(f:T→St)(v:T)(e:Exit)(σ:St):Prop:=e = .exit k∧Le n σ (f v)
def fQ(tb:bU)(f:List ResultVar)(g:T→List (Σ T:Ty,T.den))(v:T)(e:Exit)(σ:St):Prop:=e = .ret∧Kg tb f (g v) .ret σ
def dc(A:T→Exit→St→Prop)(B:U→Exit→St→Prop):T⊕U→Exit→St→Prop
 | .inl x=>A x
 | .inr y=>B y
theorem cU{f:T→St}{v:T}(h:Le n σ1 (f v)):∀σ',Le n σ' σ1→nV n f v .normal σ':=fun _ hl=>⟨rfl,Le.trans hl h⟩
theorem bM{k:Nat}{f:T→St}{v:T}(h:Le n σ1 (f v)):∀σ',Le n σ' σ1→eO n k f v (.exit k) σ':=fun _ hl=>⟨rfl,Le.trans hl h⟩
theorem bH{e:List ResultVar}{g:T→List (Σ T:Ty,T.den)}{v:T}(h:Kg tb e (g v) .ret σ):fQ tb e g v .ret σ:=⟨rfl,h⟩
theorem bf{A:T→Exit→St→Prop}{B:U→Exit→St→Prop}{x:T}{e:Exit}(h:∀σ',Le n σ' σ1→A x e σ'):∀σ',Le n σ' σ1→dc A B (.inl x) e σ':=h
theorem Bq{A:T→Exit→St→Prop}{B:U→Exit→St→Prop}{x:T}{e:Exit}(h:A x e σ):dc A B (.inl x) e σ:=h
theorem aK{A:T→Exit→St→Prop}{B:U→Exit→St→Prop}{y:U}{e:Exit}(h:B y e σ):dc A B (.inr y) e σ:=h
def rN(g:T→Value)(v:T)(e:Exit)(_:St):Prop:=e = .panic [{ v:=g v,recovered:=false }]
theorem aD{d:Code}{e:List PanicEntry}(h:Q (.panic e) σ):yg P n Bw w0 d Q (.panic e) σ:=h
theorem br{id:Nat}{e:List PanicEntry}(h:Q (.panic e) σ):lq id Q (.panic e) σ:=h
theorem bY{f:S→St}{Q:T→Exit→St→Prop}{r:T}{e:List PanicEntry}(h:Q r (.panic e) σ):nr n f Q (.inr r) (.panic e) σ:=h
end
end Go.Tv
