/- Rules for printed proofs: regions to a given state, loops as functions. -/
import Derived.Test.YtbedjpdfkmfplaaGreatDoorTvPm
namespace Go.Tv
open Go Go.RowKit
/-! ### Ghost steps -/
inductive G where
 | nilS (t id:Nat) (e:TypeId) (A:Ty)
 | nilC (b k id:Nat) (e:TypeId) (A:Ty)
 | nilSp (t:Nat) (A:Ty)
 | nilCp (b k:Nat) (A:Ty)
 | frzS (t:Nat)
 | frzC (b k:Nat)
 | weakS (t:Nat)
 | shut (id:Nat)
 | toB (id:Nat)
 | frzL (b k:Nat)
 | nilCq (b k:Nat) (A:Ty)
def oH(g:G)(σ:St):Option St :=
 match g with
 | .nilS t id e A=>match σ.s t with
  | .nils=>if σ.nx≤id∧0<A.size then some ⟨upd σ.s t (.sl id),upd σ.h id (some (.arr e A [])),id+1,σ.pn⟩else none
  | _=>none
 | .nilC b k id e A=>match σ.h b with
  | some (.box cs)=>match cs[k]? with
   | some .nils=>if σ.nx≤id∧0<A.size∧b≠id then some ⟨σ.s,upd (upd σ.h id (some (.arr e A []))) b (some (.box (cs.set k (.sl id)))),id+1,σ.pn⟩else none
   | _=>none
  | _=>none
 | .nilSp t A=>match σ.s t with
  | .nils=>some ⟨upd σ.s t (.p false (.slice A) []),σ.h,σ.nx,σ.pn⟩
  | _=>none
 | .nilCp b k A=>match σ.h b with
  | some (.box cs)=>match cs[k]? with
   | some .nils=>some ⟨σ.s,upd σ.h b (some (.box (cs.set k (.p false (.slice A) [])))),σ.nx,σ.pn⟩
   | _=>none
  | _=>none
 | .nilCq b k A=>match σ.h b with
  | some (.box cs)=>match cs[k]? with
   | some .nilp=>some ⟨σ.s,upd σ.h b (some (.box (cs.set k (.p false (.ptr A) none)))),σ.nx,σ.pn⟩
   | _=>none
  | _=>none
 | .frzS t=>match gH σ.h (σ.s t)with
  | some (y,u)=>some ⟨upd σ.s t y,apply u σ.h,σ.nx,σ.pn⟩
  | none=>none
 | .frzC b k=>match σ.h b with
  | some (.box cs)=>match cs[k]? with
   | some x=>match gH σ.h x with
    | some (y,u)=>some ⟨σ.s,upd (apply u σ.h) b (some (.box (cs.set k y))),σ.nx,σ.pn⟩
    | none=>none
   | none=>none
  | _=>none
 | .weakS t=>match σ.s t with
  | .p false T x=>some ⟨upd σ.s t (.p true T x),σ.h,σ.nx,σ.pn⟩
  | _=>none
 | .shut id=>match σ.h id with
  | some (.mat e e2 A xss (some (k,j)))=>match σ.h j with
   | some (.arr e3 B ys)=>if q:B=A then(if e3=e2 then some ⟨σ.s,upd (upd σ.h j none) id (some (.mat e e2 A (xss.set k (q ▸ ys:List A.den)) none)),σ.nx,σ.pn⟩else none)else none
   | _=>none
  | _=>none
 | .toB id=>match σ.h id with
  | some (.arr e (.int .u8) xs)=>some ⟨σ.s,upd σ.h id (some (.bytes e xs)),σ.nx,σ.pn⟩
  | _=>none
 | .frzL b k=>match σ.h b with
  | some (.lmp kk n xs cs)=>match cs[k]? with
   | some x=>match gH σ.h x with
    | some (y,u)=>some ⟨σ.s,upd (apply u σ.h) b (some (.lmp kk n xs (cs.set k y))),σ.nx,σ.pn⟩
    | none=>none
   | none=>none
  | _=>none
def uE:List G→St→Option St
 | [],σ=>some σ
 | g::gs,σ=>match oH g σ with
  | some σ'=>uE gs σ'
  | none=>none
section
variable{P:Program}{n:NS}{Bw:Nat→Prop}{w0:Base P}{w:World}{σ σ':St}{ρ:Nat→Option Value}{φ:Nat→Nat→Prop}{h:Nat→Option Obj}
theorem sK(row:Option Nat):w.grownBy w row:=⟨rfl,rfl,rfl,Nat.le_refl _,fun _ _ _=>rfl⟩
theorem Mem.reBox(m:Mem Bw w0 ρ φ h w){b:Nat}{cs cs':List AVal}(hb:h b=some (.box cs))(hl:cs'.length=cs.length)
  (hv:∀F' ρ' (g:Nat→Value→Prop),(∀β a v,Fr (own φ h) Bw w β a v→F' β a v)→(∀i u,ρ i=some u→ρ' i=some u)→VL (Fr (own φ h) Bw w) ρ cs g→VL F' ρ' cs' g) :
  Mem Bw w0 ρ φ (upd h b (some (.box cs'))) w∧∀β a v,Fr (own φ h) Bw w β a v→Fr (own φ (upd h b (some (.box cs')))) Bw w β a v:=by
 obtain⟨u,q1,g,t,cells,rfl,sg,r1,r2,r3⟩:=m.ob b _ hb
 have eρ:upd ρ b (some (.pointer (some ⟨g,0,none⟩)))=ρ:=by
  funext i
  by_cases e:i=b
  ·subst e;rw[aI,q1]
  ·rw[aP _ _ e]
 have eφ:upd φ b (φ b)=φ:=by
  funext i
  by_cases e:i=b
  ·subst e;rw[aI]
  ·rw[aP _ _ e]
 obtain⟨m',f',_⟩:=m.put (w':=w) (some b) b (.box cs') (.pointer (some ⟨g,0,none⟩)) (φ b) none (sK _) (fun k hk=>by cases hk) (.inr ⟨rfl,q1⟩)
  (fun _ k hk=>m.lt b _ k hb rfl hk) (fun _ k hk=> .inr ⟨b,_,rfl,hb,rfl,hk⟩)
  (fun F' ρ' hF hρ=>⟨g,t,cells,rfl,sg,r1,by rw[r2,hl],hv F' ρ' _ hF hρ r3⟩)
 rw[eρ,eφ,bE]at m'
 rw[eφ,bE]at f'
 exact⟨m',f'⟩
theorem Mem.reLmp(m:Mem Bw w0 ρ φ h w){b:Nat}{kk:IntKind}{nn:Nat}{xs:Arr nn}{cs cs':List AVal}(hb:h b=some (.lmp kk nn xs cs))(hl:cs'.length=cs.length)
  (hv:∀F' ρ' (g:Nat→Value→Prop),(∀β a v,Fr (own φ h) Bw w β a v→F' β a v)→(∀i u,ρ i=some u→ρ' i=some u)→VL (Fr (own φ h) Bw w) ρ cs g→VL F' ρ' cs' g) :
  Mem Bw w0 ρ φ (upd h b (some (.lmp kk nn xs cs'))) w∧∀β a v,Fr (own φ h) Bw w β a v→Fr (own φ (upd h b (some (.lmp kk nn xs cs')))) Bw w β a v:=by
 obtain⟨u,q1,g,t,cells,rfl,sg,r1,r2,r3,r4⟩:=m.ob b _ hb
 have eρ:upd ρ b (some (.pointer (some ⟨g,0,none⟩)))=ρ:=by
  funext i
  by_cases e:i=b
  ·subst e;rw[aI,q1]
  ·rw[aP _ _ e]
 have eφ:upd φ b (φ b)=φ:=by
  funext i
  by_cases e:i=b
  ·subst e;rw[aI]
  ·rw[aP _ _ e]
 obtain⟨m',f',_⟩:=m.put (w':=w) (some b) b (.lmp kk nn xs cs') (.pointer (some ⟨g,0,none⟩)) (φ b) none (sK _) (fun k hk=>by cases hk) (.inr ⟨rfl,q1⟩)
  (fun _ k hk=>m.lt b _ k hb rfl hk) (fun _ k hk=> .inr ⟨b,_,rfl,hb,rfl,hk⟩)
  (fun F' ρ' hF hρ=>⟨g,t,cells,rfl,sg,r1,by rw[r2,hl],r3,hv F' ρ' _ hF hρ r4⟩)
 rw[eρ,eφ,bE]at m'
 rw[eφ,bE]at f'
 exact⟨m',f'⟩
theorem aGp{x y:AVal}{u:jJ}(hd:gH h x=some (y,u))(m':Mem Bw w0 ρ φ (apply u h) w){v:Value}(hv:V (Fr (own φ (apply u h)) Bw w) ρ x v):V (Fr (own φ (apply u h)) Bw w) ρ y v:=by
 unfold gH at hd
 split at hd
 ·rename_i id
  simp only[V]at hv
  obtain⟨t2,_⟩:=hv
  split at hd
  ·rename_i A xs hi
   cases hd
   obtain⟨v2,p1,p2⟩:=m'.ob id _ (by simp only[apply];exact aI _ _ _)
   rw[t2]at p1
   cases p1
   exact p2
  ·rename_i A xs hi
   cases hd
   obtain⟨v2,p1,p2⟩:=m'.ob id _ hi
   rw[t2]at p1
   cases p1
   exact p2
  ·rename_i te e2 A xss hi
   cases hd
   obtain⟨v2,p1,p2⟩:=m'.ob id _ (by simp only[apply];exact aI _ _ _)
   rw[t2]at p1
   cases p1
   exact p2
  ·rename_i te xs hi
   cases hd
   obtain⟨v2,p1,p2⟩:=m'.ob id _ (by simp only[apply];exact aI _ _ _)
   rw[t2]at p1
   cases p1
   exact p2
  ·cases hd
 ·cases hd
  exact hv
theorem Mem.nilArr(m:Mem Bw w0 ρ φ h w){id:Nat}(hn:ρ id=none)(e:TypeId){A:Ty}(hA:0<A.size):
  Mem Bw w0 (upd ρ id (some (.slice none 0 0))) (upd φ id (fun _=>False)) (upd h id (some (.arr e A []))) w ∧
  (∀β a v,Fr (own φ h) Bw w β a v→Fr (own (upd φ id (fun _=>False)) (upd h id (some (.arr e A [])))) Bw w β a v) ∧
  (∀i u,ρ i=some u→upd ρ id (some (.slice none 0 0)) i=some u):=by
 obtain⟨m',f1,f2⟩:=m.put (w':=w) none id (.arr e A []) (.slice none 0 0) (fun _=>False) none (sK _) (fun k hk=>by cases hk) (.inl hn) (fun _ k hk=>hk.elim) (fun _ k hk=>hk.elim)
  (fun F' ρ' hF hρ=>⟨fun k hk=>by simp[jT]at hk,hA,[],World.ownsRow_nil w 0 e _,fun i hi=>absurd hi (by simp)⟩)
 rw[bQ]at m' f1
 exact⟨m',f1,f2⟩
theorem Slots.upd{F:Bool→Addr→Value→Prop}{s:Nat→AVal}{a:Act}(hs:Slots n F ρ s a){t:Nat}{y:AVal}(hy:∀v,V F ρ (s t) v→V F ρ y v):Slots n F ρ (Tv.upd s t y) a :=
 ⟨hs.tm,hs.df,fun k=>by
  by_cases e:k=t
  ·subst e;rw[aI];exact hy _ (hs.sl k)
  ·rw[aP _ _ e];exact hs.sl k⟩
theorem aBC{F F':Bool→Addr→Value→Prop}{ρ ρ':Nat→Option Value}(hF:∀β a v,F β a v→F' β a v)(hρ:∀i u,ρ i=some u→ρ' i=some u){cs:List AVal}{k:Nat}{x y:AVal}(hk:cs[k]? = some x)(hy:∀v,V F ρ x v→V F' ρ' y v){g:Nat→Value→Prop}(h:VL F ρ cs g):
  VL F' ρ' (cs.set k y) g:=VL.mk fun j z hj=>by
 by_cases e:k=j
 ·subst e
  have hlt:k<cs.length:=(List.getElem?_eq_some_iff.1 hk).1
  rw[List.getElem?_set_self hlt]at hj
  cases hj
  obtain⟨u,q1,q2⟩:=VL.get h hk
  exact⟨u,q1,hy u q2⟩
 ·rw[List.getElem?_set_ne e]at hj
  obtain⟨u,q1,q2⟩:=VL.get h hj
  exact⟨u,q1,V.mono hF hρ q2⟩
theorem aGG{F:Bool→Addr→Value→Prop}{ρ:Nat→Option Value}{A:Ty}{v:Value}(h:V F ρ .nilp v):V F ρ (.p false (.ptr A) none) v:=by
 simp only[V]at h
 subst h
 simp only[V,Vcells]
 exact⟨rfl,trivial⟩
theorem aCx{F:Bool→Addr→Value→Prop}{A:Ty}{v:Value}(hv:V F ρ .nils v):V F ρ (.p false (.slice A) []) v:=by
 simp only[V]at hv ⊢
 exact⟨rfl,none,0,0,hv.symm,⟨rfl,Nat.le_refl _⟩,fun i hi=>absurd hi (by simp)⟩
theorem aHs{g:G}(hg:oH g σ=some σ'):Le n σ σ':=fun P Bw w0 a w hr=>by
 obtain⟨ρ,φ,q1,q2,q3⟩:=hr.ex
 cases g with
 | nilS t id e A =>
  simp only[oH]at hg
  split at hg
  ·rename_i hs
   split at hg
   ·rename_i hc
    cases hg
    have hn:ρ id=none:=by
     cases hq:ρ id with
     | none=>rfl
     | some u=>have:=q3 id u hq;omega
    obtain⟨m',f1,f2⟩:=q1.nilArr hn e hc.2
    refine⟨⟨_,_,m',(q2.mono f1 f2).upd fun v hv=> ?_,fun i u hu=> ?_⟩,hr.pn⟩
    ·rw[hs]at hv
     simp only[V]at hv ⊢
     subst hv
     exact⟨aI _ _ _,_,_,_,rfl⟩
    ·by_cases e:i=id
     ·subst e;simp only;omega
     ·rw[aP _ _ e]at hu
      have:=q3 i u hu
      simp only;omega
   ·cases hg
  ·cases hg
 | nilC b k id e A =>
  simp only[oH]at hg
  split at hg
  ·rename_i cs hb
   split at hg
   ·rename_i hk
    split at hg
    ·rename_i hc
     cases hg
     have hn:ρ id=none:=by
      cases hq:ρ id with
      | none=>rfl
      | some u=>have:=q3 id u hq;omega
     obtain⟨m',f1,f2⟩:=q1.nilArr hn e hc.2.1
     obtain⟨m2,f3⟩:=m'.reBox (b:=b) (cs:=cs) (cs':=cs.set k (.sl id)) (by rw[aP _ _ hc.2.2];exact hb) (by simp) (fun F' ρ' g hF hρ hv=>aBC hF hρ hk (fun v hv=>by
      simp only[V]at hv ⊢
      subst hv
      exact⟨hρ _ _ (aI _ _ _),_,_,_,rfl⟩) hv)
     refine⟨⟨_,_,m2,(q2.mono f1 f2).mono f3 (fun _ _ h=>h),fun i u hu=> ?_⟩,hr.pn⟩
     by_cases e:i=id
     ·subst e;simp only;omega
     ·rw[aP _ _ e]at hu
      have:=q3 i u hu
      simp only;omega
    ·cases hg
   ·cases hg
  ·cases hg
 | nilSp t A =>
  simp only[oH]at hg
  split at hg
  ·rename_i hs
   cases hg
   exact⟨⟨ρ,φ,q1,q2.upd fun v hv=>by rw[hs]at hv;exact aCx hv,q3⟩,hr.pn⟩
  ·cases hg
 | nilCq b k A =>
  simp only[oH]at hg
  split at hg
  ·rename_i cs hb
   split at hg
   ·rename_i hk
    cases hg
    obtain⟨m2,f3⟩:=q1.reBox (b:=b) (cs:=cs) (cs':=cs.set k (.p false (.ptr A) none)) hb (by simp) (fun F' ρ' g hF hρ hv=>aBC hF hρ hk (fun v hv=>V.mono hF hρ (aGG hv)) hv)
    exact⟨⟨ρ,φ,m2,q2.mono f3 (fun _ _ h=>h),q3⟩,hr.pn⟩
   ·cases hg
  ·cases hg
 | nilCp b k A =>
  simp only[oH]at hg
  split at hg
  ·rename_i cs hb
   split at hg
   ·rename_i hk
    cases hg
    obtain⟨m2,f3⟩:=q1.reBox (b:=b) (cs:=cs) (cs':=cs.set k (.p false (.slice A) [])) hb (by simp) (fun F' ρ' g hF hρ hv=>aBC hF hρ hk (fun v hv=>V.mono hF hρ (aCx hv)) hv)
    exact⟨⟨ρ,φ,m2,q2.mono f3 (fun _ _ h=>h),q3⟩,hr.pn⟩
   ·cases hg
  ·cases hg
 | frzS t =>
  simp only[oH]at hg
  split at hg
  ·rename_i y u hd
   cases hg
   obtain⟨m',f1,g1⟩:=iQ q1 hd
   refine⟨⟨ρ,φ,m',⟨q2.tm,q2.df,fun k=> ?_⟩,q3⟩,hr.pn⟩
   by_cases e:k=t
   ·subst e;simp only[aI];exact g1 _ (q2.sl k)
   ·simp only[aP _ _ e];exact V.mono f1 (fun _ _ h=>h) (q2.sl k)
  ·cases hg
 | frzC b k =>
  simp only[oH]at hg
  split at hg
  ·rename_i cs hb
   split at hg
   ·rename_i x hk
    split at hg
    ·rename_i y u hd
     cases hg
     obtain⟨m',f1,g1⟩:=iQ q1 hd
     have hb':apply u σ.h b=some (.box cs):=by
      rw[gY,hb]
      intro p hp e
      unfold gH at hd
      split at hd
      ·split at hd
       ·rename_i id A xs hi
        cases hd
        simp at hp
        subst hp
        simp only at e
        subst e
        rw[hb]at hi;cases hi
       ·cases hd;simp at hp
       ·rename_i id te e2 A xss hi
        cases hd
        simp at hp
        subst hp
        simp only at e
        subst e
        rw[hb]at hi;cases hi
       ·rename_i id te xs hi
        cases hd
        simp at hp
        subst hp
        simp only at e
        subst e
        rw[hb]at hi;cases hi
       ·cases hd
      ·cases hd;simp at hp
     obtain⟨m2,f3⟩:=m'.reBox (b:=b) (cs:=cs) (cs':=cs.set k y) hb' (by simp) (fun F' ρ' g hF hρ hv=>by
      obtain⟨u',r1,g',t,cells,e,sg,s1,s2,s3⟩:=q1.ob b _ hb
      refine VL.mk fun j z hj=> ?_
      by_cases e:k=j
      ·subst e
       have hlt:k<cs.length:=(List.getElem?_eq_some_iff.1 hk).1
       rw[List.getElem?_set_self hlt]at hj
       cases hj
       obtain⟨v,t1,t2⟩:=VL.get hv hk
       refine⟨v,t1,V.mono hF hρ ?_⟩
       unfold gH at hd
       split at hd
       ·rename_i id
        simp only[V]at t2
        obtain⟨t2,_⟩:=t2
        split at hd
        ·rename_i A xs hi
         cases hd
         obtain⟨v2,p1,p2⟩:=m'.ob id _ (by simp only[apply];exact aI _ _ _)
         rw[t2]at p1
         cases p1
         exact p2
        ·rename_i A xs hi
         cases hd
         obtain⟨v2,p1,p2⟩:=m'.ob id _ hi
         rw[t2]at p1
         cases p1
         exact p2
        ·rename_i te e2 A xss hi
         cases hd
         obtain⟨v2,p1,p2⟩:=m'.ob id _ (by simp only[apply];exact aI _ _ _)
         rw[t2]at p1
         cases p1
         exact p2
        ·rename_i te xs hi
         cases hd
         obtain⟨v2,p1,p2⟩:=m'.ob id _ (by simp only[apply];exact aI _ _ _)
         rw[t2]at p1
         cases p1
         exact p2
        ·cases hd
       ·cases hd
        exact t2
      ·rw[List.getElem?_set_ne e]at hj
       obtain⟨v,t1,t2⟩:=VL.get hv hj
       exact⟨v,t1,V.mono hF hρ t2⟩)
     exact⟨⟨ρ,φ,m2,(q2.mono f1 (fun _ _ h=>h)).mono f3 (fun _ _ h=>h),q3⟩,hr.pn⟩
    ·cases hg
   ·cases hg
  ·cases hg
 | weakS t =>
  simp only[oH]at hg
  split at hg
  ·rename_i T x hs
   cases hg
   refine⟨⟨ρ,φ,q1,q2.upd fun v hv=> ?_,q3⟩,hr.pn⟩
   rw[hs]at hv
   simp only[V]at hv ⊢
   exact⟨hv.1,Vcells.mono (fun a v hh=>⟨hh.1,fun e=>(by cases e),hh.2.2⟩) (fun _ _ h=>h) hv.2⟩
  ·cases hg
 | shut id =>
  simp only[oH]at hg
  split at hg
  ·rename_i e e2 A xss k j hi
   split at hg
   ·rename_i e3 B ys hj
    split at hg
    ·rename_i q
     subst q
     split at hg
     ·rename_i he
      subst he
      cases hg
      obtain⟨m',f1⟩:=q1.closeRow hi hj
      exact⟨⟨ρ,_,m',q2.mono f1 (fun _ _ h=>h),q3⟩,hr.pn⟩
     ·cases hg
    ·cases hg
   ·cases hg
  ·cases hg
 | toB id =>
  simp only[oH]at hg
  split at hg
  ·rename_i e xs hi
   cases hg
   obtain⟨m',f1⟩:=q1.toBytes hi
   exact⟨⟨ρ,φ,m',q2.mono f1 (fun _ _ h=>h),q3⟩,hr.pn⟩
  ·cases hg
 | frzL b k =>
  simp only[oH]at hg
  split at hg
  ·rename_i kk nn xs cs hb
   split at hg
   ·rename_i x hk
    split at hg
    ·rename_i y u hd
     cases hg
     obtain⟨m',f1,g1⟩:=iQ q1 hd
     have hb':apply u σ.h b=some (.lmp kk nn xs cs):=by
      rw[gY,hb]
      intro p hp e
      unfold gH at hd
      split at hd
      ·split at hd
       ·rename_i id te A xs' hi
        cases hd
        simp at hp
        subst hp
        simp only at e
        subst e
        rw[hb]at hi;cases hi
       ·cases hd;simp at hp
       ·rename_i id te e2 A xss hi
        cases hd
        simp at hp
        subst hp
        simp only at e
        subst e
        rw[hb]at hi;cases hi
       ·rename_i id te xs' hi
        cases hd
        simp at hp
        subst hp
        simp only at e
        subst e
        rw[hb]at hi;cases hi
       ·cases hd
      ·cases hd;simp at hp
     obtain⟨m2,f3⟩:=m'.reLmp (b:=b) (cs:=cs) (cs':=cs.set k y) hb' (by simp) (fun F' ρ' g hF hρ hv=>aBC hF hρ hk (fun v hv=>V.mono hF hρ (aGp hd m' hv)) hv)
     exact⟨⟨ρ,φ,m2,(q2.mono f1 (fun _ _ h=>h)).mono f3 (fun _ _ h=>h),q3⟩,hr.pn⟩
    ·cases hg
   ·cases hg
  ·cases hg
theorem F6:∀ {gs:List G} {σ σ':St},uE gs σ=some σ'→Le n σ σ'
 | [],σ,σ',h=>by cases h;exact Le.refl _
 | g::gs,σ,σ',h=>by
  simp only[uE]at h
  split at h
  ·rename_i σ1 h1
   exact Le.trans (aHs h1) (F6 h)
  ·cases h
/-! ### To a state that is written out -/
theorem aHN{g:G}{σ σ':St}(h:oH g σ=some σ'):σ'.pn=σ.pn:=by
 unfold oH at h
 split at h
 all_goals repeat' (split at h)
 all_goals first
  | (cases h;rfl)
  | cases h
theorem aAN:∀ {gs:List G} {σ σ':St},uE gs σ=some σ'→σ'.pn=σ.pn
 | [],σ,σ',h=>by cases h;rfl
 | g::gs,σ,σ',h=>by
  simp only[uE]at h
  split at h
  ·rename_i σ1 h1
   rw[aAN h,aHN h1]
  ·cases h
def fnL(f:List Nat)(i:Nat):Nat:=f.getD i 0
def aBs(gs:List G)(f:List Nat)(l:List (Nat×AVal))(m:List (Nat×Obj))(σ:St):Option (List AVal×List (Option Obj)) :=
 match uE gs σ with
 | some σ'=>some (l.map (fun p=>σ'.s p.1),m.map (fun p=>σ'.h (fnL f p.1)))
 | none=>none
def sY(f:List Nat)(l:List (Nat×AVal))(m:List (Nat×Obj)):List AVal×List (Option Obj) :=
 (l.map (fun p=>oX (fnL f) p.2),m.map (fun p=>some (qY (fnL f) p.2)))
theorem SameS.of{f:Nat→Nat}{s:Nat→AVal}:∀ {l:List (Nat×AVal)},l.map (fun p=>s p.1)=l.map (fun p=>oX f p.2)→SameS f s l
 | [],_=>trivial
 | (t,x)::r,h=>by simp only[List.map_cons,List.cons.injEq]at h;exact⟨h.1,SameS.of h.2⟩
theorem SameO.of{f:Nat→Nat}{s:Nat→Option Obj}:∀ {l:List (Nat×Obj)},l.map (fun p=>s (f p.1))=l.map (fun p=>some (qY f p.2))→SameO f s l
 | [],_=>trivial
 | (t,x)::r,h=>by simp only[List.map_cons,List.cons.injEq]at h;exact⟨h.1,SameO.of h.2⟩
theorem M6{gs:List G}{f:List Nat}{l:List (Nat×AVal)}{m:List (Nat×Obj)}{nx pn:Nat}(h:aBs gs f l m σ=some (sY f l m))(hok:(σ.pn == pn && o8 (fnL f) l m nx pn)=true):Le n σ (aM l m nx pn):=by
 simp only[Bool.and_eq_true,beq_iff_eq]at hok
 obtain⟨rfl,hok⟩:=hok
 unfold aBs at h
 split at h
 ·rename_i σ1 h1
  simp only[sY,Option.some.injEq,Prod.mk.injEq]at h
  have e:=aAN h1
  rw[←e]at hok ⊢
  exact Le.trans (F6 h1) (aK3 (fnL f) (SameS.of h.1) (SameO.of h.2) hok)
 ·cases h
def aLO(gs:List G)(f:List Nat)(l:List (Nat×AVal))(m:List (Nat×Obj))(nx pn:Nat)(r:Option ((Nat→AVal)×(Nat→Option Obj)×List Prop)):Option ((List AVal×List (Option Obj))×List Prop) :=
 match r with
 | some (s,h,cs)=>match aBs gs f l m ⟨s,h,nx,pn⟩with
  | some q=>some (q,cs)
  | none=>none
 | none=>none
variable{Q:Exit→St→Prop}{tb:Tab}
def aC1(gs:List G)(f:List Nat)(l:List (Nat×AVal))(m:List (Nat×Obj))(nx pn:Nat)(r:Option ((Nat→AVal)×(Nat→Option Obj)×List Prop×Value)):Option ((List AVal×List (Option Obj))×List Prop×Value) :=
 match r with
 | some (s,h,cs,y)=>match aBs gs f l m ⟨s,h,nx,pn⟩with
  | some q=>some (q,cs,y)
  | none=>none
 | none=>none
theorem aJh(htb:TabOK P tb)(an:An)(r:Nat)(y:Value){id:Nat}{ops:Array Oper}(gs:List G)(f:List Nat)(l:List (Nat×AVal))(m:List (Nat×Obj))(nx pn:Nat)(cs:List Prop)
  (hr:aC1 gs f l m (σ.nx+8*ops.size) σ.pn (uY P tb an n σ.nx ops r ops.toList 0 σ.s σ.h)=some (sY f l m,cs,y)) (hok:(σ.pn == pn && o8 (fnL f) l m nx pn)=true) (hc:u5 cs)
  (hq:∀σ',Le n σ' (aM l m nx pn)→Q (.panic [{ v:=y,recovered:=false }]) σ'):W P n Bw w0 (.region id ops false) σ Q:=by
 unfold aC1 at hr
 split at hr
 ·rename_i s h cs' y' hr'
  split at hr
  ·rename_i q hg
   cases hr
   exact J7 htb an r hr' hc (hq _ (M6 hg hok))
  ·cases hr
 ·cases hr
theorem aK{id:Nat}{σ1:St}(h:∀σ',Le n σ' σ1→Q .normal σ'):∀σ',Le n σ' σ1→n6 id Q .normal σ':=h
theorem aGy{id:Nat}(h:Q .normal σ):n6 id Q (.exit id) σ:=by simp only[n6,if_true];exact h
theorem aGC{id k:Nat}(hne:(k == id)=false)(h:Q (.exit k) σ):n6 id Q (.exit k) σ:=by simp only[n6];rw[if_neg (by simpa using hne)];exact h
theorem aE{d:Code}(h:Q .ret σ):aAW P n Bw w0 d Q .ret σ:=h
theorem aN{id:Nat}(h:Q .ret σ):n6 id Q .ret σ:=h
theorem aD{rs:List ResultVar}{vals:List (Σ T:Ty,T.den)}(Ts:List Ty)(h:(match L7 tb σ.s σ.h rs with | some xs=>rC σ.h xs Ts | none=>none)=some vals):Ret tb rs vals .ret σ:=by
 split at h
 ·rename_i xs hx
  exact⟨xs,Ts,hx,h⟩
 ·cases h
end
/-! ### Loops as functions -/
def j9{S T:Type}(body:S→Option (S⊕T)):Nat→S→Option T
 | 0,_=>none
 | k+1,s=>match body s with
  | some (.inl s')=>j9 body k s'
  | some (.inr r)=>some r
  | none=>none
open Classical in
noncomputable def iterC {S T:Type} (body:S→Option (S⊕T)) (s:S):Option T :=
 if h:∃r,∃k,j9 body k s=some r then some h.choose else none
noncomputable def iter {S T:Type} (body:S→Option (S⊕T)) (s:S):Option T :=
 match j9 body 1000000 s with
 | some r=>some r
 | none=>iterC body s
theorem xR{S T:Type}{body:S→Option (S⊕T)}:∀ {k:Nat} {s:S} {r:T},j9 body k s=some r→∀j,j9 body (k+j) s=some r
 | 0,_,_,h,_=>by cases h
 | k+1,s,r,h,j=>by
  rw[Nat.add_right_comm]
  simp only[j9]at h ⊢
  split at h
  ·exact xR h j
  ·exact h
  ·cases h
theorem aCP{S T:Type}{body:S→Option (S⊕T)}{k:Nat}{s:S}{r:T}(h:j9 body k s=some r):iterC body s=some r:=by
 have hex:∃r,∃k,j9 body k s=some r:=⟨r,k,h⟩
 unfold iterC
 rw[dif_pos hex]
 obtain⟨j,hj⟩:=hex.choose_spec
 have h1:=xR h j
 have h2:=xR hj k
 rw[Nat.add_comm]at h2
 rw[h1]at h2
 exact h2.symm
theorem aEv{S T:Type}{body:S→Option (S⊕T)}{s:S}{r:T}(h:iterC body s=some r):∃k,j9 body k s=some r:=by
 unfold iterC at h
 split at h
 ·rename_i hex
  cases h
  exact hex.choose_spec
 ·cases h
theorem aG1{S T:Type}(body:S→Option (S⊕T))(s:S):iter body s=iterC body s:=by
 unfold iter
 generalize 1000000=n
 cases h:j9 body n s with
 | none=>rfl
 | some r=>exact(aCP h).symm
theorem aBO{S T:Type}{body:S→Option (S⊕T)}{k:Nat}{s:S}{r:T}(h:j9 body k s=some r):iter body s=some r:=by
 rw[aG1];exact aCP h
theorem pZ{S T:Type}{body:S→Option (S⊕T)}{s:S}{r:T}(h:iter body s=some r):∃k,j9 body k s=some r:=by
 rw[aG1]at h;exact aEv h
theorem rS{S T:Type}(body:S→Option (S⊕T))(s:S):iter body s=match body s with
  | some (.inl s')=>iter body s'
  | some (.inr r)=>some r
  | none=>none:=by
 cases hb:body s with
 | none =>
  cases hi:iter body s with
  | none=>rfl
  | some r =>
   obtain⟨k,hk⟩:=pZ hi
   cases k with
   | zero=>cases hk
   | succ k=>simp[j9,hb]at hk
 | some o =>
  cases o with
  | inr r=>exact aBO (k:=1) (by simp[j9,hb])
  | inl s' =>
   simp only
   cases hi:iter body s' with
   | some r =>
    obtain⟨k,hk⟩:=pZ hi
    exact aBO (k:=k+1) (by simp[j9,hb,hk])
   | none =>
    cases hj:iter body s with
    | none=>rfl
    | some r =>
     obtain⟨k,hk⟩:=pZ hj
     cases k with
     | zero=>cases hk
     | succ k =>
      simp only[j9,hb]at hk
      rw[aBO hk]at hi
      cases hi
section
variable{P:Program}{n:NS}{Bw:Nat→Prop}{w0:Base P}{σ:St}
def sD{S T:Type}(n:NS)(f:S→St)(Q:T→Exit→St→Prop):S⊕T→Exit→St→Prop
 | .inl y,.normal,σ=>Le n σ (f y)
 | .inl _,_,_=>False
 | .inr _,.normal,_=>False
 | .inr r,e,σ=>Q r e σ
theorem aJt{S T:Type}{body:S→Option (S⊕T)}{c:Code}(f:S→St)(Q:T→Exit→St→Prop){x:S}{r:T}(h:iter body x=some r)(hl:Le n σ (f x))
  (step:∀y o,body y=some o→W P n Bw w0 c (f y) (sD n f Q o)):W P n Bw w0 (.loop c) σ (Q r):=by
 obtain⟨k,hk⟩:=pZ h
 refine aJI (fun k x=>j9 body k x=some r) f (fun k y hy=> ?_) hk hl
 cases k with
 | zero=>cases hy
 | succ k =>
  simp only[j9]at hy
  cases hb:body y with
  | none=>rw[hb]at hy;cases hy
  | some o =>
   rw[hb]at hy
   refine(step y o hb).mono fun e σ' hq=> ?_
   cases o with
   | inl z =>
    cases e with
    | normal=>exact⟨k,z,Nat.lt_succ_self k,hy,hq⟩
    | _=>exact hq.elim
   | inr r' =>
    cases hy
    cases e with
    | normal=>exact hq.elim
    | _=>exact hq
theorem bX{S T:Type}{f:S→St}{Q:T→Exit→St→Prop}{r:T}(h:Q r .ret σ):sD n f Q (.inr r) .ret σ:=h
end
/-! ### Steps in a printed function -/
section
variable{α β:Type}
theorem aLg{c:Prop}[Decidable c]{x y:Option α}{r:α}(hc:c)(h:(if c then x else y)=some r):x=some r:=by rw[if_pos hc]at h;exact h
theorem aJz{b:Bool}{x y:Option α}{r:α}(hb:b=false)(h:(if b=true then x else y)=some r):y=some r:=by rw[hb]at h;exact h
theorem aS{c:Prop}[Decidable c]{x:Option α}{r:α}(h:(if c then x else none)=some r):c∧x=some r:=by
 split at h
 ·exact⟨by assumption,h⟩
 ·cases h
theorem aG{m:Option β}{f:β→Option α}{r:α}(h:m.bind f=some r):∃b,m=some b∧f b=some r:=by
 cases m with
 | none=>cases h
 | some b=>exact⟨b,rfl,h⟩
end
/-! ### Ends that are come to up to a smaller state -/
section
variable{P:Program}{tb:Tab}{n:NS}{Bw:Nat→Prop}{w0:Base P}{σ σ1:St}{Q:Exit→St→Prop}{S T U:Type}
theorem aB(h:∀σ',Le n σ' σ→Q .normal σ'):W P n Bw w0 .skip σ Q:=aJY (h σ (Le.refl σ))
theorem aH{id:Nat}(h:∀σ',Le n σ' σ→Q (.exit id) σ'):W P n Bw w0 (.exit id) σ Q:=aJR (h σ (Le.refl σ))
theorem aY{d:Code}{k:Nat}(h:∀σ',Le n σ' σ1→Q (.exit k) σ'):∀σ',Le n σ' σ1→aAW P n Bw w0 d Q (.exit k) σ':=fun σ' hl=>h σ' hl
theorem aJ{id:Nat}(h:∀σ',Le n σ' σ1→Q .normal σ'):∀σ',Le n σ' σ1→n6 id Q (.exit id) σ':=fun σ' hl=>aGy (h σ' hl)
theorem kP{id k:Nat}(hne:(k == id)=false)(h:∀σ',Le n σ' σ1→Q (.exit k) σ'):∀σ',Le n σ' σ1→n6 id Q (.exit k) σ':=fun σ' hl=>aGC hne (h σ' hl)
theorem eR{f:S→St}{Q:T→Exit→St→Prop}{r:T}{k:Nat}(h:∀σ',Le n σ' σ1→Q r (.exit k) σ'):∀σ',Le n σ' σ1→sD n f Q (.inr r) (.exit k) σ':=fun σ' hl=>h σ' hl
theorem aJS{f:S→St}{Q:T→Exit→St→Prop}{y:S}(h:Le n σ1 (f y)):∀σ',Le n σ' σ1→sD n f Q (.inl y) .normal σ':=fun _ hl=>Le.trans hl h
theorem dH{e:Exit}(h:∀σ',Le n σ' σ1→Q e σ')(hl:Le n σ σ1):Q e σ:=h σ hl
def sT(n:NS)(f:T→St)(v:T)(e:Exit)(σ:St):Prop:=e = .normal∧Le n σ (f v)
def fV(n:NS)(k:Nat)(f:T→St)(v:T)(e:Exit)(σ:St):Prop:=e = .exit k∧Le n σ (f v)
def iC(tb:Tab)(rs:List ResultVar)(g:T→List (Σ T:Ty,T.den))(v:T)(e:Exit)(σ:St):Prop:=e = .ret∧Ret tb rs (g v) .ret σ
def eI(A:T→Exit→St→Prop)(B:U→Exit→St→Prop):T⊕U→Exit→St→Prop
 | .inl x=>A x
 | .inr y=>B y
theorem dI{f:T→St}{v:T}(h:Le n σ1 (f v)):∀σ',Le n σ' σ1→sT n f v .normal σ':=fun _ hl=>⟨rfl,Le.trans hl h⟩
theorem b8{k:Nat}{f:T→St}{v:T}(h:Le n σ1 (f v)):∀σ',Le n σ' σ1→fV n k f v (.exit k) σ':=fun _ hl=>⟨rfl,Le.trans hl h⟩
theorem bW{rs:List ResultVar}{g:T→List (Σ T:Ty,T.den)}{v:T}(h:Ret tb rs (g v) .ret σ):iC tb rs g v .ret σ:=⟨rfl,h⟩
theorem bI{A:T→Exit→St→Prop}{B:U→Exit→St→Prop}{x:T}{e:Exit}(h:∀σ',Le n σ' σ1→A x e σ'):∀σ',Le n σ' σ1→eI A B (.inl x) e σ':=h
theorem aDH{A:T→Exit→St→Prop}{B:U→Exit→St→Prop}{x:T}{e:Exit}(h:A x e σ):eI A B (.inl x) e σ:=h
theorem aU{A:T→Exit→St→Prop}{B:U→Exit→St→Prop}{y:U}{e:Exit}(h:B y e σ):eI A B (.inr y) e σ:=h
def yV(g:T→Value)(v:T)(e:Exit)(_:St):Prop:=e = .panic [{ v:=g v,recovered:=false }]
theorem aQ{d:Code}{ch:List PanicEntry}(h:Q (.panic ch) σ):aAW P n Bw w0 d Q (.panic ch) σ:=h
theorem bN{id:Nat}{ch:List PanicEntry}(h:Q (.panic ch) σ):n6 id Q (.panic ch) σ:=h
theorem b9{f:S→St}{Q:T→Exit→St→Prop}{r:T}{ch:List PanicEntry}(h:Q r (.panic ch) σ):sD n f Q (.inr r) (.panic ch) σ:=h
end
end Go.Tv
