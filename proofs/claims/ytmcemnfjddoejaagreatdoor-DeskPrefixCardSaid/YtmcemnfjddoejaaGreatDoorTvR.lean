/- Rules for printed proofs: regions to a given state, loops as functions. -/
import Derived.Test.YtmcemnfjddoejaaGreatDoorTvPm
namespace Go.Tv
open Go Go.RowKit
/-! ### Ghost steps -/
inductive G where
 | nilS (t id:Nat) (e:TypeId) (A:Ty)
 | nilC (b k id:Nat) (e:TypeId) (A:Ty)
 | nilSp (t:Nat) (A:Ty)
 | nilCp (b k:Nat) (A:Ty)
 | frzS (t:Nat)
 | frzC (b k:Nat)
 | weakS (t:Nat)
 | shut (id:Nat)
 | toB (id:Nat)
 | frzL (b k:Nat)
 | nilCq (b k:Nat) (A:Ty)
def ghost(g:G)(σ:St):Option St :=
 match g with
 | .nilS t id e A=>match σ.s t with
  | .nils=>if σ.nx≤id∧0<A.size then some ⟨bH σ.s t (.sl id),bH σ.h id (some (.arr e A [])),id+1,σ.pn⟩else none
  | _=>none
 | .nilC b k id e A=>match σ.h b with
  | some (.box cs)=>match cs[k]? with
   | some .nils=>if σ.nx≤id∧0<A.size∧b≠id then some ⟨σ.s,bH (bH σ.h id (some (.arr e A []))) b (some (.box (cs.set k (.sl id)))),id+1,σ.pn⟩else none
   | _=>none
  | _=>none
 | .nilSp t A=>match σ.s t with
  | .nils=>some ⟨bH σ.s t (.p false (.slice A) []),σ.h,σ.nx,σ.pn⟩
  | _=>none
 | .nilCp b k A=>match σ.h b with
  | some (.box cs)=>match cs[k]? with
   | some .nils=>some ⟨σ.s,bH σ.h b (some (.box (cs.set k (.p false (.slice A) [])))),σ.nx,σ.pn⟩
   | _=>none
  | _=>none
 | .nilCq b k A=>match σ.h b with
  | some (.box cs)=>match cs[k]? with
   | some .nilp=>some ⟨σ.s,bH σ.h b (some (.box (cs.set k (.p false (.ptr A) none)))),σ.nx,σ.pn⟩
   | _=>none
  | _=>none
 | .frzS t=>match eW σ.h (σ.s t)with
  | some (y,u)=>some ⟨bH σ.s t y,apply u σ.h,σ.nx,σ.pn⟩
  | none=>none
 | .frzC b k=>match σ.h b with
  | some (.box cs)=>match cs[k]? with
   | some x=>match eW σ.h x with
    | some (y,u)=>some ⟨σ.s,bH (apply u σ.h) b (some (.box (cs.set k y))),σ.nx,σ.pn⟩
    | none=>none
   | none=>none
  | _=>none
 | .weakS t=>match σ.s t with
  | .p false T x=>some ⟨bH σ.s t (.p true T x),σ.h,σ.nx,σ.pn⟩
  | _=>none
 | .shut id=>match σ.h id with
  | some (.mat e m A c (some (k,j)))=>match σ.h j with
   | some (.arr v B z)=>if q:B=A then(if v=m then some ⟨σ.s,bH (bH σ.h j none) id (some (.mat e m A (c.set k (q ▸ z:List A.den)) none)),σ.nx,σ.pn⟩else none)else none
   | _=>none
  | _=>none
 | .toB id=>match σ.h id with
  | some (.arr e (.int .u8) f)=>some ⟨σ.s,bH σ.h id (some (.bytes e f)),σ.nx,σ.pn⟩
  | _=>none
 | .frzL b k=>match σ.h b with
  | some (.lmp C n f cs)=>match cs[k]? with
   | some x=>match eW σ.h x with
    | some (y,u)=>some ⟨σ.s,bH (apply u σ.h) b (some (.lmp C n f (cs.set k y))),σ.nx,σ.pn⟩
    | none=>none
   | none=>none
  | _=>none
def pJ:List G→St→Option St
 | [],σ=>some σ
 | g::c,σ=>match ghost g σ with
  | some σ'=>pJ c σ'
  | none=>none
section
variable{P:Program}{n:NS}{Bw:Nat→Prop}{w0:b9 P}{w:World}{σ σ':St}{ρ:Nat→Option Value}{φ:Nat→Nat→Prop}{h:Nat→Option Obj}
theorem nH(row:Option Nat):w.grownBy w row:=⟨rfl,rfl,rfl,Nat.le_refl _,fun _ _ _=>rfl⟩
theorem Mem.Ez(m:Mem Bw w0 ρ φ h w){b:Nat}{cs cs':List ag}(hb:h b=some (.box cs))(hl:cs'.length=cs.length)
  (J:∀F' ρ' (g:Nat→Value→Prop),(∀β a v,Fr (own φ h) Bw w β a v→F' β a v)→(∀i u,ρ i=some u→ρ' i=some u)→VL (Fr (own φ h) Bw w) ρ cs g→VL F' ρ' cs' g) :
  Mem Bw w0 ρ φ (bH h b (some (.box cs'))) w∧∀β a v,Fr (own φ h) Bw w β a v→Fr (own φ (bH h b (some (.box cs')))) Bw w β a v:=by
 obtain⟨u,D,g,t,cells,rfl,L,M,N,O⟩:=m.ob b _ hb;have B:bH ρ b (some (.pointer (some ⟨g,0,none⟩)))=ρ:=by
  funext i;by_cases e:i=b
  ·subst e;rw[aw,D]
  ·rw[aB _ _ e]
 have j:bH φ b (φ b)=φ:=by
  funext i;by_cases e:i=b
  ·subst e;rw[aw]
  ·rw[aB _ _ e]
 obtain⟨E,I,_⟩:=m.put (w':=w) (some b) b (.box cs') (.pointer (some ⟨g,0,none⟩)) (φ b) none (nH _) (fun k z=>by cases z) (.inr ⟨rfl,D⟩)
  (fun _ k z=>m.lt b _ k hb rfl z) (fun _ k z=> .inr ⟨b,_,rfl,hb,rfl,z⟩)
  (fun F' ρ' R C=>⟨g,t,cells,rfl,L,M,by rw[N,hl],J F' ρ' _ R C O⟩)
 rw[B,j,aZ]at E;rw[j,aZ]at I;exact⟨E,I⟩
theorem Mem.Kz(m:Mem Bw w0 ρ φ h w){b:Nat}{C:IntKind}{j:Nat}{xs:ep j}{cs cs':List ag}(hb:h b=some (.lmp C j xs cs))(hl:cs'.length=cs.length)
  (M:∀F' ρ' (g:Nat→Value→Prop),(∀β a v,Fr (own φ h) Bw w β a v→F' β a v)→(∀i u,ρ i=some u→ρ' i=some u)→VL (Fr (own φ h) Bw w) ρ cs g→VL F' ρ' cs' g) :
  Mem Bw w0 ρ φ (bH h b (some (.lmp C j xs cs'))) w∧∀β a v,Fr (own φ h) Bw w β a v→Fr (own φ (bH h b (some (.lmp C j xs cs')))) Bw w β a v:=by
 obtain⟨u,I,g,t,cells,rfl,N,O,R,V,X⟩:=m.ob b _ hb;have D:bH ρ b (some (.pointer (some ⟨g,0,none⟩)))=ρ:=by
  funext i;by_cases e:i=b
  ·subst e;rw[aw,I]
  ·rw[aB _ _ e]
 have z:bH φ b (φ b)=φ:=by
  funext i;by_cases e:i=b
  ·subst e;rw[aw]
  ·rw[aB _ _ e]
 obtain⟨J,L,_⟩:=m.put (w':=w) (some b) b (.lmp C j xs cs') (.pointer (some ⟨g,0,none⟩)) (φ b) none (nH _) (fun k B=>by cases B) (.inr ⟨rfl,I⟩)
  (fun _ k B=>m.lt b _ k hb rfl B) (fun _ k B=> .inr ⟨b,_,rfl,hb,rfl,B⟩)
  (fun F' ρ' Y E=>⟨g,t,cells,rfl,N,O,by rw[R,hl],V,M F' ρ' _ Y E X⟩)
 rw[D,z,aZ]at J;rw[z,aZ]at L;exact⟨J,L⟩
theorem ES{x y:ag}{u:hZ}(e:eW h x=some (y,u))(j:Mem Bw w0 ρ φ (apply u h) w){v:Value}(m:V (Fr (own φ (apply u h)) Bw w) ρ x v):V (Fr (own φ (apply u h)) Bw w) ρ y v:=by
 unfold eW at e;split at e
 ·rename_i id;simp only[V]at m;obtain⟨k,_⟩:=m;split at e
  ·rename_i A q hi;cases e;obtain⟨p,c,f⟩:=j.ob id _ (by simp only[apply];exact aw _ _ _);rw[k]at c;cases c;exact f
  ·rename_i A q hi;cases e;obtain⟨p,c,f⟩:=j.ob id _ hi;rw[k]at c;cases c;exact f
  ·rename_i z C A B hi;cases e;obtain⟨p,c,f⟩:=j.ob id _ (by simp only[apply];exact aw _ _ _);rw[k]at c;cases c;exact f
  ·rename_i z q hi;cases e;obtain⟨p,c,f⟩:=j.ob id _ (by simp only[apply];exact aw _ _ _);rw[k]at c;cases c;exact f
  ·cases e
 ·cases e;exact m
theorem Mem.He(m:Mem Bw w0 ρ φ h w){id:Nat}(C:ρ id=none)(e:TypeId){A:Ty}(hA:0<A.size):
  Mem Bw w0 (bH ρ id (some (.slice none 0 0))) (bH φ id (fun _=>False)) (bH h id (some (.arr e A []))) w ∧
  (∀β a v,Fr (own φ h) Bw w β a v→Fr (own (bH φ id (fun _=>False)) (bH h id (some (.arr e A [])))) Bw w β a v) ∧
  (∀i u,ρ i=some u→bH ρ id (some (.slice none 0 0)) i=some u):=by
 obtain⟨z,B,D⟩:=m.put (w':=w) none id (.arr e A []) (.slice none 0 0) (fun _=>False) none (nH _) (fun k j=>by cases j) (.inl C) (fun _ k j=>j.elim) (fun _ k j=>j.elim)
  (fun F' ρ' I E=>⟨fun k j=>by simp[iB]at j,hA,[],World.ownsRow_nil w 0 e _,fun i hi=>absurd hi (by simp)⟩)
 rw[bn]at z B;exact⟨z,B,D⟩
theorem bP.bH{F:Bool→Addr→Value→Prop}{s:Nat→ag}{a:Act}(f:bP n F ρ s a){t:Nat}{y:ag}(j:∀v,V F ρ (s t) v→V F ρ y v):bP n F ρ (Tv.bH s t y) a :=
 ⟨f.tm,f.df,fun k=>by
  by_cases e:k=t
  ·subst e;rw[aw];exact j _ (f.sl k)
  ·rw[aB _ _ e];exact f.sl k⟩
theorem Aa{F F':Bool→Addr→Value→Prop}{ρ c:Nat→Option Value}(C:∀β a v,F β a v→F' β a v)(m:∀i u,ρ i=some u→c i=some u){cs:List ag}{k:Nat}{x y:ag}(B:cs[k]? = some x)(D:∀v,V F ρ x v→V F' c y v){g:Nat→Value→Prop}(h:VL F ρ cs g):
  VL F' c (cs.set k y) g:=VL.mk fun j z f=>by
 by_cases e:k=j
 ·subst e;have p:k<cs.length:=(List.getElem?_eq_some_iff.1 B).1;rw[List.getElem?_set_self p]at f;cases f;obtain⟨u,q,A⟩:=VL.get h B;exact⟨u,q,D u A⟩
 ·rw[List.getElem?_set_ne e]at f;obtain⟨u,q,A⟩:=VL.get h f;exact⟨u,q,V.mono C m A⟩
theorem FR{F:Bool→Addr→Value→Prop}{ρ:Nat→Option Value}{A:Ty}{v:Value}(h:V F ρ .nilp v):V F ρ (.p false (.ptr A) none) v:=by
 simp only[V]at h;subst h;simp only[V,ai];exact⟨rfl,trivial⟩
theorem Cb{F:Bool→Addr→Value→Prop}{A:Ty}{v:Value}(c:V F ρ .nils v):V F ρ (.p false (.slice A) []) v:=by
 simp only[V]at c ⊢;exact⟨rfl,none,0,0,c.symm,⟨rfl,Nat.le_refl _⟩,fun i hi=>absurd hi (by simp)⟩
theorem GB{g:G}(c:ghost g σ=some σ'):Le n σ σ':=fun P Bw w0 a w N=>by
 obtain⟨ρ,φ,O,I,J⟩:=N.ex;cases g with
 | nilS t id e A =>
  simp only[ghost]at c;split at c
  ·rename_i hs;split at c
   ·rename_i hc;cases c;have hn:ρ id=none:=by
     cases hq:ρ id with
     | none=>rfl
     | some u=>have:=J id u hq;omega
    obtain⟨D,L,f2⟩:=O.He hn e hc.2;refine⟨⟨_,_,D,(I.mono L f2).bH fun v m=> ?_,fun i u hu=> ?_⟩,N.pn⟩
    ·rw[hs]at m;simp only[V]at m ⊢;subst m;exact⟨aw _ _ _,_,_,_,rfl⟩
    ·by_cases e:i=id
     ·subst e;simp only;omega
     ·rw[aB _ _ e]at hu;have:=J i u hu;simp only;omega
   ·cases c
  ·cases c
 | nilC b k id e A =>
  simp only[ghost]at c;split at c
  ·rename_i cs hb;split at c
   ·rename_i X;split at c
    ·rename_i hc;cases c;have hn:ρ id=none:=by
      cases hq:ρ id with
      | none=>rfl
      | some u=>have:=J id u hq;omega
     obtain⟨D,L,f2⟩:=O.He hn e hc.2.1;obtain⟨Z,f3⟩:=D.Ez (b:=b) (cs:=cs) (cs':=cs.set k (.sl id)) (by rw[aB _ _ hc.2.2];exact hb) (by simp) (fun F' a1 g M C m=>Aa M C X (fun v m=>by
      simp only[V]at m ⊢;subst m;exact⟨C _ _ (aw _ _ _),_,_,_,rfl⟩) m)
     refine⟨⟨_,_,Z,(I.mono L f2).mono f3 (fun _ _ h=>h),fun i u hu=> ?_⟩,N.pn⟩;by_cases e:i=id
     ·subst e;simp only;omega
     ·rw[aB _ _ e]at hu;have:=J i u hu;simp only;omega
    ·cases c
   ·cases c
  ·cases c
 | nilSp t A =>
  simp only[ghost]at c;split at c
  ·rename_i hs;cases c;exact⟨⟨ρ,φ,O,I.bH fun v m=>by rw[hs]at m;exact Cb m,J⟩,N.pn⟩
  ·cases c
 | nilCq b k A =>
  simp only[ghost]at c;split at c
  ·rename_i cs hb;split at c
   ·rename_i X;cases c;obtain⟨Z,f3⟩:=O.Ez (b:=b) (cs:=cs) (cs':=cs.set k (.p false (.ptr A) none)) hb (by simp) (fun F' a1 g M C m=>Aa M C X (fun v m=>V.mono M C (FR m)) m);exact⟨⟨ρ,φ,Z,I.mono f3 (fun _ _ h=>h),J⟩,N.pn⟩
   ·cases c
  ·cases c
 | nilCp b k A =>
  simp only[ghost]at c;split at c
  ·rename_i cs hb;split at c
   ·rename_i X;cases c;obtain⟨Z,f3⟩:=O.Ez (b:=b) (cs:=cs) (cs':=cs.set k (.p false (.slice A) [])) hb (by simp) (fun F' a1 g M C m=>Aa M C X (fun v m=>V.mono M C (Cb m)) m);exact⟨⟨ρ,φ,Z,I.mono f3 (fun _ _ h=>h),J⟩,N.pn⟩
   ·cases c
  ·cases c
 | frzS t =>
  simp only[ghost]at c;split at c
  ·rename_i y u f;cases c;obtain⟨D,L,g1⟩:=gy O f;refine⟨⟨ρ,φ,D,⟨I.tm,I.df,fun k=> ?_⟩,J⟩,N.pn⟩;by_cases e:k=t
   ·subst e;simp only[aw];exact g1 _ (I.sl k)
   ·simp only[aB _ _ e];exact V.mono L (fun _ _ h=>h) (I.sl k)
  ·cases c
 | frzC b k =>
  simp only[ghost]at c;split at c
  ·rename_i cs hb;split at c
   ·rename_i x X;split at c
    ·rename_i y u f;cases c;obtain⟨D,L,g1⟩:=gy O f;have a2:apply u σ.h b=some (.box cs):=by
      rw[fj,hb];intro p E e;unfold eW at f;split at f
      ·split at f
       ·rename_i id A xs hi;cases f;simp at E;subst E;simp only at e;subst e;rw[hb]at hi;cases hi
       ·cases f;simp at E
       ·rename_i id te e2 A a3 hi;cases f;simp at E;subst E;simp only at e;subst e;rw[hb]at hi;cases hi
       ·rename_i id te xs hi;cases f;simp at E;subst E;simp only at e;subst e;rw[hb]at hi;cases hi
       ·cases f
      ·cases f;simp at E
     obtain⟨Z,f3⟩:=D.Ez (b:=b) (cs:=cs) (cs':=cs.set k y) a2 (by simp) (fun F' a1 g M C m=>by
      obtain⟨u',r1,g',t,cells,e,sg,s1,s2,s3⟩:=O.ob b _ hb;refine VL.mk fun j z hj=> ?_
      by_cases e:k=j
      ·subst e;have a4:k<cs.length:=(List.getElem?_eq_some_iff.1 X).1;rw[List.getElem?_set_self a4]at hj;cases hj;obtain⟨v,t1,Y⟩:=VL.get m X;refine⟨v,t1,V.mono M C ?_⟩;unfold eW at f;split at f
       ·rename_i id;simp only[V]at Y;obtain⟨Y,_⟩:=Y;split at f
        ·rename_i A xs hi;cases f;obtain⟨v2,R,p2⟩:=D.ob id _ (by simp only[apply];exact aw _ _ _);rw[Y]at R;cases R;exact p2
        ·rename_i A xs hi;cases f;obtain⟨v2,R,p2⟩:=D.ob id _ hi;rw[Y]at R;cases R;exact p2
        ·rename_i te e2 A a3 hi;cases f;obtain⟨v2,R,p2⟩:=D.ob id _ (by simp only[apply];exact aw _ _ _);rw[Y]at R;cases R;exact p2
        ·rename_i te xs hi;cases f;obtain⟨v2,R,p2⟩:=D.ob id _ (by simp only[apply];exact aw _ _ _);rw[Y]at R;cases R;exact p2
        ·cases f
       ·cases f;exact Y
      ·rw[List.getElem?_set_ne e]at hj;obtain⟨v,t1,Y⟩:=VL.get m hj;exact⟨v,t1,V.mono M C Y⟩)
     exact⟨⟨ρ,φ,Z,(I.mono L (fun _ _ h=>h)).mono f3 (fun _ _ h=>h),J⟩,N.pn⟩
    ·cases c
   ·cases c
  ·cases c
 | weakS t =>
  simp only[ghost]at c;split at c
  ·rename_i T x hs;cases c;refine⟨⟨ρ,φ,O,I.bH fun v m=> ?_,J⟩,N.pn⟩;rw[hs]at m;simp only[V]at m ⊢;exact⟨m.1,ai.mono (fun a v hh=>⟨hh.1,fun e=>(by cases e),hh.2.2⟩) (fun _ _ h=>h) m.2⟩
  ·cases c
 | shut id =>
  simp only[ghost]at c;split at c
  ·rename_i e e2 A a3 k j hi;split at c
   ·rename_i e3 B ys hj;split at c
    ·rename_i q;subst q;split at c
     ·rename_i he;subst he;cases c;obtain⟨D,L⟩:=O.xI hi hj;exact⟨⟨ρ,_,D,I.mono L (fun _ _ h=>h),J⟩,N.pn⟩
     ·cases c
    ·cases c
   ·cases c
  ·cases c
 | toB id =>
  simp only[ghost]at c;split at c
  ·rename_i e xs hi;cases c;obtain⟨D,L⟩:=O.Ef hi;exact⟨⟨ρ,φ,D,I.mono L (fun _ _ h=>h),J⟩,N.pn⟩
  ·cases c
 | frzL b k =>
  simp only[ghost]at c;split at c
  ·rename_i kk nn xs cs hb;split at c
   ·rename_i x X;split at c
    ·rename_i y u f;cases c;obtain⟨D,L,g1⟩:=gy O f;have a2:apply u σ.h b=some (.lmp kk nn xs cs):=by
      rw[fj,hb];intro p E e;unfold eW at f;split at f
      ·split at f
       ·rename_i id te A a5 hi;cases f;simp at E;subst E;simp only at e;subst e;rw[hb]at hi;cases hi
       ·cases f;simp at E
       ·rename_i id te e2 A a3 hi;cases f;simp at E;subst E;simp only at e;subst e;rw[hb]at hi;cases hi
       ·rename_i id te a5 hi;cases f;simp at E;subst E;simp only at e;subst e;rw[hb]at hi;cases hi
       ·cases f
      ·cases f;simp at E
     obtain⟨Z,f3⟩:=D.Kz (b:=b) (cs:=cs) (cs':=cs.set k y) a2 (by simp) (fun F' a1 g M C m=>Aa M C X (fun v m=>V.mono M C (ES f D m)) m);exact⟨⟨ρ,φ,Z,(I.mono L (fun _ _ h=>h)).mono f3 (fun _ _ h=>h),J⟩,N.pn⟩
    ·cases c
   ·cases c
  ·cases c
theorem uc:∀ {e:List G} {σ σ':St},pJ e σ=some σ'→Le n σ σ'
 | [],σ,σ',h=>by cases h;exact Le.refl _
 | g::e,σ,σ',h=>by
  simp only[pJ]at h;split at h
  ·rename_i σ1 j;exact Le.trans (GB j) (uc h)
  ·cases h
/-! ### k a c f m written out -/
theorem HK{g:G}{σ σ':St}(h:ghost g σ=some σ'):σ'.pn=σ.pn:=by
 unfold ghost at h;split at h
 all_goals repeat' (split at h)
 all_goals first
  | (cases h;rfl)
  | cases h
theorem zh:∀ {c:List G} {σ σ':St},pJ c σ=some σ'→σ'.pn=σ.pn
 | [],σ,σ',h=>by cases h;rfl
 | g::c,σ,σ',h=>by
  simp only[pJ]at h;split at h
  ·rename_i σ1 e;rw[zh h,HK e]
  ·cases h
def Gt(f:List Nat)(i:Nat):Nat:=f.getD i 0
def goal(c:List G)(f:List Nat)(l:List (Nat×ag))(m:List (Nat×Obj))(σ:St):Option (List ag×List (Option Obj)) :=
 match pJ c σ with
 | some σ'=>some (l.map (fun p=>σ'.s p.1),m.map (fun p=>σ'.h (Gt f p.1)))
 | none=>none
def want(f:List Nat)(l:List (Nat×ag))(m:List (Nat×Obj)):List ag×List (Option Obj) :=
 (l.map (fun p=>lP (Gt f) p.2),m.map (fun p=>some (m7 (Gt f) p.2)))
theorem qn.of{f:Nat→Nat}{s:Nat→ag}:∀ {l:List (Nat×ag)},l.map (fun p=>s p.1)=l.map (fun p=>lP f p.2)→qn f s l
 | [],_=>trivial
 | (t,x)::r,h=>by simp only[List.map_cons,List.cons.injEq]at h;exact⟨h.1,qn.of h.2⟩
theorem qG.of{f:Nat→Nat}{s:Nat→Option Obj}:∀ {l:List (Nat×Obj)},l.map (fun p=>s (f p.1))=l.map (fun p=>some (m7 f p.2))→qG f s l
 | [],_=>trivial
 | (t,x)::r,h=>by simp only[List.map_cons,List.cons.injEq]at h;exact⟨h.1,qG.of h.2⟩
theorem vC{k:List G}{f:List Nat}{l:List (Nat×ag)}{m:List (Nat×Obj)}{nx pn:Nat}(h:goal k f l m σ=some (want f l m))(c:(σ.pn == pn && kA (Gt f) l m nx pn)=true):Le n σ (ay l m nx pn):=by
 simp only[Bool.and_eq_true,beq_iff_eq]at c;obtain⟨rfl,c⟩:=c;unfold goal at h;split at h
 ·rename_i σ1 j;simp only[want,Option.some.injEq,Prod.mk.injEq]at h;have e:=zh j;rw[←e]at c ⊢;exact Le.trans (uc j) (KK (Gt f) (qn.of h.1) (qG.of h.2) c)
 ·cases h
def Ly(c:List G)(f:List Nat)(l:List (Nat×ag))(m:List (Nat×Obj))(nx pn:Nat)(r:Option ((Nat→ag)×(Nat→Option Obj)×List Prop)):Option ((List ag×List (Option Obj))×List Prop) :=
 match r with
 | some (s,h,e)=>match goal c f l m ⟨s,h,nx,pn⟩with
  | some q=>some (q,e)
  | none=>none
 | none=>none
variable{Q:Exit→St→Prop}{tb:bR}
def AS(c:List G)(f:List Nat)(l:List (Nat×ag))(m:List (Nat×Obj))(nx pn:Nat)(r:Option ((Nat→ag)×(Nat→Option Obj)×List Prop×Value)):Option ((List ag×List (Option Obj))×List Prop×Value) :=
 match r with
 | some (s,h,e,y)=>match goal c f l m ⟨s,h,nx,pn⟩with
  | some q=>some (q,e,y)
  | none=>none
 | none=>none
theorem I4(e:bS P tb)(an:An)(r:Nat)(y:Value){id:Nat}{ops:Array Oper}(u:List G)(f:List Nat)(l:List (Nat×ag))(m:List (Nat×Obj))(nx pn:Nat)(p:List Prop)
  (c:AS u f l m (σ.nx+8*ops.size) σ.pn (oV P tb an n σ.nx ops r ops.toList 0 σ.s σ.h)=some (want f l m,p,y)) (j:(σ.pn == pn && kA (Gt f) l m nx pn)=true) (x:oQ p)
  (z:∀σ',Le n σ' (ay l m nx pn)→Q (.panic [{ v:=y,recovered:=false }]) σ'):W P n Bw w0 (.region id ops false) σ Q:=by
 unfold AS at c;split at c
 ·rename_i s h A C k;split at c
  ·rename_i q B;cases c;exact uS e an r k x (z _ (vC B j))
  ·cases c
 ·cases c
theorem au{id:Nat}{σ1:St}(h:∀σ',Le n σ' σ1→Q .normal σ'):∀σ',Le n σ' σ1→lr id Q .normal σ':=h
theorem ET{id:Nat}(h:Q .normal σ):lr id Q (.exit id) σ:=by simp only[lr,if_true];exact h
theorem Fa{id k:Nat}(c:(k == id)=false)(h:Q (.exit k) σ):lr id Q (.exit k) σ:=by simp only[lr];rw[if_neg (by simpa using c)];exact h
theorem ah{d:Code}(h:Q .ret σ):zx P n Bw w0 d Q .ret σ:=h
theorem az{id:Nat}(h:Q .ret σ):lr id Q .ret σ:=h
theorem EY{f:List ResultVar}{c:List (Σ T:Ty,T.den)}(Ts:List Ty)(h:(match tv tb σ.s σ.h f with | some e=>lZ σ.h e Ts | none=>none)=some c):Ko tb f c .ret σ:=by
 split at h
 ·rename_i e j;exact⟨e,Ts,j,h⟩
 ·cases h
end
/-! ### Loops as functions -/
def iF{S T:Type}(c:S→Option (S⊕T)):Nat→S→Option T
 | 0,_=>none
 | k+1,s=>match c s with
  | some (.inl e)=>iF c k e
  | some (.inr r)=>some r
  | none=>none
open Classical in
noncomputable def yV {S T:Type} (c:S→Option (S⊕T)) (s:S):Option T :=
 if h:∃r,∃k,iF c k s=some r then some h.choose else none
noncomputable def iter {S T:Type} (body:S→Option (S⊕T)) (s:S):Option T :=
 match iF body 1000000 s with
 | some r=>some r
 | none=>yV body s
theorem ra{S T:Type}{c:S→Option (S⊕T)}:∀ {k:Nat} {s:S} {r:T},iF c k s=some r→∀j,iF c (k+j) s=some r
 | 0,_,_,h,_=>by cases h
 | k+1,s,r,h,j=>by
  rw[Nat.add_right_comm];simp only[iF]at h ⊢;split at h
  ·exact ra h j
  ·exact h
  ·cases h
theorem A0{S T:Type}{c:S→Option (S⊕T)}{k:Nat}{s:S}{r:T}(h:iF c k s=some r):yV c s=some r:=by
 have e:∃r,∃k,iF c k s=some r:=⟨r,k,h⟩;unfold yV;rw[dif_pos e];obtain⟨j,m⟩:=e.choose_spec;have p:=ra h j;have f:=ra m k;rw[Nat.add_comm]at f;rw[p]at f;exact f.symm
theorem CR{S T:Type}{c:S→Option (S⊕T)}{s:S}{r:T}(h:yV c s=some r):∃k,iF c k s=some r:=by
 unfold yV at h;split at h
 ·rename_i e;cases h;exact e.choose_spec
 ·cases h
theorem HA{S T:Type}(c:S→Option (S⊕T))(s:S):iter c s=yV c s:=by
 unfold iter;generalize 1000000=n;cases h:iF c n s with
 | none=>rfl
 | some r=>exact(A0 h).symm
theorem z7{S T:Type}{c:S→Option (S⊕T)}{k:Nat}{s:S}{r:T}(h:iF c k s=some r):iter c s=some r:=by
 rw[HA];exact A0 h
theorem mX{S T:Type}{c:S→Option (S⊕T)}{s:S}{r:T}(h:iter c s=some r):∃k,iF c k s=some r:=by
 rw[HA]at h;exact CR h
theorem iter_eq{S T:Type}(c:S→Option (S⊕T))(s:S):iter c s=match c s with
  | some (.inl f)=>iter c f
  | some (.inr r)=>some r
  | none=>none:=by
 cases hb:c s with
 | none =>
  cases hi:iter c s with
  | none=>rfl
  | some r =>
   obtain⟨k,e⟩:=mX hi;cases k with
   | zero=>cases e
   | succ k=>simp[iF,hb]at e
 | some o =>
  cases o with
  | inr r=>exact z7 (k:=1) (by simp[iF,hb])
  | inl f =>
   simp only;cases hi:iter c f with
   | some r =>
    obtain⟨k,e⟩:=mX hi;exact z7 (k:=k+1) (by simp[iF,hb,e])
   | none =>
    cases j:iter c s with
    | none=>rfl
    | some r =>
     obtain⟨k,e⟩:=mX j;cases k with
     | zero=>cases e
     | succ k =>
      simp only[iF,hb]at e;rw[z7 e]at hi;cases hi
section
variable{P:Program}{n:NS}{Bw:Nat→Prop}{w0:b9 P}{σ:St}
def nP{S T:Type}(n:NS)(f:S→St)(Q:T→Exit→St→Prop):S⊕T→Exit→St→Prop
 | .inl y,.normal,σ=>Le n σ (f y)
 | .inl _,_,_=>False
 | .inr _,.normal,_=>False
 | .inr r,e,σ=>Q r e σ
theorem JS{S T:Type}{j:S→Option (S⊕T)}{c:Code}(f:S→St)(Q:T→Exit→St→Prop){x:S}{r:T}(h:iter j x=some r)(hl:Le n σ (f x))
  (step:∀y o,j y=some o→W P n Bw w0 c (f y) (nP n f Q o)):W P n Bw w0 (.loop c) σ (Q r):=by
 obtain⟨k,q⟩:=mX h;refine Jv (fun k x=>iF j k x=some r) f (fun k y m=> ?_) q hl;cases k with
 | zero=>cases m
 | succ k =>
  simp only[iF]at m;cases hb:j y with
  | none=>rw[hb]at m;cases m
  | some o =>
   rw[hb]at m;refine(step y o hb).mono fun e σ' p=> ?_
   cases o with
   | inl z =>
    cases e with
    | normal=>exact⟨k,z,Nat.lt_succ_self k,m,p⟩
    | _=>exact p.elim
   | inr u =>
    cases m;cases e with
    | normal=>exact p.elim
    | _=>exact p
theorem br{S T:Type}{f:S→St}{Q:T→Exit→St→Prop}{r:T}(h:Q r .ret σ):nP n f Q (.inr r) .ret σ:=h
end
/-! ### Steps in a printed function -/
section
variable{α β:Type}
theorem LU{c:Prop}[Decidable c]{x y:Option α}{r:α}(e:c)(h:(if c then x else y)=some r):x=some r:=by rw[if_pos e]at h;exact h
theorem JE{b:Bool}{x y:Option α}{r:α}(hb:b=false)(h:(if b=true then x else y)=some r):y=some r:=by rw[hb]at h;exact h
theorem aD{c:Prop}[Decidable c]{x:Option α}{r:α}(h:(if c then x else none)=some r):c∧x=some r:=by
 split at h
 ·exact⟨by assumption,h⟩
 ·cases h
theorem aj{m:Option β}{f:β→Option α}{r:α}(h:m.bind f=some r):∃b,m=some b∧f b=some r:=by
 cases m with
 | none=>cases h
 | some b=>exact⟨b,rfl,h⟩
end
/-! ### Ends that are come to up to a smaller state -/
section
variable{P:Program}{tb:bR}{n:NS}{Bw:Nat→Prop}{w0:b9 P}{σ σ1:St}{Q:Exit→St→Prop}{S T U:Type}
theorem ae(h:∀σ',Le n σ' σ→Q .normal σ'):W P n Bw w0 .skip σ Q:=JN (h σ (Le.refl σ))
theorem aq{id:Nat}(h:∀σ',Le n σ' σ→Q (.exit id) σ'):W P n Bw w0 (.exit id) σ Q:=JA (h σ (Le.refl σ))
theorem aL{d:Code}{k:Nat}(h:∀σ',Le n σ' σ1→Q (.exit k) σ'):∀σ',Le n σ' σ1→zx P n Bw w0 d Q (.exit k) σ':=fun σ' hl=>h σ' hl
theorem av{id:Nat}(h:∀σ',Le n σ' σ1→Q .normal σ'):∀σ',Le n σ' σ1→lr id Q (.exit id) σ':=fun σ' hl=>ET (h σ' hl)
theorem ix{id k:Nat}(c:(k == id)=false)(h:∀σ',Le n σ' σ1→Q (.exit k) σ'):∀σ',Le n σ' σ1→lr id Q (.exit k) σ':=fun σ' hl=>Fa c (h σ' hl)
theorem cR{f:S→St}{Q:T→Exit→St→Prop}{r:T}{k:Nat}(h:∀σ',Le n σ' σ1→Q r (.exit k) σ'):∀σ',Le n σ' σ1→nP n f Q (.inr r) (.exit k) σ':=fun σ' hl=>h σ' hl
theorem JW{f:S→St}{Q:T→Exit→St→Prop}{y:S}(h:Le n σ1 (f y)):∀σ',Le n σ' σ1→nP n f Q (.inl y) .normal σ':=fun _ hl=>Le.trans hl h
theorem bY{e:Exit}(h:∀σ',Le n σ' σ1→Q e σ')(hl:Le n σ σ1):Q e σ:=h σ hl
def od(n:NS)(f:T→St)(v:T)(e:Exit)(σ:St):Prop:=e = .normal∧Le n σ (f v)
def dM(n:NS)(k:Nat)(f:T→St)(v:T)(e:Exit)(σ:St):Prop:=e = .exit k∧Le n σ (f v)
def eQ(tb:bR)(c:List ResultVar)(g:T→List (Σ T:Ty,T.den))(v:T)(e:Exit)(σ:St):Prop:=e = .ret∧Ko tb c (g v) .ret σ
def cN(A:T→Exit→St→Prop)(B:U→Exit→St→Prop):T⊕U→Exit→St→Prop
 | .inl x=>A x
 | .inr y=>B y
theorem cu{f:T→St}{v:T}(h:Le n σ1 (f v)):∀σ',Le n σ' σ1→od n f v .normal σ':=fun _ hl=>⟨rfl,Le.trans hl h⟩
theorem bC{k:Nat}{f:T→St}{v:T}(h:Le n σ1 (f v)):∀σ',Le n σ' σ1→dM n k f v (.exit k) σ':=fun _ hl=>⟨rfl,Le.trans hl h⟩
theorem bu{c:List ResultVar}{g:T→List (Σ T:Ty,T.den)}{v:T}(h:Ko tb c (g v) .ret σ):eQ tb c g v .ret σ:=⟨rfl,h⟩
theorem aX{A:T→Exit→St→Prop}{B:U→Exit→St→Prop}{x:T}{e:Exit}(h:∀σ',Le n σ' σ1→A x e σ'):∀σ',Le n σ' σ1→cN A B (.inl x) e σ':=h
theorem AK{A:T→Exit→St→Prop}{B:U→Exit→St→Prop}{x:T}{e:Exit}(h:A x e σ):cN A B (.inl x) e σ:=h
theorem aK{A:T→Exit→St→Prop}{B:U→Exit→St→Prop}{y:U}{e:Exit}(h:B y e σ):cN A B (.inr y) e σ:=h
def sV(g:T→Value)(v:T)(e:Exit)(_:St):Prop:=e = .panic [{ v:=g v,recovered:=false }]
theorem aC{d:Code}{c:List PanicEntry}(h:Q (.panic c) σ):zx P n Bw w0 d Q (.panic c) σ:=h
theorem bh{id:Nat}{c:List PanicEntry}(h:Q (.panic c) σ):lr id Q (.panic c) σ:=h
theorem bL{f:S→St}{Q:T→Exit→St→Prop}{r:T}{c:List PanicEntry}(h:Q r (.panic c) σ):nP n f Q (.inr r) (.panic c) σ:=h
end
end Go.Tv
