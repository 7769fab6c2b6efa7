/- The program's maker: what is known of an expression. -/
import Derived.Test.YtnjdmbifjbahdaaTvZcm
namespace Go.Proofs.Ytnjdmbifjbahdaa.T
open Go Go.Tv Go.Proofs
def FG (fol : List S4) (a b p q : Nat) : Prop := (a ≤ p ∧ p < b) ∧ me (fol.getD p z4) q = true
structure Mk (s0 : List Int) (f0 : List S4) (n : Nat) (s : List Int) (f : List S4) (nu : Bool) (fi la : S4) (A : Wd → Prop) : Prop where
  len : s.length = s0.length + n
  pre : ∃ l, s = s0 ++ l
  fl : f.length = s.length
  fw : ∀ x ∈ f, W4 x
  fo : ∀ i, i < s0.length → f.getD i z4 = f0.getD i z4
  su : (∀ y ∈ s0, U32 y) → ∀ y ∈ s, U32 y
  w1 : W4 fi
  w2 : W4 la
  gl : ∀ lab : Nat → Int → Prop, (∀ p c, s0.length ≤ p → p < s.length → (lab p c ↔ inS (s.getD p 0) c)) → Gl lab (FG f s0.length s.length) (nu = true) (fun p => me fi p = true) (fun p => me la p = true) s0.length s.length A
structure LK (f : List S4) (fr to : S4) (f' : List S4) : Prop where
  fl : f'.length = f.length
  fw : ∀ x ∈ f', W4 x
  me : ∀ i, i < f.length → ∀ j, me (f'.getD i z4) j = (me (f.getD i z4) j || (me fr i && me to j))
theorem W4_getD {f : List S4} (h : ∀ x ∈ f, W4 x) (i : Nat) : W4 (f.getD i z4) := by
  rcases Nat.lt_or_ge i f.length with hi | hi
  · exact h _ (getD_mem' hi)
  · rw [List.getD_eq_getElem?_getD, List.getElem?_eq_none hi]; exact W4.z
theorem LK.same {f f' : List S4} {fr to : S4} (h : LK f fr to f') (hf : ∀ x ∈ f, W4 x) {i : Nat} (hi : i < f.length) (hn : Tv.me fr i = false) : f'.getD i z4 = f.getD i z4 :=
  me_ext (W4_getD h.fw i) (W4_getD hf i) fun j => by rw [h.me i hi j, hn]; simp
section
variable {s0 s1 s2 : List Int} {f0 f1 f2 f3 : List S4} {n m : Nat} {nu nu1 nu2 : Bool} {fi la fi1 la1 fi2 la2 : S4} {A A1 A2 : Wd → Prop}
theorem FG_none {f : List S4} {a p q : Nat} : ¬ FG f a a p q := fun h => by have := h.1; omega
theorem Mk.eps (h1 : f0.length = s0.length) (h2 : ∀ x ∈ f0, W4 x) : Mk s0 f0 0 s0 f0 true z4 z4 (fun w => w = []) :=
  ⟨rfl, ⟨[], by simp⟩, h1, h2, fun _ _ => rfl, fun h => h, W4.z, W4.z, fun lab _ => Gl.eps.congr (fun p q => iff_of_false FG_none id) (by simp) (fun p => by simp [me_z]) (fun p => by simp [me_z]) (fun w => Iff.rfl)⟩
theorem Mk.none (h1 : f0.length = s0.length) (h2 : ∀ x ∈ f0, W4 x) : Mk s0 f0 0 s0 f0 false z4 z4 (fun _ => False) :=
  ⟨rfl, ⟨[], by simp⟩, h1, h2, fun _ _ => rfl, fun h => h, W4.z, W4.z, fun lab _ => Gl.none.congr (fun p q => iff_of_false FG_none id) (by simp) (fun p => by simp [me_z]) (fun p => by simp [me_z]) (fun w => Iff.rfl)⟩
theorem getD_app {α : Type} {l r : List α} {i : Nat} {d : α} (h : i < l.length) : (l ++ r).getD i d = l.getD i d := by
  simp only [List.getD_eq_getElem?_getD, List.getElem?_append_left h]
theorem Mk.set (h1 : f0.length = s0.length) (h2 : ∀ x ∈ f0, W4 x) (hl : s0.length < 200) {x : Int} (hx : U32 x) : Mk s0 f0 1 (s0 ++ [x]) (f0 ++ [z4]) false (ad4 s0.length z4) (ad4 s0.length z4) (fun w => ∃ c, w = [c] ∧ inS x c) := by
  have hme : ∀ p, me (ad4 s0.length z4) p = true ↔ p = s0.length := fun p => by
    rw [me_ad W4.z (by omega), me_z]; simp; omega
  refine ⟨by simp, ⟨[x], rfl⟩, by simp [h1], fun y hy => ?_, fun i hi => getD_app (by omega), fun h y hy => (List.mem_append.1 hy).elim (h y) (fun e => by simp only [List.mem_singleton] at e; exact e ▸ hx), W4.z.ad _, W4.z.ad _, fun lab hlab => ?_⟩
  · rcases List.mem_append.1 hy with h | h
    · exact h2 y h
    · simp only [List.mem_singleton] at h; subst h; exact W4.z
  · have e : (s0 ++ [x]).length = s0.length + 1 := by simp
    rw [e] at hlab ⊢
    have hx : (s0 ++ [x]).getD s0.length 0 = x := by simp [List.getD_eq_getElem?_getD]
    refine (Gl.set (s := x) (lab := lab) (a := s0.length) fun c => ?_).congr (fun p q => ?_) (by simp) hme hme (fun w => Iff.rfl)
    · rw [hlab _ c (Nat.le_refl _) (by omega), hx]
    · refine iff_of_false (fun h => ?_) id
      obtain ⟨h3, h4⟩ := h
      have : p = f0.length := by omega
      subst this
      have hz : (f0 ++ [z4]).getD f0.length z4 = z4 := by simp [List.getD_eq_getElem?_getD]
      rw [hz, me_z] at h4
      cases h4
theorem Mk.le (h : Mk s0 f0 n s1 f1 nu fi la A) : s0.length ≤ s1.length := by rw [h.len]; omega
theorem Mk.lab (h : Mk s0 f0 n s1 f1 nu fi la A) {p : Nat} (hp : p < s0.length) : s1.getD p 0 = s0.getD p 0 := by
  obtain ⟨l, rfl⟩ := h.pre
  exact getD_app hp
theorem Mk.trans_pre (h : Mk s0 f0 n s1 f1 nu1 fi1 la1 A1) (k : Mk s1 f1 m s2 f2 nu2 fi2 la2 A2) : ∃ l, s2 = s0 ++ l := by
  obtain ⟨l, rfl⟩ := h.pre
  obtain ⟨l', rfl⟩ := k.pre
  exact ⟨l ++ l', by simp⟩
theorem Mk.seq (h : Mk s0 f0 n s1 f1 nu1 fi1 la1 A1) (k : Mk s1 f1 m s2 f2 nu2 fi2 la2 A2) (hk : LK f2 la1 fi2 f3) :
    Mk s0 f0 (n + m) s2 f3 (nu1 && nu2) (if nu1 = true then or4 fi1 fi2 else fi1) (if nu2 = true then or4 la2 la1 else la2) (Cat A1 A2) := by
  have g1 := h.gl (fun p c => inS (s1.getD p 0) c) (fun _ _ _ _ => Iff.rfl)
  have hle1 := h.le
  have hle2 := k.le
  have hfl := k.fl
  have hfl1 := h.fl
  refine ⟨by rw [k.len, h.len]; omega, h.trans_pre k, by rw [hk.fl, k.fl], hk.fw, fun i hi => ?_, fun hh => k.su (h.su hh), ?_, ?_, fun lab hlab => ?_⟩
  · have hla : me la1 i = false := by
      cases e : me la1 i with
      | false => rfl
      | true => have := g1.la i e; omega
    rw [hk.same k.fw (by omega) hla, k.fo i (by omega), h.fo i hi]
  · split
    · exact h.w1.or k.w1
    · exact h.w1
  · split
    · exact k.w2.or h.w2
    · exact k.w2
  · have G1 := h.gl lab fun p c hp1 hp2 => by rw [hlab p c hp1 (by omega), k.lab hp2]
    have G2 := k.gl lab fun p c hp1 hp2 => hlab p c (by omega) hp2
    refine (G1.seq G2 hle1 hle2).congr (fun p q => ?_) (by simp) (fun p => ?_) (fun p => ?_) (fun w => Iff.rfl)
    · constructor
      · rintro ⟨⟨h1, h2⟩, h3⟩
        rw [hk.me p (by omega) q, Bool.or_eq_true, Bool.and_eq_true] at h3
        rcases h3 with h3 | h3
        · rcases Nat.lt_or_ge p s1.length with hp | hp
          · rw [k.fo p hp] at h3
            exact .inl ⟨⟨h1, hp⟩, h3⟩
          · exact .inr (.inl ⟨⟨hp, h2⟩, h3⟩)
        · exact .inr (.inr h3)
      · rintro (⟨⟨h1, h2⟩, h3⟩ | ⟨⟨h1, h2⟩, h3⟩ | ⟨h3, h4⟩)
        · refine ⟨⟨h1, by omega⟩, ?_⟩
          rw [hk.me p (by omega) q, k.fo p h2, h3]; rfl
        · refine ⟨⟨by omega, h2⟩, ?_⟩
          rw [hk.me p (by omega) q, h3]; rfl
        · have := g1.la p h3
          refine ⟨⟨this.1, by omega⟩, ?_⟩
          rw [hk.me p (by omega) q, h3, h4]; simp
    · cases nu1 with
      | true => rw [if_pos rfl, me_or h.w1 k.w1]; simp
      | false => rw [if_neg (by simp)]; simp
    · cases nu2 with
      | true => rw [if_pos rfl, me_or k.w2 h.w2]; simp
      | false => rw [if_neg (by simp)]; simp
theorem Mk.alt (h : Mk s0 f0 n s1 f1 nu1 fi1 la1 A1) (k : Mk s1 f1 m s2 f2 nu2 fi2 la2 A2) :
    Mk s0 f0 (n + m) s2 f2 (nu1 || nu2) (or4 fi1 fi2) (or4 la1 la2) (fun w => A1 w ∨ A2 w) := by
  have hle1 := h.le
  have hle2 := k.le
  refine ⟨by rw [k.len, h.len]; omega, h.trans_pre k, k.fl, k.fw, fun i hi => by rw [k.fo i (by omega), h.fo i hi], fun hh => k.su (h.su hh), h.w1.or k.w1, h.w2.or k.w2, fun lab hlab => ?_⟩
  have G1 := h.gl lab fun p c hp1 hp2 => by rw [hlab p c hp1 (by omega), k.lab hp2]
  have G2 := k.gl lab fun p c hp1 hp2 => hlab p c (by omega) hp2
  refine (G1.alt G2 hle1 hle2).congr (fun p q => ?_) (by simp) (fun p => by rw [me_or h.w1 k.w1]; simp) (fun p => by rw [me_or h.w2 k.w2]; simp) (fun w => Iff.rfl)
  constructor
  · rintro ⟨⟨h1, h2⟩, h3⟩
    rcases Nat.lt_or_ge p s1.length with hp | hp
    · rw [k.fo p hp] at h3
      exact .inl ⟨⟨h1, hp⟩, h3⟩
    · exact .inr ⟨⟨hp, h2⟩, h3⟩
  · rintro (⟨⟨h1, h2⟩, h3⟩ | ⟨⟨h1, h2⟩, h3⟩)
    · exact ⟨⟨h1, by omega⟩, by rw [k.fo p h2, h3]⟩
    · exact ⟨⟨by omega, h2⟩, h3⟩
theorem Mk.loop (h : Mk s0 f0 n s1 f1 nu1 fi1 la1 A1) (hk : LK f1 la1 fi1 f3) {nu : Bool} {B : Wd → Prop}
    (hG : ∀ lab F, Gl lab F (nu1 = true) (fun p => me fi1 p = true) (fun p => me la1 p = true) s0.length s1.length A1 → Gl lab (fun p q => F p q ∨ me la1 p = true ∧ me fi1 q = true) (nu = true) (fun p => me fi1 p = true) (fun p => me la1 p = true) s0.length s1.length B) :
    Mk s0 f0 n s1 f3 nu fi1 la1 B := by
  have g1 := h.gl (fun p c => inS (s1.getD p 0) c) (fun _ _ _ _ => Iff.rfl)
  have hle1 := h.le
  have hfl1 := h.fl
  refine ⟨h.len, h.pre, by rw [hk.fl, h.fl], hk.fw, fun i hi => ?_, h.su, h.w1, h.w2, fun lab hlab => ?_⟩
  · have hla : me la1 i = false := by
      cases e : me la1 i with
      | false => rfl
      | true => have := g1.la i e; omega
    rw [hk.same h.fw (by omega) hla, h.fo i hi]
  · refine (hG lab _ (h.gl lab hlab)).congr (fun p q => ?_) Iff.rfl (fun p => Iff.rfl) (fun p => Iff.rfl) (fun w => Iff.rfl)
    constructor
    · rintro ⟨⟨h1, h2⟩, h3⟩
      rw [hk.me p (by omega) q, Bool.or_eq_true, Bool.and_eq_true] at h3
      exact h3.imp (fun h3 => ⟨⟨h1, h2⟩, h3⟩) id
    · rintro (⟨⟨h1, h2⟩, h3⟩ | ⟨h3, h4⟩)
      · exact ⟨⟨h1, h2⟩, by rw [hk.me p (by omega) q, h3]; rfl⟩
      · have := g1.la p h3
        exact ⟨this, by rw [hk.me p (by omega) q, h3, h4]; simp⟩
theorem Mk.opt (h : Mk s0 f0 n s1 f1 nu1 fi1 la1 A1) : Mk s0 f0 n s1 f1 true fi1 la1 (fun w => w = [] ∨ A1 w) :=
  ⟨h.len, h.pre, h.fl, h.fw, h.fo, h.su, h.w1, h.w2, fun lab hlab => (h.gl lab hlab).opt.congr (fun _ _ => Iff.rfl) (by simp) (fun _ => Iff.rfl) (fun _ => Iff.rfl) (fun _ => Iff.rfl)⟩
theorem Mk.congr (h : Mk s0 f0 n s1 f1 nu1 fi1 la1 A1) (hA : ∀ w, A w ↔ A1 w) : Mk s0 f0 n s1 f1 nu1 fi1 la1 A := by
  obtain rfl : A = A1 := funext fun w => propext (hA w)
  exact h
end
end Go.Proofs.Ytnjdmbifjbahdaa.T
namespace Go.Proofs.Ytnjdmbifjbahdaa.T
open Go Go.Tv Go.Proofs
abbrev Part := Bool × (Int × Int × Int × Int) × Int × Int × Int × Int
abbrev RM := Int → Int → (List Tree) → Bool → (List Int) → (List (Int × Int × Int × Int)) → Option ((Bool × (Int × Int × Int × Int) × Int × Int × Int × Int) × (List Int) × (List (Int × Int × Int × Int)) × Bool)
section
variable {R : RM} {s0 : List Int} {f0 : List S4}
end
end Go.Proofs.Ytnjdmbifjbahdaa.T
