/- A plan's text as pieces. -/
import Derived.Test.YtjfjigknkhgkdaaTv03dm
import Derived.Test.YtjfjigknkhgkdaaTv03r
namespace Go.Proofs.Ytjfjigknkhgkdaa.T
open Go Go.Tv Go.Proofs
inductive K where
  | w (x : List UInt8)
  | s (c : Nat)
def Kd : Toks → List K → Prop
  | .eof _, [] => True
  | .wd w _ r, .w x :: l => w = x ∧ Kd r l
  | .sg c _ r, .s d :: l => c = d ∧ Kd r l
  | _, _ => False
def Lx (l : List UInt8) (ks : List K) : Prop := ∀ n, Kd (tk (some 0) l n) ks
def NL (l : List UInt8) : Prop := ∀ c r, l = c :: r → letN c.toNat = false
theorem Lx_nil : Lx [] [] := fun _ => trivial
theorem Lx_bl {c : UInt8} {r ks} (h35 : c.toNat ≠ 35) (hb : blaN c.toNat = true) (h : Lx r ks) : Lx (c :: r) ks := fun n => by
  simp only [tk]; rw [if_neg h35, if_pos hb]; exact h _
theorem Lx_sg {c : UInt8} {r ks} (h35 : c.toNat ≠ 35) (hb : blaN c.toNat = false) (hl : letN c.toNat = false) (hs : sgnN c.toNat = true) (h : Lx r ks) : Lx (c :: r) (.s c.toNat :: ks) := fun n => by
  simp only [tk]; rw [if_neg h35, if_neg (by rw [hb]; decide), if_neg (by rw [hl]; decide), if_pos hs]; exact ⟨rfl, h _⟩
theorem takeW_app {w r : List UInt8} (hw : ∀ c ∈ w, letN c.toNat = true) (hr : NL r) : (w ++ r).takeWhile (fun x => letN x.toNat) = w := by
  induction w with
  | nil =>
    cases r with
    | nil => rfl
    | cons c r => simp only [List.nil_append, List.takeWhile_cons, hr c r rfl]; rfl
  | cons c w ih =>
    rw [List.cons_append, List.takeWhile_cons, if_pos (hw c (by simp)), ih (fun x hx => hw x (by simp [hx]))]
theorem letN_no {c : Nat} (h : letN c = true) : c ≠ 35 ∧ blaN c = false := by
  refine ⟨fun hh => (by subst hh; cases h), ?_⟩
  cases hb : blaN c with
  | false => rfl
  | true =>
    simp only [blaN, Bool.or_eq_true, beq_iff_eq] at hb
    rcases hb with ((rfl | rfl) | rfl) | rfl <;> cases h
theorem Lx_wd {w r : List UInt8} {ks} (h0 : w ≠ []) (hw : ∀ c ∈ w, letN c.toNat = true) (hr : NL r) (h : Lx r ks) : Lx (w ++ r) (.w w :: ks) := fun n => by
  match w, h0 with
  | c :: w, _ =>
    have hc := hw c (by simp)
    have ht := takeW_app (w := w) (r := r) (fun x hx => hw x (by simp [hx])) hr
    rw [List.cons_append]
    simp only [tk]
    rw [if_neg (letN_no hc).1, if_neg (by rw [(letN_no hc).2]; decide), if_pos hc, ht, tk_skip _ _ _ (by simp)]
    refine ⟨rfl, ?_⟩
    rw [List.drop_left]
    exact h _
def Px (x : List UInt8) (ks : List K) : Prop := ∀ r ls, Lx r ls → Lx (x ++ r) (ks ++ ls)
def Qx (x : List UInt8) (ks : List K) : Prop := ∀ r ls, NL r → Lx r ls → Lx (x ++ r) (ks ++ ls)
theorem Px.app {x y ks ls} (h1 : Px x ks) (h2 : Px y ls) : Px (x ++ y) (ks ++ ls) := fun r ms h => by
  rw [List.append_assoc, List.append_assoc]; exact h1 _ _ (h2 _ _ h)
theorem Px.q {x y ks ls} (h1 : Px x ks) (h2 : Qx y ls) : Qx (x ++ y) (ks ++ ls) := fun r ms hn h => by
  rw [List.append_assoc, List.append_assoc]; exact h1 _ _ (h2 _ _ hn h)
theorem Qx.app {x y ks ls} {c : UInt8} {y' : List UInt8} (h1 : Qx x ks) (hy : y = c :: y') (hc : letN c.toNat = false) (h2 : Px y ls) : Px (x ++ y) (ks ++ ls) := fun r ms h => by
  rw [List.append_assoc, List.append_assoc]
  exact h1 _ _ (fun d q hd => by rw [hy, List.cons_append] at hd; cases hd; exact hc) (h2 _ _ h)
theorem Qx.qapp {x y ks ls} {c : UInt8} {y' : List UInt8} (h1 : Qx x ks) (hy : y = c :: y') (hc : letN c.toNat = false) (h2 : Qx y ls) : Qx (x ++ y) (ks ++ ls) := fun r ms hn h => by
  rw [List.append_assoc, List.append_assoc]
  exact h1 _ _ (fun d q hd => by rw [hy, List.cons_append] at hd; cases hd; exact hc) (h2 _ _ hn h)
theorem Px.toQ {x ks} (h : Px x ks) : Qx x ks := fun r ls _ => h r ls
theorem Px_nil : Px [] [] := fun _ _ h => h
theorem Px_bl (c : UInt8) (h35 : c.toNat ≠ 35) (hb : blaN c.toNat = true) : Px [c] [] := fun _ _ h => Lx_bl h35 hb h
theorem Px_sg (c : UInt8) (h35 : c.toNat ≠ 35) (hb : blaN c.toNat = false) (hl : letN c.toNat = false) (hs : sgnN c.toNat = true) : Px [c] [.s c.toNat] := fun _ _ h => Lx_sg h35 hb hl hs h
theorem Qx_wd {w : List UInt8} (h0 : w ≠ []) (hw : ∀ c ∈ w, letN c.toNat = true) : Qx w [.w w] := fun _ _ hr h => Lx_wd h0 hw hr h
theorem Px_ch : Px [32] [] ∧ Px [10] [] ∧ Px [40] [.s 40] ∧ Px [41] [.s 41] ∧ Px [91] [.s 91] ∧ Px [93] [.s 93] ∧ Px [94] [.s 94] ∧ Px [124] [.s 124] ∧ Px [42] [.s 42] ∧ Px [43] [.s 43] ∧ Px [63] [.s 63] ∧ Px [46] [.s 46] ∧ Px [59] [.s 59] ∧ Px [47] [.s 47] ∧ Px [61] [.s 61] :=
  ⟨Px_bl 32 (by decide) (by decide), Px_bl 10 (by decide) (by decide), Px_sg 40 (by decide) (by decide) (by decide) (by decide), Px_sg 41 (by decide) (by decide) (by decide) (by decide), Px_sg 91 (by decide) (by decide) (by decide) (by decide), Px_sg 93 (by decide) (by decide) (by decide) (by decide), Px_sg 94 (by decide) (by decide) (by decide) (by decide), Px_sg 124 (by decide) (by decide) (by decide) (by decide), Px_sg 42 (by decide) (by decide) (by decide) (by decide), Px_sg 43 (by decide) (by decide) (by decide) (by decide), Px_sg 63 (by decide) (by decide) (by decide) (by decide), Px_sg 46 (by decide) (by decide) (by decide) (by decide), Px_sg 59 (by decide) (by decide) (by decide) (by decide), Px_sg 47 (by decide) (by decide) (by decide) (by decide), Px_sg 61 (by decide) (by decide) (by decide) (by decide)⟩
theorem nmB_toNat {n i : Nat} (h1 : 1 ≤ n) (h6 : n ≤ 6) : (nmB n i).toNat = 65 + i % n := by
  have : i % n < n := Nat.mod_lt _ (by omega)
  unfold nmB
  simp
  omega
theorem nmB_let {n i : Nat} (h1 : 1 ≤ n) (h6 : n ≤ 6) : letN (nmB n i).toNat = true := by
  have h : i % n < n := Nat.mod_lt _ (by omega)
  rw [nmB_toNat h1 h6]
  have key : ∀ m, m < 6 → letN (65 + m) = true := by decide
  exact key _ (by omega)
def nmK (n i : Nat) : K := .w [nmB n i]
theorem Qx_nm {n i : Nat} (h1 : 1 ≤ n) (h6 : n ≤ 6) : Qx [nmB n i] [nmK n i] := Qx_wd (by simp) (fun c hc => by cases List.mem_singleton.mp hc; exact nmB_let h1 h6)
def namesW (n b : Nat) : Nat → List (List UInt8)
  | 0 => []
  | k + 1 => namesW n b k ++ (if b / 2 ^ k % 2 = 1 then [[nmB n k]] else [])
theorem Qx_names {n : Nat} (h1 : 1 ≤ n) (h6 : n ≤ 6) (b : Nat) : ∀ k, Qx (namesT n b k) ((namesW n b k).map .w) ∧ (namesT n b k = [] ∨ ∃ y, namesT n b k = 32 :: y)
  | 0 => ⟨Px_nil.toQ, Or.inl rfl⟩
  | k + 1 => by
    obtain ⟨ih1, ih2⟩ := Qx_names h1 h6 b k
    simp only [namesT, namesW]
    split
    · refine ⟨?_, ?_⟩
      · rw [List.map_append]
        exact ih1.qapp (c := 32) (y' := [nmB n k]) rfl (by decide) (Px_ch.1.q (Qx_nm h1 h6))
      · rcases ih2 with h | ⟨y, h⟩
        · exact Or.inr ⟨[nmB n k], by rw [h]; rfl⟩
        · exact Or.inr ⟨y ++ [32, nmB n k], by rw [h]; rfl⟩
    · simpa using ⟨ih1, ih2⟩
def headK (n : Nat) : List K := .w [99, 108, 97, 115, 115] :: ((namesW n 255 n).map .w ++ [.s 59])
theorem Px_word {w : List UInt8} (h0 : w ≠ []) (hw : ∀ c ∈ w, letN c.toNat = true) : Px (w ++ [32]) [.w w] := (Qx_wd h0 hw).app (y := [32]) rfl (by decide) Px_ch.1
end Go.Proofs.Ytjfjigknkhgkdaa.T
