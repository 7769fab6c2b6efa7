/- A plan's text as pieces. -/
import Derived.Test.YtnjdmbifjbahdaaTv04pdm
import Derived.Test.YtnjdmbifjbahdaaTv04pqm
namespace Go.Proofs.Ytnjdmbifjbahdaa.T
open Go Go.Tv Go.Proofs
inductive K where
  | w (x : List UInt8)
  | s (c : Nat)
def Kd : Toks → List K → Prop
  | .eof _, [] => True
  | .wd w _ r, .w x :: l => w = x ∧ Kd r l
  | .sg c _ r, .s d :: l => c = d ∧ Kd r l
  | _, _ => False
def Lx (l : List UInt8) (ks : List K) : Prop := ∀ n, Kd (tk (some 0) l n) ks
def NL (l : List UInt8) : Prop := ∀ c r, l = c :: r → letN c.toNat = false
theorem Lx_nil : Lx [] [] := fun _ => trivial
theorem Lx_bl {c : UInt8} {r ks} (h35 : c.toNat ≠ 35) (hb : blaN c.toNat = true) (h : Lx r ks) : Lx (c :: r) ks := fun n => by
  simp only [tk]; rw [if_neg h35, if_pos hb]; exact h _
theorem Lx_sg {c : UInt8} {r ks} (h35 : c.toNat ≠ 35) (hb : blaN c.toNat = false) (hl : letN c.toNat = false) (hs : sgnN c.toNat = true) (h : Lx r ks) : Lx (c :: r) (.s c.toNat :: ks) := fun n => by
  simp only [tk]; rw [if_neg h35, if_neg (by rw [hb]; decide), if_neg (by rw [hl]; decide), if_pos hs]; exact ⟨rfl, h _⟩
theorem takeW_app {w r : List UInt8} (hw : ∀ c ∈ w, letN c.toNat = true) (hr : NL r) : (w ++ r).takeWhile (fun x => letN x.toNat) = w := by
  induction w with
  | nil =>
    cases r with
    | nil => rfl
    | cons c r => simp only [List.nil_append, List.takeWhile_cons, hr c r rfl]; rfl
  | cons c w ih =>
    rw [List.cons_append, List.takeWhile_cons, if_pos (hw c (by simp)), ih (fun x hx => hw x (by simp [hx]))]
theorem letN_no {c : Nat} (h : letN c = true) : c ≠ 35 ∧ blaN c = false := by
  refine ⟨fun hh => (by subst hh; cases h), ?_⟩
  cases hb : blaN c with
  | false => rfl
  | true =>
    simp only [blaN, Bool.or_eq_true, beq_iff_eq] at hb
    rcases hb with ((rfl | rfl) | rfl) | rfl <;> cases h
theorem Lx_wd {w r : List UInt8} {ks} (h0 : w ≠ []) (hw : ∀ c ∈ w, letN c.toNat = true) (hr : NL r) (h : Lx r ks) : Lx (w ++ r) (.w w :: ks) := fun n => by
  match w, h0 with
  | c :: w, _ =>
    have hc := hw c (by simp)
    have ht := takeW_app (w := w) (r := r) (fun x hx => hw x (by simp [hx])) hr
    rw [List.cons_append]
    simp only [tk]
    rw [if_neg (letN_no hc).1, if_neg (by rw [(letN_no hc).2]; decide), if_pos hc, ht, tk_skip _ _ _ (by simp)]
    refine ⟨rfl, ?_⟩
    rw [List.drop_left]
    exact h _
def Px (x : List UInt8) (ks : List K) : Prop := ∀ r ls, Lx r ls → Lx (x ++ r) (ks ++ ls)
def Qx (x : List UInt8) (ks : List K) : Prop := ∀ r ls, NL r → Lx r ls → Lx (x ++ r) (ks ++ ls)
theorem Px.app {x y ks ls} (h1 : Px x ks) (h2 : Px y ls) : Px (x ++ y) (ks ++ ls) := fun r ms h => by
  rw [List.append_assoc, List.append_assoc]; exact h1 _ _ (h2 _ _ h)
theorem Px.q {x y ks ls} (h1 : Px x ks) (h2 : Qx y ls) : Qx (x ++ y) (ks ++ ls) := fun r ms hn h => by
  rw [List.append_assoc, List.append_assoc]; exact h1 _ _ (h2 _ _ hn h)
theorem Qx.app {x y ks ls} {c : UInt8} {y' : List UInt8} (h1 : Qx x ks) (hy : y = c :: y') (hc : letN c.toNat = false) (h2 : Px y ls) : Px (x ++ y) (ks ++ ls) := fun r ms h => by
  rw [List.append_assoc, List.append_assoc]
  exact h1 _ _ (fun d q hd => by rw [hy, List.cons_append] at hd; cases hd; exact hc) (h2 _ _ h)
theorem Qx.qapp {x y ks ls} {c : UInt8} {y' : List UInt8} (h1 : Qx x ks) (hy : y = c :: y') (hc : letN c.toNat = false) (h2 : Qx y ls) : Qx (x ++ y) (ks ++ ls) := fun r ms hn h => by
  rw [List.append_assoc, List.append_assoc]
  exact h1 _ _ (fun d q hd => by rw [hy, List.cons_append] at hd; cases hd; exact hc) (h2 _ _ hn h)
theorem Px.toQ {x ks} (h : Px x ks) : Qx x ks := fun r ls _ => h r ls
theorem Px_nil : Px [] [] := fun _ _ h => h
theorem Px_bl (c : UInt8) (h35 : c.toNat ≠ 35) (hb : blaN c.toNat = true) : Px [c] [] := fun _ _ h => Lx_bl h35 hb h
theorem Px_sg (c : UInt8) (h35 : c.toNat ≠ 35) (hb : blaN c.toNat = false) (hl : letN c.toNat = false) (hs : sgnN c.toNat = true) : Px [c] [.s c.toNat] := fun _ _ h => Lx_sg h35 hb hl hs h
theorem Qx_wd {w : List UInt8} (h0 : w ≠ []) (hw : ∀ c ∈ w, letN c.toNat = true) : Qx w [.w w] := fun _ _ hr h => Lx_wd h0 hw hr h
theorem Px_ch : Px [32] [] ∧ Px [10] [] ∧ Px [40] [.s 40] ∧ Px [41] [.s 41] ∧ Px [91] [.s 91] ∧ Px [93] [.s 93] ∧ Px [94] [.s 94] ∧ Px [124] [.s 124] ∧ Px [42] [.s 42] ∧ Px [43] [.s 43] ∧ Px [63] [.s 63] ∧ Px [46] [.s 46] ∧ Px [59] [.s 59] ∧ Px [47] [.s 47] ∧ Px [61] [.s 61] :=
  ⟨Px_bl 32 (by decide) (by decide), Px_bl 10 (by decide) (by decide), Px_sg 40 (by decide) (by decide) (by decide) (by decide), Px_sg 41 (by decide) (by decide) (by decide) (by decide), Px_sg 91 (by decide) (by decide) (by decide) (by decide), Px_sg 93 (by decide) (by decide) (by decide) (by decide), Px_sg 94 (by decide) (by decide) (by decide) (by decide), Px_sg 124 (by decide) (by decide) (by decide) (by decide), Px_sg 42 (by decide) (by decide) (by decide) (by decide), Px_sg 43 (by decide) (by decide) (by decide) (by decide), Px_sg 63 (by decide) (by decide) (by decide) (by decide), Px_sg 46 (by decide) (by decide) (by decide) (by decide), Px_sg 59 (by decide) (by decide) (by decide) (by decide), Px_sg 47 (by decide) (by decide) (by decide) (by decide), Px_sg 61 (by decide) (by decide) (by decide) (by decide)⟩
theorem nmB_toNat {n i : Nat} (h1 : 1 ≤ n) (h6 : n ≤ 6) : (nmB n i).toNat = 65 + i % n := by
  have : i % n < n := Nat.mod_lt _ (by omega)
  unfold nmB
  simp
  omega
theorem nmB_let {n i : Nat} (h1 : 1 ≤ n) (h6 : n ≤ 6) : letN (nmB n i).toNat = true := by
  have h : i % n < n := Nat.mod_lt _ (by omega)
  rw [nmB_toNat h1 h6]
  have key : ∀ m, m < 6 → letN (65 + m) = true := by decide
  exact key _ (by omega)
def nmK (n i : Nat) : K := .w [nmB n i]
theorem Qx_nm {n i : Nat} (h1 : 1 ≤ n) (h6 : n ≤ 6) : Qx [nmB n i] [nmK n i] := Qx_wd (by simp) (fun c hc => by cases List.mem_singleton.mp hc; exact nmB_let h1 h6)
def namesW (n b : Nat) : Nat → List (List UInt8)
  | 0 => []
  | k + 1 => namesW n b k ++ (if b / 2 ^ k % 2 = 1 then [[nmB n k]] else [])
theorem Qx_names {n : Nat} (h1 : 1 ≤ n) (h6 : n ≤ 6) (b : Nat) : ∀ k, Qx (namesT n b k) ((namesW n b k).map .w) ∧ (namesT n b k = [] ∨ ∃ y, namesT n b k = 32 :: y)
  | 0 => ⟨Px_nil.toQ, Or.inl rfl⟩
  | k + 1 => by
    obtain ⟨ih1, ih2⟩ := Qx_names h1 h6 b k
    simp only [namesT, namesW]
    split
    · refine ⟨?_, ?_⟩
      · rw [List.map_append]
        exact ih1.qapp (c := 32) (y' := [nmB n k]) rfl (by decide) (Px_ch.1.q (Qx_nm h1 h6))
      · rcases ih2 with h | ⟨y, h⟩
        · exact Or.inr ⟨[nmB n k], by rw [h]; rfl⟩
        · exact Or.inr ⟨y ++ [32, nmB n k], by rw [h]; rfl⟩
    · simpa using ⟨ih1, ih2⟩
theorem Px_names {n : Nat} (h1 : 1 ≤ n) (h6 : n ≤ 6) (b : Nat) {y ls} {c : UInt8} {y' : List UInt8} (hy : y = c :: y') (hc : letN c.toNat = false) (h2 : Px y ls) : Px (namesT n b n ++ y) ((namesW n b n).map .w ++ ls) :=
  (Qx_names h1 h6 b n).1.app hy hc h2
def exK (n : Nat) : Ex → List K
  | .nm k => [nmK n k]
  | .any => [.s 46]
  | .set neg b => (if neg then [.s 91, .s 94] else [.s 91]) ++ (namesW n b n).map .w ++ [.s 93]
  | .star a => .s 40 :: (exK n a ++ [.s 41, .s 42])
  | .plus a => .s 40 :: (exK n a ++ [.s 41, .s 43])
  | .opt a => .s 40 :: (exK n a ++ [.s 41, .s 63])
  | .alt a b => .s 40 :: (exK n a ++ .s 124 :: (exK n b ++ [.s 41]))
  | .seq a b => exK n a ++ exK n b
theorem Qx_ex {n : Nat} (h1 : 1 ≤ n) (h6 : n ≤ 6) : ∀ e, Qx (exT n e) (exK n e)
  | .nm k => Qx_nm h1 h6
  | .any => by obtain ⟨_, _, _, _, _, _, _, _, _, _, _, h, _⟩ := Px_ch; exact h.toQ
  | .set neg b => by
    obtain ⟨_, _, _, _, c91, c93, c94, _⟩ := Px_ch
    have hb := Px_names h1 h6 b (y := [93]) rfl (by decide) c93
    simp only [exT, exK]
    rw [List.append_assoc, List.append_assoc]
    cases neg with
    | true => exact ((c91.app c94).app hb).toQ
    | false => exact (c91.app hb).toQ
  | .star a => by
    obtain ⟨_, _, c40, c41, _, _, _, _, c42, _⟩ := Px_ch
    have := c40.app ((Qx_ex h1 h6 a).app (y := [41, 42]) rfl (by decide) (c41.app c42))
    simp only [exT, exK]; rw [List.append_assoc]
    exact this.toQ
  | .plus a => by
    obtain ⟨_, _, c40, c41, _, _, _, _, _, c43, _⟩ := Px_ch
    have := c40.app ((Qx_ex h1 h6 a).app (y := [41, 43]) rfl (by decide) (c41.app c43))
    simp only [exT, exK]; rw [List.append_assoc]
    exact this.toQ
  | .opt a => by
    obtain ⟨_, _, c40, c41, _, _, _, _, _, _, c63, _⟩ := Px_ch
    have := c40.app ((Qx_ex h1 h6 a).app (y := [41, 63]) rfl (by decide) (c41.app c63))
    simp only [exT, exK]; rw [List.append_assoc]
    exact this.toQ
  | .alt a b => by
    obtain ⟨_, _, c40, c41, _, _, _, c124, _⟩ := Px_ch
    have hb := (Qx_ex h1 h6 b).app (y := [41]) rfl (by decide) c41
    have := c40.app ((Qx_ex h1 h6 a).app (y := [124] ++ (exT n b ++ [41])) rfl (by decide) (c124.app hb))
    simp only [exT, exK]; simp only [List.append_assoc]
    exact this.toQ
  | .seq a b => by
    simp only [exT, exK]
    rw [List.append_assoc]
    exact (Qx_ex h1 h6 a).qapp (y := [32] ++ exT n b) rfl (by decide) (Px_ch.1.q (Qx_ex h1 h6 b))
def exOK (n : Nat) : Option Ex → List K
  | none => []
  | some e => exK n e
theorem Qx_exO {n : Nat} (h1 : 1 ≤ n) (h6 : n ≤ 6) : ∀ e, Qx (exOT n e) (exOK n e)
  | none => Px_nil.toQ
  | some e => Qx_ex h1 h6 e
def headK (n : Nat) : List K := .w [99, 108, 97, 115, 115] :: ((namesW n 255 n).map .w ++ [.s 59])
def joinK (n : Nat) (j a : Int) : List K := if j = 0 then [] else .w [106, 111, 105, 110] :: ((namesW n j.toNat n).map .w ++ .s 47 :: ((namesW n a.toNat n).map .w ++ [.s 59]))
def trK (n : Nat) (tr : List Int) : Nat → List K
  | 0 => []
  | k + 1 => trK n tr k ++ [.w [116, 114, 101, 97, 116], nmK n k, .s 61, nmK n (tr.getD k 0).toNat, .s 59]
def doesW (d : Int) : List UInt8 := ([([107, 101, 101, 112] : List UInt8), ([109, 97, 121] : List UInt8), ([109, 117, 115, 116] : List UInt8)] : List (List UInt8)).getD (Int.tmod d 3).toNat []
def ruK (n : Nat) (l : List PR) : Nat → List K
  | 0 => []
  | k + 1 => ruK n l k ++ (.w (doesW (l.getD k pr0).1) :: (exOK n (exO (l.getD k pr0).2.1) ++ .s 47 :: (exOK n (exO (l.getD k pr0).2.2) ++ [.s 59])))
def planK (c j a : Int) (tr : List Int) (l : List PR) : List K := headK (cntP c) ++ (joinK (cntP c) j a ++ (trK (cntP c) tr (min tr.length (cntP c)) ++ ruK (cntP c) l (min l.length 10)))
theorem Px_word {w : List UInt8} (h0 : w ≠ []) (hw : ∀ c ∈ w, letN c.toNat = true) : Px (w ++ [32]) [.w w] := (Qx_wd h0 hw).app (y := [32]) rfl (by decide) Px_ch.1
theorem Px_end : Px [59, 10] [.s 59] := by
  obtain ⟨_, c10, _, _, _, _, _, _, _, _, _, _, c59, _⟩ := Px_ch
  exact c59.app c10
theorem Px_head {n : Nat} (h1 : 1 ≤ n) (h6 : n ≤ 6) : Px (headT n) (headK n) := by
  have hn := Px_names h1 h6 255 (y := [59, 10]) rfl (by decide) Px_end
  have hne : ∃ y, namesT n 255 n = 32 :: y := by
    rcases (Qx_names h1 h6 255 n).2 with h | h
    · exfalso
      match n, h1 with
      | n + 1, _ =>
        simp only [namesT] at h
        have hb : 255 / 2 ^ n % 2 = 1 := by
          have key : ∀ m, m < 6 → 255 / 2 ^ m % 2 = 1 := by decide
          exact key n (by omega)
        rw [if_pos hb] at h
        simp at h
    · exact h
  obtain ⟨y, hy⟩ := hne
  unfold headT headK
  rw [List.append_assoc]
  exact (Qx_wd (w := [99, 108, 97, 115, 115]) (by simp) (by decide)).app (c := 32) (y' := y ++ [59, 10]) (by rw [hy]; rfl) (by decide) hn
theorem Px_join {n : Nat} (h1 : 1 ≤ n) (h6 : n ≤ 6) (j a : Int) : Px (joinT n j a) (headK n ++ joinK n j a) := by
  unfold joinT joinK
  split
  · rw [List.append_nil]; exact Px_head h1 h6
  · obtain ⟨c32, _, _, _, _, _, _, _, _, _, _, _, _, c47, _⟩ := Px_ch
    have h2 := Px_names h1 h6 a.toNat (y := [59, 10]) rfl (by decide) Px_end
    have h3 := (Qx_names h1 h6 j.toNat n).1.app (y := [32, 47] ++ (namesT n a.toNat n ++ [59, 10])) rfl (by decide) ((c32.app c47).app h2)
    have hy : ∃ c y', namesT n j.toNat n ++ ([32, 47] ++ (namesT n a.toNat n ++ [59, 10])) = c :: y' ∧ letN c.toNat = false := by
      rcases (Qx_names h1 h6 j.toNat n).2 with h | ⟨y, h⟩
      · exact ⟨32, 47 :: (namesT n a.toNat n ++ [59, 10]), by rw [h]; rfl, by decide⟩
      · exact ⟨32, _, by rw [h]; rfl, by decide⟩
    obtain ⟨c, y', hy1, hy2⟩ := hy
    have h4 := (Qx_wd (w := [106, 111, 105, 110]) (by simp) (by decide)).app hy1 hy2 h3
    have := (Px_head h1 h6).app h4
    simp only [List.append_assoc] at this ⊢
    exact this
theorem Px_tr {n : Nat} (h1 : 1 ≤ n) (h6 : n ≤ 6) {b ks} (hb : Px b ks) (tr : List Int) : ∀ k, Px (trT b n tr k) (ks ++ trK n tr k)
  | 0 => by rw [show trK n tr 0 = [] from rfl, List.append_nil]; exact hb
  | k + 1 => by
    obtain ⟨c32, _, _, _, _, _, _, _, _, _, _, _, _, _, c61⟩ := Px_ch
    have ih := Px_tr h1 h6 hb tr k
    have w1 := Px_word (w := [116, 114, 101, 97, 116]) (by simp) (by decide)
    have w4 := (Qx_nm (i := (tr.getD k 0).toNat) h1 h6).app (y := [59, 10]) rfl (by decide) Px_end
    have w3 := (c32.app (c61.app c32)).app w4
    have w2 := (Qx_nm (i := k) h1 h6).app (y := [32, 61, 32] ++ ([nmB n (tr.getD k 0).toNat] ++ [59, 10])) rfl (by decide) w3
    have := ih.app (w1.app w2)
    simp only [trT, trK]
    simp only [List.append_assoc] at this ⊢
    exact this
theorem doesW_ok {d : Int} (h : 0 ≤ d) : wordT d = doesW d ++ [32] ∧ doesW d ≠ [] ∧ ∀ c ∈ doesW d, letN c.toNat = true := by
  obtain ⟨m, rfl⟩ := Int.eq_ofNat_of_zero_le h
  have e : Int.tmod ((m : Nat) : Int) (3 : Int) = ((m % 3 : Nat) : Int) := rfl
  unfold wordT doesW
  rw [e, Int.toNat_natCast]
  have hm : m % 3 < 3 := Nat.mod_lt _ (by decide)
  generalize m % 3 = k at hm
  match k, hm with
  | 0, _ => exact ⟨rfl, by decide, by decide⟩
  | 1, _ => exact ⟨rfl, by decide, by decide⟩
  | 2, _ => exact ⟨rfl, by decide, by decide⟩
theorem Px_ru {n : Nat} (h1 : 1 ≤ n) (h6 : n ≤ 6) {b ks} (hb : Px b ks) {l : List PR} (hl : ∀ x ∈ l, 0 ≤ x.1) : ∀ k, k ≤ l.length → Px (ruT b n l k) (ks ++ ruK n l k)
  | 0, _ => by rw [show ruK n l 0 = [] from rfl, List.append_nil]; exact hb
  | k + 1, hk => by
    obtain ⟨c32, _, _, _, _, _, _, _, _, _, _, _, _, c47, _⟩ := Px_ch
    have ih := Px_ru h1 h6 hb hl k (by omega)
    obtain ⟨d1, d2, d3⟩ := doesW_ok (hl _ (getD_mem' (d := pr0) (show k < l.length by omega)))
    have w1 := Px_word d2 d3
    have w4 := (Qx_exO h1 h6 (exO (l.getD k pr0).2.2)).app (y := [59, 10]) rfl (by decide) Px_end
    have w3 := (c32.app (c47.app c32)).app w4
    have w2 := (Qx_exO h1 h6 (exO (l.getD k pr0).2.1)).app (y := [32, 47, 32] ++ (exOT n (exO (l.getD k pr0).2.2) ++ [59, 10])) rfl (by decide) w3
    have := ih.app (w1.app w2)
    simp only [ruT, ruK, d1]
    simp only [List.append_assoc] at this ⊢
    exact this
theorem plan_kd {c j a : Int} {tr : List Int} {l : List PR} (h : Pl c j a tr l) : Px (planT c j a tr l) (planK c j a tr l) := by
  have h1 := cntP_pos c
  have h6 := cntP_le c
  have := Px_ru h1 h6 (Px_tr h1 h6 (Px_join h1 h6 j a) tr (min tr.length (cntP c))) (fun x hx => (h.hl x hx).1.1) (min l.length 10) (Nat.min_le_left _ _)
  unfold planT planK
  simp only [List.append_assoc] at this
  exact this
theorem plan_T {c j a : Int} {tr : List Int} {l : List PR} (h : Pl c j a tr l) : Kd (T (planT c j a tr l) 0) (planK c j a tr l) := by
  have := plan_kd h [] [] Lx_nil 0
  rw [List.append_nil, List.append_nil] at this
  exact this
end Go.Proofs.Ytnjdmbifjbahdaa.T
