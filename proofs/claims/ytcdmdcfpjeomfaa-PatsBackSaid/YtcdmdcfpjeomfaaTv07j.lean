/- Patterns: two texts put together. -/
import Derived.Test.YtcdmdcfpjeomfaaTv07h
import Derived.Test.YtcdmdcfpjeomfaaTvT07xPatsJoins
namespace Go.Proofs.Ytcdmdcfpjeomfaa.T
open Go Go.Tv Go.Proofs

theorem spl_join {b : Sgn} (hb : isBl b.1 = true) (v : List Sgn) : ∀ (u cur : List Sgn), spl (u ++ b :: v) cur = spl u cur ++ spl v []
  | [], cur => by
    simp only [List.nil_append, spl, if_pos hb]
    by_cases h : cur.length = 0
    · rw [if_pos h, if_pos h]; rfl
    · rw [if_neg h, if_neg h]; rfl
  | x :: u, cur => by
    simp only [List.cons_append, spl]
    by_cases hx : isBl x.1 = true
    · rw [if_pos hx, if_pos hx]
      by_cases h : cur.length = 0
      · rw [if_pos h, if_pos h, spl_join hb v u]
      · rw [if_neg h, if_neg h, spl_join hb v u]; rfl
    · rw [if_neg hx, if_neg hx, spl_join hb v u]
theorem spl_shf (d : Nat) : ∀ (u cur : List Sgn), spl (u.map (shf d)) (cur.map (shf d)) = (spl u cur).map (List.map (shf d))
  | [], cur => by
    simp only [List.map_nil, spl, List.length_map]
    by_cases h : cur.length = 0
    · rw [if_pos h, if_pos h]; rfl
    · rw [if_neg h, if_neg h]; rfl
  | x :: u, cur => by
    have e : isBl (shf d x).1 = isBl x.1 := rfl
    simp only [List.map_cons, spl, List.length_map, e]
    have h1 := spl_shf d u []
    have h2 := spl_shf d u (cur ++ [x])
    rw [List.map_append] at h2
    by_cases hx : isBl x.1 = true
    · rw [if_pos hx, if_pos hx]
      by_cases h : cur.length = 0
      · rw [if_pos h, if_pos h]; exact h1
      · rw [if_neg h, if_neg h, List.map_cons]; congr 1
    · rw [if_neg hx, if_neg hx]; exact h2
theorem spl_mem : ∀ (l cur : List Sgn) {w : List Sgn}, w ∈ spl l cur → w.length ≠ 0 ∧ ∀ x ∈ w, x ∈ l ∨ x ∈ cur
  | [], cur, w, h => by
    simp only [spl] at h
    split at h
    · cases h
    · rename_i h0; rw [List.mem_singleton.mp h]; exact ⟨h0, fun x hx => .inr hx⟩
  | y :: r, cur, w, h => by
    simp only [spl] at h
    split at h
    · split at h
      · have := spl_mem r [] h
        exact ⟨this.1, fun x hx => by rcases this.2 x hx with q | q; exact .inl (.tail _ q); cases q⟩
      · rename_i h0
        rcases List.mem_cons.mp h with q | q
        · subst q; exact ⟨h0, fun x hx => .inr hx⟩
        · have := spl_mem r [] q
          exact ⟨this.1, fun x hx => by rcases this.2 x hx with q | q; exact .inl (.tail _ q); cases q⟩
    · have := spl_mem r _ h
      exact ⟨this.1, fun x hx => by
        rcases this.2 x hx with q | q
        · exact .inl (.tail _ q)
        · rcases List.mem_append.mp q with q | q
          · exact .inr q
          · rw [List.mem_singleton.mp q]; exact .inl (.head _)⟩
theorem sgF_at {b : List Int} : ∀ (n a : Nat), ∀ s ∈ sgF b n a, 0 ≤ s.2.1
  | 0, _, s, h => by cases h
  | n + 1, a, s, h => by
    simp only [sgF] at h
    split at h
    · rcases List.mem_cons.mp h with q | q
      · subst q; simp only; omega
      · exact sgF_at n _ s q
    · cases h

theorem foldW_err : ∀ (ws : List (List Sgn)) (A B : List Pat) {f : Int × Int}, foldW ws A B = .inr f → f.1 ≠ 0
  | [], A, B, f, h => by simp only [foldW] at h; cases h
  | w :: ws, A, B, f, h => by
    simp only [foldW] at h
    split at h
    · cases h; exact (by decide : (24 : Int) ≠ 0)
    · split at h
      · cases h; exact (by decide : (30 : Int) ≠ 0)
      · split at h
        · split at h
          · cases h; exact (by decide : (23 : Int) ≠ 0)
          · exact foldW_err _ _ _ h
        · exact foldW_err _ _ _ h
theorem foldW_app : ∀ (ws vs : List (List Sgn)) (A B : List Pat), foldW (ws ++ vs) A B = (match foldW ws A B with | .inl (X, Y) => foldW vs X Y | .inr f => .inr f)
  | [], vs, A, B => rfl
  | w :: ws, vs, A, B => by
    simp only [List.cons_append, foldW]
    by_cases h1 : 256 ≤ A.length + B.length
    · rw [if_pos h1, if_pos h1]
    rw [if_neg h1, if_neg h1]
    cases patR (w.map (·.1)) with
    | none => rfl
    | some p =>
      simp only
      by_cases h2 : hasH (w.map (·.1)) = true
      · rw [if_pos h2, if_pos h2]
        by_cases h3 : B.any (fun q => q.1 == p.1) = true
        · rw [if_pos h3, if_pos h3]
        · rw [if_neg h3, if_neg h3, foldW_app]
      · rw [if_neg h2, if_neg h2, foldW_app]
theorem foldW_grow : ∀ (ws : List (List Sgn)) (A B : List Pat) {P : List Pat × List Pat}, foldW ws A B = .inl P → B.length ≤ P.2.length
  | [], A, B, P, h => by simp only [foldW] at h; cases h; exact Nat.le_refl _
  | w :: ws, A, B, P, h => by
    simp only [foldW] at h
    split at h
    · cases h
    · split at h
      · cases h
      · split at h
        · split at h
          · cases h
          · have := foldW_grow _ _ _ h
            simp only [List.length_append, List.length_cons, List.length_nil] at this
            omega
        · exact foldW_grow _ _ _ h

theorem fold_join (d : Nat) (A B : List Pat) : ∀ (ws : List (List Sgn)) (A' B' : List Pat) {A2 B2 : List Pat}, (∀ w ∈ ws, w.length ≠ 0 ∧ ∀ x ∈ w, 0 ≤ x.2.1) → foldW ws A' B' = .inl (A2, B2) →
    foldW (ws.map (List.map (shf d))) (A ++ A') (B ++ B') = .inl (A ++ A2, B ++ B2) ∨ (∃ at1, foldW (ws.map (List.map (shf d))) (A ++ A') (B ++ B') = .inr (24, at1)) ∨
      ∃ at1, foldW (ws.map (List.map (shf d))) (A ++ A') (B ++ B') = .inr (23, at1) ∧ 0 < B.length ∧ 0 < B2.length ∧ (d : Int) ≤ at1
  | [], A', B', A2, B2, _, h => by
    simp only [foldW] at h
    cases h
    exact .inl rfl
  | w :: ws, A', B', A2, B2, hw, h => by
    have hat : (d : Int) ≤ atW (w.map (shf d)) := by
      obtain ⟨h1, h2⟩ := hw w (.head _)
      match w, h1, h2 with
      | x :: w, _, h2 =>
        have := h2 x (.head _)
        show (d : Int) ≤ x.2.1 + (d : Int)
        omega
    have hm : (w.map (shf d)).map (·.1) = w.map (·.1) := by rw [List.map_map]; rfl
    have hw' : ∀ w ∈ ws, w.length ≠ 0 ∧ ∀ x ∈ w, 0 ≤ x.2.1 := fun v hv => hw v (.tail _ hv)
    simp only [foldW] at h
    simp only [List.map_cons, foldW, hm]
    by_cases q0 : 256 ≤ (A ++ A').length + (B ++ B').length
    · rw [if_pos q0]
      exact .inr (.inl ⟨_, rfl⟩)
    rw [if_neg q0]
    rw [if_neg (by simp only [List.length_append] at q0; omega)] at h
    cases hp : patR (w.map (·.1)) with
    | none => rw [hp] at h; cases h
    | some p =>
      rw [hp] at h
      simp only at h ⊢
      by_cases q1 : hasH (w.map (·.1)) = true
      · rw [if_pos q1] at h
        rw [if_pos q1]
        by_cases q2 : B'.any (fun q => q.1 == p.1) = true
        · rw [if_pos q2] at h; cases h
        rw [if_neg q2] at h
        by_cases q3 : (B ++ B').any (fun q => q.1 == p.1) = true
        · rw [if_pos q3]
          refine .inr (.inr ⟨_, rfl, ?_, ?_, hat⟩)
          · rw [List.any_append, Bool.or_eq_true] at q3
            rcases q3 with q | q
            · obtain ⟨x, hx, _⟩ := List.any_eq_true.mp q
              exact List.length_pos_of_mem hx
            · exact absurd q q2
          · have := foldW_grow _ _ _ h
            simp only [List.length_append, List.length_cons, List.length_nil] at this
            omega
        · rw [if_neg q3, List.append_assoc]
          exact fold_join d A B ws A' (B' ++ [p]) hw' h
      · rw [if_neg q1] at h
        rw [if_neg q1, List.append_assoc]
        exact fold_join d A B ws (A' ++ [p]) B' hw' h

theorem Bytes.app {x y : List Int} (hx : Bytes x) (hy : Bytes y) : Bytes (x ++ y) := fun z hz => by
  rcases List.mem_append.mp hz with q | q
  · exact hx z q
  · exact hy z q

theorem parse_ok {t : List UInt8} (h : (parseT t).2.1 = 0) : t.length ≤ 4096 ∧ ∃ A B, foldW (spl (sg (numsOf t)) []) [] [] = .inl (A, B) ∧ parseT t = ((A, B), 0, 0) := by
  unfold parseT at h ⊢
  by_cases q : 4096 < t.length
  · rw [if_pos q] at h; simp at h
  rw [if_neg q] at h ⊢
  refine ⟨by omega, ?_⟩
  rw [sgns_eq (nums_bytes t) (by rw [nums_len]; omega)] at h ⊢
  cases hf : foldW (spl (sg (numsOf t)) []) [] [] with
  | inl p => exact ⟨p.1, p.2, rfl, rfl⟩
  | inr f => rw [hf] at h; exact absurd h (foldW_err _ _ _ hf)

theorem joins (s t : List UInt8) : stanzalaw07_PatsJoins s t = some true := by
  unfold stanzalaw07_PatsJoins
  rw [awake]
  rw [Option.bind_some, if_neg (by simp)]
  split
  · rfl
  rw [parse_eq s, Option.bind_some, parse_eq t]
  simp only [Option.bind_some]
  by_cases h1 : (parseT s).2.1 = 0
  · by_cases h2 : (parseT t).2.1 = 0
    · obtain ⟨hs, A1, B1, f1, p1⟩ := parse_ok h1
      obtain ⟨ht, A2, B2, f2, p2⟩ := parse_ok h2
      rename_i hlen
      rw [wrap_i64 (by omega) (by omega)] at hlen
      simp only [decide_eq_true_eq] at hlen
      have hl : (s ++ [32] ++ t).length ≤ 4096 := by simp only [List.length_append, List.length_cons, List.length_nil]; omega
      have hn : numsOf (s ++ [32] ++ t) = numsOf s ++ 32 :: numsOf t := by
        unfold numsOf
        rw [List.map_append, List.map_append, List.append_assoc]
        rfl
      have hsg : sg (numsOf (s ++ [32] ++ t)) = sg (numsOf s) ++ ((32, (s.length : Int), 1) : Sgn) :: (sg (numsOf t)).map (shf (s.length + 1)) := by
        rw [hn, sg_append (.inr (.inl (by rw [List.getD_cons_zero]; decide))), sg_ascii (by decide), List.map_cons, List.map_map, nums_len]
        congr 1
        have e1 : shf s.length (32, 0, 1) = (32, (s.length : Int), 1) := by unfold shf; simp
        have e2 : shf s.length ∘ shf 1 = shf (s.length + 1) := by
          funext z
          unfold shf
          simp only [Function.comp]
          congr 2
          omega
        rw [e1, e2]
      have hsp : spl (sg (numsOf (s ++ [32] ++ t))) [] = spl (sg (numsOf s)) [] ++ (spl (sg (numsOf t)) []).map (List.map (shf (s.length + 1))) := by
        rw [hsg, spl_join (by rfl)]
        congr 1
        exact spl_shf _ _ []
      have hP : parseT (s ++ [32] ++ t) = resT (foldW ((spl (sg (numsOf t)) []).map (List.map (shf (s.length + 1)))) A1 B1) := by
        unfold parseT
        rw [if_neg (by omega), sgns_eq (nums_bytes _) (by rw [nums_len]; omega), hsp, foldW_app, f1]
      have hj := fold_join (s.length + 1) A1 B1 (spl (sg (numsOf t)) []) [] [] (fun w hw => by
        have := spl_mem _ _ hw
        exact ⟨this.1, fun x hx => by
          rcases this.2 x hx with q | q
          · exact sgF_at _ _ x q
          · cases q⟩) f2
      rw [List.append_nil, List.append_nil] at hj
      have hS1 := parse_short s
      have hS2 := parse_short t
      rw [p1] at hS1
      rw [p2] at hS2
      simp only at hS1 hS2
      rw [p1, p2]
      simp only [bne_self_eq_false, Bool.false_eq_true, if_false, Option.bind_some, List.nil_append, List.length_nil, Nat.zero_add]
      rw [parse_eq (s ++ [32] ++ t), hP]
      rw [if_pos (by simp only [List.length_cons, List.length_nil]; omega), if_pos (by simp only [List.length_append, List.length_cons, List.length_nil] at hl ⊢; omega)]
      simp only [Option.bind_some]
      rcases hj with q | ⟨at1, q⟩ | ⟨at1, q, q1, q2, q3⟩
      · have hsA : Short (A1 ++ A2) := fun z hz => by
          rcases List.mem_append.mp hz with q | q
          · exact hS1.1 z q
          · exact hS2.1 z q
        have hsB : Short (B1 ++ B2) := fun z hz => by
          rcases List.mem_append.mp hz with q | q
          · exact hS1.2.1 z q
          · exact hS2.2.1 z q
        rw [q]
        simp only [resT, bne_self_eq_false, Bool.false_eq_true, if_false]
        rw [samepat_self hsA (by rw [List.length_append]; omega), samepat_self hsB (by rw [List.length_append]; omega), if_pos ⟨by omega, by omega⟩, if_pos ⟨by omega, by omega⟩, if_pos ⟨by omega, by omega⟩, if_pos ⟨by omega, by omega⟩]
        rfl
      · rw [q]
        rfl
      · rw [q]
        simp only [resT]
        have e1 : decide ((B1.length : Int) > 0) = true := by simp only [decide_eq_true_eq]; omega
        have e2 : decide ((B2.length : Int) > 0) = true := by simp only [decide_eq_true_eq]; omega
        have e3 : decide (at1 > (s.length : Int)) = true := by simp only [decide_eq_true_eq]; omega
        simp only [e1, e2, if_true]
        show ((if decide (at1 > (s.length : Int)) = true then some true else some ((23 : Int) == 24)).bind fun v2 => some v2) = some true
        rw [if_pos e3]
        rfl
    · have e1 : ((parseT s).2.1 != 0) = false := by simp [h1]
      have e2 : ((parseT t).2.1 != 0) = true := by simpa using h2
      simp only [e1, e2, Bool.false_eq_true, if_false, Option.bind_some, if_true]
  · have e1 : ((parseT s).2.1 != 0) = true := by simpa using h1
    simp only [e1, if_true, Option.bind_some]

abbrev patsJoins_Ts : List Ty := [.str, .str]
theorem patsJoins_all (x : Tup patsJoins_Ts) (hx : WfT patsJoins_Ts x) : stanzalaw07_PatsJoins x.1 x.2.1 = some true := by
  have _ := hx
  exact joins x.1 x.2.1
end Go.Proofs.Ytcdmdcfpjeomfaa.T
