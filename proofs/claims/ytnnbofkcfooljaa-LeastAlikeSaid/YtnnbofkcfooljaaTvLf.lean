/- Least: Check lets automata through; Make is number of the last kinds. -/
import Derived.Test.YtnnbofkcfooljaaTvLe
namespace Go.Proofs.Ytnnbofkcfooljaa.T
open Go Go.Tv Go.Proofs

section
variable {nx : List (List Int)} {ot : List Int} {n c : Nat} (h : OkA nx ot n c)
include h

theorem check1 {s : Nat} (hs : s < n) : iter (least_Check_L1 nx (s : Int)) (0 : Int) = some (Sum.inl ()) := by
  have hn := h.hn
  have hc := h.cs
  have hrow := h.row s hs
  exact iter_count (body := least_Check_L1 nx (s : Int)) (fun k => (k : Int)) c (r := Sum.inl ()) (fun k hk => by
    have hw := h.way s k hs hk
    simp only [least_Check_L1, Int.toNat_natCast]
    rw [if_pos (by simp only [decide_eq_true_eq]; omega), if_pos ⟨by omega, by omega⟩, if_neg (by simp only [decide_eq_true_eq]; omega)]
    simp only [Option.bind_some]
    rw [if_neg (by simp only [decide_eq_true_eq]; omega), wrap_i64 (by omega) (by omega)]
    rfl) (by simp only [least_Check_L1, Int.toNat_natCast]; rw [if_neg (by simp only [decide_eq_true_eq]; omega)])

theorem check_true : least_Check nx ot = some true := by
  have hn := h.hn
  have ho := h.ho
  have hp := h.pos
  have hs := h.small
  have hi : iter (least_Check_L2 nx) (0 : Int) = some (Sum.inl ()) := iter_count (body := least_Check_L2 nx) (fun k => (k : Int)) n (r := Sum.inl ()) (fun k hk => by
    simp only [least_Check_L2, Int.toNat_natCast]
    have h0 : (nx.getD ((0 : Int).toNat) ([] : List Int)).length = c := h.row 0 hp
    rw [if_pos (by simp only [hn, decide_eq_true_eq]; omega), if_pos ⟨by omega, by omega⟩, if_pos ⟨by omega, by omega⟩, if_neg (by simp only [h.row k hk, h0]; simp), check1 h hk]
    simp only [Option.bind_some]
    rw [wrap_i64 (by omega) (by omega)]
    rfl) (by simp only [least_Check_L2]; rw [if_neg (by simp [hn])])
  unfold least_Check
  rw [if_neg (by simp only [beq_iff_eq]; omega)]
  simp only [Option.bind_some]
  rw [if_neg (by simp only [bne_iff_ne, ne_eq]; omega), hi]
  rfl

/-- Make of an automaton: number, by kinds that tell just what can be told apart. -/
theorem make_is : ∃ B : Nat → List UInt8, (∀ s t, s < n → t < n → (B s = B t ↔ Leq nx ot c s t)) ∧
    least_Make nx ot = (least_number nx ot ((List.range n).map (kap B n))).bind fun r => some ((r.1, r.2), (0 : Int)) := by
  obtain ⟨B, h1, h2⟩ := kinds_end h
  refine ⟨B, h2, ?_⟩
  unfold least_Make
  rw [check_true h]
  simp only [Option.bind_some, Bool.not_true, Bool.false_eq_true, if_false]
  cases hsp : least_split (ot.length : Int) nx ot with
  | none => rw [hsp] at h1; cases h1
  | some kd =>
    rw [hsp] at h1
    simp only [Option.bind_some] at h1 ⊢
    rw [h1]
    rfl
end
end Go.Proofs.Ytnnbofkcfooljaa.T
