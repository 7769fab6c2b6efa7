/- Patterns: as many as may be. -/
import Derived.Test.YtcdmdcfpjeomfaaTv07h
import Derived.Test.YtcdmdcfpjeomfaaTvT07xPatsLimits
namespace Go.Proofs.Ytcdmdcfpjeomfaa.T
open Go Go.Tv Go.Proofs

def ascS : List Int → Nat → List Sgn
  | [], _ => []
  | c :: r, j => (c, ((j : Nat) : Int), 1) :: ascS r (j + 1)
theorem asc_shift (d : Nat) : ∀ (l : List Int) (j : Nat), (ascS l j).map (shf d) = ascS l (j + d)
  | [], _ => rfl
  | c :: r, j => by
    simp only [ascS, List.map_cons]
    rw [asc_shift d r, show j + 1 + d = j + d + 1 by omega]
    congr 1
theorem sg_asc : ∀ (l : List Int), (∀ c ∈ l, c < 128) → sg l = ascS l 0
  | [], _ => rfl
  | c :: r, h => by
    rw [sg_ascii (h c (.head _)), sg_asc r (fun x hx => h x (.tail _ hx)), asc_shift]
    rfl
def ascP (t : List UInt8) : (List Pat × List Pat) × Int × Int := resT (foldW (spl (ascS (numsOf t) 0) []) [] [])
theorem parse_asc {t : List UInt8} (h : (numsOf t).all (fun c => decide (c < 128)) = true) (hl : t.length ≤ 4096) : parseT t = ascP t := by
  unfold parseT ascP
  rw [if_neg (by omega), sgns_eq (nums_bytes t) (by rw [nums_len]; omega), sg_asc _ (fun c hc => of_decide_eq_true (List.all_eq_true.mp h c hc))]

def asc (t : List UInt8) : Bool := (numsOf t).all (fun c => decide (c < 128)) && decide (t.length ≤ 4096)
def chk0 (t : List UInt8) : Bool := asc t && (ascP t).2.1 == 0
def chk1 (t : List UInt8) (at1 n : Int) : Bool := asc t && ((ascP t).2.1 == n && (ascP t).2.2 == at1 && (ascP t).1.1.length == 0)

set_option linter.unusedSimpArgs false
theorem lim00 : (iter (stanzalaw07_PatsLimits_L1 0) (([] : List UInt8), (0 : Int), (0 : Int))).map (fun r => chk0 r.1) = some true := by kernel_rfl
theorem lim01 : (iter (stanzalaw07_PatsLimits_L1 1) (([] : List UInt8), (0 : Int), (0 : Int))).map (fun r => chk1 r.1 r.2 24) = some true := by kernel_rfl
theorem lim10 : (iter (stanzalaw07_PatsLimits_L2 0) (([97, 98, 32] : List UInt8), (0 : Int))).map (fun r => chk0 r) = some true := by kernel_rfl
theorem lim11 : (iter (stanzalaw07_PatsLimits_L2 1) (([97, 98, 32] : List UInt8), (0 : Int))).map (fun r => chk1 r 3 30) = some true := by kernel_rfl

theorem L1_mod (i : Int) : stanzalaw07_PatsLimits_L1 i = stanzalaw07_PatsLimits_L1 (Int.tmod i 2) := by
  funext ⟨a, b, c⟩
  have e : Int.tmod (Int.tmod i 2) 2 = Int.tmod i 2 := by simp
  simp only [stanzalaw07_PatsLimits_L1, e]
theorem L2_mod (i : Int) : stanzalaw07_PatsLimits_L2 i = stanzalaw07_PatsLimits_L2 (Int.tmod i 2) := by
  funext ⟨a, b⟩
  have e : Int.tmod (Int.tmod i 2) 2 = Int.tmod i 2 := by simp
  simp only [stanzalaw07_PatsLimits_L2, e]

abbrev patsLimits_Ts : List Ty := [(.int .u8), (.int .u8)]
theorem patsLimits_all (x : Tup patsLimits_Ts) (hx : WfT patsLimits_Ts x) : stanzalaw07_PatsLimits x.1 x.2.1 = some true := by
  obtain ⟨d, i, ⟨⟩⟩ := x
  have hd : 0 ≤ d := hx.1.1
  have hi : 0 ≤ i := hx.2.1.1
  unfold stanzalaw07_PatsLimits
  simp only
  rw [awake, L1_mod, L2_mod]
  simp only [Option.bind_some, Bool.not_true, Bool.false_eq_true, if_false, told_eq]
  have hd2 : Int.tmod d 2 = 0 ∨ Int.tmod d 2 = 1 := by rw [Int.tmod_eq_emod_of_nonneg hd]; omega
  have hi2 : Int.tmod i 2 = 0 ∨ Int.tmod i 2 = 1 := by rw [Int.tmod_eq_emod_of_nonneg hi]; omega
  rw [if_pos (by decide), if_pos (by decide)]
  have w0 : IntKind.i64.wrap 0 = 0 := by decide
  have w1 : IntKind.i64.wrap 1 = 1 := by decide
  have c0 : ∀ t, chk0 t = true → pats_Parse t = some (parseT t) ∧ (parseT t).2.1 = 0 := fun t h => by
    unfold chk0 asc at h
    simp only [Bool.and_eq_true, beq_iff_eq, decide_eq_true_eq] at h
    exact ⟨parse_eq t, by rw [parse_asc h.1.1 h.1.2, h.2]⟩
  have c1 : ∀ t at1 n, chk1 t at1 n = true → pats_Parse t = some (parseT t) ∧ (parseT t).2.1 = n ∧ (parseT t).2.2 = at1 ∧ (parseT t).1.1.length = 0 := fun t at1 n h => by
    unfold chk1 asc at h
    simp only [Bool.and_eq_true, beq_iff_eq, decide_eq_true_eq] at h
    rw [parse_asc h.1.1 h.1.2]
    exact ⟨by rw [← parse_asc h.1.1 h.1.2]; exact parse_eq t, h.2.1.1, h.2.1.2, h.2.2⟩
  rcases hd2 with hd2 | hd2 <;> rcases hi2 with hi2 | hi2 <;> rw [hd2, hi2]
  · obtain ⟨⟨t, a⟩, r1, r2⟩ := Option.map_eq_some_iff.mp lim00
    obtain ⟨p1, p2⟩ := c0 t r2
    rw [r1]
    simp only [w0, beq_self_eq_true, if_true, Option.bind_some, show ((0 : Int) == 1) = false from rfl, show ((1 : Int) == 0) = false from rfl, Bool.false_eq_true, if_false, p1, p2]
  · obtain ⟨⟨t, a⟩, r1, r2⟩ := Option.map_eq_some_iff.mp lim01
    obtain ⟨p1, p2, p3, p4⟩ := c1 t a 24 r2
    rw [r1]
    simp only [w1, Option.bind_some, show ((1 : Int) == 0) = false from rfl, Bool.false_eq_true, if_false, p1, p2, p3, p4, beq_self_eq_true, if_true, Bool.and_self]
    rfl
  · obtain ⟨t, r1, r2⟩ := Option.map_eq_some_iff.mp lim10
    obtain ⟨p1, p2⟩ := c0 t r2
    rw [r1]
    simp only [w0, beq_self_eq_true, if_true, Option.bind_some, show ((0 : Int) == 1) = false from rfl, show ((1 : Int) == 0) = false from rfl, Bool.false_eq_true, if_false, p1, p2]
  · obtain ⟨t, r1, r2⟩ := Option.map_eq_some_iff.mp lim11
    obtain ⟨p1, p2, p3, p4⟩ := c1 t 3 30 r2
    rw [r1]
    simp only [w1, Option.bind_some, show ((1 : Int) == 0) = false from rfl, Bool.false_eq_true, if_false, p1, p2, p3, p4, beq_self_eq_true, if_true, Bool.and_self]
    rfl
end Go.Proofs.Ytcdmdcfpjeomfaa.T
