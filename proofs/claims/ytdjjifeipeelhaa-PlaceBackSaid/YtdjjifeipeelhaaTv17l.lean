/- PlaceBack: true, whatever the input. -/
import Derived.Test.YtdjjifeipeelhaaTv17h
import Derived.Test.YtdjjifeipeelhaaTvT17xPlaceBack
namespace Go.Proofs.Ytdjjifeipeelhaa.T
open Go Go.Tv Go.Proofs

/-- Each cluster has cells, or is a tab. -/
def Thick (C : List C4) : Prop := ∀ i, i < C.length → (C.getD i z4).2.2.2 = 2 ∨ 0 < (C.getD i z4).2.2.1

theorem thin_eq {C : List C4} {O : List Int} (hn : C.length ≤ 100) (hg : GoodC C) : ∃ b, iter (stanzalaw17_PlaceBack_L1 (C, O)) (false, (0 : Int)) = some b ∧ (b = false → Thick C) := by
  obtain ⟨r, h1, h2⟩ := iter_rule (body := stanzalaw17_PlaceBack_L1 (C, O)) (fun s => ∃ k : Nat, s.2 = (k : Int) ∧ k ≤ C.length ∧ (s.1 = false → ∀ i, i < k → (C.getD i z4).2.2.2 = 2 ∨ 0 < (C.getD i z4).2.2.1)) (fun s => C.length - s.2.toNat)
    (fun b => b = false → Thick C)
    (fun ⟨b, v⟩ ⟨k, e, hk, hb⟩ => by
      simp only at e hb
      subst e
      simp only [stanzalaw17_PlaceBack_L1, Int.toNat_natCast]
      by_cases q : k < C.length
      · left
        have hgk := hg k
        have e3 : IntKind.i64.wrap ((k : Int) + 1) = ((k + 1 : Nat) : Int) := by rw [wrap_i64 (by omega) (by omega)]; omega
        unfold z4 at hgk hb
        rw [if_pos (by simp only [decide_eq_true_eq]; omega), if_pos ⟨by omega, by omega⟩, e3]
        cases b with
        | true => exact ⟨_, rfl, ⟨k + 1, rfl, q, fun h => by cases h⟩, by simp only [Int.toNat_natCast]; omega⟩
        | false =>
          simp only [Bool.false_eq_true, if_false]
          by_cases q2 : (C.getD k ((0 : Int), ((0 : Int), ((0 : Int), (0 : Int))))).2.2.1 = 0
          · rw [if_pos (by simpa using q2)]
            refine ⟨_, rfl, ⟨k + 1, rfl, q, fun h i hi => ?_⟩, by simp only [Int.toNat_natCast]; omega⟩
            by_cases e : i = k
            · subst e
              simp only [bne_eq_false_iff_eq] at h
              exact .inl h
            · exact hb rfl i (by omega)
          · rw [if_neg (by simpa using q2)]
            refine ⟨_, rfl, ⟨k + 1, rfl, q, fun h i hi => ?_⟩, by simp only [Int.toNat_natCast]; omega⟩
            by_cases e : i = k
            · subst e
              unfold z4
              exact .inr (by omega)
            · exact hb rfl i (by omega)
      · right
        rw [if_neg (by simp only [decide_eq_true_eq]; omega)]
        refine ⟨_, rfl, fun h i hi => hb h i (by omega)⟩)
    (s := (false, (0 : Int))) ⟨0, rfl, Nat.zero_le _, fun _ i hi => absurd hi (by omega)⟩
  exact ⟨r, h1, h2⟩

section
variable {C : List C4} {O : List Int} {m : List C4} {nb tab : Int} {L : List C4} {K : List (List Int)} {pos : Nat → Int} {cut : Nat → Nat} (h : Pl C O m nb tab L K pos cut)
include h

theorem colS_strict (ht : Thick C) (f : Nat) : ∀ {a b : Nat}, a < b → f + b ≤ C.length → colS C tab f a < colS C tab f b
  | a, 0, hab, _ => absurd hab (by omega)
  | a, b + 1, hab, hb => by
    have hc := colS_in h.hg h.ht f b
    have h1 := nextC_gt h.hg h.ht (f + b) (col := colS C tab f b) (ht (f + b) (by omega)) hc.1
    simp only [colS]
    by_cases e : a = b
    · subst e; exact h1
    · have := colS_strict ht f (a := a) (b := b) (by omega) (by omega)
      omega

theorem back_byte {k : Nat} (hk : k ≤ C.length) : ∃ j, j ≤ k - cut (rowB cut L.length k false) ∧ colS C tab (cut (rowB cut L.length k false)) j = colS C tab (cut (rowB cut L.length k false)) (k - cut (rowB cut L.length k false)) ∧
    (Thick C → j = k - cut (rowB cut L.length k false)) ∧
    place_Map_Byte C O L K ((rowB cut L.length k false : Nat) : Int) (colS C tab (cut (rowB cut L.length k false)) (k - cut (rowB cut L.length k false))) = some (pos (cut (rowB cut L.length k false) + j), (0 : Int)) := by
  obtain ⟨b1, b2, b3⟩ := rowB_in h hk false
  generalize rowB cut L.length k false = r at *
  have hc0 := (colS_in h.hg h.ht (cut r) (k - cut r)).1
  obtain ⟨j, ⟨j1, j2, j3, j4⟩, j5⟩ := byte_eq h b1 hc0
  have hcl := h.cut_le (i := r + 1) (by omega)
  have hle : j ≤ k - cut r := by
    rcases Nat.lt_or_ge (k - cut r) j with q | q
    · have hm := colS_mono h.hg h.ht (cut r) (Nat.le_of_lt q)
      have := j4 (by omega) (k - cut r) q
      omega
    · exact q
  have heq : colS C tab (cut r) j = colS C tab (cut r) (k - cut r) := by
    by_cases e : j = k - cut r
    · rw [e]
    · rcases j3 (k - cut r) (by omega) (by omega) with g | ⟨_, g⟩ <;> omega
  refine ⟨j, hle, heq, fun ht => ?_, j5⟩
  rcases Nat.lt_or_ge j (k - cut r) with q | q
  · have := colS_strict h ht (cut r) q (by omega)
    omega
  · omega

theorem back_round {thin : Bool} (ht : thin = false → Thick C) {i : Nat} (hi : i < C.length) : stanzalaw17_PlaceBack_L2 (C, O) m C O L K thin (i : Int) = some (Sum.inl ((i + 1 : Nat) : Int)) := by
  have hm := h.m1 (by omega)
  subst hm
  have hn := h.hn
  obtain ⟨b1, b2, b3⟩ := rowB_in h (k := i) (by omega) false
  obtain ⟨j, j1, j2, j3, j4⟩ := back_byte h (k := i) (by omega)
  have hcl := h.cl i hi
  have s1 := spot_at h (k := i) (by omega) false
  have hro := row_in h (k := i) (by omega)
  have hrb := rowB_in h (k := i) (by omega) false
  have hlt : i < cut (rowB cut m.length i false + 1) := by
    have hne : rowOf cut m.length i ≠ m.length := fun e => by have := hro.2.2.2.1 e; omega
    have e : rowB cut m.length i false = rowOf cut m.length i := by unfold rowB; rw [if_neg (by rintro (q | ⟨q, _⟩); exact hne q; cases q)]
    rw [e]
    exact hro.2.2.1 (by omega)
  generalize rowB cut m.length i false = r at *
  have hln := h.ln r b1
  have hcr := h.cl (cut r) (by omega)
  have hp1 := h.pos_mono (i := cut r) (j := cut r + j) (by omega)
  have hp2 := h.pos_mono (i := cut r + j) (j := i) (by omega)
  have s2 := spot_at h (k := cut r + j) (by omega) false
  rw [rowB_in' h b1 (by omega) (by omega), show cut r + j - cut r = j by omega, j2] at s2
  unfold z4 at hcl hln hcr
  have e3 : IntKind.i64.wrap ((i : Int) + 1) = ((i + 1 : Nat) : Int) := by rw [wrap_i64 (by omega) (by omega)]; omega
  simp only [stanzalaw17_PlaceBack_L2, Int.toNat_natCast, hcl.1]
  rw [if_pos (by simp only [decide_eq_true_eq]; omega), if_pos ⟨by omega, by omega⟩, spot_eq h (pos_at h (by omega)), s1]
  simp only [Option.bind_some]
  rw [j4]
  simp only [Option.bind_some, Int.toNat_natCast, hln.1, hln.2, hcr.1]
  have tail : (if (decide ((r : Int) ≥ (m.length : Int))) = true then some (true)
      else (if 0 ≤ (r : Int) ∧ (r : Int) < (m.length : Int) then (if 0 ≤ (cut r : Int) ∧ (cut r : Int) < (C.length : Int) then (if (decide (pos (cut r + j) < pos (cut r))) = true then some (true)
      else (if 0 ≤ (r : Int) ∧ (r : Int) < (m.length : Int) then (if (decide ((i : Int) < (cut r : Int))) = true then some (true)
      else (if 0 ≤ (r : Int) ∧ (r : Int) < (m.length : Int) then some ((decide ((i : Int) ≥ (cut (r + 1) : Int)))) else none)) else none)) else none) else none) : Option Bool) = some false := by
    rw [if_neg (by simp only [decide_eq_true_eq]; omega), if_pos ⟨by omega, by omega⟩, if_pos ⟨by omega, by omega⟩, if_neg (by simp only [decide_eq_true_eq]; omega), if_pos ⟨by omega, by omega⟩, if_neg (by simp only [decide_eq_true_eq]; omega), if_pos ⟨by omega, by omega⟩]
    congr 1
    simp only [decide_eq_false_iff_not]
    omega
  rw [if_neg (by simp), if_neg (by simp), if_neg (by simp only [decide_eq_true_eq]; omega), tail]
  have htest : (if (!thin) = true then (if (pos (cut r + j) != pos i) = true then some (true) else some false) else some false : Option Bool) = some false := by
    cases thin with
    | true => rfl
    | false =>
      have := j3 (ht rfl)
      have e : cut r + j = i := by omega
      rw [e]
      simp
  rw [htest]
  simp only [Option.bind_some, Bool.false_eq_true, if_false]
  rw [spot_eq h (pos_at h (by omega)), s2]
  simp only [Option.bind_some]
  rw [if_neg (by simp)]
  simp only [Option.bind_some]
  rw [if_neg (by simp), e3]
end

abbrev placeBack_Ts : List Ty := [Bits_T, Way_T]
theorem placeBack_all (x : Tup placeBack_Ts) (hx : WfT placeBack_Ts x) : stanzalaw17_PlaceBack x.1 x.2.1.1 x.2.1.2.1 x.2.1.2.2.1 x.2.1.2.2.2.1 x.2.1.2.2.2.2.1 x.2.1.2.2.2.2.2 = some true := by
  obtain ⟨C, O, m, nb, tab, L, K, pos, cut, h, hm⟩ := made_wf hx.1 hx.2.1
  obtain ⟨thin, ht1, ht2⟩ := thin_eq (O := O) h.hn h.hg
  have hi := iter_count (body := stanzalaw17_PlaceBack_L2 (C, O) m C O L K thin) (fun k => (k : Int)) C.length (r := Sum.inl ()) (fun k hk => back_round h ht2 hk) (by
    simp only [stanzalaw17_PlaceBack_L2]
    rw [if_neg (by simp)])
  have hi' : iter (stanzalaw17_PlaceBack_L2 (C, O) m C O L K thin) (0 : Int) = some (Sum.inl ()) := hi
  obtain ⟨j, j1, j2, j3, j4⟩ := back_byte h (Nat.le_refl C.length)
  have b2 := (rowB_in h (Nat.le_refl C.length) false).2.1
  have s := spot_at h (Nat.le_refl C.length) false
  have p := pos_at h (Nat.le_refl C.length)
  have hp2 := h.pos_mono (i := cut (rowB cut L.length C.length false) + j) (j := C.length) (by omega)
  rw [← h.nb] at s p hp2
  unfold stanzalaw17_PlaceBack
  rw [awake, hm]
  simp only [Option.bind_some, Bool.not_true, Bool.false_eq_true, if_false]
  rw [ht1]
  simp only [Option.bind_some]
  rw [hi']
  simp only [Option.bind_some]
  rw [spot_eq h p, s]
  simp only [Option.bind_some]
  rw [j4]
  simp only [Option.bind_some]
  rw [if_pos (by rfl), if_pos (by rfl), if_pos (by simp only [decide_eq_true_eq]; omega)]
  cases thin with
  | true => rfl
  | false =>
    have := j3 (ht2 rfl)
    simp only [Bool.false_eq_true, if_false, Option.bind_some, Option.some.injEq, beq_iff_eq]
    rw [show cut (rowB cut L.length C.length false) + j = C.length by omega, h.nb]
end Go.Proofs.Ytdjjifeipeelhaa.T
