/- PlaceSnaps: true, whatever the input. -/
import Derived.Test.YtdjjifeipeelhaaTv17h
import Derived.Test.YtdjjifeipeelhaaTvT17xPlaceSnaps
namespace Go.Proofs.Ytdjjifeipeelhaa.T
open Go Go.Tv Go.Proofs

/-- A further column leads no further back. -/
theorem IsByte.mono {col : Nat → Int} {n : Nat} {s s' : Int} {i k : Nat} (hss : s ≤ s') (hi : IsByte col n s i) (hk : IsByte col n s' k) : i ≤ k := by
  rcases Nat.lt_or_ge k i with q | q
  · obtain ⟨i1, i2, i3, i4⟩ := hi
    obtain ⟨k1, k2, k3, k4⟩ := hk
    rcases k3 i q i1 with g | ⟨g1, g2⟩
    · omega
    · have := i4 (by omega) k q
      omega
  · exact q

section
variable {C : List C4} {O : List Int} {m : List C4} {nb tab : Int} {L : List C4} {K : List (List Int)} {pos : Nat → Int} {cut : Nat → Nat} (h : Pl C O m nb tab L K pos cut)
include h

theorem snaps_L1 {i : Nat} (hi : i < m.length) : iter (stanzalaw17_PlaceSnaps_L1 m C O L K (i : Int) (pos (cut (i + 1)))) (pos (cut i), (0 : Int)) = some (Sum.inl ()) := by
  obtain ⟨rfl, hn, hc, _⟩ := line_end h hi
  have hr := h.rows
  have hn1 := h.hn
  obtain ⟨q1, q2⟩ := row_small h hi
  have hpm : ∀ a b, a ≤ b → pos a + (b - a : Nat) ≤ pos b := fun a b hab => h.pos_mono hab
  obtain ⟨r, h1, h2⟩ := iter_rule (body := stanzalaw17_PlaceSnaps_L1 m C O m K (i : Int) (pos (cut (i + 1)))) (fun s => ∃ c : Nat, s.2 = (c : Int) ∧ c ≤ 300 ∧ ∃ j : Nat, s.1 = pos (cut i + j) ∧ (c = 0 ∧ j = 0 ∨ 0 < c ∧ IsByte (colS C tab (cut i)) (cut (i + 1) - cut i) ((c - 1 : Nat) : Int) j)) (fun s => 300 - s.2.toNat) (fun r => r = Sum.inl ())
    (fun ⟨p, cc⟩ ⟨c, e, hc3, j, ej, hj⟩ => by
      simp only at e ej
      subst e ej
      simp only [stanzalaw17_PlaceSnaps_L1]
      by_cases hlt : c < 300
      · left
        obtain ⟨k, k1, k2⟩ := byte_eq h (r := i) (c := (c : Int)) hi (by omega)
        have hjk : j ≤ k := by
          rcases hj with ⟨_, e⟩ | ⟨_, e⟩
          · omega
          · exact e.mono (by omega) k1
        have hk := k1.1
        have hp1 := hpm (cut i + j) (cut i + k) (by omega)
        have hp2 := hpm (cut i + k) (cut (i + 1)) (by omega)
        have e3 : IntKind.i64.wrap ((c : Int) + 1) = ((c + 1 : Nat) : Int) := by rw [wrap_i64 (by omega) (by omega)]; omega
        have e2 : decide ((i : Int) < IntKind.i64.wrap ((m.length : Int) - 1)) = decide (i + 1 < m.length) := by
          rw [wrap_i64 (by omega) (by omega)]
          by_cases q : i + 1 < m.length
          · rw [decide_eq_true q, decide_eq_true (show (i : Int) < (m.length : Int) - 1 by omega)]
          · rw [decide_eq_false q, decide_eq_false (show ¬ (i : Int) < (m.length : Int) - 1 by omega)]
        rw [if_pos (by simp only [decide_eq_true_eq]; omega), k2]
        simp only [Option.bind_some]
        rw [if_neg (by simp), if_neg (by simp only [decide_eq_true_eq]; omega)]
        simp only [Option.bind_some]
        rw [if_neg (by simp only [decide_eq_true_eq]; omega), e2, e3]
        have hspot : (if (pos (cut i + k) == pos (cut (i + 1))) = true then ((place_Map_Spot C O m K (pos (cut i + k)) (decide (i + 1 < m.length))).bind fun ((r181, r182) : (Int × Int) × Int) => some ((r181.1, r181.2, r182)))
            else ((place_Map_Spot C O m K (pos (cut i + k)) false).bind fun ((r183, r184) : (Int × Int) × Int) => some ((r183.1, r183.2, r184)))) = some ((i : Int), colS C tab (cut i) k, (0 : Int)) := by
          by_cases q : cut i + k = cut (i + 1)
          · have s1 := spot_at h hc (decide (i + 1 < m.length))
            rw [rowB_end h hi] at s1
            rw [q, if_pos (by simp), spot_eq h (pos_at h hc), s1]
            have e4 : cut (i + 1) - cut i = k := by omega
            simp only [Option.bind_some, e4]
          · have s1 := spot_at h (k := cut i + k) (by omega) false
            rw [rowB_in' h hi (by omega) (by omega)] at s1
            have hne : pos (cut i + k) ≠ pos (cut (i + 1)) := fun e => by
              have := hpm (cut i + k + 1) (cut (i + 1)) (by omega)
              have := h.pr (cut i + k)
              omega
            rw [if_neg (by simpa using hne), spot_eq h (pos_at h (by omega)), s1]
            have e4 : cut i + k - cut i = k := by omega
            simp only [Option.bind_some, e4]
        rw [hspot]
        simp only [Option.bind_some]
        have hcol := k1.2.1
        rw [if_neg (by simp), if_neg (by simp)]
        simp only [Option.bind_some]
        rw [if_neg (by simp only [decide_eq_true_eq]; omega)]
        exact ⟨_, rfl, ⟨c + 1, rfl, by omega, k, rfl, .inr ⟨by omega, by simpa using k1⟩⟩, by simp only [Int.toNat_natCast]; omega⟩
      · right
        rw [if_neg (by simp only [decide_eq_true_eq]; omega)]
        exact ⟨_, rfl, rfl⟩)
    (s := (pos (cut i), (0 : Int))) ⟨0, rfl, by omega, 0, rfl, .inl ⟨rfl, rfl⟩⟩
  rw [h1, h2]

theorem snaps_far {i : Nat} (hi : i < m.length) {c : Int} (hc : 100000 ≤ c) : place_Map_Byte C O L K (i : Int) c = some (pos (cut (i + 1)), (0 : Int)) := by
  obtain ⟨rfl, hn, _, _⟩ := line_end h hi
  have hn1 := h.hn
  obtain ⟨q1, q2⟩ := row_small h hi
  obtain ⟨k, ⟨k1, k2, k3, k4⟩, k5⟩ := byte_eq h (r := i) (c := c) hi (by omega)
  rw [k5]
  have e : k = cut (i + 1) - cut i := by
    rcases Nat.lt_or_ge k (cut (i + 1) - cut i) with q | q
    · have hb := colS_in h.hg h.ht (cut i) (cut (i + 1) - cut i)
      rcases k3 _ q (Nat.le_refl _) with g | ⟨g, _⟩ <;> omega
    · omega
  rw [e, show cut i + (cut (i + 1) - cut i) = cut (i + 1) by omega]

theorem snaps_L2 {far : Int} (hfar : 0 ≤ far ∧ far ≤ 65535) : iter (stanzalaw17_PlaceSnaps_L2 far (C, O) m nb C O L K) (0 : Int) = some (Sum.inl ()) := by
  obtain ⟨r, h1, h2⟩ := iter_rule (body := stanzalaw17_PlaceSnaps_L2 far (C, O) m nb C O L K) (fun v => ∃ i : Nat, v = (i : Int)) (fun v => m.length - v.toNat) (fun r => r = Sum.inl ())
    (fun v ⟨i, e⟩ => by
      subst e
      simp only [stanzalaw17_PlaceSnaps_L2, Int.toNat_natCast]
      by_cases hi : i < m.length
      · by_cases h20 : (i : Int) > 20
        · right
          rw [if_pos (by simp only [decide_eq_true_eq]; omega), if_pos ⟨by omega, by omega⟩, if_pos (by simpa using h20)]
          exact ⟨_, rfl, rfl⟩
        · left
          obtain ⟨e0, hn, hc, he⟩ := line_end h hi
          have hl := h.ln i (by rw [← e0]; exact hi)
          rw [← e0] at hl
          obtain ⟨q1, q2⟩ := row_small h (r := i) (by rw [← e0]; exact hi)
          have hlt := h.cr hn i (by rw [← e0]; exact hi)
          have hcl := h.cl (cut i) (by omega)
          unfold z4 at hl he hcl
          have e3 : IntKind.i64.wrap ((i : Int) + 1) = ((i + 1 : Nat) : Int) := by rw [wrap_i64 (by omega) (by omega)]; omega
          have e4 : IntKind.i64.wrap (1073741824 + IntKind.i64.wrap far) = 1073741824 + far := by rw [wrap_i64 (x := far) (by omega) (by omega), wrap_i64 (by omega) (by omega)]
          rw [if_pos (by simp only [decide_eq_true_eq]; omega), if_pos ⟨by omega, by omega⟩, if_neg (by simpa using h20), he]
          simp only [Option.bind_some]
          rw [hl.1, if_pos ⟨by omega, by omega⟩, Int.toNat_natCast, hcl.1, snaps_L1 h hi]
          simp only [Option.bind_some]
          rw [e4, snaps_far h hi (by omega)]
          simp only [Option.bind_some]
          rw [if_neg (by simp)]
          simp only [Option.bind_some]
          rw [if_neg (by simp), e3]
          exact ⟨_, rfl, ⟨i + 1, rfl⟩, by simp only [Int.toNat_natCast]; omega⟩
      · right
        rw [if_neg (by simp only [decide_eq_true_eq]; omega)]
        exact ⟨_, rfl, rfl⟩)
    (s := (0 : Int)) ⟨0, rfl⟩
  rw [h1, h2]
end

abbrev placeSnaps_Ts : List Ty := [Bits_T, Way_T, .int .u16]
theorem placeSnaps_all (x : Tup placeSnaps_Ts) (hx : WfT placeSnaps_Ts x) : stanzalaw17_PlaceSnaps x.1 x.2.1.1 x.2.1.2.1 x.2.1.2.2.1 x.2.1.2.2.2.1 x.2.1.2.2.2.2.1 x.2.1.2.2.2.2.2 x.2.2.1 = some true := by
  obtain ⟨C, O, m, nb, tab, L, K, pos, cut, h, hm⟩ := made_wf hx.1 hx.2.1
  unfold stanzalaw17_PlaceSnaps
  rw [awake, hm]
  simp only [Option.bind_some, Bool.not_true, Bool.false_eq_true, if_false]
  rw [snaps_L2 h (far := x.2.2.1) hx.2.2.1]
  rfl
end Go.Proofs.Ytdjjifeipeelhaa.T
