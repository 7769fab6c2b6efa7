/- PlaceEnds: true, whatever the input. -/
import Derived.Test.YtdjjifeipeelhaaTv17h
import Derived.Test.YtdjjifeipeelhaaTvT17xPlaceEnds
namespace Go.Proofs.Ytdjjifeipeelhaa.T
open Go Go.Tv Go.Proofs

section
variable {C : List C4} {O : List Int} {m : List C4} {nb tab : Int} {L : List C4} {K : List (List Int)} {pos : Nat → Int} {cut : Nat → Nat} (h : Pl C O m nb tab L K pos cut)
include h

theorem ends_round {i : Nat} (hi : i < m.length) : stanzalaw17_PlaceEnds_L1 (C, O) m nb tab C O L K (i : Int) = some (Sum.inl ((i + 1 : Nat) : Int)) := by
  obtain ⟨rfl, hn, hc, he⟩ := line_end h hi
  have hl := h.ln i hi
  have hr := h.rows
  have hn1 := h.hn
  obtain ⟨q1, q2⟩ := row_small h hi
  have p := pos_at h hc
  unfold z4 at hl he
  have e1 : IntKind.i64.wrap ((m.length : Int) - 1) = (m.length : Int) - 1 := wrap_i64 (by omega) (by omega)
  have e2 : decide ((i : Int) < (m.length : Int) - 1) = decide (i + 1 < m.length) := by
    by_cases q : i + 1 < m.length
    · rw [decide_eq_true q, decide_eq_true (show (i : Int) < (m.length : Int) - 1 by omega)]
    · rw [decide_eq_false q, decide_eq_false (show ¬ (i : Int) < (m.length : Int) - 1 by omega)]
  have e3 : IntKind.i64.wrap ((i : Int) + 1) = ((i + 1 : Nat) : Int) := by rw [wrap_i64 (by omega) (by omega)]; omega
  simp only [stanzalaw17_PlaceEnds_L1, Int.toNat_natCast, e1, e2, e3]
  rw [if_pos (by simp only [decide_eq_true_eq]; omega), if_pos ⟨by omega, by omega⟩, he]
  simp only [Option.bind_some]
  rw [hl.1, hl.2, refColumns_eq h.hg h.ht q1 q2 hn1]
  simp only [Option.bind_some]
  have s1 := spot_at h hc (decide (i + 1 < m.length))
  rw [rowB_end h hi] at s1
  have e4 : IntKind.i64.wrap (((colL C tab (cut i) (cut (i + 1))).length : Int) - 1) = ((cut (i + 1) - cut i : Nat) : Int) := by rw [colL_len, wrap_i64 (by omega) (by omega)]; omega
  rw [spot_eq h p, s1]
  simp only [Option.bind_some]
  rw [if_neg (by simp), e4, if_pos ⟨by omega, by rw [colL_len]; omega⟩, Int.toNat_natCast, colL_get (by omega)]
  simp only [Option.bind_some]
  rw [if_neg (by simp), spot_eq h p]
  simp only [Option.bind_some]
  rw [if_neg (by simp)]
  by_cases q : i + 1 < m.length
  · have s2 := spot_at h hc false
    rw [rowB_next h q] at s2
    rw [s2]
    simp only [q, decide_true, if_true, Nat.sub_self, colS]
    rw [if_neg (by simp), if_neg (by simp only [beq_iff_eq]; omega)]
    simp
  · have e : decide (i + 1 < m.length) = false := decide_eq_false q
    rw [e] at s1
    rw [s1]
    simp only [e, Bool.false_eq_true, if_false]
    rw [if_pos (by simp only [beq_iff_eq]; omega)]
    simp
end

abbrev placeEnds_Ts : List Ty := [Bits_T, Way_T]
theorem placeEnds_all (x : Tup placeEnds_Ts) (hx : WfT placeEnds_Ts x) : stanzalaw17_PlaceEnds x.1 x.2.1.1 x.2.1.2.1 x.2.1.2.2.1 x.2.1.2.2.2.1 x.2.1.2.2.2.2.1 x.2.1.2.2.2.2.2 = some true := by
  obtain ⟨C, O, m, nb, tab, L, K, pos, cut, h, hm⟩ := made_wf hx.1 hx.2.1
  have hi := iter_count (body := stanzalaw17_PlaceEnds_L1 (C, O) m nb tab C O L K) (fun k => (k : Int)) m.length (r := Sum.inl ()) (fun k hk => ends_round h hk) (by
    simp only [stanzalaw17_PlaceEnds_L1]
    rw [if_neg (by simp)])
  have hi' : iter (stanzalaw17_PlaceEnds_L1 (C, O) m nb tab C O L K) (0 : Int) = some (Sum.inl ()) := hi
  unfold stanzalaw17_PlaceEnds
  rw [awake, hm]
  simp only [Option.bind_some, Bool.not_true, Bool.false_eq_true, if_false]
  rw [hi']
  simp only [Option.bind_some]
  have p := pos_at h (Nat.zero_le C.length)
  have s := spot_at h (Nat.zero_le C.length) true
  have e : rowB cut L.length 0 true = 0 := by
    have hr := h.rows
    rcases Nat.eq_zero_or_pos C.length with e | e
    · have := (row_in h (Nat.zero_le C.length)).2.2.2.2 (by omega)
      have hl := (h.m0 e).2
      unfold rowB
      rw [if_pos (.inl this), this, hl]
      rfl
    · have hc := h.cr e 0 (by omega)
      have h0 := h.c0
      have := rowOf_in h (k := 0) (r := 0) (by omega) (by omega) (by omega)
      unfold rowB
      rw [this, if_neg (by rintro (q | ⟨_, q, _⟩) <;> omega)]
  rw [e, h.c0, h.p0] at s
  rw [h.p0] at p
  rw [spot_eq h p, s]
  rfl
end Go.Proofs.Ytdjjifeipeelhaa.T
