/- PlaceRises: true, whatever the input. -/
import Derived.Test.YtdjjifeipeelhaaTv17h
import Derived.Test.YtdjjifeipeelhaaTvT17xPlaceRises
namespace Go.Proofs.Ytdjjifeipeelhaa.T
open Go Go.Tv Go.Proofs

theorem rowB_false {cut : Nat → Nat} {R k : Nat} : rowB cut R k false = if rowOf cut R k = R then R - 1 else rowOf cut R k := by
  unfold rowB
  by_cases q : rowOf cut R k = R
  · rw [if_pos (.inl q), if_pos q, q]
  · rw [if_neg (by rintro (q' | ⟨q', _⟩); exact q q'; cases q'), if_neg q]

theorem spot_back {cut : Nat → Nat} {R k : Nat} : rowB cut R k true = rowB cut R k false ∨ rowB cut R k true + 1 = rowB cut R k false := by
  unfold rowB
  by_cases q : rowOf cut R k = R
  · left; rw [if_pos (.inl q), if_pos (.inl q)]
  · rw [if_neg (c := _ ∨ (false = true ∧ _)) (by rintro (q' | ⟨q', _⟩); exact q q'; cases q')]
    by_cases q2 : 0 < rowOf cut R k ∧ cut (rowOf cut R k) = k
    · right; rw [if_pos (.inr ⟨rfl, q2⟩)]; omega
    · left; rw [if_neg (by rintro (q' | ⟨_, q'⟩); exact q q'; exact q2 q')]

section
variable {C : List C4} {O : List Int} {m : List C4} {nb tab : Int} {L : List C4} {K : List (List Int)} {pos : Nat → Int} {cut : Nat → Nat} (h : Pl C O m nb tab L K pos cut)
include h

theorem rowOf_mono {k l : Nat} (hkl : k ≤ l) (hl : l ≤ C.length) : rowOf cut L.length k ≤ rowOf cut L.length l := by
  rcases Nat.lt_or_ge (rowOf cut L.length l) (rowOf cut L.length k) with q | q
  · have h1 := firstN_lt (fun j => decide (cut (j + 1) > k)) L.length q
    obtain ⟨r1, r2, r3, r4⟩ := row_in h hl
    have h2 := (row_in h (k := k) (by omega)).1
    have h3 := r3 (by omega)
    simp only [decide_eq_false_iff_not] at h1
    omega
  · exact q

/-- Spots rise. -/
theorem spot_rise {k l : Nat} (hkl : k ≤ l) (hl : l ≤ C.length) : rowB cut L.length k false ≤ rowB cut L.length l false ∧ (rowB cut L.length k false = rowB cut L.length l false → colS C tab (cut (rowB cut L.length k false)) (k - cut (rowB cut L.length k false)) ≤ colS C tab (cut (rowB cut L.length l false)) (l - cut (rowB cut L.length l false))) := by
  have hm := rowOf_mono h hkl hl
  have h1 := (row_in h (k := k) (by omega)).1
  have h2 := (row_in h hl).1
  have hr := h.rows
  refine ⟨?_, fun e => ?_⟩
  · rw [rowB_false, rowB_false]
    split <;> split <;> omega
  · rw [e]
    exact colS_mono h.hg h.ht _ (by omega)

theorem rises_L1 {at1 : Int} (ha : 0 ≤ at1 ∧ at1 ≤ nb) {k0 : Nat} (hk : k0 ≤ cluOf pos C.length at1) : iter (stanzalaw17_PlaceRises_L1 (C, O) at1) (k0 : Int) = some ((cluOf pos C.length at1 : Nat) : Int) := by
  have hn := h.hn
  obtain ⟨c1, c2, c3, c4⟩ := clu_in h ha
  generalize hc : cluOf pos C.length at1 = c at *
  have hi := iter_count (body := stanzalaw17_PlaceRises_L1 (C, O) at1) (fun k => ((k0 + k : Nat) : Int)) (c - k0) (r := (c : Int)) (fun k hk => by
    have hcl := h.cl (k0 + k) (by omega)
    unfold z4 at hcl
    have p1 := h.pos_in (k0 + k)
    have p2 := h.pos_in (k0 + k + 1)
    have hle : pos (k0 + k + 1) ≤ at1 := by
      have := h.pos_mono (i := k0 + k + 1) (j := c) (by omega)
      omega
    simp only [stanzalaw17_PlaceRises_L1, Int.toNat_natCast, hcl.1, hcl.2]
    have e : pos (k0 + k) + (pos (k0 + k + 1) - pos (k0 + k)) = pos (k0 + k + 1) := by omega
    rw [if_pos (by simp only [decide_eq_true_eq]; omega), if_pos ⟨by omega, by omega⟩, if_pos ⟨by omega, by omega⟩, e, wrap_i64 (x := pos (k0 + k + 1)) (by omega) (by omega)]
    simp only [Option.bind_some]
    rw [if_pos (by simpa using hle), wrap_i64 (by omega) (by omega)]
    congr 2) (by
      have e0 : k0 + (c - k0) = c := by omega
      simp only [stanzalaw17_PlaceRises_L1, e0, Int.toNat_natCast]
      by_cases q : c < C.length
      · have hcl := h.cl c q
        unfold z4 at hcl
        have p1 := h.pos_in c
        have p2 := h.pos_in (c + 1)
        have := c3 q
        simp only [hcl.1, hcl.2]
        have e : pos c + (pos (c + 1) - pos c) = pos (c + 1) := by omega
        rw [if_pos (by simp only [decide_eq_true_eq]; omega), if_pos ⟨by omega, by omega⟩, if_pos ⟨by omega, by omega⟩, e, wrap_i64 (x := pos (c + 1)) (by omega) (by omega)]
        simp only [Option.bind_some]
        rw [if_neg (by simp only [decide_eq_true_eq]; omega)]
      · rw [if_neg (by simp only [decide_eq_true_eq]; omega)]
        rfl)
  exact hi

/-- The spot ahead of a byte's. -/
def lastS (C : List C4) (tab : Int) (L : List C4) (pos : Nat → Int) (cut : Nat → Nat) (a : Nat) : Int × Int := if a = 0 then ((0 : Int), (0 : Int)) else spotS C tab L pos cut ((a - 1 : Nat) : Int) false
def lastK (pos : Nat → Int) (n : Nat) (a : Nat) : Nat := if a = 0 then 0 else cluOf pos n ((a - 1 : Nat) : Int)

theorem rises_round {a : Nat} (ha : (a : Int) ≤ nb) : stanzalaw17_PlaceRises_L2 (C, O) nb C O L K ((lastS C tab L pos cut a).1, (lastS C tab L pos cut a).2, (lastK pos C.length a : Int), (a : Int)) =
    some (Sum.inl ((lastS C tab L pos cut (a + 1)).1, (lastS C tab L pos cut (a + 1)).2, (lastK pos C.length (a + 1) : Int), ((a + 1 : Nat) : Int))) := by
  have hn := h.hn
  have hpn := h.pos_in C.length
  have hnb := h.nb
  obtain ⟨c1, c2, c3, c4⟩ := clu_in h (at1 := (a : Int)) ⟨by omega, ha⟩
  have hlast : lastS C tab L pos cut (a + 1) = spotS C tab L pos cut (a : Int) false := by unfold lastS; rw [if_neg (by omega)]; rfl
  have hlk : lastK pos C.length (a + 1) = cluOf pos C.length (a : Int) := by unfold lastK; rw [if_neg (by omega)]; rfl
  have hkle : lastK pos C.length a ≤ cluOf pos C.length (a : Int) := by
    unfold lastK
    split
    · exact Nat.zero_le _
    · rename_i h0
      obtain ⟨d1, d2, d3, d4⟩ := clu_in h (at1 := ((a - 1 : Nat) : Int)) ⟨by omega, by omega⟩
      rcases Nat.lt_or_ge (cluOf pos C.length (a : Int)) (cluOf pos C.length ((a - 1 : Nat) : Int)) with q | q
      · have := c3 (by omega)
        have := h.pos_mono (i := cluOf pos C.length (a : Int) + 1) (j := cluOf pos C.length ((a - 1 : Nat) : Int)) (by omega)
        omega
      · exact q
  -- rows
  have hrise : (lastS C tab L pos cut a).1 ≤ (spotS C tab L pos cut (a : Int) false).1 ∧ ((spotS C tab L pos cut (a : Int) false).1 = (lastS C tab L pos cut a).1 → (lastS C tab L pos cut a).2 ≤ (spotS C tab L pos cut (a : Int) false).2) := by
    unfold lastS
    split
    · refine ⟨by unfold spotS; simp only; omega, fun _ => ?_⟩
      unfold spotS
      exact (colS_in h.hg h.ht _ _).1
    · rename_i h0
      have hk2 : lastK pos C.length a = cluOf pos C.length ((a - 1 : Nat) : Int) := by unfold lastK; rw [if_neg h0]
      rw [hk2] at hkle
      obtain ⟨s1, s2⟩ := spot_rise h hkle c1
      unfold spotS
      simp only
      refine ⟨by omega, fun e => s2 (by omega)⟩
  have hin : cluOf pos C.length (a : Int) < C.length → pos (cluOf pos C.length (a : Int)) < (a : Int) → spotS C tab L pos cut (a : Int) false = lastS C tab L pos cut a := fun q1 q2 => by
    have hp := h.pos_in (cluOf pos C.length (a : Int))
    have e : cluOf pos C.length ((a - 1 : Nat) : Int) = cluOf pos C.length (a : Int) := clu_of h c1 (by omega) (fun q => by have := c3 q; omega)
    unfold lastS
    rw [if_neg (by omega)]
    unfold spotS
    rw [e]
  have hb := spot_back (cut := cut) (R := L.length) (k := cluOf pos C.length (a : Int))
  have hbs : (spotS C tab L pos cut (a : Int) true).1 ≤ (spotS C tab L pos cut (a : Int) false).1 ∧ (spotS C tab L pos cut (a : Int) false).1 - 1 ≤ (spotS C tab L pos cut (a : Int) true).1 ∧ ((spotS C tab L pos cut (a : Int) true).1 = (spotS C tab L pos cut (a : Int) false).1 → (spotS C tab L pos cut (a : Int) true).2 = (spotS C tab L pos cut (a : Int) false).2) := by
    unfold spotS
    simp only
    rcases hb with e | e
    · rw [e]; exact ⟨Int.le_refl _, by omega, fun _ => rfl⟩
    · exact ⟨by omega, by omega, fun e2 => by omega⟩
  have hsr : 0 ≤ (spotS C tab L pos cut (a : Int) false).1 ∧ (spotS C tab L pos cut (a : Int) false).1 ≤ 101 := by
    have := (rowB_in h c1 false).1
    have := h.rows
    unfold spotS
    simp only
    omega
  have e1 : IntKind.i64.wrap ((spotS C tab L pos cut (a : Int) false).1 - 1) = (spotS C tab L pos cut (a : Int) false).1 - 1 := wrap_i64 (by omega) (by omega)
  have e3 : IntKind.i64.wrap ((a : Int) + 1) = ((a + 1 : Nat) : Int) := by rw [wrap_i64 (by omega) (by omega)]; omega
  rw [hlast, hlk]
  simp only [stanzalaw17_PlaceRises_L2, e3]
  rw [if_pos (by simpa using ha), spot_eq h ⟨by omega, ha⟩]
  simp only [Option.bind_some]
  rw [spot_eq h ⟨by omega, ha⟩]
  simp only [Option.bind_some]
  rw [rises_L1 h ⟨by omega, ha⟩ hkle]
  generalize spotS C tab L pos cut (a : Int) false = s at *
  generalize spotS C tab L pos cut (a : Int) true = t at *
  generalize lastS C tab L pos cut a = l at *
  obtain ⟨s1, s2⟩ := s
  obtain ⟨t1, t2⟩ := t
  obtain ⟨l1, l2⟩ := l
  simp only at *
  have htest : ((if ((0 : Int) != (0 : Int)) = true then some (true) else (if ((0 : Int) != (0 : Int)) = true then some (true)
      else (if (decide (s1 < l1)) = true then some (true)
      else (if (s1 == l1) = true then (if (decide (s2 < l2)) = true then some (true)
      else (if (decide (t1 > s1)) = true then some (true)
      else (if (decide (t1 < IntKind.i64.wrap (s1 - 1))) = true then some (true)
      else (if (t1 == s1) = true then some ((!((t1 == s1) && (t2 == s2))))
      else some (false)))))
      else (if (decide (t1 > s1)) = true then some (true)
      else (if (decide (t1 < IntKind.i64.wrap (s1 - 1))) = true then some (true)
      else (if (t1 == s1) = true then some ((!((t1 == s1) && (t2 == s2))))
      else some (false)))))))) : Option Bool) = some false := by
    simp only [e1]
    rw [if_neg (by simp), if_neg (by simp), if_neg (by simp only [decide_eq_true_eq]; omega)]
    have tail : (if (decide (t1 > s1)) = true then some (true)
      else (if (decide (t1 < s1 - 1)) = true then some (true)
      else (if (t1 == s1) = true then some ((!((t1 == s1) && (t2 == s2))))
      else some (false))) : Option Bool) = some false := by
      rw [if_neg (by simp only [decide_eq_true_eq]; omega), if_neg (by simp only [decide_eq_true_eq]; omega)]
      by_cases q : t1 = s1
      · rw [if_pos (by simpa using q), q, hbs.2.2 q]; simp
      · rw [if_neg (by simpa using q)]
    by_cases q : s1 = l1
    · rw [if_pos (by simpa using q), if_neg (by have := hrise.2 q; simp only [decide_eq_true_eq]; omega), tail]
    · rw [if_neg (by simpa using q), tail]
  rw [htest]
  simp only [Option.bind_some, Bool.false_eq_true, if_false, Int.toNat_natCast]
  have hin2 : ((if (decide ((((cluOf pos C.length (a : Int) : Nat) : Int)) < (C.length : Int))) = true then (if 0 ≤ ((cluOf pos C.length (a : Int) : Nat) : Int) ∧ ((cluOf pos C.length (a : Int) : Nat) : Int) < (C.length : Int) then (if (decide ((a : Int) > ((C.getD (cluOf pos C.length (a : Int)) ((0 : Int), ((0 : Int), ((0 : Int), (0 : Int))))).1))) = true then some ((!((s1 == l1) && (s2 == l2))))
      else some (false)) else none)
      else some (false)) : Option Bool) = some false := by
    by_cases q : cluOf pos C.length (a : Int) < C.length
    · have hcl := h.cl _ q
      unfold z4 at hcl
      rw [if_pos (by simp only [decide_eq_true_eq]; omega), if_pos ⟨by omega, by omega⟩, hcl.1]
      by_cases q2 : pos (cluOf pos C.length (a : Int)) < (a : Int)
      · have := hin q q2
        simp only [Prod.mk.injEq] at this
        rw [if_pos (by simpa using q2), this.1, this.2]
        simp
      · rw [if_neg (by simpa using q2)]
    · rw [if_neg (by simp only [decide_eq_true_eq]; omega)]
  rw [hin2]
  rfl
end

abbrev placeRises_Ts : List Ty := [Bits_T, Way_T]
theorem placeRises_all (x : Tup placeRises_Ts) (hx : WfT placeRises_Ts x) : stanzalaw17_PlaceRises x.1 x.2.1.1 x.2.1.2.1 x.2.1.2.2.1 x.2.1.2.2.2.1 x.2.1.2.2.2.2.1 x.2.1.2.2.2.2.2 = some true := by
  obtain ⟨C, O, m, nb, tab, L, K, pos, cut, h, hm⟩ := made_wf hx.1 hx.2.1
  have p := pos_at h (Nat.le_refl C.length)
  have hnb := h.nb
  have hi := iter_count (body := stanzalaw17_PlaceRises_L2 (C, O) nb C O L K) (fun a => ((lastS C tab L pos cut a).1, (lastS C tab L pos cut a).2, (lastK pos C.length a : Int), (a : Int))) (nb + 1).toNat (r := Sum.inl ()) (fun a ha => rises_round h (by omega)) (by
    simp only [stanzalaw17_PlaceRises_L2]
    rw [if_neg (by simp only [decide_eq_true_eq]; omega)])
  have hi' : iter (stanzalaw17_PlaceRises_L2 (C, O) nb C O L K) ((0 : Int), (0 : Int), (0 : Int), (0 : Int)) = some (Sum.inl ()) := hi
  unfold stanzalaw17_PlaceRises
  rw [awake, hm]
  simp only [Option.bind_some, Bool.not_true, Bool.false_eq_true, if_false]
  rw [hi']
  rfl
end Go.Proofs.Ytdjjifeipeelhaa.T
