/- PlaceSpots: true, whatever the input. -/
import Derived.Test.YtdjjifeipeelhaaTv17e
import Derived.Test.YtdjjifeipeelhaaTvV
import Derived.Test.YtdjjifeipeelhaaTvT17xPlaceSpots
namespace Go.Proofs.Ytdjjifeipeelhaa.T
open Go Go.Tv Go.Proofs

section
variable {C : List C4} {O : List Int} {m : List C4} {nb tab : Int} {L : List C4} {K : List (List Int)} {pos : Nat → Int} {cut : Nat → Nat} (h : Pl C O m nb tab L K pos cut)
include h

theorem lines_eq : (if ((m.length : Int) == (0 : Int)) = true then some (([((0 : Int), ((0 : Int), ((0 : Int), (0 : Int))))] : List C4)) else some (m)) = some L := by
  by_cases h0 : 0 < C.length
  · have hm := h.m1 h0
    have := h.rows
    rw [if_neg (by simp only [beq_iff_eq]; rw [hm]; omega), hm]
  · have hm := h.m0 (by omega)
    rw [hm.1, hm.2, if_pos (by rfl)]
    rfl

theorem refSpot_L1 {at1 : Int} : iter (stanzaref13_Spot_L1 C at1) ((0 : Int), (C.length : Int), (C.length : Int) - 1) = some (nb, ((cluOf pos C.length at1 : Nat) : Int)) := by
  have hn := h.hn
  have hi := iter_count (body := stanzaref13_Spot_L1 C at1) (fun k => (pos C.length - pos (C.length - k), (((C.length - k) + firstN (fun x => decide (pos (C.length - k + x + 1) > at1)) k : Nat) : Int), (C.length : Int) - 1 - k)) C.length
    (r := (nb, ((cluOf pos C.length at1 : Nat) : Int))) (fun k hk => by
      have hc := h.cl (C.length - (k + 1)) (by omega)
      unfold z4 at hc
      rw [show C.length - (k + 1) + 1 = C.length - k by omega] at hc
      have p1 := h.pos_in (C.length - (k + 1))
      have p2 := h.pos_in (C.length - k)
      have p3 := h.pos_in C.length
      have hs := firstN_step (fun x => decide (pos (x + 1) > at1)) (n := C.length) (j := C.length - (k + 1)) (by omega)
      rw [show C.length - (C.length - (k + 1)) = k + 1 by omega, show C.length - (k + 1) + 1 = C.length - k by omega, show C.length - (C.length - k) = k by omega] at hs
      have e0 : (C.length : Int) - 1 - (k : Int) = ((C.length - (k + 1) : Nat) : Int) := by omega
      simp only [stanzaref13_Spot_L1, e0, Int.toNat_natCast, hc.1, hc.2]
      have e1 : pos (C.length - (k + 1)) + (pos (C.length - k) - pos (C.length - (k + 1))) = pos (C.length - k) := by omega
      rw [if_pos (by simp only [decide_eq_true_eq]; omega), if_pos ⟨by omega, by omega⟩, if_pos ⟨by omega, by omega⟩, if_pos ⟨by omega, by omega⟩, e1, wrap_i64 (x := pos (C.length - k)) (by omega) (by omega)]
      have e2 : IntKind.i64.wrap (pos C.length - pos (C.length - k) + (pos (C.length - k) - pos (C.length - (k + 1)))) = pos C.length - pos (C.length - (k + 1)) := by rw [wrap_i64 (by omega) (by omega)]; omega
      have e3 : IntKind.i64.wrap (((C.length - (k + 1) : Nat) : Int) - 1) = (C.length : Int) - 1 - ((k + 1 : Nat) : Int) := by rw [wrap_i64 (by omega) (by omega)]; omega
      rw [e2, e3, hs]
      by_cases hp : at1 < pos (C.length - k)
      · rw [if_pos (by simpa using hp)]
        rw [if_pos (by simpa using hp)]
        rfl
      · rw [if_neg (by simpa using hp)]
        rw [if_neg (by simpa using hp)]
        rfl) (by
      simp only [stanzaref13_Spot_L1]
      rw [if_neg (by simp only [decide_eq_true_eq]; omega)]
      have e : pos C.length - pos (C.length - C.length) = nb := by rw [Nat.sub_self, h.p0, h.nb]; omega
      rw [e]
      simp only [Nat.sub_self, Nat.zero_add]
      rfl)
  have e0 : (pos C.length - pos (C.length - 0), (((C.length - 0) + firstN (fun x => decide (pos (C.length - 0 + x + 1) > at1)) 0 : Nat) : Int), (C.length : Int) - 1 - ((0 : Nat) : Int)) = ((0 : Int), (C.length : Int), (C.length : Int) - 1) := by
    simp [firstN]
  rw [← e0]
  exact hi

theorem refRow {k : Nat} (hk : k ≤ C.length) : iter (stanzaref13_Spot_L2 L (k : Int)) ((L.length : Int) - 1, (L.length : Int) - 1) = some (((if rowOf cut L.length k < L.length then rowOf cut L.length k else L.length - 1 : Nat)) : Int) := by
  obtain ⟨r1, r2, r3, r4⟩ := row_in h hk
  have hr := h.rows
  have hc0 := h.c0
  have hq : firstN (fun i => decide (k < cut (i + 1)) && decide (k ≥ cut i)) L.length = rowOf cut L.length k := firstN_uniq r1 (fun j hj => by
      have := firstN_lt (fun j => decide (cut (j + 1) > k)) L.length hj
      simp only [decide_eq_false_iff_not] at this
      simp only [Bool.and_eq_false_iff, decide_eq_false_iff_not]
      omega) (fun hl => by
      have h3 := r3 hl
      have : cut (rowOf cut L.length k) ≤ k := by
        rcases Nat.eq_zero_or_pos (rowOf cut L.length k) with e | e
        · rw [e, hc0]; omega
        · exact r2 e
      simp only [Bool.and_eq_true, decide_eq_true_eq]
      omega)
  have hi := iter_count (body := stanzaref13_Spot_L2 L (k : Int)) (fun s => (((if (L.length - s) + firstN (fun x => decide (k < cut (L.length - s + x + 1)) && decide (k ≥ cut (L.length - s + x))) s < L.length then (L.length - s) + firstN (fun x => decide (k < cut (L.length - s + x + 1)) && decide (k ≥ cut (L.length - s + x))) s else L.length - 1 : Nat) : Int), (L.length : Int) - 1 - s)) L.length
    (r := (((if rowOf cut L.length k < L.length then rowOf cut L.length k else L.length - 1 : Nat)) : Int)) (fun s hs => by
      have hl := h.ln (L.length - (s + 1)) (by omega)
      unfold z4 at hl
      have hst := firstN_step (fun i => decide (k < cut (i + 1)) && decide (k ≥ cut i)) (n := L.length) (j := L.length - (s + 1)) (by omega)
      rw [show L.length - (L.length - (s + 1)) = s + 1 by omega, show L.length - (s + 1) + 1 = L.length - s by omega, show L.length - (L.length - s) = s by omega] at hst
      rw [show L.length - (s + 1) + 1 = L.length - s by omega] at hl
      have e0 : (L.length : Int) - 1 - (s : Int) = ((L.length - (s + 1) : Nat) : Int) := by omega
      have e3 : IntKind.i64.wrap (((L.length - (s + 1) : Nat) : Int) - 1) = (L.length : Int) - 1 - ((s + 1 : Nat) : Int) := by rw [wrap_i64 (by omega) (by omega)]; omega
      simp only [stanzaref13_Spot_L2, e0, Int.toNat_natCast, hl.1, hl.2]
      rw [if_pos (by simp only [decide_eq_true_eq]; omega), if_pos ⟨by omega, by omega⟩, e3, hst]
      by_cases h1 : k < cut (L.length - s)
      · rw [if_pos (by simp only [decide_eq_true_eq]; omega), if_pos ⟨by omega, by omega⟩]
        by_cases h2 : cut (L.length - (s + 1)) ≤ k
        · have hb : decide ((k : Int) ≥ (cut (L.length - (s + 1)) : Int)) = true := by simp only [decide_eq_true_eq]; omega
          have hb2 : (decide (k < cut (L.length - s)) && decide (k ≥ cut (L.length - (s + 1)))) = true := by simp only [Bool.and_eq_true, decide_eq_true_eq]; omega
          rw [hb2]
          simp only [hb, if_true, Option.bind_some]
          rw [if_pos (show L.length - (s + 1) < L.length by omega)]
        · have hb : decide ((k : Int) ≥ (cut (L.length - (s + 1)) : Int)) = false := by simp only [decide_eq_false_iff_not]; omega
          have hb2 : (decide (k < cut (L.length - s)) && decide (k ≥ cut (L.length - (s + 1)))) = false := by simp only [Bool.and_eq_false_iff, decide_eq_false_iff_not]; omega
          rw [hb2]
          simp only [hb, Bool.false_eq_true, if_false, Option.bind_some]
      · have hb2 : (decide (k < cut (L.length - s)) && decide (k ≥ cut (L.length - (s + 1)))) = false := by simp only [Bool.and_eq_false_iff, decide_eq_false_iff_not]; omega
        rw [if_neg (by simp only [decide_eq_true_eq]; omega), hb2]
        simp only [Bool.false_eq_true, if_false, Option.bind_some]) (by
      simp only [stanzaref13_Spot_L2]
      rw [if_neg (by simp only [decide_eq_true_eq]; omega)]
      simp only [Nat.sub_self, Nat.zero_add, hq])
  have e0 : (((if (L.length - 0) + firstN (fun x => decide (k < cut (L.length - 0 + x + 1)) && decide (k ≥ cut (L.length - 0 + x))) 0 < L.length then (L.length - 0) + firstN (fun x => decide (k < cut (L.length - 0 + x + 1)) && decide (k ≥ cut (L.length - 0 + x))) 0 else L.length - 1 : Nat) : Int), (L.length : Int) - 1 - ((0 : Nat) : Int)) = ((L.length : Int) - 1, (L.length : Int) - 1) := by
    simp only [firstN, Nat.sub_zero, Nat.add_zero, Nat.lt_irrefl, if_false]
    congr 1 <;> omega
  rw [← e0]
  exact hi

theorem refSpot_eq {at1 : Int} {back : Bool} : stanzaref13_Spot C O m tab at1 back = if 0 ≤ at1 ∧ at1 ≤ nb then some (spotS C tab L pos cut at1 back, (0 : Int)) else some (((0 : Int), (0 : Int)), (2 : Int)) := by
  have hn := h.hn
  have hr := h.rows
  unfold stanzaref13_Spot
  rw [lines_eq h]
  simp only [Option.bind_some]
  rw [wrap_i64 (by omega) (by omega), refSpot_L1 h]
  simp only [Option.bind_some]
  by_cases h0 : at1 < 0
  · rw [if_pos (by simpa using h0), if_neg (by omega)]
    rfl
  rw [if_neg (by simpa using h0)]
  simp only [Option.bind_some]
  by_cases h1' : nb < at1
  · rw [if_pos (by simp only [decide_eq_true_eq]; omega), if_neg (by omega)]
  have h1 : at1 ≤ nb := by omega
  rw [if_neg (by simp only [decide_eq_true_eq]; omega), if_pos ⟨by omega, h1⟩]
  obtain ⟨c1, c2, c3, c4⟩ := clu_in h (at1 := at1) ⟨by omega, h1⟩
  obtain ⟨b1, b2, b3⟩ := rowB_in h c1 back
  unfold spotS
  simp only
  generalize hk : cluOf pos C.length at1 = k at *
  obtain ⟨r1, r2, r3, r4⟩ := row_in h c1
  rw [wrap_i64 (by omega) (by omega), refRow h c1]
  simp only [Option.bind_some]
  generalize hv : (if rowOf cut L.length k < L.length then rowOf cut L.length k else L.length - 1) = v
  have hvl : v < L.length := by rw [← hv]; split <;> omega
  have hlv := h.ln v hvl
  unfold z4 at hlv
  have hrow : ((if back = true then (if (decide (((v : Nat) : Int) > (0 : Int))) = true then (if 0 ≤ ((v : Nat) : Int) ∧ ((v : Nat) : Int) < (L.length : Int) then some ((((L.getD ((v : Nat) : Int).toNat ((0 : Int), ((0 : Int), ((0 : Int), (0 : Int))))).1) == (k : Int))) else none)
      else some (false)) else some (false))).bind (fun (v26 : Bool) => ((if v26 = true then some ((IntKind.i64.wrap (((v : Nat) : Int) - (1 : Int)))) else some (((v : Nat) : Int))))) = some ((rowB cut L.length k back : Nat) : Int) := by
    have hvr : rowOf cut L.length k < L.length → v = rowOf cut L.length k := fun q => by rw [← hv, if_pos q]
    have hvn : rowOf cut L.length k = L.length → v = L.length - 1 := fun q => by rw [← hv, if_neg (by omega)]
    cases back with
    | false =>
      simp only [Bool.false_eq_true, if_false, Option.bind_some]
      congr 1
      unfold rowB
      by_cases q : rowOf cut L.length k = L.length
      · rw [if_pos (.inl q), hvn q, q]
      · rw [if_neg (by rintro (q' | ⟨q', _⟩); exact q q'; cases q'), hvr (by omega)]
    | true =>
      rw [if_pos rfl]
      by_cases q2 : 0 < v
      · rw [if_pos (by simp only [decide_eq_true_eq]; omega), if_pos ⟨by omega, by omega⟩, Int.toNat_natCast, hlv.1]
        simp only [Option.bind_some]
        by_cases q3 : cut v = k
        · have q : rowOf cut L.length k < L.length := by
            rcases Nat.lt_or_ge (rowOf cut L.length k) L.length with q | q
            · exact q
            · have e := r4.1 (by omega)
              have e2 := hvn (by omega)
              by_cases h0 : 0 < C.length
              · have := h.cr h0 v hvl
                have hcn := h.cn
                rw [show v + 1 = L.length by omega] at this
                omega
              · have := (h.m0 (by omega)).2
                rw [this] at e2
                simp at e2
                omega
          have hvr := hvr q
          subst hvr
          rw [if_pos (by simp only [beq_iff_eq]; omega), wrap_i64 (by omega) (by omega)]
          unfold rowB
          rw [if_pos (.inr ⟨rfl, q2, q3⟩)]
          congr 1
          omega
        · rw [if_neg (by simp only [beq_iff_eq]; omega)]
          unfold rowB
          by_cases q : rowOf cut L.length k = L.length
          · rw [if_pos (.inl q), hvn q, q]
          · have hvr := hvr (by omega)
            subst hvr
            rw [if_neg (by rintro (q' | ⟨_, _, q'⟩); exact q q'; exact q3 q')]
      · rw [if_neg (by simp only [decide_eq_true_eq]; omega)]
        simp only [Option.bind_some, Bool.false_eq_true, if_false]
        unfold rowB
        by_cases q : rowOf cut L.length k = L.length
        · rw [if_pos (.inl q), hvn q, q]
        · have hvr := hvr (by omega)
          subst hvr
          rw [if_neg (by rintro (q' | ⟨_, q', _⟩); exact q q'; exact q2 q')]
  rw [← Option.bind_assoc, hrow]
  simp only [Option.bind_some, Int.toNat_natCast]
  have hln := h.ln _ b1
  unfold z4 at hln
  have hcl := h.cut_le (i := rowB cut L.length k back + 1) (by omega)
  have e1 : IntKind.i64.wrap ((k : Int) - (cut (rowB cut L.length k back) : Int)) = ((k - cut (rowB cut L.length k back) : Nat) : Int) := by rw [wrap_i64 (by omega) (by omega)]; omega
  rw [if_pos ⟨by omega, by omega⟩, if_pos ⟨by omega, by omega⟩, hln.1, hln.2, refColumns_eq h.hg h.ht (by omega) hcl hn]
  simp only [Option.bind_some]
  rw [if_pos ⟨by omega, by omega⟩, e1, colL_len, if_pos ⟨by omega, by omega⟩, Int.toNat_natCast, colL_get (by omega)]
end

theorem awake : stanzalaw17_Awake = some true := by kernel_rfl

section
variable {C : List C4} {O : List Int} {m : List C4} {nb tab : Int} {L : List C4} {K : List (List Int)} {pos : Nat → Int} {cut : Nat → Nat} (h : Pl C O m nb tab L K pos cut)
include h
theorem spots_same (at1 : Int) (back : Bool) : ∃ r : (Int × Int) × Int, place_Map_Spot C O L K at1 back = some r ∧ stanzaref13_Spot C O m tab at1 back = some r := by
  by_cases ha : 0 ≤ at1 ∧ at1 ≤ nb
  · exact ⟨_, spot_eq h ha, by rw [refSpot_eq h, if_pos ha]⟩
  · exact ⟨_, spot_err h ha, by rw [refSpot_eq h, if_neg ha]⟩
end

theorem wf_byte4 {d : List C4} (h : Wf (.slice (.prod (.int .u8) (.prod (.int .u8) (.prod (.int .u8) (.int .u8))))) d) : ∀ b ∈ d, Byte4 b := fun b hb => by
  obtain ⟨j, hj, rfl⟩ := List.getElem_of_mem hb
  obtain ⟨h1, h2, h3, h4⟩ := h.2 j hj
  exact ⟨h1, h2, h3, h4⟩

abbrev Way_T : Ty := .prod (.int .u8) (.prod (.int .u8) (.prod (.int .u8) (.prod (.int .u16) (.prod (.int .u16) .flt))))
abbrev Bits_T : Ty := .slice (.prod (.int .u8) (.prod (.int .u8) (.prod (.int .u8) (.int .u8))))

theorem made_wf {d : List C4} {w : Way_T.den} (hd : Wf Bits_T d) (hw : Wf Way_T w) : ∃ C O m nb tab L K pos cut, Pl C O m nb tab L K pos cut ∧ stanzalaw17_made d w.1 w.2.1 w.2.2.1 w.2.2.2.1 w.2.2.2.2.1 w.2.2.2.2.2 = some ((C, O), m, nb, tab, C, O, L, K) :=
  made_pl (wf_byte4 hd) hw.1 hw.2.1 hw.2.2.1 hw.2.2.2.1 hw.2.2.2.2.1

abbrev placeSpots_Ts : List Ty := [Bits_T, Way_T, .int .i64, .bool]
theorem placeSpots_all (x : Tup placeSpots_Ts) (hx : WfT placeSpots_Ts x) : stanzalaw17_PlaceSpots x.1 x.2.1.1 x.2.1.2.1 x.2.1.2.2.1 x.2.1.2.2.2.1 x.2.1.2.2.2.2.1 x.2.1.2.2.2.2.2 x.2.2.1 x.2.2.2.1 = some true := by
  obtain ⟨C, O, m, nb, tab, L, K, pos, cut, h, hm⟩ := made_wf hx.1 hx.2.1
  have hnb := h.pos_in C.length
  have hb := h.nb
  have hn := h.hn
  unfold stanzalaw17_PlaceSpots
  rw [awake, hm]
  simp only [Option.bind_some, Bool.not_true, Bool.false_eq_true, if_false]
  rw [if_pos (by rw [u64_wrap, wrap_i64 (by omega) (by omega)]; omega)]
  have hi := iter_count (body := stanzalaw17_PlaceSpots_L1 x.2.2.1 x.2.2.2.1 (C, O) m nb tab C O L K) (fun k => (k : Int)) 4 (r := Sum.inl ()) (fun k hk => by
    simp only [stanzalaw17_PlaceSpots_L1]
    rw [if_pos (by simp only [List.length_cons, List.length_nil, decide_eq_true_eq]; omega), if_pos ⟨by omega, by simp only [List.length_cons, List.length_nil]; omega⟩, if_pos (by simp only [List.length_cons, List.length_nil]; omega)]
    generalize List.getD _ _ _ = at1
    obtain ⟨r, r1, r2⟩ := spots_same h at1 x.2.2.2.1
    rw [r1]
    simp only [Option.bind_some]
    rw [r2]
    simp only [Option.bind_some]
    rw [if_neg (by simp)]
    simp only [Option.bind_some]
    rw [if_neg (by simp), wrap_i64 (by omega) (by omega)]
    rfl) (by
      simp only [stanzalaw17_PlaceSpots_L1]
      rw [if_neg (by simp)])
  have hi' : iter (stanzalaw17_PlaceSpots_L1 x.2.2.1 x.2.2.2.1 (C, O) m nb tab C O L K) (0 : Int) = some (Sum.inl ()) := hi
  rw [hi']
  simp only [Option.bind_some, place_Map_Rows]
  congr 1
  simp only [beq_iff_eq]
  by_cases h0 : 0 < C.length
  · have := h.m1 h0
    have := h.rows
    subst m
    omega
  · have := h.m0 (by omega)
    rw [this.1, this.2]
    rfl
end Go.Proofs.Ytdjjifeipeelhaa.T
