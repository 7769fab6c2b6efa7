/- Place: a text, its lines, its map. -/
import Derived.Test.YtdjjifeipeelhaaTv17c
namespace Go.Proofs.Ytdjjifeipeelhaa.T
open Go Go.Tv Go.Proofs

def ints (l : List Nat) : List Int := l.map fun (x : Nat) => (x : Int)
theorem ints_len (l : List Nat) : (ints l).length = l.length := by simp [ints]
theorem ints_get {l : List Nat} {i : Nat} (hi : i < l.length) : (ints l).getD i 0 = ((l.getD i 0 : Nat) : Int) := by
  simp [ints, List.getD_eq_getElem?_getD, hi]

def partsOf (O : List Int) (k : Nat) : List Nat := (List.range k).filter fun i => O.getD i 0 == 2

theorem parts_eq {C : List C4} {O : List Int} (hO : O.length ≤ 1000) : stanzaref10_Parts C O = some (ints (partsOf O O.length)) := by
  have hi := iter_count (body := stanzaref10_Parts_L1 O) (fun k => (ints (partsOf O k), (k : Int))) O.length (r := ints (partsOf O O.length)) (fun k hk => by
    have hl : (partsOf O k).length ≤ k := by
      have := List.length_filter_le (fun i => O.getD i 0 == 2) (List.range k)
      simpa [partsOf] using this
    have e1 : IntKind.i64.wrap ((k : Int) + 1) = ((k + 1 : Nat) : Int) := by rw [wrap_i64 (by omega) (by omega)]; omega
    simp only [stanzaref10_Parts_L1, Int.toNat_natCast]
    rw [if_pos (by simp only [decide_eq_true_eq]; omega), if_pos ⟨by omega, by omega⟩, e1]
    by_cases h : (O.getD k 0 == 2) = true
    · rw [if_pos h, if_pos ⟨by simp only [ints_len, List.length_cons, List.length_nil]; omega, by simp only [ints_len, List.length_cons, List.length_nil]; omega⟩]
      have e : partsOf O (k + 1) = partsOf O k ++ [k] := by unfold partsOf; rw [List.range_succ, List.filter_append]; simp only [List.filter_cons, h, if_true, List.filter_nil]
      rw [e]
      simp [ints]
    · rw [if_neg h]
      have e : partsOf O (k + 1) = partsOf O k := by unfold partsOf; rw [List.range_succ, List.filter_append]; simp only [List.filter_cons, h, Bool.false_eq_true, if_false, List.filter_nil, List.append_nil]
      rw [e]
      rfl) (by
      simp only [stanzaref10_Parts_L1]
      rw [if_neg (by simp)])
  have hi' : iter (stanzaref10_Parts_L1 O) (([] : List Int), (0 : Int)) = some (ints (partsOf O O.length)) := hi
  unfold stanzaref10_Parts
  rw [hi']
  rfl

/-- Boundaries that rise, to the last one. -/
structure RiseTo (q : List Nat) (n : Nat) : Prop where
  pos : 0 < q.length
  last : q.getD (q.length - 1) 0 = n
  rise : ∀ i, i + 1 < q.length → q.getD i 0 ≤ q.getD (i + 1) 0
  le : ∀ i, i < q.length → q.getD i 0 ≤ n

theorem parts_rise {O : List Int} {n : Nat} (hO : O.length = n + 1) (h : O.getD n 0 = 2) : RiseTo (partsOf O O.length) n := by
  have e : partsOf O O.length = partsOf O n ++ [n] := by
    unfold partsOf; rw [hO, List.range_succ, List.filter_append]; simp only [List.filter_cons, h, beq_self_eq_true, if_true, List.filter_nil]
  have hp : (partsOf O O.length).Pairwise (· < ·) := by
    unfold partsOf
    exact List.Pairwise.filter _ List.pairwise_lt_range
  have hm : ∀ x ∈ partsOf O O.length, x ≤ n := fun x hx => by
    unfold partsOf at hx
    have := (List.mem_filter.1 hx).1
    rw [List.mem_range] at this
    omega
  refine ⟨by rw [e]; simp, by rw [e]; simp, fun i hi => ?_, fun i hi => ?_⟩
  · have := List.pairwise_iff_getElem.1 hp i (i + 1) (by omega) hi (by omega)
    rw [List.getD_eq_getElem?_getD, List.getD_eq_getElem?_getD, List.getElem?_eq_getElem hi, List.getElem?_eq_getElem (show i < _ by omega)]
    exact Nat.le_of_lt this
  · rw [List.getD_eq_getElem?_getD, List.getElem?_eq_getElem hi]
    exact hm _ (List.getElem_mem hi)

section
variable {C : List C4} {O : List Int} {tab : Int} (hg : GoodC C) (ht : 1 ≤ tab ∧ tab ≤ 64) (hn : C.length ≤ 100) (hO : O.length = C.length + 1) (hl : O.getD C.length 0 = 2)

def prev (q : List Nat) (i : Nat) : Nat := if i = 0 then 0 else q.getD (i - 1) 0

include hg ht hn hO hl in
theorem break_eq {wd c4 c5 : Int} {c6 : Nat} : ∃ m, Cuts m 0 C.length ∧ stanzaref13_Break C O wd tab 0 c4 c5 c6 = some (m, false) := by
  have hr := parts_rise hO hl
  generalize hq : partsOf O O.length = q at hr
  have hprev : ∀ i, i < q.length → prev q i ≤ q.getD i 0 := fun i hi => by
    unfold prev
    split
    · omega
    · have := hr.rise (i - 1) (by omega)
      rwa [show i - 1 + 1 = i by omega] at this
  have hql : q.length ≤ C.length + 1 := by
    rw [← hq]
    have := List.length_filter_le (fun i => O.getD i 0 == 2) (List.range O.length)
    simp only [List.length_range] at this
    unfold partsOf
    omega
  obtain ⟨r, h1, h2⟩ := iter_rule (body := stanzaref13_Break_L1 C O wd tab 0 c4 c5 c6 (ints q)) (fun s => s.2.1 = false ∧ ∃ i : Nat, i ≤ q.length ∧ s.2.2.2 = (i : Int) ∧ s.2.2.1 = (prev q i : Int) ∧ Cuts s.1 0 (prev q i)) (fun s => q.length - s.2.2.2.toNat)
    (fun r => r.2 = false ∧ Cuts r.1 0 C.length)
    (fun ⟨m, lo, f, j⟩ ⟨e1, i, hi, e2, e3, hc⟩ => by
      simp only at e1 e2 e3 hc
      subst e1 e2 e3
      simp only [stanzaref13_Break_L1, ints_len, Int.toNat_natCast]
      have hml := hc.le
      by_cases h : i < q.length
      · left
        have hqi := hr.le i h
        obtain ⟨l, k1, k2⟩ := first_eq hg ht hn hO (wd := wd) (x3 := 0) (x4 := c4) (x5 := c5) (x7 := c6) (f := prev q i) (t := q.getD i 0) hqi (hprev i h)
        have hll := k1.le
        have hp2 : prev q (i + 1) = q.getD i 0 := by unfold prev; rw [if_neg (by omega)]; rfl
        have ew : IntKind.i64.wrap ((i : Int) + 1) = ((i + 1 : Nat) : Int) := by rw [wrap_i64 (by omega) (by omega)]; omega
        rw [if_pos (by simp only [decide_eq_true_eq]; omega), if_pos ⟨by omega, by omega⟩, ints_get h]
        simp only [stanzaref13_Part, k2]
        rw [if_pos (by rfl)]
        simp only [Option.bind_some, Bool.false_eq_true, if_false]
        rw [if_pos ⟨by omega, by omega⟩, if_pos ⟨by omega, by omega⟩, ew]
        exact ⟨_, rfl, ⟨rfl, i + 1, by omega, rfl, by rw [hp2], by rw [hp2]; exact hc.append k1⟩, by simp only [Int.toNat_natCast]; omega⟩
      · right
        rw [if_neg (by simp only [decide_eq_true_eq]; omega)]
        refine ⟨_, rfl, rfl, ?_⟩
        have : prev q i = C.length := by
          have := hr.pos
          unfold prev
          rw [if_neg (by omega), show i = q.length by omega]
          exact hr.last
        rw [← this]
        exact hc)
    (s := (([] : List C4), false, (0 : Int), (0 : Int))) ⟨rfl, 0, Nat.zero_le _, rfl, rfl, .nil 0⟩
  refine ⟨r.1, h2.2, ?_⟩
  unfold stanzaref13_Break
  rw [parts_eq (C := C) (by omega), hq]
  simp only [Option.bind_some]
  rw [h1]
  simp only [Option.bind_some]
  rw [← h2.1]

/-- A text, its lines, its map. -/
structure Pl (C : List C4) (O : List Int) (m : List C4) (nb tab : Int) (L : List C4) (K : List (List Int)) (pos : Nat → Int) (cut : Nat → Nat) : Prop where
  hg : GoodC C
  ht : 1 ≤ tab ∧ tab ≤ 64
  hn : C.length ≤ 100
  p0 : pos 0 = 0
  pr : ∀ i, pos i + 1 ≤ pos (i + 1) ∧ pos (i + 1) ≤ pos i + 4
  cl : ∀ i, i < C.length → (C.getD i z4).1 = pos i ∧ (C.getD i z4).2.1 = pos (i + 1) - pos i
  nb : nb = pos C.length
  rows : 0 < L.length ∧ L.length ≤ 101
  c0 : cut 0 = 0
  cn : cut L.length = C.length
  cr : 0 < C.length → ∀ i, i < L.length → cut i < cut (i + 1)
  ln : ∀ i, i < L.length → (L.getD i z4).1 = (cut i : Int) ∧ (L.getD i z4).2.1 = (cut (i + 1) : Int)
  m0 : C.length = 0 → m = [] ∧ L = [z4]
  m1 : 0 < C.length → m = L
  kl : K.length = L.length
  kg : ∀ i, i < L.length → K.getD i [] = colL C tab (cut i) (cut (i + 1))

theorem Pl.pos_in {C : List C4} {O : List Int} {m : List C4} {nb tab : Int} {L : List C4} {K : List (List Int)} {pos : Nat → Int} {cut : Nat → Nat} (h : Pl C O m nb tab L K pos cut) (i : Nat) : (i : Int) ≤ pos i ∧ pos i ≤ 4 * i := by
  induction i with
  | zero => rw [h.p0]; omega
  | succ i ih => have := h.pr i; omega

theorem colsMake {L : List C4} {cut : Nat → Nat} (hL : L.length ≤ 101) (ln : ∀ i, i < L.length → (L.getD i z4).1 = (cut i : Int) ∧ (L.getD i z4).2.1 = (cut (i + 1) : Int)) (cr : ∀ i, i < L.length → cut i ≤ cut (i + 1) ∧ cut (i + 1) ≤ C.length)
    (hg : GoodC C) (ht : 1 ≤ tab ∧ tab ≤ 64) (hn : C.length ≤ 100) : iter (place_Make_L1 C O tab L) (([] : List (List Int)), (0 : Int)) = some ((List.range L.length).map fun i => colL C tab (cut i) (cut (i + 1))) :=
  iter_count (body := place_Make_L1 C O tab L) (fun k => ((List.range k).map (fun i => colL C tab (cut i) (cut (i + 1))), (k : Int))) L.length (fun k hk => by
    have hlen : ((List.range k).map (fun i => colL C tab (cut i) (cut (i + 1)))).length = k := by simp
    have h1 := ln k hk
    unfold z4 at h1
    have h2 := cr k hk
    simp only [place_Make_L1, hlen, Int.toNat_natCast, h1.1, h1.2]
    rw [if_pos (by simp only [decide_eq_true_eq]; omega), if_pos ⟨by omega, by omega⟩, spanColumns_eq hg ht h2.1 h2.2 hn]
    simp only [Option.bind_some]
    rw [if_pos ⟨by simp only [List.length_cons, List.length_nil]; omega, by simp only [List.length_cons, List.length_nil]; omega⟩, wrap_i64 (by omega) (by omega), List.range_succ (n := k), List.map_append]
    rfl) (by
      simp only [place_Make_L1]
      rw [if_neg (by simp)])
end

theorem made_pl {d : List C4} {w1 w2 w3 w4 w5 : Int} {w6 : Nat} (hb : ∀ b ∈ d, Byte4 b) (h1 : 0 ≤ w1 ∧ w1 ≤ 255) (h2 : 0 ≤ w2 ∧ w2 ≤ 255) (h3 : 0 ≤ w3 ∧ w3 ≤ 255) (h4 : 0 ≤ w4 ∧ w4 ≤ 65535) (h5 : 0 ≤ w5 ∧ w5 ≤ 65535) :
    ∃ C O m nb tab L K pos cut, Pl C O m nb tab L K pos cut ∧ stanzalaw17_made d w1 w2 w3 w4 w5 w6 = some ((C, O), m, nb, tab, C, O, L, K) := by
  have emin : min (d.length : Int) 100 = ((min d.length 100 : Nat) : Int) := by omega
  unfold stanzalaw17_made
  rw [emin, if_pos ⟨by omega, by omega, by omega⟩]
  generalize hd : ((d.take ((min d.length 100 : Nat) : Int).toNat).drop (0 : Int).toNat) = e
  have hb' : ∀ b ∈ e, Byte4 b := fun b hbe => by
    rw [← hd] at hbe
    exact hb b (List.mem_of_mem_take (List.mem_of_mem_drop hbe))
  have hl : e.length ≤ 100 := by rw [← hd]; simp; omega
  rw [para_eq hb' hl]
  simp only [Option.bind_some]
  rw [config_eq h1 h2 h3 h4 h5]
  simp only [Option.bind_some]
  have hC : (clus e e.length).length = e.length := by simp [clus]
  have hget : ∀ i, i < e.length → (clus e e.length).getD i z4 = cluB e i := fun i hi => by
    unfold clus
    rw [List.getD_eq_getElem?_getD, List.getElem?_map, List.getElem?_range hi]; rfl
  have hg : GoodC (clus e e.length) := fun i => by
    rcases Nat.lt_or_ge i e.length with hi | hi
    · rw [hget i hi]
      have := Int.emod_nonneg (e.getD i z4).1 (show (3 : Int) ≠ 0 by decide)
      have := Int.emod_lt_of_pos (e.getD i z4).1 (show (0 : Int) < 3 by decide)
      simp only [cluB]
      omega
    · rw [List.getD_eq_getElem?_getD, List.getElem?_eq_none (by rw [hC]; exact hi)]
      simp [z4]
  have ht : 1 ≤ 1 + w2 % 64 ∧ 1 + w2 % 64 ≤ 64 := by omega
  have hO : (opps e e.length ++ [2]).length = (clus e e.length).length + 1 := by simp [clus, opps]
  have hlast : (opps e e.length ++ [2]).getD (clus e e.length).length 0 = 2 := by
    rw [hC, List.getD_eq_getElem?_getD, List.getElem?_append_right (by simp [opps])]
    simp [opps]
  obtain ⟨m, hm, hbr⟩ := break_eq hg ht (by rw [hC]; exact hl) hO hlast (wd := 1 + w1) (c4 := w4) (c5 := w5) (c6 := w6)
  rw [hbr]
  simp only [Option.bind_some]
  have hnb : iter (stanzalaw17_made_L1 (clus e e.length, opps e e.length ++ [2])) ((0 : Int), (0 : Int)) = some (posB e e.length) := iter_count (body := stanzalaw17_made_L1 (clus e e.length, opps e e.length ++ [2])) (fun k => (posB e k, (k : Int))) e.length (fun k hk => by
    have hp := posB_in (d := e) k
    have hk2 := lenB_in (d := e) k
    have hz := hget k hk
    unfold z4 at hz
    simp only [stanzalaw17_made_L1, hC, Int.toNat_natCast, hz]
    rw [if_pos (by simp only [decide_eq_true_eq]; omega), if_pos ⟨by omega, by omega⟩, wrap_i64 (x := (k : Int) + 1) (by omega) (by omega)]
    have e1 : IntKind.i64.wrap (posB e k + (cluB e k).2.1) = posB e (k + 1) := by
      have : (cluB e k).2.1 = lenB e k := rfl
      rw [this, wrap_i64 (by omega) (by omega)]; rfl
    rw [e1]
    rfl) (by
      simp only [stanzalaw17_made_L1, hC]
      rw [if_neg (by simp)])
  have hnb' : iter (stanzalaw17_made_L1 (clus e e.length, opps e e.length ++ [2])) ((0 : Int), (0 : Int)) = some (posB e e.length) := hnb
  rw [hnb']
  simp only [Option.bind_some]
  obtain ⟨cut, c0, c1, c2⟩ := hm.cut
  have hml := hm.le
  rw [hC] at hml c1
  have hcl : ∀ i, i < (clus e e.length).length → ((clus e e.length).getD i z4).1 = posB e i ∧ ((clus e e.length).getD i z4).2.1 = posB e (i + 1) - posB e i := fun i hi => by
    rw [hget i (by rw [← hC]; exact hi)]
    refine ⟨rfl, ?_⟩
    have e1 : (cluB e i).2.1 = lenB e i := rfl
    have e2 : posB e (i + 1) = posB e i + lenB e i := rfl
    omega
  have hpr : ∀ i, posB e i + 1 ≤ posB e (i + 1) ∧ posB e (i + 1) ≤ posB e i + 4 := fun i => by
    have := lenB_in (d := e) i
    simp only [posB]
    omega
  by_cases h0 : e.length = 0
  · have hm0 : m = [] := List.length_eq_zero_iff.1 (by omega)
    subst hm0
    have hk := colsMake (C := clus e e.length) (O := opps e e.length ++ [2]) (tab := 1 + w2 % 64) (L := [z4]) (cut := fun _ => 0) (by simp) (fun i hi => by
      simp only [List.length_cons, List.length_nil] at hi
      obtain rfl : i = 0 := by omega
      exact ⟨rfl, rfl⟩) (fun i _ => ⟨Nat.le_refl _, Nat.zero_le _⟩) hg ht (by rw [hC]; exact hl)
    refine ⟨clus e e.length, opps e e.length ++ [2], [], posB e e.length, 1 + w2 % 64, [z4], (List.range ([z4] : List C4).length).map (fun i => colL (clus e e.length) (1 + w2 % 64) 0 0), posB e, fun _ => 0, ⟨hg, ht, by rw [hC]; exact hl, rfl, hpr, hcl, by rw [hC], by simp, rfl, by rw [hC, h0], fun h => by rw [hC, h0] at h; exact absurd h (by omega), fun i hi => ?_, fun _ => ⟨rfl, rfl⟩, fun h => by rw [hC, h0] at h; exact absurd h (by omega), ?_, fun i hi => ?_⟩, ?_⟩
    · simp only [List.length_cons, List.length_nil] at hi
      obtain rfl : i = 0 := by omega
      exact ⟨rfl, rfl⟩
    · simp
    · rw [List.getD_eq_getElem?_getD, List.getElem?_map, List.getElem?_range hi]; rfl
    · unfold place_Make
      rw [if_pos (by rfl)]
      simp only [Option.bind_some]
      unfold z4 at hk
      rw [hk]
      rfl
  · have hm1 : 0 < m.length := by
      cases m with
      | nil => simp only [List.length_nil] at c1; omega
      | cons _ _ => simp
    have hle : ∀ i, i ≤ m.length → cut i ≤ e.length := fun i hi => by
      have key : ∀ j, i + j ≤ m.length → cut i ≤ cut (i + j) := fun j => by
        induction j with
        | zero => intro _; exact Nat.le_refl _
        | succ j ih =>
          intro hj
          have := ih (by omega)
          have := (c2 (i + j) (by omega)).2.2
          rw [show i + (j + 1) = i + j + 1 from rfl]
          omega
      have := key (m.length - i) (by omega)
      rw [show i + (m.length - i) = m.length by omega, c1] at this
      exact this
    have hk := colsMake (C := clus e e.length) (O := opps e e.length ++ [2]) (tab := 1 + w2 % 64) (L := m) (cut := cut) (by omega) (fun i hi => ⟨(c2 i hi).1, (c2 i hi).2.1⟩)
      (fun i hi => ⟨Nat.le_of_lt (c2 i hi).2.2, by rw [hC]; exact hle _ (by omega)⟩) hg ht (by rw [hC]; exact hl)
    refine ⟨clus e e.length, opps e e.length ++ [2], m, posB e e.length, 1 + w2 % 64, m, (List.range m.length).map (fun i => colL (clus e e.length) (1 + w2 % 64) (cut i) (cut (i + 1))), posB e, cut, ⟨hg, ht, by rw [hC]; exact hl, rfl, hpr, hcl, by rw [hC], ⟨hm1, by omega⟩, c0, by rw [hC]; exact c1, fun _ i hi => (c2 i hi).2.2, fun i hi => ⟨(c2 i hi).1, (c2 i hi).2.1⟩, fun h => by rw [hC] at h; exact absurd h h0, fun _ => rfl, ?_, fun i hi => ?_⟩, ?_⟩
    · simp
    · rw [List.getD_eq_getElem?_getD, List.getElem?_map, List.getElem?_range hi]; rfl
    · unfold place_Make
      rw [if_neg (by simp only [beq_iff_eq]; omega)]
      simp only [Option.bind_some]
      rw [hk]
      rfl
end Go.Proofs.Ytdjjifeipeelhaa.T
