/- LeastNumbers: for all data. -/
import Derived.Test.YtnnbofkcfooljaaTvLw
namespace Go.Proofs.Ytnnbofkcfooljaa.T
open Go Go.Tv Go.Proofs

theorem num_same {nx : List (List Int)} {ot : List Int} {n c : Nat} (h : OkA nx ot n c) {p : List Int} (hP : Perm p n) {N : List (List Int)} {O : List Int} (hN : Num nx ot n p n N O) :
    ∃ x, least_Make nx ot = some (x, 0) ∧ least_Make N O = some (x, 0) := by
  have hsm := h.small
  have hcs := h.cs
  have hp := h.pos
  have hl := hP.len
  -- each number is one's
  have hback : ∀ t, t < n → ∃ s, s < n ∧ (p.getD s 0).toNat = t := fun t ht => by
    have hnd : (((List.range n).map fun s => (p.getD s 0).toNat)).Nodup := by
      refine List.nodup_iff_pairwise_ne.2 ?_
      rw [List.pairwise_map]
      refine (List.nodup_iff_pairwise_ne.1 (List.nodup_range (n := n))).imp_of_mem fun {a b} ha hb hab e => ?_
      have ha' := List.mem_range.1 ha
      have hb' := List.mem_range.1 hb
      have h1 := hP.ran a ha'
      have h2 := hP.ran b hb'
      exact hab (hP.inj a b ha' hb' (by omega))
    by_cases hm : t ∈ (List.range n).map fun s => (p.getD s 0).toNat
    · obtain ⟨s, hs, e⟩ := List.mem_map.1 hm
      exact ⟨s, List.mem_range.1 hs, e⟩
    · have h2 := pigeon n (t :: (List.range n).map fun s => (p.getD s 0).toNat) (List.nodup_cons.2 ⟨hm, hnd⟩) (fun x hx => by
        rcases List.mem_cons.1 hx with e | e
        · rw [e]; exact ht
        · obtain ⟨s, hs, e⟩ := List.mem_map.1 e
          have := hP.ran s (List.mem_range.1 hs)
          omega)
      simp at h2
      omega
  have hrow : ∀ s k, s < n → k < c → (rowP p nx s).getD k 0 = p.getD (dl nx s k) 0 := fun s k hs hk => by
    have hkn : k < (nx.getD s []).length := by rw [h.row s hs]; exact hk
    unfold rowP dl
    rw [List.getD_eq_getElem?_getD, List.getElem?_map, List.getElem?_eq_getElem hkn, getD_lt hkn]; rfl
  have hok : OkA N O n c := {
    hn := hN.nn, ho := hN.oo, pos := hp, small := hsm, cs := hcs,
    row := fun t ht => by
      obtain ⟨s, hs, e⟩ := hback t ht
      rw [← e, (hN.done s hs).1]
      unfold rowP
      rw [List.length_map]; exact h.row s hs
    way := fun t k ht hk => by
      obtain ⟨s, hs, e⟩ := hback t ht
      rw [← e, (hN.done s hs).1, hrow s k hs hk]
      exact hP.ran _ (h.dl_lt hs hk)
    out := fun t ht => by
      obtain ⟨s, hs, e⟩ := hback t ht
      rw [← e, (hN.done s hs).2]
      exact h.out s hs }
  exact make_sim (R := fun s t => s < n ∧ t = (p.getD s 0).toNat) h hok ⟨hp, by rw [hP.zero]; rfl⟩ (fun s t ⟨a, b⟩ => ⟨a, by have := hP.ran s a; omega⟩)
    (fun s t ⟨a, b⟩ k hk => ⟨h.dl_lt a hk, by
      subst b
      have : dl N (p.getD s 0).toNat k = ((rowP p nx s).getD k 0).toNat := by unfold dl; rw [(hN.done s a).1]
      rw [this, hrow s k a hk]⟩)
    (fun s t ⟨a, b⟩ => by subst b; exact ((hN.done s a).2).symm)

/-! ### the walk through what is made -/
theorem rng_get {m i : Nat} (hi : i < m) : (ints (List.range m)).getD i 0 = (i : Int) := getD_range_map (f := fun (x : Nat) => (x : Int)) hi
theorem rng_len (m : Nat) : (ints (List.range m)).length = m := by rw [ints_len, List.length_range]
theorem rng_succ (m : Nat) : ints (List.range (m + 1)) = ints (List.range m) ++ [(m : Int)] := by rw [List.range_succ, ints_add]

theorem num_L5 {x : List (List Int) × List Int} {s0 : List Int} {i k m : Nat} (hm : m ≤ 1000) {v : Nat} (hv : (x.1.getD (s0.getD i 0).toNat []).getD k 0 = (v : Int)) :
    iter (stanzalaw05_LeastNumbers_L5 x s0 (i : Int) (ints (List.range m)) (k : Int)) (false, (0 : Int)) = some (decide (v < m)) := by
  have hit := iter_count (body := stanzalaw05_LeastNumbers_L5 x s0 (i : Int) (ints (List.range m)) (k : Int)) (fun j => (decide (v < j), (j : Int))) m (r := decide (v < m)) (fun j hj => by
    simp only [stanzalaw05_LeastNumbers_L5, Int.toNat_natCast, rng_get hj, rng_len, hv]
    rw [if_pos (by simp only [decide_eq_true_eq]; omega), if_pos ⟨by omega, by omega⟩, if_pos hj, wrap_i64 (by omega) (by omega)]
    by_cases q : v < j
    · rw [if_pos (decide_eq_true q), decide_eq_true (show v < j + 1 by omega)]; rfl
    · rw [if_neg (by simpa using q)]
      simp only [Option.bind_some]
      have : ((j : Int) == (v : Int)) = decide (v < j + 1) := by
        by_cases e : j = v
        · rw [decide_eq_true (by omega)]; simp only [beq_iff_eq]; omega
        · rw [decide_eq_false (by omega)]; simp only [beq_eq_false_iff_ne, ne_eq]; omega
      rw [this]
      rfl) (by
    simp only [stanzalaw05_LeastNumbers_L5, rng_len]
    rw [if_neg (by simp only [decide_eq_true_eq]; omega)])
  have e0 : decide (v < 0) = false := decide_eq_false (by omega)
  rw [e0] at hit
  exact hit

section
variable {nx : List (List Int)} {ot : List Int} {n c : Nat} (h : OkA nx ot n c) {kd : Nat → Int} {M : Nat} (hM : M ≤ 1000) (hk : ∀ s, s < n → 0 ≤ kd s ∧ kd s < M)
include h hM hk

theorem num_L6 {x : List (List Int) × List Int} {ln : List Nat} (hL : Lane kd n M ln) {i : Nat} (hi : i < ln.length) (hx : x.1.getD i [] = (walk kd ln (ways nx (ln.getD i 0)) []).2) :
    iter (stanzalaw05_LeastNumbers_L6 x (ints (List.range ln.length)) (i : Int)) (ints (List.range ln.length), (0 : Int)) = some (.inl (ints (List.range (walk kd ln (ways nx (ln.getD i 0)) []).1.length))) := by
  have hcs := h.cs
  have hs : ln.getD i 0 < n := hL.lt _ (getD_mem' hi)
  have hall := ways_lt h hs
  have hwl : (ways nx (ln.getD i 0)).length = c := by unfold ways; rw [List.length_map, h.row _ hs]
  generalize ways nx (ln.getD i 0) = ts at hx hall hwl
  have h2 := walk_len (kd := kd) ts ln []
  have hget : ((ints (List.range ln.length)).getD i 0).toNat = i := by rw [rng_get hi]; rfl
  have hrl : (x.1.getD i []).length = c := by rw [hx, h2, hwl, List.length_nil, Nat.zero_add]
  have hit := iter_count (body := stanzalaw05_LeastNumbers_L6 x (ints (List.range ln.length)) (i : Int)) (fun k => (ints (List.range (walk kd ln (ts.take k) []).1.length), (k : Int))) c
    (r := Sum.inl (ints (List.range (walk kd ln ts []).1.length))) (fun k hkc => by
      have hkt : k < ts.length := by omega
      have hLk := Lane.walked (ts.take k) ln [] hL (fun t ht => hall t (List.mem_of_mem_take ht))
      have hle := hLk.le hk
      have htk := take_succ' (d := 0) hkt
      have htn : ts.getD k 0 < n := hall _ (getD_mem' hkt)
      have hw := walk_snoc (kd := kd) (ts.take k) ln [] (ts.getD k 0)
      rw [← htk] at hw
      -- the way's number
      have hval : (x.1.getD i []).getD k 0 = ((((walk kd ln (ts.take k) []).1.map kd).idxOf (kd (ts.getD k 0)) : Nat) : Int) := by
        have hpre : ∃ l, (walk kd ln ts []).2 = (walk kd ln (ts.take (k + 1)) []).2 ++ l := by
          have hsplit : ∀ (a b ln : List Nat) (r : List Int), walk kd ln (a ++ b) r = walk kd (walk kd ln a r).1 b (walk kd ln a r).2 := fun a => by
            induction a with
            | nil => intro b ln r; rfl
            | cons t a ih => intro b ln r; simp only [List.cons_append, walk]; exact ih b _ _
          have hgrow : ∀ (b ln : List Nat) (r : List Int), ∃ l, (walk kd ln b r).2 = r ++ l := fun b => by
            induction b with
            | nil => intro ln r; exact ⟨[], by simp [walk]⟩
            | cons t b ih =>
              intro ln r
              obtain ⟨l, e⟩ := ih (add1 kd ln t) (r ++ [((ln.map kd).idxOf (kd t) : Int)])
              exact ⟨_ :: l, by simp only [walk]; rw [e, List.append_assoc]; rfl⟩
          have := hsplit (ts.take (k + 1)) (ts.drop (k + 1)) ln []
          rw [List.take_append_drop] at this
          rw [this]
          exact hgrow _ _ _
        obtain ⟨l, e⟩ := hpre
        have hlen := walk_len (kd := kd) (ts.take k) ln []
        simp only [List.length_take, List.length_nil] at hlen
        rw [hx, e, hw]
        simp only
        rw [List.append_assoc, List.getD_eq_getElem?_getD, List.getElem?_append_right (by omega)]
        have : k - (walk kd ln (ts.take k) []).2.length = 0 := by omega
        rw [this]
        rfl
      have hix : ((walk kd ln (ts.take k) []).1.map kd).idxOf (kd (ts.getD k 0)) ≤ (walk kd ln (ts.take k) []).1.length := by
        rw [idxOf_firstN]
        have h1 := firstN_le (fun j => ((walk kd ln (ts.take k) []).1.map kd).getD j 0 == kd (ts.getD k 0)) ((walk kd ln (ts.take k) []).1.map kd).length
        have h2 : ((walk kd ln (ts.take k) []).1.map kd).length = (walk kd ln (ts.take k) []).1.length := List.length_map ..
        omega
      have h5 := num_L5 (x := x) (s0 := ints (List.range ln.length)) (i := i) (k := k) (m := (walk kd ln (ts.take k) []).1.length) (by omega) (v := ((walk kd ln (ts.take k) []).1.map kd).idxOf (kd (ts.getD k 0))) (by rw [hget]; exact hval)
      rw [hw]
      simp only
      generalize hW : (walk kd ln (ts.take k) []).1 = A at hle hval hix h5 ⊢
      have e1 : IntKind.i64.wrap ((k : Int) + 1) = ((k + 1 : Nat) : Int) := by rw [wrap_i64 (by omega) (by omega)]; omega
      simp only [stanzalaw05_LeastNumbers_L6, Int.toNat_natCast, hget, hval, hrl, h5, rng_len, e1]
      rw [if_pos (by simp only [decide_eq_true_eq]; omega), if_pos ⟨by omega, by omega⟩]
      simp only [Option.bind_some]
      by_cases hm : kd (ts.getD k 0) ∈ A.map kd
      · have hlt := List.idxOf_lt_length_of_mem hm
        rw [List.length_map] at hlt
        rw [decide_eq_true hlt, if_neg (by simp)]
        simp only [add1, if_pos hm]
        rfl
      · have hge : (A.map kd).idxOf (kd (ts.getD k 0)) = A.length := by rw [List.idxOf_eq_length hm, List.length_map]
        rw [hge, decide_eq_false (by omega), if_pos (by rfl), if_neg (by simp), if_pos ⟨by simp only [List.length_cons, List.length_nil]; omega, by simp only [List.length_cons, List.length_nil]; omega⟩]
        simp only [add1, if_neg hm, List.length_append, List.length_cons, List.length_nil, Nat.zero_add, rng_succ]
        rfl) (by
      simp only [stanzalaw05_LeastNumbers_L6, Int.toNat_natCast, hget, hrl]
      rw [if_neg (by simp only [decide_eq_true_eq]; omega), List.take_of_length_le (by omega)])
  exact hit

theorem num_L7 {r : List (List Int) × List Int} (hr : iter (specB kd nx ot) (([] : List (List Int)), ([] : List Int), [0], 0) = some r) :
    ∃ m, iter (stanzalaw05_LeastNumbers_L7 r) ([(0 : Int)], (0 : Int)) = some (.inl (ints (List.range m))) ∧ r.2.length = m ∧ r.1.length = m ∧ m ≤ 1000 := by
  have hp := h.pos
  -- what is made stays
  have hpre : ∀ (st : List (List Int) × List Int × List Nat × Nat), iter (specB kd nx ot) st = some r → ∃ l, r.1 = st.1 ++ l := fun st hst =>
    iter_inv (body := specB kd nx ot) (fun s => ∃ l, s.1 = st.1 ++ l) (fun r => ∃ l, r.1 = st.1 ++ l) (fun ⟨N, O, ln, i⟩ y ⟨l, e⟩ hb => by
      simp only at e
      simp only [specB] at hb
      split at hb
      · cases hb
        exact ⟨l ++ [(walk kd ln (ways nx (ln.getD i 0)) []).2], by simp only; rw [e, List.append_assoc]⟩
      · cases hb) (fun ⟨N, O, ln, i⟩ r' ⟨l, e⟩ hb => by
      simp only at e
      simp only [specB] at hb
      split at hb
      · cases hb
      · cases hb
        exact ⟨l, e⟩) ⟨[], by simp⟩ hst
  obtain ⟨r', h1, h2⟩ := iter_sim (body := specB kd nx ot) (body' := stanzalaw05_LeastNumbers_L7 r)
    (fun st st' => st'.1 = ints (List.range st.2.2.1.length) ∧ st'.2 = (st.2.2.2 : Int) ∧ Lane kd n M st.2.2.1 ∧ st.1.length = st.2.2.2 ∧ st.2.1.length = st.2.2.2 ∧ st.2.2.2 ≤ st.2.2.1.length ∧ iter (specB kd nx ot) st = some r)
    (fun q r' => ∃ m, r' = Sum.inl (ints (List.range m)) ∧ q.2.length = m ∧ q.1.length = m ∧ m ≤ 1000)
    (fun ⟨N, O, ln, i⟩ ⟨seen, i'⟩ o ⟨e1, e2, hL, l1, l2, l3, hend⟩ hb => by
      simp only at e1 e2 hL l1 l2 l3
      subst e1 e2
      have hle := hL.le hk
      have hstep : ∀ y, specB kd nx ot (N, O, ln, i) = some (.inl y) → iter (specB kd nx ot) y = some r := fun y hy => by
        rw [iter_eq, hy] at hend
        exact hend
      by_cases hi : i < ln.length
      · have hb2 := hb
        simp only [specB] at hb
        rw [if_pos hi] at hb
        obtain rfl := Option.some.inj hb
        have hs : ln.getD i 0 < n := hL.lt _ (getD_mem' hi)
        have h2 := Lane.walked (ways nx (ln.getD i 0)) ln [] hL (ways_lt h hs)
        have hnext := hstep _ hb2
        obtain ⟨l, hl⟩ := hpre _ hnext
        simp only at hl
        have hri : r.1.getD i [] = (walk kd ln (ways nx (ln.getD i 0)) []).2 := by
          rw [hl, List.append_assoc, List.getD_eq_getElem?_getD, List.getElem?_append_right (by omega), l1, Nat.sub_self]
          rfl
        have hrl : i < r.1.length := by rw [hl]; simp only [List.length_append, List.length_cons, List.length_nil]; omega
        have h6 := num_L6 h hM hk hL hi hri
        obtain ⟨l', eg⟩ := walk_grows (kd := kd) (ts := ways nx (ln.getD i 0)) (ln := ln) (r := [])
        refine ⟨.inl (ints (List.range (walk kd ln (ways nx (ln.getD i 0)) []).1.length), ((i + 1 : Nat) : Int)), ?_, rfl, rfl, h2, by simp [l1], by simp [l2], by simp only [eg, List.length_append]; omega, hnext⟩
        simp only [stanzalaw05_LeastNumbers_L7, Int.toNat_natCast, rng_len, rng_get hi, h6]
        rw [if_pos (by simp only [decide_eq_true_eq]; omega), if_pos ⟨by omega, by omega⟩, if_pos hi, if_pos ⟨by omega, by omega⟩, wrap_i64 (by omega) (by omega)]
        rfl
      · simp only [specB] at hb
        rw [if_neg hi] at hb
        obtain rfl := Option.some.inj hb
        refine ⟨.inr (.inl (ints (List.range ln.length))), ?_, ln.length, rfl, by simp only; omega, by simp only; omega, by omega⟩
        simp only [stanzalaw05_LeastNumbers_L7, rng_len]
        rw [if_neg (by simp only [decide_eq_true_eq]; omega)])
    (s := (([] : List (List Int)), ([] : List Int), [0], 0)) (s' := ([(0 : Int)], (0 : Int)))
    ⟨rfl, rfl, ⟨by simp, by simp [hp]⟩, rfl, rfl, by simp, hr⟩ hr
  obtain ⟨m, m1, m2, m3, m4⟩ := h2
  exact ⟨m, by rw [h1, m1], m2, m3, m4⟩
end

theorem count_eq {m : Nat} (hm : m ≤ 1000) : stanzalaw05_count (m : Int) = some (ints (List.range m)) := by
  have hit := iter_count (body := stanzalaw05_count_L1 (m : Int)) (fun k => (ints (List.range k), (k : Int))) m (r := ints (List.range m)) (fun k hk => by
    simp only [stanzalaw05_count_L1, rng_len]
    rw [if_pos (by simp only [decide_eq_true_eq]; omega), if_pos ⟨by simp only [List.length_cons, List.length_nil]; omega, by simp only [List.length_cons, List.length_nil]; omega⟩, wrap_i64 (by omega) (by omega), rng_succ]
    rfl) (by
    simp only [stanzalaw05_count_L1]
    rw [if_neg (by simp)])
  have hit' : iter (stanzalaw05_count_L1 (m : Int)) (([] : List Int), (0 : Int)) = some (ints (List.range m)) := hit
  unfold stanzalaw05_count
  rw [hit']
  rfl

theorem leastNumbers_true {d1 i1 x2 : List Int} {x1 : Int} (h0 : ∀ x ∈ d1, 0 ≤ x) (h1 : 0 ≤ x1 ∧ x1 ≤ 255) (hi : i1.length ≤ 9223372036854775807) : stanzalaw05_LeastNumbers d1 i1 x1 x2 = some true := by
  have hc : IntKind.i64.wrap (Int.tmod x1 (4 : Int)) = (((x1 % 4).toNat : Nat) : Int) := by
    rw [Int.tmod_eq_emod_of_nonneg h1.1, wrap_i64 (by omega) (by omega)]; omega
  have hc4 : (x1 % 4).toNat ≤ 3 := by omega
  unfold stanzalaw05_LeastNumbers
  rw [awake, Option.bind_some, if_neg (by simp), made_eq hc hc4 hi, Option.bind_some]
  have hl : (madeN d1 i1 (x1 % 4).toNat (min d1.length 30)).length = min d1.length 30 := by simp [madeN]
  by_cases hd : 0 < d1.length
  · have ok := made_ok (i1 := i1) hd hc4 h0
    generalize madeN d1 i1 (x1 % 4).toNat (min d1.length 30) = nx at ok hl ⊢
    generalize madeO d1 (min d1.length 30) = ot at ok ⊢
    generalize min d1.length 30 = n at ok hl
    generalize (x1 % 4).toNat = c at ok
    have hsm := ok.small
    have hp := ok.pos
    have hL1 := num_L1 ok
    obtain ⟨p, p1, hP⟩ := num_L2 ok x2
    obtain ⟨b, b1, b2⟩ := num_L4 ok hP
    obtain ⟨x, e1, e2⟩ := num_same ok hP b2
    -- what Make makes is the spec's
    obtain ⟨B, hB, eB⟩ := make_is ok
    have hdl := dist_length B n
    have hk : ∀ s, s < n → 0 ≤ kap B n s ∧ kap B n s < ((dist B n).length : Nat) := fun s hs => kap_lt hs
    have q := number_eq ok (by omega) hk (most_kap hp)
    obtain ⟨r, hr, _⟩ := spec_ends ok (by omega) hk
    have hxr : x = r := by
      rw [eB, q, hr] at e1
      simp only [Option.bind_some, Option.some.injEq, Prod.mk.injEq, and_true] at e1
      exact e1.symm
    subst hxr
    obtain ⟨m, m1, m2, m3, m4⟩ := num_L7 ok (by omega) hk hr
    simp only [hl, Int.toNat_natCast]
    rw [if_neg (by simp only [beq_iff_eq]; omega), if_pos ⟨by omega, by omega, by omega, by omega⟩, hL1, Option.bind_some, p1, Option.bind_some, if_pos ⟨by omega, by omega, by omega, by omega⟩, if_pos ⟨by omega, by omega, by omega, by omega⟩, b1, Option.bind_some, e1, Option.bind_some, e2, Option.bind_some]
    simp only [bne_self_eq_false, Bool.false_eq_true, if_false, same_auto (make_small ok e1), Option.bind_some, Bool.not_true, m1, rng_len, m2, beq_self_eq_true, if_true]
    rw [count_eq m4]
    simp only [Option.bind_some]
    rw [same_ints (by rw [rng_len]; omega)]
    rfl
  · rw [if_pos (by simp only [beq_iff_eq]; omega)]

abbrev leastNumbers_Ts : List Ty := [.slice (.int .u32), .slice (.int .i64), .int .u8, .slice (.int .i64)]
theorem leastNumbers_all (x : Tup leastNumbers_Ts) (hx : WfT leastNumbers_Ts x) : stanzalaw05_LeastNumbers x.1 x.2.1 x.2.2.1 x.2.2.2.1 = some true :=
  leastNumbers_true (wf_nonneg hx.1) hx.2.2.1 (lenOk hx.2.1.1)
end Go.Proofs.Ytnnbofkcfooljaa.T
