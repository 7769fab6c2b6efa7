/- LeastAlike: true, whatever the input. -/
import Derived.Test.YtnnbofkcfooljaaTvLp
import Derived.Test.YtnnbofkcfooljaaTvT05xLeastAlike
namespace Go.Proofs.Ytnnbofkcfooljaa.T
open Go Go.Tv Go.Proofs

theorem run_snoc {nx : List (List Int)} {s k : Nat} {w : List Nat} : run nx s (w ++ [k]) = dl nx (run nx s w) k := by simp [run, List.foldl_append]
theorem take_snoc {w : List Nat} {k : Nat} (hk : k < w.length) : w.take (k + 1) = w.take k ++ [w.getD k 0] := by
  rw [List.take_add_one, List.getElem?_eq_getElem hk, List.getD_eq_getElem?_getD, List.getElem?_eq_getElem hk]; rfl
theorem getD_mem {w : List Nat} {k : Nat} (hk : k < w.length) : w.getD k 0 ∈ w := by
  rw [List.getD_eq_getElem?_getD, List.getElem?_eq_getElem hk]; exact List.getElem_mem hk

def trace (nx : List (List Int)) (w : List Nat) : List Int := (List.range (w.length + 1)).map fun j => (run nx 0 (w.take j) : Int)

section
variable {nx : List (List Int)} {ot : List Int} {n c : Nat} (h : OkA nx ot n c)
include h

theorem auto_run {w : List Nat} (hw : ∀ k ∈ w, k < c) (hl : w.length ≤ 1000000) : auto_Run nx ot (ints w) = some (trace nx w) := by
  have hi := iter_count (body := auto_Run_L1 nx (ints w)) (fun k => ((List.range (k + 1)).map (fun j => (run nx 0 (w.take j) : Int)), (run nx 0 (w.take k) : Int), (k : Int))) w.length (r := trace nx w) (fun k hk => by
    have hs : run nx 0 (w.take k) < n := run_lt h _ h.pos (fun j hj => hw j (List.mem_of_mem_take hj))
    have hkc : w.getD k 0 < c := hw _ (getD_mem hk)
    have hrow := h.row _ hs
    have hway := h.way _ _ hs hkc
    have hn := h.hn
    have hrun : run nx 0 (w.take (k + 1)) = dl nx (run nx 0 (w.take k)) (w.getD k 0) := by rw [take_snoc hk, run_snoc]
    have hd : (nx.getD (run nx 0 (w.take k)) []).getD (w.getD k 0) 0 = ((run nx 0 (w.take (k + 1)) : Nat) : Int) := by rw [hrun]; unfold dl; omega
    simp only [auto_Run_L1, ints_len, ints_get hk, Int.toNat_natCast, hd]
    rw [if_pos (by simp only [decide_eq_true_eq]; omega), if_pos ⟨by omega, by omega⟩, if_neg (by simp only [decide_eq_true_eq]; omega), if_pos ⟨by omega, by omega⟩]
    simp only [Option.bind_some]
    rw [if_neg (by simp only [decide_eq_true_eq]; omega), if_pos ⟨by omega, by omega⟩, if_pos ⟨by omega, by omega⟩,
      if_pos ⟨by simp only [List.length_map, List.length_range, List.length_cons, List.length_nil]; omega, by simp only [List.length_map, List.length_range, List.length_cons, List.length_nil]; omega⟩,
      wrap_i64 (by omega) (by omega), List.range_succ (n := k + 1), List.map_append]
    rfl) (by
      simp only [auto_Run_L1, ints_len]
      rw [if_neg (by simp)]
      rfl)
  have hi' : iter (auto_Run_L1 nx (ints w)) (([(0 : Int)] : List Int), (0 : Int), (0 : Int)) = some (trace nx w) := hi
  have hn := h.hn
  have hp := h.pos
  unfold auto_Run
  rw [if_neg (by simp only [beq_iff_eq]; omega), hi']
  rfl

def pickW (c : Nat) (x : Int) : Nat := (IntKind.i64.wrap (Int.tmod (IntKind.u64.wrap x) (IntKind.u64.wrap (c : Int)))).toNat
omit h in
theorem pickW_in {c : Nat} (hc : 0 < c) (hc2 : c ≤ 1000) (x : Int) : pickW c x < c ∧ IntKind.i64.wrap (Int.tmod (IntKind.u64.wrap x) (IntKind.u64.wrap (c : Int))) = ((pickW c x : Nat) : Int) := by
  unfold pickW
  rw [u64_wrap, u64_wrap]
  have e : (c : Int) % 18446744073709551616 = (c : Int) := by omega
  rw [e]
  have hv : 0 ≤ x % 18446744073709551616 := Int.emod_nonneg _ (by decide)
  rw [Int.tmod_eq_emod_of_nonneg hv]
  have h1 := Int.emod_nonneg (x % 18446744073709551616) (show (c : Int) ≠ 0 by omega)
  have h2 := Int.emod_lt_of_pos (x % 18446744073709551616) (show 0 < (c : Int) by omega)
  rw [wrap_i64 (by omega) (by omega)]
  omega

theorem alike_row {x2 : List Int} (hx : x2.length ≤ 300) : ∃ w : List Nat, (∀ k ∈ w, k < c) ∧ w.length ≤ 300 ∧ iter (stanzalaw05_LeastAlike_L1 x2 (nx, ot)) (([] : List Int), (0 : Int)) = some (ints w) := by
  have hn := h.hn
  have hp := h.pos
  have hcs := h.cs
  have h0 : (nx.getD ((0 : Int).toNat) ([] : List Int)).length = c := h.row 0 hp
  by_cases hc : 0 < c
  · refine ⟨x2.map (pickW c), fun k hk => ?_, by simpa using hx, ?_⟩
    · obtain ⟨x, _, rfl⟩ := List.mem_map.1 hk
      exact (pickW_in hc hcs x).1
    · exact iter_count (body := stanzalaw05_LeastAlike_L1 x2 (nx, ot)) (fun k => (ints ((x2.take k).map (pickW c)), (k : Int))) x2.length (r := ints (x2.map (pickW c))) (fun k hk => by
        have e : ints ((x2.take (k + 1)).map (pickW c)) = ints ((x2.take k).map (pickW c)) ++ [((pickW c (x2.getD k 0) : Nat) : Int)] := by
          rw [List.take_add_one, List.map_append, List.getElem?_eq_getElem hk, List.getD_eq_getElem?_getD, List.getElem?_eq_getElem hk]
          simp [ints]
        have hl : (ints ((x2.take k).map (pickW c))).length = k := by rw [ints_len, List.length_map, List.length_take]; omega
        simp only [stanzalaw05_LeastAlike_L1, Int.toNat_natCast, h0, (pickW_in hc hcs (x2.getD k 0)).2]
        rw [if_pos (by simp only [decide_eq_true_eq]; omega), if_pos ⟨by omega, by omega⟩, if_pos ⟨by omega, by omega⟩, if_pos (by simp only [decide_eq_true_eq]; omega), if_pos (by rw [u64_wrap]; omega),
          if_pos ⟨by simp only [hl, List.length_cons, List.length_nil]; omega, by simp only [hl, List.length_cons, List.length_nil]; omega⟩]
        simp only [Option.bind_some]
        rw [wrap_i64 (by omega) (by omega), e]
        rfl) (by
          simp only [stanzalaw05_LeastAlike_L1]
          rw [if_neg (by simp), List.take_of_length_le (Nat.le_refl _)])
  · refine ⟨[], by simp, by simp, ?_⟩
    exact iter_count (body := stanzalaw05_LeastAlike_L1 x2 (nx, ot)) (fun k => (([] : List Int), (k : Int))) x2.length (r := ([] : List Int)) (fun k hk => by
        simp only [stanzalaw05_LeastAlike_L1, Int.toNat_natCast, h0]
        rw [if_pos (by simp only [decide_eq_true_eq]; omega), if_pos ⟨by omega, by omega⟩, if_pos ⟨by omega, by omega⟩, if_neg (by simp only [decide_eq_true_eq]; omega)]
        simp only [Option.bind_some]
        rw [wrap_i64 (by omega) (by omega)]
        rfl) (by
          simp only [stanzalaw05_LeastAlike_L1]
          rw [if_neg (by simp)])
end

theorem trace_len {nx : List (List Int)} {w : List Nat} : (trace nx w).length = w.length + 1 := by simp [trace]
theorem trace_get {nx : List (List Int)} {w : List Nat} {j : Nat} (hj : j < w.length + 1) : (trace nx w).getD j 0 = (run nx 0 (w.take j) : Int) := range_get hj

theorem leastAlike_true {d1 i1 x2 : List Int} {x1 : Int} (h0 : ∀ x ∈ d1, 0 ≤ x) (h1 : 0 ≤ x1 ∧ x1 ≤ 255) (hi : i1.length ≤ 9223372036854775807) : stanzalaw05_LeastAlike d1 i1 x1 x2 = some true := by
  have hc : IntKind.i64.wrap (Int.tmod x1 (4 : Int)) = (((x1 % 4).toNat : Nat) : Int) := by
    rw [Int.tmod_eq_emod_of_nonneg h1.1, wrap_i64 (by omega) (by omega)]; omega
  have hc4 : (x1 % 4).toNat ≤ 3 := by omega
  unfold stanzalaw05_LeastAlike
  rw [awake, made_eq hc hc4 hi]
  simp only [Option.bind_some, Bool.not_true, Bool.false_eq_true, if_false]
  have hl : (madeN d1 i1 (x1 % 4).toNat (min d1.length 30)).length = min d1.length 30 := by simp [madeN]
  by_cases hd : 0 < d1.length
  · have ok := made_ok (i1 := i1) hd hc4 h0
    rw [if_neg (by simp only [beq_iff_eq]; omega)]
    simp only [Option.bind_some]
    by_cases hx : x2.length ≤ 300
    · rw [if_neg (by simp only [decide_eq_true_eq]; omega)]
      obtain ⟨x, m, R, e1, okx, hmn, R0, Rl, Rw, Ro⟩ := make_made ok
      obtain ⟨y, f1, f2⟩ := make_sim ok okx R0 Rl Rw Ro
      obtain rfl : y = x := by rw [e1] at f1; simpa using f1.symm
      have hxl := okx.ho
      have hal := ok.ho
      obtain ⟨w, w1, w2, w3⟩ := alike_row ok hx
      rw [e1]
      simp only [Option.bind_some]
      rw [f2]
      simp only [Option.bind_some]
      rw [if_neg (by simp), if_neg (by simp), if_neg (by simp only [decide_eq_true_eq]; omega), same_auto (make_small ok e1)]
      simp only [Option.bind_some, Bool.not_true, Bool.false_eq_true, if_false]
      rw [w3]
      simp only [Option.bind_some]
      rw [auto_run ok w1 (by omega)]
      simp only [Option.bind_some]
      rw [auto_run okx w1 (by omega)]
      simp only [Option.bind_some]
      rw [if_neg (by simp [trace_len])]
      have hR : ∀ j, j ≤ w.length → R (run (madeN d1 i1 (x1 % 4).toNat (min d1.length 30)) 0 (w.take j)) (run y.1 0 (w.take j)) := fun j => by
        induction j with
        | zero => intro _; exact R0
        | succ j ih =>
          intro hj
          have hjl : j < w.length := by omega
          rw [take_snoc hjl, run_snoc, run_snoc]
          exact Rw _ _ (ih (by omega)) _ (w1 _ (getD_mem hjl))
      have hit := iter_count (body := stanzalaw05_LeastAlike_L2 (madeN d1 i1 (x1 % 4).toNat (min d1.length 30), madeO d1 (min d1.length 30)) y (trace (madeN d1 i1 (x1 % 4).toNat (min d1.length 30)) w) (trace y.1 w)) (fun k => (k : Int)) (w.length + 1) (r := Sum.inl ()) (fun k hk => by
        obtain ⟨r1, r2⟩ := Rl _ _ (hR k (by omega))
        simp only [stanzalaw05_LeastAlike_L2, trace_len, Int.toNat_natCast, trace_get hk]
        rw [if_pos (by simp only [decide_eq_true_eq]; omega), if_pos ⟨by omega, by omega⟩, if_pos ⟨by omega, by omega⟩, if_pos ⟨by omega, by omega⟩, if_pos ⟨by omega, by omega⟩,
          if_neg (by simp only [bne_iff_ne, ne_eq, Decidable.not_not]; exact Ro _ _ (hR k (by omega))), wrap_i64 (by omega) (by omega)]
        rfl) (by
          simp only [stanzalaw05_LeastAlike_L2, trace_len]
          rw [if_neg (by simp)])
      have hit' : iter (stanzalaw05_LeastAlike_L2 (madeN d1 i1 (x1 % 4).toNat (min d1.length 30), madeO d1 (min d1.length 30)) y (trace (madeN d1 i1 (x1 % 4).toNat (min d1.length 30)) w) (trace y.1 w)) (0 : Int) = some (Sum.inl ()) := hit
      rw [hit']
      rfl
    · rw [if_pos (by simp only [decide_eq_true_eq]; omega)]
  · rw [if_pos (by simp only [beq_iff_eq]; omega)]
    rfl
end Go.Proofs.Ytnnbofkcfooljaa.T
