/- Functions of the program as functions on data, and that the program's own come to them. -/
import Derived.Test.YtjfjigknkhgkdaaTvT03x0
namespace Go.Proofs.Ytjfjigknkhgkdaa.T
open Go Go.Tv Go.Proofs
noncomputable section
set_option maxRecDepth 100000
set_option maxHeartbeats 4000000
def rr_letter (c1 : Int) : Option (Bool) :=
  (((if (c1 == (95 : Int)) = true then some (true)
  else (if (decide (c1 ≥ (48 : Int))) = true then (if (decide (c1 ≤ (57 : Int))) = true then some (true)
  else (if (decide (c1 ≥ (65 : Int))) = true then (if (decide (c1 ≤ (90 : Int))) = true then some (true)
  else (if (decide (c1 ≥ (97 : Int))) = true then some ((decide (c1 ≤ (122 : Int))))
  else some (false)))
  else (if (decide (c1 ≥ (97 : Int))) = true then some ((decide (c1 ≤ (122 : Int))))
  else some (false))))
  else (if (decide (c1 ≥ (65 : Int))) = true then (if (decide (c1 ≤ (90 : Int))) = true then some (true)
  else (if (decide (c1 ≥ (97 : Int))) = true then some ((decide (c1 ≤ (122 : Int))))
  else some (false)))
  else (if (decide (c1 ≥ (97 : Int))) = true then some ((decide (c1 ≤ (122 : Int))))
  else some (false)))))).bind fun (v1 : Bool) => some v1)
theorem rr_letter_ok (c1 : Int) (res : Bool) (h : rr_letter c1 = some res) :
    Pure Try.prog 36 [.u8 c1] (wrapR (encs false [⟨.bool, res⟩])) := by
  refine Pure.of_body tbok Try.func36 (by kernel_rfl) rfl (nl rfl) (fun Bw w0 => ?_) rfl
  unfold rr_letter at h
  refine W_rs tbok ⟨[], []⟩ [] [] [(0, .u8 c1)] [] 0 0 [True] (by kernel_rfl) ⟨tt, tt⟩ ?_
  refine W_seq ?_
  obtain ⟨v1, hp1, h⟩ := h_bind h
  refine W.mono (Q := (postN Try.f36.ntmps (fun (v1 : Bool) => mkSt [(2, .bo v1)] [] 0)) v1) ?_ (fun e σ' hq => ?_)
  · replace h := hp1
    clear hp1
    rcases bb (c1 == (95 : Int)) with hb23 | hb23
    · replace h := h_if hb23 h
      refine W_r tbok ⟨[(2, true), (9, true), (10, true), (17, true), (18, true), (25, true)], []⟩ [] [] [(2, .bo true)] [] 0 0 (Ts 3 [(c1 == (95 : Int)) = true, (c1 == (95 : Int)) = true, (c1 == (95 : Int)) = true, True, True, (c1 == (95 : Int)) = true, (c1 == (95 : Int)) = true, True, true = true, true = true, true = true, True, True, true = true, true = true, True, true = true, true = true, true = true, True, True, true = true, true = true, True]) (by kernel_rfl) (tr 3 ⟨hb23, hb23, hb23, tt, tt, hb23, hb23, tt, rfl, rfl, rfl, tt, tt, rfl, rfl, tt, rfl, rfl, rfl, tt, tt, rfl, rfl, tt, tt⟩) ?_
      obtain rfl := sI h
      exact postN_to (gl [] [] (by kernel_rfl))
    replace h := h_else hb23 h
    rcases bb (decide (c1 ≥ (48 : Int))) with hb24 | hb24
    · replace h := h_if hb24 h
      rcases bb (decide (c1 ≤ (57 : Int))) with hb25 | hb25
      · replace h := h_if hb25 h
        refine W_r tbok ⟨[(2, false), (5, true), (8, true), (9, false), (10, true), (17, true), (18, true), (25, true)], []⟩ [] [] [(2, .bo true)] [] 0 0 (Ts 3 [(c1 == (95 : Int)) = false ∧ True, (c1 == (95 : Int)) = false ∧ True, (c1 == (95 : Int)) = false ∧ True, (decide (c1 ≥ (48 : Int))) = true ∧ True, (decide (c1 ≥ (48 : Int))) = true ∧ True, (c1 == (95 : Int)) = false ∧ (decide (c1 ≥ (48 : Int))) = true, (c1 == (95 : Int)) = false, True, (decide (c1 ≤ (57 : Int))) = true, (decide (c1 ≤ (57 : Int))) = true, (decide (c1 ≤ (57 : Int))) = true, True, True, (decide (c1 ≤ (57 : Int))) = true, (decide (c1 ≤ (57 : Int))) = true, True, true = true, true = true, true = true, True, True, true = true, true = true, True]) (by kernel_rfl) (tr 3 ⟨⟨hb23, tt⟩, ⟨hb23, tt⟩, ⟨hb23, tt⟩, ⟨hb24, tt⟩, ⟨hb24, tt⟩, ⟨hb23, hb24⟩, hb23, tt, hb25, hb25, hb25, tt, tt, hb25, hb25, tt, rfl, rfl, rfl, tt, tt, rfl, rfl, tt, tt⟩) ?_
        obtain rfl := sI h
        exact postN_to (gl [] [] (by kernel_rfl))
      replace h := h_else hb25 h
      rcases bb (decide (c1 ≥ (65 : Int))) with hb26 | hb26
      · replace h := h_if hb26 h
        rcases bb (decide (c1 ≤ (90 : Int))) with hb27 | hb27
        · replace h := h_if hb27 h
          refine W_r tbok ⟨[(2, false), (5, true), (8, true), (9, false), (10, false), (13, true), (16, true), (17, false), (18, true), (25, true)], []⟩ [] [] [(2, .bo true)] [] 0 0 (Ts 3 [(c1 == (95 : Int)) = false ∧ True, (c1 == (95 : Int)) = false ∧ True, (c1 == (95 : Int)) = false ∧ True, (decide (c1 ≥ (48 : Int))) = true ∧ True, (decide (c1 ≥ (48 : Int))) = true ∧ True, (c1 == (95 : Int)) = false ∧ (decide (c1 ≥ (48 : Int))) = true, (c1 == (95 : Int)) = false, True, (decide (c1 ≤ (57 : Int))) = false ∧ True, (decide (c1 ≤ (57 : Int))) = false ∧ True, (decide (c1 ≤ (57 : Int))) = false ∧ True, (decide (c1 ≥ (65 : Int))) = true ∧ True, (decide (c1 ≥ (65 : Int))) = true ∧ True, (decide (c1 ≤ (57 : Int))) = false ∧ (decide (c1 ≥ (65 : Int))) = true, (decide (c1 ≤ (57 : Int))) = false, True, (decide (c1 ≤ (90 : Int))) = true, (decide (c1 ≤ (90 : Int))) = true, (decide (c1 ≤ (90 : Int))) = true, True, True, (decide (c1 ≤ (90 : Int))) = true, (decide (c1 ≤ (90 : Int))) = true, True]) (by kernel_rfl) (tr 3 ⟨⟨hb23, tt⟩, ⟨hb23, tt⟩, ⟨hb23, tt⟩, ⟨hb24, tt⟩, ⟨hb24, tt⟩, ⟨hb23, hb24⟩, hb23, tt, ⟨hb25, tt⟩, ⟨hb25, tt⟩, ⟨hb25, tt⟩, ⟨hb26, tt⟩, ⟨hb26, tt⟩, ⟨hb25, hb26⟩, hb25, tt, hb27, hb27, hb27, tt, tt, hb27, hb27, tt, tt⟩) ?_
          obtain rfl := sI h
          exact postN_to (gl [] [] (by kernel_rfl))
        replace h := h_else hb27 h
        rcases bb (decide (c1 ≥ (97 : Int))) with hb28 | hb28
        · replace h := h_if hb28 h
          refine W_r tbok ⟨[(2, false), (5, true), (8, true), (9, false), (10, false), (13, true), (16, true), (17, false), (18, false), (21, true), (24, true), (25, false)], []⟩ [] [] [(2, .bo (decide (c1 ≤ (122 : Int))))] [] 0 0 (Ts 3 [(c1 == (95 : Int)) = false ∧ True, (c1 == (95 : Int)) = false ∧ True, (c1 == (95 : Int)) = false ∧ True, (decide (c1 ≥ (48 : Int))) = true ∧ True, (decide (c1 ≥ (48 : Int))) = true ∧ True, (c1 == (95 : Int)) = false ∧ (decide (c1 ≥ (48 : Int))) = true, (c1 == (95 : Int)) = false, True, (decide (c1 ≤ (57 : Int))) = false ∧ True, (decide (c1 ≤ (57 : Int))) = false ∧ True, (decide (c1 ≤ (57 : Int))) = false ∧ True, (decide (c1 ≥ (65 : Int))) = true ∧ True, (decide (c1 ≥ (65 : Int))) = true ∧ True, (decide (c1 ≤ (57 : Int))) = false ∧ (decide (c1 ≥ (65 : Int))) = true, (decide (c1 ≤ (57 : Int))) = false, True, (decide (c1 ≤ (90 : Int))) = false ∧ True, (decide (c1 ≤ (90 : Int))) = false ∧ True, (decide (c1 ≤ (90 : Int))) = false ∧ True, (decide (c1 ≥ (97 : Int))) = true ∧ True, (decide (c1 ≥ (97 : Int))) = true ∧ True, (decide (c1 ≤ (90 : Int))) = false ∧ (decide (c1 ≥ (97 : Int))) = true, (decide (c1 ≤ (90 : Int))) = false, True]) (by kernel_rfl) (tr 3 ⟨⟨hb23, tt⟩, ⟨hb23, tt⟩, ⟨hb23, tt⟩, ⟨hb24, tt⟩, ⟨hb24, tt⟩, ⟨hb23, hb24⟩, hb23, tt, ⟨hb25, tt⟩, ⟨hb25, tt⟩, ⟨hb25, tt⟩, ⟨hb26, tt⟩, ⟨hb26, tt⟩, ⟨hb25, hb26⟩, hb25, tt, ⟨hb27, tt⟩, ⟨hb27, tt⟩, ⟨hb27, tt⟩, ⟨hb28, tt⟩, ⟨hb28, tt⟩, ⟨hb27, hb28⟩, hb27, tt, tt⟩) ?_
          obtain rfl := sI h
          exact postN_to (gl [] [] (by kernel_rfl))
        replace h := h_else hb28 h
        refine W_r tbok ⟨[(2, false), (5, true), (8, true), (9, false), (10, false), (13, true), (16, true), (17, false), (18, false), (21, false), (24, false), (25, false)], []⟩ [] [] [(2, .bo false)] [] 0 0 (Ts 3 [(c1 == (95 : Int)) = false ∧ True, (c1 == (95 : Int)) = false ∧ True, (c1 == (95 : Int)) = false ∧ True, (decide (c1 ≥ (48 : Int))) = true ∧ True, (decide (c1 ≥ (48 : Int))) = true ∧ True, (c1 == (95 : Int)) = false ∧ (decide (c1 ≥ (48 : Int))) = true, (c1 == (95 : Int)) = false, True, (decide (c1 ≤ (57 : Int))) = false ∧ True, (decide (c1 ≤ (57 : Int))) = false ∧ True, (decide (c1 ≤ (57 : Int))) = false ∧ True, (decide (c1 ≥ (65 : Int))) = true ∧ True, (decide (c1 ≥ (65 : Int))) = true ∧ True, (decide (c1 ≤ (57 : Int))) = false ∧ (decide (c1 ≥ (65 : Int))) = true, (decide (c1 ≤ (57 : Int))) = false, True, (decide (c1 ≤ (90 : Int))) = false ∧ True, (decide (c1 ≤ (90 : Int))) = false ∧ True, (decide (c1 ≤ (90 : Int))) = false ∧ True, (decide (c1 ≥ (97 : Int))) = false, (decide (c1 ≥ (97 : Int))) = false, (decide (c1 ≤ (90 : Int))) = false ∧ (decide (c1 ≥ (97 : Int))) = false, (decide (c1 ≤ (90 : Int))) = false, True]) (by kernel_rfl) (tr 3 ⟨⟨hb23, tt⟩, ⟨hb23, tt⟩, ⟨hb23, tt⟩, ⟨hb24, tt⟩, ⟨hb24, tt⟩, ⟨hb23, hb24⟩, hb23, tt, ⟨hb25, tt⟩, ⟨hb25, tt⟩, ⟨hb25, tt⟩, ⟨hb26, tt⟩, ⟨hb26, tt⟩, ⟨hb25, hb26⟩, hb25, tt, ⟨hb27, tt⟩, ⟨hb27, tt⟩, ⟨hb27, tt⟩, hb28, hb28, ⟨hb27, hb28⟩, hb27, tt, tt⟩) ?_
        obtain rfl := sI h
        exact postN_to (gl [] [] (by kernel_rfl))
      replace h := h_else hb26 h
      rcases bb (decide (c1 ≥ (97 : Int))) with hb29 | hb29
      · replace h := h_if hb29 h
        refine W_r tbok ⟨[(2, false), (5, true), (8, true), (9, false), (10, false), (13, false), (16, false), (17, false), (18, false), (21, true), (24, true), (25, false)], []⟩ [] [] [(2, .bo (decide (c1 ≤ (122 : Int))))] [] 0 0 (Ts 3 [(c1 == (95 : Int)) = false ∧ True, (c1 == (95 : Int)) = false ∧ True, (c1 == (95 : Int)) = false ∧ True, (decide (c1 ≥ (48 : Int))) = true ∧ True, (decide (c1 ≥ (48 : Int))) = true ∧ True, (c1 == (95 : Int)) = false ∧ (decide (c1 ≥ (48 : Int))) = true, (c1 == (95 : Int)) = false, True, (decide (c1 ≤ (57 : Int))) = false ∧ True, (decide (c1 ≤ (57 : Int))) = false ∧ True, (decide (c1 ≤ (57 : Int))) = false ∧ True, (decide (c1 ≥ (65 : Int))) = false, (decide (c1 ≥ (65 : Int))) = false, (decide (c1 ≤ (57 : Int))) = false ∧ (decide (c1 ≥ (65 : Int))) = false, (decide (c1 ≤ (57 : Int))) = false, True, false = false ∧ True, false = false ∧ True, false = false ∧ True, (decide (c1 ≥ (97 : Int))) = true ∧ True, (decide (c1 ≥ (97 : Int))) = true ∧ True, false = false ∧ (decide (c1 ≥ (97 : Int))) = true, false = false, True]) (by kernel_rfl) (tr 3 ⟨⟨hb23, tt⟩, ⟨hb23, tt⟩, ⟨hb23, tt⟩, ⟨hb24, tt⟩, ⟨hb24, tt⟩, ⟨hb23, hb24⟩, hb23, tt, ⟨hb25, tt⟩, ⟨hb25, tt⟩, ⟨hb25, tt⟩, hb26, hb26, ⟨hb25, hb26⟩, hb25, tt, ⟨rfl, tt⟩, ⟨rfl, tt⟩, ⟨rfl, tt⟩, ⟨hb29, tt⟩, ⟨hb29, tt⟩, ⟨rfl, hb29⟩, rfl, tt, tt⟩) ?_
        obtain rfl := sI h
        exact postN_to (gl [] [] (by kernel_rfl))
      replace h := h_else hb29 h
      refine W_r tbok ⟨[(2, false), (5, true), (8, true), (9, false), (10, false), (13, false), (16, false), (17, false), (18, false), (21, false), (24, false), (25, false)], []⟩ [] [] [(2, .bo false)] [] 0 0 (Ts 3 [(c1 == (95 : Int)) = false ∧ True, (c1 == (95 : Int)) = false ∧ True, (c1 == (95 : Int)) = false ∧ True, (decide (c1 ≥ (48 : Int))) = true ∧ True, (decide (c1 ≥ (48 : Int))) = true ∧ True, (c1 == (95 : Int)) = false ∧ (decide (c1 ≥ (48 : Int))) = true, (c1 == (95 : Int)) = false, True, (decide (c1 ≤ (57 : Int))) = false ∧ True, (decide (c1 ≤ (57 : Int))) = false ∧ True, (decide (c1 ≤ (57 : Int))) = false ∧ True, (decide (c1 ≥ (65 : Int))) = false, (decide (c1 ≥ (65 : Int))) = false, (decide (c1 ≤ (57 : Int))) = false ∧ (decide (c1 ≥ (65 : Int))) = false, (decide (c1 ≤ (57 : Int))) = false, True, false = false ∧ True, false = false ∧ True, false = false ∧ True, (decide (c1 ≥ (97 : Int))) = false, (decide (c1 ≥ (97 : Int))) = false, false = false ∧ (decide (c1 ≥ (97 : Int))) = false, false = false, True]) (by kernel_rfl) (tr 3 ⟨⟨hb23, tt⟩, ⟨hb23, tt⟩, ⟨hb23, tt⟩, ⟨hb24, tt⟩, ⟨hb24, tt⟩, ⟨hb23, hb24⟩, hb23, tt, ⟨hb25, tt⟩, ⟨hb25, tt⟩, ⟨hb25, tt⟩, hb26, hb26, ⟨hb25, hb26⟩, hb25, tt, ⟨rfl, tt⟩, ⟨rfl, tt⟩, ⟨rfl, tt⟩, hb29, hb29, ⟨rfl, hb29⟩, rfl, tt, tt⟩) ?_
      obtain rfl := sI h
      exact postN_to (gl [] [] (by kernel_rfl))
    replace h := h_else hb24 h
    rcases bb (decide (c1 ≥ (65 : Int))) with hb30 | hb30
    · replace h := h_if hb30 h
      rcases bb (decide (c1 ≤ (90 : Int))) with hb31 | hb31
      · replace h := h_if hb31 h
        refine W_r tbok ⟨[(2, false), (5, false), (8, false), (9, false), (10, false), (13, true), (16, true), (17, false), (18, true), (25, true)], []⟩ [] [] [(2, .bo true)] [] 0 0 (Ts 3 [(c1 == (95 : Int)) = false ∧ True, (c1 == (95 : Int)) = false ∧ True, (c1 == (95 : Int)) = false ∧ True, (decide (c1 ≥ (48 : Int))) = false, (decide (c1 ≥ (48 : Int))) = false, (c1 == (95 : Int)) = false ∧ (decide (c1 ≥ (48 : Int))) = false, (c1 == (95 : Int)) = false, True, false = false ∧ True, false = false ∧ True, false = false ∧ True, (decide (c1 ≥ (65 : Int))) = true ∧ True, (decide (c1 ≥ (65 : Int))) = true ∧ True, false = false ∧ (decide (c1 ≥ (65 : Int))) = true, false = false, True, (decide (c1 ≤ (90 : Int))) = true, (decide (c1 ≤ (90 : Int))) = true, (decide (c1 ≤ (90 : Int))) = true, True, True, (decide (c1 ≤ (90 : Int))) = true, (decide (c1 ≤ (90 : Int))) = true, True]) (by kernel_rfl) (tr 3 ⟨⟨hb23, tt⟩, ⟨hb23, tt⟩, ⟨hb23, tt⟩, hb24, hb24, ⟨hb23, hb24⟩, hb23, tt, ⟨rfl, tt⟩, ⟨rfl, tt⟩, ⟨rfl, tt⟩, ⟨hb30, tt⟩, ⟨hb30, tt⟩, ⟨rfl, hb30⟩, rfl, tt, hb31, hb31, hb31, tt, tt, hb31, hb31, tt, tt⟩) ?_
        obtain rfl := sI h
        exact postN_to (gl [] [] (by kernel_rfl))
      replace h := h_else hb31 h
      rcases bb (decide (c1 ≥ (97 : Int))) with hb32 | hb32
      · replace h := h_if hb32 h
        refine W_r tbok ⟨[(2, false), (5, false), (8, false), (9, false), (10, false), (13, true), (16, true), (17, false), (18, false), (21, true), (24, true), (25, false)], []⟩ [] [] [(2, .bo (decide (c1 ≤ (122 : Int))))] [] 0 0 (Ts 3 [(c1 == (95 : Int)) = false ∧ True, (c1 == (95 : Int)) = false ∧ True, (c1 == (95 : Int)) = false ∧ True, (decide (c1 ≥ (48 : Int))) = false, (decide (c1 ≥ (48 : Int))) = false, (c1 == (95 : Int)) = false ∧ (decide (c1 ≥ (48 : Int))) = false, (c1 == (95 : Int)) = false, True, false = false ∧ True, false = false ∧ True, false = false ∧ True, (decide (c1 ≥ (65 : Int))) = true ∧ True, (decide (c1 ≥ (65 : Int))) = true ∧ True, false = false ∧ (decide (c1 ≥ (65 : Int))) = true, false = false, True, (decide (c1 ≤ (90 : Int))) = false ∧ True, (decide (c1 ≤ (90 : Int))) = false ∧ True, (decide (c1 ≤ (90 : Int))) = false ∧ True, (decide (c1 ≥ (97 : Int))) = true ∧ True, (decide (c1 ≥ (97 : Int))) = true ∧ True, (decide (c1 ≤ (90 : Int))) = false ∧ (decide (c1 ≥ (97 : Int))) = true, (decide (c1 ≤ (90 : Int))) = false, True]) (by kernel_rfl) (tr 3 ⟨⟨hb23, tt⟩, ⟨hb23, tt⟩, ⟨hb23, tt⟩, hb24, hb24, ⟨hb23, hb24⟩, hb23, tt, ⟨rfl, tt⟩, ⟨rfl, tt⟩, ⟨rfl, tt⟩, ⟨hb30, tt⟩, ⟨hb30, tt⟩, ⟨rfl, hb30⟩, rfl, tt, ⟨hb31, tt⟩, ⟨hb31, tt⟩, ⟨hb31, tt⟩, ⟨hb32, tt⟩, ⟨hb32, tt⟩, ⟨hb31, hb32⟩, hb31, tt, tt⟩) ?_
        obtain rfl := sI h
        exact postN_to (gl [] [] (by kernel_rfl))
      replace h := h_else hb32 h
      refine W_r tbok ⟨[(2, false), (5, false), (8, false), (9, false), (10, false), (13, true), (16, true), (17, false), (18, false), (21, false), (24, false), (25, false)], []⟩ [] [] [(2, .bo false)] [] 0 0 (Ts 3 [(c1 == (95 : Int)) = false ∧ True, (c1 == (95 : Int)) = false ∧ True, (c1 == (95 : Int)) = false ∧ True, (decide (c1 ≥ (48 : Int))) = false, (decide (c1 ≥ (48 : Int))) = false, (c1 == (95 : Int)) = false ∧ (decide (c1 ≥ (48 : Int))) = false, (c1 == (95 : Int)) = false, True, false = false ∧ True, false = false ∧ True, false = false ∧ True, (decide (c1 ≥ (65 : Int))) = true ∧ True, (decide (c1 ≥ (65 : Int))) = true ∧ True, false = false ∧ (decide (c1 ≥ (65 : Int))) = true, false = false, True, (decide (c1 ≤ (90 : Int))) = false ∧ True, (decide (c1 ≤ (90 : Int))) = false ∧ True, (decide (c1 ≤ (90 : Int))) = false ∧ True, (decide (c1 ≥ (97 : Int))) = false, (decide (c1 ≥ (97 : Int))) = false, (decide (c1 ≤ (90 : Int))) = false ∧ (decide (c1 ≥ (97 : Int))) = false, (decide (c1 ≤ (90 : Int))) = false, True]) (by kernel_rfl) (tr 3 ⟨⟨hb23, tt⟩, ⟨hb23, tt⟩, ⟨hb23, tt⟩, hb24, hb24, ⟨hb23, hb24⟩, hb23, tt, ⟨rfl, tt⟩, ⟨rfl, tt⟩, ⟨rfl, tt⟩, ⟨hb30, tt⟩, ⟨hb30, tt⟩, ⟨rfl, hb30⟩, rfl, tt, ⟨hb31, tt⟩, ⟨hb31, tt⟩, ⟨hb31, tt⟩, hb32, hb32, ⟨hb31, hb32⟩, hb31, tt, tt⟩) ?_
      obtain rfl := sI h
      exact postN_to (gl [] [] (by kernel_rfl))
    replace h := h_else hb30 h
    rcases bb (decide (c1 ≥ (97 : Int))) with hb33 | hb33
    · replace h := h_if hb33 h
      refine W_r tbok ⟨[(2, false), (5, false), (8, false), (9, false), (10, false), (13, false), (16, false), (17, false), (18, false), (21, true), (24, true), (25, false)], []⟩ [] [] [(2, .bo (decide (c1 ≤ (122 : Int))))] [] 0 0 (Ts 3 [(c1 == (95 : Int)) = false ∧ True, (c1 == (95 : Int)) = false ∧ True, (c1 == (95 : Int)) = false ∧ True, (decide (c1 ≥ (48 : Int))) = false, (decide (c1 ≥ (48 : Int))) = false, (c1 == (95 : Int)) = false ∧ (decide (c1 ≥ (48 : Int))) = false, (c1 == (95 : Int)) = false, True, false = false ∧ True, false = false ∧ True, false = false ∧ True, (decide (c1 ≥ (65 : Int))) = false, (decide (c1 ≥ (65 : Int))) = false, false = false ∧ (decide (c1 ≥ (65 : Int))) = false, false = false, True, false = false ∧ True, false = false ∧ True, false = false ∧ True, (decide (c1 ≥ (97 : Int))) = true ∧ True, (decide (c1 ≥ (97 : Int))) = true ∧ True, false = false ∧ (decide (c1 ≥ (97 : Int))) = true, false = false, True]) (by kernel_rfl) (tr 3 ⟨⟨hb23, tt⟩, ⟨hb23, tt⟩, ⟨hb23, tt⟩, hb24, hb24, ⟨hb23, hb24⟩, hb23, tt, ⟨rfl, tt⟩, ⟨rfl, tt⟩, ⟨rfl, tt⟩, hb30, hb30, ⟨rfl, hb30⟩, rfl, tt, ⟨rfl, tt⟩, ⟨rfl, tt⟩, ⟨rfl, tt⟩, ⟨hb33, tt⟩, ⟨hb33, tt⟩, ⟨rfl, hb33⟩, rfl, tt, tt⟩) ?_
      obtain rfl := sI h
      exact postN_to (gl [] [] (by kernel_rfl))
    replace h := h_else hb33 h
    refine W_r tbok ⟨[(2, false), (5, false), (8, false), (9, false), (10, false), (13, false), (16, false), (17, false), (18, false), (21, false), (24, false), (25, false)], []⟩ [] [] [(2, .bo false)] [] 0 0 (Ts 3 [(c1 == (95 : Int)) = false ∧ True, (c1 == (95 : Int)) = false ∧ True, (c1 == (95 : Int)) = false ∧ True, (decide (c1 ≥ (48 : Int))) = false, (decide (c1 ≥ (48 : Int))) = false, (c1 == (95 : Int)) = false ∧ (decide (c1 ≥ (48 : Int))) = false, (c1 == (95 : Int)) = false, True, false = false ∧ True, false = false ∧ True, false = false ∧ True, (decide (c1 ≥ (65 : Int))) = false, (decide (c1 ≥ (65 : Int))) = false, false = false ∧ (decide (c1 ≥ (65 : Int))) = false, false = false, True, false = false ∧ True, false = false ∧ True, false = false ∧ True, (decide (c1 ≥ (97 : Int))) = false, (decide (c1 ≥ (97 : Int))) = false, false = false ∧ (decide (c1 ≥ (97 : Int))) = false, false = false, True]) (by kernel_rfl) (tr 3 ⟨⟨hb23, tt⟩, ⟨hb23, tt⟩, ⟨hb23, tt⟩, hb24, hb24, ⟨hb23, hb24⟩, hb23, tt, ⟨rfl, tt⟩, ⟨rfl, tt⟩, ⟨rfl, tt⟩, hb30, hb30, ⟨rfl, hb30⟩, rfl, tt, ⟨rfl, tt⟩, ⟨rfl, tt⟩, ⟨rfl, tt⟩, hb33, hb33, ⟨rfl, hb33⟩, rfl, tt, tt⟩) ?_
    obtain rfl := sI h
    exact postN_to (gl [] [] (by kernel_rfl))
  clear hp1
  obtain ⟨rfl, hle⟩ := hq
  refine use_to ?_ hle
  refine to_then ?_
  refine W_ret ?_
  obtain rfl := sI h
  exact Ret_intro [.bool] (by kernel_rfl)
def rq_bad_v6 (code1 at1 : Int) (p1 : List UInt8) (p2 p3 p4 p5 p6 p7 p8 : Int) (o1 : List (List UInt8)) (o2 : List Int) (o3 : List (Int × Tree × Tree)) (o4 : List (List UInt8)) (o5 : List Int) : Option (Int × Int) :=
  (((if (p7 == (0 : Int)) = true then some ((code1, at1))
  else some ((p7, p8)))).bind fun ((v5, v6) : Int × Int) => some (v5, v6))
theorem rq_bad_v6_ok (code1 at1 : Int) (p1 : List UInt8) (p2 p3 p4 p5 p6 p7 p8 : Int) (o1 : List (List UInt8)) (o2 : List Int) (o3 : List (Int × Tree × Tree)) (o4 : List (List UInt8)) (o5 : List Int) (res : Int × Int) (h : rq_bad_v6 code1 at1 p1 p2 p3 p4 p5 p6 p7 p8 o1 o2 o3 o4 o5 = some res) :
    Owns Try.prog 37 [.adr 0 0 13 0, .i64 code1, .i64 at1] (ob61 p1 p2 p3 p4 p5 p6 p7 p8 o1 o2 o3 o4 o5) (.tup []) (ob61 p1 p2 p3 p4 p5 p6 res.1 res.2 o1 o2 o3 o4 o5) := by
  refine Owns.of_body tbok Try.func37 (by kernel_rfl) rfl (nl rfl) (fun Bw w0 => ?_)
  unfold rq_bad_v6 at h
  refine W_rs tbok ⟨[], []⟩ [] [0, 1, 2, 3, 4, 5] [(0, .adr 0 0 13 0), (1, .i64 code1), (2, .i64 at1), (10, .bo (p7 == (0 : Int)))] (ob61 p1 p2 p3 p4 p5 p6 p7 p8 o1 o2 o3 o4 o5) 6 6 (Ts 5 []) (by kernel_rfl) (tr 5 tt) ?_
  obtain ⟨r2, hp2, h⟩ := h_bind h
  refine W.mono (Q := (postN Try.f37.ntmps (fun ((v5, v6) : Int × Int) => mkSt [] (ob61 p1 p2 p3 p4 p5 p6 v5 v6 o1 o2 o3 o4 o5) 6 6)) r2) ?_ (fun e σ' hq => ?_)
  · replace h := hp2
    clear hp2
    refine W_cond (b := (p7 == (0 : Int))) (β := false) (by kernel_rfl) (fun hb4 => ?_) (fun hb4 => ?_)
    · replace h := h_if hb4 h
      refine W_rs tbok ⟨[], []⟩ [] [0, 1, 2, 3, 4, 5] [(0, .adr 0 0 13 0), (2, .i64 at1)] (ob61 p1 p2 p3 p4 p5 p6 code1 p8 o1 o2 o3 o4 o5) 6 6 (Ts 5 []) (by kernel_rfl) (tr 5 tt) ?_
      refine W_r tbok ⟨[], []⟩ [] [0, 1, 2, 3, 4, 5] [] (ob61 p1 p2 p3 p4 p5 p6 code1 at1 o1 o2 o3 o4 o5) 6 6 (Ts 5 []) (by kernel_rfl) (tr 5 tt) ?_
      obtain rfl := sI h
      exact postN_to (gl [] [0, 1, 2, 3, 4, 5] (by kernel_rfl))
    replace h := h_else hb4 h
    refine W_skip_to ?_
    obtain rfl := sI h
    exact postN_to (gl [] [0, 1, 2, 3, 4, 5] (by kernel_rfl))
  clear hp2
  obtain ⟨v5, v6⟩ := r2
  obtain ⟨rfl, hle⟩ := hq
  refine use_to ?_ hle
  obtain rfl := sI h
  exact (RetO_intro [] [] [0, 1, 2, 3, 4, 5] [] (ob61 p1 p2 p3 p4 p5 p6 v5 v6 o1 o2 o3 o4 o5) 6 6 (by kernel_rfl) (by kernel_rfl) (by kernel_rfl)).normal
def rq_here_v7_L1 (d1 : List UInt8) : (Int) → Option ((Int) ⊕ (Int)) := fun (d37 : Int) =>
  (((if (decide (d37 < (d1.length : Int))) = true then (if 0 ≤ d37 ∧ d37 < (d1.length : Int) then some ((((d1.getD d37.toNat 0).toNat : Int) != (10 : Int))) else none)
  else some (false))).bind fun (v48 : Bool) => (if v48 = true then some (Sum.inl (IntKind.i64.wrap (d37 + (1 : Int))))
  else some (Sum.inr d37)))
def rq_here_v7_L2 (d1 : List UInt8) (d33 d34 d35 : Int) : (Int) → Option ((Int) ⊕ ((Unit) ⊕ (Int × Int × Int × Int))) := fun (v51 : Int) =>
  (if (decide (v51 < (([40, 41, 91, 93, 94, 124, 42, 43, 63, 46, 59, 47, 61] : List UInt8).length : Int))) = true then (if 0 ≤ v51 ∧ v51 < (([40, 41, 91, 93, 94, 124, 42, 43, 63, 46, 59, 47, 61] : List UInt8).length : Int) then (if (((([40, 41, 91, 93, 94, 124, 42, 43, 63, 46, 59, 47, 61] : List UInt8).getD v51.toNat 0).toNat : Int) == ((d1.getD d33.toNat 0).toNat : Int)) = true then some (Sum.inr (Sum.inr (((d1.getD d33.toNat 0).toNat : Int), d33, d34, d35)))
  else some (Sum.inl (IntKind.i64.wrap (v51 + (1 : Int))))) else none)
  else some (Sum.inr (Sum.inl ())))
def rq_here_v7_L3 (d1 : List UInt8) (d3 d4 d5 d6 : Int) (o1 : List (List UInt8)) (o2 : List Int) (o3 : List (Int × Tree × Tree)) (o4 : List (List UInt8)) (o5 : List Int) : (Int × Int × Int) → Option ((Int × Int × Int) ⊕ ((Int × Int × Int) ⊕ (Int × Int × Int × Int))) := fun ((d33, d34, d35) : Int × Int × Int) =>
  (((if (d34 == (0 : Int)) = true then some ((decide (d33 < (d1.length : Int))))
  else some (false))).bind fun (v45 : Bool) => (if v45 = true then (if 0 ≤ d33 ∧ d33 < (d1.length : Int) then (if (((d1.getD d33.toNat 0).toNat : Int) == (35 : Int)) = true then ((iter (rq_here_v7_L1 d1) d33).bind fun (d38 : Int) => some (Sum.inl (d38, d34, d35)))
  else (((if (((d1.getD d33.toNat 0).toNat : Int) == (32 : Int)) = true then some (true)
  else (if (((d1.getD d33.toNat 0).toNat : Int) == (9 : Int)) = true then some (true)
  else (if (((d1.getD d33.toNat 0).toNat : Int) == (10 : Int)) = true then some (true)
  else some ((((d1.getD d33.toNat 0).toNat : Int) == (13 : Int))))))).bind fun (v49 : Bool) => (if v49 = true then some (Sum.inl ((IntKind.i64.wrap (d33 + (1 : Int))), d34, d35))
  else ((iter (rq_here_v7_L2 d1 d33 d34 d35) (0 : Int)).bind fun (r54 : ((Unit) ⊕ (Int × Int × Int × Int))) => match r54 with
  | .inl _ => ((rr_letter ((d1.getD d33.toNat 0).toNat : Int)).bind fun (r56 : Bool) =>
  (if r56 = true then some (Sum.inr (Sum.inr (((d1.getD d33.toNat 0).toNat : Int), d33, d34, d35)))
  else ((rq_bad_v6 (20 : Int) d33 d1 d33 d3 d4 d5 d6 d34 d35 o1 o2 o3 o4 o5).bind fun ((r59, r60) : Int × Int) =>
  some (Sum.inl (d33, r59, r60)))))
  | .inr ((r50, r51, r52, r53)) => some (Sum.inr (Sum.inr (r50, r51, r52, r53))))))) else none)
  else some (Sum.inr (Sum.inl (d33, d34, d35)))))
def rq_here_v7 (d1 : List UInt8) (d2 d3 d4 d5 d6 d7 d8 : Int) (o1 : List (List UInt8)) (o2 : List Int) (o3 : List (Int × Tree × Tree)) (o4 : List (List UInt8)) (o5 : List Int) : Option (Int × Int × Int × Int) :=
  ((iter (rq_here_v7_L3 d1 d3 d4 d5 d6 o1 o2 o3 o4 o5) (d2, d7, d8)).bind fun (r61 : ((Int × Int × Int) ⊕ (Int × Int × Int × Int))) => match r61 with
  | .inl (v42, v43, v44) => some ((0 : Int), v42, v43, v44)
  | .inr ((r46, r47, r48, r49)) => some (r46, r47, r48, r49))
theorem rq_here_v7_ok (d1 : List UInt8) (d2 d3 d4 d5 d6 d7 d8 : Int) (o1 : List (List UInt8)) (o2 : List Int) (o3 : List (Int × Tree × Tree)) (o4 : List (List UInt8)) (o5 : List Int) (res : Int × Int × Int × Int) (h : rq_here_v7 d1 d2 d3 d4 d5 d6 d7 d8 o1 o2 o3 o4 o5 = some res) :
    Owns Try.prog 26 [.adr 0 0 13 0] (ob61 d1 d2 d3 d4 d5 d6 d7 d8 o1 o2 o3 o4 o5) (.u8 res.1) (ob61 d1 res.2.1 d3 d4 d5 d6 res.2.2.1 res.2.2.2 o1 o2 o3 o4 o5) := by
  refine Owns.of_body tbok Try.func26 (by kernel_rfl) rfl (nl rfl) (fun Bw w0 => ?_)
  unfold rq_here_v7 at h
  refine W_rs tbok ⟨[], []⟩ [] [0, 1, 2, 3, 4, 5] [(0, .adr 0 0 13 0)] (ob61 d1 d2 d3 d4 d5 d6 d7 d8 o1 o2 o3 o4 o5) 6 6 [True] (by kernel_rfl) ⟨tt, tt⟩ ?_
  refine W_seq ?_
  refine W_block ?_
  obtain ⟨r61, hp44, h⟩ := h_bind h
  refine W.mono (Q := (postS (postX Try.f26.ntmps 0 (fun ((v42, v43, v44) : Int × Int × Int) => mkSt [] (ob61 d1 v42 d3 d4 d5 d6 v43 v44 o1 o2 o3 o4 o5) 6 6)) (postRO tb Try.f26.ntmps Try.f26.results.toList (fun ((r46, r47, r48, r49) : Int × Int × Int × Int) => (.u8 r46, (ob61 d1 r47 d3 d4 d5 d6 r48 r49 o1 o2 o3 o4 o5))))) r61) (W_iter (f := fun ((d33, d34, d35) : Int × Int × Int) => mkSt [(0, .adr 0 0 13 0)] (ob61 d1 d33 d3 d4 d5 d6 d34 d35 o1 o2 o3 o4 o5) 6 6) (Q := (postS (postX Try.f26.ntmps 0 (fun ((v42, v43, v44) : Int × Int × Int) => mkSt [] (ob61 d1 v42 d3 d4 d5 d6 v43 v44 o1 o2 o3 o4 o5) 6 6)) (postRO tb Try.f26.ntmps Try.f26.results.toList (fun ((r46, r47, r48, r49) : Int × Int × Int × Int) => (.u8 r46, (ob61 d1 r47 d3 d4 d5 d6 r48 r49 o1 o2 o3 o4 o5)))))) hp44 (gl [] [0, 1, 2, 3, 4, 5] (by kernel_rfl)) (fun y o ho => ?_)) (fun e σ' hq => ?_)
  · obtain ⟨d33, d34, d35⟩ := y
    replace h := ho
    clear ho hp44
    unfold rq_here_v7_L3 at h
    refine W_seq ?_
    refine W_seq ?_
    obtain ⟨v45, hp37, h⟩ := h_bind h
    refine W.mono (Q := (postN Try.f26.ntmps (fun (v45 : Bool) => mkSt [(0, .adr 0 0 13 0), (22, .bo v45)] (ob61 d1 d33 d3 d4 d5 d6 d34 d35 o1 o2 o3 o4 o5) 6 6)) v45) ?_ (fun e σ' hq => ?_)
    · replace h := hp37
      clear hp37
      rcases bb (d34 == (0 : Int)) with hb173 | hb173
      · replace h := h_if hb173 h
        refine W_regD tbok mixed ⟨[(5, true), (16, true)], []⟩ [] [0, 1, 2, 3, 4, 5] [(0, .adr 0 0 13 0), (22, .bo (decide (d33 < (d1.length : Int))))] (ob61 d1 d33 d3 d4 d5 d6 d34 d35 o1 o2 o3 o4 o5) 6 6 (Ts 6 [(d34 == (0 : Int)) = true ∧ True, (d34 == (0 : Int)) = true ∧ True, (d34 == (0 : Int)) = true ∧ True, (d34 == (0 : Int)) = true ∧ True, (d34 == (0 : Int)) = true ∧ True, (d34 == (0 : Int)) = true ∧ True, (d34 == (0 : Int)) = true ∧ True, (d34 == (0 : Int)) = true ∧ True, (d34 == (0 : Int)) = true ∧ True, (d34 == (0 : Int)) = true ∧ True, (d34 == (0 : Int)) = true]) (by kernel_rfl) (by kernel_rfl) (tr 6 ⟨⟨hb173, tt⟩, ⟨hb173, tt⟩, ⟨hb173, tt⟩, ⟨hb173, tt⟩, ⟨hb173, tt⟩, ⟨hb173, tt⟩, ⟨hb173, tt⟩, ⟨hb173, tt⟩, ⟨hb173, tt⟩, ⟨hb173, tt⟩, hb173, tt⟩) ?_
        obtain rfl := sI h
        exact postN_to (gl [] [0, 1, 2, 3, 4, 5] (by kernel_rfl))
      replace h := h_else hb173 h
      refine W_regD tbok mixed ⟨[(5, false), (16, false)], []⟩ [] [0, 1, 2, 3, 4, 5] [(0, .adr 0 0 13 0), (22, .bo false)] (ob61 d1 d33 d3 d4 d5 d6 d34 d35 o1 o2 o3 o4 o5) 6 6 (Ts 6 [(d34 == (0 : Int)) = false, (d34 == (0 : Int)) = false, (d34 == (0 : Int)) = false, (d34 == (0 : Int)) = false, (d34 == (0 : Int)) = false, (d34 == (0 : Int)) = false, (d34 == (0 : Int)) = false, (d34 == (0 : Int)) = false, (d34 == (0 : Int)) = false, (d34 == (0 : Int)) = false, (d34 == (0 : Int)) = false]) (by kernel_rfl) (by kernel_rfl) (tr 6 ⟨hb173, hb173, hb173, hb173, hb173, hb173, hb173, hb173, hb173, hb173, hb173, tt⟩) ?_
      obtain rfl := sI h
      exact postN_to (gl [] [0, 1, 2, 3, 4, 5] (by kernel_rfl))
    clear hp37
    obtain ⟨rfl, hle⟩ := hq
    refine use_to ?_ hle
    refine to_then ?_
    refine W_cond (b := v45) (β := false) (by kernel_rfl) (fun hb174 => ?_) (fun hb174 => ?_)
    · replace h := h_if hb174 h
      refine W_skip_to ?_
      refine to_then ?_
      refine W_block ?_
      refine W_seq ?_
      obtain ⟨c87, h⟩ := h_guard h
      refine W_regD tbok mixed ⟨[], []⟩ [] [0, 1, 2, 3, 4, 5] [(0, .adr 0 0 13 0), (3, .u8 ((d1.getD d33.toNat 0).toNat : Int))] (ob61 d1 d33 d3 d4 d5 d6 d34 d35 o1 o2 o3 o4 o5) 6 6 (Ts 8 [0 ≤ d33 ∧ d33 < (d1.length : Int), True]) (by kernel_rfl) (by kernel_rfl) (tr 8 ⟨c87, tt, tt⟩) ?_
      refine to_then ?_
      refine W_block ?_
      refine W_rs tbok ⟨[], []⟩ [] [0, 1, 2, 3, 4, 5] [(0, .adr 0 0 13 0), (3, .u8 ((d1.getD d33.toNat 0).toNat : Int)), (53, .bo (((d1.getD d33.toNat 0).toNat : Int) == (35 : Int)))] (ob61 d1 d33 d3 d4 d5 d6 d34 d35 o1 o2 o3 o4 o5) 6 6 (Ts 3 []) (by kernel_rfl) (tr 3 tt) ?_
      refine W_cond (b := (((d1.getD d33.toNat 0).toNat : Int) == (35 : Int))) (β := false) (by kernel_rfl) (fun hb175 => ?_) (fun hb175 => ?_)
      · replace h := h_if hb175 h
        refine W_block ?_
        obtain ⟨d38, hp41, h⟩ := h_bind h
        refine W.mono (Q := (postX Try.f26.ntmps 5 (fun (d38 : Int) => mkSt [(0, .adr 0 0 13 0)] (ob61 d1 d38 d3 d4 d5 d6 d34 d35 o1 o2 o3 o4 o5) 6 6)) d38) (W_iter (f := fun (d37 : Int) => mkSt [(0, .adr 0 0 13 0)] (ob61 d1 d37 d3 d4 d5 d6 d34 d35 o1 o2 o3 o4 o5) 6 6) (Q := (postX Try.f26.ntmps 5 (fun (d38 : Int) => mkSt [(0, .adr 0 0 13 0)] (ob61 d1 d38 d3 d4 d5 d6 d34 d35 o1 o2 o3 o4 o5) 6 6))) hp41 (gl [] [0, 1, 2, 3, 4, 5] (by kernel_rfl)) (fun d37 o ho => ?_)) (fun e σ' hq => ?_)
        · replace h := ho
          clear ho hp41
          unfold rq_here_v7_L1 at h
          refine W_seq ?_
          refine W_seq ?_
          obtain ⟨v48, hp40, h⟩ := h_bind h
          refine W.mono (Q := (postN Try.f26.ntmps (fun (v48 : Bool) => mkSt [(0, .adr 0 0 13 0), (77, .bo v48)] (ob61 d1 d37 d3 d4 d5 d6 d34 d35 o1 o2 o3 o4 o5) 6 6)) v48) ?_ (fun e σ' hq => ?_)
          · replace h := hp40
            clear hp40
            rcases bb (decide (d37 < (d1.length : Int))) with hb186 | hb186
            · replace h := h_if hb186 h
              obtain ⟨c96, h⟩ := h_guard h
              refine W_regD tbok mixed ⟨[(10, true), (21, true)], []⟩ [] [0, 1, 2, 3, 4, 5] [(0, .adr 0 0 13 0), (77, .bo (((d1.getD d37.toNat 0).toNat : Int) != (10 : Int)))] (ob61 d1 d37 d3 d4 d5 d6 d34 d35 o1 o2 o3 o4 o5) 6 6 (Ts 11 [(decide (d37 < (d1.length : Int))) = true ∧ True, (decide (d37 < (d1.length : Int))) = true ∧ True, (decide (d37 < (d1.length : Int))) = true ∧ True, (decide (d37 < (d1.length : Int))) = true ∧ True, (decide (d37 < (d1.length : Int))) = true ∧ True, (decide (d37 < (d1.length : Int))) = true ∧ True, (decide (d37 < (d1.length : Int))) = true ∧ True, (decide (d37 < (d1.length : Int))) = true ∧ True, (decide (d37 < (d1.length : Int))) = true ∧ 0 ≤ d37 ∧ d37 < (d1.length : Int), (decide (d37 < (d1.length : Int))) = true ∧ True, (decide (d37 < (d1.length : Int))) = true]) (by kernel_rfl) (by kernel_rfl) (tr 11 ⟨⟨hb186, tt⟩, ⟨hb186, tt⟩, ⟨hb186, tt⟩, ⟨hb186, tt⟩, ⟨hb186, tt⟩, ⟨hb186, tt⟩, ⟨hb186, tt⟩, ⟨hb186, tt⟩, ⟨hb186, c96⟩, ⟨hb186, tt⟩, hb186, tt⟩) ?_
              obtain rfl := sI h
              exact postN_to (gl [] [0, 1, 2, 3, 4, 5] (by kernel_rfl))
            replace h := h_else hb186 h
            refine W_regD tbok mixed ⟨[(10, false), (21, false)], []⟩ [] [0, 1, 2, 3, 4, 5] [(0, .adr 0 0 13 0), (77, .bo false)] (ob61 d1 d37 d3 d4 d5 d6 d34 d35 o1 o2 o3 o4 o5) 6 6 (Ts 11 [(decide (d37 < (d1.length : Int))) = false, (decide (d37 < (d1.length : Int))) = false, (decide (d37 < (d1.length : Int))) = false, (decide (d37 < (d1.length : Int))) = false, (decide (d37 < (d1.length : Int))) = false, (decide (d37 < (d1.length : Int))) = false, (decide (d37 < (d1.length : Int))) = false, (decide (d37 < (d1.length : Int))) = false, (decide (d37 < (d1.length : Int))) = false, (decide (d37 < (d1.length : Int))) = false, (decide (d37 < (d1.length : Int))) = false]) (by kernel_rfl) (by kernel_rfl) (tr 11 ⟨hb186, hb186, hb186, hb186, hb186, hb186, hb186, hb186, hb186, hb186, hb186, tt⟩) ?_
            obtain rfl := sI h
            exact postN_to (gl [] [0, 1, 2, 3, 4, 5] (by kernel_rfl))
          clear hp40
          obtain ⟨rfl, hle⟩ := hq
          refine use_to ?_ hle
          refine to_then ?_
          refine W_cond (b := v48) (β := false) (by kernel_rfl) (fun hb187 => ?_) (fun hb187 => ?_)
          · replace h := h_if hb187 h
            refine W_skip_to ?_
            refine to_then ?_
            refine W_block ?_
            refine W_r tbok ⟨[], []⟩ [] [0, 1, 2, 3, 4, 5] [(0, .adr 0 0 13 0)] (ob61 d1 (IntKind.i64.wrap (d37 + (1 : Int))) d3 d4 d5 d6 d34 d35 o1 o2 o3 o4 o5) 6 6 (Ts 9 []) (by kernel_rfl) (tr 9 tt) ?_
            refine to_block ?_
            obtain rfl := sI h
            exact roundB (gl [] [0, 1, 2, 3, 4, 5] (by kernel_rfl))
          replace h := h_else hb187 h
          refine W_exit_to ?_
          refine thenE ?_
          obtain rfl := sI h
          refine roundE ?_
          exact postX_to (gl [] [0, 1, 2, 3, 4, 5] (by kernel_rfl))
        clear hp41
        obtain ⟨rfl, hle⟩ := hq
        refine use_to ?_ hle
        refine blockE_eq ?_
        refine to_block ?_
        refine to_block ?_
        obtain rfl := sI h
        exact roundB (gl [] [0, 1, 2, 3, 4, 5] (by kernel_rfl))
      replace h := h_else hb175 h
      refine W_seq ?_
      obtain ⟨v49, hp42, h⟩ := h_bind h
      refine W.mono (Q := (postN Try.f26.ntmps (fun (v49 : Bool) => mkSt [(0, .adr 0 0 13 0), (3, .u8 ((d1.getD d33.toNat 0).toNat : Int)), (86, .bo v49)] (ob61 d1 d33 d3 d4 d5 d6 d34 d35 o1 o2 o3 o4 o5) 6 6)) v49) ?_ (fun e σ' hq => ?_)
      · replace h := hp42
        clear hp42
        rcases bb (((d1.getD d33.toNat 0).toNat : Int) == (32 : Int)) with hb194 | hb194
        · replace h := h_if hb194 h
          refine W_r tbok ⟨[(2, true), (5, true), (6, true), (9, true), (10, true), (13, true)], []⟩ [] [0, 1, 2, 3, 4, 5] [(0, .adr 0 0 13 0), (3, .u8 ((d1.getD d33.toNat 0).toNat : Int)), (86, .bo true)] (ob61 d1 d33 d3 d4 d5 d6 d34 d35 o1 o2 o3 o4 o5) 6 6 (Ts 3 [(((d1.getD d33.toNat 0).toNat : Int) == (32 : Int)) = true, (((d1.getD d33.toNat 0).toNat : Int) == (32 : Int)) = true, (((d1.getD d33.toNat 0).toNat : Int) == (32 : Int)) = true, True, true = true, true = true, true = true, True, true = true, true = true, true = true, True]) (by kernel_rfl) (tr 3 ⟨hb194, hb194, hb194, tt, rfl, rfl, rfl, tt, rfl, rfl, rfl, tt, tt⟩) ?_
          obtain rfl := sI h
          exact postN_to (gl [] [0, 1, 2, 3, 4, 5] (by kernel_rfl))
        replace h := h_else hb194 h
        rcases bb (((d1.getD d33.toNat 0).toNat : Int) == (9 : Int)) with hb195 | hb195
        · replace h := h_if hb195 h
          refine W_r tbok ⟨[(2, false), (5, false), (6, true), (9, true), (10, true), (13, true)], []⟩ [] [0, 1, 2, 3, 4, 5] [(0, .adr 0 0 13 0), (3, .u8 ((d1.getD d33.toNat 0).toNat : Int)), (86, .bo true)] (ob61 d1 d33 d3 d4 d5 d6 d34 d35 o1 o2 o3 o4 o5) 6 6 (Ts 3 [(((d1.getD d33.toNat 0).toNat : Int) == (32 : Int)) = false ∧ True, (((d1.getD d33.toNat 0).toNat : Int) == (32 : Int)) = false ∧ True, (((d1.getD d33.toNat 0).toNat : Int) == (32 : Int)) = false, True, (((d1.getD d33.toNat 0).toNat : Int) == (9 : Int)) = true, (((d1.getD d33.toNat 0).toNat : Int) == (9 : Int)) = true, (((d1.getD d33.toNat 0).toNat : Int) == (9 : Int)) = true, True, true = true, true = true, true = true, True]) (by kernel_rfl) (tr 3 ⟨⟨hb194, tt⟩, ⟨hb194, tt⟩, hb194, tt, hb195, hb195, hb195, tt, rfl, rfl, rfl, tt, tt⟩) ?_
          obtain rfl := sI h
          exact postN_to (gl [] [0, 1, 2, 3, 4, 5] (by kernel_rfl))
        replace h := h_else hb195 h
        rcases bb (((d1.getD d33.toNat 0).toNat : Int) == (10 : Int)) with hb196 | hb196
        · replace h := h_if hb196 h
          refine W_r tbok ⟨[(2, false), (5, false), (6, false), (9, false), (10, true), (13, true)], []⟩ [] [0, 1, 2, 3, 4, 5] [(0, .adr 0 0 13 0), (3, .u8 ((d1.getD d33.toNat 0).toNat : Int)), (86, .bo true)] (ob61 d1 d33 d3 d4 d5 d6 d34 d35 o1 o2 o3 o4 o5) 6 6 (Ts 3 [(((d1.getD d33.toNat 0).toNat : Int) == (32 : Int)) = false ∧ True, (((d1.getD d33.toNat 0).toNat : Int) == (32 : Int)) = false ∧ True, (((d1.getD d33.toNat 0).toNat : Int) == (32 : Int)) = false, True, (((d1.getD d33.toNat 0).toNat : Int) == (9 : Int)) = false ∧ True, (((d1.getD d33.toNat 0).toNat : Int) == (9 : Int)) = false ∧ True, (((d1.getD d33.toNat 0).toNat : Int) == (9 : Int)) = false, True, (((d1.getD d33.toNat 0).toNat : Int) == (10 : Int)) = true, (((d1.getD d33.toNat 0).toNat : Int) == (10 : Int)) = true, (((d1.getD d33.toNat 0).toNat : Int) == (10 : Int)) = true, True]) (by kernel_rfl) (tr 3 ⟨⟨hb194, tt⟩, ⟨hb194, tt⟩, hb194, tt, ⟨hb195, tt⟩, ⟨hb195, tt⟩, hb195, tt, hb196, hb196, hb196, tt, tt⟩) ?_
          obtain rfl := sI h
          exact postN_to (gl [] [0, 1, 2, 3, 4, 5] (by kernel_rfl))
        replace h := h_else hb196 h
        refine W_r tbok ⟨[(2, false), (5, false), (6, false), (9, false), (10, false), (13, false)], []⟩ [] [0, 1, 2, 3, 4, 5] [(0, .adr 0 0 13 0), (3, .u8 ((d1.getD d33.toNat 0).toNat : Int)), (86, .bo (((d1.getD d33.toNat 0).toNat : Int) == (13 : Int)))] (ob61 d1 d33 d3 d4 d5 d6 d34 d35 o1 o2 o3 o4 o5) 6 6 (Ts 3 [(((d1.getD d33.toNat 0).toNat : Int) == (32 : Int)) = false ∧ True, (((d1.getD d33.toNat 0).toNat : Int) == (32 : Int)) = false ∧ True, (((d1.getD d33.toNat 0).toNat : Int) == (32 : Int)) = false, True, (((d1.getD d33.toNat 0).toNat : Int) == (9 : Int)) = false ∧ True, (((d1.getD d33.toNat 0).toNat : Int) == (9 : Int)) = false ∧ True, (((d1.getD d33.toNat 0).toNat : Int) == (9 : Int)) = false, True, (((d1.getD d33.toNat 0).toNat : Int) == (10 : Int)) = false ∧ True, (((d1.getD d33.toNat 0).toNat : Int) == (10 : Int)) = false ∧ True, (((d1.getD d33.toNat 0).toNat : Int) == (10 : Int)) = false, True]) (by kernel_rfl) (tr 3 ⟨⟨hb194, tt⟩, ⟨hb194, tt⟩, hb194, tt, ⟨hb195, tt⟩, ⟨hb195, tt⟩, hb195, tt, ⟨hb196, tt⟩, ⟨hb196, tt⟩, hb196, tt, tt⟩) ?_
        obtain rfl := sI h
        exact postN_to (gl [] [0, 1, 2, 3, 4, 5] (by kernel_rfl))
      clear hp42
      obtain ⟨rfl, hle⟩ := hq
      refine use_to ?_ hle
      refine to_then ?_
      refine W_cond (b := v49) (β := false) (by kernel_rfl) (fun hb197 => ?_) (fun hb197 => ?_)
      · replace h := h_if hb197 h
        refine W_r tbok ⟨[], []⟩ [] [0, 1, 2, 3, 4, 5] [(0, .adr 0 0 13 0)] (ob61 d1 (IntKind.i64.wrap (d33 + (1 : Int))) d3 d4 d5 d6 d34 d35 o1 o2 o3 o4 o5) 6 6 (Ts 9 []) (by kernel_rfl) (tr 9 tt) ?_
        refine to_block ?_
        refine to_block ?_
        obtain rfl := sI h
        exact roundB (gl [] [0, 1, 2, 3, 4, 5] (by kernel_rfl))
      replace h := h_else hb197 h
      refine W_rs tbok ⟨[], []⟩ [] [0, 1, 2, 3, 4, 5] [(0, .adr 0 0 13 0), (3, .u8 ((d1.getD d33.toNat 0).toNat : Int)), (4, .st ([40, 41, 91, 93, 94, 124, 42, 43, 63, 46, 59, 47, 61] : List UInt8))] (ob61 d1 d33 d3 d4 d5 d6 d34 d35 o1 o2 o3 o4 o5) 6 6 [True] (by kernel_rfl) ⟨tt, tt⟩ ?_
      refine W_seq ?_
      refine W_rs tbok ⟨[], []⟩ [] [0, 1, 2, 3, 4, 5] [(0, .adr 0 0 13 0), (3, .u8 ((d1.getD d33.toNat 0).toNat : Int)), (4, .st ([40, 41, 91, 93, 94, 124, 42, 43, 63, 46, 59, 47, 61] : List UInt8)), (5, .i64 (0 : Int))] (ob61 d1 d33 d3 d4 d5 d6 d34 d35 o1 o2 o3 o4 o5) 6 6 [True] (by kernel_rfl) ⟨tt, tt⟩ ?_
      refine W_block ?_
      obtain ⟨r54, hp43, h⟩ := h_bind h
      refine W.mono (Q := (postS (postX Try.f26.ntmps 3 (fun (_ : Unit) => mkSt [(0, .adr 0 0 13 0), (3, .u8 ((d1.getD d33.toNat 0).toNat : Int))] (ob61 d1 d33 d3 d4 d5 d6 d34 d35 o1 o2 o3 o4 o5) 6 6)) (postRO tb Try.f26.ntmps Try.f26.results.toList (fun ((r50, r51, r52, r53) : Int × Int × Int × Int) => (.u8 r50, (ob61 d1 r51 d3 d4 d5 d6 r52 r53 o1 o2 o3 o4 o5))))) r54) (W_iter (f := fun (v51 : Int) => mkSt [(0, .adr 0 0 13 0), (3, .u8 ((d1.getD d33.toNat 0).toNat : Int)), (4, .st ([40, 41, 91, 93, 94, 124, 42, 43, 63, 46, 59, 47, 61] : List UInt8)), (5, .i64 v51)] (ob61 d1 d33 d3 d4 d5 d6 d34 d35 o1 o2 o3 o4 o5) 6 6) (Q := (postS (postX Try.f26.ntmps 3 (fun (_ : Unit) => mkSt [(0, .adr 0 0 13 0), (3, .u8 ((d1.getD d33.toNat 0).toNat : Int))] (ob61 d1 d33 d3 d4 d5 d6 d34 d35 o1 o2 o3 o4 o5) 6 6)) (postRO tb Try.f26.ntmps Try.f26.results.toList (fun ((r50, r51, r52, r53) : Int × Int × Int × Int) => (.u8 r50, (ob61 d1 r51 d3 d4 d5 d6 r52 r53 o1 o2 o3 o4 o5)))))) hp43 (gl [] [0, 1, 2, 3, 4, 5] (by kernel_rfl)) (fun v51 o ho => ?_)) (fun e σ' hq => ?_)
      · replace h := ho
        clear ho hp43
        unfold rq_here_v7_L2 at h
        refine W_seq ?_
        refine W_rs tbok ⟨[], []⟩ [] [0, 1, 2, 3, 4, 5] [(0, .adr 0 0 13 0), (3, .u8 ((d1.getD d33.toNat 0).toNat : Int)), (4, .st ([40, 41, 91, 93, 94, 124, 42, 43, 63, 46, 59, 47, 61] : List UInt8)), (5, .i64 v51), (35, .bo (decide (v51 < (([40, 41, 91, 93, 94, 124, 42, 43, 63, 46, 59, 47, 61] : List UInt8).length : Int))))] (ob61 d1 d33 d3 d4 d5 d6 d34 d35 o1 o2 o3 o4 o5) 6 6 (Ts 4 []) (by kernel_rfl) (tr 4 tt) ?_
        refine W_cond (b := (decide (v51 < (([40, 41, 91, 93, 94, 124, 42, 43, 63, 46, 59, 47, 61] : List UInt8).length : Int)))) (β := false) (by kernel_rfl) (fun hb202 => ?_) (fun hb202 => ?_)
        · replace h := h_if hb202 h
          refine W_skip_to ?_
          refine to_then ?_
          refine W_seq ?_
          refine W_block ?_
          refine W_seq ?_
          obtain ⟨c102, h⟩ := h_guard h
          refine W_r tbok ⟨[], []⟩ [] [0, 1, 2, 3, 4, 5] [(0, .adr 0 0 13 0), (3, .u8 ((d1.getD d33.toNat 0).toNat : Int)), (4, .st ([40, 41, 91, 93, 94, 124, 42, 43, 63, 46, 59, 47, 61] : List UInt8)), (5, .i64 v51), (42, .bo (((([40, 41, 91, 93, 94, 124, 42, 43, 63, 46, 59, 47, 61] : List UInt8).getD v51.toNat 0).toNat : Int) == ((d1.getD d33.toNat 0).toNat : Int)))] (ob61 d1 d33 d3 d4 d5 d6 d34 d35 o1 o2 o3 o4 o5) 6 6 [True, True, 0 ≤ v51 ∧ v51 < (([40, 41, 91, 93, 94, 124, 42, 43, 63, 46, 59, 47, 61] : List UInt8).length : Int), True, True] (by kernel_rfl) ⟨tt, tt, c102, tt, tt, tt⟩ ?_
          refine to_then ?_
          refine W_cond (b := (((([40, 41, 91, 93, 94, 124, 42, 43, 63, 46, 59, 47, 61] : List UInt8).getD v51.toNat 0).toNat : Int) == ((d1.getD d33.toNat 0).toNat : Int))) (β := false) (by kernel_rfl) (fun hb203 => ?_) (fun hb203 => ?_)
          · replace h := h_if hb203 h
            refine W_rs tbok ⟨[], []⟩ [] [0, 1, 2, 3, 4, 5] [(2, .u8 ((d1.getD d33.toNat 0).toNat : Int))] (ob61 d1 d33 d3 d4 d5 d6 d34 d35 o1 o2 o3 o4 o5) 6 6 [True, True] (by kernel_rfl) ⟨tt, tt, tt⟩ ?_
            refine W_ret ?_
            obtain rfl := sI h
            refine blockQ_ret ?_
            refine thenQ_ret ?_
            refine round_ret ?_
            refine postS_rr ?_
            exact postRO_mk (RetO_intro [some (.int .u8)] [] [0, 1, 2, 3, 4, 5] [(2, .u8 ((d1.getD d33.toNat 0).toNat : Int))] (ob61 d1 d33 d3 d4 d5 d6 d34 d35 o1 o2 o3 o4 o5) 6 6 (by kernel_rfl) (by kernel_rfl) (by kernel_rfl))
          replace h := h_else hb203 h
          refine W_skip_to ?_
          refine to_block ?_
          refine to_then ?_
          refine W_r tbok ⟨[], []⟩ [] [0, 1, 2, 3, 4, 5] [(0, .adr 0 0 13 0), (3, .u8 ((d1.getD d33.toNat 0).toNat : Int)), (4, .st ([40, 41, 91, 93, 94, 124, 42, 43, 63, 46, 59, 47, 61] : List UInt8)), (5, .i64 (IntKind.i64.wrap (v51 + (1 : Int))))] (ob61 d1 d33 d3 d4 d5 d6 d34 d35 o1 o2 o3 o4 o5) 6 6 (Ts 3 []) (by kernel_rfl) (tr 3 tt) ?_
          obtain rfl := sI h
          exact roundB (gl [] [0, 1, 2, 3, 4, 5] (by kernel_rfl))
        replace h := h_else hb202 h
        refine W_exit_to ?_
        refine thenE ?_
        obtain rfl := sI h
        refine roundE ?_
        refine postS_l ?_
        exact postX_to (gl [] [0, 1, 2, 3, 4, 5] (by kernel_rfl))
      clear hp43
      rcases r54 with _ | ⟨r50, r51, r52, r53⟩
      · obtain ⟨rfl, hle⟩ := hq
        refine use_to ?_ hle
        refine blockE_eq ?_
        refine to_then ?_
        refine W_seq ?_
        obtain ⟨r56, q22, h⟩ := h_bind h
        have u_1 := (rr_letter_ok ((d1.getD d33.toNat 0).toNat : Int) _ q22)
        refine W_rs tbok ⟨[], [(1, ⟨.bo r56, [false], false, [true], [], [], none⟩)]⟩ [] [0, 1, 2, 3, 4, 5] [(0, .adr 0 0 13 0), (3, .u8 ((d1.getD d33.toNat 0).toNat : Int)), (45, .bo r56)] (ob61 d1 d33 d3 d4 d5 d6 d34 d35 o1 o2 o3 o4 o5) 6 6 [True, pO u_1] (by kernel_rfl) ⟨tt, u_1, tt⟩ ?_
        refine W_cond (b := r56) (β := false) (by kernel_rfl) (fun hb204 => ?_) (fun hb204 => ?_)
        · replace h := h_if hb204 h
          refine W_rs tbok ⟨[], []⟩ [] [0, 1, 2, 3, 4, 5] [(2, .u8 ((d1.getD d33.toNat 0).toNat : Int))] (ob61 d1 d33 d3 d4 d5 d6 d34 d35 o1 o2 o3 o4 o5) 6 6 [True, True] (by kernel_rfl) ⟨tt, tt, tt⟩ ?_
          refine W_ret ?_
          obtain rfl := sI h
          refine thenQ_ret ?_
          refine blockQ_ret ?_
          refine blockQ_ret ?_
          refine round_ret ?_
          refine postS_rr ?_
          exact postRO_mk (RetO_intro [some (.int .u8)] [] [0, 1, 2, 3, 4, 5] [(2, .u8 ((d1.getD d33.toNat 0).toNat : Int))] (ob61 d1 d33 d3 d4 d5 d6 d34 d35 o1 o2 o3 o4 o5) 6 6 (by kernel_rfl) (by kernel_rfl) (by kernel_rfl))
        replace h := h_else hb204 h
        refine W_skip_to ?_
        refine to_then ?_
        obtain ⟨⟨r59, r60⟩, q24, h⟩ := h_bind h
        have u_1 := (rq_bad_v6_ok (20 : Int) d33 d1 d33 d3 d4 d5 d6 d34 d35 o1 o2 o3 o4 o5 _ q24)
        refine W_r tbok ⟨[], [(5, ⟨.tup [], [false, false, false], true, [true, true, true], [0, 1, 2, 3, 4, 5], (ob61 d1 d33 d3 d4 d5 d6 r59 r60 o1 o2 o3 o4 o5), none⟩)]⟩ [] [0, 1, 2, 3, 4, 5] [(0, .adr 0 0 13 0)] (ob61 d1 d33 d3 d4 d5 d6 r59 r60 o1 o2 o3 o4 o5) 6 6 (Ts 5 [pO u_1]) (by kernel_rfl) (tr 5 ⟨u_1, tt⟩) ?_
        refine to_block ?_
        refine to_block ?_
        obtain rfl := sI h
        exact roundB (gl [] [0, 1, 2, 3, 4, 5] (by kernel_rfl))
      obtain ⟨rfl, hr⟩ := hq
      obtain rfl := sI h
      refine blockQ_ret ?_
      refine thenQ_ret ?_
      refine blockQ_ret ?_
      refine blockQ_ret ?_
      refine round_ret ?_
      refine postS_rr ?_
      exact postRO_mk hr
    replace h := h_else hb174 h
    refine W_exit_to ?_
    refine thenE ?_
    obtain rfl := sI h
    refine roundE ?_
    refine postS_l ?_
    exact postX_to (gl [] [0, 1, 2, 3, 4, 5] (by kernel_rfl))
  clear hp44
  rcases r61 with ⟨v42, v43, v44⟩ | ⟨r46, r47, r48, r49⟩
  · obtain ⟨rfl, hle⟩ := hq
    refine use_to ?_ hle
    refine blockE_eq ?_
    refine to_then ?_
    refine W_rs tbok ⟨[], []⟩ [] [0, 1, 2, 3, 4, 5] [(2, .u8 (0 : Int))] (ob61 d1 v42 d3 d4 d5 d6 v43 v44 o1 o2 o3 o4 o5) 6 6 [True] (by kernel_rfl) ⟨tt, tt⟩ ?_
    refine W_ret ?_
    obtain rfl := sI h
    exact RetO_intro [some (.int .u8)] [] [0, 1, 2, 3, 4, 5] [(2, .u8 (0 : Int))] (ob61 d1 v42 d3 d4 d5 d6 v43 v44 o1 o2 o3 o4 o5) 6 6 (by kernel_rfl) (by kernel_rfl) (by kernel_rfl)
  obtain ⟨rfl, hr⟩ := hq
  refine blockQ_ret ?_
  refine thenQ_ret ?_
  obtain rfl := sI h
  exact hr
def rq_word_v8_L1 (d1 : List UInt8) : (Int) → Option ((Int) ⊕ (Int)) := fun (d17 : Int) =>
  (((if (decide (d17 < (d1.length : Int))) = true then (if 0 ≤ d17 ∧ d17 < (d1.length : Int) then ((rr_letter ((d1.getD d17.toNat 0).toNat : Int)).bind fun (r60 : Bool) =>
  some (r60)) else none)
  else some (false))).bind fun (v11 : Bool) => (if v11 = true then some (Sum.inl (IntKind.i64.wrap (d17 + (1 : Int))))
  else some (Sum.inr d17)))
def rq_word_v8 (d1 : List UInt8) (d2 d3 d4 d5 d6 d7 d8 : Int) (o1 : List (List UInt8)) (o2 : List Int) (o3 : List (Int × Tree × Tree)) (o4 : List (List UInt8)) (o5 : List Int) : Option ((List UInt8) × Int × Int × Int × Int) :=
  ((rq_here_v7 d1 d2 d3 d4 d5 d6 d7 d8 o1 o2 o3 o4 o5).bind fun ((r36, r37, r38, r39) : Int × Int × Int × Int) =>
  (((if (r38 == (0 : Int)) = true then ((rr_letter r36).bind fun (r42 : Bool) =>
  some ((!r42)))
  else some (false))).bind fun (v8 : Bool) => (((if v8 = true then ((rq_bad_v6 (21 : Int) r37 d1 r37 d3 d4 d5 d6 r38 r39 o1 o2 o3 o4 o5).bind fun ((r49, r50) : Int × Int) =>
  some ((r49, r50)))
  else some ((r38, r39)))).bind fun ((d14, d15) : Int × Int) => (if (d14 != (0 : Int)) = true then some (([] : List UInt8), r37, r37, d14, d15)
  else ((iter (rq_word_v8_L1 d1) r37).bind fun (d18 : Int) => (if 0 ≤ r37 ∧ r37 ≤ d18 ∧ d18 ≤ (d1.length : Int) then some (((d1.take d18.toNat).drop r37.toNat), r37, d18, d14, d15) else none))))))
theorem rq_word_v8_ok (d1 : List UInt8) (d2 d3 d4 d5 d6 d7 d8 : Int) (o1 : List (List UInt8)) (o2 : List Int) (o3 : List (Int × Tree × Tree)) (o4 : List (List UInt8)) (o5 : List Int) (res : (List UInt8) × Int × Int × Int × Int) (h : rq_word_v8 d1 d2 d3 d4 d5 d6 d7 d8 o1 o2 o3 o4 o5 = some res) :
    Owns Try.prog 38 [.adr 0 0 13 0] (ob61 d1 d2 d3 d4 d5 d6 d7 d8 o1 o2 o3 o4 o5) (.tup [.st res.1, .i64 res.2.1]) (ob61 d1 res.2.2.1 d3 d4 d5 d6 res.2.2.2.1 res.2.2.2.2 o1 o2 o3 o4 o5) := by
  refine Owns.of_body tbok Try.func38 (by kernel_rfl) rfl (nl rfl) (fun Bw w0 => ?_)
  unfold rq_word_v8 at h
  refine W_rs tbok ⟨[], []⟩ [] [0, 1, 2, 3, 4, 5] [(0, .adr 0 0 13 0)] (ob61 d1 d2 d3 d4 d5 d6 d7 d8 o1 o2 o3 o4 o5) 6 6 [True, True] (by kernel_rfl) ⟨tt, tt, tt⟩ ?_
  obtain ⟨⟨r36, r37, r38, r39⟩, q20, h⟩ := h_bind h
  have u_1 := (rq_here_v7_ok d1 d2 d3 d4 d5 d6 d7 d8 o1 o2 o3 o4 o5 _ q20)
  refine W_rs tbok ⟨[], [(1, ⟨.u8 r36, [false], true, [true], [0, 1, 2, 3, 4, 5], (ob61 d1 r37 d3 d4 d5 d6 r38 r39 o1 o2 o3 o4 o5), none⟩)]⟩ [] [0, 1, 2, 3, 4, 5] [(0, .adr 0 0 13 0), (4, .u8 r36)] (ob61 d1 r37 d3 d4 d5 d6 r38 r39 o1 o2 o3 o4 o5) 6 6 [True, pO u_1, True] (by kernel_rfl) ⟨tt, u_1, tt, tt⟩ ?_
  refine W_rs tbok ⟨[], []⟩ [] [0, 1, 2, 3, 4, 5] [(0, .adr 0 0 13 0), (4, .u8 r36), (5, .i64 r37)] (ob61 d1 r37 d3 d4 d5 d6 r38 r39 o1 o2 o3 o4 o5) 6 6 (Ts 5 []) (by kernel_rfl) (tr 5 tt) ?_
  refine W_seq ?_
  refine W_seq ?_
  obtain ⟨v8, hp7, h⟩ := h_bind h
  refine W.mono (Q := (postN Try.f38.ntmps (fun (v8 : Bool) => mkSt [(0, .adr 0 0 13 0), (5, .i64 r37), (21, .bo v8)] (ob61 d1 r37 d3 d4 d5 d6 r38 r39 o1 o2 o3 o4 o5) 6 6)) v8) ?_ (fun e σ' hq => ?_)
  · replace h := hp7
    clear hp7
    rcases bb (r38 == (0 : Int)) with hb21 | hb21
    · replace h := h_if hb21 h
      obtain ⟨r42, q23, h⟩ := h_bind h
      refine W_r tbok ⟨[(5, true), (9, true)], [(7, ⟨.bo r42, [false], false, [true], [], [], none⟩)]⟩ [] [0, 1, 2, 3, 4, 5] [(0, .adr 0 0 13 0), (5, .i64 r37), (21, .bo (!r42))] (ob61 d1 r37 d3 d4 d5 d6 r38 r39 o1 o2 o3 o4 o5) 6 6 (Ts 6 [(r38 == (0 : Int)) = true ∧ True, (r38 == (0 : Int)) = true ∧ Pure Try.prog 36 [.u8 r36] (.bo r42), (r38 == (0 : Int)) = true ∧ True, (r38 == (0 : Int)) = true]) (by kernel_rfl) (tr 6 ⟨⟨hb21, tt⟩, ⟨hb21, (rr_letter_ok r36 _ q23)⟩, ⟨hb21, tt⟩, hb21, tt⟩) ?_
      obtain rfl := sI h
      exact postN_to (gl [] [0, 1, 2, 3, 4, 5] (by kernel_rfl))
    replace h := h_else hb21 h
    refine W_r tbok ⟨[(5, false), (9, false)], []⟩ [] [0, 1, 2, 3, 4, 5] [(0, .adr 0 0 13 0), (5, .i64 r37), (21, .bo false)] (ob61 d1 r37 d3 d4 d5 d6 r38 r39 o1 o2 o3 o4 o5) 6 6 (Ts 6 [(r38 == (0 : Int)) = false, (r38 == (0 : Int)) = false, (r38 == (0 : Int)) = false, (r38 == (0 : Int)) = false]) (by kernel_rfl) (tr 6 ⟨hb21, hb21, hb21, hb21, tt⟩) ?_
    obtain rfl := sI h
    exact postN_to (gl [] [0, 1, 2, 3, 4, 5] (by kernel_rfl))
  clear hp7
  obtain ⟨rfl, hle⟩ := hq
  refine use_to ?_ hle
  refine to_then ?_
  obtain ⟨r51, hp8, h⟩ := h_bind h
  refine W.mono (Q := (postN Try.f38.ntmps (fun ((d14, d15) : Int × Int) => mkSt [(0, .adr 0 0 13 0), (5, .i64 r37)] (ob61 d1 r37 d3 d4 d5 d6 d14 d15 o1 o2 o3 o4 o5) 6 6)) r51) ?_ (fun e σ' hq => ?_)
  · replace h := hp8
    clear hp8
    refine W_cond (b := v8) (β := false) (by kernel_rfl) (fun hb23 => ?_) (fun hb23 => ?_)
    · replace h := h_if hb23 h
      obtain ⟨⟨r49, r50⟩, q27, h⟩ := h_bind h
      have u_1 := (rq_bad_v6_ok (21 : Int) r37 d1 r37 d3 d4 d5 d6 r38 r39 o1 o2 o3 o4 o5 _ q27)
      refine W_r tbok ⟨[], [(2, ⟨.tup [], [false, false, false], true, [true, true, true], [0, 1, 2, 3, 4, 5], (ob61 d1 r37 d3 d4 d5 d6 r49 r50 o1 o2 o3 o4 o5), none⟩)]⟩ [] [0, 1, 2, 3, 4, 5] [(0, .adr 0 0 13 0), (5, .i64 r37)] (ob61 d1 r37 d3 d4 d5 d6 r49 r50 o1 o2 o3 o4 o5) 6 6 [True, True, pO u_1] (by kernel_rfl) ⟨tt, tt, u_1, tt⟩ ?_
      obtain rfl := sI h
      exact postN_to (gl [] [0, 1, 2, 3, 4, 5] (by kernel_rfl))
    replace h := h_else hb23 h
    refine W_skip_to ?_
    obtain rfl := sI h
    exact postN_to (gl [] [0, 1, 2, 3, 4, 5] (by kernel_rfl))
  clear hp8
  obtain ⟨d14, d15⟩ := r51
  obtain ⟨rfl, hle⟩ := hq
  refine use_to ?_ hle
  refine to_then ?_
  refine W_seq ?_
  refine W_rs tbok ⟨[], []⟩ [] [0, 1, 2, 3, 4, 5] [(0, .adr 0 0 13 0), (5, .i64 r37), (29, .bo (d14 != (0 : Int)))] (ob61 d1 r37 d3 d4 d5 d6 d14 d15 o1 o2 o3 o4 o5) 6 6 (Ts 5 []) (by kernel_rfl) (tr 5 tt) ?_
  refine W_cond (b := (d14 != (0 : Int))) (β := false) (by kernel_rfl) (fun hb24 => ?_) (fun hb24 => ?_)
  · replace h := h_if hb24 h
    refine W_rs tbok ⟨[], []⟩ [] [0, 1, 2, 3, 4, 5] [(2, .st ([] : List UInt8)), (3, .i64 r37)] (ob61 d1 r37 d3 d4 d5 d6 d14 d15 o1 o2 o3 o4 o5) 6 6 (Ts 3 []) (by kernel_rfl) (tr 3 tt) ?_
    refine W_ret ?_
    refine thenQ_ret ?_
    obtain rfl := sI h
    exact RetO_intro [some .str, some (.int .i64)] [] [0, 1, 2, 3, 4, 5] [(2, .st ([] : List UInt8)), (3, .i64 r37)] (ob61 d1 r37 d3 d4 d5 d6 d14 d15 o1 o2 o3 o4 o5) 6 6 (by kernel_rfl) (by kernel_rfl) (by kernel_rfl)
  replace h := h_else hb24 h
  refine W_skip_to ?_
  refine to_then ?_
  refine W_seq ?_
  refine W_block ?_
  obtain ⟨d18, hp12, h⟩ := h_bind h
  refine W.mono (Q := (postX Try.f38.ntmps 0 (fun (d18 : Int) => mkSt [(0, .adr 0 0 13 0), (5, .i64 r37)] (ob61 d1 d18 d3 d4 d5 d6 d14 d15 o1 o2 o3 o4 o5) 6 6)) d18) (W_iter (f := fun (d17 : Int) => mkSt [(0, .adr 0 0 13 0), (5, .i64 r37)] (ob61 d1 d17 d3 d4 d5 d6 d14 d15 o1 o2 o3 o4 o5) 6 6) (Q := (postX Try.f38.ntmps 0 (fun (d18 : Int) => mkSt [(0, .adr 0 0 13 0), (5, .i64 r37)] (ob61 d1 d18 d3 d4 d5 d6 d14 d15 o1 o2 o3 o4 o5) 6 6))) hp12 (gl [] [0, 1, 2, 3, 4, 5] (by kernel_rfl)) (fun d17 o ho => ?_)) (fun e σ' hq => ?_)
  · replace h := ho
    clear ho hp12
    unfold rq_word_v8_L1 at h
    refine W_seq ?_
    refine W_seq ?_
    obtain ⟨v11, hp11, h⟩ := h_bind h
    refine W.mono (Q := (postN Try.f38.ntmps (fun (v11 : Bool) => mkSt [(0, .adr 0 0 13 0), (5, .i64 r37), (52, .bo v11)] (ob61 d1 d17 d3 d4 d5 d6 d14 d15 o1 o2 o3 o4 o5) 6 6)) v11) ?_ (fun e σ' hq => ?_)
    · replace h := hp11
      clear hp11
      rcases bb (decide (d17 < (d1.length : Int))) with hb35 | hb35
      · replace h := h_if hb35 h
        obtain ⟨c20, h⟩ := h_guard h
        obtain ⟨r60, q36, h⟩ := h_bind h
        have u_1 := (rr_letter_ok ((d1.getD d17.toNat 0).toNat : Int) _ q36)
        refine W_regD tbok mixed ⟨[(10, true), (21, true)], [(20, ⟨.bo r60, [false], false, [true], [], [], none⟩)]⟩ [] [0, 1, 2, 3, 4, 5] [(0, .adr 0 0 13 0), (5, .i64 r37), (52, .bo r60)] (ob61 d1 d17 d3 d4 d5 d6 d14 d15 o1 o2 o3 o4 o5) 6 6 (Ts 11 [(decide (d17 < (d1.length : Int))) = true ∧ True, (decide (d17 < (d1.length : Int))) = true ∧ True, (decide (d17 < (d1.length : Int))) = true ∧ True, (decide (d17 < (d1.length : Int))) = true ∧ True, (decide (d17 < (d1.length : Int))) = true ∧ True, (decide (d17 < (d1.length : Int))) = true ∧ True, (decide (d17 < (d1.length : Int))) = true ∧ True, (decide (d17 < (d1.length : Int))) = true ∧ True, (decide (d17 < (d1.length : Int))) = true ∧ 0 ≤ d17 ∧ d17 < (d1.length : Int), (decide (d17 < (d1.length : Int))) = true ∧ pO u_1, (decide (d17 < (d1.length : Int))) = true]) (by kernel_rfl) (by kernel_rfl) (tr 11 ⟨⟨hb35, tt⟩, ⟨hb35, tt⟩, ⟨hb35, tt⟩, ⟨hb35, tt⟩, ⟨hb35, tt⟩, ⟨hb35, tt⟩, ⟨hb35, tt⟩, ⟨hb35, tt⟩, ⟨hb35, c20⟩, ⟨hb35, u_1⟩, hb35, tt⟩) ?_
        obtain rfl := sI h
        exact postN_to (gl [] [0, 1, 2, 3, 4, 5] (by kernel_rfl))
      replace h := h_else hb35 h
      refine W_regD tbok mixed ⟨[(10, false), (21, false)], []⟩ [] [0, 1, 2, 3, 4, 5] [(0, .adr 0 0 13 0), (5, .i64 r37), (52, .bo false)] (ob61 d1 d17 d3 d4 d5 d6 d14 d15 o1 o2 o3 o4 o5) 6 6 (Ts 11 [(decide (d17 < (d1.length : Int))) = false, (decide (d17 < (d1.length : Int))) = false, (decide (d17 < (d1.length : Int))) = false, (decide (d17 < (d1.length : Int))) = false, (decide (d17 < (d1.length : Int))) = false, (decide (d17 < (d1.length : Int))) = false, (decide (d17 < (d1.length : Int))) = false, (decide (d17 < (d1.length : Int))) = false, (decide (d17 < (d1.length : Int))) = false, (decide (d17 < (d1.length : Int))) = false, (decide (d17 < (d1.length : Int))) = false]) (by kernel_rfl) (by kernel_rfl) (tr 11 ⟨hb35, hb35, hb35, hb35, hb35, hb35, hb35, hb35, hb35, hb35, hb35, tt⟩) ?_
      obtain rfl := sI h
      exact postN_to (gl [] [0, 1, 2, 3, 4, 5] (by kernel_rfl))
    clear hp11
    obtain ⟨rfl, hle⟩ := hq
    refine use_to ?_ hle
    refine to_then ?_
    refine W_cond (b := v11) (β := false) (by kernel_rfl) (fun hb36 => ?_) (fun hb36 => ?_)
    · replace h := h_if hb36 h
      refine W_skip_to ?_
      refine to_then ?_
      refine W_block ?_
      refine W_r tbok ⟨[], []⟩ [] [0, 1, 2, 3, 4, 5] [(0, .adr 0 0 13 0), (5, .i64 r37)] (ob61 d1 (IntKind.i64.wrap (d17 + (1 : Int))) d3 d4 d5 d6 d14 d15 o1 o2 o3 o4 o5) 6 6 (Ts 9 []) (by kernel_rfl) (tr 9 tt) ?_
      refine to_block ?_
      obtain rfl := sI h
      exact roundB (gl [] [0, 1, 2, 3, 4, 5] (by kernel_rfl))
    replace h := h_else hb36 h
    refine W_exit_to ?_
    refine thenE ?_
    obtain rfl := sI h
    refine roundE ?_
    exact postX_to (gl [] [0, 1, 2, 3, 4, 5] (by kernel_rfl))
  clear hp12
  obtain ⟨rfl, hle⟩ := hq
  refine use_to ?_ hle
  refine blockE_eq ?_
  refine to_then ?_
  refine W_seq ?_
  obtain ⟨c22, h⟩ := h_guard h
  refine W_regD tbok mixed ⟨[], []⟩ [] [0, 1, 2, 3, 4, 5] [(2, .st ((d1.take d18.toNat).drop r37.toNat)), (3, .i64 r37)] (ob61 d1 d18 d3 d4 d5 d6 d14 d15 o1 o2 o3 o4 o5) 6 6 (Ts 9 ((0 ≤ r37 ∧ r37 ≤ d18 ∧ d18 ≤ (d1.length : Int)) :: (Ts 3 []))) (by kernel_rfl) (by kernel_rfl) (tr 9 ⟨c22, (tr 3 tt)⟩) ?_
  refine to_then ?_
  refine W_ret ?_
  obtain rfl := sI h
  exact RetO_intro [some .str, some (.int .i64)] [] [0, 1, 2, 3, 4, 5] [(2, .st ((d1.take d18.toNat).drop r37.toNat)), (3, .i64 r37)] (ob61 d1 d18 d3 d4 d5 d6 d14 d15 o1 o2 o3 o4 o5) 6 6 (by kernel_rfl) (by kernel_rfl) (by kernel_rfl)
def rq_sign_v6 (c1 : Int) (p1 : List UInt8) (p2 p3 p4 p5 p6 p7 p8 : Int) (o1 : List (List UInt8)) (o2 : List Int) (o3 : List (Int × Tree × Tree)) (o4 : List (List UInt8)) (o5 : List Int) : Option (Bool × Int × Int × Int) :=
  ((rq_here_v7 p1 p2 p3 p4 p5 p6 p7 p8 o1 o2 o3 o4 o5).bind fun ((r14, r15, r16, r17) : Int × Int × Int × Int) =>
  (((if (r16 != (0 : Int)) = true then some (true)
  else some ((r14 != c1)))).bind fun (v5 : Bool) => (if v5 = true then some (false, r15, r16, r17)
  else some (true, (IntKind.i64.wrap (r15 + (1 : Int))), r16, r17))))
theorem rq_sign_v6_ok (c1 : Int) (p1 : List UInt8) (p2 p3 p4 p5 p6 p7 p8 : Int) (o1 : List (List UInt8)) (o2 : List Int) (o3 : List (Int × Tree × Tree)) (o4 : List (List UInt8)) (o5 : List Int) (res : Bool × Int × Int × Int) (h : rq_sign_v6 c1 p1 p2 p3 p4 p5 p6 p7 p8 o1 o2 o3 o4 o5 = some res) :
    Owns Try.prog 39 [.adr 0 0 13 0, .u8 c1] (ob61 p1 p2 p3 p4 p5 p6 p7 p8 o1 o2 o3 o4 o5) (.bo res.1) (ob61 p1 res.2.1 p3 p4 p5 p6 res.2.2.1 res.2.2.2 o1 o2 o3 o4 o5) := by
  refine Owns.of_body tbok Try.func39 (by kernel_rfl) rfl (nl rfl) (fun Bw w0 => ?_)
  unfold rq_sign_v6 at h
  refine W_rs tbok ⟨[], []⟩ [] [0, 1, 2, 3, 4, 5] [(0, .adr 0 0 13 0), (1, .u8 c1)] (ob61 p1 p2 p3 p4 p5 p6 p7 p8 o1 o2 o3 o4 o5) 6 6 [True] (by kernel_rfl) ⟨tt, tt⟩ ?_
  obtain ⟨⟨r14, r15, r16, r17⟩, q4, h⟩ := h_bind h
  have u_1 := (rq_here_v7_ok p1 p2 p3 p4 p5 p6 p7 p8 o1 o2 o3 o4 o5 _ q4)
  refine W_rs tbok ⟨[], [(1, ⟨.u8 r14, [false], true, [true], [0, 1, 2, 3, 4, 5], (ob61 p1 r15 p3 p4 p5 p6 r16 r17 o1 o2 o3 o4 o5), none⟩)]⟩ [] [0, 1, 2, 3, 4, 5] [(0, .adr 0 0 13 0), (1, .u8 c1), (5, .u8 r14)] (ob61 p1 r15 p3 p4 p5 p6 r16 r17 o1 o2 o3 o4 o5) 6 6 [True, pO u_1, True] (by kernel_rfl) ⟨tt, u_1, tt, tt⟩ ?_
  refine W_seq ?_
  refine W_seq ?_
  obtain ⟨v5, hp2, h⟩ := h_bind h
  refine W.mono (Q := (postN Try.f39.ntmps (fun (v5 : Bool) => mkSt [(0, .adr 0 0 13 0), (17, .bo v5)] (ob61 p1 r15 p3 p4 p5 p6 r16 r17 o1 o2 o3 o4 o5) 6 6)) v5) ?_ (fun e σ' hq => ?_)
  · replace h := hp2
    clear hp2
    rcases bb (r16 != (0 : Int)) with hb7 | hb7
    · replace h := h_if hb7 h
      refine W_r tbok ⟨[(5, true), (9, true)], []⟩ [] [0, 1, 2, 3, 4, 5] [(0, .adr 0 0 13 0), (17, .bo true)] (ob61 p1 r15 p3 p4 p5 p6 r16 r17 o1 o2 o3 o4 o5) 6 6 (Ts 6 [(r16 != (0 : Int)) = true, (r16 != (0 : Int)) = true, (r16 != (0 : Int)) = true, (r16 != (0 : Int)) = true]) (by kernel_rfl) (tr 6 ⟨hb7, hb7, hb7, hb7, tt⟩) ?_
      obtain rfl := sI h
      exact postN_to (gl [] [0, 1, 2, 3, 4, 5] (by kernel_rfl))
    replace h := h_else hb7 h
    refine W_r tbok ⟨[(5, false), (9, false)], []⟩ [] [0, 1, 2, 3, 4, 5] [(0, .adr 0 0 13 0), (17, .bo (r14 != c1))] (ob61 p1 r15 p3 p4 p5 p6 r16 r17 o1 o2 o3 o4 o5) 6 6 (Ts 6 [(r16 != (0 : Int)) = false ∧ True, (r16 != (0 : Int)) = false ∧ True, (r16 != (0 : Int)) = false ∧ True, (r16 != (0 : Int)) = false]) (by kernel_rfl) (tr 6 ⟨⟨hb7, tt⟩, ⟨hb7, tt⟩, ⟨hb7, tt⟩, hb7, tt⟩) ?_
    obtain rfl := sI h
    exact postN_to (gl [] [0, 1, 2, 3, 4, 5] (by kernel_rfl))
  clear hp2
  obtain ⟨rfl, hle⟩ := hq
  refine use_to ?_ hle
  refine to_then ?_
  refine W_cond (b := v5) (β := false) (by kernel_rfl) (fun hb8 => ?_) (fun hb8 => ?_)
  · replace h := h_if hb8 h
    refine W_rs tbok ⟨[], []⟩ [] [0, 1, 2, 3, 4, 5] [(4, .bo false)] (ob61 p1 r15 p3 p4 p5 p6 r16 r17 o1 o2 o3 o4 o5) 6 6 [True] (by kernel_rfl) ⟨tt, tt⟩ ?_
    refine W_ret ?_
    refine thenQ_ret ?_
    obtain rfl := sI h
    exact RetO_intro [some .bool] [] [0, 1, 2, 3, 4, 5] [(4, .bo false)] (ob61 p1 r15 p3 p4 p5 p6 r16 r17 o1 o2 o3 o4 o5) 6 6 (by kernel_rfl) (by kernel_rfl) (by kernel_rfl)
  replace h := h_else hb8 h
  refine W_skip_to ?_
  refine to_then ?_
  refine W_rs tbok ⟨[], []⟩ [] [0, 1, 2, 3, 4, 5] [] (ob61 p1 (IntKind.i64.wrap (r15 + (1 : Int))) p3 p4 p5 p6 r16 r17 o1 o2 o3 o4 o5) 6 6 (Ts 9 []) (by kernel_rfl) (tr 9 tt) ?_
  refine W_rs tbok ⟨[], []⟩ [] [0, 1, 2, 3, 4, 5] [(4, .bo true)] (ob61 p1 (IntKind.i64.wrap (r15 + (1 : Int))) p3 p4 p5 p6 r16 r17 o1 o2 o3 o4 o5) 6 6 [True] (by kernel_rfl) ⟨tt, tt⟩ ?_
  refine W_ret ?_
  obtain rfl := sI h
  exact RetO_intro [some .bool] [] [0, 1, 2, 3, 4, 5] [(4, .bo true)] (ob61 p1 (IntKind.i64.wrap (r15 + (1 : Int))) p3 p4 p5 p6 r16 r17 o1 o2 o3 o4 o5) 6 6 (by kernel_rfl) (by kernel_rfl) (by kernel_rfl)
def rq_find_v2_L1 (p8 : List (List UInt8)) (s1 : List UInt8) : (Int) → Option ((Int) ⊕ ((Unit) ⊕ (Int))) := fun (i2 : Int) =>
  (if (decide (i2 < (p8.length : Int))) = true then (if 0 ≤ i2 ∧ i2 < (p8.length : Int) then (if ((p8.getD i2.toNat ([] : List UInt8)) == s1) = true then some (Sum.inr (Sum.inr i2))
  else some (Sum.inl (IntKind.i64.wrap (i2 + (1 : Int))))) else none)
  else some (Sum.inr (Sum.inl ())))
def rq_find_v2 (p1 : List UInt8) (p2 : Int) (p3 : List (List UInt8)) (p4 p5 : Int) (p6 : List Int) (p7 : List (Int × Tree × Tree)) (p8 : List (List UInt8)) (p9 : List Int) (p10 p11 p12 p13 : Int) (s1 : List UInt8) : Option (Int) :=
  ((iter (rq_find_v2_L1 p8 s1) (0 : Int)).bind fun (r2 : ((Unit) ⊕ (Int))) => match r2 with
  | .inl _ => some (-1 : Int)
  | .inr (r1) => some r1)
theorem rq_find_v2_ok (β2 β5 β6 β7 β8 : Bool) (p1 : List UInt8) (p2 : Int) (p3 : List (List UInt8)) (p4 p5 : Int) (p6 : List Int) (p7 : List (Int × Tree × Tree)) (p8 : List (List UInt8)) (p9 : List Int) (p10 p11 p12 p13 : Int) (s1 : List UInt8) (res : Int) (h : rq_find_v2 p1 p2 p3 p4 p5 p6 p7 p8 p9 p10 p11 p12 p13 s1 = some res) :
    Pure Try.prog 56 [.fad true [.st p1, .i64 p2, .p β2 (.slice .str) p3, .u32 p4, .u32 p5, .p β5 (.slice (.int .i64)) p6, .p β6 (.slice (.prod (.int .u8) Y1)) p7, .p β7 (.slice .str) p8, .p β8 (.slice (.int .u32)) p9, .i64 p10, .i64 p11, .i64 p12, .i64 p13] 0, .st s1] (wrapR (encs false [⟨(.int .i64), res⟩])) := by
  refine Pure.of_body tbok Try.func56 (by kernel_rfl) rfl (nl rfl) (fun Bw w0 => ?_) rfl
  unfold rq_find_v2 at h
  refine W_rs tbok ⟨[], []⟩ [] [] [(0, .fad true [.st p1, .i64 p2, .p β2 (.slice .str) p3, .u32 p4, .u32 p5, .p β5 (.slice (.int .i64)) p6, .p β6 (.slice (.prod (.int .u8) Y1)) p7, .p β7 (.slice .str) p8, .p β8 (.slice (.int .u32)) p9, .i64 p10, .i64 p11, .i64 p12, .i64 p13] 0), (1, .st s1)] [] 0 0 [True] (by kernel_rfl) ⟨tt, tt⟩ ?_
  refine W_seq ?_
  refine W_rs tbok ⟨[], []⟩ [] [] [(0, .fad true [.st p1, .i64 p2, .p β2 (.slice .str) p3, .u32 p4, .u32 p5, .p β5 (.slice (.int .i64)) p6, .p β6 (.slice (.prod (.int .u8) Y1)) p7, .p β7 (.slice .str) p8, .p β8 (.slice (.int .u32)) p9, .i64 p10, .i64 p11, .i64 p12, .i64 p13] 0), (1, .st s1), (5, .i64 (0 : Int))] [] 0 0 [True] (by kernel_rfl) ⟨tt, tt⟩ ?_
  refine W_block ?_
  obtain ⟨r2, hp1, h⟩ := h_bind h
  refine W.mono (Q := (postS (postX Try.f56.ntmps 0 (fun (_ : Unit) => mkSt [] [] 0)) (postR tb Try.f56.results.toList (fun (r1 : Int) => [⟨(.int .i64), r1⟩]))) r2) (W_iter (f := fun (i2 : Int) => mkSt [(0, .fad true [.st p1, .i64 p2, .p β2 (.slice .str) p3, .u32 p4, .u32 p5, .p β5 (.slice (.int .i64)) p6, .p β6 (.slice (.prod (.int .u8) Y1)) p7, .p β7 (.slice .str) p8, .p β8 (.slice (.int .u32)) p9, .i64 p10, .i64 p11, .i64 p12, .i64 p13] 0), (1, .st s1), (5, .i64 i2)] [] 0) (Q := (postS (postX Try.f56.ntmps 0 (fun (_ : Unit) => mkSt [] [] 0)) (postR tb Try.f56.results.toList (fun (r1 : Int) => [⟨(.int .i64), r1⟩])))) hp1 (gl [] [] (by kernel_rfl)) (fun i2 o ho => ?_)) (fun e σ' hq => ?_)
  · replace h := ho
    clear ho hp1
    unfold rq_find_v2_L1 at h
    refine W_seq ?_
    refine W_rs tbok ⟨[], []⟩ [] [] [(0, .fad true [.st p1, .i64 p2, .p β2 (.slice .str) p3, .u32 p4, .u32 p5, .p β5 (.slice (.int .i64)) p6, .p β6 (.slice (.prod (.int .u8) Y1)) p7, .p β7 (.slice .str) p8, .p β8 (.slice (.int .u32)) p9, .i64 p10, .i64 p11, .i64 p12, .i64 p13] 0), (1, .st s1), (5, .i64 i2), (12, .bo (decide (i2 < (p8.length : Int))))] [] 0 0 (Ts 7 []) (by kernel_rfl) (tr 7 tt) ?_
    refine W_cond (b := (decide (i2 < (p8.length : Int)))) (β := false) (by kernel_rfl) (fun hb5 => ?_) (fun hb5 => ?_)
    · replace h := h_if hb5 h
      refine W_skip_to ?_
      refine to_then ?_
      refine W_seq ?_
      refine W_block ?_
      refine W_seq ?_
      obtain ⟨c6, h⟩ := h_guard h
      refine W_r tbok ⟨[], []⟩ [] [] [(0, .fad true [.st p1, .i64 p2, .p β2 (.slice .str) p3, .u32 p4, .u32 p5, .p β5 (.slice (.int .i64)) p6, .p β6 (.slice (.prod (.int .u8) Y1)) p7, .p β7 (.slice .str) p8, .p β8 (.slice (.int .u32)) p9, .i64 p10, .i64 p11, .i64 p12, .i64 p13] 0), (1, .st s1), (5, .i64 i2), (23, .bo ((p8.getD i2.toNat ([] : List UInt8)) == s1))] [] 0 0 (Ts 5 ((0 ≤ i2 ∧ i2 < (p8.length : Int)) :: (Ts 3 []))) (by kernel_rfl) (tr 5 ⟨c6, (tr 3 tt)⟩) ?_
      refine to_then ?_
      refine W_cond (b := ((p8.getD i2.toNat ([] : List UInt8)) == s1)) (β := false) (by kernel_rfl) (fun hb6 => ?_) (fun hb6 => ?_)
      · replace h := h_if hb6 h
        refine W_rs tbok ⟨[], []⟩ [] [] [(4, .i64 i2)] [] 0 0 [True, True] (by kernel_rfl) ⟨tt, tt, tt⟩ ?_
        refine W_ret ?_
        obtain rfl := sI h
        refine blockQ_ret ?_
        refine thenQ_ret ?_
        refine round_ret ?_
        refine postS_rr ?_
        exact postR_mk (Ret_intro [(.int .i64)] (by kernel_rfl))
      replace h := h_else hb6 h
      refine W_skip_to ?_
      refine to_block ?_
      refine to_then ?_
      refine W_r tbok ⟨[], []⟩ [] [] [(0, .fad true [.st p1, .i64 p2, .p β2 (.slice .str) p3, .u32 p4, .u32 p5, .p β5 (.slice (.int .i64)) p6, .p β6 (.slice (.prod (.int .u8) Y1)) p7, .p β7 (.slice .str) p8, .p β8 (.slice (.int .u32)) p9, .i64 p10, .i64 p11, .i64 p12, .i64 p13] 0), (1, .st s1), (5, .i64 (IntKind.i64.wrap (i2 + (1 : Int))))] [] 0 0 (Ts 3 []) (by kernel_rfl) (tr 3 tt) ?_
      obtain rfl := sI h
      exact roundB (gl [] [] (by kernel_rfl))
    replace h := h_else hb5 h
    refine W_exit_to ?_
    refine thenE ?_
    obtain rfl := sI h
    refine roundE ?_
    refine postS_l ?_
    exact postX_to (gl [] [] (by kernel_rfl))
  clear hp1
  rcases r2 with _ | r1
  · obtain ⟨rfl, hle⟩ := hq
    refine use_to ?_ hle
    refine blockE_eq ?_
    refine to_then ?_
    refine W_rs tbok ⟨[], []⟩ [] [] [(4, .i64 (-1 : Int))] [] 0 0 [True] (by kernel_rfl) ⟨tt, tt⟩ ?_
    refine W_ret ?_
    obtain rfl := sI h
    exact Ret_intro [(.int .i64)] (by kernel_rfl)
  obtain ⟨rfl, hr⟩ := hq
  refine blockQ_ret ?_
  refine thenQ_ret ?_
  obtain rfl := sI h
  exact hr
def rq_fresh_v5 (p1 : List UInt8) (p2 p3 p4 p5 p6 p7 p8 : Int) (o1 : List (List UInt8)) (o2 : List Int) (o3 : List (Int × Tree × Tree)) (o4 : List (List UInt8)) (o5 : List Int) : Option ((List UInt8) × Int × Int × Int × Int) :=
  ((rq_word_v8 p1 p2 p3 p4 p5 p6 p7 p8 o1 o2 o3 o4 o5).bind fun ((r30, r31, r32, r33, r34) : (List UInt8) × Int × Int × Int × Int) =>
  (((if (r33 == (0 : Int)) = true then ((rq_find_v2 p1 r32 o1 p3 p4 o2 o3 o4 o5 p5 p6 r33 r34 r30).bind fun (r37 : Int) =>
  some ((decide (r37 ≥ (0 : Int)))))
  else some (false))).bind fun (v7 : Bool) => (((if v7 = true then ((rq_bad_v6 (23 : Int) r31 p1 r32 p3 p4 p5 p6 r33 r34 o1 o2 o3 o4 o5).bind fun ((r44, r45) : Int × Int) =>
  some ((r44, r45)))
  else some ((r33, r34)))).bind fun ((v8, v9) : Int × Int) => some (r30, r31, r32, v8, v9))))
theorem rq_fresh_v5_ok (p1 : List UInt8) (p2 p3 p4 p5 p6 p7 p8 : Int) (o1 : List (List UInt8)) (o2 : List Int) (o3 : List (Int × Tree × Tree)) (o4 : List (List UInt8)) (o5 : List Int) (res : (List UInt8) × Int × Int × Int × Int) (h : rq_fresh_v5 p1 p2 p3 p4 p5 p6 p7 p8 o1 o2 o3 o4 o5 = some res) :
    Owns Try.prog 40 [.adr 0 0 13 0] (ob61 p1 p2 p3 p4 p5 p6 p7 p8 o1 o2 o3 o4 o5) (.tup [.st res.1, .i64 res.2.1]) (ob61 p1 res.2.2.1 p3 p4 p5 p6 res.2.2.2.1 res.2.2.2.2 o1 o2 o3 o4 o5) := by
  refine Owns.of_body tbok Try.func40 (by kernel_rfl) rfl (nl rfl) (fun Bw w0 => ?_)
  unfold rq_fresh_v5 at h
  refine W_rs tbok ⟨[], []⟩ [] [0, 1, 2, 3, 4, 5] [(0, .adr 0 0 13 0)] (ob61 p1 p2 p3 p4 p5 p6 p7 p8 o1 o2 o3 o4 o5) 6 6 [True, True] (by kernel_rfl) ⟨tt, tt, tt⟩ ?_
  obtain ⟨⟨r30, r31, r32, r33, r34⟩, q11, h⟩ := h_bind h
  have u_1 := (rq_word_v8_ok p1 p2 p3 p4 p5 p6 p7 p8 o1 o2 o3 o4 o5 _ q11)
  refine W_rs tbok ⟨[], [(1, ⟨.tup [.st r30, .i64 r31], [false], true, [true], [0, 1, 2, 3, 4, 5], (ob61 p1 r32 p3 p4 p5 p6 r33 r34 o1 o2 o3 o4 o5), none⟩)]⟩ [] [0, 1, 2, 3, 4, 5] [(0, .adr 0 0 13 0), (4, .st r30), (5, .i64 r31)] (ob61 p1 r32 p3 p4 p5 p6 r33 r34 o1 o2 o3 o4 o5) 6 6 (True :: (pO u_1) :: (Ts 5 [])) (by kernel_rfl) ⟨tt, u_1, (tr 5 tt)⟩ ?_
  refine W_seq ?_
  refine W_seq ?_
  obtain ⟨v7, hp3, h⟩ := h_bind h
  refine W.mono (Q := (postN Try.f40.ntmps (fun (v7 : Bool) => mkSt [(0, .adr 0 0 13 0), (4, .st r30), (5, .i64 r31), (21, .bo v7)] (ob61 p1 r32 p3 p4 p5 p6 r33 r34 o1 o2 o3 o4 o5) 6 6)) v7) ?_ (fun e σ' hq => ?_)
  · replace h := hp3
    clear hp3
    rcases bb (r33 == (0 : Int)) with hb8 | hb8
    · replace h := h_if hb8 h
      obtain ⟨r37, q14, h⟩ := h_bind h
      have u_1 := (rq_find_v2_ok true true true true true p1 r32 o1 p3 p4 o2 o3 o4 o5 p5 p6 r33 r34 r30 _ q14)
      refine W_r tbok ⟨[(5, true), (10, true)], [(8, ⟨.i64 r37, [false, false], false, [true, true], [], [], none⟩)]⟩ [] [0, 1, 2, 3, 4, 5] [(0, .adr 0 0 13 0), (4, .st r30), (5, .i64 r31), (21, .bo (decide (r37 ≥ (0 : Int))))] (ob61 p1 r32 p3 p4 p5 p6 r33 r34 o1 o2 o3 o4 o5) 6 6 (Ts 6 [(r33 == (0 : Int)) = true ∧ True, (r33 == (0 : Int)) = true ∧ True, (r33 == (0 : Int)) = true ∧ pO u_1, (r33 == (0 : Int)) = true ∧ True, (r33 == (0 : Int)) = true]) (by kernel_rfl) (tr 6 ⟨⟨hb8, tt⟩, ⟨hb8, tt⟩, ⟨hb8, u_1⟩, ⟨hb8, tt⟩, hb8, tt⟩) ?_
      obtain rfl := sI h
      exact postN_to (gl [] [0, 1, 2, 3, 4, 5] (by kernel_rfl))
    replace h := h_else hb8 h
    refine W_r tbok ⟨[(5, false), (10, false)], []⟩ [] [0, 1, 2, 3, 4, 5] [(0, .adr 0 0 13 0), (4, .st r30), (5, .i64 r31), (21, .bo false)] (ob61 p1 r32 p3 p4 p5 p6 r33 r34 o1 o2 o3 o4 o5) 6 6 (Ts 6 [(r33 == (0 : Int)) = false, (r33 == (0 : Int)) = false, (r33 == (0 : Int)) = false, (r33 == (0 : Int)) = false, (r33 == (0 : Int)) = false]) (by kernel_rfl) (tr 6 ⟨hb8, hb8, hb8, hb8, hb8, tt⟩) ?_
    obtain rfl := sI h
    exact postN_to (gl [] [0, 1, 2, 3, 4, 5] (by kernel_rfl))
  clear hp3
  obtain ⟨rfl, hle⟩ := hq
  refine use_to ?_ hle
  refine to_then ?_
  obtain ⟨r46, hp4, h⟩ := h_bind h
  refine W.mono (Q := (postN Try.f40.ntmps (fun ((v8, v9) : Int × Int) => mkSt [(4, .st r30), (5, .i64 r31)] (ob61 p1 r32 p3 p4 p5 p6 v8 v9 o1 o2 o3 o4 o5) 6 6)) r46) ?_ (fun e σ' hq => ?_)
  · replace h := hp4
    clear hp4
    refine W_cond (b := v7) (β := false) (by kernel_rfl) (fun hb10 => ?_) (fun hb10 => ?_)
    · replace h := h_if hb10 h
      obtain ⟨⟨r44, r45⟩, q18, h⟩ := h_bind h
      have u_1 := (rq_bad_v6_ok (23 : Int) r31 p1 r32 p3 p4 p5 p6 r33 r34 o1 o2 o3 o4 o5 _ q18)
      refine W_r tbok ⟨[], [(2, ⟨.tup [], [false, false, false], true, [true, true, true], [0, 1, 2, 3, 4, 5], (ob61 p1 r32 p3 p4 p5 p6 r44 r45 o1 o2 o3 o4 o5), none⟩)]⟩ [] [0, 1, 2, 3, 4, 5] [(4, .st r30), (5, .i64 r31)] (ob61 p1 r32 p3 p4 p5 p6 r44 r45 o1 o2 o3 o4 o5) 6 6 [True, True, pO u_1] (by kernel_rfl) ⟨tt, tt, u_1, tt⟩ ?_
      obtain rfl := sI h
      exact postN_to (gl [] [0, 1, 2, 3, 4, 5] (by kernel_rfl))
    replace h := h_else hb10 h
    refine W_skip_to ?_
    obtain rfl := sI h
    exact postN_to (gl [] [0, 1, 2, 3, 4, 5] (by kernel_rfl))
  clear hp4
  obtain ⟨v8, v9⟩ := r46
  obtain ⟨rfl, hle⟩ := hq
  refine use_to ?_ hle
  refine to_then ?_
  refine W_rs tbok ⟨[], []⟩ [] [0, 1, 2, 3, 4, 5] [(2, .st r30), (3, .i64 r31)] (ob61 p1 r32 p3 p4 p5 p6 v8 v9 o1 o2 o3 o4 o5) 6 6 (Ts 4 []) (by kernel_rfl) (tr 4 tt) ?_
  refine W_ret ?_
  obtain rfl := sI h
  exact RetO_intro [some .str, some (.int .i64)] [] [0, 1, 2, 3, 4, 5] [(2, .st r30), (3, .i64 r31)] (ob61 p1 r32 p3 p4 p5 p6 v8 v9 o1 o2 o3 o4 o5) 6 6 (by kernel_rfl) (by kernel_rfl) (by kernel_rfl)
def rq_declare_v5 (w1 : List UInt8) (bits1 : Int) (p1 : List UInt8) (p2 p3 p4 p5 p6 p7 p8 : Int) (o1 : List (List UInt8)) (o2 : List Int) (o3 : List (Int × Tree × Tree)) (o4 : List (List UInt8)) (o5 : List Int) : Option ((List (List UInt8)) × List Int) :=
  (if (o4.length + ([w1] : List (List UInt8)).length) * 16 ≤ 140737488355328 ∧ o4.length + ([w1] : List (List UInt8)).length ≤ 9223372036854775807 then (if (o5.length + ([bits1] : List Int).length) * 4 ≤ 140737488355328 ∧ o5.length + ([bits1] : List Int).length ≤ 9223372036854775807 then some ((o4 ++ ([w1] : List (List UInt8))), (o5 ++ ([bits1] : List Int))) else none) else none)
theorem rq_declare_v5_ok (w1 : List UInt8) (bits1 : Int) (p1 : List UInt8) (p2 p3 p4 p5 p6 p7 p8 : Int) (o1 : List (List UInt8)) (o2 : List Int) (o3 : List (Int × Tree × Tree)) (o4 : List (List UInt8)) (o5 : List Int) (res : (List (List UInt8)) × List Int) (h : rq_declare_v5 w1 bits1 p1 p2 p3 p4 p5 p6 p7 p8 o1 o2 o3 o4 o5 = some res) :
    Owns Try.prog 41 [.adr 0 0 13 0, .st w1, .u32 bits1] (ob61 p1 p2 p3 p4 p5 p6 p7 p8 o1 o2 o3 o4 o5) (.tup []) (ob64 p1 p2 p3 p4 p5 p6 p7 p8 o1 o2 o3 res.1 res.2) := by
  refine Owns.of_body tbok Try.func41 (by kernel_rfl) rfl (nl rfl) (fun Bw w0 => ?_)
  unfold rq_declare_v5 at h
  refine W_seq ?_
  obtain ⟨c6, h⟩ := h_guard h
  refine W_r tbok ⟨[], []⟩ [] [0, 1, 2, 3, 4, 5, 62] [(0, .adr 0 0 13 0), (2, .u32 bits1)] (ob63 p1 p2 p3 p4 p5 p6 p7 p8 o1 o2 o3 o5 (o4 ++ ([w1] : List (List UInt8)))) 7 6 (Ts 7 (((o4.length + ([w1] : List (List UInt8)).length) * 16 ≤ 140737488355328 ∧ o4.length + ([w1] : List (List UInt8)).length ≤ 9223372036854775807) :: (Ts 3 []))) (by kernel_rfl) (tr 7 ⟨c6, (tr 3 tt)⟩) ?_
  refine to_then ?_
  obtain ⟨c8, h⟩ := h_guard h
  refine W_r tbok ⟨[], []⟩ [] [0, 1, 2, 3, 4, 5, 6, 63] [] (ob64 p1 p2 p3 p4 p5 p6 p7 p8 o1 o2 o3 (o4 ++ ([w1] : List (List UInt8))) (o5 ++ ([bits1] : List Int))) 8 6 (Ts 7 (((o5.length + ([bits1] : List Int).length) * 4 ≤ 140737488355328 ∧ o5.length + ([bits1] : List Int).length ≤ 9223372036854775807) :: (Ts 3 []))) (by kernel_rfl) (tr 7 ⟨c8, (tr 3 tt)⟩) ?_
  obtain rfl := sI h
  exact (RetO_intro [] [] [0, 1, 2, 3, 4, 5, 6, 7] [] (ob64 p1 p2 p3 p4 p5 p6 p7 p8 o1 o2 o3 (o4 ++ ([w1] : List (List UInt8))) (o5 ++ ([bits1] : List Int))) 8 6 (by kernel_rfl) (by kernel_rfl) (by kernel_rfl)).normal
def rq_want_v3 (c1 : Int) (p1 : List UInt8) (p2 p3 p4 p5 p6 p7 p8 : Int) (o1 : List (List UInt8)) (o2 : List Int) (o3 : List (Int × Tree × Tree)) (o4 : List (List UInt8)) (o5 : List Int) : Option (Int × Int × Int) :=
  ((rq_sign_v6 c1 p1 p2 p3 p4 p5 p6 p7 p8 o1 o2 o3 o4 o5).bind fun ((r22, r23, r24, r25) : Bool × Int × Int × Int) =>
  (((if (!r22) = true then ((rq_bad_v6 (21 : Int) r23 p1 r23 p3 p4 p5 p6 r24 r25 o1 o2 o3 o4 o5).bind fun ((r32, r33) : Int × Int) =>
  some ((r32, r33)))
  else some ((r24, r25)))).bind fun ((v6, v7) : Int × Int) => some (r23, v6, v7)))
theorem rq_want_v3_ok (c1 : Int) (p1 : List UInt8) (p2 p3 p4 p5 p6 p7 p8 : Int) (o1 : List (List UInt8)) (o2 : List Int) (o3 : List (Int × Tree × Tree)) (o4 : List (List UInt8)) (o5 : List Int) (res : Int × Int × Int) (h : rq_want_v3 c1 p1 p2 p3 p4 p5 p6 p7 p8 o1 o2 o3 o4 o5 = some res) :
    Owns Try.prog 42 [.adr 0 0 13 0, .u8 c1] (ob61 p1 p2 p3 p4 p5 p6 p7 p8 o1 o2 o3 o4 o5) (.tup []) (ob61 p1 res.1 p3 p4 p5 p6 res.2.1 res.2.2 o1 o2 o3 o4 o5) := by
  refine Owns.of_body tbok Try.func42 (by kernel_rfl) rfl (nl rfl) (fun Bw w0 => ?_)
  unfold rq_want_v3 at h
  obtain ⟨⟨r22, r23, r24, r25⟩, q8, h⟩ := h_bind h
  have u_1 := (rq_sign_v6_ok c1 p1 p2 p3 p4 p5 p6 p7 p8 o1 o2 o3 o4 o5 _ q8)
  refine W_rs tbok ⟨[], [(2, ⟨.bo r22, [false, false], true, [true, true], [0, 1, 2, 3, 4, 5], (ob61 p1 r23 p3 p4 p5 p6 r24 r25 o1 o2 o3 o4 o5), none⟩)]⟩ [] [0, 1, 2, 3, 4, 5] [(0, .adr 0 0 13 0), (7, .bo (!r22))] (ob61 p1 r23 p3 p4 p5 p6 r24 r25 o1 o2 o3 o4 o5) 6 6 [True, True, pO u_1, True] (by kernel_rfl) ⟨tt, tt, u_1, tt, tt⟩ ?_
  obtain ⟨r34, hp2, h⟩ := h_bind h
  refine W.mono (Q := (postN Try.f42.ntmps (fun ((v6, v7) : Int × Int) => mkSt [] (ob61 p1 r23 p3 p4 p5 p6 v6 v7 o1 o2 o3 o4 o5) 6 6)) r34) ?_ (fun e σ' hq => ?_)
  · replace h := hp2
    clear hp2
    refine W_cond (b := (!r22)) (β := false) (by kernel_rfl) (fun hb4 => ?_) (fun hb4 => ?_)
    · replace h := h_if hb4 h
      obtain ⟨⟨r32, r33⟩, q12, h⟩ := h_bind h
      have u_1 := (rq_bad_v6_ok (21 : Int) r23 p1 r23 p3 p4 p5 p6 r24 r25 o1 o2 o3 o4 o5 _ q12)
      refine W_r tbok ⟨[], [(5, ⟨.tup [], [false, false, false], true, [true, true, true], [0, 1, 2, 3, 4, 5], (ob61 p1 r23 p3 p4 p5 p6 r32 r33 o1 o2 o3 o4 o5), none⟩)]⟩ [] [0, 1, 2, 3, 4, 5] [] (ob61 p1 r23 p3 p4 p5 p6 r32 r33 o1 o2 o3 o4 o5) 6 6 (Ts 5 [pO u_1]) (by kernel_rfl) (tr 5 ⟨u_1, tt⟩) ?_
      obtain rfl := sI h
      exact postN_to (gl [] [0, 1, 2, 3, 4, 5] (by kernel_rfl))
    replace h := h_else hb4 h
    refine W_skip_to ?_
    obtain rfl := sI h
    exact postN_to (gl [] [0, 1, 2, 3, 4, 5] (by kernel_rfl))
  clear hp2
  obtain ⟨v6, v7⟩ := r34
  obtain ⟨rfl, hle⟩ := hq
  refine use_to ?_ hle
  obtain rfl := sI h
  exact (RetO_intro [] [] [0, 1, 2, 3, 4, 5] [] (ob61 p1 r23 p3 p4 p5 p6 v6 v7 o1 o2 o3 o4 o5) 6 6 (by kernel_rfl) (by kernel_rfl) (by kernel_rfl)).normal
def rq_named_v3 (p1 : List UInt8) (p2 p3 p4 p5 p6 p7 p8 : Int) (o1 : List (List UInt8)) (o2 : List Int) (o3 : List (Int × Tree × Tree)) (o4 : List (List UInt8)) (o5 : List Int) : Option (Int × Int × Int × Int) :=
  ((rq_word_v8 p1 p2 p3 p4 p5 p6 p7 p8 o1 o2 o3 o4 o5).bind fun ((r23, r24, r25, r26, r27) : (List UInt8) × Int × Int × Int × Int) =>
  (if (r26 != (0 : Int)) = true then some ((0 : Int), r25, r26, r27)
  else ((rq_find_v2 p1 r25 o1 p3 p4 o2 o3 o4 o5 p5 p6 r26 r27 r23).bind fun (r29 : Int) =>
  (if (decide (r29 < (0 : Int))) = true then ((rq_bad_v6 (22 : Int) r24 p1 r25 p3 p4 p5 p6 r26 r27 o1 o2 o3 o4 o5).bind fun ((r32, r33) : Int × Int) =>
  some ((0 : Int), r25, r32, r33))
  else (if 0 ≤ r29 ∧ r29 < (o5.length : Int) then (if r29.toNat < o5.length then some ((o5.getD r29.toNat (0 : Int)), r25, r26, r27) else none) else none)))))
theorem rq_named_v3_ok (p1 : List UInt8) (p2 p3 p4 p5 p6 p7 p8 : Int) (o1 : List (List UInt8)) (o2 : List Int) (o3 : List (Int × Tree × Tree)) (o4 : List (List UInt8)) (o5 : List Int) (res : Int × Int × Int × Int) (h : rq_named_v3 p1 p2 p3 p4 p5 p6 p7 p8 o1 o2 o3 o4 o5 = some res) :
    Owns Try.prog 57 [.adr 0 0 13 0] (ob61 p1 p2 p3 p4 p5 p6 p7 p8 o1 o2 o3 o4 o5) (.u32 res.1) (ob61 p1 res.2.1 p3 p4 p5 p6 res.2.2.1 res.2.2.2 o1 o2 o3 o4 o5) := by
  refine Owns.of_body tbok Try.func57 (by kernel_rfl) rfl (nl rfl) (fun Bw w0 => ?_)
  unfold rq_named_v3 at h
  refine W_rs tbok ⟨[], []⟩ [] [0, 1, 2, 3, 4, 5] [(0, .adr 0 0 13 0)] (ob61 p1 p2 p3 p4 p5 p6 p7 p8 o1 o2 o3 o4 o5) 6 6 [True] (by kernel_rfl) ⟨tt, tt⟩ ?_
  obtain ⟨⟨r23, r24, r25, r26, r27⟩, q8, h⟩ := h_bind h
  have u_1 := (rq_word_v8_ok p1 p2 p3 p4 p5 p6 p7 p8 o1 o2 o3 o4 o5 _ q8)
  refine W_rs tbok ⟨[], [(1, ⟨.tup [.st r23, .i64 r24], [false], true, [true], [0, 1, 2, 3, 4, 5], (ob61 p1 r25 p3 p4 p5 p6 r26 r27 o1 o2 o3 o4 o5), none⟩)]⟩ [] [0, 1, 2, 3, 4, 5] [(0, .adr 0 0 13 0), (3, .st r23), (4, .i64 r24)] (ob61 p1 r25 p3 p4 p5 p6 r26 r27 o1 o2 o3 o4 o5) 6 6 (True :: (pO u_1) :: (Ts 5 [])) (by kernel_rfl) ⟨tt, u_1, (tr 5 tt)⟩ ?_
  refine W_seq ?_
  refine W_rs tbok ⟨[], []⟩ [] [0, 1, 2, 3, 4, 5] [(0, .adr 0 0 13 0), (3, .st r23), (4, .i64 r24), (15, .bo (r26 != (0 : Int)))] (ob61 p1 r25 p3 p4 p5 p6 r26 r27 o1 o2 o3 o4 o5) 6 6 (Ts 5 []) (by kernel_rfl) (tr 5 tt) ?_
  refine W_cond (b := (r26 != (0 : Int))) (β := false) (by kernel_rfl) (fun hb3 => ?_) (fun hb3 => ?_)
  · replace h := h_if hb3 h
    refine W_rs tbok ⟨[], []⟩ [] [0, 1, 2, 3, 4, 5] [(2, .u32 (0 : Int))] (ob61 p1 r25 p3 p4 p5 p6 r26 r27 o1 o2 o3 o4 o5) 6 6 [True] (by kernel_rfl) ⟨tt, tt⟩ ?_
    refine W_ret ?_
    refine thenQ_ret ?_
    obtain rfl := sI h
    exact RetO_intro [some (.int .u32)] [] [0, 1, 2, 3, 4, 5] [(2, .u32 (0 : Int))] (ob61 p1 r25 p3 p4 p5 p6 r26 r27 o1 o2 o3 o4 o5) 6 6 (by kernel_rfl) (by kernel_rfl) (by kernel_rfl)
  replace h := h_else hb3 h
  refine W_skip_to ?_
  refine to_then ?_
  obtain ⟨r29, q10, h⟩ := h_bind h
  have u_1 := (rq_find_v2_ok true true true true true p1 r25 o1 p3 p4 o2 o3 o4 o5 p5 p6 r26 r27 r23 _ q10)
  refine W_rs tbok ⟨[], [(2, ⟨.i64 r29, [false, false], false, [true, true], [], [], none⟩)]⟩ [] [0, 1, 2, 3, 4, 5] [(0, .adr 0 0 13 0), (4, .i64 r24), (5, .i64 r29)] (ob61 p1 r25 p3 p4 p5 p6 r26 r27 o1 o2 o3 o4 o5) 6 6 [True, True, pO u_1, True] (by kernel_rfl) ⟨tt, tt, u_1, tt, tt⟩ ?_
  refine W_seq ?_
  refine W_rs tbok ⟨[], []⟩ [] [0, 1, 2, 3, 4, 5] [(0, .adr 0 0 13 0), (4, .i64 r24), (5, .i64 r29), (20, .bo (decide (r29 < (0 : Int))))] (ob61 p1 r25 p3 p4 p5 p6 r26 r27 o1 o2 o3 o4 o5) 6 6 [True, True] (by kernel_rfl) ⟨tt, tt, tt⟩ ?_
  refine W_cond (b := (decide (r29 < (0 : Int)))) (β := false) (by kernel_rfl) (fun hb4 => ?_) (fun hb4 => ?_)
  · replace h := h_if hb4 h
    obtain ⟨⟨r32, r33⟩, q12, h⟩ := h_bind h
    have u_1 := (rq_bad_v6_ok (22 : Int) r24 p1 r25 p3 p4 p5 p6 r26 r27 o1 o2 o3 o4 o5 _ q12)
    refine W_rs tbok ⟨[], [(2, ⟨.tup [], [false, false, false], true, [true, true, true], [0, 1, 2, 3, 4, 5], (ob61 p1 r25 p3 p4 p5 p6 r32 r33 o1 o2 o3 o4 o5), none⟩)]⟩ [] [0, 1, 2, 3, 4, 5] [] (ob61 p1 r25 p3 p4 p5 p6 r32 r33 o1 o2 o3 o4 o5) 6 6 [True, True, pO u_1] (by kernel_rfl) ⟨tt, tt, u_1, tt⟩ ?_
    refine W_rs tbok ⟨[], []⟩ [] [0, 1, 2, 3, 4, 5] [(2, .u32 (0 : Int))] (ob61 p1 r25 p3 p4 p5 p6 r32 r33 o1 o2 o3 o4 o5) 6 6 [True] (by kernel_rfl) ⟨tt, tt⟩ ?_
    refine W_ret ?_
    refine thenQ_ret ?_
    obtain rfl := sI h
    exact RetO_intro [some (.int .u32)] [] [0, 1, 2, 3, 4, 5] [(2, .u32 (0 : Int))] (ob61 p1 r25 p3 p4 p5 p6 r32 r33 o1 o2 o3 o4 o5) 6 6 (by kernel_rfl) (by kernel_rfl) (by kernel_rfl)
  replace h := h_else hb4 h
  refine W_skip_to ?_
  refine to_then ?_
  refine W_seq ?_
  obtain ⟨c7, h⟩ := h_guard h
  obtain ⟨c8, h⟩ := h_guard h
  refine W_r tbok ⟨[], []⟩ [] [0, 1, 2, 3, 4, 5] [(2, .u32 (o5.getD r29.toNat (0 : Int)))] (ob61 p1 r25 p3 p4 p5 p6 r26 r27 o1 o2 o3 o4 o5) 6 6 (Ts 5 [0 ≤ r29 ∧ r29 < (o5.length : Int), r29.toNat < o5.length, True]) (by kernel_rfl) (tr 5 ⟨c7, c8, tt, tt⟩) ?_
  refine to_then ?_
  refine W_ret ?_
  obtain rfl := sI h
  exact RetO_intro [some (.int .u32)] [] [0, 1, 2, 3, 4, 5] [(2, .u32 (o5.getD r29.toNat (0 : Int)))] (ob61 p1 r25 p3 p4 p5 p6 r26 r27 o1 o2 o3 o4 o5) 6 6 (by kernel_rfl) (by kernel_rfl) (by kernel_rfl)
def rq_list_v3_L1 (end1 : Int) (p1 : List UInt8) (p3 p4 p5 p6 : Int) (o1 : List (List UInt8)) (o2 : List Int) (o3 : List (Int × Tree × Tree)) (o4 : List (List UInt8)) (o5 : List Int) : (Int × Int × Int × Int) → Option ((Int × Int × Int × Int) ⊕ (Int × Int × Int × Int)) := fun ((p33, p34, p35, out5) : Int × Int × Int × Int) =>
  (((if (p34 == (0 : Int)) = true then ((rq_sign_v6 end1 p1 p33 p3 p4 p5 p6 p34 p35 o1 o2 o3 o4 o5).bind fun ((r116, r117, r118, r119) : Bool × Int × Int × Int) =>
  some ((r117, r118, r119, (!r116))))
  else some ((p33, p34, p35, false)))).bind fun ((p36, p37, p38, v15) : Int × Int × Int × Bool) => (if v15 = true then ((rq_named_v3 p1 p36 p3 p4 p5 p6 p37 p38 o1 o2 o3 o4 o5).bind fun ((r125, r126, r127, r128) : Int × Int × Int × Int) =>
  some (Sum.inl (r126, r127, r128, (bitsOf .or .u32 out5 r125))))
  else some (Sum.inr (out5, p36, p37, p38))))
def rq_list_v3 (end1 : Int) (p1 : List UInt8) (p2 p3 p4 p5 p6 p7 p8 : Int) (o1 : List (List UInt8)) (o2 : List Int) (o3 : List (Int × Tree × Tree)) (o4 : List (List UInt8)) (o5 : List Int) : Option (Int × Int × Int × Int) :=
  ((iter (rq_list_v3_L1 end1 p1 p3 p4 p5 p6 o1 o2 o3 o4 o5) (p2, p7, p8, (0 : Int))).bind fun ((out6, v12, v13, v14) : Int × Int × Int × Int) => some (out6, v12, v13, v14))
theorem rq_list_v3_ok (end1 : Int) (p1 : List UInt8) (p2 p3 p4 p5 p6 p7 p8 : Int) (o1 : List (List UInt8)) (o2 : List Int) (o3 : List (Int × Tree × Tree)) (o4 : List (List UInt8)) (o5 : List Int) (res : Int × Int × Int × Int) (h : rq_list_v3 end1 p1 p2 p3 p4 p5 p6 p7 p8 o1 o2 o3 o4 o5 = some res) :
    Owns Try.prog 43 [.adr 0 0 13 0, .u8 end1] (ob61 p1 p2 p3 p4 p5 p6 p7 p8 o1 o2 o3 o4 o5) (.u32 res.1) (ob61 p1 res.2.1 p3 p4 p5 p6 res.2.2.1 res.2.2.2 o1 o2 o3 o4 o5) := by
  refine Owns.of_body tbok Try.func43 (by kernel_rfl) rfl (nl rfl) (fun Bw w0 => ?_)
  unfold rq_list_v3 at h
  refine W_rs tbok ⟨[], []⟩ [] [0, 1, 2, 3, 4, 5] [(0, .adr 0 0 13 0), (1, .u8 end1)] (ob61 p1 p2 p3 p4 p5 p6 p7 p8 o1 o2 o3 o4 o5) 6 6 [True] (by kernel_rfl) ⟨tt, tt⟩ ?_
  refine W_rs tbok ⟨[], []⟩ [] [0, 1, 2, 3, 4, 5] [(0, .adr 0 0 13 0), (1, .u8 end1), (5, .u32 (0 : Int))] (ob61 p1 p2 p3 p4 p5 p6 p7 p8 o1 o2 o3 o4 o5) 6 6 [True] (by kernel_rfl) ⟨tt, tt⟩ ?_
  refine W_seq ?_
  refine W_block ?_
  obtain ⟨r129, hp8, h⟩ := h_bind h
  refine W.mono (Q := (postX Try.f43.ntmps 0 (fun ((out6, v12, v13, v14) : Int × Int × Int × Int) => mkSt [(5, .u32 out6)] (ob61 p1 v12 p3 p4 p5 p6 v13 v14 o1 o2 o3 o4 o5) 6 6)) r129) (W_iter (f := fun ((p33, p34, p35, out5) : Int × Int × Int × Int) => mkSt [(0, .adr 0 0 13 0), (1, .u8 end1), (5, .u32 out5)] (ob61 p1 p33 p3 p4 p5 p6 p34 p35 o1 o2 o3 o4 o5) 6 6) (Q := (postX Try.f43.ntmps 0 (fun ((out6, v12, v13, v14) : Int × Int × Int × Int) => mkSt [(5, .u32 out6)] (ob61 p1 v12 p3 p4 p5 p6 v13 v14 o1 o2 o3 o4 o5) 6 6))) hp8 (gl [] [0, 1, 2, 3, 4, 5] (by kernel_rfl)) (fun y o ho => ?_)) (fun e σ' hq => ?_)
  · obtain ⟨p33, p34, p35, out5⟩ := y
    replace h := ho
    clear ho hp8
    unfold rq_list_v3_L1 at h
    refine W_seq ?_
    refine W_seq ?_
    obtain ⟨r120, hp7, h⟩ := h_bind h
    refine W.mono (Q := (postN Try.f43.ntmps (fun ((p36, p37, p38, v15) : Int × Int × Int × Bool) => mkSt [(0, .adr 0 0 13 0), (1, .u8 end1), (5, .u32 out5), (17, .bo v15)] (ob61 p1 p36 p3 p4 p5 p6 p37 p38 o1 o2 o3 o4 o5) 6 6)) r120) ?_ (fun e σ' hq => ?_)
    · replace h := hp7
      clear hp7
      rcases bb (p34 == (0 : Int)) with hb23 | hb23
      · replace h := h_if hb23 h
        obtain ⟨⟨r116, r117, r118, r119⟩, q28, h⟩ := h_bind h
        have u_1 := (rq_sign_v6_ok end1 p1 p33 p3 p4 p5 p6 p34 p35 o1 o2 o3 o4 o5 _ q28)
        refine W_r tbok ⟨[(5, true), (10, true)], [(8, ⟨.bo r116, [false, false], true, [true, true], [0, 1, 2, 3, 4, 5], (ob61 p1 r117 p3 p4 p5 p6 r118 r119 o1 o2 o3 o4 o5), none⟩)]⟩ [] [0, 1, 2, 3, 4, 5] [(0, .adr 0 0 13 0), (1, .u8 end1), (5, .u32 out5), (17, .bo (!r116))] (ob61 p1 r117 p3 p4 p5 p6 r118 r119 o1 o2 o3 o4 o5) 6 6 (Ts 6 [(p34 == (0 : Int)) = true ∧ True, (p34 == (0 : Int)) = true ∧ True, (p34 == (0 : Int)) = true ∧ pO u_1, (p34 == (0 : Int)) = true ∧ True, (p34 == (0 : Int)) = true]) (by kernel_rfl) (tr 6 ⟨⟨hb23, tt⟩, ⟨hb23, tt⟩, ⟨hb23, u_1⟩, ⟨hb23, tt⟩, hb23, tt⟩) ?_
        obtain rfl := sI h
        exact postN_to (gl [] [0, 1, 2, 3, 4, 5] (by kernel_rfl))
      replace h := h_else hb23 h
      refine W_r tbok ⟨[(5, false), (10, false)], []⟩ [] [0, 1, 2, 3, 4, 5] [(0, .adr 0 0 13 0), (1, .u8 end1), (5, .u32 out5), (17, .bo false)] (ob61 p1 p33 p3 p4 p5 p6 p34 p35 o1 o2 o3 o4 o5) 6 6 (Ts 6 [(p34 == (0 : Int)) = false, (p34 == (0 : Int)) = false, (p34 == (0 : Int)) = false, (p34 == (0 : Int)) = false, (p34 == (0 : Int)) = false]) (by kernel_rfl) (tr 6 ⟨hb23, hb23, hb23, hb23, hb23, tt⟩) ?_
      obtain rfl := sI h
      exact postN_to (gl [] [0, 1, 2, 3, 4, 5] (by kernel_rfl))
    clear hp7
    obtain ⟨p36, p37, p38, v15⟩ := r120
    obtain ⟨rfl, hle⟩ := hq
    refine use_to ?_ hle
    refine to_then ?_
    refine W_cond (b := v15) (β := false) (by kernel_rfl) (fun hb24 => ?_) (fun hb24 => ?_)
    · replace h := h_if hb24 h
      refine W_skip_to ?_
      refine to_then ?_
      refine W_block ?_
      obtain ⟨⟨r125, r126, r127, r128⟩, q30, h⟩ := h_bind h
      have u_1 := (rq_named_v3_ok p1 p36 p3 p4 p5 p6 p37 p38 o1 o2 o3 o4 o5 _ q30)
      refine W_rs tbok ⟨[], [(1, ⟨.u32 r125, [false], true, [true], [0, 1, 2, 3, 4, 5], (ob61 p1 r126 p3 p4 p5 p6 r127 r128 o1 o2 o3 o4 o5), none⟩)]⟩ [] [0, 1, 2, 3, 4, 5] [(0, .adr 0 0 13 0), (1, .u8 end1), (5, .u32 out5), (6, .u32 r125)] (ob61 p1 r126 p3 p4 p5 p6 r127 r128 o1 o2 o3 o4 o5) 6 6 [True, pO u_1, True] (by kernel_rfl) ⟨tt, u_1, tt, tt⟩ ?_
      refine W_r tbok ⟨[], []⟩ [] [0, 1, 2, 3, 4, 5] [(0, .adr 0 0 13 0), (1, .u8 end1), (5, .u32 (bitsOf .or .u32 out5 r125))] (ob61 p1 r126 p3 p4 p5 p6 r127 r128 o1 o2 o3 o4 o5) 6 6 (Ts 4 []) (by kernel_rfl) (tr 4 tt) ?_
      refine to_block ?_
      obtain rfl := sI h
      exact roundB (gl [] [0, 1, 2, 3, 4, 5] (by kernel_rfl))
    replace h := h_else hb24 h
    refine W_exit_to ?_
    refine thenE ?_
    obtain rfl := sI h
    refine roundE ?_
    exact postX_to (gl [] [0, 1, 2, 3, 4, 5] (by kernel_rfl))
  clear hp8
  obtain ⟨out6, v12, v13, v14⟩ := r129
  obtain ⟨rfl, hle⟩ := hq
  refine use_to ?_ hle
  refine blockE_eq ?_
  refine to_then ?_
  refine W_rs tbok ⟨[], []⟩ [] [0, 1, 2, 3, 4, 5] [(4, .u32 out6)] (ob61 p1 v12 p3 p4 p5 p6 v13 v14 o1 o2 o3 o4 o5) 6 6 [True, True] (by kernel_rfl) ⟨tt, tt, tt⟩ ?_
  refine W_ret ?_
  obtain rfl := sI h
  exact RetO_intro [some (.int .u32)] [] [0, 1, 2, 3, 4, 5] [(4, .u32 out6)] (ob61 p1 v12 p3 p4 p5 p6 v13 v14 o1 o2 o3 o4 o5) 6 6 (by kernel_rfl) (by kernel_rfl) (by kernel_rfl)
def rq_class_v3_L1 (o1 : List (List UInt8)) (r22 : List UInt8) (r24 r25 r26 : Int) : (Int) → Option ((Int) ⊕ ((Unit) ⊕ (Int × Int × Int × Int))) := fun (i4 : Int) =>
  (((if (decide (i4 < (o1.length : Int))) = true then some ((r25 == (0 : Int)))
  else some (false))).bind fun (v9 : Bool) => (if v9 = true then (if 0 ≤ i4 ∧ i4 < (o1.length : Int) then (if i4.toNat < o1.length then (if ((o1.getD i4.toNat ([] : List UInt8)) == r22) = true then some (Sum.inr (Sum.inr (i4, r24, r25, r26)))
  else some (Sum.inl (IntKind.i64.wrap (i4 + (1 : Int))))) else none) else none)
  else some (Sum.inr (Sum.inl ()))))
def rq_class_v3 (p1 : List UInt8) (p2 p3 p4 p5 p6 p7 p8 : Int) (o1 : List (List UInt8)) (o2 : List Int) (o3 : List (Int × Tree × Tree)) (o4 : List (List UInt8)) (o5 : List Int) : Option (Int × Int × Int × Int) :=
  ((rq_word_v8 p1 p2 p3 p4 p5 p6 p7 p8 o1 o2 o3 o4 o5).bind fun ((r22, r23, r24, r25, r26) : (List UInt8) × Int × Int × Int × Int) =>
  ((iter (rq_class_v3_L1 o1 r22 r24 r25 r26) (0 : Int)).bind fun (r31 : ((Unit) ⊕ (Int × Int × Int × Int))) => match r31 with
  | .inl _ => ((rq_bad_v6 (22 : Int) r23 p1 r24 p3 p4 p5 p6 r25 r26 o1 o2 o3 o4 o5).bind fun ((r34, r35) : Int × Int) =>
  some ((0 : Int), r24, r34, r35))
  | .inr ((r27, r28, r29, r30)) => some (r27, r28, r29, r30)))
theorem rq_class_v3_ok (p1 : List UInt8) (p2 p3 p4 p5 p6 p7 p8 : Int) (o1 : List (List UInt8)) (o2 : List Int) (o3 : List (Int × Tree × Tree)) (o4 : List (List UInt8)) (o5 : List Int) (res : Int × Int × Int × Int) (h : rq_class_v3 p1 p2 p3 p4 p5 p6 p7 p8 o1 o2 o3 o4 o5 = some res) :
    Owns Try.prog 44 [.adr 0 0 13 0] (ob61 p1 p2 p3 p4 p5 p6 p7 p8 o1 o2 o3 o4 o5) (.i64 res.1) (ob61 p1 res.2.1 p3 p4 p5 p6 res.2.2.1 res.2.2.2 o1 o2 o3 o4 o5) := by
  refine Owns.of_body tbok Try.func44 (by kernel_rfl) rfl (nl rfl) (fun Bw w0 => ?_)
  unfold rq_class_v3 at h
  refine W_rs tbok ⟨[], []⟩ [] [0, 1, 2, 3, 4, 5] [(0, .adr 0 0 13 0)] (ob61 p1 p2 p3 p4 p5 p6 p7 p8 o1 o2 o3 o4 o5) 6 6 [True] (by kernel_rfl) ⟨tt, tt⟩ ?_
  obtain ⟨⟨r22, r23, r24, r25, r26⟩, q6, h⟩ := h_bind h
  have u_1 := (rq_word_v8_ok p1 p2 p3 p4 p5 p6 p7 p8 o1 o2 o3 o4 o5 _ q6)
  refine W_rs tbok ⟨[], [(1, ⟨.tup [.st r22, .i64 r23], [false], true, [true], [0, 1, 2, 3, 4, 5], (ob61 p1 r24 p3 p4 p5 p6 r25 r26 o1 o2 o3 o4 o5), none⟩)]⟩ [] [0, 1, 2, 3, 4, 5] [(0, .adr 0 0 13 0), (3, .st r22), (4, .i64 r23)] (ob61 p1 r24 p3 p4 p5 p6 r25 r26 o1 o2 o3 o4 o5) 6 6 (True :: (pO u_1) :: (Ts 5 [])) (by kernel_rfl) ⟨tt, u_1, (tr 5 tt)⟩ ?_
  refine W_seq ?_
  refine W_rs tbok ⟨[], []⟩ [] [0, 1, 2, 3, 4, 5] [(0, .adr 0 0 13 0), (3, .st r22), (4, .i64 r23), (5, .i64 (0 : Int))] (ob61 p1 r24 p3 p4 p5 p6 r25 r26 o1 o2 o3 o4 o5) 6 6 [True] (by kernel_rfl) ⟨tt, tt⟩ ?_
  refine W_block ?_
  obtain ⟨r31, hp8, h⟩ := h_bind h
  refine W.mono (Q := (postS (postX Try.f44.ntmps 0 (fun (_ : Unit) => mkSt [(0, .adr 0 0 13 0), (4, .i64 r23)] (ob61 p1 r24 p3 p4 p5 p6 r25 r26 o1 o2 o3 o4 o5) 6 6)) (postRO tb Try.f44.ntmps Try.f44.results.toList (fun ((r27, r28, r29, r30) : Int × Int × Int × Int) => (.i64 r27, (ob61 p1 r28 p3 p4 p5 p6 r29 r30 o1 o2 o3 o4 o5))))) r31) (W_iter (f := fun (i4 : Int) => mkSt [(0, .adr 0 0 13 0), (3, .st r22), (4, .i64 r23), (5, .i64 i4)] (ob61 p1 r24 p3 p4 p5 p6 r25 r26 o1 o2 o3 o4 o5) 6 6) (Q := (postS (postX Try.f44.ntmps 0 (fun (_ : Unit) => mkSt [(0, .adr 0 0 13 0), (4, .i64 r23)] (ob61 p1 r24 p3 p4 p5 p6 r25 r26 o1 o2 o3 o4 o5) 6 6)) (postRO tb Try.f44.ntmps Try.f44.results.toList (fun ((r27, r28, r29, r30) : Int × Int × Int × Int) => (.i64 r27, (ob61 p1 r28 p3 p4 p5 p6 r29 r30 o1 o2 o3 o4 o5)))))) hp8 (gl [] [0, 1, 2, 3, 4, 5] (by kernel_rfl)) (fun i4 o ho => ?_)) (fun e σ' hq => ?_)
  · replace h := ho
    clear ho hp8
    unfold rq_class_v3_L1 at h
    refine W_seq ?_
    refine W_seq ?_
    obtain ⟨v9, hp7, h⟩ := h_bind h
    refine W.mono (Q := (postN Try.f44.ntmps (fun (v9 : Bool) => mkSt [(0, .adr 0 0 13 0), (3, .st r22), (4, .i64 r23), (5, .i64 i4), (25, .bo v9)] (ob61 p1 r24 p3 p4 p5 p6 r25 r26 o1 o2 o3 o4 o5) 6 6)) v9) ?_ (fun e σ' hq => ?_)
    · replace h := hp7
      clear hp7
      rcases bb (decide (i4 < (o1.length : Int))) with hb28 | hb28
      · replace h := h_if hb28 h
        refine W_r tbok ⟨[(8, true), (14, true)], []⟩ [] [0, 1, 2, 3, 4, 5] [(0, .adr 0 0 13 0), (3, .st r22), (4, .i64 r23), (5, .i64 i4), (25, .bo (r25 == (0 : Int)))] (ob61 p1 r24 p3 p4 p5 p6 r25 r26 o1 o2 o3 o4 o5) 6 6 (Ts 9 [(decide (i4 < (o1.length : Int))) = true ∧ True, (decide (i4 < (o1.length : Int))) = true ∧ True, (decide (i4 < (o1.length : Int))) = true ∧ True, (decide (i4 < (o1.length : Int))) = true ∧ True, (decide (i4 < (o1.length : Int))) = true ∧ True, (decide (i4 < (o1.length : Int))) = true]) (by kernel_rfl) (tr 9 ⟨⟨hb28, tt⟩, ⟨hb28, tt⟩, ⟨hb28, tt⟩, ⟨hb28, tt⟩, ⟨hb28, tt⟩, hb28, tt⟩) ?_
        obtain rfl := sI h
        exact postN_to (gl [] [0, 1, 2, 3, 4, 5] (by kernel_rfl))
      replace h := h_else hb28 h
      refine W_r tbok ⟨[(8, false), (14, false)], []⟩ [] [0, 1, 2, 3, 4, 5] [(0, .adr 0 0 13 0), (3, .st r22), (4, .i64 r23), (5, .i64 i4), (25, .bo false)] (ob61 p1 r24 p3 p4 p5 p6 r25 r26 o1 o2 o3 o4 o5) 6 6 (Ts 9 [(decide (i4 < (o1.length : Int))) = false, (decide (i4 < (o1.length : Int))) = false, (decide (i4 < (o1.length : Int))) = false, (decide (i4 < (o1.length : Int))) = false, (decide (i4 < (o1.length : Int))) = false, (decide (i4 < (o1.length : Int))) = false]) (by kernel_rfl) (tr 9 ⟨hb28, hb28, hb28, hb28, hb28, hb28, tt⟩) ?_
      obtain rfl := sI h
      exact postN_to (gl [] [0, 1, 2, 3, 4, 5] (by kernel_rfl))
    clear hp7
    obtain ⟨rfl, hle⟩ := hq
    refine use_to ?_ hle
    refine to_then ?_
    refine W_cond (b := v9) (β := false) (by kernel_rfl) (fun hb29 => ?_) (fun hb29 => ?_)
    · replace h := h_if hb29 h
      refine W_skip_to ?_
      refine to_then ?_
      refine W_seq ?_
      refine W_block ?_
      refine W_seq ?_
      obtain ⟨c23, h⟩ := h_guard h
      obtain ⟨c24, h⟩ := h_guard h
      refine W_r tbok ⟨[], []⟩ [] [0, 1, 2, 3, 4, 5] [(0, .adr 0 0 13 0), (3, .st r22), (4, .i64 r23), (5, .i64 i4), (37, .bo ((o1.getD i4.toNat ([] : List UInt8)) == r22))] (ob61 p1 r24 p3 p4 p5 p6 r25 r26 o1 o2 o3 o4 o5) 6 6 (Ts 6 [0 ≤ i4 ∧ i4 < (o1.length : Int), i4.toNat < o1.length, True, True]) (by kernel_rfl) (tr 6 ⟨c23, c24, tt, tt, tt⟩) ?_
      refine to_then ?_
      refine W_cond (b := ((o1.getD i4.toNat ([] : List UInt8)) == r22)) (β := false) (by kernel_rfl) (fun hb30 => ?_) (fun hb30 => ?_)
      · replace h := h_if hb30 h
        refine W_rs tbok ⟨[], []⟩ [] [0, 1, 2, 3, 4, 5] [(2, .i64 i4)] (ob61 p1 r24 p3 p4 p5 p6 r25 r26 o1 o2 o3 o4 o5) 6 6 [True, True] (by kernel_rfl) ⟨tt, tt, tt⟩ ?_
        refine W_ret ?_
        obtain rfl := sI h
        refine blockQ_ret ?_
        refine thenQ_ret ?_
        refine round_ret ?_
        refine postS_rr ?_
        exact postRO_mk (RetO_intro [some (.int .i64)] [] [0, 1, 2, 3, 4, 5] [(2, .i64 i4)] (ob61 p1 r24 p3 p4 p5 p6 r25 r26 o1 o2 o3 o4 o5) 6 6 (by kernel_rfl) (by kernel_rfl) (by kernel_rfl))
      replace h := h_else hb30 h
      refine W_skip_to ?_
      refine to_block ?_
      refine to_then ?_
      refine W_r tbok ⟨[], []⟩ [] [0, 1, 2, 3, 4, 5] [(0, .adr 0 0 13 0), (3, .st r22), (4, .i64 r23), (5, .i64 (IntKind.i64.wrap (i4 + (1 : Int))))] (ob61 p1 r24 p3 p4 p5 p6 r25 r26 o1 o2 o3 o4 o5) 6 6 (Ts 3 []) (by kernel_rfl) (tr 3 tt) ?_
      obtain rfl := sI h
      exact roundB (gl [] [0, 1, 2, 3, 4, 5] (by kernel_rfl))
    replace h := h_else hb29 h
    refine W_exit_to ?_
    refine thenE ?_
    obtain rfl := sI h
    refine roundE ?_
    refine postS_l ?_
    exact postX_to (gl [] [0, 1, 2, 3, 4, 5] (by kernel_rfl))
  clear hp8
  rcases r31 with _ | ⟨r27, r28, r29, r30⟩
  · obtain ⟨rfl, hle⟩ := hq
    refine use_to ?_ hle
    refine blockE_eq ?_
    refine to_then ?_
    obtain ⟨⟨r34, r35⟩, q8, h⟩ := h_bind h
    have u_1 := (rq_bad_v6_ok (22 : Int) r23 p1 r24 p3 p4 p5 p6 r25 r26 o1 o2 o3 o4 o5 _ q8)
    refine W_rs tbok ⟨[], [(2, ⟨.tup [], [false, false, false], true, [true, true, true], [0, 1, 2, 3, 4, 5], (ob61 p1 r24 p3 p4 p5 p6 r34 r35 o1 o2 o3 o4 o5), none⟩)]⟩ [] [0, 1, 2, 3, 4, 5] [] (ob61 p1 r24 p3 p4 p5 p6 r34 r35 o1 o2 o3 o4 o5) 6 6 [True, True, pO u_1] (by kernel_rfl) ⟨tt, tt, u_1, tt⟩ ?_
    refine W_rs tbok ⟨[], []⟩ [] [0, 1, 2, 3, 4, 5] [(2, .i64 (0 : Int))] (ob61 p1 r24 p3 p4 p5 p6 r34 r35 o1 o2 o3 o4 o5) 6 6 [True] (by kernel_rfl) ⟨tt, tt⟩ ?_
    refine W_ret ?_
    obtain rfl := sI h
    exact RetO_intro [some (.int .i64)] [] [0, 1, 2, 3, 4, 5] [(2, .i64 (0 : Int))] (ob61 p1 r24 p3 p4 p5 p6 r34 r35 o1 o2 o3 o4 o5) 6 6 (by kernel_rfl) (by kernel_rfl) (by kernel_rfl)
  obtain ⟨rfl, hr⟩ := hq
  refine blockQ_ret ?_
  refine thenQ_ret ?_
  obtain rfl := sI h
  exact hr
def rq_whole_v1 (p1 : List UInt8) (p2 : Int) (p3 : List (List UInt8)) (p4 p5 : Int) (p6 : List Int) (p7 : List (Int × Tree × Tree)) (p8 : List (List UInt8)) (p9 : List Int) (p10 p11 p12 p13 : Int) : Option (Int) :=
  (if 0 ≤ (p3.length : Int) then some (IntKind.u32.wrap ((IntKind.u32.wrap ((1 : Int) * 2 ^ (min (p3.length : Int).toNat IntKind.u32.bits))) - (1 : Int))) else none)
theorem rq_whole_v1_ok (β2 β5 β6 β7 β8 : Bool) (p1 : List UInt8) (p2 : Int) (p3 : List (List UInt8)) (p4 p5 : Int) (p6 : List Int) (p7 : List (Int × Tree × Tree)) (p8 : List (List UInt8)) (p9 : List Int) (p10 p11 p12 p13 res : Int) (h : rq_whole_v1 p1 p2 p3 p4 p5 p6 p7 p8 p9 p10 p11 p12 p13 = some res) :
    Pure Try.prog 68 [.fad true [.st p1, .i64 p2, .p β2 (.slice .str) p3, .u32 p4, .u32 p5, .p β5 (.slice (.int .i64)) p6, .p β6 (.slice (.prod (.int .u8) Y1)) p7, .p β7 (.slice .str) p8, .p β8 (.slice (.int .u32)) p9, .i64 p10, .i64 p11, .i64 p12, .i64 p13] 0] (wrapR (encs false [⟨(.int .u32), res⟩])) := by
  refine Pure.of_body tbok Try.func68 (by kernel_rfl) rfl (nl rfl) (fun Bw w0 => ?_) rfl
  unfold rq_whole_v1 at h
  refine W_rs tbok ⟨[], []⟩ [] [] [(0, .fad true [.st p1, .i64 p2, .p β2 (.slice .str) p3, .u32 p4, .u32 p5, .p β5 (.slice (.int .i64)) p6, .p β6 (.slice (.prod (.int .u8) Y1)) p7, .p β7 (.slice .str) p8, .p β8 (.slice (.int .u32)) p9, .i64 p10, .i64 p11, .i64 p12, .i64 p13] 0)] [] 0 0 [True] (by kernel_rfl) ⟨tt, tt⟩ ?_
  refine W_seq ?_
  obtain ⟨c2, h⟩ := h_guard h
  refine W_r tbok ⟨[], []⟩ [] [] [(2, .u32 (IntKind.u32.wrap ((IntKind.u32.wrap ((1 : Int) * 2 ^ (min (p3.length : Int).toNat IntKind.u32.bits))) - (1 : Int))))] [] 0 0 (Ts 6 [0 ≤ (p3.length : Int), True, True]) (by kernel_rfl) (tr 6 ⟨c2, tt, tt, tt⟩) ?_
  refine to_then ?_
  refine W_ret ?_
  obtain rfl := sI h
  exact Ret_intro [(.int .u32)] (by kernel_rfl)
def rq_thing_v5 (rec_rq_either_v3 : (List UInt8) → Int → Int → Int → Int → Int → Int → Int → (List (List UInt8)) → (List Int) → (List (Int × Tree × Tree)) → (List (List UInt8)) → (List Int) → Option (Tree × Int × Int × Int × Int × Int)) (d1 : List UInt8) (d2 d3 d4 d5 d6 d7 d8 : Int) (o1 : List (List UInt8)) (o2 : List Int) (o3 : List (Int × Tree × Tree)) (o4 : List (List UInt8)) (o5 : List Int) : Option (Tree × Int × Int × Int × Int × Int) :=
  ((rq_sign_v6 (40 : Int) d1 d2 d3 d4 d5 d6 d7 d8 o1 o2 o3 o4 o5).bind fun ((r86, r87, r88, r89) : Bool × Int × Int × Int) =>
  (if r86 = true then (if (decide ((IntKind.i64.wrap (d6 + (1 : Int))) > (16 : Int))) = true then ((rq_bad_v6 (25 : Int) d2 d1 r87 d3 d4 d5 (IntKind.i64.wrap (d6 + (1 : Int))) r88 r89 o1 o2 o3 o4 o5).bind fun ((r92, r93) : Int × Int) =>
  some ((Tree.node (0 : Int) (0 : Int) ([] : List Tree)), r87, d5, (IntKind.i64.wrap (d6 + (1 : Int))), r92, r93))
  else ((rec_rq_either_v3 d1 r87 d3 d4 d5 (IntKind.i64.wrap (d6 + (1 : Int))) r88 r89 o1 o2 o3 o4 o5).bind fun ((r100, r101, r102, r103, r104, r105) : Tree × Int × Int × Int × Int × Int) =>
  ((rq_want_v3 (41 : Int) d1 r101 d3 d4 r102 r103 r104 r105 o1 o2 o3 o4 o5).bind fun ((r109, r110, r111) : Int × Int × Int) =>
  some ((Tree.node r100.op r100.set r100.kids), r109, r102, (IntKind.i64.wrap (r103 - (1 : Int))), r110, r111))))
  else (if (decide ((IntKind.i64.wrap (d5 + (1 : Int))) > (200 : Int))) = true then ((rq_bad_v6 (26 : Int) d2 d1 r87 d3 d4 (IntKind.i64.wrap (d5 + (1 : Int))) d6 r88 r89 o1 o2 o3 o4 o5).bind fun ((r114, r115) : Int × Int) =>
  some ((Tree.node (0 : Int) (0 : Int) ([] : List Tree)), r87, (IntKind.i64.wrap (d5 + (1 : Int))), d6, r114, r115))
  else ((rq_sign_v6 (46 : Int) d1 r87 d3 d4 (IntKind.i64.wrap (d5 + (1 : Int))) d6 r88 r89 o1 o2 o3 o4 o5).bind fun ((r120, r121, r122, r123) : Bool × Int × Int × Int) =>
  (if r120 = true then ((rq_whole_v1 d1 r121 o1 d3 d4 o2 o3 o4 o5 (IntKind.i64.wrap (d5 + (1 : Int))) d6 r122 r123).bind fun (r125 : Int) =>
  some ((Tree.node (1 : Int) r125 ([] : List Tree)), r121, (IntKind.i64.wrap (d5 + (1 : Int))), d6, r122, r123))
  else ((rq_sign_v6 (91 : Int) d1 r121 d3 d4 (IntKind.i64.wrap (d5 + (1 : Int))) d6 r122 r123 o1 o2 o3 o4 o5).bind fun ((r130, r131, r132, r133) : Bool × Int × Int × Int) =>
  (if r130 = true then ((rq_sign_v6 (94 : Int) d1 r131 d3 d4 (IntKind.i64.wrap (d5 + (1 : Int))) d6 r132 r133 o1 o2 o3 o4 o5).bind fun ((r138, r139, r140, r141) : Bool × Int × Int × Int) =>
  ((rq_list_v3 (93 : Int) d1 r139 d3 d4 (IntKind.i64.wrap (d5 + (1 : Int))) d6 r140 r141 o1 o2 o3 o4 o5).bind fun ((r146, r147, r148, r149) : Int × Int × Int × Int) =>
  (((if r138 = true then ((rq_whole_v1 d1 r147 o1 d3 d4 o2 o3 o4 o5 (IntKind.i64.wrap (d5 + (1 : Int))) d6 r148 r149).bind fun (r153 : Int) =>
  some ((bitsOf .andNot .u32 r153 r146)))
  else some (r146))).bind fun (v7 : Int) => some ((Tree.node (1 : Int) v7 ([] : List Tree)), r147, (IntKind.i64.wrap (d5 + (1 : Int))), d6, r148, r149))))
  else ((rq_named_v3 d1 r131 d3 d4 (IntKind.i64.wrap (d5 + (1 : Int))) d6 r132 r133 o1 o2 o3 o4 o5).bind fun ((r158, r159, r160, r161) : Int × Int × Int × Int) =>
  some ((Tree.node (1 : Int) r158 ([] : List Tree)), r159, (IntKind.i64.wrap (d5 + (1 : Int))), d6, r160, r161)))))))))
theorem rq_thing_v5_ok (rec_rq_either_v3 : (List UInt8) → Int → Int → Int → Int → Int → Int → Int → (List (List UInt8)) → (List Int) → (List (Int × Tree × Tree)) → (List (List UInt8)) → (List Int) → Option (Tree × Int × Int × Int × Int × Int)) (hrec_rq_either_v3 : ∀ (p1 : List UInt8) (p2 p3 p4 p5 p6 p7 p8 : Int) (o1 : List (List UInt8)) (o2 : List Int) (o3 : List (Int × Tree × Tree)) (o4 : List (List UInt8)) (o5 : List Int) (res : Tree × Int × Int × Int × Int × Int), rec_rq_either_v3 p1 p2 p3 p4 p5 p6 p7 p8 o1 o2 o3 o4 o5 = some res → Owns Try.prog 58 [.adr 0 0 13 0] (ob61 p1 p2 p3 p4 p5 p6 p7 p8 o1 o2 o3 o4 o5) (.agg [.u8 res.1.op, .u32 res.1.set, .p false (.slice (.tree .u8 .u32)) res.1.kids]) (ob61 p1 res.2.1 p3 p4 res.2.2.1 res.2.2.2.1 res.2.2.2.2.1 res.2.2.2.2.2 o1 o2 o3 o4 o5)) (d1 : List UInt8) (d2 d3 d4 d5 d6 d7 d8 : Int) (o1 : List (List UInt8)) (o2 : List Int) (o3 : List (Int × Tree × Tree)) (o4 : List (List UInt8)) (o5 : List Int) (res : Tree × Int × Int × Int × Int × Int) (h : rq_thing_v5 rec_rq_either_v3 d1 d2 d3 d4 d5 d6 d7 d8 o1 o2 o3 o4 o5 = some res) :
    Owns Try.prog 66 [.adr 0 0 13 0] (ob61 d1 d2 d3 d4 d5 d6 d7 d8 o1 o2 o3 o4 o5) (.agg [.u8 res.1.op, .u32 res.1.set, .p false (.slice (.tree .u8 .u32)) res.1.kids]) (ob61 d1 res.2.1 d3 d4 res.2.2.1 res.2.2.2.1 res.2.2.2.2.1 res.2.2.2.2.2 o1 o2 o3 o4 o5) := by
  refine Owns.of_body tbok Try.func66 (by kernel_rfl) rfl (nl rfl) (fun Bw w0 => ?_)
  unfold rq_thing_v5 at h
  refine W_rs tbok ⟨[], []⟩ [] [0, 1, 2, 3, 4, 5, 6] [(0, .adr 0 0 13 0), (2, .adr 6 0 3 0)] (ob67 d1 d2 d3 d4 d5 d6 d7 d8 o1 o2 o3 o4 o5 (0 : Int) (0 : Int)) 7 6 [True] (by kernel_rfl) ⟨tt, tt⟩ ?_
  refine W_rs tbok ⟨[], []⟩ [] [0, 1, 2, 3, 4, 5, 6] [(0, .adr 0 0 13 0), (2, .adr 6 0 3 0), (3, .i64 d2)] (ob67 d1 d2 d3 d4 d5 d6 d7 d8 o1 o2 o3 o4 o5 (0 : Int) (0 : Int)) 7 6 (Ts 5 []) (by kernel_rfl) (tr 5 tt) ?_
  refine W_seq ?_
  obtain ⟨⟨r86, r87, r88, r89⟩, q28, h⟩ := h_bind h
  have u_1 := (rq_sign_v6_ok (40 : Int) d1 d2 d3 d4 d5 d6 d7 d8 o1 o2 o3 o4 o5 _ q28)
  refine W_rs tbok ⟨[], [(1, ⟨.bo r86, [false, false], true, [true, true], [0, 1, 2, 3, 4, 5], (ob61 d1 r87 d3 d4 d5 d6 r88 r89 o1 o2 o3 o4 o5), none⟩)]⟩ [] [0, 1, 2, 3, 4, 5, 6] [(0, .adr 0 0 13 0), (2, .adr 6 0 3 0), (3, .i64 d2), (13, .bo r86)] (ob67 d1 r87 d3 d4 d5 d6 r88 r89 o1 o2 o3 o4 o5 (0 : Int) (0 : Int)) 7 6 [True, pO u_1] (by kernel_rfl) ⟨tt, u_1, tt⟩ ?_
  refine W_cond (b := r86) (β := false) (by kernel_rfl) (fun hb8 => ?_) (fun hb8 => ?_)
  · replace h := h_if hb8 h
    refine W_rs tbok ⟨[], []⟩ [] [0, 1, 2, 3, 4, 5, 6] [(0, .adr 0 0 13 0), (2, .adr 6 0 3 0), (3, .i64 d2)] (ob67 d1 r87 d3 d4 d5 (IntKind.i64.wrap (d6 + (1 : Int))) r88 r89 o1 o2 o3 o4 o5 (0 : Int) (0 : Int)) 7 6 (Ts 9 []) (by kernel_rfl) (tr 9 tt) ?_
    refine W_seq ?_
    refine W_rs tbok ⟨[], []⟩ [] [0, 1, 2, 3, 4, 5, 6] [(0, .adr 0 0 13 0), (2, .adr 6 0 3 0), (3, .i64 d2), (26, .bo (decide ((IntKind.i64.wrap (d6 + (1 : Int))) > (16 : Int))))] (ob67 d1 r87 d3 d4 d5 (IntKind.i64.wrap (d6 + (1 : Int))) r88 r89 o1 o2 o3 o4 o5 (0 : Int) (0 : Int)) 7 6 (Ts 5 []) (by kernel_rfl) (tr 5 tt) ?_
    refine W_cond (b := (decide ((IntKind.i64.wrap (d6 + (1 : Int))) > (16 : Int)))) (β := false) (by kernel_rfl) (fun hb9 => ?_) (fun hb9 => ?_)
    · replace h := h_if hb9 h
      obtain ⟨⟨r92, r93⟩, q30, h⟩ := h_bind h
      have u_1 := (rq_bad_v6_ok (25 : Int) d2 d1 r87 d3 d4 d5 (IntKind.i64.wrap (d6 + (1 : Int))) r88 r89 o1 o2 o3 o4 o5 _ q30)
      refine W_rs tbok ⟨[], [(2, ⟨.tup [], [false, false, false], true, [true, true, true], [0, 1, 2, 3, 4, 5], (ob61 d1 r87 d3 d4 d5 (IntKind.i64.wrap (d6 + (1 : Int))) r92 r93 o1 o2 o3 o4 o5), none⟩)]⟩ [] [0, 1, 2, 3, 4, 5, 6] [(2, .adr 6 0 3 0)] (ob67 d1 r87 d3 d4 d5 (IntKind.i64.wrap (d6 + (1 : Int))) r92 r93 o1 o2 o3 o4 o5 (0 : Int) (0 : Int)) 7 6 [True, True, pO u_1] (by kernel_rfl) ⟨tt, tt, u_1, tt⟩ ?_
      refine W_rs tbok ⟨[], []⟩ [] [0, 1, 2, 3, 4, 5, 6] [(2, .adr 6 0 3 0)] (ob67 d1 r87 d3 d4 d5 (IntKind.i64.wrap (d6 + (1 : Int))) r92 r93 o1 o2 o3 o4 o5 (0 : Int) (0 : Int)) 7 6 [True, True] (by kernel_rfl) ⟨tt, tt, tt⟩ ?_
      refine W_ret ?_
      refine thenQ_ret ?_
      refine thenQ_ret ?_
      obtain rfl := sI h
      exact RetO_intro [some (.tree .u8 .u32)] [] [0, 1, 2, 3, 4, 5, 6] [(2, .adr 6 0 3 0)] (ob67 d1 r87 d3 d4 d5 (IntKind.i64.wrap (d6 + (1 : Int))) r92 r93 o1 o2 o3 o4 o5 (0 : Int) (0 : Int)) 7 6 (by kernel_rfl) (by kernel_rfl) (by kernel_rfl)
    replace h := h_else hb9 h
    refine W_skip_to ?_
    refine to_then ?_
    obtain ⟨⟨r100, r101, r102, r103, r104, r105⟩, q32, h⟩ := h_bind h
    have u_1 := (hrec_rq_either_v3 d1 r87 d3 d4 d5 (IntKind.i64.wrap (d6 + (1 : Int))) r88 r89 o1 o2 o3 o4 o5 _ q32)
    refine W_rs tbok ⟨[], [(1, ⟨.agg [.u8 r100.op, .u32 r100.set, .p false (.slice (.tree .u8 .u32)) r100.kids], [false], true, [true], [0, 1, 2, 3, 4, 5], (ob61 d1 r101 d3 d4 r102 r103 r104 r105 o1 o2 o3 o4 o5), none⟩)]⟩ [] [0, 1, 2, 3, 4, 5, 6, 23] [(0, .adr 0 0 13 0), (2, .adr 6 0 3 0), (4, .adr 7 0 3 0)] (ob68 d1 r101 d3 d4 r102 r103 r104 r105 o1 o2 o3 o4 o5 (0 : Int) (0 : Int) r100.op r100.set r100.kids) 8 6 [True, pO u_1, True, True] (by kernel_rfl) ⟨tt, u_1, tt, tt, tt⟩ ?_
    obtain ⟨⟨r109, r110, r111⟩, q34, h⟩ := h_bind h
    have u_1 := (rq_want_v3_ok (41 : Int) d1 r101 d3 d4 r102 r103 r104 r105 o1 o2 o3 o4 o5 _ q34)
    refine W_rs tbok ⟨[], [(1, ⟨.tup [], [false, false], true, [true, true], [0, 1, 2, 3, 4, 5], (ob61 d1 r109 d3 d4 r102 r103 r110 r111 o1 o2 o3 o4 o5), none⟩)]⟩ [] [0, 1, 2, 3, 4, 5, 6, 7] [(0, .adr 0 0 13 0), (2, .adr 6 0 3 0), (4, .adr 7 0 3 0)] (ob68 d1 r109 d3 d4 r102 r103 r110 r111 o1 o2 o3 o4 o5 (0 : Int) (0 : Int) r100.op r100.set r100.kids) 8 6 [True, pO u_1] (by kernel_rfl) ⟨tt, u_1, tt⟩ ?_
    refine W_rs tbok ⟨[], []⟩ [] [0, 1, 2, 3, 4, 5, 6, 7] [(2, .adr 6 0 3 0), (4, .adr 7 0 3 0)] (ob68 d1 r109 d3 d4 r102 (IntKind.i64.wrap (r103 - (1 : Int))) r110 r111 o1 o2 o3 o4 o5 (0 : Int) (0 : Int) r100.op r100.set r100.kids) 8 6 (Ts 9 []) (by kernel_rfl) (tr 9 tt) ?_
    refine W_rs tbok ⟨[], []⟩ [] [0, 1, 2, 3, 4, 5, 6] [(2, .adr 6 0 3 0)] (ob73 d1 r109 d3 d4 r102 (IntKind.i64.wrap (r103 - (1 : Int))) r110 r111 o1 o2 o3 o4 o5 r100.op r100.set r100.kids) 7 6 [True, True] (by kernel_rfl) ⟨tt, tt, tt⟩ ?_
    refine W_ret ?_
    refine thenQ_ret ?_
    obtain rfl := sI h
    exact RetO_intro [some (.tree .u8 .u32)] [] [0, 1, 2, 3, 4, 5, 6] [(2, .adr 6 0 3 0)] (ob73 d1 r109 d3 d4 r102 (IntKind.i64.wrap (r103 - (1 : Int))) r110 r111 o1 o2 o3 o4 o5 r100.op r100.set r100.kids) 7 6 (by kernel_rfl) (by kernel_rfl) (by kernel_rfl)
  replace h := h_else hb8 h
  refine W_skip_to ?_
  refine to_then ?_
  refine W_rs tbok ⟨[], []⟩ [] [0, 1, 2, 3, 4, 5, 6] [(0, .adr 0 0 13 0), (2, .adr 6 0 3 0), (3, .i64 d2)] (ob67 d1 r87 d3 d4 (IntKind.i64.wrap (d5 + (1 : Int))) d6 r88 r89 o1 o2 o3 o4 o5 (0 : Int) (0 : Int)) 7 6 (Ts 9 []) (by kernel_rfl) (tr 9 tt) ?_
  refine W_seq ?_
  refine W_rs tbok ⟨[], []⟩ [] [0, 1, 2, 3, 4, 5, 6] [(0, .adr 0 0 13 0), (2, .adr 6 0 3 0), (3, .i64 d2), (56, .bo (decide ((IntKind.i64.wrap (d5 + (1 : Int))) > (200 : Int))))] (ob67 d1 r87 d3 d4 (IntKind.i64.wrap (d5 + (1 : Int))) d6 r88 r89 o1 o2 o3 o4 o5 (0 : Int) (0 : Int)) 7 6 (Ts 5 []) (by kernel_rfl) (tr 5 tt) ?_
  refine W_cond (b := (decide ((IntKind.i64.wrap (d5 + (1 : Int))) > (200 : Int)))) (β := false) (by kernel_rfl) (fun hb10 => ?_) (fun hb10 => ?_)
  · replace h := h_if hb10 h
    obtain ⟨⟨r114, r115⟩, q36, h⟩ := h_bind h
    have u_1 := (rq_bad_v6_ok (26 : Int) d2 d1 r87 d3 d4 (IntKind.i64.wrap (d5 + (1 : Int))) d6 r88 r89 o1 o2 o3 o4 o5 _ q36)
    refine W_rs tbok ⟨[], [(2, ⟨.tup [], [false, false, false], true, [true, true, true], [0, 1, 2, 3, 4, 5], (ob61 d1 r87 d3 d4 (IntKind.i64.wrap (d5 + (1 : Int))) d6 r114 r115 o1 o2 o3 o4 o5), none⟩)]⟩ [] [0, 1, 2, 3, 4, 5, 6] [(2, .adr 6 0 3 0)] (ob67 d1 r87 d3 d4 (IntKind.i64.wrap (d5 + (1 : Int))) d6 r114 r115 o1 o2 o3 o4 o5 (0 : Int) (0 : Int)) 7 6 [True, True, pO u_1] (by kernel_rfl) ⟨tt, tt, u_1, tt⟩ ?_
    refine W_rs tbok ⟨[], []⟩ [] [0, 1, 2, 3, 4, 5, 6] [(2, .adr 6 0 3 0)] (ob67 d1 r87 d3 d4 (IntKind.i64.wrap (d5 + (1 : Int))) d6 r114 r115 o1 o2 o3 o4 o5 (0 : Int) (0 : Int)) 7 6 [True, True] (by kernel_rfl) ⟨tt, tt, tt⟩ ?_
    refine W_ret ?_
    refine thenQ_ret ?_
    obtain rfl := sI h
    exact RetO_intro [some (.tree .u8 .u32)] [] [0, 1, 2, 3, 4, 5, 6] [(2, .adr 6 0 3 0)] (ob67 d1 r87 d3 d4 (IntKind.i64.wrap (d5 + (1 : Int))) d6 r114 r115 o1 o2 o3 o4 o5 (0 : Int) (0 : Int)) 7 6 (by kernel_rfl) (by kernel_rfl) (by kernel_rfl)
  replace h := h_else hb10 h
  refine W_skip_to ?_
  refine to_then ?_
  refine W_seq ?_
  obtain ⟨⟨r120, r121, r122, r123⟩, q38, h⟩ := h_bind h
  have u_1 := (rq_sign_v6_ok (46 : Int) d1 r87 d3 d4 (IntKind.i64.wrap (d5 + (1 : Int))) d6 r88 r89 o1 o2 o3 o4 o5 _ q38)
  refine W_rs tbok ⟨[], [(1, ⟨.bo r120, [false, false], true, [true, true], [0, 1, 2, 3, 4, 5], (ob61 d1 r121 d3 d4 (IntKind.i64.wrap (d5 + (1 : Int))) d6 r122 r123 o1 o2 o3 o4 o5), none⟩)]⟩ [] [0, 1, 2, 3, 4, 5, 6] [(0, .adr 0 0 13 0), (2, .adr 6 0 3 0), (62, .bo r120)] (ob67 d1 r121 d3 d4 (IntKind.i64.wrap (d5 + (1 : Int))) d6 r122 r123 o1 o2 o3 o4 o5 (0 : Int) (0 : Int)) 7 6 [True, pO u_1] (by kernel_rfl) ⟨tt, u_1, tt⟩ ?_
  refine W_cond (b := r120) (β := false) (by kernel_rfl) (fun hb11 => ?_) (fun hb11 => ?_)
  · replace h := h_if hb11 h
    obtain ⟨r125, q40, h⟩ := h_bind h
    have u_1 := (rq_whole_v1_ok true true true true true d1 r121 o1 d3 d4 o2 o3 o4 o5 (IntKind.i64.wrap (d5 + (1 : Int))) d6 r122 r123 _ q40)
    refine W_rs tbok ⟨[], [(1, ⟨.u32 r125, [false], false, [true], [], [], none⟩)]⟩ [] [0, 1, 2, 3, 4, 5, 6] [(2, .adr 6 0 3 0)] (ob67 d1 r121 d3 d4 (IntKind.i64.wrap (d5 + (1 : Int))) d6 r122 r123 o1 o2 o3 o4 o5 (1 : Int) r125) 7 6 [True, pO u_1, True, True] (by kernel_rfl) ⟨tt, u_1, tt, tt, tt⟩ ?_
    refine W_ret ?_
    refine thenQ_ret ?_
    obtain rfl := sI h
    exact RetO_intro [some (.tree .u8 .u32)] [] [0, 1, 2, 3, 4, 5, 6] [(2, .adr 6 0 3 0)] (ob67 d1 r121 d3 d4 (IntKind.i64.wrap (d5 + (1 : Int))) d6 r122 r123 o1 o2 o3 o4 o5 (1 : Int) r125) 7 6 (by kernel_rfl) (by kernel_rfl) (by kernel_rfl)
  replace h := h_else hb11 h
  refine W_skip_to ?_
  refine to_then ?_
  refine W_seq ?_
  obtain ⟨⟨r130, r131, r132, r133⟩, q42, h⟩ := h_bind h
  have u_1 := (rq_sign_v6_ok (91 : Int) d1 r121 d3 d4 (IntKind.i64.wrap (d5 + (1 : Int))) d6 r122 r123 o1 o2 o3 o4 o5 _ q42)
  refine W_rs tbok ⟨[], [(1, ⟨.bo r130, [false, false], true, [true, true], [0, 1, 2, 3, 4, 5], (ob61 d1 r131 d3 d4 (IntKind.i64.wrap (d5 + (1 : Int))) d6 r132 r133 o1 o2 o3 o4 o5), none⟩)]⟩ [] [0, 1, 2, 3, 4, 5, 6] [(0, .adr 0 0 13 0), (2, .adr 6 0 3 0), (67, .bo r130)] (ob67 d1 r131 d3 d4 (IntKind.i64.wrap (d5 + (1 : Int))) d6 r132 r133 o1 o2 o3 o4 o5 (0 : Int) (0 : Int)) 7 6 [True, pO u_1] (by kernel_rfl) ⟨tt, u_1, tt⟩ ?_
  refine W_cond (b := r130) (β := false) (by kernel_rfl) (fun hb12 => ?_) (fun hb12 => ?_)
  · replace h := h_if hb12 h
    obtain ⟨⟨r138, r139, r140, r141⟩, q44, h⟩ := h_bind h
    have u_1 := (rq_sign_v6_ok (94 : Int) d1 r131 d3 d4 (IntKind.i64.wrap (d5 + (1 : Int))) d6 r132 r133 o1 o2 o3 o4 o5 _ q44)
    refine W_rs tbok ⟨[], [(1, ⟨.bo r138, [false, false], true, [true, true], [0, 1, 2, 3, 4, 5], (ob61 d1 r139 d3 d4 (IntKind.i64.wrap (d5 + (1 : Int))) d6 r140 r141 o1 o2 o3 o4 o5), none⟩)]⟩ [] [0, 1, 2, 3, 4, 5, 6] [(0, .adr 0 0 13 0), (2, .adr 6 0 3 0), (5, .bo r138)] (ob67 d1 r139 d3 d4 (IntKind.i64.wrap (d5 + (1 : Int))) d6 r140 r141 o1 o2 o3 o4 o5 (0 : Int) (0 : Int)) 7 6 [True, pO u_1, True] (by kernel_rfl) ⟨tt, u_1, tt, tt⟩ ?_
    obtain ⟨⟨r146, r147, r148, r149⟩, q46, h⟩ := h_bind h
    have u_1 := (rq_list_v3_ok (93 : Int) d1 r139 d3 d4 (IntKind.i64.wrap (d5 + (1 : Int))) d6 r140 r141 o1 o2 o3 o4 o5 _ q46)
    refine W_rs tbok ⟨[], [(1, ⟨.u32 r146, [false, false], true, [true, true], [0, 1, 2, 3, 4, 5], (ob61 d1 r147 d3 d4 (IntKind.i64.wrap (d5 + (1 : Int))) d6 r148 r149 o1 o2 o3 o4 o5), none⟩)]⟩ [] [0, 1, 2, 3, 4, 5, 6] [(0, .adr 0 0 13 0), (2, .adr 6 0 3 0), (5, .bo r138), (6, .u32 r146)] (ob67 d1 r147 d3 d4 (IntKind.i64.wrap (d5 + (1 : Int))) d6 r148 r149 o1 o2 o3 o4 o5 (0 : Int) (0 : Int)) 7 6 [True, pO u_1, True] (by kernel_rfl) ⟨tt, u_1, tt, tt⟩ ?_
    refine W_seq ?_
    refine W_rs tbok ⟨[], []⟩ [] [0, 1, 2, 3, 4, 5, 6] [(0, .adr 0 0 13 0), (2, .adr 6 0 3 0), (6, .u32 r146), (72, .bo r138)] (ob67 d1 r147 d3 d4 (IntKind.i64.wrap (d5 + (1 : Int))) d6 r148 r149 o1 o2 o3 o4 o5 (0 : Int) (0 : Int)) 7 6 [True] (by kernel_rfl) ⟨tt, tt⟩ ?_
    obtain ⟨v7, hp2, h⟩ := h_bind h
    refine W.mono (Q := (postN Try.f66.ntmps (fun (v7 : Int) => mkSt [(2, .adr 6 0 3 0), (6, .u32 v7)] (ob67 d1 r147 d3 d4 (IntKind.i64.wrap (d5 + (1 : Int))) d6 r148 r149 o1 o2 o3 o4 o5 (0 : Int) (0 : Int)) 7 6)) v7) ?_ (fun e σ' hq => ?_)
    · replace h := hp2
      clear hp2
      refine W_cond (b := r138) (β := false) (by kernel_rfl) (fun hb14 => ?_) (fun hb14 => ?_)
      · replace h := h_if hb14 h
        obtain ⟨r153, q50, h⟩ := h_bind h
        have u_1 := (rq_whole_v1_ok true true true true true d1 r147 o1 d3 d4 o2 o3 o4 o5 (IntKind.i64.wrap (d5 + (1 : Int))) d6 r148 r149 _ q50)
        refine W_r tbok ⟨[], [(1, ⟨.u32 r153, [false], false, [true], [], [], none⟩)]⟩ [] [0, 1, 2, 3, 4, 5, 6] [(2, .adr 6 0 3 0), (6, .u32 (bitsOf .andNot .u32 r153 r146))] (ob67 d1 r147 d3 d4 (IntKind.i64.wrap (d5 + (1 : Int))) d6 r148 r149 o1 o2 o3 o4 o5 (0 : Int) (0 : Int)) 7 6 (True :: (pO u_1) :: (Ts 3 [])) (by kernel_rfl) ⟨tt, u_1, (tr 3 tt)⟩ ?_
        obtain rfl := sI h
        exact postN_to (gl [] [0, 1, 2, 3, 4, 5, 6] (by kernel_rfl))
      replace h := h_else hb14 h
      refine W_skip_to ?_
      obtain rfl := sI h
      exact postN_to (gl [] [0, 1, 2, 3, 4, 5, 6] (by kernel_rfl))
    clear hp2
    obtain ⟨rfl, hle⟩ := hq
    refine use_to ?_ hle
    refine to_then ?_
    refine W_rs tbok ⟨[], []⟩ [] [0, 1, 2, 3, 4, 5, 6] [(2, .adr 6 0 3 0)] (ob67 d1 r147 d3 d4 (IntKind.i64.wrap (d5 + (1 : Int))) d6 r148 r149 o1 o2 o3 o4 o5 (1 : Int) v7) 7 6 (Ts 3 []) (by kernel_rfl) (tr 3 tt) ?_
    refine W_ret ?_
    refine thenQ_ret ?_
    obtain rfl := sI h
    exact RetO_intro [some (.tree .u8 .u32)] [] [0, 1, 2, 3, 4, 5, 6] [(2, .adr 6 0 3 0)] (ob67 d1 r147 d3 d4 (IntKind.i64.wrap (d5 + (1 : Int))) d6 r148 r149 o1 o2 o3 o4 o5 (1 : Int) v7) 7 6 (by kernel_rfl) (by kernel_rfl) (by kernel_rfl)
  replace h := h_else hb12 h
  refine W_skip_to ?_
  refine to_then ?_
  obtain ⟨⟨r158, r159, r160, r161⟩, q52, h⟩ := h_bind h
  have u_1 := (rq_named_v3_ok d1 r131 d3 d4 (IntKind.i64.wrap (d5 + (1 : Int))) d6 r132 r133 o1 o2 o3 o4 o5 _ q52)
  refine W_rs tbok ⟨[], [(1, ⟨.u32 r158, [false], true, [true], [0, 1, 2, 3, 4, 5], (ob61 d1 r159 d3 d4 (IntKind.i64.wrap (d5 + (1 : Int))) d6 r160 r161 o1 o2 o3 o4 o5), none⟩)]⟩ [] [0, 1, 2, 3, 4, 5, 6] [(2, .adr 6 0 3 0), (7, .u32 r158)] (ob67 d1 r159 d3 d4 (IntKind.i64.wrap (d5 + (1 : Int))) d6 r160 r161 o1 o2 o3 o4 o5 (0 : Int) (0 : Int)) 7 6 [True, pO u_1, True] (by kernel_rfl) ⟨tt, u_1, tt, tt⟩ ?_
  refine W_rs tbok ⟨[], []⟩ [] [0, 1, 2, 3, 4, 5, 6] [(2, .adr 6 0 3 0)] (ob67 d1 r159 d3 d4 (IntKind.i64.wrap (d5 + (1 : Int))) d6 r160 r161 o1 o2 o3 o4 o5 (1 : Int) r158) 7 6 (Ts 3 []) (by kernel_rfl) (tr 3 tt) ?_
  refine W_ret ?_
  obtain rfl := sI h
  exact RetO_intro [some (.tree .u8 .u32)] [] [0, 1, 2, 3, 4, 5, 6] [(2, .adr 6 0 3 0)] (ob67 d1 r159 d3 d4 (IntKind.i64.wrap (d5 + (1 : Int))) d6 r160 r161 o1 o2 o3 o4 o5 (1 : Int) r158) 7 6 (by kernel_rfl) (by kernel_rfl) (by kernel_rfl)
def rq_row_v7_L1 (p1 : List UInt8) (p3 p4 : Int) (o1 : List (List UInt8)) (o2 : List Int) (o3 : List (Int × Tree × Tree)) (o4 : List (List UInt8)) (o5 : List Int) (rec_rq_either_v3 : (List UInt8) → Int → Int → Int → Int → Int → Int → Int → (List (List UInt8)) → (List Int) → (List (Int × Tree × Tree)) → (List (List UInt8)) → (List Int) → Option (Tree × Int × Int × Int × Int × Int)) : (Int × Int × Int × Int × Int × List Tree) → Option ((Int × Int × Int × Int × Int × List Tree) ⊕ ((List Tree) × Int × Int × Int × Int × Int)) := fun ((p39, p40, p41, p42, p43, l5) : Int × Int × Int × Int × Int × List Tree) =>
  ((rq_here_v7 p1 p39 p3 p4 p40 p41 p42 p43 o1 o2 o3 o4 o5).bind fun ((r327, r328, r329, r330) : Int × Int × Int × Int) =>
  (((if (r329 != (0 : Int)) = true then some (true)
  else ((rr_letter r327).bind fun (r333 : Bool) =>
  (if (!r333) = true then (if (r327 != (40 : Int)) = true then (if (r327 != (91 : Int)) = true then some ((r327 != (46 : Int)))
  else some (false))
  else some (false))
  else some (false))))).bind fun (v21 : Bool) => (if v21 = true then some (Sum.inr (l5, r328, p40, p41, r329, r330))
  else ((rq_thing_v5 rec_rq_either_v3 p1 r328 p3 p4 p40 p41 r329 r330 o1 o2 o3 o4 o5).bind fun ((r340, r341, r342, r343, r344, r345) : Tree × Int × Int × Int × Int × Int) =>
  ((rq_sign_v6 (42 : Int) p1 r341 p3 p4 r342 r343 r344 r345 o1 o2 o3 o4 o5).bind fun ((r350, r351, r352, r353) : Bool × Int × Int × Int) =>
  (((if r350 = true then some ((r351, r352, r353, (4 : Int), (0 : Int), ([(Tree.node r340.op r340.set r340.kids)] : List Tree)))
  else ((rq_sign_v6 (43 : Int) p1 r351 p3 p4 r342 r343 r352 r353 o1 o2 o3 o4 o5).bind fun ((r374, r375, r376, r377) : Bool × Int × Int × Int) =>
  (if r374 = true then some ((r375, r376, r377, (5 : Int), (0 : Int), ([(Tree.node r340.op r340.set r340.kids)] : List Tree)))
  else ((rq_sign_v6 (63 : Int) p1 r375 p3 p4 r342 r343 r376 r377 o1 o2 o3 o4 o5).bind fun ((r382, r383, r384, r385) : Bool × Int × Int × Int) =>
  (if r382 = true then some ((r383, r384, r385, (6 : Int), (0 : Int), ([(Tree.node r340.op r340.set r340.kids)] : List Tree)))
  else some ((r383, r384, r385, r340.op, r340.set, r340.kids)))))))).bind fun ((p44, p45, p46, e16, e17, e18) : Int × Int × Int × Int × Int × List Tree) => (if (l5.length + ([(Tree.node e16 e17 e18)] : List Tree).length) * 32 ≤ 140737488355328 ∧ l5.length + ([(Tree.node e16 e17 e18)] : List Tree).length ≤ 9223372036854775807 then some (Sum.inl (p44, r342, r343, p45, p46, (l5 ++ ([(Tree.node e16 e17 e18)] : List Tree)))) else none)))))))
def rq_row_v7 (rec_rq_either_v3 : (List UInt8) → Int → Int → Int → Int → Int → Int → Int → (List (List UInt8)) → (List Int) → (List (Int × Tree × Tree)) → (List (List UInt8)) → (List Int) → Option (Tree × Int × Int × Int × Int × Int)) (p1 : List UInt8) (p2 p3 p4 p5 p6 p7 p8 : Int) (o1 : List (List UInt8)) (o2 : List Int) (o3 : List (Int × Tree × Tree)) (o4 : List (List UInt8)) (o5 : List Int) : Option (Tree × Int × Int × Int × Int × Int) :=
  ((iter (rq_row_v7_L1 p1 p3 p4 o1 o2 o3 o4 o5 rec_rq_either_v3) (p2, p5, p6, p7, p8, ([] : List Tree))).bind fun ((l6, v16, v17, v18, v19, v20) : (List Tree) × Int × Int × Int × Int × Int) => (if ((l6.length : Int) == (0 : Int)) = true then some ((Tree.node (0 : Int) (0 : Int) ([] : List Tree)), v16, v17, v18, v19, v20)
  else (if ((l6.length : Int) == (1 : Int)) = true then (if 0 ≤ (0 : Int) ∧ (0 : Int) < (l6.length : Int) then (if (0 : Int).toNat < l6.length then some ((Tree.node ((l6.getD ((0 : Int).toNat) (Tree.node 0 0 [])).op) ((l6.getD ((0 : Int).toNat) (Tree.node 0 0 [])).set) ((l6.getD ((0 : Int).toNat) (Tree.node 0 0 [])).kids)), v16, v17, v18, v19, v20) else none) else none)
  else some ((Tree.node (2 : Int) (0 : Int) l6), v16, v17, v18, v19, v20))))
theorem rq_row_v7_ok (rec_rq_either_v3 : (List UInt8) → Int → Int → Int → Int → Int → Int → Int → (List (List UInt8)) → (List Int) → (List (Int × Tree × Tree)) → (List (List UInt8)) → (List Int) → Option (Tree × Int × Int × Int × Int × Int)) (hrec_rq_either_v3 : ∀ (p1 : List UInt8) (p2 p3 p4 p5 p6 p7 p8 : Int) (o1 : List (List UInt8)) (o2 : List Int) (o3 : List (Int × Tree × Tree)) (o4 : List (List UInt8)) (o5 : List Int) (res : Tree × Int × Int × Int × Int × Int), rec_rq_either_v3 p1 p2 p3 p4 p5 p6 p7 p8 o1 o2 o3 o4 o5 = some res → Owns Try.prog 58 [.adr 0 0 13 0] (ob61 p1 p2 p3 p4 p5 p6 p7 p8 o1 o2 o3 o4 o5) (.agg [.u8 res.1.op, .u32 res.1.set, .p false (.slice (.tree .u8 .u32)) res.1.kids]) (ob61 p1 res.2.1 p3 p4 res.2.2.1 res.2.2.2.1 res.2.2.2.2.1 res.2.2.2.2.2 o1 o2 o3 o4 o5)) (p1 : List UInt8) (p2 p3 p4 p5 p6 p7 p8 : Int) (o1 : List (List UInt8)) (o2 : List Int) (o3 : List (Int × Tree × Tree)) (o4 : List (List UInt8)) (o5 : List Int) (res : Tree × Int × Int × Int × Int × Int) (h : rq_row_v7 rec_rq_either_v3 p1 p2 p3 p4 p5 p6 p7 p8 o1 o2 o3 o4 o5 = some res) :
    Owns Try.prog 63 [.adr 0 0 13 0] (ob61 p1 p2 p3 p4 p5 p6 p7 p8 o1 o2 o3 o4 o5) (.agg [.u8 res.1.op, .u32 res.1.set, .p false (.slice (.tree .u8 .u32)) res.1.kids]) (ob61 p1 res.2.1 p3 p4 res.2.2.1 res.2.2.2.1 res.2.2.2.2.1 res.2.2.2.2.2 o1 o2 o3 o4 o5) := by
  refine Owns.of_body tbok Try.func63 (by kernel_rfl) rfl (nl rfl) (fun Bw w0 => ?_)
  unfold rq_row_v7 at h
  refine W_rs tbok ⟨[], []⟩ [] [0, 1, 2, 3, 4, 5, 6] [(0, .adr 0 0 13 0), (2, .adr 6 0 3 0)] (ob67 p1 p2 p3 p4 p5 p6 p7 p8 o1 o2 o3 o4 o5 (0 : Int) (0 : Int)) 7 6 [True] (by kernel_rfl) ⟨tt, tt⟩ ?_
  refine W_rs tbok ⟨[], []⟩ [] [0, 1, 2, 3, 4, 5, 6] [(0, .adr 0 0 13 0), (2, .adr 6 0 3 0), (3, .nils)] (ob67 p1 p2 p3 p4 p5 p6 p7 p8 o1 o2 o3 o4 o5 (0 : Int) (0 : Int)) 7 6 [True] (by kernel_rfl) ⟨tt, tt⟩ ?_
  refine W_seq ?_
  refine W_block ?_
  obtain ⟨r387, hp14, h⟩ := h_bind h
  refine W.mono (Q := (postX Try.f63.ntmps 0 (fun ((l6, v16, v17, v18, v19, v20) : (List Tree) × Int × Int × Int × Int × Int) => mkSt [(2, .adr 6 0 3 0), (3, .sl 7)] (ob70 p1 v16 p3 p4 v17 v18 v19 v20 o1 o2 o3 o4 o5 (0 : Int) (0 : Int) l6) 8 6)) r387) (W_iter (f := fun ((p39, p40, p41, p42, p43, l5) : Int × Int × Int × Int × Int × List Tree) => mkSt [(0, .adr 0 0 13 0), (2, .adr 6 0 3 0), (3, .sl 7)] (ob70 p1 p39 p3 p4 p40 p41 p42 p43 o1 o2 o3 o4 o5 (0 : Int) (0 : Int) l5) 8 6) (Q := (postX Try.f63.ntmps 0 (fun ((l6, v16, v17, v18, v19, v20) : (List Tree) × Int × Int × Int × Int × Int) => mkSt [(2, .adr 6 0 3 0), (3, .sl 7)] (ob70 p1 v16 p3 p4 v17 v18 v19 v20 o1 o2 o3 o4 o5 (0 : Int) (0 : Int) l6) 8 6))) hp14 (gl [.nilS 3 7 50 (.tree .u8 .u32)] [0, 1, 2, 3, 4, 5, 6, 7] (by kernel_rfl)) (fun y o ho => ?_)) (fun e σ' hq => ?_)
  · obtain ⟨p39, p40, p41, p42, p43, l5⟩ := y
    replace h := ho
    clear ho hp14
    unfold rq_row_v7_L1 at h
    refine W_block ?_
    obtain ⟨⟨r327, r328, r329, r330⟩, q87, h⟩ := h_bind h
    have u_1 := (rq_here_v7_ok p1 p39 p3 p4 p40 p41 p42 p43 o1 o2 o3 o4 o5 _ q87)
    refine W_rs tbok ⟨[], [(1, ⟨.u8 r327, [false], true, [true], [0, 1, 2, 3, 4, 5], (ob61 p1 r328 p3 p4 p40 p41 r329 r330 o1 o2 o3 o4 o5), none⟩)]⟩ [] [0, 1, 2, 3, 4, 5, 6, 7] [(0, .adr 0 0 13 0), (2, .adr 6 0 3 0), (3, .sl 7), (4, .u8 r327)] (ob70 p1 r328 p3 p4 p40 p41 r329 r330 o1 o2 o3 o4 o5 (0 : Int) (0 : Int) l5) 8 6 [True, pO u_1, True] (by kernel_rfl) ⟨tt, u_1, tt, tt⟩ ?_
    refine W_seq ?_
    refine W_seq ?_
    obtain ⟨v21, hp12, h⟩ := h_bind h
    refine W.mono (Q := (postN Try.f63.ntmps (fun (v21 : Bool) => mkSt [(0, .adr 0 0 13 0), (2, .adr 6 0 3 0), (3, .sl 7), (29, .bo v21)] (ob70 p1 r328 p3 p4 p40 p41 r329 r330 o1 o2 o3 o4 o5 (0 : Int) (0 : Int) l5) 8 6)) v21) ?_ (fun e σ' hq => ?_)
    · replace h := hp12
      clear hp12
      rcases bb (r329 != (0 : Int)) with hb106 | hb106
      · replace h := h_if hb106 h
        refine W_r tbok ⟨[(5, true), (21, true)], []⟩ [] [0, 1, 2, 3, 4, 5, 6, 7] [(0, .adr 0 0 13 0), (2, .adr 6 0 3 0), (3, .sl 7), (29, .bo true)] (ob70 p1 r328 p3 p4 p40 p41 r329 r330 o1 o2 o3 o4 o5 (0 : Int) (0 : Int) l5) 8 6 (Ts 6 [(r329 != (0 : Int)) = true, (r329 != (0 : Int)) = true, (r329 != (0 : Int)) = true, (r329 != (0 : Int)) = true, True, True, (r329 != (0 : Int)) = true, (r329 != (0 : Int)) = true, True, True, (r329 != (0 : Int)) = true, (r329 != (0 : Int)) = true, True, True, (r329 != (0 : Int)) = true, (r329 != (0 : Int)) = true]) (by kernel_rfl) (tr 6 ⟨hb106, hb106, hb106, hb106, tt, tt, hb106, hb106, tt, tt, hb106, hb106, tt, tt, hb106, hb106, tt⟩) ?_
        obtain rfl := sI h
        exact postN_to (gl [] [0, 1, 2, 3, 4, 5, 6, 7] (by kernel_rfl))
      replace h := h_else hb106 h
      obtain ⟨r333, q90, h⟩ := h_bind h
      rcases bb (!r333) with hb107 | hb107
      · replace h := h_if hb107 h
        rcases bb (r327 != (40 : Int)) with hb108 | hb108
        · replace h := h_if hb108 h
          rcases bb (r327 != (91 : Int)) with hb109 | hb109
          · replace h := h_if hb109 h
            refine W_r tbok ⟨[(5, false), (9, true), (12, true), (13, true), (16, true), (17, true), (20, true), (21, false)], [(7, ⟨.bo r333, [false], false, [true], [], [], none⟩)]⟩ [] [0, 1, 2, 3, 4, 5, 6, 7] [(0, .adr 0 0 13 0), (2, .adr 6 0 3 0), (3, .sl 7), (29, .bo (r327 != (46 : Int)))] (ob70 p1 r328 p3 p4 p40 p41 r329 r330 o1 o2 o3 o4 o5 (0 : Int) (0 : Int) l5) 8 6 (Ts 6 [(r329 != (0 : Int)) = false ∧ True, (r329 != (0 : Int)) = false ∧ Pure Try.prog 36 [.u8 r327] (.bo r333), (r329 != (0 : Int)) = false ∧ True, (r329 != (0 : Int)) = false ∧ True, (!r333) = true ∧ True, (!r333) = true ∧ True, (r329 != (0 : Int)) = false ∧ (!r333) = true, (r329 != (0 : Int)) = false ∧ True, (r327 != (40 : Int)) = true ∧ True, (r327 != (40 : Int)) = true ∧ True, (r329 != (0 : Int)) = false ∧ (r327 != (40 : Int)) = true, (r329 != (0 : Int)) = false ∧ True, (r327 != (91 : Int)) = true ∧ True, (r327 != (91 : Int)) = true ∧ True, (r329 != (0 : Int)) = false ∧ (r327 != (91 : Int)) = true, (r329 != (0 : Int)) = false]) (by kernel_rfl) (tr 6 ⟨⟨hb106, tt⟩, ⟨hb106, (rr_letter_ok r327 _ q90)⟩, ⟨hb106, tt⟩, ⟨hb106, tt⟩, ⟨hb107, tt⟩, ⟨hb107, tt⟩, ⟨hb106, hb107⟩, ⟨hb106, tt⟩, ⟨hb108, tt⟩, ⟨hb108, tt⟩, ⟨hb106, hb108⟩, ⟨hb106, tt⟩, ⟨hb109, tt⟩, ⟨hb109, tt⟩, ⟨hb106, hb109⟩, hb106, tt⟩) ?_
            obtain rfl := sI h
            exact postN_to (gl [] [0, 1, 2, 3, 4, 5, 6, 7] (by kernel_rfl))
          replace h := h_else hb109 h
          refine W_r tbok ⟨[(5, false), (9, true), (12, true), (13, true), (16, true), (17, false), (20, false), (21, false)], [(7, ⟨.bo r333, [false], false, [true], [], [], none⟩)]⟩ [] [0, 1, 2, 3, 4, 5, 6, 7] [(0, .adr 0 0 13 0), (2, .adr 6 0 3 0), (3, .sl 7), (29, .bo false)] (ob70 p1 r328 p3 p4 p40 p41 r329 r330 o1 o2 o3 o4 o5 (0 : Int) (0 : Int) l5) 8 6 (Ts 6 [(r329 != (0 : Int)) = false ∧ True, (r329 != (0 : Int)) = false ∧ Pure Try.prog 36 [.u8 r327] (.bo r333), (r329 != (0 : Int)) = false ∧ True, (r329 != (0 : Int)) = false ∧ True, (!r333) = true ∧ True, (!r333) = true ∧ True, (r329 != (0 : Int)) = false ∧ (!r333) = true, (r329 != (0 : Int)) = false ∧ True, (r327 != (40 : Int)) = true ∧ True, (r327 != (40 : Int)) = true ∧ True, (r329 != (0 : Int)) = false ∧ (r327 != (40 : Int)) = true, (r329 != (0 : Int)) = false ∧ True, (r327 != (91 : Int)) = false, (r327 != (91 : Int)) = false, (r329 != (0 : Int)) = false ∧ (r327 != (91 : Int)) = false, (r329 != (0 : Int)) = false]) (by kernel_rfl) (tr 6 ⟨⟨hb106, tt⟩, ⟨hb106, (rr_letter_ok r327 _ q90)⟩, ⟨hb106, tt⟩, ⟨hb106, tt⟩, ⟨hb107, tt⟩, ⟨hb107, tt⟩, ⟨hb106, hb107⟩, ⟨hb106, tt⟩, ⟨hb108, tt⟩, ⟨hb108, tt⟩, ⟨hb106, hb108⟩, ⟨hb106, tt⟩, hb109, hb109, ⟨hb106, hb109⟩, hb106, tt⟩) ?_
          obtain rfl := sI h
          exact postN_to (gl [] [0, 1, 2, 3, 4, 5, 6, 7] (by kernel_rfl))
        replace h := h_else hb108 h
        refine W_r tbok ⟨[(5, false), (9, true), (12, true), (13, false), (16, false), (17, false), (20, false), (21, false)], [(7, ⟨.bo r333, [false], false, [true], [], [], none⟩)]⟩ [] [0, 1, 2, 3, 4, 5, 6, 7] [(0, .adr 0 0 13 0), (2, .adr 6 0 3 0), (3, .sl 7), (29, .bo false)] (ob70 p1 r328 p3 p4 p40 p41 r329 r330 o1 o2 o3 o4 o5 (0 : Int) (0 : Int) l5) 8 6 (Ts 6 [(r329 != (0 : Int)) = false ∧ True, (r329 != (0 : Int)) = false ∧ Pure Try.prog 36 [.u8 r327] (.bo r333), (r329 != (0 : Int)) = false ∧ True, (r329 != (0 : Int)) = false ∧ True, (!r333) = true ∧ True, (!r333) = true ∧ True, (r329 != (0 : Int)) = false ∧ (!r333) = true, (r329 != (0 : Int)) = false ∧ True, (r327 != (40 : Int)) = false, (r327 != (40 : Int)) = false, (r329 != (0 : Int)) = false ∧ (r327 != (40 : Int)) = false, (r329 != (0 : Int)) = false ∧ True, false = false, false = false, (r329 != (0 : Int)) = false ∧ false = false, (r329 != (0 : Int)) = false]) (by kernel_rfl) (tr 6 ⟨⟨hb106, tt⟩, ⟨hb106, (rr_letter_ok r327 _ q90)⟩, ⟨hb106, tt⟩, ⟨hb106, tt⟩, ⟨hb107, tt⟩, ⟨hb107, tt⟩, ⟨hb106, hb107⟩, ⟨hb106, tt⟩, hb108, hb108, ⟨hb106, hb108⟩, ⟨hb106, tt⟩, rfl, rfl, ⟨hb106, rfl⟩, hb106, tt⟩) ?_
        obtain rfl := sI h
        exact postN_to (gl [] [0, 1, 2, 3, 4, 5, 6, 7] (by kernel_rfl))
      replace h := h_else hb107 h
      refine W_r tbok ⟨[(5, false), (9, false), (12, false), (13, false), (16, false), (17, false), (20, false), (21, false)], [(7, ⟨.bo r333, [false], false, [true], [], [], none⟩)]⟩ [] [0, 1, 2, 3, 4, 5, 6, 7] [(0, .adr 0 0 13 0), (2, .adr 6 0 3 0), (3, .sl 7), (29, .bo false)] (ob70 p1 r328 p3 p4 p40 p41 r329 r330 o1 o2 o3 o4 o5 (0 : Int) (0 : Int) l5) 8 6 (Ts 6 [(r329 != (0 : Int)) = false ∧ True, (r329 != (0 : Int)) = false ∧ Pure Try.prog 36 [.u8 r327] (.bo r333), (r329 != (0 : Int)) = false ∧ True, (r329 != (0 : Int)) = false ∧ True, (!r333) = false, (!r333) = false, (r329 != (0 : Int)) = false ∧ (!r333) = false, (r329 != (0 : Int)) = false ∧ True, false = false, false = false, (r329 != (0 : Int)) = false ∧ false = false, (r329 != (0 : Int)) = false ∧ True, false = false, false = false, (r329 != (0 : Int)) = false ∧ false = false, (r329 != (0 : Int)) = false]) (by kernel_rfl) (tr 6 ⟨⟨hb106, tt⟩, ⟨hb106, (rr_letter_ok r327 _ q90)⟩, ⟨hb106, tt⟩, ⟨hb106, tt⟩, hb107, hb107, ⟨hb106, hb107⟩, ⟨hb106, tt⟩, rfl, rfl, ⟨hb106, rfl⟩, ⟨hb106, tt⟩, rfl, rfl, ⟨hb106, rfl⟩, hb106, tt⟩) ?_
      obtain rfl := sI h
      exact postN_to (gl [] [0, 1, 2, 3, 4, 5, 6, 7] (by kernel_rfl))
    clear hp12
    obtain ⟨rfl, hle⟩ := hq
    refine use_to ?_ hle
    refine to_then ?_
    refine W_cond (b := v21) (β := false) (by kernel_rfl) (fun hb110 => ?_) (fun hb110 => ?_)
    · replace h := h_if hb110 h
      refine W_exit_to ?_
      refine thenE ?_
      refine blockE_ne rfl ?_
      obtain rfl := sI h
      refine roundE ?_
      exact postX_to (gl [] [0, 1, 2, 3, 4, 5, 6, 7] (by kernel_rfl))
    replace h := h_else hb110 h
    refine W_skip_to ?_
    refine to_then ?_
    obtain ⟨⟨r340, r341, r342, r343, r344, r345⟩, q92, h⟩ := h_bind h
    have u_1 := (rq_thing_v5_ok rec_rq_either_v3 hrec_rq_either_v3 p1 r328 p3 p4 p40 p41 r329 r330 o1 o2 o3 o4 o5 _ q92)
    refine W_rs tbok ⟨[], [(1, ⟨.agg [.u8 r340.op, .u32 r340.set, .p false (.slice (.tree .u8 .u32)) r340.kids], [false], true, [true], [0, 1, 2, 3, 4, 5], (ob61 p1 r341 p3 p4 r342 r343 r344 r345 o1 o2 o3 o4 o5), none⟩)]⟩ [] [0, 1, 2, 3, 4, 5, 6, 7, 24] [(0, .adr 0 0 13 0), (2, .adr 6 0 3 0), (3, .sl 7), (5, .adr 8 0 3 0)] (ob71 p1 r341 p3 p4 r342 r343 r344 r345 o1 o2 o3 o4 o5 (0 : Int) (0 : Int) l5 r340.op r340.set r340.kids) 9 6 [True, pO u_1, True, True] (by kernel_rfl) ⟨tt, u_1, tt, tt, tt⟩ ?_
    refine W_seq ?_
    obtain ⟨⟨r350, r351, r352, r353⟩, q94, h⟩ := h_bind h
    have u_1 := (rq_sign_v6_ok (42 : Int) p1 r341 p3 p4 r342 r343 r344 r345 o1 o2 o3 o4 o5 _ q94)
    refine W_rs tbok ⟨[], [(1, ⟨.bo r350, [false, false], true, [true, true], [0, 1, 2, 3, 4, 5], (ob61 p1 r351 p3 p4 r342 r343 r352 r353 o1 o2 o3 o4 o5), none⟩)]⟩ [] [0, 1, 2, 3, 4, 5, 6, 7, 8] [(0, .adr 0 0 13 0), (2, .adr 6 0 3 0), (3, .sl 7), (5, .adr 8 0 3 0), (33, .bo r350)] (ob71 p1 r351 p3 p4 r342 r343 r352 r353 o1 o2 o3 o4 o5 (0 : Int) (0 : Int) l5 r340.op r340.set r340.kids) 9 6 [True, pO u_1] (by kernel_rfl) ⟨tt, u_1, tt⟩ ?_
    obtain ⟨r386, hp13, h⟩ := h_bind h
    refine W.mono (Q := (postN Try.f63.ntmps (fun ((p44, p45, p46, e16, e17, e18) : Int × Int × Int × Int × Int × List Tree) => mkSt [(0, .adr 0 0 13 0), (2, .adr 6 0 3 0), (3, .sl 7), (5, .adr 8 0 3 0)] (ob71 p1 p44 p3 p4 r342 r343 p45 p46 o1 o2 o3 o4 o5 (0 : Int) (0 : Int) l5 e16 e17 e18) 9 6)) r386) ?_ (fun e σ' hq => ?_)
    · replace h := hp13
      clear hp13
      refine W_cond (b := r350) (β := false) (by kernel_rfl) (fun hb114 => ?_) (fun hb114 => ?_)
      · replace h := h_if hb114 h
        refine W_r tbok ⟨[], []⟩ [] [0, 1, 2, 3, 4, 5, 6, 7, 8, 17] [(0, .adr 0 0 13 0), (2, .adr 6 0 3 0), (3, .sl 7), (5, .adr 8 0 3 0)] (ob72 p1 r351 p3 p4 r342 r343 r352 r353 o1 o2 o3 o4 o5 (0 : Int) (0 : Int) l5 (4 : Int) (0 : Int) ([(Tree.node r340.op r340.set r340.kids)] : List Tree)) 10 6 (Ts 4 []) (by kernel_rfl) (tr 4 tt) ?_
        obtain rfl := sI h
        exact postN_to (gl [.frzC 8 2] [0, 1, 2, 3, 4, 5, 6, 7, 8] (by kernel_rfl))
      replace h := h_else hb114 h
      obtain ⟨⟨r374, r375, r376, r377⟩, q100, h⟩ := h_bind h
      have u_1 := (rq_sign_v6_ok (43 : Int) p1 r351 p3 p4 r342 r343 r352 r353 o1 o2 o3 o4 o5 _ q100)
      refine W_rs tbok ⟨[], [(1, ⟨.bo r374, [false, false], true, [true, true], [0, 1, 2, 3, 4, 5], (ob61 p1 r375 p3 p4 r342 r343 r376 r377 o1 o2 o3 o4 o5), none⟩)]⟩ [] [0, 1, 2, 3, 4, 5, 6, 7, 8] [(0, .adr 0 0 13 0), (2, .adr 6 0 3 0), (3, .sl 7), (5, .adr 8 0 3 0), (38, .bo r374)] (ob71 p1 r375 p3 p4 r342 r343 r376 r377 o1 o2 o3 o4 o5 (0 : Int) (0 : Int) l5 r340.op r340.set r340.kids) 9 6 [True, pO u_1] (by kernel_rfl) ⟨tt, u_1, tt⟩ ?_
      refine W_cond (b := r374) (β := false) (by kernel_rfl) (fun hb115 => ?_) (fun hb115 => ?_)
      · replace h := h_if hb115 h
        refine W_r tbok ⟨[], []⟩ [] [0, 1, 2, 3, 4, 5, 6, 7, 8, 17] [(0, .adr 0 0 13 0), (2, .adr 6 0 3 0), (3, .sl 7), (5, .adr 8 0 3 0)] (ob72 p1 r375 p3 p4 r342 r343 r376 r377 o1 o2 o3 o4 o5 (0 : Int) (0 : Int) l5 (5 : Int) (0 : Int) ([(Tree.node r340.op r340.set r340.kids)] : List Tree)) 10 6 (Ts 4 []) (by kernel_rfl) (tr 4 tt) ?_
        obtain rfl := sI h
        exact postN_to (gl [.frzC 8 2] [0, 1, 2, 3, 4, 5, 6, 7, 8] (by kernel_rfl))
      replace h := h_else hb115 h
      obtain ⟨⟨r382, r383, r384, r385⟩, q102, h⟩ := h_bind h
      have u_1 := (rq_sign_v6_ok (63 : Int) p1 r375 p3 p4 r342 r343 r376 r377 o1 o2 o3 o4 o5 _ q102)
      refine W_rs tbok ⟨[], [(1, ⟨.bo r382, [false, false], true, [true, true], [0, 1, 2, 3, 4, 5], (ob61 p1 r383 p3 p4 r342 r343 r384 r385 o1 o2 o3 o4 o5), none⟩)]⟩ [] [0, 1, 2, 3, 4, 5, 6, 7, 8] [(0, .adr 0 0 13 0), (2, .adr 6 0 3 0), (3, .sl 7), (5, .adr 8 0 3 0), (43, .bo r382)] (ob71 p1 r383 p3 p4 r342 r343 r384 r385 o1 o2 o3 o4 o5 (0 : Int) (0 : Int) l5 r340.op r340.set r340.kids) 9 6 [True, pO u_1] (by kernel_rfl) ⟨tt, u_1, tt⟩ ?_
      refine W_cond (b := r382) (β := false) (by kernel_rfl) (fun hb116 => ?_) (fun hb116 => ?_)
      · replace h := h_if hb116 h
        refine W_r tbok ⟨[], []⟩ [] [0, 1, 2, 3, 4, 5, 6, 7, 8, 17] [(0, .adr 0 0 13 0), (2, .adr 6 0 3 0), (3, .sl 7), (5, .adr 8 0 3 0)] (ob72 p1 r383 p3 p4 r342 r343 r384 r385 o1 o2 o3 o4 o5 (0 : Int) (0 : Int) l5 (6 : Int) (0 : Int) ([(Tree.node r340.op r340.set r340.kids)] : List Tree)) 10 6 (Ts 4 []) (by kernel_rfl) (tr 4 tt) ?_
        obtain rfl := sI h
        exact postN_to (gl [.frzC 8 2] [0, 1, 2, 3, 4, 5, 6, 7, 8] (by kernel_rfl))
      replace h := h_else hb116 h
      refine W_skip_to ?_
      obtain rfl := sI h
      exact postN_to (gl [] [0, 1, 2, 3, 4, 5, 6, 7, 8] (by kernel_rfl))
    clear hp13
    obtain ⟨p44, p45, p46, e16, e17, e18⟩ := r386
    obtain ⟨rfl, hle⟩ := hq
    refine use_to ?_ hle
    refine to_then ?_
    obtain ⟨c16, h⟩ := h_guard h
    refine W_r tbok ⟨[], []⟩ [] [0, 1, 2, 3, 4, 5, 6, 33] [(0, .adr 0 0 13 0), (2, .adr 6 0 3 0), (3, .sl 7)] (ob70 p1 p44 p3 p4 r342 r343 p45 p46 o1 o2 o3 o4 o5 (0 : Int) (0 : Int) (l5 ++ ([(Tree.node e16 e17 e18)] : List Tree))) 8 6 (Ts 3 [(l5.length + ([(Tree.node e16 e17 e18)] : List Tree).length) * 32 ≤ 140737488355328 ∧ l5.length + ([(Tree.node e16 e17 e18)] : List Tree).length ≤ 9223372036854775807, True]) (by kernel_rfl) (tr 3 ⟨c16, tt, tt⟩) ?_
    refine to_block ?_
    obtain rfl := sI h
    exact roundB (gl [] [0, 1, 2, 3, 4, 5, 6, 7] (by kernel_rfl))
  clear hp14
  obtain ⟨l6, v16, v17, v18, v19, v20⟩ := r387
  obtain ⟨rfl, hle⟩ := hq
  refine use_to ?_ hle
  refine blockE_eq ?_
  refine to_then ?_
  refine W_seq ?_
  refine W_rs tbok ⟨[], []⟩ [] [0, 1, 2, 3, 4, 5, 6, 7] [(2, .adr 6 0 3 0), (3, .sl 7), (53, .bo ((l6.length : Int) == (0 : Int)))] (ob70 p1 v16 p3 p4 v17 v18 v19 v20 o1 o2 o3 o4 o5 (0 : Int) (0 : Int) l6) 8 6 (Ts 3 []) (by kernel_rfl) (tr 3 tt) ?_
  refine W_cond (b := ((l6.length : Int) == (0 : Int))) (β := false) (by kernel_rfl) (fun hb117 => ?_) (fun hb117 => ?_)
  · replace h := h_if hb117 h
    refine W_rs tbok ⟨[], []⟩ [] [0, 1, 2, 3, 4, 5, 6] [(2, .adr 6 0 3 0)] (ob67 p1 v16 p3 p4 v17 v18 v19 v20 o1 o2 o3 o4 o5 (0 : Int) (0 : Int)) 7 6 [True, True] (by kernel_rfl) ⟨tt, tt, tt⟩ ?_
    refine W_ret ?_
    refine thenQ_ret ?_
    obtain rfl := sI h
    exact RetO_intro [some (.tree .u8 .u32)] [] [0, 1, 2, 3, 4, 5, 6] [(2, .adr 6 0 3 0)] (ob67 p1 v16 p3 p4 v17 v18 v19 v20 o1 o2 o3 o4 o5 (0 : Int) (0 : Int)) 7 6 (by kernel_rfl) (by kernel_rfl) (by kernel_rfl)
  replace h := h_else hb117 h
  refine W_skip_to ?_
  refine to_then ?_
  refine W_seq ?_
  refine W_rs tbok ⟨[], []⟩ [] [0, 1, 2, 3, 4, 5, 6, 7] [(2, .adr 6 0 3 0), (3, .sl 7), (57, .bo ((l6.length : Int) == (1 : Int)))] (ob70 p1 v16 p3 p4 v17 v18 v19 v20 o1 o2 o3 o4 o5 (0 : Int) (0 : Int) l6) 8 6 (Ts 3 []) (by kernel_rfl) (tr 3 tt) ?_
  refine W_cond (b := ((l6.length : Int) == (1 : Int))) (β := false) (by kernel_rfl) (fun hb118 => ?_) (fun hb118 => ?_)
  · replace h := h_if hb118 h
    refine W_seq ?_
    obtain ⟨c19, h⟩ := h_guard h
    obtain ⟨c20, h⟩ := h_guard h
    refine W_r tbok ⟨[], []⟩ [] [0, 1, 2, 3, 4, 5, 6] [(2, .adr 6 0 3 0)] (ob73 p1 v16 p3 p4 v17 v18 v19 v20 o1 o2 o3 o4 o5 ((l6.getD ((0 : Int).toNat) (Tree.node 0 0 [])).op) ((l6.getD ((0 : Int).toNat) (Tree.node 0 0 [])).set) ((l6.getD ((0 : Int).toNat) (Tree.node 0 0 [])).kids)) 7 6 [True, 0 ≤ (0 : Int) ∧ (0 : Int) < (l6.length : Int), (0 : Int).toNat < l6.length, True] (by kernel_rfl) ⟨tt, c19, c20, tt, tt⟩ ?_
    refine to_then ?_
    refine W_ret ?_
    refine thenQ_ret ?_
    obtain rfl := sI h
    exact RetO_intro [some (.tree .u8 .u32)] [] [0, 1, 2, 3, 4, 5, 6] [(2, .adr 6 0 3 0)] (ob73 p1 v16 p3 p4 v17 v18 v19 v20 o1 o2 o3 o4 o5 ((l6.getD ((0 : Int).toNat) (Tree.node 0 0 [])).op) ((l6.getD ((0 : Int).toNat) (Tree.node 0 0 [])).set) ((l6.getD ((0 : Int).toNat) (Tree.node 0 0 [])).kids)) 7 6 (by kernel_rfl) (by kernel_rfl) (by kernel_rfl)
  replace h := h_else hb118 h
  refine W_skip_to ?_
  refine to_then ?_
  refine W_rs tbok ⟨[], []⟩ [] [0, 1, 2, 3, 4, 5, 6, 7] [(2, .adr 6 0 3 0)] (ob74 p1 v16 p3 p4 v17 v18 v19 v20 o1 o2 o3 o4 o5 (2 : Int) (0 : Int) l6) 8 6 (Ts 3 []) (by kernel_rfl) (tr 3 tt) ?_
  refine W_ret ?_
  obtain rfl := sI h
  exact RetO_intro [some (.tree .u8 .u32)] [] [0, 1, 2, 3, 4, 5, 6, 7] [(2, .adr 6 0 3 0)] (ob74 p1 v16 p3 p4 v17 v18 v19 v20 o1 o2 o3 o4 o5 (2 : Int) (0 : Int) l6) 8 6 (by kernel_rfl) (by kernel_rfl) (by kernel_rfl)
def rq_either_v3_L1 (p1 : List UInt8) (p3 p4 : Int) (o1 : List (List UInt8)) (o2 : List Int) (o3 : List (Int × Tree × Tree)) (o4 : List (List UInt8)) (o5 : List Int) (rec_rq_either_v3 : (List UInt8) → Int → Int → Int → Int → Int → Int → Int → (List (List UInt8)) → (List Int) → (List (Int × Tree × Tree)) → (List (List UInt8)) → (List Int) → Option (Tree × Int × Int × Int × Int × Int)) : (Int × Int × Int × Int × Int × List Tree) → Option ((Int × Int × Int × Int × Int × List Tree) ⊕ ((List Tree) × Int × Int × Int × Int × Int)) := fun ((p34, p35, p36, p37, p38, l8) : Int × Int × Int × Int × Int × List Tree) =>
  ((rq_sign_v6 (124 : Int) p1 p34 p3 p4 p35 p36 p37 p38 o1 o2 o3 o4 o5).bind fun ((r205, r206, r207, r208) : Bool × Int × Int × Int) =>
  (if r205 = true then ((rq_row_v7 rec_rq_either_v3 p1 r206 p3 p4 p35 p36 r207 r208 o1 o2 o3 o4 o5).bind fun ((r215, r216, r217, r218, r219, r220) : Tree × Int × Int × Int × Int × Int) =>
  (if (l8.length + ([(Tree.node r215.op r215.set r215.kids)] : List Tree).length) * 32 ≤ 140737488355328 ∧ l8.length + ([(Tree.node r215.op r215.set r215.kids)] : List Tree).length ≤ 9223372036854775807 then some (Sum.inl (r216, r217, r218, r219, r220, (l8 ++ ([(Tree.node r215.op r215.set r215.kids)] : List Tree)))) else none))
  else some (Sum.inr (l8, r206, p35, p36, r207, r208))))
def rq_either_v3_F (rec_rq_either_v3 : (List UInt8) → Int → Int → Int → Int → Int → Int → Int → (List (List UInt8)) → (List Int) → (List (Int × Tree × Tree)) → (List (List UInt8)) → (List Int) → Option (Tree × Int × Int × Int × Int × Int)) (p1 : List UInt8) (p2 p3 p4 p5 p6 p7 p8 : Int) (o1 : List (List UInt8)) (o2 : List Int) (o3 : List (Int × Tree × Tree)) (o4 : List (List UInt8)) (o5 : List Int) : Option (Tree × Int × Int × Int × Int × Int) :=
  ((rq_row_v7 rec_rq_either_v3 p1 p2 p3 p4 p5 p6 p7 p8 o1 o2 o3 o4 o5).bind fun ((r155, r156, r157, r158, r159, r160) : Tree × Int × Int × Int × Int × Int) =>
  ((iter (rq_either_v3_L1 p1 p3 p4 o1 o2 o3 o4 o5 rec_rq_either_v3) (r156, r157, r158, r159, r160, ([(Tree.node r155.op r155.set r155.kids)] : List Tree))).bind fun ((l9, v21, v22, v23, v24, v25) : (List Tree) × Int × Int × Int × Int × Int) => (if ((l9.length : Int) == (1 : Int)) = true then (if 0 ≤ (0 : Int) ∧ (0 : Int) < (l9.length : Int) then (if (0 : Int).toNat < l9.length then some ((Tree.node ((l9.getD ((0 : Int).toNat) (Tree.node 0 0 [])).op) ((l9.getD ((0 : Int).toNat) (Tree.node 0 0 [])).set) ((l9.getD ((0 : Int).toNat) (Tree.node 0 0 [])).kids)), v21, v22, v23, v24, v25) else none) else none)
  else some ((Tree.node (3 : Int) (0 : Int) l9), v21, v22, v23, v24, v25))))
def rq_either_v3 : Nat → (List UInt8) → Int → Int → Int → Int → Int → Int → Int → (List (List UInt8)) → (List Int) → (List (Int × Tree × Tree)) → (List (List UInt8)) → (List Int) → Option (Tree × Int × Int × Int × Int × Int)
  | 0 => fun _ _ _ _ _ _ _ _ _ _ _ _ _ => none
  | n + 1 => rq_either_v3_F (rq_either_v3 n)
theorem rq_either_v3_F_ok (rec_rq_either_v3 : (List UInt8) → Int → Int → Int → Int → Int → Int → Int → (List (List UInt8)) → (List Int) → (List (Int × Tree × Tree)) → (List (List UInt8)) → (List Int) → Option (Tree × Int × Int × Int × Int × Int)) (hrec_rq_either_v3 : ∀ (p1 : List UInt8) (p2 p3 p4 p5 p6 p7 p8 : Int) (o1 : List (List UInt8)) (o2 : List Int) (o3 : List (Int × Tree × Tree)) (o4 : List (List UInt8)) (o5 : List Int) (res : Tree × Int × Int × Int × Int × Int), rec_rq_either_v3 p1 p2 p3 p4 p5 p6 p7 p8 o1 o2 o3 o4 o5 = some res → Owns Try.prog 58 [.adr 0 0 13 0] (ob61 p1 p2 p3 p4 p5 p6 p7 p8 o1 o2 o3 o4 o5) (.agg [.u8 res.1.op, .u32 res.1.set, .p false (.slice (.tree .u8 .u32)) res.1.kids]) (ob61 p1 res.2.1 p3 p4 res.2.2.1 res.2.2.2.1 res.2.2.2.2.1 res.2.2.2.2.2 o1 o2 o3 o4 o5)) (p1 : List UInt8) (p2 p3 p4 p5 p6 p7 p8 : Int) (o1 : List (List UInt8)) (o2 : List Int) (o3 : List (Int × Tree × Tree)) (o4 : List (List UInt8)) (o5 : List Int) (res : Tree × Int × Int × Int × Int × Int) (h : rq_either_v3_F rec_rq_either_v3 p1 p2 p3 p4 p5 p6 p7 p8 o1 o2 o3 o4 o5 = some res) :
    Owns Try.prog 58 [.adr 0 0 13 0] (ob61 p1 p2 p3 p4 p5 p6 p7 p8 o1 o2 o3 o4 o5) (.agg [.u8 res.1.op, .u32 res.1.set, .p false (.slice (.tree .u8 .u32)) res.1.kids]) (ob61 p1 res.2.1 p3 p4 res.2.2.1 res.2.2.2.1 res.2.2.2.2.1 res.2.2.2.2.2 o1 o2 o3 o4 o5) := by
  refine Owns.of_body tbok Try.func58 (by kernel_rfl) rfl (nl rfl) (fun Bw w0 => ?_)
  unfold rq_either_v3_F at h
  refine W_rs tbok ⟨[], []⟩ [] [0, 1, 2, 3, 4, 5, 6] [(0, .adr 0 0 13 0), (2, .adr 6 0 3 0)] (ob67 p1 p2 p3 p4 p5 p6 p7 p8 o1 o2 o3 o4 o5 (0 : Int) (0 : Int)) 7 6 [True] (by kernel_rfl) ⟨tt, tt⟩ ?_
  obtain ⟨⟨r155, r156, r157, r158, r159, r160⟩, q30, h⟩ := h_bind h
  have u_1 := (rq_row_v7_ok rec_rq_either_v3 hrec_rq_either_v3 p1 p2 p3 p4 p5 p6 p7 p8 o1 o2 o3 o4 o5 _ q30)
  refine W_rs tbok ⟨[], [(1, ⟨.agg [.u8 r155.op, .u32 r155.set, .p false (.slice (.tree .u8 .u32)) r155.kids], [false], true, [true], [0, 1, 2, 3, 4, 5], (ob61 p1 r156 p3 p4 r157 r158 r159 r160 o1 o2 o3 o4 o5), none⟩)]⟩ [] [0, 1, 2, 3, 4, 5, 6, 23] [(0, .adr 0 0 13 0), (2, .adr 6 0 3 0), (3, .adr 7 0 3 0)] (ob68 p1 r156 p3 p4 r157 r158 r159 r160 o1 o2 o3 o4 o5 (0 : Int) (0 : Int) r155.op r155.set r155.kids) 8 6 [True, pO u_1, True, True] (by kernel_rfl) ⟨tt, u_1, tt, tt, tt⟩ ?_
  refine W_rs tbok ⟨[], []⟩ [] [0, 1, 2, 3, 4, 5, 6, 16] [(0, .adr 0 0 13 0), (2, .adr 6 0 3 0), (4, .sl 7)] (ob70 p1 r156 p3 p4 r157 r158 r159 r160 o1 o2 o3 o4 o5 (0 : Int) (0 : Int) ([(Tree.node r155.op r155.set r155.kids)] : List Tree)) 8 6 (Ts 3 []) (by kernel_rfl) (tr 3 tt) ?_
  refine W_seq ?_
  refine W_block ?_
  obtain ⟨r221, hp3, h⟩ := h_bind h
  refine W.mono (Q := (postX Try.f58.ntmps 0 (fun ((l9, v21, v22, v23, v24, v25) : (List Tree) × Int × Int × Int × Int × Int) => mkSt [(2, .adr 6 0 3 0), (4, .sl 7)] (ob70 p1 v21 p3 p4 v22 v23 v24 v25 o1 o2 o3 o4 o5 (0 : Int) (0 : Int) l9) 8 6)) r221) (W_iter (f := fun ((p34, p35, p36, p37, p38, l8) : Int × Int × Int × Int × Int × List Tree) => mkSt [(0, .adr 0 0 13 0), (2, .adr 6 0 3 0), (4, .sl 7)] (ob70 p1 p34 p3 p4 p35 p36 p37 p38 o1 o2 o3 o4 o5 (0 : Int) (0 : Int) l8) 8 6) (Q := (postX Try.f58.ntmps 0 (fun ((l9, v21, v22, v23, v24, v25) : (List Tree) × Int × Int × Int × Int × Int) => mkSt [(2, .adr 6 0 3 0), (4, .sl 7)] (ob70 p1 v21 p3 p4 v22 v23 v24 v25 o1 o2 o3 o4 o5 (0 : Int) (0 : Int) l9) 8 6))) hp3 (gl [] [0, 1, 2, 3, 4, 5, 6, 7] (by kernel_rfl)) (fun y o ho => ?_)) (fun e σ' hq => ?_)
  · obtain ⟨p34, p35, p36, p37, p38, l8⟩ := y
    replace h := ho
    clear ho hp3
    unfold rq_either_v3_L1 at h
    refine W_seq ?_
    obtain ⟨⟨r205, r206, r207, r208⟩, q40, h⟩ := h_bind h
    have u_1 := (rq_sign_v6_ok (124 : Int) p1 p34 p3 p4 p35 p36 p37 p38 o1 o2 o3 o4 o5 _ q40)
    refine W_rs tbok ⟨[], [(1, ⟨.bo r205, [false, false], true, [true, true], [0, 1, 2, 3, 4, 5], (ob61 p1 r206 p3 p4 p35 p36 r207 r208 o1 o2 o3 o4 o5), none⟩)]⟩ [] [0, 1, 2, 3, 4, 5, 6, 7] [(0, .adr 0 0 13 0), (2, .adr 6 0 3 0), (4, .sl 7), (11, .bo r205)] (ob70 p1 r206 p3 p4 p35 p36 r207 r208 o1 o2 o3 o4 o5 (0 : Int) (0 : Int) l8) 8 6 [True, pO u_1] (by kernel_rfl) ⟨tt, u_1, tt⟩ ?_
    refine W_cond (b := r205) (β := false) (by kernel_rfl) (fun hb11 => ?_) (fun hb11 => ?_)
    · replace h := h_if hb11 h
      refine W_skip_to ?_
      refine to_then ?_
      refine W_block ?_
      obtain ⟨⟨r215, r216, r217, r218, r219, r220⟩, q42, h⟩ := h_bind h
      have u_1 := (rq_row_v7_ok rec_rq_either_v3 hrec_rq_either_v3 p1 r206 p3 p4 p35 p36 r207 r208 o1 o2 o3 o4 o5 _ q42)
      refine W_rs tbok ⟨[], [(1, ⟨.agg [.u8 r215.op, .u32 r215.set, .p false (.slice (.tree .u8 .u32)) r215.kids], [false], true, [true], [0, 1, 2, 3, 4, 5], (ob61 p1 r216 p3 p4 r217 r218 r219 r220 o1 o2 o3 o4 o5), none⟩)]⟩ [] [0, 1, 2, 3, 4, 5, 6, 7, 24] [(0, .adr 0 0 13 0), (2, .adr 6 0 3 0), (4, .sl 7), (5, .adr 8 0 3 0)] (ob71 p1 r216 p3 p4 r217 r218 r219 r220 o1 o2 o3 o4 o5 (0 : Int) (0 : Int) l8 r215.op r215.set r215.kids) 9 6 [True, pO u_1, True, True] (by kernel_rfl) ⟨tt, u_1, tt, tt, tt⟩ ?_
      obtain ⟨c26, h⟩ := h_guard h
      refine W_r tbok ⟨[], []⟩ [] [0, 1, 2, 3, 4, 5, 6, 33] [(0, .adr 0 0 13 0), (2, .adr 6 0 3 0), (4, .sl 7)] (ob70 p1 r216 p3 p4 r217 r218 r219 r220 o1 o2 o3 o4 o5 (0 : Int) (0 : Int) (l8 ++ ([(Tree.node r215.op r215.set r215.kids)] : List Tree))) 8 6 (Ts 3 [(l8.length + ([(Tree.node r215.op r215.set r215.kids)] : List Tree).length) * 32 ≤ 140737488355328 ∧ l8.length + ([(Tree.node r215.op r215.set r215.kids)] : List Tree).length ≤ 9223372036854775807, True]) (by kernel_rfl) (tr 3 ⟨c26, tt, tt⟩) ?_
      refine to_block ?_
      obtain rfl := sI h
      exact roundB (gl [] [0, 1, 2, 3, 4, 5, 6, 7] (by kernel_rfl))
    replace h := h_else hb11 h
    refine W_exit_to ?_
    refine thenE ?_
    obtain rfl := sI h
    refine roundE ?_
    exact postX_to (gl [] [0, 1, 2, 3, 4, 5, 6, 7] (by kernel_rfl))
  clear hp3
  obtain ⟨l9, v21, v22, v23, v24, v25⟩ := r221
  obtain ⟨rfl, hle⟩ := hq
  refine use_to ?_ hle
  refine blockE_eq ?_
  refine to_then ?_
  refine W_seq ?_
  refine W_rs tbok ⟨[], []⟩ [] [0, 1, 2, 3, 4, 5, 6, 7] [(2, .adr 6 0 3 0), (4, .sl 7), (20, .bo ((l9.length : Int) == (1 : Int)))] (ob70 p1 v21 p3 p4 v22 v23 v24 v25 o1 o2 o3 o4 o5 (0 : Int) (0 : Int) l9) 8 6 (Ts 3 []) (by kernel_rfl) (tr 3 tt) ?_
  refine W_cond (b := ((l9.length : Int) == (1 : Int))) (β := false) (by kernel_rfl) (fun hb12 => ?_) (fun hb12 => ?_)
  · replace h := h_if hb12 h
    refine W_seq ?_
    obtain ⟨c29, h⟩ := h_guard h
    obtain ⟨c30, h⟩ := h_guard h
    refine W_r tbok ⟨[], []⟩ [] [0, 1, 2, 3, 4, 5, 6] [(2, .adr 6 0 3 0)] (ob73 p1 v21 p3 p4 v22 v23 v24 v25 o1 o2 o3 o4 o5 ((l9.getD ((0 : Int).toNat) (Tree.node 0 0 [])).op) ((l9.getD ((0 : Int).toNat) (Tree.node 0 0 [])).set) ((l9.getD ((0 : Int).toNat) (Tree.node 0 0 [])).kids)) 7 6 [True, 0 ≤ (0 : Int) ∧ (0 : Int) < (l9.length : Int), (0 : Int).toNat < l9.length, True] (by kernel_rfl) ⟨tt, c29, c30, tt, tt⟩ ?_
    refine to_then ?_
    refine W_ret ?_
    refine thenQ_ret ?_
    obtain rfl := sI h
    exact RetO_intro [some (.tree .u8 .u32)] [] [0, 1, 2, 3, 4, 5, 6] [(2, .adr 6 0 3 0)] (ob73 p1 v21 p3 p4 v22 v23 v24 v25 o1 o2 o3 o4 o5 ((l9.getD ((0 : Int).toNat) (Tree.node 0 0 [])).op) ((l9.getD ((0 : Int).toNat) (Tree.node 0 0 [])).set) ((l9.getD ((0 : Int).toNat) (Tree.node 0 0 [])).kids)) 7 6 (by kernel_rfl) (by kernel_rfl) (by kernel_rfl)
  replace h := h_else hb12 h
  refine W_skip_to ?_
  refine to_then ?_
  refine W_rs tbok ⟨[], []⟩ [] [0, 1, 2, 3, 4, 5, 6, 7] [(2, .adr 6 0 3 0)] (ob74 p1 v21 p3 p4 v22 v23 v24 v25 o1 o2 o3 o4 o5 (3 : Int) (0 : Int) l9) 8 6 (Ts 3 []) (by kernel_rfl) (tr 3 tt) ?_
  refine W_ret ?_
  obtain rfl := sI h
  exact RetO_intro [some (.tree .u8 .u32)] [] [0, 1, 2, 3, 4, 5, 6, 7] [(2, .adr 6 0 3 0)] (ob74 p1 v21 p3 p4 v22 v23 v24 v25 o1 o2 o3 o4 o5 (3 : Int) (0 : Int) l9) 8 6 (by kernel_rfl) (by kernel_rfl) (by kernel_rfl)
theorem rq_either_v3_ok : ∀ (n : Nat) (p1 : List UInt8) (p2 p3 p4 p5 p6 p7 p8 : Int) (o1 : List (List UInt8)) (o2 : List Int) (o3 : List (Int × Tree × Tree)) (o4 : List (List UInt8)) (o5 : List Int) (res : Tree × Int × Int × Int × Int × Int), rq_either_v3 n p1 p2 p3 p4 p5 p6 p7 p8 o1 o2 o3 o4 o5 = some res → Owns Try.prog 58 [.adr 0 0 13 0] (ob61 p1 p2 p3 p4 p5 p6 p7 p8 o1 o2 o3 o4 o5) (.agg [.u8 res.1.op, .u32 res.1.set, .p false (.slice (.tree .u8 .u32)) res.1.kids]) (ob61 p1 res.2.1 p3 p4 res.2.2.1 res.2.2.2.1 res.2.2.2.2.1 res.2.2.2.2.2 o1 o2 o3 o4 o5)
  | 0, _, _, _, _, _, _, _, _, _, _, _, _, _, _, h => by cases h
  | n + 1, p1, p2, p3, p4, p5, p6, p7, p8, o1, o2, o3, o4, o5, res, h => rq_either_v3_F_ok (rq_either_v3 n) (rq_either_v3_ok n)  p1 p2 p3 p4 p5 p6 p7 p8 o1 o2 o3 o4 o5 res h
def rq_rule_v3 (does1 at1 : Int) (p1 : List UInt8) (p2 p3 p4 p5 p6 p7 p8 : Int) (o1 : List (List UInt8)) (o2 : List Int) (o3 : List (Int × Tree × Tree)) (o4 : List (List UInt8)) (o5 : List Int) : Option (Int × (List (Int × Tree × Tree)) × Int × Int × Int × Int) :=
  (((if ((o3.length : Int) == (24 : Int)) = true then ((rq_bad_v6 (24 : Int) at1 p1 p2 p3 p4 p5 p6 p7 p8 o1 o2 o3 o4 o5).bind fun ((r52, r53) : Int × Int) =>
  some ((r52, r53)))
  else some ((p7, p8)))).bind fun ((p11, p12) : Int × Int) => ((rq_either_v3 1000 p1 p2 p3 p4 p5 p6 p11 p12 o1 o2 o3 o4 o5).bind fun ((r61, r62, r63, r64, r65, r66) : Tree × Int × Int × Int × Int × Int) =>
  ((rq_want_v3 (47 : Int) p1 r62 p3 p4 r63 r64 r65 r66 o1 o2 o3 o4 o5).bind fun ((r70, r71, r72) : Int × Int × Int) =>
  ((rq_either_v3 1000 p1 r70 p3 p4 r63 r64 r71 r72 o1 o2 o3 o4 o5).bind fun ((r79, r80, r81, r82, r83, r84) : Tree × Int × Int × Int × Int × Int) =>
  ((rq_want_v3 (59 : Int) p1 r80 p3 p4 r81 r82 r83 r84 o1 o2 o3 o4 o5).bind fun ((r88, r89, r90) : Int × Int × Int) =>
  (((if (r89 == (0 : Int)) = true then (if (o3.length + ([(does1, ((Tree.node r61.op r61.set r61.kids), (Tree.node r79.op r79.set r79.kids)))] : List (Int × Tree × Tree)).length) * 72 ≤ 140737488355328 ∧ o3.length + ([(does1, ((Tree.node r61.op r61.set r61.kids), (Tree.node r79.op r79.set r79.kids)))] : List (Int × Tree × Tree)).length ≤ 9223372036854775807 then some ((o3 ++ ([(does1, ((Tree.node r61.op r61.set r61.kids), (Tree.node r79.op r79.set r79.kids)))] : List (Int × Tree × Tree)))) else none)
  else some (o3))).bind fun (v8 : List (Int × Tree × Tree)) => some (r88, v8, r81, r82, r89, r90)))))))
theorem rq_rule_v3_ok (does1 at1 : Int) (p1 : List UInt8) (p2 p3 p4 p5 p6 p7 p8 : Int) (o1 : List (List UInt8)) (o2 : List Int) (o3 : List (Int × Tree × Tree)) (o4 : List (List UInt8)) (o5 : List Int) (res : Int × (List (Int × Tree × Tree)) × Int × Int × Int × Int) (h : rq_rule_v3 does1 at1 p1 p2 p3 p4 p5 p6 p7 p8 o1 o2 o3 o4 o5 = some res) :
    Owns Try.prog 45 [.adr 0 0 13 0, .u8 does1, .i64 at1] (ob61 p1 p2 p3 p4 p5 p6 p7 p8 o1 o2 o3 o4 o5) (.tup []) (ob76 p1 res.1 p3 p4 res.2.2.1 res.2.2.2.1 res.2.2.2.2.1 res.2.2.2.2.2 o1 o2 o4 o5 res.2.1) := by
  refine Owns.of_body tbok Try.func45 (by kernel_rfl) rfl (nl rfl) (fun Bw w0 => ?_)
  unfold rq_rule_v3 at h
  refine W_seq ?_
  refine W_rs tbok ⟨[], []⟩ [] [0, 1, 2, 3, 4, 5] [(0, .adr 0 0 13 0), (1, .u8 does1), (2, .i64 at1), (14, .bo ((o3.length : Int) == (24 : Int)))] (ob61 p1 p2 p3 p4 p5 p6 p7 p8 o1 o2 o3 o4 o5) 6 6 (Ts 7 []) (by kernel_rfl) (tr 7 tt) ?_
  obtain ⟨r54, hp3, h⟩ := h_bind h
  refine W.mono (Q := (postN Try.f45.ntmps (fun ((p11, p12) : Int × Int) => mkSt [(0, .adr 0 0 13 0), (1, .u8 does1)] (ob61 p1 p2 p3 p4 p5 p6 p11 p12 o1 o2 o3 o4 o5) 6 6)) r54) ?_ (fun e σ' hq => ?_)
  · replace h := hp3
    clear hp3
    refine W_cond (b := ((o3.length : Int) == (24 : Int))) (β := false) (by kernel_rfl) (fun hb6 => ?_) (fun hb6 => ?_)
    · replace h := h_if hb6 h
      obtain ⟨⟨r52, r53⟩, q16, h⟩ := h_bind h
      have u_1 := (rq_bad_v6_ok (24 : Int) at1 p1 p2 p3 p4 p5 p6 p7 p8 o1 o2 o3 o4 o5 _ q16)
      refine W_r tbok ⟨[], [(2, ⟨.tup [], [false, false, false], true, [true, true, true], [0, 1, 2, 3, 4, 5], (ob61 p1 p2 p3 p4 p5 p6 r52 r53 o1 o2 o3 o4 o5), none⟩)]⟩ [] [0, 1, 2, 3, 4, 5] [(0, .adr 0 0 13 0), (1, .u8 does1)] (ob61 p1 p2 p3 p4 p5 p6 r52 r53 o1 o2 o3 o4 o5) 6 6 [True, True, pO u_1] (by kernel_rfl) ⟨tt, tt, u_1, tt⟩ ?_
      obtain rfl := sI h
      exact postN_to (gl [] [0, 1, 2, 3, 4, 5] (by kernel_rfl))
    replace h := h_else hb6 h
    refine W_skip_to ?_
    obtain rfl := sI h
    exact postN_to (gl [] [0, 1, 2, 3, 4, 5] (by kernel_rfl))
  clear hp3
  obtain ⟨p11, p12⟩ := r54
  obtain ⟨rfl, hle⟩ := hq
  refine use_to ?_ hle
  refine to_then ?_
  obtain ⟨⟨r61, r62, r63, r64, r65, r66⟩, q18, h⟩ := h_bind h
  have u_1 := (rq_either_v3_ok 1000 p1 p2 p3 p4 p5 p6 p11 p12 o1 o2 o3 o4 o5 _ q18)
  refine W_rs tbok ⟨[], [(1, ⟨.agg [.u8 r61.op, .u32 r61.set, .p false (.slice (.tree .u8 .u32)) r61.kids], [false], true, [true], [0, 1, 2, 3, 4, 5], (ob61 p1 r62 p3 p4 r63 r64 r65 r66 o1 o2 o3 o4 o5), none⟩)]⟩ [] [0, 1, 2, 3, 4, 5, 22] [(0, .adr 0 0 13 0), (1, .u8 does1), (6, .adr 6 0 3 0)] (ob73 p1 r62 p3 p4 r63 r64 r65 r66 o1 o2 o3 o4 o5 r61.op r61.set r61.kids) 7 6 [True, pO u_1, True, True] (by kernel_rfl) ⟨tt, u_1, tt, tt, tt⟩ ?_
  obtain ⟨⟨r70, r71, r72⟩, q20, h⟩ := h_bind h
  have u_1 := (rq_want_v3_ok (47 : Int) p1 r62 p3 p4 r63 r64 r65 r66 o1 o2 o3 o4 o5 _ q20)
  refine W_rs tbok ⟨[], [(1, ⟨.tup [], [false, false], true, [true, true], [0, 1, 2, 3, 4, 5], (ob61 p1 r70 p3 p4 r63 r64 r71 r72 o1 o2 o3 o4 o5), none⟩)]⟩ [] [0, 1, 2, 3, 4, 5, 6] [(0, .adr 0 0 13 0), (1, .u8 does1), (6, .adr 6 0 3 0)] (ob73 p1 r70 p3 p4 r63 r64 r71 r72 o1 o2 o3 o4 o5 r61.op r61.set r61.kids) 7 6 [True, pO u_1] (by kernel_rfl) ⟨tt, u_1, tt⟩ ?_
  obtain ⟨⟨r79, r80, r81, r82, r83, r84⟩, q22, h⟩ := h_bind h
  have u_1 := (rq_either_v3_ok 1000 p1 r70 p3 p4 r63 r64 r71 r72 o1 o2 o3 o4 o5 _ q22)
  refine W_rs tbok ⟨[], [(1, ⟨.agg [.u8 r79.op, .u32 r79.set, .p false (.slice (.tree .u8 .u32)) r79.kids], [false], true, [true], [0, 1, 2, 3, 4, 5], (ob61 p1 r80 p3 p4 r81 r82 r83 r84 o1 o2 o3 o4 o5), none⟩)]⟩ [] [0, 1, 2, 3, 4, 5, 6, 23] [(0, .adr 0 0 13 0), (1, .u8 does1), (6, .adr 6 0 3 0), (7, .adr 7 0 3 0)] (ob75 p1 r80 p3 p4 r81 r82 r83 r84 o1 o2 o3 o4 o5 r61.op r61.set r61.kids r79.op r79.set r79.kids) 8 6 [True, pO u_1, True, True] (by kernel_rfl) ⟨tt, u_1, tt, tt, tt⟩ ?_
  obtain ⟨⟨r88, r89, r90⟩, q24, h⟩ := h_bind h
  have u_1 := (rq_want_v3_ok (59 : Int) p1 r80 p3 p4 r81 r82 r83 r84 o1 o2 o3 o4 o5 _ q24)
  refine W_rs tbok ⟨[], [(1, ⟨.tup [], [false, false], true, [true, true], [0, 1, 2, 3, 4, 5], (ob61 p1 r88 p3 p4 r81 r82 r89 r90 o1 o2 o3 o4 o5), none⟩)]⟩ [] [0, 1, 2, 3, 4, 5, 6, 7] [(0, .adr 0 0 13 0), (1, .u8 does1), (6, .adr 6 0 3 0), (7, .adr 7 0 3 0)] (ob75 p1 r88 p3 p4 r81 r82 r89 r90 o1 o2 o3 o4 o5 r61.op r61.set r61.kids r79.op r79.set r79.kids) 8 6 [True, pO u_1] (by kernel_rfl) ⟨tt, u_1, tt⟩ ?_
  refine W_rs tbok ⟨[], []⟩ [] [0, 1, 2, 3, 4, 5, 6, 7] [(0, .adr 0 0 13 0), (1, .u8 does1), (6, .adr 6 0 3 0), (7, .adr 7 0 3 0), (30, .bo (r89 == (0 : Int)))] (ob75 p1 r88 p3 p4 r81 r82 r89 r90 o1 o2 o3 o4 o5 r61.op r61.set r61.kids r79.op r79.set r79.kids) 8 6 (Ts 5 []) (by kernel_rfl) (tr 5 tt) ?_
  obtain ⟨v8, hp4, h⟩ := h_bind h
  refine W.mono (Q := (postN Try.f45.ntmps (fun (v8 : List (Int × Tree × Tree)) => mkSt [] (ob76 p1 r88 p3 p4 r81 r82 r89 r90 o1 o2 o4 o5 v8) 7 6)) v8) ?_ (fun e σ' hq => ?_)
  · replace h := hp4
    clear hp4
    refine W_cond (b := (r89 == (0 : Int))) (β := false) (by kernel_rfl) (fun hb8 => ?_) (fun hb8 => ?_)
    · replace h := h_if hb8 h
      obtain ⟨c8, h⟩ := h_guard h
      refine W_regD tbok mixed ⟨[], []⟩ [] [0, 1, 2, 3, 4, 5, 96] [] (ob76 p1 r88 p3 p4 r81 r82 r89 r90 o1 o2 o4 o5 (o3 ++ ([(does1, ((Tree.node r61.op r61.set r61.kids), (Tree.node r79.op r79.set r79.kids)))] : List (Int × Tree × Tree)))) 7 6 (Ts 11 (((o3.length + ([(does1, ((Tree.node r61.op r61.set r61.kids), (Tree.node r79.op r79.set r79.kids)))] : List (Int × Tree × Tree)).length) * 72 ≤ 140737488355328 ∧ o3.length + ([(does1, ((Tree.node r61.op r61.set r61.kids), (Tree.node r79.op r79.set r79.kids)))] : List (Int × Tree × Tree)).length ≤ 9223372036854775807) :: (Ts 4 []))) (by kernel_rfl) (by kernel_rfl) (tr 11 ⟨c8, (tr 4 tt)⟩) ?_
      obtain rfl := sI h
      exact postN_to (gl [] [0, 1, 2, 3, 4, 5, 6] (by kernel_rfl))
    replace h := h_else hb8 h
    refine W_skip_to ?_
    obtain rfl := sI h
    exact postN_to (gl [] [0, 1, 2, 3, 4, 5, 3] (by kernel_rfl))
  clear hp4
  obtain ⟨rfl, hle⟩ := hq
  refine use_to ?_ hle
  obtain rfl := sI h
  exact (RetO_intro [] [] [0, 1, 2, 3, 4, 5, 6] [] (ob76 p1 r88 p3 p4 r81 r82 r89 r90 o1 o2 o4 o5 v8) 7 6 (by kernel_rfl) (by kernel_rfl) (by kernel_rfl)).normal
end
end Go.Proofs.Ytjfjigknkhgkdaa.T
