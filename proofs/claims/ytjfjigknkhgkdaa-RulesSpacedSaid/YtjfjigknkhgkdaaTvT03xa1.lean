/- Functions of the program as functions on data, and that the program's own come to them. -/
import Derived.Test.YtjfjigknkhgkdaaTvT03x0
namespace Go.Proofs.Ytjfjigknkhgkdaa.T
open Go Go.Tv Go.Proofs
noncomputable section
set_option maxRecDepth 100000
set_option maxHeartbeats 4000000
def pq_fail (e1 at1 : Int) (p1 : List UInt8) (p2 p3 p4 p5 p6 : Int) (o1 : List ((List UInt8) × Int)) : Option ((Unit) ⊕ (Int × Int)) := some (Sum.inr (e1, at1))
theorem pq_fail_calls (v : Value) (e a : Int) (w : World) :
    Calls Try.prog 22 #[v, .int .i64 e, .int .i64 a] w fun r w' => r = .panicked [{ v := faultV 40 .i64 .i64 (e, a), recovered := false }] ∧ w' = w := by
  go_enter Try.func22, Try.ntmps22
  go_wp2
  exact ⟨rfl, rfl, rfl⟩
theorem pq_fail_ok (e1 at1 : Int) (p1 : List UInt8) (p2 p3 p4 p5 p6 : Int) (o1 : List ((List UInt8) × Int)) (res : (Unit) ⊕ (Int × Int)) (h : pq_fail e1 at1 p1 p2 p3 p4 p5 p6 o1 = some res) :
    Does Try.prog 22 [.adr 0 0 10 0, .i64 e1, .i64 at1] (ob3 p1 p2 p3 p4 p5 p6 o1) (outT (fun (q : Unit) => (.tup [], [])) (faultV 40 .i64 .i64) res) := by
  obtain rfl := sI h
  exact Dies.of_calls Try.func22 (by kernel_rfl) rfl (fun v w => pq_fail_calls v _ _ w)
def stringslite_IndexByte (s1 : List UInt8) (c1 : Int) : Option (Int) := some (idxB s1 c1 0)
theorem stringslite_IndexByte_calls (s : ByteArray) (c : Int) (w : World) :
    Calls Try.prog 61 #[.string s, .int .u8 c] w fun e w' => e = .returned (.int .i64 (Lib.indexByte s.data.toList c.toNat.toUInt8)) ∧ w' = w := by
  have hd : ∀ w, (callFunc 64 #[.string s, .int .u8 c]).run Try.prog w = .ok (.value (.int .i64 (Lib.indexByte s.data.toList c.toNat.toUInt8))) w := fun w => by
    rw [run_callFunc_extern (fn := Try.f64) (e := Extern.BytealgIndexByte.indexByte) Try.func64 (by kernel_rfl) rfl (by kernel_rfl) (by kernel_rfl), Lib.run_indexByteString]
    rfl
  go_enter Try.func61, Try.ntmps61
  go_wp2
  go_ret
  exact ⟨rfl, rfl⟩
theorem stringslite_IndexByte_ok (s1 : List UInt8) (c1 res : Int) (h : stringslite_IndexByte s1 c1 = some res) :
    Pure Try.prog 61 [.st s1, .u8 c1] (wrapR (encs false [⟨(.int .i64), res⟩])) := by
  obtain rfl := sI h
  exact Pure.of_idx Try.func61 (by kernel_rfl) rfl (fun s w => stringslite_IndexByte_calls s _ w)
def strings_IndexByte (s1 : List UInt8) (c1 : Int) : Option (Int) :=
  ((stringslite_IndexByte s1 c1).bind fun (r2 : Int) =>
  some r2)
theorem strings_IndexByte_ok (s1 : List UInt8) (c1 res : Int) (h : strings_IndexByte s1 c1 = some res) :
    Pure Try.prog 52 [.st s1, .u8 c1] (wrapR (encs false [⟨(.int .i64), res⟩])) := by
  refine Pure.of_body tbok Try.func52 (by kernel_rfl) rfl (nl rfl) (fun Bw w0 => ?_) rfl
  unfold strings_IndexByte at h
  refine W_rs tbok ⟨[], []⟩ [] [] [(0, .st s1), (1, .u8 c1)] [] 0 0 [True] (by kernel_rfl) ⟨tt, tt⟩ ?_
  obtain ⟨r2, q2, h⟩ := h_bind h
  have u_1 := (stringslite_IndexByte_ok s1 c1 _ q2)
  refine W_rs tbok ⟨[], [(2, ⟨.i64 r2, [false, false], false, [true, true], [], [], none⟩)]⟩ [] [] [(4, .i64 r2)] [] 0 0 [True, True, pO u_1, True] (by kernel_rfl) ⟨tt, tt, u_1, tt, tt⟩ ?_
  refine W_ret ?_
  obtain rfl := sI h
  exact Ret_intro [(.int .i64)] (by kernel_rfl)
def rules_blank (c1 : Int) : Option (Bool) :=
  (((if (c1 == (32 : Int)) = true then some (true)
  else (if (c1 == (9 : Int)) = true then some (true)
  else (if (c1 == (10 : Int)) = true then some (true)
  else some ((c1 == (13 : Int))))))).bind fun (v1 : Bool) => some v1)
theorem rules_blank_ok (c1 : Int) (res : Bool) (h : rules_blank c1 = some res) :
    Pure Try.prog 53 [.u8 c1] (wrapR (encs false [⟨.bool, res⟩])) := by
  refine Pure.of_body tbok Try.func53 (by kernel_rfl) rfl (nl rfl) (fun Bw w0 => ?_) rfl
  unfold rules_blank at h
  refine W_rs tbok ⟨[], []⟩ [] [] [(0, .u8 c1)] [] 0 0 [True] (by kernel_rfl) ⟨tt, tt⟩ ?_
  refine W_seq ?_
  obtain ⟨v1, hp1, h⟩ := h_bind h
  refine W.mono (Q := (postN Try.f53.ntmps (fun (v1 : Bool) => mkSt [(2, .bo v1)] [] 0)) v1) ?_ (fun e σ' hq => ?_)
  · replace h := hp1
    clear hp1
    rcases bb (c1 == (32 : Int)) with hb7 | hb7
    · replace h := h_if hb7 h
      refine W_r tbok ⟨[(2, true), (5, true), (6, true), (9, true), (10, true), (13, true)], []⟩ [] [] [(2, .bo true)] [] 0 0 (Ts 3 [(c1 == (32 : Int)) = true, (c1 == (32 : Int)) = true, (c1 == (32 : Int)) = true, True, true = true, true = true, true = true, True, true = true, true = true, true = true, True]) (by kernel_rfl) (tr 3 ⟨hb7, hb7, hb7, tt, rfl, rfl, rfl, tt, rfl, rfl, rfl, tt, tt⟩) ?_
      obtain rfl := sI h
      exact postN_to (gl [] [] (by kernel_rfl))
    replace h := h_else hb7 h
    rcases bb (c1 == (9 : Int)) with hb8 | hb8
    · replace h := h_if hb8 h
      refine W_r tbok ⟨[(2, false), (5, false), (6, true), (9, true), (10, true), (13, true)], []⟩ [] [] [(2, .bo true)] [] 0 0 (Ts 3 [(c1 == (32 : Int)) = false ∧ True, (c1 == (32 : Int)) = false ∧ True, (c1 == (32 : Int)) = false, True, (c1 == (9 : Int)) = true, (c1 == (9 : Int)) = true, (c1 == (9 : Int)) = true, True, true = true, true = true, true = true, True]) (by kernel_rfl) (tr 3 ⟨⟨hb7, tt⟩, ⟨hb7, tt⟩, hb7, tt, hb8, hb8, hb8, tt, rfl, rfl, rfl, tt, tt⟩) ?_
      obtain rfl := sI h
      exact postN_to (gl [] [] (by kernel_rfl))
    replace h := h_else hb8 h
    rcases bb (c1 == (10 : Int)) with hb9 | hb9
    · replace h := h_if hb9 h
      refine W_r tbok ⟨[(2, false), (5, false), (6, false), (9, false), (10, true), (13, true)], []⟩ [] [] [(2, .bo true)] [] 0 0 (Ts 3 [(c1 == (32 : Int)) = false ∧ True, (c1 == (32 : Int)) = false ∧ True, (c1 == (32 : Int)) = false, True, (c1 == (9 : Int)) = false ∧ True, (c1 == (9 : Int)) = false ∧ True, (c1 == (9 : Int)) = false, True, (c1 == (10 : Int)) = true, (c1 == (10 : Int)) = true, (c1 == (10 : Int)) = true, True]) (by kernel_rfl) (tr 3 ⟨⟨hb7, tt⟩, ⟨hb7, tt⟩, hb7, tt, ⟨hb8, tt⟩, ⟨hb8, tt⟩, hb8, tt, hb9, hb9, hb9, tt, tt⟩) ?_
      obtain rfl := sI h
      exact postN_to (gl [] [] (by kernel_rfl))
    replace h := h_else hb9 h
    refine W_r tbok ⟨[(2, false), (5, false), (6, false), (9, false), (10, false), (13, false)], []⟩ [] [] [(2, .bo (c1 == (13 : Int)))] [] 0 0 (Ts 3 [(c1 == (32 : Int)) = false ∧ True, (c1 == (32 : Int)) = false ∧ True, (c1 == (32 : Int)) = false, True, (c1 == (9 : Int)) = false ∧ True, (c1 == (9 : Int)) = false ∧ True, (c1 == (9 : Int)) = false, True, (c1 == (10 : Int)) = false ∧ True, (c1 == (10 : Int)) = false ∧ True, (c1 == (10 : Int)) = false, True]) (by kernel_rfl) (tr 3 ⟨⟨hb7, tt⟩, ⟨hb7, tt⟩, hb7, tt, ⟨hb8, tt⟩, ⟨hb8, tt⟩, hb8, tt, ⟨hb9, tt⟩, ⟨hb9, tt⟩, hb9, tt, tt⟩) ?_
    obtain rfl := sI h
    exact postN_to (gl [] [] (by kernel_rfl))
  clear hp1
  obtain ⟨rfl, hle⟩ := hq
  refine use_to ?_ hle
  refine to_then ?_
  refine W_ret ?_
  obtain rfl := sI h
  exact Ret_intro [.bool] (by kernel_rfl)
def rules_letter (c1 : Int) : Option (Bool) :=
  (((if (c1 == (95 : Int)) = true then some (true)
  else (if (decide (c1 ≥ (97 : Int))) = true then (if (decide (c1 ≤ (122 : Int))) = true then some (true)
  else (if (decide (c1 ≥ (65 : Int))) = true then (if (decide (c1 ≤ (90 : Int))) = true then some (true)
  else (if (decide (c1 ≥ (48 : Int))) = true then some ((decide (c1 ≤ (57 : Int))))
  else some (false)))
  else (if (decide (c1 ≥ (48 : Int))) = true then some ((decide (c1 ≤ (57 : Int))))
  else some (false))))
  else (if (decide (c1 ≥ (65 : Int))) = true then (if (decide (c1 ≤ (90 : Int))) = true then some (true)
  else (if (decide (c1 ≥ (48 : Int))) = true then some ((decide (c1 ≤ (57 : Int))))
  else some (false)))
  else (if (decide (c1 ≥ (48 : Int))) = true then some ((decide (c1 ≤ (57 : Int))))
  else some (false)))))).bind fun (v1 : Bool) => some v1)
theorem rules_letter_ok (c1 : Int) (res : Bool) (h : rules_letter c1 = some res) :
    Pure Try.prog 54 [.u8 c1] (wrapR (encs false [⟨.bool, res⟩])) := by
  refine Pure.of_body tbok Try.func54 (by kernel_rfl) rfl (nl rfl) (fun Bw w0 => ?_) rfl
  unfold rules_letter at h
  refine W_rs tbok ⟨[], []⟩ [] [] [(0, .u8 c1)] [] 0 0 [True] (by kernel_rfl) ⟨tt, tt⟩ ?_
  refine W_seq ?_
  obtain ⟨v1, hp1, h⟩ := h_bind h
  refine W.mono (Q := (postN Try.f54.ntmps (fun (v1 : Bool) => mkSt [(2, .bo v1)] [] 0)) v1) ?_ (fun e σ' hq => ?_)
  · replace h := hp1
    clear hp1
    rcases bb (c1 == (95 : Int)) with hb23 | hb23
    · replace h := h_if hb23 h
      refine W_r tbok ⟨[(2, true), (9, true), (10, true), (17, true), (18, true), (25, true)], []⟩ [] [] [(2, .bo true)] [] 0 0 (Ts 3 [(c1 == (95 : Int)) = true, (c1 == (95 : Int)) = true, (c1 == (95 : Int)) = true, True, True, (c1 == (95 : Int)) = true, (c1 == (95 : Int)) = true, True, true = true, true = true, true = true, True, True, true = true, true = true, True, true = true, true = true, true = true, True, True, true = true, true = true, True]) (by kernel_rfl) (tr 3 ⟨hb23, hb23, hb23, tt, tt, hb23, hb23, tt, rfl, rfl, rfl, tt, tt, rfl, rfl, tt, rfl, rfl, rfl, tt, tt, rfl, rfl, tt, tt⟩) ?_
      obtain rfl := sI h
      exact postN_to (gl [] [] (by kernel_rfl))
    replace h := h_else hb23 h
    rcases bb (decide (c1 ≥ (97 : Int))) with hb24 | hb24
    · replace h := h_if hb24 h
      rcases bb (decide (c1 ≤ (122 : Int))) with hb25 | hb25
      · replace h := h_if hb25 h
        refine W_r tbok ⟨[(2, false), (5, true), (8, true), (9, false), (10, true), (17, true), (18, true), (25, true)], []⟩ [] [] [(2, .bo true)] [] 0 0 (Ts 3 [(c1 == (95 : Int)) = false ∧ True, (c1 == (95 : Int)) = false ∧ True, (c1 == (95 : Int)) = false ∧ True, (decide (c1 ≥ (97 : Int))) = true ∧ True, (decide (c1 ≥ (97 : Int))) = true ∧ True, (c1 == (95 : Int)) = false ∧ (decide (c1 ≥ (97 : Int))) = true, (c1 == (95 : Int)) = false, True, (decide (c1 ≤ (122 : Int))) = true, (decide (c1 ≤ (122 : Int))) = true, (decide (c1 ≤ (122 : Int))) = true, True, True, (decide (c1 ≤ (122 : Int))) = true, (decide (c1 ≤ (122 : Int))) = true, True, true = true, true = true, true = true, True, True, true = true, true = true, True]) (by kernel_rfl) (tr 3 ⟨⟨hb23, tt⟩, ⟨hb23, tt⟩, ⟨hb23, tt⟩, ⟨hb24, tt⟩, ⟨hb24, tt⟩, ⟨hb23, hb24⟩, hb23, tt, hb25, hb25, hb25, tt, tt, hb25, hb25, tt, rfl, rfl, rfl, tt, tt, rfl, rfl, tt, tt⟩) ?_
        obtain rfl := sI h
        exact postN_to (gl [] [] (by kernel_rfl))
      replace h := h_else hb25 h
      rcases bb (decide (c1 ≥ (65 : Int))) with hb26 | hb26
      · replace h := h_if hb26 h
        rcases bb (decide (c1 ≤ (90 : Int))) with hb27 | hb27
        · replace h := h_if hb27 h
          refine W_r tbok ⟨[(2, false), (5, true), (8, true), (9, false), (10, false), (13, true), (16, true), (17, false), (18, true), (25, true)], []⟩ [] [] [(2, .bo true)] [] 0 0 (Ts 3 [(c1 == (95 : Int)) = false ∧ True, (c1 == (95 : Int)) = false ∧ True, (c1 == (95 : Int)) = false ∧ True, (decide (c1 ≥ (97 : Int))) = true ∧ True, (decide (c1 ≥ (97 : Int))) = true ∧ True, (c1 == (95 : Int)) = false ∧ (decide (c1 ≥ (97 : Int))) = true, (c1 == (95 : Int)) = false, True, (decide (c1 ≤ (122 : Int))) = false ∧ True, (decide (c1 ≤ (122 : Int))) = false ∧ True, (decide (c1 ≤ (122 : Int))) = false ∧ True, (decide (c1 ≥ (65 : Int))) = true ∧ True, (decide (c1 ≥ (65 : Int))) = true ∧ True, (decide (c1 ≤ (122 : Int))) = false ∧ (decide (c1 ≥ (65 : Int))) = true, (decide (c1 ≤ (122 : Int))) = false, True, (decide (c1 ≤ (90 : Int))) = true, (decide (c1 ≤ (90 : Int))) = true, (decide (c1 ≤ (90 : Int))) = true, True, True, (decide (c1 ≤ (90 : Int))) = true, (decide (c1 ≤ (90 : Int))) = true, True]) (by kernel_rfl) (tr 3 ⟨⟨hb23, tt⟩, ⟨hb23, tt⟩, ⟨hb23, tt⟩, ⟨hb24, tt⟩, ⟨hb24, tt⟩, ⟨hb23, hb24⟩, hb23, tt, ⟨hb25, tt⟩, ⟨hb25, tt⟩, ⟨hb25, tt⟩, ⟨hb26, tt⟩, ⟨hb26, tt⟩, ⟨hb25, hb26⟩, hb25, tt, hb27, hb27, hb27, tt, tt, hb27, hb27, tt, tt⟩) ?_
          obtain rfl := sI h
          exact postN_to (gl [] [] (by kernel_rfl))
        replace h := h_else hb27 h
        rcases bb (decide (c1 ≥ (48 : Int))) with hb28 | hb28
        · replace h := h_if hb28 h
          refine W_r tbok ⟨[(2, false), (5, true), (8, true), (9, false), (10, false), (13, true), (16, true), (17, false), (18, false), (21, true), (24, true), (25, false)], []⟩ [] [] [(2, .bo (decide (c1 ≤ (57 : Int))))] [] 0 0 (Ts 3 [(c1 == (95 : Int)) = false ∧ True, (c1 == (95 : Int)) = false ∧ True, (c1 == (95 : Int)) = false ∧ True, (decide (c1 ≥ (97 : Int))) = true ∧ True, (decide (c1 ≥ (97 : Int))) = true ∧ True, (c1 == (95 : Int)) = false ∧ (decide (c1 ≥ (97 : Int))) = true, (c1 == (95 : Int)) = false, True, (decide (c1 ≤ (122 : Int))) = false ∧ True, (decide (c1 ≤ (122 : Int))) = false ∧ True, (decide (c1 ≤ (122 : Int))) = false ∧ True, (decide (c1 ≥ (65 : Int))) = true ∧ True, (decide (c1 ≥ (65 : Int))) = true ∧ True, (decide (c1 ≤ (122 : Int))) = false ∧ (decide (c1 ≥ (65 : Int))) = true, (decide (c1 ≤ (122 : Int))) = false, True, (decide (c1 ≤ (90 : Int))) = false ∧ True, (decide (c1 ≤ (90 : Int))) = false ∧ True, (decide (c1 ≤ (90 : Int))) = false ∧ True, (decide (c1 ≥ (48 : Int))) = true ∧ True, (decide (c1 ≥ (48 : Int))) = true ∧ True, (decide (c1 ≤ (90 : Int))) = false ∧ (decide (c1 ≥ (48 : Int))) = true, (decide (c1 ≤ (90 : Int))) = false, True]) (by kernel_rfl) (tr 3 ⟨⟨hb23, tt⟩, ⟨hb23, tt⟩, ⟨hb23, tt⟩, ⟨hb24, tt⟩, ⟨hb24, tt⟩, ⟨hb23, hb24⟩, hb23, tt, ⟨hb25, tt⟩, ⟨hb25, tt⟩, ⟨hb25, tt⟩, ⟨hb26, tt⟩, ⟨hb26, tt⟩, ⟨hb25, hb26⟩, hb25, tt, ⟨hb27, tt⟩, ⟨hb27, tt⟩, ⟨hb27, tt⟩, ⟨hb28, tt⟩, ⟨hb28, tt⟩, ⟨hb27, hb28⟩, hb27, tt, tt⟩) ?_
          obtain rfl := sI h
          exact postN_to (gl [] [] (by kernel_rfl))
        replace h := h_else hb28 h
        refine W_r tbok ⟨[(2, false), (5, true), (8, true), (9, false), (10, false), (13, true), (16, true), (17, false), (18, false), (21, false), (24, false), (25, false)], []⟩ [] [] [(2, .bo false)] [] 0 0 (Ts 3 [(c1 == (95 : Int)) = false ∧ True, (c1 == (95 : Int)) = false ∧ True, (c1 == (95 : Int)) = false ∧ True, (decide (c1 ≥ (97 : Int))) = true ∧ True, (decide (c1 ≥ (97 : Int))) = true ∧ True, (c1 == (95 : Int)) = false ∧ (decide (c1 ≥ (97 : Int))) = true, (c1 == (95 : Int)) = false, True, (decide (c1 ≤ (122 : Int))) = false ∧ True, (decide (c1 ≤ (122 : Int))) = false ∧ True, (decide (c1 ≤ (122 : Int))) = false ∧ True, (decide (c1 ≥ (65 : Int))) = true ∧ True, (decide (c1 ≥ (65 : Int))) = true ∧ True, (decide (c1 ≤ (122 : Int))) = false ∧ (decide (c1 ≥ (65 : Int))) = true, (decide (c1 ≤ (122 : Int))) = false, True, (decide (c1 ≤ (90 : Int))) = false ∧ True, (decide (c1 ≤ (90 : Int))) = false ∧ True, (decide (c1 ≤ (90 : Int))) = false ∧ True, (decide (c1 ≥ (48 : Int))) = false, (decide (c1 ≥ (48 : Int))) = false, (decide (c1 ≤ (90 : Int))) = false ∧ (decide (c1 ≥ (48 : Int))) = false, (decide (c1 ≤ (90 : Int))) = false, True]) (by kernel_rfl) (tr 3 ⟨⟨hb23, tt⟩, ⟨hb23, tt⟩, ⟨hb23, tt⟩, ⟨hb24, tt⟩, ⟨hb24, tt⟩, ⟨hb23, hb24⟩, hb23, tt, ⟨hb25, tt⟩, ⟨hb25, tt⟩, ⟨hb25, tt⟩, ⟨hb26, tt⟩, ⟨hb26, tt⟩, ⟨hb25, hb26⟩, hb25, tt, ⟨hb27, tt⟩, ⟨hb27, tt⟩, ⟨hb27, tt⟩, hb28, hb28, ⟨hb27, hb28⟩, hb27, tt, tt⟩) ?_
        obtain rfl := sI h
        exact postN_to (gl [] [] (by kernel_rfl))
      replace h := h_else hb26 h
      rcases bb (decide (c1 ≥ (48 : Int))) with hb29 | hb29
      · replace h := h_if hb29 h
        refine W_r tbok ⟨[(2, false), (5, true), (8, true), (9, false), (10, false), (13, false), (16, false), (17, false), (18, false), (21, true), (24, true), (25, false)], []⟩ [] [] [(2, .bo (decide (c1 ≤ (57 : Int))))] [] 0 0 (Ts 3 [(c1 == (95 : Int)) = false ∧ True, (c1 == (95 : Int)) = false ∧ True, (c1 == (95 : Int)) = false ∧ True, (decide (c1 ≥ (97 : Int))) = true ∧ True, (decide (c1 ≥ (97 : Int))) = true ∧ True, (c1 == (95 : Int)) = false ∧ (decide (c1 ≥ (97 : Int))) = true, (c1 == (95 : Int)) = false, True, (decide (c1 ≤ (122 : Int))) = false ∧ True, (decide (c1 ≤ (122 : Int))) = false ∧ True, (decide (c1 ≤ (122 : Int))) = false ∧ True, (decide (c1 ≥ (65 : Int))) = false, (decide (c1 ≥ (65 : Int))) = false, (decide (c1 ≤ (122 : Int))) = false ∧ (decide (c1 ≥ (65 : Int))) = false, (decide (c1 ≤ (122 : Int))) = false, True, false = false ∧ True, false = false ∧ True, false = false ∧ True, (decide (c1 ≥ (48 : Int))) = true ∧ True, (decide (c1 ≥ (48 : Int))) = true ∧ True, false = false ∧ (decide (c1 ≥ (48 : Int))) = true, false = false, True]) (by kernel_rfl) (tr 3 ⟨⟨hb23, tt⟩, ⟨hb23, tt⟩, ⟨hb23, tt⟩, ⟨hb24, tt⟩, ⟨hb24, tt⟩, ⟨hb23, hb24⟩, hb23, tt, ⟨hb25, tt⟩, ⟨hb25, tt⟩, ⟨hb25, tt⟩, hb26, hb26, ⟨hb25, hb26⟩, hb25, tt, ⟨rfl, tt⟩, ⟨rfl, tt⟩, ⟨rfl, tt⟩, ⟨hb29, tt⟩, ⟨hb29, tt⟩, ⟨rfl, hb29⟩, rfl, tt, tt⟩) ?_
        obtain rfl := sI h
        exact postN_to (gl [] [] (by kernel_rfl))
      replace h := h_else hb29 h
      refine W_r tbok ⟨[(2, false), (5, true), (8, true), (9, false), (10, false), (13, false), (16, false), (17, false), (18, false), (21, false), (24, false), (25, false)], []⟩ [] [] [(2, .bo false)] [] 0 0 (Ts 3 [(c1 == (95 : Int)) = false ∧ True, (c1 == (95 : Int)) = false ∧ True, (c1 == (95 : Int)) = false ∧ True, (decide (c1 ≥ (97 : Int))) = true ∧ True, (decide (c1 ≥ (97 : Int))) = true ∧ True, (c1 == (95 : Int)) = false ∧ (decide (c1 ≥ (97 : Int))) = true, (c1 == (95 : Int)) = false, True, (decide (c1 ≤ (122 : Int))) = false ∧ True, (decide (c1 ≤ (122 : Int))) = false ∧ True, (decide (c1 ≤ (122 : Int))) = false ∧ True, (decide (c1 ≥ (65 : Int))) = false, (decide (c1 ≥ (65 : Int))) = false, (decide (c1 ≤ (122 : Int))) = false ∧ (decide (c1 ≥ (65 : Int))) = false, (decide (c1 ≤ (122 : Int))) = false, True, false = false ∧ True, false = false ∧ True, false = false ∧ True, (decide (c1 ≥ (48 : Int))) = false, (decide (c1 ≥ (48 : Int))) = false, false = false ∧ (decide (c1 ≥ (48 : Int))) = false, false = false, True]) (by kernel_rfl) (tr 3 ⟨⟨hb23, tt⟩, ⟨hb23, tt⟩, ⟨hb23, tt⟩, ⟨hb24, tt⟩, ⟨hb24, tt⟩, ⟨hb23, hb24⟩, hb23, tt, ⟨hb25, tt⟩, ⟨hb25, tt⟩, ⟨hb25, tt⟩, hb26, hb26, ⟨hb25, hb26⟩, hb25, tt, ⟨rfl, tt⟩, ⟨rfl, tt⟩, ⟨rfl, tt⟩, hb29, hb29, ⟨rfl, hb29⟩, rfl, tt, tt⟩) ?_
      obtain rfl := sI h
      exact postN_to (gl [] [] (by kernel_rfl))
    replace h := h_else hb24 h
    rcases bb (decide (c1 ≥ (65 : Int))) with hb30 | hb30
    · replace h := h_if hb30 h
      rcases bb (decide (c1 ≤ (90 : Int))) with hb31 | hb31
      · replace h := h_if hb31 h
        refine W_r tbok ⟨[(2, false), (5, false), (8, false), (9, false), (10, false), (13, true), (16, true), (17, false), (18, true), (25, true)], []⟩ [] [] [(2, .bo true)] [] 0 0 (Ts 3 [(c1 == (95 : Int)) = false ∧ True, (c1 == (95 : Int)) = false ∧ True, (c1 == (95 : Int)) = false ∧ True, (decide (c1 ≥ (97 : Int))) = false, (decide (c1 ≥ (97 : Int))) = false, (c1 == (95 : Int)) = false ∧ (decide (c1 ≥ (97 : Int))) = false, (c1 == (95 : Int)) = false, True, false = false ∧ True, false = false ∧ True, false = false ∧ True, (decide (c1 ≥ (65 : Int))) = true ∧ True, (decide (c1 ≥ (65 : Int))) = true ∧ True, false = false ∧ (decide (c1 ≥ (65 : Int))) = true, false = false, True, (decide (c1 ≤ (90 : Int))) = true, (decide (c1 ≤ (90 : Int))) = true, (decide (c1 ≤ (90 : Int))) = true, True, True, (decide (c1 ≤ (90 : Int))) = true, (decide (c1 ≤ (90 : Int))) = true, True]) (by kernel_rfl) (tr 3 ⟨⟨hb23, tt⟩, ⟨hb23, tt⟩, ⟨hb23, tt⟩, hb24, hb24, ⟨hb23, hb24⟩, hb23, tt, ⟨rfl, tt⟩, ⟨rfl, tt⟩, ⟨rfl, tt⟩, ⟨hb30, tt⟩, ⟨hb30, tt⟩, ⟨rfl, hb30⟩, rfl, tt, hb31, hb31, hb31, tt, tt, hb31, hb31, tt, tt⟩) ?_
        obtain rfl := sI h
        exact postN_to (gl [] [] (by kernel_rfl))
      replace h := h_else hb31 h
      rcases bb (decide (c1 ≥ (48 : Int))) with hb32 | hb32
      · replace h := h_if hb32 h
        refine W_r tbok ⟨[(2, false), (5, false), (8, false), (9, false), (10, false), (13, true), (16, true), (17, false), (18, false), (21, true), (24, true), (25, false)], []⟩ [] [] [(2, .bo (decide (c1 ≤ (57 : Int))))] [] 0 0 (Ts 3 [(c1 == (95 : Int)) = false ∧ True, (c1 == (95 : Int)) = false ∧ True, (c1 == (95 : Int)) = false ∧ True, (decide (c1 ≥ (97 : Int))) = false, (decide (c1 ≥ (97 : Int))) = false, (c1 == (95 : Int)) = false ∧ (decide (c1 ≥ (97 : Int))) = false, (c1 == (95 : Int)) = false, True, false = false ∧ True, false = false ∧ True, false = false ∧ True, (decide (c1 ≥ (65 : Int))) = true ∧ True, (decide (c1 ≥ (65 : Int))) = true ∧ True, false = false ∧ (decide (c1 ≥ (65 : Int))) = true, false = false, True, (decide (c1 ≤ (90 : Int))) = false ∧ True, (decide (c1 ≤ (90 : Int))) = false ∧ True, (decide (c1 ≤ (90 : Int))) = false ∧ True, (decide (c1 ≥ (48 : Int))) = true ∧ True, (decide (c1 ≥ (48 : Int))) = true ∧ True, (decide (c1 ≤ (90 : Int))) = false ∧ (decide (c1 ≥ (48 : Int))) = true, (decide (c1 ≤ (90 : Int))) = false, True]) (by kernel_rfl) (tr 3 ⟨⟨hb23, tt⟩, ⟨hb23, tt⟩, ⟨hb23, tt⟩, hb24, hb24, ⟨hb23, hb24⟩, hb23, tt, ⟨rfl, tt⟩, ⟨rfl, tt⟩, ⟨rfl, tt⟩, ⟨hb30, tt⟩, ⟨hb30, tt⟩, ⟨rfl, hb30⟩, rfl, tt, ⟨hb31, tt⟩, ⟨hb31, tt⟩, ⟨hb31, tt⟩, ⟨hb32, tt⟩, ⟨hb32, tt⟩, ⟨hb31, hb32⟩, hb31, tt, tt⟩) ?_
        obtain rfl := sI h
        exact postN_to (gl [] [] (by kernel_rfl))
      replace h := h_else hb32 h
      refine W_r tbok ⟨[(2, false), (5, false), (8, false), (9, false), (10, false), (13, true), (16, true), (17, false), (18, false), (21, false), (24, false), (25, false)], []⟩ [] [] [(2, .bo false)] [] 0 0 (Ts 3 [(c1 == (95 : Int)) = false ∧ True, (c1 == (95 : Int)) = false ∧ True, (c1 == (95 : Int)) = false ∧ True, (decide (c1 ≥ (97 : Int))) = false, (decide (c1 ≥ (97 : Int))) = false, (c1 == (95 : Int)) = false ∧ (decide (c1 ≥ (97 : Int))) = false, (c1 == (95 : Int)) = false, True, false = false ∧ True, false = false ∧ True, false = false ∧ True, (decide (c1 ≥ (65 : Int))) = true ∧ True, (decide (c1 ≥ (65 : Int))) = true ∧ True, false = false ∧ (decide (c1 ≥ (65 : Int))) = true, false = false, True, (decide (c1 ≤ (90 : Int))) = false ∧ True, (decide (c1 ≤ (90 : Int))) = false ∧ True, (decide (c1 ≤ (90 : Int))) = false ∧ True, (decide (c1 ≥ (48 : Int))) = false, (decide (c1 ≥ (48 : Int))) = false, (decide (c1 ≤ (90 : Int))) = false ∧ (decide (c1 ≥ (48 : Int))) = false, (decide (c1 ≤ (90 : Int))) = false, True]) (by kernel_rfl) (tr 3 ⟨⟨hb23, tt⟩, ⟨hb23, tt⟩, ⟨hb23, tt⟩, hb24, hb24, ⟨hb23, hb24⟩, hb23, tt, ⟨rfl, tt⟩, ⟨rfl, tt⟩, ⟨rfl, tt⟩, ⟨hb30, tt⟩, ⟨hb30, tt⟩, ⟨rfl, hb30⟩, rfl, tt, ⟨hb31, tt⟩, ⟨hb31, tt⟩, ⟨hb31, tt⟩, hb32, hb32, ⟨hb31, hb32⟩, hb31, tt, tt⟩) ?_
      obtain rfl := sI h
      exact postN_to (gl [] [] (by kernel_rfl))
    replace h := h_else hb30 h
    rcases bb (decide (c1 ≥ (48 : Int))) with hb33 | hb33
    · replace h := h_if hb33 h
      refine W_r tbok ⟨[(2, false), (5, false), (8, false), (9, false), (10, false), (13, false), (16, false), (17, false), (18, false), (21, true), (24, true), (25, false)], []⟩ [] [] [(2, .bo (decide (c1 ≤ (57 : Int))))] [] 0 0 (Ts 3 [(c1 == (95 : Int)) = false ∧ True, (c1 == (95 : Int)) = false ∧ True, (c1 == (95 : Int)) = false ∧ True, (decide (c1 ≥ (97 : Int))) = false, (decide (c1 ≥ (97 : Int))) = false, (c1 == (95 : Int)) = false ∧ (decide (c1 ≥ (97 : Int))) = false, (c1 == (95 : Int)) = false, True, false = false ∧ True, false = false ∧ True, false = false ∧ True, (decide (c1 ≥ (65 : Int))) = false, (decide (c1 ≥ (65 : Int))) = false, false = false ∧ (decide (c1 ≥ (65 : Int))) = false, false = false, True, false = false ∧ True, false = false ∧ True, false = false ∧ True, (decide (c1 ≥ (48 : Int))) = true ∧ True, (decide (c1 ≥ (48 : Int))) = true ∧ True, false = false ∧ (decide (c1 ≥ (48 : Int))) = true, false = false, True]) (by kernel_rfl) (tr 3 ⟨⟨hb23, tt⟩, ⟨hb23, tt⟩, ⟨hb23, tt⟩, hb24, hb24, ⟨hb23, hb24⟩, hb23, tt, ⟨rfl, tt⟩, ⟨rfl, tt⟩, ⟨rfl, tt⟩, hb30, hb30, ⟨rfl, hb30⟩, rfl, tt, ⟨rfl, tt⟩, ⟨rfl, tt⟩, ⟨rfl, tt⟩, ⟨hb33, tt⟩, ⟨hb33, tt⟩, ⟨rfl, hb33⟩, rfl, tt, tt⟩) ?_
      obtain rfl := sI h
      exact postN_to (gl [] [] (by kernel_rfl))
    replace h := h_else hb33 h
    refine W_r tbok ⟨[(2, false), (5, false), (8, false), (9, false), (10, false), (13, false), (16, false), (17, false), (18, false), (21, false), (24, false), (25, false)], []⟩ [] [] [(2, .bo false)] [] 0 0 (Ts 3 [(c1 == (95 : Int)) = false ∧ True, (c1 == (95 : Int)) = false ∧ True, (c1 == (95 : Int)) = false ∧ True, (decide (c1 ≥ (97 : Int))) = false, (decide (c1 ≥ (97 : Int))) = false, (c1 == (95 : Int)) = false ∧ (decide (c1 ≥ (97 : Int))) = false, (c1 == (95 : Int)) = false, True, false = false ∧ True, false = false ∧ True, false = false ∧ True, (decide (c1 ≥ (65 : Int))) = false, (decide (c1 ≥ (65 : Int))) = false, false = false ∧ (decide (c1 ≥ (65 : Int))) = false, false = false, True, false = false ∧ True, false = false ∧ True, false = false ∧ True, (decide (c1 ≥ (48 : Int))) = false, (decide (c1 ≥ (48 : Int))) = false, false = false ∧ (decide (c1 ≥ (48 : Int))) = false, false = false, True]) (by kernel_rfl) (tr 3 ⟨⟨hb23, tt⟩, ⟨hb23, tt⟩, ⟨hb23, tt⟩, hb24, hb24, ⟨hb23, hb24⟩, hb23, tt, ⟨rfl, tt⟩, ⟨rfl, tt⟩, ⟨rfl, tt⟩, hb30, hb30, ⟨rfl, hb30⟩, rfl, tt, ⟨rfl, tt⟩, ⟨rfl, tt⟩, ⟨rfl, tt⟩, hb33, hb33, ⟨rfl, hb33⟩, rfl, tt, tt⟩) ?_
    obtain rfl := sI h
    exact postN_to (gl [] [] (by kernel_rfl))
  clear hp1
  obtain ⟨rfl, hle⟩ := hq
  refine use_to ?_ hle
  refine to_then ?_
  refine W_ret ?_
  obtain rfl := sI h
  exact Ret_intro [.bool] (by kernel_rfl)
def slices_Index_string_string_L1 (s1 : List (List UInt8)) (v1 : List UInt8) : (Int) → Option ((Int) ⊕ ((Unit) ⊕ (Int))) := fun (v3 : Int) =>
  (if (decide (v3 < (s1.length : Int))) = true then (if 0 ≤ v3 ∧ v3 < (s1.length : Int) then (if (v1 == (s1.getD v3.toNat ([] : List UInt8))) = true then some (Sum.inr (Sum.inr v3))
  else some (Sum.inl (IntKind.i64.wrap (v3 + (1 : Int))))) else none)
  else some (Sum.inr (Sum.inl ())))
def slices_Index_string_string (s1 : List (List UInt8)) (v1 : List UInt8) : Option (Int) :=
  ((iter (slices_Index_string_string_L1 s1 v1) (0 : Int)).bind fun (r2 : ((Unit) ⊕ (Int))) => match r2 with
  | .inl _ => some (-1 : Int)
  | .inr (r1) => some r1)
theorem slices_Index_string_string_ok (β0 : Bool) (s1 : List (List UInt8)) (v1 : List UInt8) (res : Int) (h : slices_Index_string_string s1 v1 = some res) :
    Pure Try.prog 60 [.p β0 (.slice .str) s1, .st v1] (wrapR (encs false [⟨(.int .i64), res⟩])) := by
  refine Pure.of_body tbok Try.func60 (by kernel_rfl) rfl (nl rfl) (fun Bw w0 => ?_) rfl
  unfold slices_Index_string_string at h
  refine W_rs tbok ⟨[], []⟩ [] [] [(0, .p β0 (.slice .str) s1), (1, .st v1)] [] 0 0 [True] (by kernel_rfl) ⟨tt, tt⟩ ?_
  refine W_seq ?_
  refine W_rs tbok ⟨[], []⟩ [] [] [(0, .p β0 (.slice .str) s1), (1, .st v1), (7, .i64 (s1.length : Int)), (8, .i64 (0 : Int))] [] 0 0 (Ts 3 []) (by kernel_rfl) (tr 3 tt) ?_
  refine W_block ?_
  obtain ⟨r2, hp1, h⟩ := h_bind h
  refine W.mono (Q := (postS (postX Try.f60.ntmps 0 (fun (_ : Unit) => mkSt [] [] 0)) (postR tb Try.f60.results.toList (fun (r1 : Int) => [⟨(.int .i64), r1⟩]))) r2) (W_iter (f := fun (v3 : Int) => mkSt [(0, .p β0 (.slice .str) s1), (1, .st v1), (7, .i64 (s1.length : Int)), (8, .i64 v3)] [] 0) (Q := (postS (postX Try.f60.ntmps 0 (fun (_ : Unit) => mkSt [] [] 0)) (postR tb Try.f60.results.toList (fun (r1 : Int) => [⟨(.int .i64), r1⟩])))) hp1 (gl [] [] (by kernel_rfl)) (fun v3 o ho => ?_)) (fun e σ' hq => ?_)
  · replace h := ho
    clear ho hp1
    unfold slices_Index_string_string_L1 at h
    refine W_rs tbok ⟨[], []⟩ [] [] [(0, .p β0 (.slice .str) s1), (1, .st v1), (7, .i64 (s1.length : Int)), (8, .i64 v3), (9, .bo (decide (v3 < (s1.length : Int))))] [] 0 0 [True] (by kernel_rfl) ⟨tt, tt⟩ ?_
    refine W_seq ?_
    refine W_cond (b := (decide (v3 < (s1.length : Int)))) (β := false) (by kernel_rfl) (fun hb5 => ?_) (fun hb5 => ?_)
    · replace h := h_if hb5 h
      refine W_skip_to ?_
      refine to_then ?_
      refine W_seq ?_
      refine W_block ?_
      refine W_rs tbok ⟨[], []⟩ [] [] [(0, .p β0 (.slice .str) s1), (1, .st v1), (5, .i64 v3), (7, .i64 (s1.length : Int)), (8, .i64 v3)] [] 0 0 [True, True] (by kernel_rfl) ⟨tt, tt, tt⟩ ?_
      refine W_seq ?_
      obtain ⟨c6, h⟩ := h_guard h
      refine W_r tbok ⟨[], []⟩ [] [] [(0, .p β0 (.slice .str) s1), (1, .st v1), (5, .i64 v3), (7, .i64 (s1.length : Int)), (8, .i64 v3), (16, .bo (v1 == (s1.getD v3.toNat ([] : List UInt8))))] [] 0 0 (Ts 3 [0 ≤ v3 ∧ v3 < (s1.length : Int), True, True]) (by kernel_rfl) (tr 3 ⟨c6, tt, tt, tt⟩) ?_
      refine to_then ?_
      refine W_cond (b := (v1 == (s1.getD v3.toNat ([] : List UInt8)))) (β := false) (by kernel_rfl) (fun hb6 => ?_) (fun hb6 => ?_)
      · replace h := h_if hb6 h
        refine W_rs tbok ⟨[], []⟩ [] [] [(4, .i64 v3)] [] 0 0 [True, True] (by kernel_rfl) ⟨tt, tt, tt⟩ ?_
        refine W_ret ?_
        obtain rfl := sI h
        refine blockQ_ret ?_
        refine thenQ_ret ?_
        refine round_ret ?_
        refine postS_rr ?_
        exact postR_mk (Ret_intro [(.int .i64)] (by kernel_rfl))
      replace h := h_else hb6 h
      refine W_skip_to ?_
      refine to_block ?_
      refine to_then ?_
      refine W_r tbok ⟨[], []⟩ [] [] [(0, .p β0 (.slice .str) s1), (1, .st v1), (7, .i64 (s1.length : Int)), (8, .i64 (IntKind.i64.wrap (v3 + (1 : Int))))] [] 0 0 [True, True] (by kernel_rfl) ⟨tt, tt, tt⟩ ?_
      obtain rfl := sI h
      exact roundB (gl [] [] (by kernel_rfl))
    replace h := h_else hb5 h
    refine W_exit_to ?_
    refine thenE ?_
    obtain rfl := sI h
    refine roundE ?_
    refine postS_l ?_
    exact postX_to (gl [] [] (by kernel_rfl))
  clear hp1
  rcases r2 with _ | r1
  · obtain ⟨rfl, hle⟩ := hq
    refine use_to ?_ hle
    refine blockE_eq ?_
    refine to_then ?_
    refine W_rs tbok ⟨[], []⟩ [] [] [(4, .i64 (-1 : Int))] [] 0 0 [True] (by kernel_rfl) ⟨tt, tt⟩ ?_
    refine W_ret ?_
    obtain rfl := sI h
    exact Ret_intro [(.int .i64)] (by kernel_rfl)
  obtain ⟨rfl, hr⟩ := hq
  refine blockQ_ret ?_
  refine thenQ_ret ?_
  obtain rfl := sI h
  exact hr
def pq_fail_v2 (e1 at1 : Int) (p1 : List UInt8) (p2 p3 p4 p5 p6 : Int) (o1 : List (List UInt8)) (o2 : List Int) (o3 : List (Int × Tree × Tree)) (o4 : List ((List UInt8) × Int)) : Option ((Unit) ⊕ (Int × Int)) := some (Sum.inr (e1, at1))
theorem pq_fail_v2_calls (v : Value) (e a : Int) (w : World) :
    Calls Try.prog 22 #[v, .int .i64 e, .int .i64 a] w fun r w' => r = .panicked [{ v := faultV 40 .i64 .i64 (e, a), recovered := false }] ∧ w' = w := by
  go_enter Try.func22, Try.ntmps22
  go_wp2
  exact ⟨rfl, rfl, rfl⟩
theorem pq_fail_v2_ok (e1 at1 : Int) (p1 : List UInt8) (p2 p3 p4 p5 p6 : Int) (o1 : List (List UInt8)) (o2 : List Int) (o3 : List (Int × Tree × Tree)) (o4 : List ((List UInt8) × Int)) (res : (Unit) ⊕ (Int × Int)) (h : pq_fail_v2 e1 at1 p1 p2 p3 p4 p5 p6 o1 o2 o3 o4 = some res) :
    Does Try.prog 22 [.adr 0 0 10 0, .i64 e1, .i64 at1] (ob21 p1 p2 p3 p4 p5 p6 o1 o2 o3 o4) (outT (fun (q : Unit) => (.tup [], [])) (faultV 40 .i64 .i64) res) := by
  obtain rfl := sI h
  exact Dies.of_calls Try.func22 (by kernel_rfl) rfl (fun v w => pq_fail_v2_calls v _ _ w)
def pq_here_v2_L1 (d1 : List UInt8) (d3 d4 d5 d6 : Int) (o1 : List (List UInt8)) (o2 : List Int) (o3 : List (Int × Tree × Tree)) (o4 : List ((List UInt8) × Int)) : (Int) → Option ((Int) ⊕ ((Int) ⊕ ((Int × Int) ⊕ (Int × Int)))) := fun (d10 : Int) =>
  (if (decide (d10 < (d1.length : Int))) = true then (if 0 ≤ d10 ∧ d10 < (d1.length : Int) then (if (((d1.getD d10.toNat 0).toNat : Int) == (35 : Int)) = true then (if 0 ≤ d10 ∧ d10 ≤ (d1.length : Int) ∧ (d1.length : Int) ≤ (d1.length : Int) then ((strings_IndexByte ((d1.take (d1.length : Int).toNat).drop d10.toNat) (10 : Int)).bind fun (r56 : Int) =>
  (((if (decide (r56 < (0 : Int))) = true then some ((IntKind.i64.wrap ((d1.length : Int) - d10)))
  else some (r56))).bind fun (v14 : Int) => some (Sum.inl (IntKind.i64.wrap (d10 + v14))))) else none)
  else ((rules_blank ((d1.getD d10.toNat 0).toNat : Int)).bind fun (r58 : Bool) =>
  (if r58 = true then some (Sum.inl (IntKind.i64.wrap (d10 + (1 : Int))))
  else ((((rules_letter ((d1.getD d10.toNat 0).toNat : Int)).bind fun (r63 : Bool) =>
  (if (!r63) = true then ((strings_IndexByte ([40, 41, 91, 93, 94, 124, 42, 43, 63, 46, 59, 47, 61] : List UInt8) ((d1.getD d10.toNat 0).toNat : Int)).bind fun (r64 : Int) =>
  some ((decide (r64 < (0 : Int)))))
  else some (false)))).bind fun (v15 : Bool) => (if v15 = true then ((pq_fail_v2 (20 : Int) d10 d1 d10 d3 d4 d5 d6 o1 o2 o3 o4).bind fun (z12 : (Unit) ⊕ (Int × Int)) => match z12 with
  | .inr (e27, e28) => some (Sum.inr (Sum.inr (Sum.inl (e27, e28))))
  | .inl _ => none)
  else some (Sum.inr (Sum.inr (Sum.inr (((d1.getD d10.toNat 0).toNat : Int), d10))))))))) else none)
  else some (Sum.inr (Sum.inl d10)))
def pq_here_v2 (d1 : List UInt8) (d2 d3 d4 d5 d6 : Int) (o1 : List (List UInt8)) (o2 : List Int) (o3 : List (Int × Tree × Tree)) (o4 : List ((List UInt8) × Int)) : Option ((Int × Int) ⊕ (Int × Int)) :=
  ((iter (pq_here_v2_L1 d1 d3 d4 d5 d6 o1 o2 o3 o4) d2).bind fun (r65 : ((Int) ⊕ ((Int × Int) ⊕ (Int × Int)))) => match r65 with
  | .inl v13 => some (Sum.inl ((0 : Int), v13))
  | .inr (.inl (e23, e24)) => some (Sum.inr (e23, e24))
  | .inr (.inr ((r53, r54))) => some (Sum.inl (r53, r54)))
theorem pq_here_v2_ok (d1 : List UInt8) (d2 d3 d4 d5 d6 : Int) (o1 : List (List UInt8)) (o2 : List Int) (o3 : List (Int × Tree × Tree)) (o4 : List ((List UInt8) × Int)) (res : (Int × Int) ⊕ (Int × Int)) (h : pq_here_v2 d1 d2 d3 d4 d5 d6 o1 o2 o3 o4 = some res) :
    Does Try.prog 33 [.adr 0 0 10 0] (ob21 d1 d2 d3 d4 d5 d6 o1 o2 o3 o4) (outT (fun (q : Int × Int) => (.u8 q.1, (ob21 d1 q.2 d3 d4 d5 d6 o1 o2 o3 o4))) (faultV 40 .i64 .i64) res) := by
  refine Does.of_body tbok Try.func33 (by kernel_rfl) rfl (nl rfl) (fun Bw w0 => ?_)
  unfold pq_here_v2 at h
  refine W_rs tbok ⟨[], []⟩ [] [0, 1, 2, 3, 4] [(0, .adr 0 0 10 0)] (ob21 d1 d2 d3 d4 d5 d6 o1 o2 o3 o4) 5 5 [True] (by kernel_rfl) ⟨tt, tt⟩ ?_
  refine W_seq ?_
  refine W_block ?_
  obtain ⟨r65, hp14, h⟩ := h_bind h
  refine W.mono (Q := (postS (postX Try.f33.ntmps 0 (fun (v13 : Int) => mkSt [] (ob21 d1 v13 d3 d4 d5 d6 o1 o2 o3 o4) 5 5)) (postS (postP (faultV 40 .i64 .i64)) (postRO tb Try.f33.ntmps Try.f33.results.toList (fun ((r53, r54) : Int × Int) => (.u8 r53, (ob21 d1 r54 d3 d4 d5 d6 o1 o2 o3 o4)))))) r65) (W_iter (f := fun (d10 : Int) => mkSt [(0, .adr 0 0 10 0)] (ob21 d1 d10 d3 d4 d5 d6 o1 o2 o3 o4) 5 5) (Q := (postS (postX Try.f33.ntmps 0 (fun (v13 : Int) => mkSt [] (ob21 d1 v13 d3 d4 d5 d6 o1 o2 o3 o4) 5 5)) (postS (postP (faultV 40 .i64 .i64)) (postRO tb Try.f33.ntmps Try.f33.results.toList (fun ((r53, r54) : Int × Int) => (.u8 r53, (ob21 d1 r54 d3 d4 d5 d6 o1 o2 o3 o4))))))) hp14 (gl [] [0, 1, 2, 3, 4] (by kernel_rfl)) (fun d10 o ho => ?_)) (fun e σ' hq => ?_)
  · replace h := ho
    clear ho hp14
    unfold pq_here_v2_L1 at h
    refine W_seq ?_
    refine W_rd tbok mixed ⟨[], []⟩ [] [0, 1, 2, 3, 4] [(0, .adr 0 0 10 0), (14, .bo (decide (d10 < (d1.length : Int))))] (ob21 d1 d10 d3 d4 d5 d6 o1 o2 o3 o4) 5 5 (Ts 10 []) (by kernel_rfl) (tr 10 tt) ?_
    refine W_cond (b := (decide (d10 < (d1.length : Int)))) (β := false) (by kernel_rfl) (fun hb46 => ?_) (fun hb46 => ?_)
    · replace h := h_if hb46 h
      refine W_skip_to ?_
      refine to_then ?_
      refine W_block ?_
      refine W_seq ?_
      obtain ⟨c22, h⟩ := h_guard h
      refine W_regD tbok mixed ⟨[], []⟩ [] [0, 1, 2, 3, 4] [(0, .adr 0 0 10 0), (3, .u8 ((d1.getD d10.toNat 0).toNat : Int))] (ob21 d1 d10 d3 d4 d5 d6 o1 o2 o3 o4) 5 5 (Ts 8 [0 ≤ d10 ∧ d10 < (d1.length : Int), True]) (by kernel_rfl) (by kernel_rfl) (tr 8 ⟨c22, tt, tt⟩) ?_
      refine to_then ?_
      refine W_rs tbok ⟨[], []⟩ [] [0, 1, 2, 3, 4] [(0, .adr 0 0 10 0), (3, .u8 ((d1.getD d10.toNat 0).toNat : Int)), (25, .bo (((d1.getD d10.toNat 0).toNat : Int) == (35 : Int)))] (ob21 d1 d10 d3 d4 d5 d6 o1 o2 o3 o4) 5 5 [True, True] (by kernel_rfl) ⟨tt, tt, tt⟩ ?_
      refine W_cond (b := (((d1.getD d10.toNat 0).toNat : Int) == (35 : Int))) (β := false) (by kernel_rfl) (fun hb47 => ?_) (fun hb47 => ?_)
      · replace h := h_if hb47 h
        refine W_seq ?_
        obtain ⟨c24, h⟩ := h_guard h
        obtain ⟨r56, q62, h⟩ := h_bind h
        have u_1 := (strings_IndexByte_ok ((d1.take (d1.length : Int).toNat).drop d10.toNat) (10 : Int) _ q62)
        refine W_regD tbok mixed ⟨[], [(9, ⟨.i64 r56, [false, false], false, [true, true], [], [], none⟩)]⟩ [] [0, 1, 2, 3, 4] [(0, .adr 0 0 10 0), (4, .i64 r56)] (ob21 d1 d10 d3 d4 d5 d6 o1 o2 o3 o4) 5 5 (Ts 8 [0 ≤ d10 ∧ d10 ≤ (d1.length : Int) ∧ (d1.length : Int) ≤ (d1.length : Int), pO u_1, True]) (by kernel_rfl) (by kernel_rfl) (tr 8 ⟨c24, u_1, tt, tt⟩) ?_
        refine to_then ?_
        refine W_seq ?_
        refine W_rs tbok ⟨[], []⟩ [] [0, 1, 2, 3, 4] [(0, .adr 0 0 10 0), (4, .i64 r56), (37, .bo (decide (r56 < (0 : Int))))] (ob21 d1 d10 d3 d4 d5 d6 o1 o2 o3 o4) 5 5 [True, True] (by kernel_rfl) ⟨tt, tt, tt⟩ ?_
        obtain ⟨v14, hp12, h⟩ := h_bind h
        refine W.mono (Q := (postN Try.f33.ntmps (fun (v14 : Int) => mkSt [(0, .adr 0 0 10 0), (4, .i64 v14)] (ob21 d1 d10 d3 d4 d5 d6 o1 o2 o3 o4) 5 5)) v14) ?_ (fun e σ' hq => ?_)
        · replace h := hp12
          clear hp12
          refine W_cond (b := (decide (r56 < (0 : Int)))) (β := false) (by kernel_rfl) (fun hb49 => ?_) (fun hb49 => ?_)
          · replace h := h_if hb49 h
            refine W_regD tbok mixed ⟨[], []⟩ [] [0, 1, 2, 3, 4] [(0, .adr 0 0 10 0), (4, .i64 (IntKind.i64.wrap ((d1.length : Int) - d10)))] (ob21 d1 d10 d3 d4 d5 d6 o1 o2 o3 o4) 5 5 (Ts 11 []) (by kernel_rfl) (by kernel_rfl) (tr 11 tt) ?_
            obtain rfl := sI h
            exact postN_to (gl [] [0, 1, 2, 3, 4] (by kernel_rfl))
          replace h := h_else hb49 h
          refine W_skip_to ?_
          obtain rfl := sI h
          exact postN_to (gl [] [0, 1, 2, 3, 4] (by kernel_rfl))
        clear hp12
        obtain ⟨rfl, hle⟩ := hq
        refine use_to ?_ hle
        refine to_then ?_
        refine W_r tbok ⟨[], []⟩ [] [0, 1, 2, 3, 4] [(0, .adr 0 0 10 0)] (ob21 d1 (IntKind.i64.wrap (d10 + v14)) d3 d4 d5 d6 o1 o2 o3 o4) 5 5 (Ts 9 []) (by kernel_rfl) (tr 9 tt) ?_
        refine to_block ?_
        obtain rfl := sI h
        exact roundB (gl [] [0, 1, 2, 3, 4] (by kernel_rfl))
      replace h := h_else hb47 h
      obtain ⟨r58, q64, h⟩ := h_bind h
      have u_1 := (rules_blank_ok ((d1.getD d10.toNat 0).toNat : Int) _ q64)
      refine W_rs tbok ⟨[], [(1, ⟨.bo r58, [false], false, [true], [], [], none⟩)]⟩ [] [0, 1, 2, 3, 4] [(0, .adr 0 0 10 0), (3, .u8 ((d1.getD d10.toNat 0).toNat : Int)), (57, .bo r58)] (ob21 d1 d10 d3 d4 d5 d6 o1 o2 o3 o4) 5 5 [True, pO u_1] (by kernel_rfl) ⟨tt, u_1, tt⟩ ?_
      refine W_cond (b := r58) (β := false) (by kernel_rfl) (fun hb50 => ?_) (fun hb50 => ?_)
      · replace h := h_if hb50 h
        refine W_r tbok ⟨[], []⟩ [] [0, 1, 2, 3, 4] [(0, .adr 0 0 10 0)] (ob21 d1 (IntKind.i64.wrap (d10 + (1 : Int))) d3 d4 d5 d6 o1 o2 o3 o4) 5 5 (Ts 8 []) (by kernel_rfl) (tr 8 tt) ?_
        refine to_block ?_
        obtain rfl := sI h
        exact roundB (gl [] [0, 1, 2, 3, 4] (by kernel_rfl))
      replace h := h_else hb50 h
      refine W_seq ?_
      refine W_seq ?_
      obtain ⟨v15, hp13, h⟩ := h_bind h
      refine W.mono (Q := (postN Try.f33.ntmps (fun (v15 : Bool) => mkSt [(0, .adr 0 0 10 0), (3, .u8 ((d1.getD d10.toNat 0).toNat : Int)), (72, .bo v15)] (ob21 d1 d10 d3 d4 d5 d6 o1 o2 o3 o4) 5 5)) v15) ?_ (fun e σ' hq => ?_)
      · replace h := hp13
        clear hp13
        obtain ⟨r63, q69, h⟩ := h_bind h
        rcases bb (!r63) with hb53 | hb53
        · replace h := h_if hb53 h
          obtain ⟨r64, q70, h⟩ := h_bind h
          have u_1 := (rules_letter_ok ((d1.getD d10.toNat 0).toNat : Int) _ q69)
          have u_2 := (strings_IndexByte_ok ([40, 41, 91, 93, 94, 124, 42, 43, 63, 46, 59, 47, 61] : List UInt8) ((d1.getD d10.toNat 0).toNat : Int) _ q70)
          refine W_r tbok ⟨[(3, true), (7, true)], [(1, ⟨.bo r63, [false], false, [true], [], [], none⟩), (5, ⟨.i64 r64, [false, false], false, [true, true], [], [], none⟩)]⟩ [] [0, 1, 2, 3, 4] [(0, .adr 0 0 10 0), (3, .u8 ((d1.getD d10.toNat 0).toNat : Int)), (72, .bo (decide (r64 < (0 : Int))))] (ob21 d1 d10 d3 d4 d5 d6 o1 o2 o3 o4) 5 5 [True, pO u_1, True, True, (!r63) = true ∧ True, (!r63) = true ∧ pO u_2, (!r63) = true ∧ True, (!r63) = true] (by kernel_rfl) ⟨tt, u_1, tt, tt, ⟨hb53, tt⟩, ⟨hb53, u_2⟩, ⟨hb53, tt⟩, hb53, tt⟩ ?_
          obtain rfl := sI h
          exact postN_to (gl [] [0, 1, 2, 3, 4] (by kernel_rfl))
        replace h := h_else hb53 h
        have u_1 := (rules_letter_ok ((d1.getD d10.toNat 0).toNat : Int) _ q69)
        refine W_r tbok ⟨[(3, false), (7, false)], [(1, ⟨.bo r63, [false], false, [true], [], [], none⟩)]⟩ [] [0, 1, 2, 3, 4] [(0, .adr 0 0 10 0), (3, .u8 ((d1.getD d10.toNat 0).toNat : Int)), (72, .bo false)] (ob21 d1 d10 d3 d4 d5 d6 o1 o2 o3 o4) 5 5 [True, pO u_1, True, True, (!r63) = false, (!r63) = false, (!r63) = false, (!r63) = false] (by kernel_rfl) ⟨tt, u_1, tt, tt, hb53, hb53, hb53, hb53, tt⟩ ?_
        obtain rfl := sI h
        exact postN_to (gl [] [0, 1, 2, 3, 4] (by kernel_rfl))
      clear hp13
      obtain ⟨rfl, hle⟩ := hq
      refine use_to ?_ hle
      refine to_then ?_
      refine W_cond (b := v15) (β := false) (by kernel_rfl) (fun hb54 => ?_) (fun hb54 => ?_)
      · replace h := h_if hb54 h
        obtain ⟨z12, q72, h⟩ := h_bind h
        rcases z12 with _ | ⟨e27, e28⟩
        · cases h
        refine W_die tbok ⟨[], [(5, ⟨.unk, [false, false, false], true, [true, true, true], [0, 1, 2, 3, 4], [], some (faultV 40 .i64 .i64 (e27, e28))⟩)]⟩ 5 (faultV 40 .i64 .i64 (e27, e28)) [] [0, 1, 2, 3, 4] [] [] 5 5 (Ts 5 [Dies Try.prog 22 [.adr 0 0 10 0, .i64 (20 : Int), .i64 d10] (ob21 d1 d10 d3 d4 d5 d6 o1 o2 o3 o4) (faultV 40 .i64 .i64 (e27, e28))]) (by kernel_rfl) (by kernel_rfl) (tr 5 ⟨(pq_fail_v2_ok (20 : Int) d10 d1 d10 d3 d4 d5 d6 o1 o2 o3 o4 _ q72), tt⟩) (fun σ1 hle => ?_)
        obtain rfl := sI h
        refine thenQ_pan ?_
        refine blockQ_pan ?_
        refine round_pan ?_
        refine postS_rr ?_
        refine postS_lr ?_
        exact rfl
      replace h := h_else hb54 h
      refine W_skip_to ?_
      refine to_then ?_
      refine W_rs tbok ⟨[], []⟩ [] [0, 1, 2, 3, 4] [(2, .u8 ((d1.getD d10.toNat 0).toNat : Int))] (ob21 d1 d10 d3 d4 d5 d6 o1 o2 o3 o4) 5 5 [True, True] (by kernel_rfl) ⟨tt, tt, tt⟩ ?_
      refine W_ret ?_
      obtain rfl := sI h
      refine blockQ_ret ?_
      refine round_ret ?_
      refine postS_rr ?_
      refine postS_rr ?_
      exact postRO_mk (RetO_intro [some (.int .u8)] [] [0, 1, 2, 3, 4] [(2, .u8 ((d1.getD d10.toNat 0).toNat : Int))] (ob21 d1 d10 d3 d4 d5 d6 o1 o2 o3 o4) 5 5 (by kernel_rfl) (by kernel_rfl) (by kernel_rfl))
    replace h := h_else hb46 h
    refine W_exit_to ?_
    refine thenE ?_
    obtain rfl := sI h
    refine roundE ?_
    refine postS_l ?_
    exact postX_to (gl [] [0, 1, 2, 3, 4] (by kernel_rfl))
  clear hp14
  rcases r65 with v13 | ⟨e23, e24⟩ | ⟨r53, r54⟩
  · obtain ⟨rfl, hle⟩ := hq
    refine use_to ?_ hle
    refine blockE_eq ?_
    refine to_then ?_
    refine W_rs tbok ⟨[], []⟩ [] [0, 1, 2, 3, 4] [(2, .u8 (0 : Int))] (ob21 d1 v13 d3 d4 d5 d6 o1 o2 o3 o4) 5 5 [True] (by kernel_rfl) ⟨tt, tt⟩ ?_
    refine W_ret ?_
    obtain rfl := sI h
    exact RetO_intro [some (.int .u8)] [] [0, 1, 2, 3, 4] [(2, .u8 (0 : Int))] (ob21 d1 v13 d3 d4 d5 d6 o1 o2 o3 o4) 5 5 (by kernel_rfl) (by kernel_rfl) (by kernel_rfl)
  · obtain rfl := hq
    refine blockQ_pan ?_
    refine thenQ_pan ?_
    obtain rfl := sI h
    exact rfl
  obtain ⟨rfl, hr⟩ := hq
  refine blockQ_ret ?_
  refine thenQ_ret ?_
  obtain rfl := sI h
  exact hr
def pq_word_v2_L1 (p1 : List UInt8) : (Int) → Option ((Int) ⊕ (Int)) := fun (p11 : Int) =>
  (((if (decide (p11 < (p1.length : Int))) = true then (if 0 ≤ p11 ∧ p11 < (p1.length : Int) then ((rules_letter ((p1.getD p11.toNat 0).toNat : Int)).bind fun (r32 : Bool) =>
  some (r32)) else none)
  else some (false))).bind fun (v7 : Bool) => (if v7 = true then some (Sum.inl (IntKind.i64.wrap (p11 + (1 : Int))))
  else some (Sum.inr p11)))
def pq_word_v2 (p1 : List UInt8) (p2 p3 p4 p5 p6 : Int) (o1 : List (List UInt8)) (o2 : List Int) (o3 : List (Int × Tree × Tree)) (o4 : List ((List UInt8) × Int)) : Option (((List UInt8) × Int × Int) ⊕ (Int × Int)) :=
  ((pq_here_v2 p1 p2 p3 p4 p5 p6 o1 o2 o3 o4).bind fun (z6 : (Int × Int) ⊕ (Int × Int)) => match z6 with
  | .inr (e11, e12) => some (Sum.inr (e11, e12))
  | .inl (r21, r22) => ((rules_letter r21).bind fun (r23 : Bool) =>
  (if (!r23) = true then ((pq_fail_v2 (21 : Int) r22 p1 r22 p3 p4 p5 p6 o1 o2 o3 o4).bind fun (z8 : (Unit) ⊕ (Int × Int)) => match z8 with
  | .inr (e15, e16) => some (Sum.inr (e15, e16))
  | .inl _ => none)
  else ((iter (pq_word_v2_L1 p1) r22).bind fun (p12 : Int) => (if 0 ≤ r22 ∧ r22 ≤ p12 ∧ p12 ≤ (p1.length : Int) then some (Sum.inl (((p1.take p12.toNat).drop r22.toNat), r22, p12)) else none)))))
theorem pq_word_v2_ok (p1 : List UInt8) (p2 p3 p4 p5 p6 : Int) (o1 : List (List UInt8)) (o2 : List Int) (o3 : List (Int × Tree × Tree)) (o4 : List ((List UInt8) × Int)) (res : ((List UInt8) × Int × Int) ⊕ (Int × Int)) (h : pq_word_v2 p1 p2 p3 p4 p5 p6 o1 o2 o3 o4 = some res) :
    Does Try.prog 34 [.adr 0 0 10 0] (ob21 p1 p2 p3 p4 p5 p6 o1 o2 o3 o4) (outT (fun (q : (List UInt8) × Int × Int) => (.tup [.st q.1, .i64 q.2.1], (ob21 p1 q.2.2 p3 p4 p5 p6 o1 o2 o3 o4))) (faultV 40 .i64 .i64) res) := by
  refine Does.of_body tbok Try.func34 (by kernel_rfl) rfl (nl rfl) (fun Bw w0 => ?_)
  unfold pq_word_v2 at h
  refine W_rs tbok ⟨[], []⟩ [] [0, 1, 2, 3, 4] [(0, .adr 0 0 10 0)] (ob21 p1 p2 p3 p4 p5 p6 o1 o2 o3 o4) 5 5 [True, True] (by kernel_rfl) ⟨tt, tt, tt⟩ ?_
  refine W_seq ?_
  refine W_seq ?_
  obtain ⟨z6, q18, h⟩ := h_bind h
  rcases z6 with ⟨r21, r22⟩ | ⟨e11, e12⟩
  · obtain ⟨r23, q19, h⟩ := h_bind h
    have u_1 := (pq_here_v2_ok p1 p2 p3 p4 p5 p6 o1 o2 o3 o4 _ q18)
    refine W_r tbok ⟨[], [(1, ⟨.u8 r21, [false], true, [true], [0, 1, 2, 3, 4], (ob21 p1 r22 p3 p4 p5 p6 o1 o2 o3 o4), none⟩), (2, ⟨.bo r23, [false], false, [true], [], [], none⟩)]⟩ [] [0, 1, 2, 3, 4] [(0, .adr 0 0 10 0), (8, .bo (!r23))] (ob21 p1 r22 p3 p4 p5 p6 o1 o2 o3 o4) 5 5 [True, pO u_1, Pure Try.prog 54 [.u8 r21] (.bo r23), True] (by kernel_rfl) ⟨tt, u_1, (rules_letter_ok r21 _ q19), tt, tt⟩ ?_
    refine to_then ?_
    refine W_cond (b := (!r23)) (β := false) (by kernel_rfl) (fun hb14 => ?_) (fun hb14 => ?_)
    · replace h := h_if hb14 h
      obtain ⟨z8, q21, h⟩ := h_bind h
      rcases z8 with _ | ⟨e15, e16⟩
      · cases h
      refine W_die tbok ⟨[], [(5, ⟨.unk, [false, false, false], true, [true, true, true], [0, 1, 2, 3, 4], [], some (faultV 40 .i64 .i64 (e15, e16))⟩)]⟩ 5 (faultV 40 .i64 .i64 (e15, e16)) [] [0, 1, 2, 3, 4] [] [] 5 5 (Ts 5 [Dies Try.prog 22 [.adr 0 0 10 0, .i64 (21 : Int), .i64 r22] (ob21 p1 r22 p3 p4 p5 p6 o1 o2 o3 o4) (faultV 40 .i64 .i64 (e15, e16))]) (by kernel_rfl) (by kernel_rfl) (tr 5 ⟨(pq_fail_v2_ok (21 : Int) r22 p1 r22 p3 p4 p5 p6 o1 o2 o3 o4 _ q21), tt⟩) (fun σ1 hle => ?_)
      refine thenQ_pan ?_
      obtain rfl := sI h
      exact rfl
    replace h := h_else hb14 h
    refine W_skip_to ?_
    refine to_then ?_
    refine W_rs tbok ⟨[], []⟩ [] [0, 1, 2, 3, 4] [(0, .adr 0 0 10 0), (4, .i64 r22)] (ob21 p1 r22 p3 p4 p5 p6 o1 o2 o3 o4) 5 5 (Ts 5 []) (by kernel_rfl) (tr 5 tt) ?_
    refine W_seq ?_
    refine W_block ?_
    obtain ⟨p12, hp8, h⟩ := h_bind h
    refine W.mono (Q := (postX Try.f34.ntmps 0 (fun (p12 : Int) => mkSt [(0, .adr 0 0 10 0), (4, .i64 r22)] (ob21 p1 p12 p3 p4 p5 p6 o1 o2 o3 o4) 5 5)) p12) (W_iter (f := fun (p11 : Int) => mkSt [(0, .adr 0 0 10 0), (4, .i64 r22)] (ob21 p1 p11 p3 p4 p5 p6 o1 o2 o3 o4) 5 5) (Q := (postX Try.f34.ntmps 0 (fun (p12 : Int) => mkSt [(0, .adr 0 0 10 0), (4, .i64 r22)] (ob21 p1 p12 p3 p4 p5 p6 o1 o2 o3 o4) 5 5))) hp8 (gl [] [0, 1, 2, 3, 4] (by kernel_rfl)) (fun p11 o ho => ?_)) (fun e σ' hq => ?_)
    · replace h := ho
      clear ho hp8
      unfold pq_word_v2_L1 at h
      refine W_seq ?_
      refine W_seq ?_
      obtain ⟨v7, hp7, h⟩ := h_bind h
      refine W.mono (Q := (postN Try.f34.ntmps (fun (v7 : Bool) => mkSt [(0, .adr 0 0 10 0), (4, .i64 r22), (40, .bo v7)] (ob21 p1 p11 p3 p4 p5 p6 o1 o2 o3 o4) 5 5)) v7) ?_ (fun e σ' hq => ?_)
      · replace h := hp7
        clear hp7
        rcases bb (decide (p11 < (p1.length : Int))) with hb25 | hb25
        · replace h := h_if hb25 h
          obtain ⟨c20, h⟩ := h_guard h
          obtain ⟨r32, q30, h⟩ := h_bind h
          have u_1 := (rules_letter_ok ((p1.getD p11.toNat 0).toNat : Int) _ q30)
          refine W_regD tbok mixed ⟨[(10, true), (21, true)], [(20, ⟨.bo r32, [false], false, [true], [], [], none⟩)]⟩ [] [0, 1, 2, 3, 4] [(0, .adr 0 0 10 0), (4, .i64 r22), (40, .bo r32)] (ob21 p1 p11 p3 p4 p5 p6 o1 o2 o3 o4) 5 5 (Ts 11 [(decide (p11 < (p1.length : Int))) = true ∧ True, (decide (p11 < (p1.length : Int))) = true ∧ True, (decide (p11 < (p1.length : Int))) = true ∧ True, (decide (p11 < (p1.length : Int))) = true ∧ True, (decide (p11 < (p1.length : Int))) = true ∧ True, (decide (p11 < (p1.length : Int))) = true ∧ True, (decide (p11 < (p1.length : Int))) = true ∧ True, (decide (p11 < (p1.length : Int))) = true ∧ True, (decide (p11 < (p1.length : Int))) = true ∧ 0 ≤ p11 ∧ p11 < (p1.length : Int), (decide (p11 < (p1.length : Int))) = true ∧ pO u_1, (decide (p11 < (p1.length : Int))) = true]) (by kernel_rfl) (by kernel_rfl) (tr 11 ⟨⟨hb25, tt⟩, ⟨hb25, tt⟩, ⟨hb25, tt⟩, ⟨hb25, tt⟩, ⟨hb25, tt⟩, ⟨hb25, tt⟩, ⟨hb25, tt⟩, ⟨hb25, tt⟩, ⟨hb25, c20⟩, ⟨hb25, u_1⟩, hb25, tt⟩) ?_
          obtain rfl := sI h
          exact postN_to (gl [] [0, 1, 2, 3, 4] (by kernel_rfl))
        replace h := h_else hb25 h
        refine W_regD tbok mixed ⟨[(10, false), (21, false)], []⟩ [] [0, 1, 2, 3, 4] [(0, .adr 0 0 10 0), (4, .i64 r22), (40, .bo false)] (ob21 p1 p11 p3 p4 p5 p6 o1 o2 o3 o4) 5 5 (Ts 11 [(decide (p11 < (p1.length : Int))) = false, (decide (p11 < (p1.length : Int))) = false, (decide (p11 < (p1.length : Int))) = false, (decide (p11 < (p1.length : Int))) = false, (decide (p11 < (p1.length : Int))) = false, (decide (p11 < (p1.length : Int))) = false, (decide (p11 < (p1.length : Int))) = false, (decide (p11 < (p1.length : Int))) = false, (decide (p11 < (p1.length : Int))) = false, (decide (p11 < (p1.length : Int))) = false, (decide (p11 < (p1.length : Int))) = false]) (by kernel_rfl) (by kernel_rfl) (tr 11 ⟨hb25, hb25, hb25, hb25, hb25, hb25, hb25, hb25, hb25, hb25, hb25, tt⟩) ?_
        obtain rfl := sI h
        exact postN_to (gl [] [0, 1, 2, 3, 4] (by kernel_rfl))
      clear hp7
      obtain ⟨rfl, hle⟩ := hq
      refine use_to ?_ hle
      refine to_then ?_
      refine W_cond (b := v7) (β := false) (by kernel_rfl) (fun hb26 => ?_) (fun hb26 => ?_)
      · replace h := h_if hb26 h
        refine W_skip_to ?_
        refine to_then ?_
        refine W_block ?_
        refine W_r tbok ⟨[], []⟩ [] [0, 1, 2, 3, 4] [(0, .adr 0 0 10 0), (4, .i64 r22)] (ob21 p1 (IntKind.i64.wrap (p11 + (1 : Int))) p3 p4 p5 p6 o1 o2 o3 o4) 5 5 (Ts 8 []) (by kernel_rfl) (tr 8 tt) ?_
        refine to_block ?_
        obtain rfl := sI h
        exact roundB (gl [] [0, 1, 2, 3, 4] (by kernel_rfl))
      replace h := h_else hb26 h
      refine W_exit_to ?_
      refine thenE ?_
      obtain rfl := sI h
      refine roundE ?_
      exact postX_to (gl [] [0, 1, 2, 3, 4] (by kernel_rfl))
    clear hp8
    obtain ⟨rfl, hle⟩ := hq
    refine use_to ?_ hle
    refine blockE_eq ?_
    refine to_then ?_
    refine W_seq ?_
    obtain ⟨c22, h⟩ := h_guard h
    refine W_regD tbok mixed ⟨[], []⟩ [] [0, 1, 2, 3, 4] [(2, .st ((p1.take p12.toNat).drop r22.toNat)), (3, .i64 r22)] (ob21 p1 p12 p3 p4 p5 p6 o1 o2 o3 o4) 5 5 (Ts 9 ((0 ≤ r22 ∧ r22 ≤ p12 ∧ p12 ≤ (p1.length : Int)) :: (Ts 3 []))) (by kernel_rfl) (by kernel_rfl) (tr 9 ⟨c22, (tr 3 tt)⟩) ?_
    refine to_then ?_
    refine W_ret ?_
    obtain rfl := sI h
    exact RetO_intro [some .str, some (.int .i64)] [] [0, 1, 2, 3, 4] [(2, .st ((p1.take p12.toNat).drop r22.toNat)), (3, .i64 r22)] (ob21 p1 p12 p3 p4 p5 p6 o1 o2 o3 o4) 5 5 (by kernel_rfl) (by kernel_rfl) (by kernel_rfl)
  refine W_die tbok ⟨[], [(1, ⟨.unk, [false], true, [true], [0, 1, 2, 3, 4], [], some (faultV 40 .i64 .i64 (e11, e12))⟩)]⟩ 1 (faultV 40 .i64 .i64 (e11, e12)) [] [0, 1, 2, 3, 4] [] [] 5 5 [True, Dies Try.prog 33 [.adr 0 0 10 0] (ob21 p1 p2 p3 p4 p5 p6 o1 o2 o3 o4) (faultV 40 .i64 .i64 (e11, e12))] (by kernel_rfl) (by kernel_rfl) ⟨tt, (pq_here_v2_ok p1 p2 p3 p4 p5 p6 o1 o2 o3 o4 _ q18), tt⟩ (fun σ1 hle => ?_)
  refine thenQ_pan ?_
  refine thenQ_pan ?_
  obtain rfl := sI h
  exact rfl
def pq_sign_v2 (c1 : Int) (p1 : List UInt8) (p2 p3 p4 p5 p6 : Int) (o1 : List (List UInt8)) (o2 : List Int) (o3 : List (Int × Tree × Tree)) (o4 : List ((List UInt8) × Int)) : Option ((Bool × Int) ⊕ (Int × Int)) :=
  ((pq_here_v2 p1 p2 p3 p4 p5 p6 o1 o2 o3 o4).bind fun (z4 : (Int × Int) ⊕ (Int × Int)) => match z4 with
  | .inr (e7, e8) => some (Sum.inr (e7, e8))
  | .inl (r8, r9) => (if (r8 != c1) = true then some (Sum.inl (false, r9))
  else some (Sum.inl (true, (IntKind.i64.wrap (r9 + (1 : Int)))))))
theorem pq_sign_v2_ok (c1 : Int) (p1 : List UInt8) (p2 p3 p4 p5 p6 : Int) (o1 : List (List UInt8)) (o2 : List Int) (o3 : List (Int × Tree × Tree)) (o4 : List ((List UInt8) × Int)) (res : (Bool × Int) ⊕ (Int × Int)) (h : pq_sign_v2 c1 p1 p2 p3 p4 p5 p6 o1 o2 o3 o4 = some res) :
    Does Try.prog 47 [.adr 0 0 10 0, .u8 c1] (ob21 p1 p2 p3 p4 p5 p6 o1 o2 o3 o4) (outT (fun (q : Bool × Int) => (.bo q.1, (ob21 p1 q.2 p3 p4 p5 p6 o1 o2 o3 o4))) (faultV 40 .i64 .i64) res) := by
  refine Does.of_body tbok Try.func47 (by kernel_rfl) rfl (nl rfl) (fun Bw w0 => ?_)
  unfold pq_sign_v2 at h
  refine W_rs tbok ⟨[], []⟩ [] [0, 1, 2, 3, 4] [(0, .adr 0 0 10 0), (1, .u8 c1)] (ob21 p1 p2 p3 p4 p5 p6 o1 o2 o3 o4) 5 5 [True] (by kernel_rfl) ⟨tt, tt⟩ ?_
  refine W_seq ?_
  refine W_seq ?_
  obtain ⟨z4, q4, h⟩ := h_bind h
  rcases z4 with ⟨r8, r9⟩ | ⟨e7, e8⟩
  · have u_1 := (pq_here_v2_ok p1 p2 p3 p4 p5 p6 o1 o2 o3 o4 _ q4)
    refine W_r tbok ⟨[], [(1, ⟨.u8 r8, [false], true, [true], [0, 1, 2, 3, 4], (ob21 p1 r9 p3 p4 p5 p6 o1 o2 o3 o4), none⟩)]⟩ [] [0, 1, 2, 3, 4] [(0, .adr 0 0 10 0), (8, .bo (r8 != c1))] (ob21 p1 r9 p3 p4 p5 p6 o1 o2 o3 o4) 5 5 [True, pO u_1, True, True] (by kernel_rfl) ⟨tt, u_1, tt, tt, tt⟩ ?_
    refine to_then ?_
    refine W_cond (b := (r8 != c1)) (β := false) (by kernel_rfl) (fun hb2 => ?_) (fun hb2 => ?_)
    · replace h := h_if hb2 h
      refine W_rs tbok ⟨[], []⟩ [] [0, 1, 2, 3, 4] [(4, .bo false)] (ob21 p1 r9 p3 p4 p5 p6 o1 o2 o3 o4) 5 5 [True] (by kernel_rfl) ⟨tt, tt⟩ ?_
      refine W_ret ?_
      refine thenQ_ret ?_
      obtain rfl := sI h
      exact RetO_intro [some .bool] [] [0, 1, 2, 3, 4] [(4, .bo false)] (ob21 p1 r9 p3 p4 p5 p6 o1 o2 o3 o4) 5 5 (by kernel_rfl) (by kernel_rfl) (by kernel_rfl)
    replace h := h_else hb2 h
    refine W_skip_to ?_
    refine to_then ?_
    refine W_rs tbok ⟨[], []⟩ [] [0, 1, 2, 3, 4] [] (ob21 p1 (IntKind.i64.wrap (r9 + (1 : Int))) p3 p4 p5 p6 o1 o2 o3 o4) 5 5 (Ts 8 []) (by kernel_rfl) (tr 8 tt) ?_
    refine W_rs tbok ⟨[], []⟩ [] [0, 1, 2, 3, 4] [(4, .bo true)] (ob21 p1 (IntKind.i64.wrap (r9 + (1 : Int))) p3 p4 p5 p6 o1 o2 o3 o4) 5 5 [True] (by kernel_rfl) ⟨tt, tt⟩ ?_
    refine W_ret ?_
    obtain rfl := sI h
    exact RetO_intro [some .bool] [] [0, 1, 2, 3, 4] [(4, .bo true)] (ob21 p1 (IntKind.i64.wrap (r9 + (1 : Int))) p3 p4 p5 p6 o1 o2 o3 o4) 5 5 (by kernel_rfl) (by kernel_rfl) (by kernel_rfl)
  refine W_die tbok ⟨[], [(1, ⟨.unk, [false], true, [true], [0, 1, 2, 3, 4], [], some (faultV 40 .i64 .i64 (e7, e8))⟩)]⟩ 1 (faultV 40 .i64 .i64 (e7, e8)) [] [0, 1, 2, 3, 4] [] [] 5 5 [True, Dies Try.prog 33 [.adr 0 0 10 0] (ob21 p1 p2 p3 p4 p5 p6 o1 o2 o3 o4) (faultV 40 .i64 .i64 (e7, e8))] (by kernel_rfl) (by kernel_rfl) ⟨tt, (pq_here_v2_ok p1 p2 p3 p4 p5 p6 o1 o2 o3 o4 _ q4), tt⟩ (fun σ1 hle => ?_)
  refine thenQ_pan ?_
  refine thenQ_pan ?_
  obtain rfl := sI h
  exact rfl
def pq_fresh_v2 (p1 : List UInt8) (p2 p3 p4 p5 p6 : Int) (o1 : List (List UInt8)) (o2 : List Int) (o3 : List (Int × Tree × Tree)) (o4 : List ((List UInt8) × Int)) : Option (((List UInt8) × Int) ⊕ (Int × Int)) :=
  ((pq_word_v2 p1 p2 p3 p4 p5 p6 o1 o2 o3 o4).bind fun (z6 : ((List UInt8) × Int × Int) ⊕ (Int × Int)) => match z6 with
  | .inr (e11, e12) => some (Sum.inr (e11, e12))
  | .inl (r11, r12, r13) => (if ((mfind .str o4 r11).isSome) = true then ((pq_fail_v2 (23 : Int) r12 p1 r13 p3 p4 p5 p6 o1 o2 o3 o4).bind fun (z8 : (Unit) ⊕ (Int × Int)) => match z8 with
  | .inr (e15, e16) => some (Sum.inr (e15, e16))
  | .inl _ => none)
  else some (Sum.inl (r11, r13))))
theorem pq_fresh_v2_ok (p1 : List UInt8) (p2 p3 p4 p5 p6 : Int) (o1 : List (List UInt8)) (o2 : List Int) (o3 : List (Int × Tree × Tree)) (o4 : List ((List UInt8) × Int)) (res : ((List UInt8) × Int) ⊕ (Int × Int)) (h : pq_fresh_v2 p1 p2 p3 p4 p5 p6 o1 o2 o3 o4 = some res) :
    Does Try.prog 48 [.adr 0 0 10 0] (ob21 p1 p2 p3 p4 p5 p6 o1 o2 o3 o4) (outT (fun (q : (List UInt8) × Int) => (.st q.1, (ob21 p1 q.2 p3 p4 p5 p6 o1 o2 o3 o4))) (faultV 40 .i64 .i64) res) := by
  refine Does.of_body tbok Try.func48 (by kernel_rfl) rfl (nl rfl) (fun Bw w0 => ?_)
  unfold pq_fresh_v2 at h
  refine W_rs tbok ⟨[], []⟩ [] [0, 1, 2, 3, 4] [(0, .adr 0 0 10 0)] (ob21 p1 p2 p3 p4 p5 p6 o1 o2 o3 o4) 5 5 [True] (by kernel_rfl) ⟨tt, tt⟩ ?_
  refine W_seq ?_
  obtain ⟨z6, q6, h⟩ := h_bind h
  rcases z6 with ⟨r11, r12, r13⟩ | ⟨e11, e12⟩
  · have u_1 := (pq_word_v2_ok p1 p2 p3 p4 p5 p6 o1 o2 o3 o4 _ q6)
    refine W_r tbok ⟨[], [(1, ⟨.tup [.st r11, .i64 r12], [false], true, [true], [0, 1, 2, 3, 4], (ob21 p1 r13 p3 p4 p5 p6 o1 o2 o3 o4), none⟩)]⟩ [] [0, 1, 2, 3, 4] [(0, .adr 0 0 10 0), (3, .st r11), (4, .i64 r12)] (ob21 p1 r13 p3 p4 p5 p6 o1 o2 o3 o4) 5 5 (True :: (pO u_1) :: (Ts 5 [])) (by kernel_rfl) ⟨tt, u_1, (tr 5 tt)⟩ ?_
    refine to_then ?_
    refine W_seq ?_
    refine W_rs tbok ⟨[], []⟩ [] [0, 1, 2, 3, 4] [(0, .adr 0 0 10 0), (3, .st r11), (4, .i64 r12), (6, .bo ((mfind .str o4 r11).isSome))] (ob21 p1 r13 p3 p4 p5 p6 o1 o2 o3 o4) 5 5 (Ts 11 []) (by kernel_rfl) (tr 11 tt) ?_
    refine W_rs tbok ⟨[], []⟩ [] [0, 1, 2, 3, 4] [(0, .adr 0 0 10 0), (3, .st r11), (4, .i64 r12), (21, .bo ((mfind .str o4 r11).isSome))] (ob21 p1 r13 p3 p4 p5 p6 o1 o2 o3 o4) 5 5 [True] (by kernel_rfl) ⟨tt, tt⟩ ?_
    refine W_cond (b := (mfind .str o4 r11).isSome) (β := false) (by kernel_rfl) (fun hb2 => ?_) (fun hb2 => ?_)
    · replace h := h_if hb2 h
      obtain ⟨z8, q8, h⟩ := h_bind h
      rcases z8 with _ | ⟨e15, e16⟩
      · cases h
      refine W_die tbok ⟨[], [(2, ⟨.unk, [false, false, false], true, [true, true, true], [0, 1, 2, 3, 4], [], some (faultV 40 .i64 .i64 (e15, e16))⟩)]⟩ 2 (faultV 40 .i64 .i64 (e15, e16)) [] [0, 1, 2, 3, 4] [] [] 5 5 [True, True, Dies Try.prog 22 [.adr 0 0 10 0, .i64 (23 : Int), .i64 r12] (ob21 p1 r13 p3 p4 p5 p6 o1 o2 o3 o4) (faultV 40 .i64 .i64 (e15, e16))] (by kernel_rfl) (by kernel_rfl) ⟨tt, tt, (pq_fail_v2_ok (23 : Int) r12 p1 r13 p3 p4 p5 p6 o1 o2 o3 o4 _ q8), tt⟩ (fun σ1 hle => ?_)
      refine thenQ_pan ?_
      obtain rfl := sI h
      exact rfl
    replace h := h_else hb2 h
    refine W_skip_to ?_
    refine to_then ?_
    refine W_rs tbok ⟨[], []⟩ [] [0, 1, 2, 3, 4] [(2, .st r11)] (ob21 p1 r13 p3 p4 p5 p6 o1 o2 o3 o4) 5 5 [True, True] (by kernel_rfl) ⟨tt, tt, tt⟩ ?_
    refine W_ret ?_
    obtain rfl := sI h
    exact RetO_intro [some .str] [] [0, 1, 2, 3, 4] [(2, .st r11)] (ob21 p1 r13 p3 p4 p5 p6 o1 o2 o3 o4) 5 5 (by kernel_rfl) (by kernel_rfl) (by kernel_rfl)
  refine W_die tbok ⟨[], [(1, ⟨.unk, [false], true, [true], [0, 1, 2, 3, 4], [], some (faultV 40 .i64 .i64 (e11, e12))⟩)]⟩ 1 (faultV 40 .i64 .i64 (e11, e12)) [] [0, 1, 2, 3, 4] [] [] 5 5 [True, Dies Try.prog 34 [.adr 0 0 10 0] (ob21 p1 p2 p3 p4 p5 p6 o1 o2 o3 o4) (faultV 40 .i64 .i64 (e11, e12))] (by kernel_rfl) (by kernel_rfl) ⟨tt, (pq_word_v2_ok p1 p2 p3 p4 p5 p6 o1 o2 o3 o4 _ q6), tt⟩ (fun σ1 hle => ?_)
  refine thenQ_pan ?_
  obtain rfl := sI h
  exact rfl
def pq_class_v1_L1 (d1 : List UInt8) (d3 d4 d5 d6 : Int) (o3 : List (Int × Tree × Tree)) : (Int × (List (List UInt8)) × (List Int) × List ((List UInt8) × Int)) → Option ((Int × (List (List UInt8)) × (List Int) × List ((List UInt8) × Int)) ⊕ ((Int × (List (List UInt8)) × (List Int) × List ((List UInt8) × Int)) ⊕ (Int × Int))) := fun ((d19, d20, d21, d22) : Int × (List (List UInt8)) × (List Int) × List ((List UInt8) × Int)) =>
  ((pq_sign_v2 (59 : Int) d1 d19 d3 d4 d5 d6 d20 d21 o3 d22).bind fun (z42 : (Bool × Int) ⊕ (Int × Int)) => match z42 with
  | .inr (e87, e88) => some (Sum.inr (Sum.inr (e87, e88)))
  | .inl (r64, r65) => (if (!r64) = true then ((pq_here_v2 d1 r65 d3 d4 d5 d6 d20 d21 o3 d22).bind fun (z44 : (Int × Int) ⊕ (Int × Int)) => match z44 with
  | .inr (e91, e92) => some (Sum.inr (Sum.inr (e91, e92)))
  | .inl (r68, r69) => ((pq_fresh_v2 d1 r69 d3 d4 d5 d6 d20 d21 o3 d22).bind fun (z46 : ((List UInt8) × Int) ⊕ (Int × Int)) => match z46 with
  | .inr (e95, e96) => some (Sum.inr (Sum.inr (e95, e96)))
  | .inl (r72, r73) => (if (decide ((d20.length : Int) ≥ (24 : Int))) = true then ((pq_fail_v2 (24 : Int) r69 d1 r73 d3 d4 d5 d6 d20 d21 o3 d22).bind fun (z48 : (Unit) ⊕ (Int × Int)) => match z48 with
  | .inr (e99, e100) => some (Sum.inr (Sum.inr (e99, e100)))
  | .inl _ => none)
  else (if 0 ≤ (d20.length : Int) then (if (d21.length + ([(d20.length : Int)] : List Int).length) * 8 ≤ 140737488355328 ∧ d21.length + ([(d20.length : Int)] : List Int).length ≤ 9223372036854775807 then (if (d20.length + ([r72] : List (List UInt8)).length) * 16 ≤ 140737488355328 ∧ d20.length + ([r72] : List (List UInt8)).length ≤ 9223372036854775807 then some (Sum.inl (r73, (d20 ++ ([r72] : List (List UInt8))), (d21 ++ ([(d20.length : Int)] : List Int)), (mset .str d22 r72 (IntKind.u32.wrap ((1 : Int) * 2 ^ (min (d20.length : Int).toNat IntKind.u32.bits)))))) else none) else none) else none))))
  else some (Sum.inr (Sum.inl (r65, d20, d21, d22)))))
def pq_class_v1 (d1 : List UInt8) (d2 d3 d4 d5 d6 : Int) (o1 : List (List UInt8)) (o2 : List Int) (o3 : List (Int × Tree × Tree)) (o4 : List ((List UInt8) × Int)) : Option ((Int × (List (List UInt8)) × (List Int) × List ((List UInt8) × Int)) ⊕ (Int × Int)) :=
  ((iter (pq_class_v1_L1 d1 d3 d4 d5 d6 o3) (d2, o1, o2, o4)).bind fun (r74 : ((Int × (List (List UInt8)) × (List Int) × List ((List UInt8) × Int)) ⊕ (Int × Int))) => match r74 with
  | .inl (v9, v10, v11, v12) => some (Sum.inl (v9, v10, v11, v12))
  | .inr ((e83, e84)) => some (Sum.inr (e83, e84)))
theorem pq_class_v1_ok (d1 : List UInt8) (d2 d3 d4 d5 d6 : Int) (o1 : List (List UInt8)) (o2 : List Int) (o3 : List (Int × Tree × Tree)) (o4 : List ((List UInt8) × Int)) (res : (Int × (List (List UInt8)) × (List Int) × List ((List UInt8) × Int)) ⊕ (Int × Int)) (h : pq_class_v1 d1 d2 d3 d4 d5 d6 o1 o2 o3 o4 = some res) :
    Does Try.prog 29 [.adr 0 0 10 0] (ob21 d1 d2 d3 d4 d5 d6 o1 o2 o3 o4) (outT (fun (q : Int × (List (List UInt8)) × (List Int) × List ((List UInt8) × Int)) => (.tup [], (ob24 d1 q.1 d3 d4 d5 d6 o3 q.2.2.2 q.2.1 q.2.2.1))) (faultV 40 .i64 .i64) res) := by
  refine Does.of_body tbok Try.func29 (by kernel_rfl) rfl (nl rfl) (fun Bw w0 => ?_)
  unfold pq_class_v1 at h
  refine W_block ?_
  obtain ⟨r74, hp2, h⟩ := h_bind h
  refine W.mono (Q := (postS (postX Try.f29.ntmps 0 (fun ((v9, v10, v11, v12) : Int × (List (List UInt8)) × (List Int) × List ((List UInt8) × Int)) => mkSt [] (ob24 d1 v9 d3 d4 d5 d6 o3 v12 v10 v11) 7 5)) (postP (faultV 40 .i64 .i64))) r74) (W_iter (f := fun ((d19, d20, d21, d22) : Int × (List (List UInt8)) × (List Int) × List ((List UInt8) × Int)) => mkSt [(0, .adr 0 0 10 0)] (ob24 d1 d19 d3 d4 d5 d6 o3 d22 d20 d21) 7 5) (Q := (postS (postX Try.f29.ntmps 0 (fun ((v9, v10, v11, v12) : Int × (List (List UInt8)) × (List Int) × List ((List UInt8) × Int)) => mkSt [] (ob24 d1 v9 d3 d4 d5 d6 o3 v12 v10 v11) 7 5)) (postP (faultV 40 .i64 .i64)))) hp2 (gl [] [0, 1, 2, 3, 4, 1, 2] (by kernel_rfl)) (fun y o ho => ?_)) (fun e σ' hq => ?_)
  · obtain ⟨d19, d20, d21, d22⟩ := y
    replace h := ho
    clear ho hp2
    unfold pq_class_v1_L1 at h
    refine W_seq ?_
    refine W_seq ?_
    obtain ⟨z42, q42, h⟩ := h_bind h
    rcases z42 with ⟨r64, r65⟩ | ⟨e87, e88⟩
    · have u_1 := (pq_sign_v2_ok (59 : Int) d1 d19 d3 d4 d5 d6 d20 d21 o3 d22 _ q42)
      refine W_r tbok ⟨[], [(1, ⟨.bo r64, [false, false], true, [true, true], [0, 5, 6, 3, 4], (ob21 d1 r65 d3 d4 d5 d6 d20 d21 o3 d22), none⟩)]⟩ [] [0, 1, 2, 3, 4, 5, 6] [(0, .adr 0 0 10 0), (6, .bo (!r64))] (ob24 d1 r65 d3 d4 d5 d6 o3 d22 d20 d21) 7 5 [True, pO u_1, True] (by kernel_rfl) ⟨tt, u_1, tt, tt⟩ ?_
      refine to_then ?_
      refine W_cond (b := (!r64)) (β := false) (by kernel_rfl) (fun hb11 => ?_) (fun hb11 => ?_)
      · replace h := h_if hb11 h
        refine W_skip_to ?_
        refine to_then ?_
        refine W_block ?_
        refine W_seq ?_
        obtain ⟨z44, q44, h⟩ := h_bind h
        rcases z44 with ⟨r68, r69⟩ | ⟨e91, e92⟩
        · have u_1 := (pq_here_v2_ok d1 r65 d3 d4 d5 d6 d20 d21 o3 d22 _ q44)
          refine W_r tbok ⟨[], [(1, ⟨.u8 r68, [false], true, [true], [0, 5, 6, 3, 4], (ob21 d1 r69 d3 d4 d5 d6 d20 d21 o3 d22), none⟩)]⟩ [] [0, 1, 2, 3, 4, 5, 6] [(0, .adr 0 0 10 0)] (ob24 d1 r69 d3 d4 d5 d6 o3 d22 d20 d21) 7 5 [True, pO u_1] (by kernel_rfl) ⟨tt, u_1, tt⟩ ?_
          refine to_then ?_
          refine W_rs tbok ⟨[], []⟩ [] [0, 1, 2, 3, 4, 5, 6] [(0, .adr 0 0 10 0), (2, .i64 r69)] (ob24 d1 r69 d3 d4 d5 d6 o3 d22 d20 d21) 7 5 (Ts 5 []) (by kernel_rfl) (tr 5 tt) ?_
          refine W_seq ?_
          obtain ⟨z46, q46, h⟩ := h_bind h
          rcases z46 with ⟨r72, r73⟩ | ⟨e95, e96⟩
          · have u_1 := (pq_fresh_v2_ok d1 r69 d3 d4 d5 d6 d20 d21 o3 d22 _ q46)
            refine W_r tbok ⟨[], [(1, ⟨.st r72, [false], true, [true], [0, 5, 6, 3, 4], (ob21 d1 r73 d3 d4 d5 d6 d20 d21 o3 d22), none⟩)]⟩ [] [0, 1, 2, 3, 4, 5, 6] [(0, .adr 0 0 10 0), (2, .i64 r69), (3, .st r72)] (ob24 d1 r73 d3 d4 d5 d6 o3 d22 d20 d21) 7 5 [True, pO u_1, True] (by kernel_rfl) ⟨tt, u_1, tt, tt⟩ ?_
            refine to_then ?_
            refine W_seq ?_
            refine W_rs tbok ⟨[], []⟩ [] [0, 1, 2, 3, 4, 5, 6] [(0, .adr 0 0 10 0), (2, .i64 r69), (3, .st r72), (21, .bo (decide ((d20.length : Int) ≥ (24 : Int))))] (ob24 d1 r73 d3 d4 d5 d6 o3 d22 d20 d21) 7 5 (Ts 7 []) (by kernel_rfl) (tr 7 tt) ?_
            refine W_cond (b := (decide ((d20.length : Int) ≥ (24 : Int)))) (β := false) (by kernel_rfl) (fun hb12 => ?_) (fun hb12 => ?_)
            · replace h := h_if hb12 h
              obtain ⟨z48, q48, h⟩ := h_bind h
              rcases z48 with _ | ⟨e99, e100⟩
              · cases h
              refine W_die tbok ⟨[], [(2, ⟨.unk, [false, false, false], true, [true, true, true], [0, 5, 6, 3, 4], [], some (faultV 40 .i64 .i64 (e99, e100))⟩)]⟩ 2 (faultV 40 .i64 .i64 (e99, e100)) [] [0, 1, 2, 3, 4] [] [] 5 5 [True, True, Dies Try.prog 22 [.adr 0 0 10 0, .i64 (24 : Int), .i64 r69] (ob21 d1 r73 d3 d4 d5 d6 d20 d21 o3 d22) (faultV 40 .i64 .i64 (e99, e100))] (by kernel_rfl) (by kernel_rfl) ⟨tt, tt, (pq_fail_v2_ok (24 : Int) r69 d1 r73 d3 d4 d5 d6 d20 d21 o3 d22 _ q48), tt⟩ (fun σ1 hle => ?_)
              obtain rfl := sI h
              refine thenQ_pan ?_
              refine blockQ_pan ?_
              refine round_pan ?_
              refine postS_rr ?_
              exact rfl
            replace h := h_else hb12 h
            refine W_skip_to ?_
            refine to_then ?_
            refine W_seq ?_
            obtain ⟨c32, h⟩ := h_guard h
            refine W_regD tbok mixed ⟨[], []⟩ [] [0, 1, 2, 3, 4, 5, 6] [(0, .adr 0 0 10 0), (3, .st r72)] (ob24 d1 r73 d3 d4 d5 d6 o3 (mset .str d22 r72 (IntKind.u32.wrap ((1 : Int) * 2 ^ (min (d20.length : Int).toNat IntKind.u32.bits)))) d20 d21) 7 5 (Ts 11 [0 ≤ (d20.length : Int), True]) (by kernel_rfl) (by kernel_rfl) (tr 11 ⟨c32, tt, tt⟩) ?_
            refine to_then ?_
            refine W_seq ?_
            obtain ⟨c34, h⟩ := h_guard h
            refine W_regD tbok mixed ⟨[], []⟩ [] [0, 1, 2, 3, 4, 5, 111] [(0, .adr 0 0 10 0), (3, .st r72)] (ob24 d1 r73 d3 d4 d5 d6 o3 (mset .str d22 r72 (IntKind.u32.wrap ((1 : Int) * 2 ^ (min (d20.length : Int).toNat IntKind.u32.bits)))) d20 (d21 ++ ([(d20.length : Int)] : List Int))) 7 5 (Ts 13 (((d21.length + ([(d20.length : Int)] : List Int).length) * 8 ≤ 140737488355328 ∧ d21.length + ([(d20.length : Int)] : List Int).length ≤ 9223372036854775807) :: (Ts 4 []))) (by kernel_rfl) (by kernel_rfl) (tr 13 ⟨c34, (tr 4 tt)⟩) ?_
            refine to_then ?_
            obtain ⟨c36, h⟩ := h_guard h
            refine W_r tbok ⟨[], []⟩ [] [0, 1, 2, 3, 4, 71, 6] [(0, .adr 0 0 10 0)] (ob24 d1 r73 d3 d4 d5 d6 o3 (mset .str d22 r72 (IntKind.u32.wrap ((1 : Int) * 2 ^ (min (d20.length : Int).toNat IntKind.u32.bits)))) (d20 ++ ([r72] : List (List UInt8))) (d21 ++ ([(d20.length : Int)] : List Int))) 7 5 (Ts 8 (((d20.length + ([r72] : List (List UInt8)).length) * 16 ≤ 140737488355328 ∧ d20.length + ([r72] : List (List UInt8)).length ≤ 9223372036854775807) :: (Ts 4 []))) (by kernel_rfl) (tr 8 ⟨c36, (tr 4 tt)⟩) ?_
            refine to_block ?_
            obtain rfl := sI h
            exact roundB (gl [] [0, 1, 2, 3, 4, 5, 6] (by kernel_rfl))
          refine W_die tbok ⟨[], [(1, ⟨.unk, [false], true, [true], [0, 5, 6, 3, 4], [], some (faultV 40 .i64 .i64 (e95, e96))⟩)]⟩ 1 (faultV 40 .i64 .i64 (e95, e96)) [] [0, 1, 2, 3, 4] [] [] 5 5 [True, Dies Try.prog 48 [.adr 0 0 10 0] (ob21 d1 r69 d3 d4 d5 d6 d20 d21 o3 d22) (faultV 40 .i64 .i64 (e95, e96))] (by kernel_rfl) (by kernel_rfl) ⟨tt, (pq_fresh_v2_ok d1 r69 d3 d4 d5 d6 d20 d21 o3 d22 _ q46), tt⟩ (fun σ1 hle => ?_)
          obtain rfl := sI h
          refine thenQ_pan ?_
          refine blockQ_pan ?_
          refine round_pan ?_
          refine postS_rr ?_
          exact rfl
        refine W_die tbok ⟨[], [(1, ⟨.unk, [false], true, [true], [0, 5, 6, 3, 4], [], some (faultV 40 .i64 .i64 (e91, e92))⟩)]⟩ 1 (faultV 40 .i64 .i64 (e91, e92)) [] [0, 1, 2, 3, 4] [] [] 5 5 [True, Dies Try.prog 33 [.adr 0 0 10 0] (ob21 d1 r65 d3 d4 d5 d6 d20 d21 o3 d22) (faultV 40 .i64 .i64 (e91, e92))] (by kernel_rfl) (by kernel_rfl) ⟨tt, (pq_here_v2_ok d1 r65 d3 d4 d5 d6 d20 d21 o3 d22 _ q44), tt⟩ (fun σ1 hle => ?_)
        obtain rfl := sI h
        refine thenQ_pan ?_
        refine blockQ_pan ?_
        refine round_pan ?_
        refine postS_rr ?_
        exact rfl
      replace h := h_else hb11 h
      refine W_exit_to ?_
      refine thenE ?_
      obtain rfl := sI h
      refine roundE ?_
      refine postS_l ?_
      exact postX_to (gl [] [0, 1, 2, 3, 4, 5, 6] (by kernel_rfl))
    refine W_die tbok ⟨[], [(1, ⟨.unk, [false, false], true, [true, true], [0, 5, 6, 3, 4], [], some (faultV 40 .i64 .i64 (e87, e88))⟩)]⟩ 1 (faultV 40 .i64 .i64 (e87, e88)) [] [0, 1, 2, 3, 4] [] [] 5 5 [True, Dies Try.prog 47 [.adr 0 0 10 0, .u8 (59 : Int)] (ob21 d1 d19 d3 d4 d5 d6 d20 d21 o3 d22) (faultV 40 .i64 .i64 (e87, e88))] (by kernel_rfl) (by kernel_rfl) ⟨tt, (pq_sign_v2_ok (59 : Int) d1 d19 d3 d4 d5 d6 d20 d21 o3 d22 _ q42), tt⟩ (fun σ1 hle => ?_)
    obtain rfl := sI h
    refine thenQ_pan ?_
    refine thenQ_pan ?_
    refine round_pan ?_
    refine postS_rr ?_
    exact rfl
  clear hp2
  rcases r74 with ⟨v9, v10, v11, v12⟩ | ⟨e83, e84⟩
  · obtain ⟨rfl, hle⟩ := hq
    refine use_to ?_ hle
    refine blockE_eq ?_
    obtain rfl := sI h
    exact (RetO_intro [] [] [0, 1, 2, 3, 4, 5, 6] [] (ob24 d1 v9 d3 d4 d5 d6 o3 v12 v10 v11) 7 5 (by kernel_rfl) (by kernel_rfl) (by kernel_rfl)).normal
  obtain rfl := hq
  refine blockQ_pan ?_
  obtain rfl := sI h
  exact rfl
def pq_want_v1 (c1 : Int) (p1 : List UInt8) (p2 p3 p4 p5 p6 : Int) (o1 : List (List UInt8)) (o2 : List Int) (o3 : List (Int × Tree × Tree)) (o4 : List ((List UInt8) × Int)) : Option ((Int) ⊕ (Int × Int)) :=
  ((pq_sign_v2 c1 p1 p2 p3 p4 p5 p6 o1 o2 o3 o4).bind fun (z6 : (Bool × Int) ⊕ (Int × Int)) => match z6 with
  | .inr (e11, e12) => some (Sum.inr (e11, e12))
  | .inl (r7, r8) => (if (!r7) = true then ((pq_fail_v2 (21 : Int) r8 p1 r8 p3 p4 p5 p6 o1 o2 o3 o4).bind fun (z8 : (Unit) ⊕ (Int × Int)) => match z8 with
  | .inr (e15, e16) => some (Sum.inr (e15, e16))
  | .inl _ => none)
  else some (Sum.inl r8)))
theorem pq_want_v1_ok (c1 : Int) (p1 : List UInt8) (p2 p3 p4 p5 p6 : Int) (o1 : List (List UInt8)) (o2 : List Int) (o3 : List (Int × Tree × Tree)) (o4 : List ((List UInt8) × Int)) (res : (Int) ⊕ (Int × Int)) (h : pq_want_v1 c1 p1 p2 p3 p4 p5 p6 o1 o2 o3 o4 = some res) :
    Does Try.prog 49 [.adr 0 0 10 0, .u8 c1] (ob21 p1 p2 p3 p4 p5 p6 o1 o2 o3 o4) (outT (fun (q : Int) => (.tup [], (ob21 p1 q p3 p4 p5 p6 o1 o2 o3 o4))) (faultV 40 .i64 .i64) res) := by
  refine Does.of_body tbok Try.func49 (by kernel_rfl) rfl (nl rfl) (fun Bw w0 => ?_)
  unfold pq_want_v1 at h
  refine W_seq ?_
  obtain ⟨z6, q6, h⟩ := h_bind h
  rcases z6 with ⟨r7, r8⟩ | ⟨e11, e12⟩
  · have u_1 := (pq_sign_v2_ok c1 p1 p2 p3 p4 p5 p6 o1 o2 o3 o4 _ q6)
    refine W_r tbok ⟨[], [(2, ⟨.bo r7, [false, false], true, [true, true], [0, 1, 2, 3, 4], (ob21 p1 r8 p3 p4 p5 p6 o1 o2 o3 o4), none⟩)]⟩ [] [0, 1, 2, 3, 4] [(0, .adr 0 0 10 0), (7, .bo (!r7))] (ob21 p1 r8 p3 p4 p5 p6 o1 o2 o3 o4) 5 5 [True, True, pO u_1, True] (by kernel_rfl) ⟨tt, tt, u_1, tt, tt⟩ ?_
    refine to_then ?_
    refine W_cond (b := (!r7)) (β := false) (by kernel_rfl) (fun hb2 => ?_) (fun hb2 => ?_)
    · replace h := h_if hb2 h
      obtain ⟨z8, q8, h⟩ := h_bind h
      rcases z8 with _ | ⟨e15, e16⟩
      · cases h
      refine W_die tbok ⟨[], [(5, ⟨.unk, [false, false, false], true, [true, true, true], [0, 1, 2, 3, 4], [], some (faultV 40 .i64 .i64 (e15, e16))⟩)]⟩ 5 (faultV 40 .i64 .i64 (e15, e16)) [] [0, 1, 2, 3, 4] [] [] 5 5 (Ts 5 [Dies Try.prog 22 [.adr 0 0 10 0, .i64 (21 : Int), .i64 r8] (ob21 p1 r8 p3 p4 p5 p6 o1 o2 o3 o4) (faultV 40 .i64 .i64 (e15, e16))]) (by kernel_rfl) (by kernel_rfl) (tr 5 ⟨(pq_fail_v2_ok (21 : Int) r8 p1 r8 p3 p4 p5 p6 o1 o2 o3 o4 _ q8), tt⟩) (fun σ1 hle => ?_)
      obtain rfl := sI h
      exact rfl
    replace h := h_else hb2 h
    refine W_skip_to ?_
    obtain rfl := sI h
    exact (RetO_intro [] [] [0, 1, 2, 3, 4] [] (ob21 p1 r8 p3 p4 p5 p6 o1 o2 o3 o4) 5 5 (by kernel_rfl) (by kernel_rfl) (by kernel_rfl)).normal
  refine W_die tbok ⟨[], [(2, ⟨.unk, [false, false], true, [true, true], [0, 1, 2, 3, 4], [], some (faultV 40 .i64 .i64 (e11, e12))⟩)]⟩ 2 (faultV 40 .i64 .i64 (e11, e12)) [] [0, 1, 2, 3, 4] [] [] 5 5 [True, True, Dies Try.prog 47 [.adr 0 0 10 0, .u8 c1] (ob21 p1 p2 p3 p4 p5 p6 o1 o2 o3 o4) (faultV 40 .i64 .i64 (e11, e12))] (by kernel_rfl) (by kernel_rfl) ⟨tt, tt, (pq_sign_v2_ok c1 p1 p2 p3 p4 p5 p6 o1 o2 o3 o4 _ q6), tt⟩ (fun σ1 hle => ?_)
  refine thenQ_pan ?_
  obtain rfl := sI h
  exact rfl
def pq_named_v1 (p1 : List UInt8) (p2 p3 p4 p5 p6 : Int) (o1 : List (List UInt8)) (o2 : List Int) (o3 : List (Int × Tree × Tree)) (o4 : List ((List UInt8) × Int)) : Option ((Int × Int) ⊕ (Int × Int)) :=
  ((pq_word_v2 p1 p2 p3 p4 p5 p6 o1 o2 o3 o4).bind fun (z6 : ((List UInt8) × Int × Int) ⊕ (Int × Int)) => match z6 with
  | .inr (e11, e12) => some (Sum.inr (e11, e12))
  | .inl (r11, r12, r13) => (if ((mfind .str o4 r11).isSome) = true then some (Sum.inl (((mfind .str o4 r11).getD (0 : Int)), r13))
  else ((pq_fail_v2 (22 : Int) r12 p1 r13 p3 p4 p5 p6 o1 o2 o3 o4).bind fun (z8 : (Unit) ⊕ (Int × Int)) => match z8 with
  | .inr (e15, e16) => some (Sum.inr (e15, e16))
  | .inl _ => none)))
theorem pq_named_v1_ok (p1 : List UInt8) (p2 p3 p4 p5 p6 : Int) (o1 : List (List UInt8)) (o2 : List Int) (o3 : List (Int × Tree × Tree)) (o4 : List ((List UInt8) × Int)) (res : (Int × Int) ⊕ (Int × Int)) (h : pq_named_v1 p1 p2 p3 p4 p5 p6 o1 o2 o3 o4 = some res) :
    Does Try.prog 59 [.adr 0 0 10 0] (ob21 p1 p2 p3 p4 p5 p6 o1 o2 o3 o4) (outT (fun (q : Int × Int) => (.u32 q.1, (ob21 p1 q.2 p3 p4 p5 p6 o1 o2 o3 o4))) (faultV 40 .i64 .i64) res) := by
  refine Does.of_body tbok Try.func59 (by kernel_rfl) rfl (nl rfl) (fun Bw w0 => ?_)
  unfold pq_named_v1 at h
  refine W_rs tbok ⟨[], []⟩ [] [0, 1, 2, 3, 4] [(0, .adr 0 0 10 0)] (ob21 p1 p2 p3 p4 p5 p6 o1 o2 o3 o4) 5 5 [True] (by kernel_rfl) ⟨tt, tt⟩ ?_
  refine W_seq ?_
  obtain ⟨z6, q6, h⟩ := h_bind h
  rcases z6 with ⟨r11, r12, r13⟩ | ⟨e11, e12⟩
  · have u_1 := (pq_word_v2_ok p1 p2 p3 p4 p5 p6 o1 o2 o3 o4 _ q6)
    refine W_r tbok ⟨[], [(1, ⟨.tup [.st r11, .i64 r12], [false], true, [true], [0, 1, 2, 3, 4], (ob21 p1 r13 p3 p4 p5 p6 o1 o2 o3 o4), none⟩)]⟩ [] [0, 1, 2, 3, 4] [(0, .adr 0 0 10 0), (3, .st r11), (4, .i64 r12)] (ob21 p1 r13 p3 p4 p5 p6 o1 o2 o3 o4) 5 5 (True :: (pO u_1) :: (Ts 5 [])) (by kernel_rfl) ⟨tt, u_1, (tr 5 tt)⟩ ?_
    refine to_then ?_
    refine W_seq ?_
    refine W_rs tbok ⟨[], []⟩ [] [0, 1, 2, 3, 4] [(0, .adr 0 0 10 0), (4, .i64 r12), (5, .u32 ((mfind .str o4 r11).getD (0 : Int))), (6, .bo ((mfind .str o4 r11).isSome))] (ob21 p1 r13 p3 p4 p5 p6 o1 o2 o3 o4) 5 5 (Ts 11 []) (by kernel_rfl) (tr 11 tt) ?_
    refine W_rs tbok ⟨[], []⟩ [] [0, 1, 2, 3, 4] [(0, .adr 0 0 10 0), (4, .i64 r12), (5, .u32 ((mfind .str o4 r11).getD (0 : Int))), (21, .bo ((mfind .str o4 r11).isSome))] (ob21 p1 r13 p3 p4 p5 p6 o1 o2 o3 o4) 5 5 [True] (by kernel_rfl) ⟨tt, tt⟩ ?_
    refine W_cond (b := (mfind .str o4 r11).isSome) (β := false) (by kernel_rfl) (fun hb2 => ?_) (fun hb2 => ?_)
    · replace h := h_if hb2 h
      refine W_rs tbok ⟨[], []⟩ [] [0, 1, 2, 3, 4] [(2, .u32 ((mfind .str o4 r11).getD (0 : Int)))] (ob21 p1 r13 p3 p4 p5 p6 o1 o2 o3 o4) 5 5 [True, True] (by kernel_rfl) ⟨tt, tt, tt⟩ ?_
      refine W_ret ?_
      refine thenQ_ret ?_
      obtain rfl := sI h
      exact RetO_intro [some (.int .u32)] [] [0, 1, 2, 3, 4] [(2, .u32 ((mfind .str o4 r11).getD (0 : Int)))] (ob21 p1 r13 p3 p4 p5 p6 o1 o2 o3 o4) 5 5 (by kernel_rfl) (by kernel_rfl) (by kernel_rfl)
    replace h := h_else hb2 h
    refine W_skip_to ?_
    refine to_then ?_
    refine W_seq ?_
    obtain ⟨z8, q8, h⟩ := h_bind h
    rcases z8 with _ | ⟨e15, e16⟩
    · cases h
    refine W_die tbok ⟨[], [(2, ⟨.unk, [false, false, false], true, [true, true, true], [0, 1, 2, 3, 4], [], some (faultV 40 .i64 .i64 (e15, e16))⟩)]⟩ 2 (faultV 40 .i64 .i64 (e15, e16)) [] [0, 1, 2, 3, 4] [] [] 5 5 [True, True, Dies Try.prog 22 [.adr 0 0 10 0, .i64 (22 : Int), .i64 r12] (ob21 p1 r13 p3 p4 p5 p6 o1 o2 o3 o4) (faultV 40 .i64 .i64 (e15, e16))] (by kernel_rfl) (by kernel_rfl) ⟨tt, tt, (pq_fail_v2_ok (22 : Int) r12 p1 r13 p3 p4 p5 p6 o1 o2 o3 o4 _ q8), tt⟩ (fun σ1 hle => ?_)
    refine thenQ_pan ?_
    obtain rfl := sI h
    exact rfl
  refine W_die tbok ⟨[], [(1, ⟨.unk, [false], true, [true], [0, 1, 2, 3, 4], [], some (faultV 40 .i64 .i64 (e11, e12))⟩)]⟩ 1 (faultV 40 .i64 .i64 (e11, e12)) [] [0, 1, 2, 3, 4] [] [] 5 5 [True, Dies Try.prog 34 [.adr 0 0 10 0] (ob21 p1 p2 p3 p4 p5 p6 o1 o2 o3 o4) (faultV 40 .i64 .i64 (e11, e12))] (by kernel_rfl) (by kernel_rfl) ⟨tt, (pq_word_v2_ok p1 p2 p3 p4 p5 p6 o1 o2 o3 o4 _ q6), tt⟩ (fun σ1 hle => ?_)
  refine thenQ_pan ?_
  obtain rfl := sI h
  exact rfl
def pq_classes_v1_L1 (end1 : Int) (p1 : List UInt8) (p3 p4 p5 p6 : Int) (o1 : List (List UInt8)) (o2 : List Int) (o3 : List (Int × Tree × Tree)) (o4 : List ((List UInt8) × Int)) : (Int × Int) → Option ((Int × Int) ⊕ ((Int × Int) ⊕ (Int × Int))) := fun ((p11, bits5) : Int × Int) =>
  ((pq_here_v2 p1 p11 p3 p4 p5 p6 o1 o2 o3 o4).bind fun (z22 : (Int × Int) ⊕ (Int × Int)) => match z22 with
  | .inr (e47, e48) => some (Sum.inr (Sum.inr (e47, e48)))
  | .inl (r45, r46) => (if (r45 != end1) = true then ((pq_named_v1 p1 r46 p3 p4 p5 p6 o1 o2 o3 o4).bind fun (z24 : (Int × Int) ⊕ (Int × Int)) => match z24 with
  | .inr (e51, e52) => some (Sum.inr (Sum.inr (e51, e52)))
  | .inl (r49, r50) => some (Sum.inl (r50, (bitsOf .or .u32 bits5 r49))))
  else some (Sum.inr (Sum.inl (r46, bits5)))))
def pq_classes_v1 (end1 : Int) (p1 : List UInt8) (p2 p3 p4 p5 p6 : Int) (o1 : List (List UInt8)) (o2 : List Int) (o3 : List (Int × Tree × Tree)) (o4 : List ((List UInt8) × Int)) : Option ((Int × Int) ⊕ (Int × Int)) :=
  ((iter (pq_classes_v1_L1 end1 p1 p3 p4 p5 p6 o1 o2 o3 o4) (p2, (0 : Int))).bind fun (r51 : ((Int × Int) ⊕ (Int × Int))) => match r51 with
  | .inl (p12, bits6) => some (Sum.inl (bits6, (IntKind.i64.wrap (p12 + (1 : Int)))))
  | .inr ((e43, e44)) => some (Sum.inr (e43, e44)))
theorem pq_classes_v1_ok (end1 : Int) (p1 : List UInt8) (p2 p3 p4 p5 p6 : Int) (o1 : List (List UInt8)) (o2 : List Int) (o3 : List (Int × Tree × Tree)) (o4 : List ((List UInt8) × Int)) (res : (Int × Int) ⊕ (Int × Int)) (h : pq_classes_v1 end1 p1 p2 p3 p4 p5 p6 o1 o2 o3 o4 = some res) :
    Does Try.prog 50 [.adr 0 0 10 0, .u8 end1] (ob21 p1 p2 p3 p4 p5 p6 o1 o2 o3 o4) (outT (fun (q : Int × Int) => (.u32 q.1, (ob21 p1 q.2 p3 p4 p5 p6 o1 o2 o3 o4))) (faultV 40 .i64 .i64) res) := by
  refine Does.of_body tbok Try.func50 (by kernel_rfl) rfl (nl rfl) (fun Bw w0 => ?_)
  unfold pq_classes_v1 at h
  refine W_rs tbok ⟨[], []⟩ [] [0, 1, 2, 3, 4] [(0, .adr 0 0 10 0), (1, .u8 end1)] (ob21 p1 p2 p3 p4 p5 p6 o1 o2 o3 o4) 5 5 [True] (by kernel_rfl) ⟨tt, tt⟩ ?_
  refine W_rs tbok ⟨[], []⟩ [] [0, 1, 2, 3, 4] [(0, .adr 0 0 10 0), (1, .u8 end1), (5, .u32 (0 : Int))] (ob21 p1 p2 p3 p4 p5 p6 o1 o2 o3 o4) 5 5 [True] (by kernel_rfl) ⟨tt, tt⟩ ?_
  refine W_seq ?_
  refine W_block ?_
  obtain ⟨r51, hp2, h⟩ := h_bind h
  refine W.mono (Q := (postS (postX Try.f50.ntmps 0 (fun ((p12, bits6) : Int × Int) => mkSt [(0, .adr 0 0 10 0), (5, .u32 bits6)] (ob21 p1 p12 p3 p4 p5 p6 o1 o2 o3 o4) 5 5)) (postP (faultV 40 .i64 .i64))) r51) (W_iter (f := fun ((p11, bits5) : Int × Int) => mkSt [(0, .adr 0 0 10 0), (1, .u8 end1), (5, .u32 bits5)] (ob21 p1 p11 p3 p4 p5 p6 o1 o2 o3 o4) 5 5) (Q := (postS (postX Try.f50.ntmps 0 (fun ((p12, bits6) : Int × Int) => mkSt [(0, .adr 0 0 10 0), (5, .u32 bits6)] (ob21 p1 p12 p3 p4 p5 p6 o1 o2 o3 o4) 5 5)) (postP (faultV 40 .i64 .i64)))) hp2 (gl [] [0, 1, 2, 3, 4] (by kernel_rfl)) (fun y o ho => ?_)) (fun e σ' hq => ?_)
  · obtain ⟨p11, bits5⟩ := y
    replace h := ho
    clear ho hp2
    unfold pq_classes_v1_L1 at h
    refine W_seq ?_
    refine W_seq ?_
    obtain ⟨z22, q22, h⟩ := h_bind h
    rcases z22 with ⟨r45, r46⟩ | ⟨e47, e48⟩
    · have u_1 := (pq_here_v2_ok p1 p11 p3 p4 p5 p6 o1 o2 o3 o4 _ q22)
      refine W_r tbok ⟨[], [(1, ⟨.u8 r45, [false], true, [true], [0, 1, 2, 3, 4], (ob21 p1 r46 p3 p4 p5 p6 o1 o2 o3 o4), none⟩)]⟩ [] [0, 1, 2, 3, 4] [(0, .adr 0 0 10 0), (1, .u8 end1), (5, .u32 bits5), (9, .bo (r45 != end1))] (ob21 p1 r46 p3 p4 p5 p6 o1 o2 o3 o4) 5 5 [True, pO u_1, True, True] (by kernel_rfl) ⟨tt, u_1, tt, tt, tt⟩ ?_
      refine to_then ?_
      refine W_cond (b := (r45 != end1)) (β := false) (by kernel_rfl) (fun hb6 => ?_) (fun hb6 => ?_)
      · replace h := h_if hb6 h
        refine W_skip_to ?_
        refine to_then ?_
        refine W_block ?_
        obtain ⟨z24, q24, h⟩ := h_bind h
        rcases z24 with ⟨r49, r50⟩ | ⟨e51, e52⟩
        · have u_1 := (pq_named_v1_ok p1 r46 p3 p4 p5 p6 o1 o2 o3 o4 _ q24)
          refine W_r tbok ⟨[], [(2, ⟨.u32 r49, [false], true, [true], [0, 1, 2, 3, 4], (ob21 p1 r50 p3 p4 p5 p6 o1 o2 o3 o4), none⟩)]⟩ [] [0, 1, 2, 3, 4] [(0, .adr 0 0 10 0), (1, .u8 end1), (5, .u32 (bitsOf .or .u32 bits5 r49))] (ob21 p1 r50 p3 p4 p5 p6 o1 o2 o3 o4) 5 5 [True, True, pO u_1, True, True] (by kernel_rfl) ⟨tt, tt, u_1, tt, tt, tt⟩ ?_
          refine to_block ?_
          obtain rfl := sI h
          exact roundB (gl [] [0, 1, 2, 3, 4] (by kernel_rfl))
        refine W_die tbok ⟨[], [(2, ⟨.unk, [false], true, [true], [0, 1, 2, 3, 4], [], some (faultV 40 .i64 .i64 (e51, e52))⟩)]⟩ 2 (faultV 40 .i64 .i64 (e51, e52)) [] [0, 1, 2, 3, 4] [] [] 5 5 [True, True, Dies Try.prog 59 [.adr 0 0 10 0] (ob21 p1 r46 p3 p4 p5 p6 o1 o2 o3 o4) (faultV 40 .i64 .i64 (e51, e52))] (by kernel_rfl) (by kernel_rfl) ⟨tt, tt, (pq_named_v1_ok p1 r46 p3 p4 p5 p6 o1 o2 o3 o4 _ q24), tt⟩ (fun σ1 hle => ?_)
        obtain rfl := sI h
        refine blockQ_pan ?_
        refine round_pan ?_
        refine postS_rr ?_
        exact rfl
      replace h := h_else hb6 h
      refine W_exit_to ?_
      refine thenE ?_
      obtain rfl := sI h
      refine roundE ?_
      refine postS_l ?_
      exact postX_to (gl [] [0, 1, 2, 3, 4] (by kernel_rfl))
    refine W_die tbok ⟨[], [(1, ⟨.unk, [false], true, [true], [0, 1, 2, 3, 4], [], some (faultV 40 .i64 .i64 (e47, e48))⟩)]⟩ 1 (faultV 40 .i64 .i64 (e47, e48)) [] [0, 1, 2, 3, 4] [] [] 5 5 [True, Dies Try.prog 33 [.adr 0 0 10 0] (ob21 p1 p11 p3 p4 p5 p6 o1 o2 o3 o4) (faultV 40 .i64 .i64 (e47, e48))] (by kernel_rfl) (by kernel_rfl) ⟨tt, (pq_here_v2_ok p1 p11 p3 p4 p5 p6 o1 o2 o3 o4 _ q22), tt⟩ (fun σ1 hle => ?_)
    obtain rfl := sI h
    refine thenQ_pan ?_
    refine thenQ_pan ?_
    refine round_pan ?_
    refine postS_rr ?_
    exact rfl
  clear hp2
  rcases r51 with ⟨p12, bits6⟩ | ⟨e43, e44⟩
  · obtain ⟨rfl, hle⟩ := hq
    refine use_to ?_ hle
    refine blockE_eq ?_
    refine to_then ?_
    refine W_rs tbok ⟨[], []⟩ [] [0, 1, 2, 3, 4] [(5, .u32 bits6)] (ob21 p1 (IntKind.i64.wrap (p12 + (1 : Int))) p3 p4 p5 p6 o1 o2 o3 o4) 5 5 (Ts 8 []) (by kernel_rfl) (tr 8 tt) ?_
    refine W_rs tbok ⟨[], []⟩ [] [0, 1, 2, 3, 4] [(4, .u32 bits6)] (ob21 p1 (IntKind.i64.wrap (p12 + (1 : Int))) p3 p4 p5 p6 o1 o2 o3 o4) 5 5 [True, True] (by kernel_rfl) ⟨tt, tt, tt⟩ ?_
    refine W_ret ?_
    obtain rfl := sI h
    exact RetO_intro [some (.int .u32)] [] [0, 1, 2, 3, 4] [(4, .u32 bits6)] (ob21 p1 (IntKind.i64.wrap (p12 + (1 : Int))) p3 p4 p5 p6 o1 o2 o3 o4) 5 5 (by kernel_rfl) (by kernel_rfl) (by kernel_rfl)
  obtain rfl := hq
  refine blockQ_pan ?_
  refine thenQ_pan ?_
  obtain rfl := sI h
  exact rfl
def pq_set_v1 (p1 : List UInt8) (p2 p3 p4 p5 p6 : Int) (o1 : List (List UInt8)) (o2 : List Int) (o3 : List (Int × Tree × Tree)) (o4 : List ((List UInt8) × Int)) : Option ((Int × List ((List UInt8) × Int)) ⊕ (Int × Int)) :=
  ((pq_fresh_v2 p1 p2 p3 p4 p5 p6 o1 o2 o3 o4).bind fun (z8 : ((List UInt8) × Int) ⊕ (Int × Int)) => match z8 with
  | .inr (e15, e16) => some (Sum.inr (e15, e16))
  | .inl (r13, r14) => ((pq_want_v1 (61 : Int) p1 r14 p3 p4 p5 p6 o1 o2 o3 o4).bind fun (z10 : (Int) ⊕ (Int × Int)) => match z10 with
  | .inr (e19, e20) => some (Sum.inr (e19, e20))
  | .inl r16 => ((pq_classes_v1 (59 : Int) p1 r16 p3 p4 p5 p6 o1 o2 o3 o4).bind fun (z12 : (Int × Int) ⊕ (Int × Int)) => match z12 with
  | .inr (e23, e24) => some (Sum.inr (e23, e24))
  | .inl (r19, r20) => some (Sum.inl (r20, (mset .str o4 r13 r19))))))
theorem pq_set_v1_ok (p1 : List UInt8) (p2 p3 p4 p5 p6 : Int) (o1 : List (List UInt8)) (o2 : List Int) (o3 : List (Int × Tree × Tree)) (o4 : List ((List UInt8) × Int)) (res : (Int × List ((List UInt8) × Int)) ⊕ (Int × Int)) (h : pq_set_v1 p1 p2 p3 p4 p5 p6 o1 o2 o3 o4 = some res) :
    Does Try.prog 30 [.adr 0 0 10 0] (ob21 p1 p2 p3 p4 p5 p6 o1 o2 o3 o4) (outT (fun (q : Int × List ((List UInt8) × Int)) => (.tup [], (ob21 p1 q.1 p3 p4 p5 p6 o1 o2 o3 q.2))) (faultV 40 .i64 .i64) res) := by
  refine Does.of_body tbok Try.func30 (by kernel_rfl) rfl (nl rfl) (fun Bw w0 => ?_)
  unfold pq_set_v1 at h
  refine W_seq ?_
  obtain ⟨z8, q8, h⟩ := h_bind h
  rcases z8 with ⟨r13, r14⟩ | ⟨e15, e16⟩
  · have u_1 := (pq_fresh_v2_ok p1 p2 p3 p4 p5 p6 o1 o2 o3 o4 _ q8)
    refine W_r tbok ⟨[], [(1, ⟨.st r13, [false], true, [true], [0, 1, 2, 3, 4], (ob21 p1 r14 p3 p4 p5 p6 o1 o2 o3 o4), none⟩)]⟩ [] [0, 1, 2, 3, 4] [(0, .adr 0 0 10 0), (2, .st r13)] (ob21 p1 r14 p3 p4 p5 p6 o1 o2 o3 o4) 5 5 [True, pO u_1, True] (by kernel_rfl) ⟨tt, u_1, tt, tt⟩ ?_
    refine to_then ?_
    refine W_seq ?_
    obtain ⟨z10, q10, h⟩ := h_bind h
    rcases z10 with r16 | ⟨e19, e20⟩
    · have u_1 := (pq_want_v1_ok (61 : Int) p1 r14 p3 p4 p5 p6 o1 o2 o3 o4 _ q10)
      refine W_r tbok ⟨[], [(1, ⟨.tup [], [false, false], true, [true, true], [0, 1, 2, 3, 4], (ob21 p1 r16 p3 p4 p5 p6 o1 o2 o3 o4), none⟩)]⟩ [] [0, 1, 2, 3, 4] [(0, .adr 0 0 10 0), (2, .st r13)] (ob21 p1 r16 p3 p4 p5 p6 o1 o2 o3 o4) 5 5 [True, pO u_1] (by kernel_rfl) ⟨tt, u_1, tt⟩ ?_
      refine to_then ?_
      obtain ⟨z12, q12, h⟩ := h_bind h
      rcases z12 with ⟨r19, r20⟩ | ⟨e23, e24⟩
      · have u_1 := (pq_classes_v1_ok (59 : Int) p1 r16 p3 p4 p5 p6 o1 o2 o3 o4 _ q12)
        refine W_regT tbok mixed ⟨[], [(6, ⟨.u32 r19, [false, false], true, [true, true], [0, 1, 2, 3, 4], (ob21 p1 r20 p3 p4 p5 p6 o1 o2 o3 o4), none⟩)]⟩ (.one 0 (.one 1 (.one 2 (.one 4 (.one 5 (.two 3 (.one 6 (.one 7 (.leaf))) 6 (.one 3 (.one 7 (.leaf))))))))) [([], []), ([], []), ([], []), ([0], []), ([], []), ([], []), ([0, 1, 2, 3, 4], [0, 1, 2, 3, 4, 53, 54, 55, 56, 57, 58, 59, 60]), ([4], [4])] 2 [] [] [0, 1, 2, 3, 4] [] (ob21 p1 r20 p3 p4 p5 p6 o1 o2 o3 (mset .str o4 r13 r19)) 5 5 (Ts 6 ((pO u_1) :: (pO u_1) :: (Ts 3 []))) (by kernel_rfl) (by kernel_rfl) (tr 6 ⟨u_1, u_1, (tr 3 tt)⟩) (fun _ => ?_) (fun y hy => by cases hy)
        obtain rfl := sI h
        exact (RetO_intro [] [] [0, 1, 2, 3, 4] [] (ob21 p1 r20 p3 p4 p5 p6 o1 o2 o3 (mset .str o4 r13 r19)) 5 5 (by kernel_rfl) (by kernel_rfl) (by kernel_rfl)).normal
      refine W_regT tbok mixed ⟨[], [(6, ⟨.unk, [false, false], true, [true, true], [0, 1, 2, 3, 4], [], some (faultV 40 .i64 .i64 (e23, e24))⟩)]⟩ (.one 0 (.one 1 (.one 2 (.one 4 (.one 5 (.twoD 3 (.dead 6) 6)))))) [([], []), ([], []), ([], []), ([0], []), ([], []), ([], []), ([0, 1, 2, 3, 4], [0, 1, 2, 3, 4, 53, 54, 55, 56, 57, 58, 59, 60]), ([], [])] 0 [(faultV 40 .i64 .i64 (e23, e24)), (faultV 40 .i64 .i64 (e23, e24))] [] [0, 1, 2, 3, 4] [] [] 5 5 (Ts 6 [Dies Try.prog 50 [.adr 0 0 10 0, .u8 (59 : Int)] (ob21 p1 r16 p3 p4 p5 p6 o1 o2 o3 o4) (faultV 40 .i64 .i64 (e23, e24)), Dies Try.prog 50 [.adr 0 0 10 0, .u8 (59 : Int)] (ob21 p1 r16 p3 p4 p5 p6 o1 o2 o3 o4) (faultV 40 .i64 .i64 (e23, e24))]) (by kernel_rfl) (by kernel_rfl) (tr 6 ⟨(pq_classes_v1_ok (59 : Int) p1 r16 p3 p4 p5 p6 o1 o2 o3 o4 _ q12), (pq_classes_v1_ok (59 : Int) p1 r16 p3 p4 p5 p6 o1 o2 o3 o4 _ q12), tt⟩) (fun h0 => absurd rfl h0) (fun y hy σ1 => ?_)
      obtain rfl : y = (faultV 40 .i64 .i64 (e23, e24)) := by simpa using hy
      obtain rfl := sI h
      exact rfl
    refine W_die tbok ⟨[], [(1, ⟨.unk, [false, false], true, [true, true], [0, 1, 2, 3, 4], [], some (faultV 40 .i64 .i64 (e19, e20))⟩)]⟩ 1 (faultV 40 .i64 .i64 (e19, e20)) [] [0, 1, 2, 3, 4] [] [] 5 5 [True, Dies Try.prog 49 [.adr 0 0 10 0, .u8 (61 : Int)] (ob21 p1 r14 p3 p4 p5 p6 o1 o2 o3 o4) (faultV 40 .i64 .i64 (e19, e20))] (by kernel_rfl) (by kernel_rfl) ⟨tt, (pq_want_v1_ok (61 : Int) p1 r14 p3 p4 p5 p6 o1 o2 o3 o4 _ q10), tt⟩ (fun σ1 hle => ?_)
    refine thenQ_pan ?_
    obtain rfl := sI h
    exact rfl
  refine W_die tbok ⟨[], [(1, ⟨.unk, [false], true, [true], [0, 1, 2, 3, 4], [], some (faultV 40 .i64 .i64 (e15, e16))⟩)]⟩ 1 (faultV 40 .i64 .i64 (e15, e16)) [] [0, 1, 2, 3, 4] [] [] 5 5 [True, Dies Try.prog 48 [.adr 0 0 10 0] (ob21 p1 p2 p3 p4 p5 p6 o1 o2 o3 o4) (faultV 40 .i64 .i64 (e15, e16))] (by kernel_rfl) (by kernel_rfl) ⟨tt, (pq_fresh_v2_ok p1 p2 p3 p4 p5 p6 o1 o2 o3 o4 _ q8), tt⟩ (fun σ1 hle => ?_)
  refine thenQ_pan ?_
  obtain rfl := sI h
  exact rfl
def pq_join_v1 (p1 : List UInt8) (p2 p3 p4 p5 p6 : Int) (o1 : List (List UInt8)) (o2 : List Int) (o3 : List (Int × Tree × Tree)) (o4 : List ((List UInt8) × Int)) : Option ((Int × Int × Int) ⊕ (Int × Int)) :=
  ((pq_classes_v1 (47 : Int) p1 p2 p3 p4 p5 p6 o1 o2 o3 o4).bind fun (z6 : (Int × Int) ⊕ (Int × Int)) => match z6 with
  | .inr (e11, e12) => some (Sum.inr (e11, e12))
  | .inl (r11, r12) => ((pq_classes_v1 (59 : Int) p1 r12 (bitsOf .or .u32 p3 r11) p4 p5 p6 o1 o2 o3 o4).bind fun (z8 : (Int × Int) ⊕ (Int × Int)) => match z8 with
  | .inr (e15, e16) => some (Sum.inr (e15, e16))
  | .inl (r15, r16) => some (Sum.inl (r16, (bitsOf .or .u32 p3 r11), (bitsOf .or .u32 p4 r15)))))
theorem pq_join_v1_ok (p1 : List UInt8) (p2 p3 p4 p5 p6 : Int) (o1 : List (List UInt8)) (o2 : List Int) (o3 : List (Int × Tree × Tree)) (o4 : List ((List UInt8) × Int)) (res : (Int × Int × Int) ⊕ (Int × Int)) (h : pq_join_v1 p1 p2 p3 p4 p5 p6 o1 o2 o3 o4 = some res) :
    Does Try.prog 31 [.adr 0 0 10 0] (ob21 p1 p2 p3 p4 p5 p6 o1 o2 o3 o4) (outT (fun (q : Int × Int × Int) => (.tup [], (ob21 p1 q.1 q.2.1 q.2.2 p5 p6 o1 o2 o3 o4))) (faultV 40 .i64 .i64) res) := by
  refine Does.of_body tbok Try.func31 (by kernel_rfl) rfl (nl rfl) (fun Bw w0 => ?_)
  unfold pq_join_v1 at h
  refine W_seq ?_
  obtain ⟨z6, q6, h⟩ := h_bind h
  rcases z6 with ⟨r11, r12⟩ | ⟨e11, e12⟩
  · have u_1 := (pq_classes_v1_ok (47 : Int) p1 p2 p3 p4 p5 p6 o1 o2 o3 o4 _ q6)
    refine W_regT tbok mixed ⟨[], [(6, ⟨.u32 r11, [false, false], true, [true, true], [0, 1, 2, 3, 4], (ob21 p1 r12 p3 p4 p5 p6 o1 o2 o3 o4), none⟩)]⟩ (.one 0 (.one 1 (.one 2 (.one 3 (.one 5 (.two 4 (.one 6 (.one 7 (.one 8 (.one 9 (.one 10 (.one 11 (.leaf))))))) 6 (.one 4 (.one 7 (.one 8 (.one 9 (.one 10 (.one 11 (.leaf))))))))))))) [([], []), ([], []), ([], []), ([], []), ([0], []), ([], []), ([0, 1, 2, 3, 4], [0, 1, 2, 3, 4, 53, 54, 55, 56, 57, 58, 59, 60]), ([], []), ([], []), ([], []), ([], []), ([0], [0])] 2 [] [] [0, 1, 2, 3, 4] [(0, .adr 0 0 10 0)] (ob21 p1 r12 (bitsOf .or .u32 p3 r11) p4 p5 p6 o1 o2 o3 o4) 5 5 (Ts 6 ((pO u_1) :: (pO u_1) :: (Ts 11 []))) (by kernel_rfl) (by kernel_rfl) (tr 6 ⟨u_1, u_1, (tr 11 tt)⟩) (fun _ => ?_) (fun y hy => by cases hy)
    refine to_then ?_
    obtain ⟨z8, q8, h⟩ := h_bind h
    rcases z8 with ⟨r15, r16⟩ | ⟨e15, e16⟩
    · have u_1 := (pq_classes_v1_ok (59 : Int) p1 r12 (bitsOf .or .u32 p3 r11) p4 p5 p6 o1 o2 o3 o4 _ q8)
      refine W_regT tbok mixed ⟨[], [(6, ⟨.u32 r15, [false, false], true, [true, true], [0, 1, 2, 3, 4], (ob21 p1 r16 (bitsOf .or .u32 p3 r11) p4 p5 p6 o1 o2 o3 o4), none⟩)]⟩ (.one 0 (.one 1 (.one 2 (.one 3 (.one 5 (.two 4 (.one 6 (.one 7 (.one 8 (.one 9 (.one 10 (.one 11 (.leaf))))))) 6 (.one 4 (.one 7 (.one 8 (.one 9 (.one 10 (.one 11 (.leaf))))))))))))) [([], []), ([], []), ([], []), ([], []), ([0], []), ([], []), ([0, 1, 2, 3, 4], [0, 1, 2, 3, 4, 53, 54, 55, 56, 57, 58, 59, 60]), ([], []), ([], []), ([], []), ([], []), ([0], [0])] 2 [] [] [0, 1, 2, 3, 4] [] (ob21 p1 r16 (bitsOf .or .u32 p3 r11) (bitsOf .or .u32 p4 r15) p5 p6 o1 o2 o3 o4) 5 5 (Ts 6 ((pO u_1) :: (pO u_1) :: (Ts 11 []))) (by kernel_rfl) (by kernel_rfl) (tr 6 ⟨u_1, u_1, (tr 11 tt)⟩) (fun _ => ?_) (fun y hy => by cases hy)
      obtain rfl := sI h
      exact (RetO_intro [] [] [0, 1, 2, 3, 4] [] (ob21 p1 r16 (bitsOf .or .u32 p3 r11) (bitsOf .or .u32 p4 r15) p5 p6 o1 o2 o3 o4) 5 5 (by kernel_rfl) (by kernel_rfl) (by kernel_rfl)).normal
    refine W_regT tbok mixed ⟨[], [(6, ⟨.unk, [false, false], true, [true, true], [0, 1, 2, 3, 4], [], some (faultV 40 .i64 .i64 (e15, e16))⟩)]⟩ (.one 0 (.one 1 (.one 2 (.one 3 (.one 5 (.twoD 4 (.dead 6) 6)))))) [([], []), ([], []), ([], []), ([], []), ([0], []), ([], []), ([0, 1, 2, 3, 4], [0, 1, 2, 3, 4, 53, 54, 55, 56, 57, 58, 59, 60]), ([], []), ([], []), ([], []), ([], []), ([], [])] 0 [(faultV 40 .i64 .i64 (e15, e16)), (faultV 40 .i64 .i64 (e15, e16))] [] [0, 1, 2, 3, 4] [] [] 5 5 (Ts 6 [Dies Try.prog 50 [.adr 0 0 10 0, .u8 (59 : Int)] (ob21 p1 r12 (bitsOf .or .u32 p3 r11) p4 p5 p6 o1 o2 o3 o4) (faultV 40 .i64 .i64 (e15, e16)), Dies Try.prog 50 [.adr 0 0 10 0, .u8 (59 : Int)] (ob21 p1 r12 (bitsOf .or .u32 p3 r11) p4 p5 p6 o1 o2 o3 o4) (faultV 40 .i64 .i64 (e15, e16))]) (by kernel_rfl) (by kernel_rfl) (tr 6 ⟨(pq_classes_v1_ok (59 : Int) p1 r12 (bitsOf .or .u32 p3 r11) p4 p5 p6 o1 o2 o3 o4 _ q8), (pq_classes_v1_ok (59 : Int) p1 r12 (bitsOf .or .u32 p3 r11) p4 p5 p6 o1 o2 o3 o4 _ q8), tt⟩) (fun h0 => absurd rfl h0) (fun y hy σ1 => ?_)
    obtain rfl : y = (faultV 40 .i64 .i64 (e15, e16)) := by simpa using hy
    obtain rfl := sI h
    exact rfl
  refine W_regT tbok mixed ⟨[], [(6, ⟨.unk, [false, false], true, [true, true], [0, 1, 2, 3, 4], [], some (faultV 40 .i64 .i64 (e11, e12))⟩)]⟩ (.one 0 (.one 1 (.one 2 (.one 3 (.one 5 (.twoD 4 (.dead 6) 6)))))) [([], []), ([], []), ([], []), ([], []), ([0], []), ([], []), ([0, 1, 2, 3, 4], [0, 1, 2, 3, 4, 53, 54, 55, 56, 57, 58, 59, 60]), ([], []), ([], []), ([], []), ([], []), ([], [])] 0 [(faultV 40 .i64 .i64 (e11, e12)), (faultV 40 .i64 .i64 (e11, e12))] [] [0, 1, 2, 3, 4] [] [] 5 5 (Ts 6 [Dies Try.prog 50 [.adr 0 0 10 0, .u8 (47 : Int)] (ob21 p1 p2 p3 p4 p5 p6 o1 o2 o3 o4) (faultV 40 .i64 .i64 (e11, e12)), Dies Try.prog 50 [.adr 0 0 10 0, .u8 (47 : Int)] (ob21 p1 p2 p3 p4 p5 p6 o1 o2 o3 o4) (faultV 40 .i64 .i64 (e11, e12))]) (by kernel_rfl) (by kernel_rfl) (tr 6 ⟨(pq_classes_v1_ok (47 : Int) p1 p2 p3 p4 p5 p6 o1 o2 o3 o4 _ q6), (pq_classes_v1_ok (47 : Int) p1 p2 p3 p4 p5 p6 o1 o2 o3 o4 _ q6), tt⟩) (fun h0 => absurd rfl h0) (fun y hy σ1 => ?_)
  obtain rfl : y = (faultV 40 .i64 .i64 (e11, e12)) := by simpa using hy
  refine thenQ_pan ?_
  obtain rfl := sI h
  exact rfl
def pq_one_v1 (p1 : List UInt8) (p2 p3 p4 p5 p6 : Int) (o1 : List (List UInt8)) (o2 : List Int) (o3 : List (Int × Tree × Tree)) (o4 : List ((List UInt8) × Int)) : Option ((Int × Int) ⊕ (Int × Int)) :=
  ((pq_word_v2 p1 p2 p3 p4 p5 p6 o1 o2 o3 o4).bind fun (z6 : ((List UInt8) × Int × Int) ⊕ (Int × Int)) => match z6 with
  | .inr (e11, e12) => some (Sum.inr (e11, e12))
  | .inl (r13, r14, r15) => ((slices_Index_string_string o1 r13).bind fun (r17 : Int) =>
  (if (decide (r17 < (0 : Int))) = true then ((pq_fail_v2 (22 : Int) r14 p1 r15 p3 p4 p5 p6 o1 o2 o3 o4).bind fun (z8 : (Unit) ⊕ (Int × Int)) => match z8 with
  | .inr (e15, e16) => some (Sum.inr (e15, e16))
  | .inl _ => none)
  else some (Sum.inl (r17, r15)))))
theorem pq_one_v1_ok (p1 : List UInt8) (p2 p3 p4 p5 p6 : Int) (o1 : List (List UInt8)) (o2 : List Int) (o3 : List (Int × Tree × Tree)) (o4 : List ((List UInt8) × Int)) (res : (Int × Int) ⊕ (Int × Int)) (h : pq_one_v1 p1 p2 p3 p4 p5 p6 o1 o2 o3 o4 = some res) :
    Does Try.prog 51 [.adr 0 0 10 0] (ob21 p1 p2 p3 p4 p5 p6 o1 o2 o3 o4) (outT (fun (q : Int × Int) => (.i64 q.1, (ob21 p1 q.2 p3 p4 p5 p6 o1 o2 o3 o4))) (faultV 40 .i64 .i64) res) := by
  refine Does.of_body tbok Try.func51 (by kernel_rfl) rfl (nl rfl) (fun Bw w0 => ?_)
  unfold pq_one_v1 at h
  refine W_rs tbok ⟨[], []⟩ [] [0, 1, 2, 3, 4] [(0, .adr 0 0 10 0)] (ob21 p1 p2 p3 p4 p5 p6 o1 o2 o3 o4) 5 5 [True] (by kernel_rfl) ⟨tt, tt⟩ ?_
  refine W_seq ?_
  obtain ⟨z6, q8, h⟩ := h_bind h
  rcases z6 with ⟨r13, r14, r15⟩ | ⟨e11, e12⟩
  · have u_1 := (pq_word_v2_ok p1 p2 p3 p4 p5 p6 o1 o2 o3 o4 _ q8)
    refine W_r tbok ⟨[], [(1, ⟨.tup [.st r13, .i64 r14], [false], true, [true], [0, 1, 2, 3, 4], (ob21 p1 r15 p3 p4 p5 p6 o1 o2 o3 o4), none⟩)]⟩ [] [0, 1, 2, 3, 4] [(0, .adr 0 0 10 0), (3, .st r13), (4, .i64 r14)] (ob21 p1 r15 p3 p4 p5 p6 o1 o2 o3 o4) 5 5 (True :: (pO u_1) :: (Ts 5 [])) (by kernel_rfl) ⟨tt, u_1, (tr 5 tt)⟩ ?_
    refine to_then ?_
    obtain ⟨r17, q10, h⟩ := h_bind h
    have u_1 := (slices_Index_string_string_ok true o1 r13 _ q10)
    refine W_rs tbok ⟨[], [(6, ⟨.i64 r17, [false, false], false, [true, true], [], [], none⟩)]⟩ [] [0, 1, 2, 3, 4] [(0, .adr 0 0 10 0), (4, .i64 r14), (5, .i64 r17)] (ob21 p1 r15 p3 p4 p5 p6 o1 o2 o3 o4) 5 5 (Ts 6 [pO u_1, True]) (by kernel_rfl) (tr 6 ⟨u_1, tt, tt⟩) ?_
    refine W_seq ?_
    refine W_rs tbok ⟨[], []⟩ [] [0, 1, 2, 3, 4] [(0, .adr 0 0 10 0), (4, .i64 r14), (5, .i64 r17), (19, .bo (decide (r17 < (0 : Int))))] (ob21 p1 r15 p3 p4 p5 p6 o1 o2 o3 o4) 5 5 [True, True] (by kernel_rfl) ⟨tt, tt, tt⟩ ?_
    refine W_cond (b := (decide (r17 < (0 : Int)))) (β := false) (by kernel_rfl) (fun hb2 => ?_) (fun hb2 => ?_)
    · replace h := h_if hb2 h
      obtain ⟨z8, q12, h⟩ := h_bind h
      rcases z8 with _ | ⟨e15, e16⟩
      · cases h
      refine W_die tbok ⟨[], [(2, ⟨.unk, [false, false, false], true, [true, true, true], [0, 1, 2, 3, 4], [], some (faultV 40 .i64 .i64 (e15, e16))⟩)]⟩ 2 (faultV 40 .i64 .i64 (e15, e16)) [] [0, 1, 2, 3, 4] [] [] 5 5 [True, True, Dies Try.prog 22 [.adr 0 0 10 0, .i64 (22 : Int), .i64 r14] (ob21 p1 r15 p3 p4 p5 p6 o1 o2 o3 o4) (faultV 40 .i64 .i64 (e15, e16))] (by kernel_rfl) (by kernel_rfl) ⟨tt, tt, (pq_fail_v2_ok (22 : Int) r14 p1 r15 p3 p4 p5 p6 o1 o2 o3 o4 _ q12), tt⟩ (fun σ1 hle => ?_)
      refine thenQ_pan ?_
      obtain rfl := sI h
      exact rfl
    replace h := h_else hb2 h
    refine W_skip_to ?_
    refine to_then ?_
    refine W_rs tbok ⟨[], []⟩ [] [0, 1, 2, 3, 4] [(2, .i64 r17)] (ob21 p1 r15 p3 p4 p5 p6 o1 o2 o3 o4) 5 5 [True, True] (by kernel_rfl) ⟨tt, tt, tt⟩ ?_
    refine W_ret ?_
    obtain rfl := sI h
    exact RetO_intro [some (.int .i64)] [] [0, 1, 2, 3, 4] [(2, .i64 r17)] (ob21 p1 r15 p3 p4 p5 p6 o1 o2 o3 o4) 5 5 (by kernel_rfl) (by kernel_rfl) (by kernel_rfl)
  refine W_die tbok ⟨[], [(1, ⟨.unk, [false], true, [true], [0, 1, 2, 3, 4], [], some (faultV 40 .i64 .i64 (e11, e12))⟩)]⟩ 1 (faultV 40 .i64 .i64 (e11, e12)) [] [0, 1, 2, 3, 4] [] [] 5 5 [True, Dies Try.prog 34 [.adr 0 0 10 0] (ob21 p1 p2 p3 p4 p5 p6 o1 o2 o3 o4) (faultV 40 .i64 .i64 (e11, e12))] (by kernel_rfl) (by kernel_rfl) ⟨tt, (pq_word_v2_ok p1 p2 p3 p4 p5 p6 o1 o2 o3 o4 _ q8), tt⟩ (fun σ1 hle => ?_)
  refine thenQ_pan ?_
  obtain rfl := sI h
  exact rfl
def pq_treat_v1 (p1 : List UInt8) (p2 p3 p4 p5 p6 : Int) (o1 : List (List UInt8)) (o2 : List Int) (o3 : List (Int × Tree × Tree)) (o4 : List ((List UInt8) × Int)) : Option ((Int × List Int) ⊕ (Int × Int)) :=
  ((pq_one_v1 p1 p2 p3 p4 p5 p6 o1 o2 o3 o4).bind fun (z10 : (Int × Int) ⊕ (Int × Int)) => match z10 with
  | .inr (e19, e20) => some (Sum.inr (e19, e20))
  | .inl (r15, r16) => ((pq_want_v1 (61 : Int) p1 r16 p3 p4 p5 p6 o1 o2 o3 o4).bind fun (z12 : (Int) ⊕ (Int × Int)) => match z12 with
  | .inr (e23, e24) => some (Sum.inr (e23, e24))
  | .inl r18 => ((pq_one_v1 p1 r18 p3 p4 p5 p6 o1 o2 o3 o4).bind fun (z14 : (Int × Int) ⊕ (Int × Int)) => match z14 with
  | .inr (e27, e28) => some (Sum.inr (e27, e28))
  | .inl (r21, r22) => (if 0 ≤ r15 ∧ r15 < (o2.length : Int) then (if r15.toNat < o2.length then ((pq_want_v1 (59 : Int) p1 r22 p3 p4 p5 p6 o1 (o2.set r15.toNat r21) o3 o4).bind fun (z16 : (Int) ⊕ (Int × Int)) => match z16 with
  | .inr (e31, e32) => some (Sum.inr (e31, e32))
  | .inl r24 => some (Sum.inl (r24, (o2.set r15.toNat r21)))) else none) else none))))
theorem pq_treat_v1_ok (p1 : List UInt8) (p2 p3 p4 p5 p6 : Int) (o1 : List (List UInt8)) (o2 : List Int) (o3 : List (Int × Tree × Tree)) (o4 : List ((List UInt8) × Int)) (res : (Int × List Int) ⊕ (Int × Int)) (h : pq_treat_v1 p1 p2 p3 p4 p5 p6 o1 o2 o3 o4 = some res) :
    Does Try.prog 32 [.adr 0 0 10 0] (ob21 p1 p2 p3 p4 p5 p6 o1 o2 o3 o4) (outT (fun (q : Int × List Int) => (.tup [], (ob21 p1 q.1 p3 p4 p5 p6 o1 q.2 o3 o4))) (faultV 40 .i64 .i64) res) := by
  refine Does.of_body tbok Try.func32 (by kernel_rfl) rfl (nl rfl) (fun Bw w0 => ?_)
  unfold pq_treat_v1 at h
  refine W_seq ?_
  obtain ⟨z10, q10, h⟩ := h_bind h
  rcases z10 with ⟨r15, r16⟩ | ⟨e19, e20⟩
  · have u_1 := (pq_one_v1_ok p1 p2 p3 p4 p5 p6 o1 o2 o3 o4 _ q10)
    refine W_r tbok ⟨[], [(1, ⟨.i64 r15, [false], true, [true], [0, 1, 2, 3, 4], (ob21 p1 r16 p3 p4 p5 p6 o1 o2 o3 o4), none⟩)]⟩ [] [0, 1, 2, 3, 4] [(0, .adr 0 0 10 0), (2, .i64 r15)] (ob21 p1 r16 p3 p4 p5 p6 o1 o2 o3 o4) 5 5 [True, pO u_1, True] (by kernel_rfl) ⟨tt, u_1, tt, tt⟩ ?_
    refine to_then ?_
    refine W_seq ?_
    obtain ⟨z12, q12, h⟩ := h_bind h
    rcases z12 with r18 | ⟨e23, e24⟩
    · have u_1 := (pq_want_v1_ok (61 : Int) p1 r16 p3 p4 p5 p6 o1 o2 o3 o4 _ q12)
      refine W_r tbok ⟨[], [(1, ⟨.tup [], [false, false], true, [true, true], [0, 1, 2, 3, 4], (ob21 p1 r18 p3 p4 p5 p6 o1 o2 o3 o4), none⟩)]⟩ [] [0, 1, 2, 3, 4] [(0, .adr 0 0 10 0), (2, .i64 r15)] (ob21 p1 r18 p3 p4 p5 p6 o1 o2 o3 o4) 5 5 [True, pO u_1] (by kernel_rfl) ⟨tt, u_1, tt⟩ ?_
      refine to_then ?_
      refine W_seq ?_
      obtain ⟨z14, q14, h⟩ := h_bind h
      rcases z14 with ⟨r21, r22⟩ | ⟨e27, e28⟩
      · obtain ⟨c7, h⟩ := h_guard h
        obtain ⟨c8, h⟩ := h_guard h
        have u_1 := (pq_one_v1_ok p1 r18 p3 p4 p5 p6 o1 o2 o3 o4 _ q14)
        refine W_regT tbok mixed ⟨[], [(7, ⟨.i64 r21, [false], true, [true], [0, 1, 2, 3, 4], (ob21 p1 r22 p3 p4 p5 p6 o1 o2 o3 o4), none⟩)]⟩ (.one 0 (.one 1 (.one 2 (.one 3 (.one 5 (.one 6 (.two 4 (.one 7 (.one 8 (.one 9 (.leaf)))) 7 (.one 4 (.one 8 (.one 9 (.leaf))))))))))) [([], []), ([], []), ([], []), ([], []), ([0], []), ([], []), ([], []), ([0, 1, 2, 3, 4], [0, 1, 2, 3, 4, 61, 62, 63, 64, 65, 66, 67, 68]), ([2], []), ([2], [2])] 2 [] [] [0, 1, 2, 3, 4] [(0, .adr 0 0 10 0)] (ob21 p1 r22 p3 p4 p5 p6 o1 (o2.set r15.toNat r21) o3 o4) 5 5 (Ts 7 [pO u_1, pO u_1, 0 ≤ r15 ∧ r15 < (o2.length : Int), r15.toNat < o2.length, True, 0 ≤ r15 ∧ r15 < (o2.length : Int), r15.toNat < o2.length]) (by kernel_rfl) (by kernel_rfl) (tr 7 ⟨u_1, u_1, c7, c8, tt, c7, c8, tt⟩) (fun _ => ?_) (fun y hy => by cases hy)
        refine to_then ?_
        obtain ⟨z16, q16, h⟩ := h_bind h
        rcases z16 with r24 | ⟨e31, e32⟩
        · have u_1 := (pq_want_v1_ok (59 : Int) p1 r22 p3 p4 p5 p6 o1 (o2.set r15.toNat r21) o3 o4 _ q16)
          refine W_r tbok ⟨[], [(1, ⟨.tup [], [false, false], true, [true, true], [0, 1, 2, 3, 4], (ob21 p1 r24 p3 p4 p5 p6 o1 (o2.set r15.toNat r21) o3 o4), none⟩)]⟩ [] [0, 1, 2, 3, 4] [] (ob21 p1 r24 p3 p4 p5 p6 o1 (o2.set r15.toNat r21) o3 o4) 5 5 [True, pO u_1] (by kernel_rfl) ⟨tt, u_1, tt⟩ ?_
          obtain rfl := sI h
          exact (RetO_intro [] [] [0, 1, 2, 3, 4] [] (ob21 p1 r24 p3 p4 p5 p6 o1 (o2.set r15.toNat r21) o3 o4) 5 5 (by kernel_rfl) (by kernel_rfl) (by kernel_rfl)).normal
        refine W_die tbok ⟨[], [(1, ⟨.unk, [false, false], true, [true, true], [0, 1, 2, 3, 4], [], some (faultV 40 .i64 .i64 (e31, e32))⟩)]⟩ 1 (faultV 40 .i64 .i64 (e31, e32)) [] [0, 1, 2, 3, 4] [] [] 5 5 [True, Dies Try.prog 49 [.adr 0 0 10 0, .u8 (59 : Int)] (ob21 p1 r22 p3 p4 p5 p6 o1 (o2.set r15.toNat r21) o3 o4) (faultV 40 .i64 .i64 (e31, e32))] (by kernel_rfl) (by kernel_rfl) ⟨tt, (pq_want_v1_ok (59 : Int) p1 r22 p3 p4 p5 p6 o1 (o2.set r15.toNat r21) o3 o4 _ q16), tt⟩ (fun σ1 hle => ?_)
        obtain rfl := sI h
        exact rfl
      refine W_regT tbok mixed ⟨[], [(7, ⟨.unk, [false], true, [true], [0, 1, 2, 3, 4], [], some (faultV 40 .i64 .i64 (e27, e28))⟩)]⟩ (.one 0 (.one 1 (.one 2 (.one 3 (.one 5 (.one 6 (.twoD 4 (.dead 7) 7))))))) [([], []), ([], []), ([], []), ([], []), ([0], []), ([], []), ([], []), ([0, 1, 2, 3, 4], [0, 1, 2, 3, 4, 61, 62, 63, 64, 65, 66, 67, 68]), ([], []), ([], [])] 0 [(faultV 40 .i64 .i64 (e27, e28)), (faultV 40 .i64 .i64 (e27, e28))] [] [0, 1, 2, 3, 4] [] [] 5 5 (Ts 7 [Dies Try.prog 51 [.adr 0 0 10 0] (ob21 p1 r18 p3 p4 p5 p6 o1 o2 o3 o4) (faultV 40 .i64 .i64 (e27, e28)), Dies Try.prog 51 [.adr 0 0 10 0] (ob21 p1 r18 p3 p4 p5 p6 o1 o2 o3 o4) (faultV 40 .i64 .i64 (e27, e28))]) (by kernel_rfl) (by kernel_rfl) (tr 7 ⟨(pq_one_v1_ok p1 r18 p3 p4 p5 p6 o1 o2 o3 o4 _ q14), (pq_one_v1_ok p1 r18 p3 p4 p5 p6 o1 o2 o3 o4 _ q14), tt⟩) (fun h0 => absurd rfl h0) (fun y hy σ1 => ?_)
      obtain rfl : y = (faultV 40 .i64 .i64 (e27, e28)) := by simpa using hy
      refine thenQ_pan ?_
      obtain rfl := sI h
      exact rfl
    refine W_die tbok ⟨[], [(1, ⟨.unk, [false, false], true, [true, true], [0, 1, 2, 3, 4], [], some (faultV 40 .i64 .i64 (e23, e24))⟩)]⟩ 1 (faultV 40 .i64 .i64 (e23, e24)) [] [0, 1, 2, 3, 4] [] [] 5 5 [True, Dies Try.prog 49 [.adr 0 0 10 0, .u8 (61 : Int)] (ob21 p1 r16 p3 p4 p5 p6 o1 o2 o3 o4) (faultV 40 .i64 .i64 (e23, e24))] (by kernel_rfl) (by kernel_rfl) ⟨tt, (pq_want_v1_ok (61 : Int) p1 r16 p3 p4 p5 p6 o1 o2 o3 o4 _ q12), tt⟩ (fun σ1 hle => ?_)
    refine thenQ_pan ?_
    obtain rfl := sI h
    exact rfl
  refine W_die tbok ⟨[], [(1, ⟨.unk, [false], true, [true], [0, 1, 2, 3, 4], [], some (faultV 40 .i64 .i64 (e19, e20))⟩)]⟩ 1 (faultV 40 .i64 .i64 (e19, e20)) [] [0, 1, 2, 3, 4] [] [] 5 5 [True, Dies Try.prog 51 [.adr 0 0 10 0] (ob21 p1 p2 p3 p4 p5 p6 o1 o2 o3 o4) (faultV 40 .i64 .i64 (e19, e20))] (by kernel_rfl) (by kernel_rfl) ⟨tt, (pq_one_v1_ok p1 p2 p3 p4 p5 p6 o1 o2 o3 o4 _ q10), tt⟩ (fun σ1 hle => ?_)
  refine thenQ_pan ?_
  obtain rfl := sI h
  exact rfl
def pq_thing_v5 (rec_pq_either_v1 : (List UInt8) → Int → Int → Int → Int → Int → (List (List UInt8)) → (List Int) → (List (Int × Tree × Tree)) → (List ((List UInt8) × Int)) → Option ((Tree × Int × Int × Int) ⊕ (Int × Int))) (d1 : List UInt8) (d2 d3 d4 d5 d6 : Int) (o1 : List (List UInt8)) (o2 : List Int) (o3 : List (Int × Tree × Tree)) (o4 : List ((List UInt8) × Int)) : Option ((Tree × Int × Int × Int) ⊕ (Int × Int)) :=
  ((pq_sign_v2 (40 : Int) d1 d2 d3 d4 d5 d6 o1 o2 o3 o4).bind fun (z30 : (Bool × Int) ⊕ (Int × Int)) => match z30 with
  | .inr (e61, e62) => some (Sum.inr (e61, e62))
  | .inl (r55, r56) => (if r55 = true then (if (decide ((IntKind.i64.wrap (d6 + (1 : Int))) > (16 : Int))) = true then ((pq_fail_v2 (25 : Int) d2 d1 r56 d3 d4 d5 (IntKind.i64.wrap (d6 + (1 : Int))) o1 o2 o3 o4).bind fun (z32 : (Unit) ⊕ (Int × Int)) => match z32 with
  | .inr (e65, e66) => some (Sum.inr (e65, e66))
  | .inl _ => none)
  else ((rec_pq_either_v1 d1 r56 d3 d4 d5 (IntKind.i64.wrap (d6 + (1 : Int))) o1 o2 o3 o4).bind fun (z34 : (Tree × Int × Int × Int) ⊕ (Int × Int)) => match z34 with
  | .inr (e69, e70) => some (Sum.inr (e69, e70))
  | .inl (r61, r62, r63, r64) => ((pq_want_v1 (41 : Int) d1 r62 d3 d4 r63 r64 o1 o2 o3 o4).bind fun (z36 : (Int) ⊕ (Int × Int)) => match z36 with
  | .inr (e73, e74) => some (Sum.inr (e73, e74))
  | .inl r66 => some (Sum.inl ((Tree.node r61.op r61.set r61.kids), r66, r63, (IntKind.i64.wrap (r64 - (1 : Int))))))))
  else (if (decide ((IntKind.i64.wrap (d5 + (1 : Int))) > (200 : Int))) = true then ((pq_fail_v2 (26 : Int) d2 d1 r56 d3 d4 (IntKind.i64.wrap (d5 + (1 : Int))) d6 o1 o2 o3 o4).bind fun (z38 : (Unit) ⊕ (Int × Int)) => match z38 with
  | .inr (e77, e78) => some (Sum.inr (e77, e78))
  | .inl _ => none)
  else (if 0 ≤ (o1.length : Int) then ((pq_sign_v2 (46 : Int) d1 r56 d3 d4 (IntKind.i64.wrap (d5 + (1 : Int))) d6 o1 o2 o3 o4).bind fun (z40 : (Bool × Int) ⊕ (Int × Int)) => match z40 with
  | .inr (e81, e82) => some (Sum.inr (e81, e82))
  | .inl (r69, r70) => (((if r69 = true then some ((Sum.inl ((IntKind.u32.wrap ((IntKind.u32.wrap ((1 : Int) * 2 ^ (min (o1.length : Int).toNat IntKind.u32.bits))) - (1 : Int))), r70)))
  else ((pq_sign_v2 (91 : Int) d1 r70 d3 d4 (IntKind.i64.wrap (d5 + (1 : Int))) d6 o1 o2 o3 o4).bind fun (z50 : (Bool × Int) ⊕ (Int × Int)) => match z50 with
  | .inr (e103, e104) => some ((Sum.inr (e103, e104)))
  | .inl (r89, r90) => (if r89 = true then ((pq_sign_v2 (94 : Int) d1 r90 d3 d4 (IntKind.i64.wrap (d5 + (1 : Int))) d6 o1 o2 o3 o4).bind fun (z52 : (Bool × Int) ⊕ (Int × Int)) => match z52 with
  | .inr (e107, e108) => some ((Sum.inr (e107, e108)))
  | .inl (r93, r94) => ((pq_classes_v1 (93 : Int) d1 r94 d3 d4 (IntKind.i64.wrap (d5 + (1 : Int))) d6 o1 o2 o3 o4).bind fun (z54 : (Int × Int) ⊕ (Int × Int)) => match z54 with
  | .inr (e111, e112) => some ((Sum.inr (e111, e112)))
  | .inl (r97, r98) => (if r93 = true then some ((Sum.inl ((bitsOf .andNot .u32 (IntKind.u32.wrap ((IntKind.u32.wrap ((1 : Int) * 2 ^ (min (o1.length : Int).toNat IntKind.u32.bits))) - (1 : Int))) r97), r98)))
  else some ((Sum.inl (r97, r98))))))
  else ((pq_named_v1 d1 r90 d3 d4 (IntKind.i64.wrap (d5 + (1 : Int))) d6 o1 o2 o3 o4).bind fun (z56 : (Int × Int) ⊕ (Int × Int)) => match z56 with
  | .inr (e115, e116) => some ((Sum.inr (e115, e116)))
  | .inl (r101, r102) => some ((Sum.inl (r101, r102)))))))).bind fun (r103 : ((Int × Int) ⊕ (Int × Int))) => match r103 with
  | .inl (v6, v7) => some (Sum.inl ((Tree.node (1 : Int) v6 ([] : List Tree)), v7, (IntKind.i64.wrap (d5 + (1 : Int))), d6))
  | .inr ((e99, e100)) => some (Sum.inr (e99, e100)))) else none))))
theorem pq_thing_v5_ok (rec_pq_either_v1 : (List UInt8) → Int → Int → Int → Int → Int → (List (List UInt8)) → (List Int) → (List (Int × Tree × Tree)) → (List ((List UInt8) × Int)) → Option ((Tree × Int × Int × Int) ⊕ (Int × Int))) (hrec_pq_either_v1 : ∀ (p1 : List UInt8) (p2 p3 p4 p5 p6 : Int) (o1 : List (List UInt8)) (o2 : List Int) (o3 : List (Int × Tree × Tree)) (o4 : List ((List UInt8) × Int)) (res : (Tree × Int × Int × Int) ⊕ (Int × Int)), rec_pq_either_v1 p1 p2 p3 p4 p5 p6 o1 o2 o3 o4 = some res → Does Try.prog 55 [.adr 0 0 10 0] (ob21 p1 p2 p3 p4 p5 p6 o1 o2 o3 o4) (outT (fun (q : Tree × Int × Int × Int) => (.agg [.u8 q.1.op, .u32 q.1.set, .p false (.slice (.tree .u8 .u32)) q.1.kids], (ob21 p1 q.2.1 p3 p4 q.2.2.1 q.2.2.2 o1 o2 o3 o4))) (faultV 40 .i64 .i64) res)) (d1 : List UInt8) (d2 d3 d4 d5 d6 : Int) (o1 : List (List UInt8)) (o2 : List Int) (o3 : List (Int × Tree × Tree)) (o4 : List ((List UInt8) × Int)) (res : (Tree × Int × Int × Int) ⊕ (Int × Int)) (h : pq_thing_v5 rec_pq_either_v1 d1 d2 d3 d4 d5 d6 o1 o2 o3 o4 = some res) :
    Does Try.prog 67 [.adr 0 0 10 0] (ob21 d1 d2 d3 d4 d5 d6 o1 o2 o3 o4) (outT (fun (q : Tree × Int × Int × Int) => (.agg [.u8 q.1.op, .u32 q.1.set, .p false (.slice (.tree .u8 .u32)) q.1.kids], (ob21 d1 q.2.1 d3 d4 q.2.2.1 q.2.2.2 o1 o2 o3 o4))) (faultV 40 .i64 .i64) res) := by
  refine Does.of_body tbok Try.func67 (by kernel_rfl) rfl (nl rfl) (fun Bw w0 => ?_)
  unfold pq_thing_v5 at h
  refine W_rs tbok ⟨[], []⟩ [] [0, 1, 2, 3, 4, 5] [(0, .adr 0 0 10 0), (2, .adr 5 0 3 0)] (ob26 d1 d2 d3 d4 d5 d6 o1 o2 o3 o4 (0 : Int) (0 : Int)) 6 5 [True] (by kernel_rfl) ⟨tt, tt⟩ ?_
  refine W_rs tbok ⟨[], []⟩ [] [0, 1, 2, 3, 4, 5] [(0, .adr 0 0 10 0), (2, .adr 5 0 3 0), (3, .i64 d2)] (ob26 d1 d2 d3 d4 d5 d6 o1 o2 o3 o4 (0 : Int) (0 : Int)) 6 5 (Ts 5 []) (by kernel_rfl) (tr 5 tt) ?_
  refine W_seq ?_
  refine W_seq ?_
  obtain ⟨z30, q30, h⟩ := h_bind h
  rcases z30 with ⟨r55, r56⟩ | ⟨e61, e62⟩
  · have u_1 := (pq_sign_v2_ok (40 : Int) d1 d2 d3 d4 d5 d6 o1 o2 o3 o4 _ q30)
    refine W_r tbok ⟨[], [(1, ⟨.bo r55, [false, false], true, [true, true], [0, 1, 2, 3, 4], (ob21 d1 r56 d3 d4 d5 d6 o1 o2 o3 o4), none⟩)]⟩ [] [0, 1, 2, 3, 4, 5] [(0, .adr 0 0 10 0), (2, .adr 5 0 3 0), (3, .i64 d2), (13, .bo r55)] (ob26 d1 r56 d3 d4 d5 d6 o1 o2 o3 o4 (0 : Int) (0 : Int)) 6 5 [True, pO u_1] (by kernel_rfl) ⟨tt, u_1, tt⟩ ?_
    refine to_then ?_
    refine W_cond (b := r55) (β := false) (by kernel_rfl) (fun hb10 => ?_) (fun hb10 => ?_)
    · replace h := h_if hb10 h
      refine W_seq ?_
      refine W_rs tbok ⟨[], []⟩ [] [0, 1, 2, 3, 4, 5] [(0, .adr 0 0 10 0), (2, .adr 5 0 3 0), (3, .i64 d2)] (ob26 d1 r56 d3 d4 d5 (IntKind.i64.wrap (d6 + (1 : Int))) o1 o2 o3 o4 (0 : Int) (0 : Int)) 6 5 (Ts 8 []) (by kernel_rfl) (tr 8 tt) ?_
      refine W_rs tbok ⟨[], []⟩ [] [0, 1, 2, 3, 4, 5] [(0, .adr 0 0 10 0), (2, .adr 5 0 3 0), (3, .i64 d2), (25, .bo (decide ((IntKind.i64.wrap (d6 + (1 : Int))) > (16 : Int))))] (ob26 d1 r56 d3 d4 d5 (IntKind.i64.wrap (d6 + (1 : Int))) o1 o2 o3 o4 (0 : Int) (0 : Int)) 6 5 (Ts 5 []) (by kernel_rfl) (tr 5 tt) ?_
      refine W_cond (b := (decide ((IntKind.i64.wrap (d6 + (1 : Int))) > (16 : Int)))) (β := false) (by kernel_rfl) (fun hb11 => ?_) (fun hb11 => ?_)
      · replace h := h_if hb11 h
        obtain ⟨z32, q32, h⟩ := h_bind h
        rcases z32 with _ | ⟨e65, e66⟩
        · cases h
        refine W_die tbok ⟨[], [(2, ⟨.unk, [false, false, false], true, [true, true, true], [0, 1, 2, 3, 4], [], some (faultV 40 .i64 .i64 (e65, e66))⟩)]⟩ 2 (faultV 40 .i64 .i64 (e65, e66)) [] [0, 1, 2, 3, 4] [] [] 5 5 [True, True, Dies Try.prog 22 [.adr 0 0 10 0, .i64 (25 : Int), .i64 d2] (ob21 d1 r56 d3 d4 d5 (IntKind.i64.wrap (d6 + (1 : Int))) o1 o2 o3 o4) (faultV 40 .i64 .i64 (e65, e66))] (by kernel_rfl) (by kernel_rfl) ⟨tt, tt, (pq_fail_v2_ok (25 : Int) d2 d1 r56 d3 d4 d5 (IntKind.i64.wrap (d6 + (1 : Int))) o1 o2 o3 o4 _ q32), tt⟩ (fun σ1 hle => ?_)
        refine thenQ_pan ?_
        refine thenQ_pan ?_
        obtain rfl := sI h
        exact rfl
      replace h := h_else hb11 h
      refine W_skip_to ?_
      refine to_then ?_
      refine W_seq ?_
      obtain ⟨z34, q34, h⟩ := h_bind h
      rcases z34 with ⟨r61, r62, r63, r64⟩ | ⟨e69, e70⟩
      · have u_1 := (hrec_pq_either_v1 d1 r56 d3 d4 d5 (IntKind.i64.wrap (d6 + (1 : Int))) o1 o2 o3 o4 _ q34)
        refine W_r tbok ⟨[], [(1, ⟨.agg [.u8 r61.op, .u32 r61.set, .p false (.slice (.tree .u8 .u32)) r61.kids], [false], true, [true], [0, 1, 2, 3, 4], (ob21 d1 r62 d3 d4 r63 r64 o1 o2 o3 o4), none⟩)]⟩ [] [0, 1, 2, 3, 4, 5, 22] [(0, .adr 0 0 10 0), (2, .adr 5 0 3 0), (4, .adr 6 0 3 0)] (ob28 d1 r62 d3 d4 r63 r64 o1 o2 o3 o4 (0 : Int) (0 : Int) r61.op r61.set r61.kids) 7 5 [True, pO u_1, True, True] (by kernel_rfl) ⟨tt, u_1, tt, tt, tt⟩ ?_
        refine to_then ?_
        refine W_seq ?_
        obtain ⟨z36, q36, h⟩ := h_bind h
        rcases z36 with r66 | ⟨e73, e74⟩
        · have u_1 := (pq_want_v1_ok (41 : Int) d1 r62 d3 d4 r63 r64 o1 o2 o3 o4 _ q36)
          refine W_r tbok ⟨[], [(1, ⟨.tup [], [false, false], true, [true, true], [0, 1, 2, 3, 4], (ob21 d1 r66 d3 d4 r63 r64 o1 o2 o3 o4), none⟩)]⟩ [] [0, 1, 2, 3, 4, 5, 6] [(0, .adr 0 0 10 0), (2, .adr 5 0 3 0), (4, .adr 6 0 3 0)] (ob28 d1 r66 d3 d4 r63 r64 o1 o2 o3 o4 (0 : Int) (0 : Int) r61.op r61.set r61.kids) 7 5 [True, pO u_1] (by kernel_rfl) ⟨tt, u_1, tt⟩ ?_
          refine to_then ?_
          refine W_rs tbok ⟨[], []⟩ [] [0, 1, 2, 3, 4, 5, 6] [(2, .adr 5 0 3 0), (4, .adr 6 0 3 0)] (ob28 d1 r66 d3 d4 r63 (IntKind.i64.wrap (r64 - (1 : Int))) o1 o2 o3 o4 (0 : Int) (0 : Int) r61.op r61.set r61.kids) 7 5 (Ts 8 []) (by kernel_rfl) (tr 8 tt) ?_
          refine W_rs tbok ⟨[], []⟩ [] [0, 1, 2, 3, 4, 5] [(2, .adr 5 0 3 0)] (ob30 d1 r66 d3 d4 r63 (IntKind.i64.wrap (r64 - (1 : Int))) o1 o2 o3 o4 r61.op r61.set r61.kids) 6 5 [True, True] (by kernel_rfl) ⟨tt, tt, tt⟩ ?_
          refine W_ret ?_
          refine thenQ_ret ?_
          obtain rfl := sI h
          exact RetO_intro [some (.tree .u8 .u32)] [] [0, 1, 2, 3, 4, 5] [(2, .adr 5 0 3 0)] (ob30 d1 r66 d3 d4 r63 (IntKind.i64.wrap (r64 - (1 : Int))) o1 o2 o3 o4 r61.op r61.set r61.kids) 6 5 (by kernel_rfl) (by kernel_rfl) (by kernel_rfl)
        refine W_die tbok ⟨[], [(1, ⟨.unk, [false, false], true, [true, true], [0, 1, 2, 3, 4], [], some (faultV 40 .i64 .i64 (e73, e74))⟩)]⟩ 1 (faultV 40 .i64 .i64 (e73, e74)) [] [0, 1, 2, 3, 4] [] [] 5 5 [True, Dies Try.prog 49 [.adr 0 0 10 0, .u8 (41 : Int)] (ob21 d1 r62 d3 d4 r63 r64 o1 o2 o3 o4) (faultV 40 .i64 .i64 (e73, e74))] (by kernel_rfl) (by kernel_rfl) ⟨tt, (pq_want_v1_ok (41 : Int) d1 r62 d3 d4 r63 r64 o1 o2 o3 o4 _ q36), tt⟩ (fun σ1 hle => ?_)
        refine thenQ_pan ?_
        refine thenQ_pan ?_
        obtain rfl := sI h
        exact rfl
      refine W_die tbok ⟨[], [(1, ⟨.unk, [false], true, [true], [0, 1, 2, 3, 4], [], some (faultV 40 .i64 .i64 (e69, e70))⟩)]⟩ 1 (faultV 40 .i64 .i64 (e69, e70)) [] [0, 1, 2, 3, 4] [] [] 5 5 [True, Dies Try.prog 55 [.adr 0 0 10 0] (ob21 d1 r56 d3 d4 d5 (IntKind.i64.wrap (d6 + (1 : Int))) o1 o2 o3 o4) (faultV 40 .i64 .i64 (e69, e70))] (by kernel_rfl) (by kernel_rfl) ⟨tt, (hrec_pq_either_v1 d1 r56 d3 d4 d5 (IntKind.i64.wrap (d6 + (1 : Int))) o1 o2 o3 o4 _ q34), tt⟩ (fun σ1 hle => ?_)
      refine thenQ_pan ?_
      refine thenQ_pan ?_
      obtain rfl := sI h
      exact rfl
    replace h := h_else hb10 h
    refine W_skip_to ?_
    refine to_then ?_
    refine W_seq ?_
    refine W_rs tbok ⟨[], []⟩ [] [0, 1, 2, 3, 4, 5] [(0, .adr 0 0 10 0), (2, .adr 5 0 3 0), (3, .i64 d2)] (ob26 d1 r56 d3 d4 (IntKind.i64.wrap (d5 + (1 : Int))) d6 o1 o2 o3 o4 (0 : Int) (0 : Int)) 6 5 (Ts 8 []) (by kernel_rfl) (tr 8 tt) ?_
    refine W_rs tbok ⟨[], []⟩ [] [0, 1, 2, 3, 4, 5] [(0, .adr 0 0 10 0), (2, .adr 5 0 3 0), (3, .i64 d2), (52, .bo (decide ((IntKind.i64.wrap (d5 + (1 : Int))) > (200 : Int))))] (ob26 d1 r56 d3 d4 (IntKind.i64.wrap (d5 + (1 : Int))) d6 o1 o2 o3 o4 (0 : Int) (0 : Int)) 6 5 (Ts 5 []) (by kernel_rfl) (tr 5 tt) ?_
    refine W_cond (b := (decide ((IntKind.i64.wrap (d5 + (1 : Int))) > (200 : Int)))) (β := false) (by kernel_rfl) (fun hb12 => ?_) (fun hb12 => ?_)
    · replace h := h_if hb12 h
      obtain ⟨z38, q38, h⟩ := h_bind h
      rcases z38 with _ | ⟨e77, e78⟩
      · cases h
      refine W_die tbok ⟨[], [(2, ⟨.unk, [false, false, false], true, [true, true, true], [0, 1, 2, 3, 4], [], some (faultV 40 .i64 .i64 (e77, e78))⟩)]⟩ 2 (faultV 40 .i64 .i64 (e77, e78)) [] [0, 1, 2, 3, 4] [] [] 5 5 [True, True, Dies Try.prog 22 [.adr 0 0 10 0, .i64 (26 : Int), .i64 d2] (ob21 d1 r56 d3 d4 (IntKind.i64.wrap (d5 + (1 : Int))) d6 o1 o2 o3 o4) (faultV 40 .i64 .i64 (e77, e78))] (by kernel_rfl) (by kernel_rfl) ⟨tt, tt, (pq_fail_v2_ok (26 : Int) d2 d1 r56 d3 d4 (IntKind.i64.wrap (d5 + (1 : Int))) d6 o1 o2 o3 o4 _ q38), tt⟩ (fun σ1 hle => ?_)
      refine thenQ_pan ?_
      obtain rfl := sI h
      exact rfl
    replace h := h_else hb12 h
    refine W_skip_to ?_
    refine to_then ?_
    refine W_rs tbok ⟨[], []⟩ [] [0, 1, 2, 3, 4, 5, 14] [(0, .adr 0 0 10 0), (2, .adr 5 0 3 0), (5, .adr 6 0 3 0)] (ob27 d1 r56 d3 d4 (IntKind.i64.wrap (d5 + (1 : Int))) d6 o1 o2 o3 o4 (0 : Int) (0 : Int) (1 : Int) (0 : Int)) 7 5 (Ts 3 []) (by kernel_rfl) (tr 3 tt) ?_
    refine W_seq ?_
    obtain ⟨c4, h⟩ := h_guard h
    refine W_r tbok ⟨[], []⟩ [] [0, 1, 2, 3, 4, 5, 6] [(0, .adr 0 0 10 0), (2, .adr 5 0 3 0), (5, .adr 6 0 3 0), (6, .u32 (IntKind.u32.wrap ((IntKind.u32.wrap ((1 : Int) * 2 ^ (min (o1.length : Int).toNat IntKind.u32.bits))) - (1 : Int))))] (ob27 d1 r56 d3 d4 (IntKind.i64.wrap (d5 + (1 : Int))) d6 o1 o2 o3 o4 (0 : Int) (0 : Int) (1 : Int) (0 : Int)) 7 5 (Ts 6 [0 ≤ (o1.length : Int), True, True]) (by kernel_rfl) (tr 6 ⟨c4, tt, tt, tt⟩) ?_
    refine to_then ?_
    refine W_seq ?_
    refine W_block ?_
    refine W_seq ?_
    obtain ⟨z40, q40, h⟩ := h_bind h
    rcases z40 with ⟨r69, r70⟩ | ⟨e81, e82⟩
    · have u_1 := (pq_sign_v2_ok (46 : Int) d1 r56 d3 d4 (IntKind.i64.wrap (d5 + (1 : Int))) d6 o1 o2 o3 o4 _ q40)
      refine W_r tbok ⟨[], [(1, ⟨.bo r69, [false, false], true, [true, true], [0, 1, 2, 3, 4], (ob21 d1 r70 d3 d4 (IntKind.i64.wrap (d5 + (1 : Int))) d6 o1 o2 o3 o4), none⟩)]⟩ [] [0, 1, 2, 3, 4, 5, 6] [(0, .adr 0 0 10 0), (2, .adr 5 0 3 0), (5, .adr 6 0 3 0), (6, .u32 (IntKind.u32.wrap ((IntKind.u32.wrap ((1 : Int) * 2 ^ (min (o1.length : Int).toNat IntKind.u32.bits))) - (1 : Int)))), (68, .bo r69)] (ob27 d1 r70 d3 d4 (IntKind.i64.wrap (d5 + (1 : Int))) d6 o1 o2 o3 o4 (0 : Int) (0 : Int) (1 : Int) (0 : Int)) 7 5 [True, pO u_1, True] (by kernel_rfl) ⟨tt, u_1, tt, tt⟩ ?_
      refine to_then ?_
      obtain ⟨r103, hp2, h⟩ := h_bind h
      refine W.mono (Q := (postS (postN Try.f67.ntmps (fun ((v6, v7) : Int × Int) => mkSt [(2, .adr 5 0 3 0), (5, .adr 6 0 3 0)] (ob27 d1 v7 d3 d4 (IntKind.i64.wrap (d5 + (1 : Int))) d6 o1 o2 o3 o4 (0 : Int) (0 : Int) (1 : Int) v6) 7 5)) (postP (faultV 40 .i64 .i64))) r103) ?_ (fun e σ' hq => ?_)
      · replace h := hp2
        clear hp2
        refine W_cond (b := r69) (β := false) (by kernel_rfl) (fun hb16 => ?_) (fun hb16 => ?_)
        · replace h := h_if hb16 h
          refine W_r tbok ⟨[], []⟩ [] [0, 1, 2, 3, 4, 5, 6] [(2, .adr 5 0 3 0), (5, .adr 6 0 3 0)] (ob27 d1 r70 d3 d4 (IntKind.i64.wrap (d5 + (1 : Int))) d6 o1 o2 o3 o4 (0 : Int) (0 : Int) (1 : Int) (IntKind.u32.wrap ((IntKind.u32.wrap ((1 : Int) * 2 ^ (min (o1.length : Int).toNat IntKind.u32.bits))) - (1 : Int)))) 7 5 (Ts 3 []) (by kernel_rfl) (tr 3 tt) ?_
          obtain rfl := sI h
          refine postS_l ?_
          exact postN_to (gl [] [0, 1, 2, 3, 4, 5, 6] (by kernel_rfl))
        replace h := h_else hb16 h
        refine W_seq ?_
        obtain ⟨z50, q50, h⟩ := h_bind h
        rcases z50 with ⟨r89, r90⟩ | ⟨e103, e104⟩
        · have u_1 := (pq_sign_v2_ok (91 : Int) d1 r70 d3 d4 (IntKind.i64.wrap (d5 + (1 : Int))) d6 o1 o2 o3 o4 _ q50)
          refine W_r tbok ⟨[], [(1, ⟨.bo r89, [false, false], true, [true, true], [0, 1, 2, 3, 4], (ob21 d1 r90 d3 d4 (IntKind.i64.wrap (d5 + (1 : Int))) d6 o1 o2 o3 o4), none⟩)]⟩ [] [0, 1, 2, 3, 4, 5, 6] [(0, .adr 0 0 10 0), (2, .adr 5 0 3 0), (5, .adr 6 0 3 0), (6, .u32 (IntKind.u32.wrap ((IntKind.u32.wrap ((1 : Int) * 2 ^ (min (o1.length : Int).toNat IntKind.u32.bits))) - (1 : Int)))), (73, .bo r89)] (ob27 d1 r90 d3 d4 (IntKind.i64.wrap (d5 + (1 : Int))) d6 o1 o2 o3 o4 (0 : Int) (0 : Int) (1 : Int) (0 : Int)) 7 5 [True, pO u_1, True] (by kernel_rfl) ⟨tt, u_1, tt, tt⟩ ?_
          refine to_then ?_
          refine W_cond (b := r89) (β := false) (by kernel_rfl) (fun hb17 => ?_) (fun hb17 => ?_)
          · replace h := h_if hb17 h
            refine W_seq ?_
            obtain ⟨z52, q52, h⟩ := h_bind h
            rcases z52 with ⟨r93, r94⟩ | ⟨e107, e108⟩
            · have u_1 := (pq_sign_v2_ok (94 : Int) d1 r90 d3 d4 (IntKind.i64.wrap (d5 + (1 : Int))) d6 o1 o2 o3 o4 _ q52)
              refine W_r tbok ⟨[], [(1, ⟨.bo r93, [false, false], true, [true, true], [0, 1, 2, 3, 4], (ob21 d1 r94 d3 d4 (IntKind.i64.wrap (d5 + (1 : Int))) d6 o1 o2 o3 o4), none⟩)]⟩ [] [0, 1, 2, 3, 4, 5, 6] [(0, .adr 0 0 10 0), (2, .adr 5 0 3 0), (5, .adr 6 0 3 0), (6, .u32 (IntKind.u32.wrap ((IntKind.u32.wrap ((1 : Int) * 2 ^ (min (o1.length : Int).toNat IntKind.u32.bits))) - (1 : Int)))), (7, .bo r93)] (ob27 d1 r94 d3 d4 (IntKind.i64.wrap (d5 + (1 : Int))) d6 o1 o2 o3 o4 (0 : Int) (0 : Int) (1 : Int) (0 : Int)) 7 5 [True, pO u_1, True] (by kernel_rfl) ⟨tt, u_1, tt, tt⟩ ?_
              refine to_then ?_
              refine W_seq ?_
              obtain ⟨z54, q54, h⟩ := h_bind h
              rcases z54 with ⟨r97, r98⟩ | ⟨e111, e112⟩
              · have u_1 := (pq_classes_v1_ok (93 : Int) d1 r94 d3 d4 (IntKind.i64.wrap (d5 + (1 : Int))) d6 o1 o2 o3 o4 _ q54)
                refine W_r tbok ⟨[], [(1, ⟨.u32 r97, [false, false], true, [true, true], [0, 1, 2, 3, 4], (ob21 d1 r98 d3 d4 (IntKind.i64.wrap (d5 + (1 : Int))) d6 o1 o2 o3 o4), none⟩)]⟩ [] [0, 1, 2, 3, 4, 5, 6] [(2, .adr 5 0 3 0), (5, .adr 6 0 3 0), (6, .u32 (IntKind.u32.wrap ((IntKind.u32.wrap ((1 : Int) * 2 ^ (min (o1.length : Int).toNat IntKind.u32.bits))) - (1 : Int)))), (7, .bo r93)] (ob27 d1 r98 d3 d4 (IntKind.i64.wrap (d5 + (1 : Int))) d6 o1 o2 o3 o4 (0 : Int) (0 : Int) (1 : Int) r97) 7 5 [True, pO u_1, True, True] (by kernel_rfl) ⟨tt, u_1, tt, tt, tt⟩ ?_
                refine to_then ?_
                refine W_rs tbok ⟨[], []⟩ [] [0, 1, 2, 3, 4, 5, 6] [(2, .adr 5 0 3 0), (5, .adr 6 0 3 0), (6, .u32 (IntKind.u32.wrap ((IntKind.u32.wrap ((1 : Int) * 2 ^ (min (o1.length : Int).toNat IntKind.u32.bits))) - (1 : Int)))), (81, .bo r93)] (ob27 d1 r98 d3 d4 (IntKind.i64.wrap (d5 + (1 : Int))) d6 o1 o2 o3 o4 (0 : Int) (0 : Int) (1 : Int) r97) 7 5 [True] (by kernel_rfl) ⟨tt, tt⟩ ?_
                refine W_cond (b := r93) (β := false) (by kernel_rfl) (fun hb18 => ?_) (fun hb18 => ?_)
                · replace h := h_if hb18 h
                  refine W_r tbok ⟨[], []⟩ [] [0, 1, 2, 3, 4, 5, 6] [(2, .adr 5 0 3 0), (5, .adr 6 0 3 0)] (ob27 d1 r98 d3 d4 (IntKind.i64.wrap (d5 + (1 : Int))) d6 o1 o2 o3 o4 (0 : Int) (0 : Int) (1 : Int) (bitsOf .andNot .u32 (IntKind.u32.wrap ((IntKind.u32.wrap ((1 : Int) * 2 ^ (min (o1.length : Int).toNat IntKind.u32.bits))) - (1 : Int))) r97)) 7 5 (Ts 6 []) (by kernel_rfl) (tr 6 tt) ?_
                  obtain rfl := sI h
                  refine postS_l ?_
                  exact postN_to (gl [] [0, 1, 2, 3, 4, 5, 6] (by kernel_rfl))
                replace h := h_else hb18 h
                refine W_skip_to ?_
                obtain rfl := sI h
                refine postS_l ?_
                exact postN_to (gl [] [0, 1, 2, 3, 4, 5, 6] (by kernel_rfl))
              refine W_die tbok ⟨[], [(1, ⟨.unk, [false, false], true, [true, true], [0, 1, 2, 3, 4], [], some (faultV 40 .i64 .i64 (e111, e112))⟩)]⟩ 1 (faultV 40 .i64 .i64 (e111, e112)) [] [0, 1, 2, 3, 4] [] [] 5 5 [True, Dies Try.prog 50 [.adr 0 0 10 0, .u8 (93 : Int)] (ob21 d1 r94 d3 d4 (IntKind.i64.wrap (d5 + (1 : Int))) d6 o1 o2 o3 o4) (faultV 40 .i64 .i64 (e111, e112))] (by kernel_rfl) (by kernel_rfl) ⟨tt, (pq_classes_v1_ok (93 : Int) d1 r94 d3 d4 (IntKind.i64.wrap (d5 + (1 : Int))) d6 o1 o2 o3 o4 _ q54), tt⟩ (fun σ1 hle => ?_)
              obtain rfl := sI h
              refine thenQ_pan ?_
              refine postS_rr ?_
              exact rfl
            refine W_die tbok ⟨[], [(1, ⟨.unk, [false, false], true, [true, true], [0, 1, 2, 3, 4], [], some (faultV 40 .i64 .i64 (e107, e108))⟩)]⟩ 1 (faultV 40 .i64 .i64 (e107, e108)) [] [0, 1, 2, 3, 4] [] [] 5 5 [True, Dies Try.prog 47 [.adr 0 0 10 0, .u8 (94 : Int)] (ob21 d1 r90 d3 d4 (IntKind.i64.wrap (d5 + (1 : Int))) d6 o1 o2 o3 o4) (faultV 40 .i64 .i64 (e107, e108))] (by kernel_rfl) (by kernel_rfl) ⟨tt, (pq_sign_v2_ok (94 : Int) d1 r90 d3 d4 (IntKind.i64.wrap (d5 + (1 : Int))) d6 o1 o2 o3 o4 _ q52), tt⟩ (fun σ1 hle => ?_)
            obtain rfl := sI h
            refine thenQ_pan ?_
            refine postS_rr ?_
            exact rfl
          replace h := h_else hb17 h
          obtain ⟨z56, q56, h⟩ := h_bind h
          rcases z56 with ⟨r101, r102⟩ | ⟨e115, e116⟩
          · have u_1 := (pq_named_v1_ok d1 r90 d3 d4 (IntKind.i64.wrap (d5 + (1 : Int))) d6 o1 o2 o3 o4 _ q56)
            refine W_r tbok ⟨[], [(1, ⟨.u32 r101, [false], true, [true], [0, 1, 2, 3, 4], (ob21 d1 r102 d3 d4 (IntKind.i64.wrap (d5 + (1 : Int))) d6 o1 o2 o3 o4), none⟩)]⟩ [] [0, 1, 2, 3, 4, 5, 6] [(2, .adr 5 0 3 0), (5, .adr 6 0 3 0)] (ob27 d1 r102 d3 d4 (IntKind.i64.wrap (d5 + (1 : Int))) d6 o1 o2 o3 o4 (0 : Int) (0 : Int) (1 : Int) r101) 7 5 [True, pO u_1, True, True] (by kernel_rfl) ⟨tt, u_1, tt, tt, tt⟩ ?_
            obtain rfl := sI h
            refine postS_l ?_
            exact postN_to (gl [] [0, 1, 2, 3, 4, 5, 6] (by kernel_rfl))
          refine W_die tbok ⟨[], [(1, ⟨.unk, [false], true, [true], [0, 1, 2, 3, 4], [], some (faultV 40 .i64 .i64 (e115, e116))⟩)]⟩ 1 (faultV 40 .i64 .i64 (e115, e116)) [] [0, 1, 2, 3, 4] [] [] 5 5 [True, Dies Try.prog 59 [.adr 0 0 10 0] (ob21 d1 r90 d3 d4 (IntKind.i64.wrap (d5 + (1 : Int))) d6 o1 o2 o3 o4) (faultV 40 .i64 .i64 (e115, e116))] (by kernel_rfl) (by kernel_rfl) ⟨tt, (pq_named_v1_ok d1 r90 d3 d4 (IntKind.i64.wrap (d5 + (1 : Int))) d6 o1 o2 o3 o4 _ q56), tt⟩ (fun σ1 hle => ?_)
          obtain rfl := sI h
          refine postS_rr ?_
          exact rfl
        refine W_die tbok ⟨[], [(1, ⟨.unk, [false, false], true, [true, true], [0, 1, 2, 3, 4], [], some (faultV 40 .i64 .i64 (e103, e104))⟩)]⟩ 1 (faultV 40 .i64 .i64 (e103, e104)) [] [0, 1, 2, 3, 4] [] [] 5 5 [True, Dies Try.prog 47 [.adr 0 0 10 0, .u8 (91 : Int)] (ob21 d1 r70 d3 d4 (IntKind.i64.wrap (d5 + (1 : Int))) d6 o1 o2 o3 o4) (faultV 40 .i64 .i64 (e103, e104))] (by kernel_rfl) (by kernel_rfl) ⟨tt, (pq_sign_v2_ok (91 : Int) d1 r70 d3 d4 (IntKind.i64.wrap (d5 + (1 : Int))) d6 o1 o2 o3 o4 _ q50), tt⟩ (fun σ1 hle => ?_)
        obtain rfl := sI h
        refine thenQ_pan ?_
        refine postS_rr ?_
        exact rfl
      clear hp2
      rcases r103 with ⟨v6, v7⟩ | ⟨e99, e100⟩
      · obtain ⟨rfl, hle⟩ := hq
        refine use_to ?_ hle
        refine to_block ?_
        refine to_then ?_
        refine W_rs tbok ⟨[], []⟩ [] [0, 1, 2, 3, 4, 5] [(2, .adr 5 0 3 0)] (ob26 d1 v7 d3 d4 (IntKind.i64.wrap (d5 + (1 : Int))) d6 o1 o2 o3 o4 (1 : Int) v6) 6 5 [True, True] (by kernel_rfl) ⟨tt, tt, tt⟩ ?_
        refine W_ret ?_
        obtain rfl := sI h
        exact RetO_intro [some (.tree .u8 .u32)] [] [0, 1, 2, 3, 4, 5] [(2, .adr 5 0 3 0)] (ob26 d1 v7 d3 d4 (IntKind.i64.wrap (d5 + (1 : Int))) d6 o1 o2 o3 o4 (1 : Int) v6) 6 5 (by kernel_rfl) (by kernel_rfl) (by kernel_rfl)
      obtain rfl := hq
      refine blockQ_pan ?_
      refine thenQ_pan ?_
      obtain rfl := sI h
      exact rfl
    refine W_die tbok ⟨[], [(1, ⟨.unk, [false, false], true, [true, true], [0, 1, 2, 3, 4], [], some (faultV 40 .i64 .i64 (e81, e82))⟩)]⟩ 1 (faultV 40 .i64 .i64 (e81, e82)) [] [0, 1, 2, 3, 4] [] [] 5 5 [True, Dies Try.prog 47 [.adr 0 0 10 0, .u8 (46 : Int)] (ob21 d1 r56 d3 d4 (IntKind.i64.wrap (d5 + (1 : Int))) d6 o1 o2 o3 o4) (faultV 40 .i64 .i64 (e81, e82))] (by kernel_rfl) (by kernel_rfl) ⟨tt, (pq_sign_v2_ok (46 : Int) d1 r56 d3 d4 (IntKind.i64.wrap (d5 + (1 : Int))) d6 o1 o2 o3 o4 _ q40), tt⟩ (fun σ1 hle => ?_)
    refine thenQ_pan ?_
    refine blockQ_pan ?_
    refine thenQ_pan ?_
    obtain rfl := sI h
    exact rfl
  refine W_die tbok ⟨[], [(1, ⟨.unk, [false, false], true, [true, true], [0, 1, 2, 3, 4], [], some (faultV 40 .i64 .i64 (e61, e62))⟩)]⟩ 1 (faultV 40 .i64 .i64 (e61, e62)) [] [0, 1, 2, 3, 4] [] [] 5 5 [True, Dies Try.prog 47 [.adr 0 0 10 0, .u8 (40 : Int)] (ob21 d1 d2 d3 d4 d5 d6 o1 o2 o3 o4) (faultV 40 .i64 .i64 (e61, e62))] (by kernel_rfl) (by kernel_rfl) ⟨tt, (pq_sign_v2_ok (40 : Int) d1 d2 d3 d4 d5 d6 o1 o2 o3 o4 _ q30), tt⟩ (fun σ1 hle => ?_)
  refine thenQ_pan ?_
  refine thenQ_pan ?_
  obtain rfl := sI h
  exact rfl
def pq_often_v5_L1 (p1 : List UInt8) (p3 p4 : Int) (o1 : List (List UInt8)) (o2 : List Int) (o3 : List (Int × Tree × Tree)) (o4 : List ((List UInt8) × Int)) (r36 : Tree) (r38 r39 : Int) : (Int × Int) → Option ((Int × Int) ⊕ ((Int) ⊕ ((Int × Int) ⊕ (Tree × Int × Int × Int)))) := fun ((p15, v13) : Int × Int) =>
  (if (decide (v13 < (7 : Int))) = true then (if 0 ≤ v13 ∧ v13 < ((7 : Nat) : Int) then (((if ((([(0 : Int), (0 : Int), (0 : Int), (0 : Int), (42 : Int), (43 : Int), (63 : Int)] : List Int).getD v13.toNat 0) != (0 : Int)) = true then ((pq_sign_v2 (([(0 : Int), (0 : Int), (0 : Int), (0 : Int), (42 : Int), (43 : Int), (63 : Int)] : List Int).getD v13.toNat 0) p1 p15 p3 p4 r38 r39 o1 o2 o3 o4).bind fun (z22 : (Bool × Int) ⊕ (Int × Int)) => match z22 with
  | .inr (e59, e60) => some ((Sum.inr (e59, e60)))
  | .inl (r62, r63) => some ((Sum.inl (r63, r62))))
  else some ((Sum.inl (p15, false))))).bind fun (r64 : ((Int × Bool) ⊕ (Int × Int))) => match r64 with
  | .inl (p16, v15) => (if v15 = true then some (Sum.inr (Sum.inr (Sum.inr ((Tree.node (IntKind.u8.wrap v13) (0 : Int) ([(Tree.node r36.op r36.set r36.kids)] : List Tree)), p16, r38, r39))))
  else some (Sum.inl (p16, (IntKind.i64.wrap (v13 + (1 : Int))))))
  | .inr ((e57, e58)) => some (Sum.inr (Sum.inr (Sum.inl (e57, e58))))) else none)
  else some (Sum.inr (Sum.inl p15)))
def pq_often_v5 (rec_pq_either_v1 : (List UInt8) → Int → Int → Int → Int → Int → (List (List UInt8)) → (List Int) → (List (Int × Tree × Tree)) → (List ((List UInt8) × Int)) → Option ((Tree × Int × Int × Int) ⊕ (Int × Int))) (p1 : List UInt8) (p2 p3 p4 p5 p6 : Int) (o1 : List (List UInt8)) (o2 : List Int) (o3 : List (Int × Tree × Tree)) (o4 : List ((List UInt8) × Int)) : Option ((Tree × Int × Int × Int) ⊕ (Int × Int)) :=
  ((pq_thing_v5 rec_pq_either_v1 p1 p2 p3 p4 p5 p6 o1 o2 o3 o4).bind fun (z13 : (Tree × Int × Int × Int) ⊕ (Int × Int)) => match z13 with
  | .inr (e33, e34) => some (Sum.inr (e33, e34))
  | .inl (r36, r37, r38, r39) => ((iter (pq_often_v5_L1 p1 p3 p4 o1 o2 o3 o4 r36 r38 r39) (r37, (0 : Int))).bind fun (r65 : ((Int) ⊕ ((Int × Int) ⊕ (Tree × Int × Int × Int)))) => match r65 with
  | .inl v14 => some (Sum.inl ((Tree.node r36.op r36.set r36.kids), v14, r38, r39))
  | .inr (.inl (e51, e52)) => some (Sum.inr (e51, e52))
  | .inr (.inr ((r54, r55, r56, r57))) => some (Sum.inl (r54, r55, r56, r57))))
theorem pq_often_v5_ok (rec_pq_either_v1 : (List UInt8) → Int → Int → Int → Int → Int → (List (List UInt8)) → (List Int) → (List (Int × Tree × Tree)) → (List ((List UInt8) × Int)) → Option ((Tree × Int × Int × Int) ⊕ (Int × Int))) (hrec_pq_either_v1 : ∀ (p1 : List UInt8) (p2 p3 p4 p5 p6 : Int) (o1 : List (List UInt8)) (o2 : List Int) (o3 : List (Int × Tree × Tree)) (o4 : List ((List UInt8) × Int)) (res : (Tree × Int × Int × Int) ⊕ (Int × Int)), rec_pq_either_v1 p1 p2 p3 p4 p5 p6 o1 o2 o3 o4 = some res → Does Try.prog 55 [.adr 0 0 10 0] (ob21 p1 p2 p3 p4 p5 p6 o1 o2 o3 o4) (outT (fun (q : Tree × Int × Int × Int) => (.agg [.u8 q.1.op, .u32 q.1.set, .p false (.slice (.tree .u8 .u32)) q.1.kids], (ob21 p1 q.2.1 p3 p4 q.2.2.1 q.2.2.2 o1 o2 o3 o4))) (faultV 40 .i64 .i64) res)) (p1 : List UInt8) (p2 p3 p4 p5 p6 : Int) (o1 : List (List UInt8)) (o2 : List Int) (o3 : List (Int × Tree × Tree)) (o4 : List ((List UInt8) × Int)) (res : (Tree × Int × Int × Int) ⊕ (Int × Int)) (h : pq_often_v5 rec_pq_either_v1 p1 p2 p3 p4 p5 p6 o1 o2 o3 o4 = some res) :
    Does Try.prog 65 [.adr 0 0 10 0] (ob21 p1 p2 p3 p4 p5 p6 o1 o2 o3 o4) (outT (fun (q : Tree × Int × Int × Int) => (.agg [.u8 q.1.op, .u32 q.1.set, .p false (.slice (.tree .u8 .u32)) q.1.kids], (ob21 p1 q.2.1 p3 p4 q.2.2.1 q.2.2.2 o1 o2 o3 o4))) (faultV 40 .i64 .i64) res) := by
  refine Does.of_body tbok Try.func65 (by kernel_rfl) rfl (nl rfl) (fun Bw w0 => ?_)
  unfold pq_often_v5 at h
  refine W_rs tbok ⟨[], []⟩ [] [0, 1, 2, 3, 4, 5] [(0, .adr 0 0 10 0), (2, .adr 5 0 3 0)] (ob26 p1 p2 p3 p4 p5 p6 o1 o2 o3 o4 (0 : Int) (0 : Int)) 6 5 [True] (by kernel_rfl) ⟨tt, tt⟩ ?_
  refine W_seq ?_
  obtain ⟨z13, q13, h⟩ := h_bind h
  rcases z13 with ⟨r36, r37, r38, r39⟩ | ⟨e33, e34⟩
  · have u_1 := (pq_thing_v5_ok rec_pq_either_v1 hrec_pq_either_v1 p1 p2 p3 p4 p5 p6 o1 o2 o3 o4 _ q13)
    refine W_r tbok ⟨[], [(1, ⟨.agg [.u8 r36.op, .u32 r36.set, .p false (.slice (.tree .u8 .u32)) r36.kids], [false], true, [true], [0, 1, 2, 3, 4], (ob21 p1 r37 p3 p4 r38 r39 o1 o2 o3 o4), none⟩)]⟩ [] [0, 1, 2, 3, 4, 5, 22] [(0, .adr 0 0 10 0), (2, .adr 5 0 3 0), (3, .adr 6 0 3 0)] (ob28 p1 r37 p3 p4 r38 r39 o1 o2 o3 o4 (0 : Int) (0 : Int) r36.op r36.set r36.kids) 7 5 [True, pO u_1, True, True] (by kernel_rfl) ⟨tt, u_1, tt, tt, tt⟩ ?_
    refine to_then ?_
    refine W_seq ?_
    refine W_rs tbok ⟨[], []⟩ [] [0, 1, 2, 3, 4, 5, 6] [(0, .adr 0 0 10 0), (2, .adr 5 0 3 0), (3, .adr 6 0 3 0), (8, .agg [.u8 (0 : Int), .u8 (0 : Int), .u8 (0 : Int), .u8 (0 : Int), .u8 (42 : Int), .u8 (43 : Int), .u8 (63 : Int)]), (9, .i64 (0 : Int))] (ob28 p1 r37 p3 p4 r38 r39 o1 o2 o3 o4 (0 : Int) (0 : Int) r36.op r36.set r36.kids) 7 5 [True, True] (by kernel_rfl) ⟨tt, tt, tt⟩ ?_
    refine W_block ?_
    obtain ⟨r65, hp8, h⟩ := h_bind h
    refine W.mono (Q := (postS (postX Try.f65.ntmps 0 (fun (v14 : Int) => mkSt [(2, .adr 5 0 3 0), (3, .adr 6 0 3 0)] (ob28 p1 v14 p3 p4 r38 r39 o1 o2 o3 o4 (0 : Int) (0 : Int) r36.op r36.set r36.kids) 7 5)) (postS (postP (faultV 40 .i64 .i64)) (postRO tb Try.f65.ntmps Try.f65.results.toList (fun ((r54, r55, r56, r57) : Tree × Int × Int × Int) => (.agg [.u8 r54.op, .u32 r54.set, .p false (.slice (.tree .u8 .u32)) r54.kids], (ob21 p1 r55 p3 p4 r56 r57 o1 o2 o3 o4)))))) r65) (W_iter (f := fun ((p15, v13) : Int × Int) => mkSt [(0, .adr 0 0 10 0), (2, .adr 5 0 3 0), (3, .adr 6 0 3 0), (8, .agg [.u8 (0 : Int), .u8 (0 : Int), .u8 (0 : Int), .u8 (0 : Int), .u8 (42 : Int), .u8 (43 : Int), .u8 (63 : Int)]), (9, .i64 v13)] (ob28 p1 p15 p3 p4 r38 r39 o1 o2 o3 o4 (0 : Int) (0 : Int) r36.op r36.set r36.kids) 7 5) (Q := (postS (postX Try.f65.ntmps 0 (fun (v14 : Int) => mkSt [(2, .adr 5 0 3 0), (3, .adr 6 0 3 0)] (ob28 p1 v14 p3 p4 r38 r39 o1 o2 o3 o4 (0 : Int) (0 : Int) r36.op r36.set r36.kids) 7 5)) (postS (postP (faultV 40 .i64 .i64)) (postRO tb Try.f65.ntmps Try.f65.results.toList (fun ((r54, r55, r56, r57) : Tree × Int × Int × Int) => (.agg [.u8 r54.op, .u32 r54.set, .p false (.slice (.tree .u8 .u32)) r54.kids], (ob21 p1 r55 p3 p4 r56 r57 o1 o2 o3 o4))))))) hp8 (gl [] [0, 1, 2, 3, 4, 5, 6] (by kernel_rfl)) (fun y o ho => ?_)) (fun e σ' hq => ?_)
    · obtain ⟨p15, v13⟩ := y
      replace h := ho
      clear ho hp8
      unfold pq_often_v5_L1 at h
      refine W_rs tbok ⟨[], []⟩ [] [0, 1, 2, 3, 4, 5, 6] [(0, .adr 0 0 10 0), (2, .adr 5 0 3 0), (3, .adr 6 0 3 0), (8, .agg [.u8 (0 : Int), .u8 (0 : Int), .u8 (0 : Int), .u8 (0 : Int), .u8 (42 : Int), .u8 (43 : Int), .u8 (63 : Int)]), (9, .i64 v13), (10, .bo (decide (v13 < (7 : Int))))] (ob28 p1 p15 p3 p4 r38 r39 o1 o2 o3 o4 (0 : Int) (0 : Int) r36.op r36.set r36.kids) 7 5 [True] (by kernel_rfl) ⟨tt, tt⟩ ?_
      refine W_seq ?_
      refine W_cond (b := (decide (v13 < (7 : Int)))) (β := false) (by kernel_rfl) (fun hb26 => ?_) (fun hb26 => ?_)
      · replace h := h_if hb26 h
        refine W_skip_to ?_
        refine to_then ?_
        refine W_seq ?_
        refine W_block ?_
        refine W_seq ?_
        obtain ⟨c12, h⟩ := h_guard h
        refine W_r tbok ⟨[], []⟩ [] [0, 1, 2, 3, 4, 5, 6] [(0, .adr 0 0 10 0), (2, .adr 5 0 3 0), (3, .adr 6 0 3 0), (4, .i64 v13), (5, .u8 (([(0 : Int), (0 : Int), (0 : Int), (0 : Int), (42 : Int), (43 : Int), (63 : Int)] : List Int).getD v13.toNat 0)), (8, .agg [.u8 (0 : Int), .u8 (0 : Int), .u8 (0 : Int), .u8 (0 : Int), .u8 (42 : Int), .u8 (43 : Int), .u8 (63 : Int)]), (9, .i64 v13)] (ob28 p1 p15 p3 p4 r38 r39 o1 o2 o3 o4 (0 : Int) (0 : Int) r36.op r36.set r36.kids) 7 5 [True, 0 ≤ v13 ∧ v13 < ((7 : Nat) : Int), True, True] (by kernel_rfl) ⟨tt, c12, tt, tt, tt⟩ ?_
        refine to_then ?_
        refine W_seq ?_
        obtain ⟨r64, hp7, h⟩ := h_bind h
        refine W.mono (Q := (postS (postN Try.f65.ntmps (fun ((p16, v15) : Int × Bool) => mkSt [(0, .adr 0 0 10 0), (2, .adr 5 0 3 0), (3, .adr 6 0 3 0), (4, .i64 v13), (8, .agg [.u8 (0 : Int), .u8 (0 : Int), .u8 (0 : Int), .u8 (0 : Int), .u8 (42 : Int), .u8 (43 : Int), .u8 (63 : Int)]), (9, .i64 v13), (19, .bo v15)] (ob28 p1 p16 p3 p4 r38 r39 o1 o2 o3 o4 (0 : Int) (0 : Int) r36.op r36.set r36.kids) 7 5)) (postP (faultV 40 .i64 .i64))) r64) ?_ (fun e σ' hq => ?_)
        · replace h := hp7
          clear hp7
          rcases bb ((([(0 : Int), (0 : Int), (0 : Int), (0 : Int), (42 : Int), (43 : Int), (63 : Int)] : List Int).getD v13.toNat 0) != (0 : Int)) with hb29 | hb29
          · replace h := h_if hb29 h
            obtain ⟨z22, q22, h⟩ := h_bind h
            rcases z22 with ⟨r62, r63⟩ | ⟨e59, e60⟩
            · have u_1 := (pq_sign_v2_ok (([(0 : Int), (0 : Int), (0 : Int), (0 : Int), (42 : Int), (43 : Int), (63 : Int)] : List Int).getD v13.toNat 0) p1 p15 p3 p4 r38 r39 o1 o2 o3 o4 _ q22)
              refine W_r tbok ⟨[(2, true), (6, true)], [(5, ⟨.bo r62, [false, false], true, [true, true], [0, 1, 2, 3, 4], (ob21 p1 r63 p3 p4 r38 r39 o1 o2 o3 o4), none⟩)]⟩ [] [0, 1, 2, 3, 4, 5, 6] [(0, .adr 0 0 10 0), (2, .adr 5 0 3 0), (3, .adr 6 0 3 0), (4, .i64 v13), (8, .agg [.u8 (0 : Int), .u8 (0 : Int), .u8 (0 : Int), .u8 (0 : Int), .u8 (42 : Int), .u8 (43 : Int), .u8 (63 : Int)]), (9, .i64 v13), (19, .bo r62)] (ob28 p1 r63 p3 p4 r38 r39 o1 o2 o3 o4 (0 : Int) (0 : Int) r36.op r36.set r36.kids) 7 5 (Ts 3 [((([(0 : Int), (0 : Int), (0 : Int), (0 : Int), (42 : Int), (43 : Int), (63 : Int)] : List Int).getD v13.toNat 0) != (0 : Int)) = true ∧ True, ((([(0 : Int), (0 : Int), (0 : Int), (0 : Int), (42 : Int), (43 : Int), (63 : Int)] : List Int).getD v13.toNat 0) != (0 : Int)) = true ∧ True, ((([(0 : Int), (0 : Int), (0 : Int), (0 : Int), (42 : Int), (43 : Int), (63 : Int)] : List Int).getD v13.toNat 0) != (0 : Int)) = true ∧ pO u_1, ((([(0 : Int), (0 : Int), (0 : Int), (0 : Int), (42 : Int), (43 : Int), (63 : Int)] : List Int).getD v13.toNat 0) != (0 : Int)) = true]) (by kernel_rfl) (tr 3 ⟨⟨hb29, tt⟩, ⟨hb29, tt⟩, ⟨hb29, u_1⟩, hb29, tt⟩) ?_
              obtain rfl := sI h
              refine postS_l ?_
              exact postN_to (gl [] [0, 1, 2, 3, 4, 5, 6] (by kernel_rfl))
            refine W_die tbok ⟨[(2, true)], [(5, ⟨.unk, [false, false], true, [true, true], [0, 1, 2, 3, 4], [], some (faultV 40 .i64 .i64 (e59, e60))⟩)]⟩ 5 (faultV 40 .i64 .i64 (e59, e60)) [] [0, 1, 2, 3, 4] [] [] 5 5 (Ts 3 [((([(0 : Int), (0 : Int), (0 : Int), (0 : Int), (42 : Int), (43 : Int), (63 : Int)] : List Int).getD v13.toNat 0) != (0 : Int)) = true ∧ True, ((([(0 : Int), (0 : Int), (0 : Int), (0 : Int), (42 : Int), (43 : Int), (63 : Int)] : List Int).getD v13.toNat 0) != (0 : Int)) = true ∧ True, ((([(0 : Int), (0 : Int), (0 : Int), (0 : Int), (42 : Int), (43 : Int), (63 : Int)] : List Int).getD v13.toNat 0) != (0 : Int)) = true ∧ Dies Try.prog 47 [.adr 0 0 10 0, .u8 (([(0 : Int), (0 : Int), (0 : Int), (0 : Int), (42 : Int), (43 : Int), (63 : Int)] : List Int).getD v13.toNat 0)] (ob21 p1 p15 p3 p4 r38 r39 o1 o2 o3 o4) (faultV 40 .i64 .i64 (e59, e60))]) (by kernel_rfl) (by kernel_rfl) (tr 3 ⟨⟨hb29, tt⟩, ⟨hb29, tt⟩, ⟨hb29, (pq_sign_v2_ok (([(0 : Int), (0 : Int), (0 : Int), (0 : Int), (42 : Int), (43 : Int), (63 : Int)] : List Int).getD v13.toNat 0) p1 p15 p3 p4 r38 r39 o1 o2 o3 o4 _ q22)⟩, tt⟩) (fun σ1 hle => ?_)
            obtain rfl := sI h
            refine postS_rr ?_
            exact rfl
          replace h := h_else hb29 h
          refine W_r tbok ⟨[(2, false), (6, false)], []⟩ [] [0, 1, 2, 3, 4, 5, 6] [(0, .adr 0 0 10 0), (2, .adr 5 0 3 0), (3, .adr 6 0 3 0), (4, .i64 v13), (8, .agg [.u8 (0 : Int), .u8 (0 : Int), .u8 (0 : Int), .u8 (0 : Int), .u8 (42 : Int), .u8 (43 : Int), .u8 (63 : Int)]), (9, .i64 v13), (19, .bo false)] (ob28 p1 p15 p3 p4 r38 r39 o1 o2 o3 o4 (0 : Int) (0 : Int) r36.op r36.set r36.kids) 7 5 (Ts 3 [((([(0 : Int), (0 : Int), (0 : Int), (0 : Int), (42 : Int), (43 : Int), (63 : Int)] : List Int).getD v13.toNat 0) != (0 : Int)) = false, ((([(0 : Int), (0 : Int), (0 : Int), (0 : Int), (42 : Int), (43 : Int), (63 : Int)] : List Int).getD v13.toNat 0) != (0 : Int)) = false, ((([(0 : Int), (0 : Int), (0 : Int), (0 : Int), (42 : Int), (43 : Int), (63 : Int)] : List Int).getD v13.toNat 0) != (0 : Int)) = false, ((([(0 : Int), (0 : Int), (0 : Int), (0 : Int), (42 : Int), (43 : Int), (63 : Int)] : List Int).getD v13.toNat 0) != (0 : Int)) = false]) (by kernel_rfl) (tr 3 ⟨hb29, hb29, hb29, hb29, tt⟩) ?_
          obtain rfl := sI h
          refine postS_l ?_
          exact postN_to (gl [] [0, 1, 2, 3, 4, 5, 6] (by kernel_rfl))
        clear hp7
        rcases r64 with ⟨p16, v15⟩ | ⟨e57, e58⟩
        · obtain ⟨rfl, hle⟩ := hq
          refine use_to ?_ hle
          refine to_then ?_
          refine W_cond (b := v15) (β := false) (by kernel_rfl) (fun hb30 => ?_) (fun hb30 => ?_)
          · replace h := h_if hb30 h
            refine W_rs tbok ⟨[], []⟩ [] [0, 1, 2, 3, 4, 5, 31] [(2, .adr 5 0 3 0)] (ob29 p1 p16 p3 p4 r38 r39 o1 o2 o3 o4 (IntKind.u8.wrap v13) (0 : Int) ([(Tree.node r36.op r36.set r36.kids)] : List Tree)) 7 5 (Ts 6 []) (by kernel_rfl) (tr 6 tt) ?_
            refine W_ret ?_
            obtain rfl := sI h
            refine blockQ_ret ?_
            refine thenQ_ret ?_
            refine round_ret ?_
            refine postS_rr ?_
            refine postS_rr ?_
            exact postRO_mk (RetO_intro [some (.tree .u8 .u32)] [] [0, 1, 2, 3, 4, 5, 6] [(2, .adr 5 0 3 0)] (ob29 p1 p16 p3 p4 r38 r39 o1 o2 o3 o4 (IntKind.u8.wrap v13) (0 : Int) ([(Tree.node r36.op r36.set r36.kids)] : List Tree)) 7 5 (by kernel_rfl) (by kernel_rfl) (by kernel_rfl))
          replace h := h_else hb30 h
          refine W_skip_to ?_
          refine to_block ?_
          refine to_then ?_
          refine W_r tbok ⟨[], []⟩ [] [0, 1, 2, 3, 4, 5, 6] [(0, .adr 0 0 10 0), (2, .adr 5 0 3 0), (3, .adr 6 0 3 0), (8, .agg [.u8 (0 : Int), .u8 (0 : Int), .u8 (0 : Int), .u8 (0 : Int), .u8 (42 : Int), .u8 (43 : Int), .u8 (63 : Int)]), (9, .i64 (IntKind.i64.wrap (v13 + (1 : Int))))] (ob28 p1 p16 p3 p4 r38 r39 o1 o2 o3 o4 (0 : Int) (0 : Int) r36.op r36.set r36.kids) 7 5 [True, True] (by kernel_rfl) ⟨tt, tt, tt⟩ ?_
          obtain rfl := sI h
          exact roundB (gl [] [0, 1, 2, 3, 4, 5, 6] (by kernel_rfl))
        obtain rfl := hq
        obtain rfl := sI h
        refine thenQ_pan ?_
        refine blockQ_pan ?_
        refine thenQ_pan ?_
        refine round_pan ?_
        refine postS_rr ?_
        refine postS_lr ?_
        exact rfl
      replace h := h_else hb26 h
      refine W_exit_to ?_
      refine thenE ?_
      obtain rfl := sI h
      refine roundE ?_
      refine postS_l ?_
      exact postX_to (gl [] [0, 1, 2, 3, 4, 5, 6] (by kernel_rfl))
    clear hp8
    rcases r65 with v14 | ⟨e51, e52⟩ | ⟨r54, r55, r56, r57⟩
    · obtain ⟨rfl, hle⟩ := hq
      refine use_to ?_ hle
      refine blockE_eq ?_
      refine to_then ?_
      refine W_rs tbok ⟨[], []⟩ [] [0, 1, 2, 3, 4, 5] [(2, .adr 5 0 3 0)] (ob30 p1 v14 p3 p4 r38 r39 o1 o2 o3 o4 r36.op r36.set r36.kids) 6 5 [True, True] (by kernel_rfl) ⟨tt, tt, tt⟩ ?_
      refine W_ret ?_
      obtain rfl := sI h
      exact RetO_intro [some (.tree .u8 .u32)] [] [0, 1, 2, 3, 4, 5] [(2, .adr 5 0 3 0)] (ob30 p1 v14 p3 p4 r38 r39 o1 o2 o3 o4 r36.op r36.set r36.kids) 6 5 (by kernel_rfl) (by kernel_rfl) (by kernel_rfl)
    · obtain rfl := hq
      refine blockQ_pan ?_
      refine thenQ_pan ?_
      obtain rfl := sI h
      exact rfl
    obtain ⟨rfl, hr⟩ := hq
    refine blockQ_ret ?_
    refine thenQ_ret ?_
    obtain rfl := sI h
    exact hr
  refine W_die tbok ⟨[], [(1, ⟨.unk, [false], true, [true], [0, 1, 2, 3, 4], [], some (faultV 40 .i64 .i64 (e33, e34))⟩)]⟩ 1 (faultV 40 .i64 .i64 (e33, e34)) [] [0, 1, 2, 3, 4] [] [] 5 5 [True, Dies Try.prog 67 [.adr 0 0 10 0] (ob21 p1 p2 p3 p4 p5 p6 o1 o2 o3 o4) (faultV 40 .i64 .i64 (e33, e34))] (by kernel_rfl) (by kernel_rfl) ⟨tt, (pq_thing_v5_ok rec_pq_either_v1 hrec_pq_either_v1 p1 p2 p3 p4 p5 p6 o1 o2 o3 o4 _ q13), tt⟩ (fun σ1 hle => ?_)
  refine thenQ_pan ?_
  obtain rfl := sI h
  exact rfl
def pq_row_v5_L1 (p1 : List UInt8) (p3 p4 : Int) (o1 : List (List UInt8)) (o2 : List Int) (o3 : List (Int × Tree × Tree)) (o4 : List ((List UInt8) × Int)) (rec_pq_either_v1 : (List UInt8) → Int → Int → Int → Int → Int → (List (List UInt8)) → (List Int) → (List (Int × Tree × Tree)) → (List ((List UInt8) × Int)) → Option ((Tree × Int × Int × Int) ⊕ (Int × Int))) : (Int × Int × Int × (List Tree) × Int) → Option ((Int × Int × Int × (List Tree) × Int) ⊕ (((List Tree) × Int × Int × Int) ⊕ (Int × Int))) := fun ((p16, p17, p18, l5, c4) : Int × Int × Int × (List Tree) × Int) =>
  ((((rules_letter c4).bind fun (r88 : Bool) =>
  (if r88 = true then some (true)
  else (if (c4 == (40 : Int)) = true then some (true)
  else (if (c4 == (91 : Int)) = true then some (true)
  else some ((c4 == (46 : Int)))))))).bind fun (v15 : Bool) => (if v15 = true then ((pq_often_v5 rec_pq_either_v1 p1 p16 p3 p4 p17 p18 o1 o2 o3 o4).bind fun (z26 : (Tree × Int × Int × Int) ⊕ (Int × Int)) => match z26 with
  | .inr (e55, e56) => some (Sum.inr (Sum.inr (e55, e56)))
  | .inl (r93, r94, r95, r96) => (if (l5.length + ([(Tree.node r93.op r93.set r93.kids)] : List Tree).length) * 32 ≤ 140737488355328 ∧ l5.length + ([(Tree.node r93.op r93.set r93.kids)] : List Tree).length ≤ 9223372036854775807 then ((pq_here_v2 p1 r94 p3 p4 r95 r96 o1 o2 o3 o4).bind fun (z28 : (Int × Int) ⊕ (Int × Int)) => match z28 with
  | .inr (e59, e60) => some (Sum.inr (Sum.inr (e59, e60)))
  | .inl (r99, r100) => some (Sum.inl (r100, r95, r96, (l5 ++ ([(Tree.node r93.op r93.set r93.kids)] : List Tree)), r99))) else none))
  else some (Sum.inr (Sum.inl (l5, p16, p17, p18)))))
def pq_row_v5 (rec_pq_either_v1 : (List UInt8) → Int → Int → Int → Int → Int → (List (List UInt8)) → (List Int) → (List (Int × Tree × Tree)) → (List ((List UInt8) × Int)) → Option ((Tree × Int × Int × Int) ⊕ (Int × Int))) (p1 : List UInt8) (p2 p3 p4 p5 p6 : Int) (o1 : List (List UInt8)) (o2 : List Int) (o3 : List (Int × Tree × Tree)) (o4 : List ((List UInt8) × Int)) : Option ((Tree × Int × Int × Int) ⊕ (Int × Int)) :=
  ((pq_here_v2 p1 p2 p3 p4 p5 p6 o1 o2 o3 o4).bind fun (z16 : (Int × Int) ⊕ (Int × Int)) => match z16 with
  | .inr (e33, e34) => some (Sum.inr (e33, e34))
  | .inl (r54, r55) => ((iter (pq_row_v5_L1 p1 p3 p4 o1 o2 o3 o4 rec_pq_either_v1) (r55, p5, p6, ([] : List Tree), r54)).bind fun (r101 : (((List Tree) × Int × Int × Int) ⊕ (Int × Int))) => match r101 with
  | .inl (l6, v12, v13, v14) => (if ((l6.length : Int) == (0 : Int)) = true then some (Sum.inl ((Tree.node (0 : Int) (0 : Int) ([] : List Tree)), v12, v13, v14))
  else (if ((l6.length : Int) == (1 : Int)) = true then (if 0 ≤ (0 : Int) ∧ (0 : Int) < (l6.length : Int) then (if (0 : Int).toNat < l6.length then some (Sum.inl ((Tree.node ((l6.getD ((0 : Int).toNat) (Tree.node 0 0 [])).op) ((l6.getD ((0 : Int).toNat) (Tree.node 0 0 [])).set) ((l6.getD ((0 : Int).toNat) (Tree.node 0 0 [])).kids)), v12, v13, v14)) else none) else none)
  else some (Sum.inl ((Tree.node (2 : Int) (0 : Int) l6), v12, v13, v14))))
  | .inr ((e51, e52)) => some (Sum.inr (e51, e52))))
theorem pq_row_v5_ok (rec_pq_either_v1 : (List UInt8) → Int → Int → Int → Int → Int → (List (List UInt8)) → (List Int) → (List (Int × Tree × Tree)) → (List ((List UInt8) × Int)) → Option ((Tree × Int × Int × Int) ⊕ (Int × Int))) (hrec_pq_either_v1 : ∀ (p1 : List UInt8) (p2 p3 p4 p5 p6 : Int) (o1 : List (List UInt8)) (o2 : List Int) (o3 : List (Int × Tree × Tree)) (o4 : List ((List UInt8) × Int)) (res : (Tree × Int × Int × Int) ⊕ (Int × Int)), rec_pq_either_v1 p1 p2 p3 p4 p5 p6 o1 o2 o3 o4 = some res → Does Try.prog 55 [.adr 0 0 10 0] (ob21 p1 p2 p3 p4 p5 p6 o1 o2 o3 o4) (outT (fun (q : Tree × Int × Int × Int) => (.agg [.u8 q.1.op, .u32 q.1.set, .p false (.slice (.tree .u8 .u32)) q.1.kids], (ob21 p1 q.2.1 p3 p4 q.2.2.1 q.2.2.2 o1 o2 o3 o4))) (faultV 40 .i64 .i64) res)) (p1 : List UInt8) (p2 p3 p4 p5 p6 : Int) (o1 : List (List UInt8)) (o2 : List Int) (o3 : List (Int × Tree × Tree)) (o4 : List ((List UInt8) × Int)) (res : (Tree × Int × Int × Int) ⊕ (Int × Int)) (h : pq_row_v5 rec_pq_either_v1 p1 p2 p3 p4 p5 p6 o1 o2 o3 o4 = some res) :
    Does Try.prog 62 [.adr 0 0 10 0] (ob21 p1 p2 p3 p4 p5 p6 o1 o2 o3 o4) (outT (fun (q : Tree × Int × Int × Int) => (.agg [.u8 q.1.op, .u32 q.1.set, .p false (.slice (.tree .u8 .u32)) q.1.kids], (ob21 p1 q.2.1 p3 p4 q.2.2.1 q.2.2.2 o1 o2 o3 o4))) (faultV 40 .i64 .i64) res) := by
  refine Does.of_body tbok Try.func62 (by kernel_rfl) rfl (nl rfl) (fun Bw w0 => ?_)
  unfold pq_row_v5 at h
  refine W_rs tbok ⟨[], []⟩ [] [0, 1, 2, 3, 4, 5] [(0, .adr 0 0 10 0), (2, .adr 5 0 3 0)] (ob26 p1 p2 p3 p4 p5 p6 o1 o2 o3 o4 (0 : Int) (0 : Int)) 6 5 [True] (by kernel_rfl) ⟨tt, tt⟩ ?_
  refine W_rs tbok ⟨[], []⟩ [] [0, 1, 2, 3, 4, 5] [(0, .adr 0 0 10 0), (2, .adr 5 0 3 0), (3, .nils)] (ob26 p1 p2 p3 p4 p5 p6 o1 o2 o3 o4 (0 : Int) (0 : Int)) 6 5 [True] (by kernel_rfl) ⟨tt, tt⟩ ?_
  refine W_seq ?_
  refine W_seq ?_
  obtain ⟨z16, q25, h⟩ := h_bind h
  rcases z16 with ⟨r54, r55⟩ | ⟨e33, e34⟩
  · have u_1 := (pq_here_v2_ok p1 p2 p3 p4 p5 p6 o1 o2 o3 o4 _ q25)
    refine W_r tbok ⟨[], [(1, ⟨.u8 r54, [false], true, [true], [0, 1, 2, 3, 4], (ob21 p1 r55 p3 p4 p5 p6 o1 o2 o3 o4), none⟩)]⟩ [] [0, 1, 2, 3, 4, 5] [(0, .adr 0 0 10 0), (2, .adr 5 0 3 0), (3, .nils), (4, .u8 r54)] (ob26 p1 r55 p3 p4 p5 p6 o1 o2 o3 o4 (0 : Int) (0 : Int)) 6 5 [True, pO u_1, True] (by kernel_rfl) ⟨tt, u_1, tt, tt⟩ ?_
    refine to_then ?_
    refine W_block ?_
    obtain ⟨r101, hp8, h⟩ := h_bind h
    refine W.mono (Q := (postS (postX Try.f62.ntmps 0 (fun ((l6, v12, v13, v14) : (List Tree) × Int × Int × Int) => mkSt [(2, .adr 5 0 3 0), (3, .sl 6)] (ob31 p1 v12 p3 p4 v13 v14 o1 o2 o3 o4 (0 : Int) (0 : Int) l6) 7 5)) (postP (faultV 40 .i64 .i64))) r101) (W_iter (f := fun ((p16, p17, p18, l5, c4) : Int × Int × Int × (List Tree) × Int) => mkSt [(0, .adr 0 0 10 0), (2, .adr 5 0 3 0), (3, .sl 6), (4, .u8 c4)] (ob31 p1 p16 p3 p4 p17 p18 o1 o2 o3 o4 (0 : Int) (0 : Int) l5) 7 5) (Q := (postS (postX Try.f62.ntmps 0 (fun ((l6, v12, v13, v14) : (List Tree) × Int × Int × Int) => mkSt [(2, .adr 5 0 3 0), (3, .sl 6)] (ob31 p1 v12 p3 p4 v13 v14 o1 o2 o3 o4 (0 : Int) (0 : Int) l6) 7 5)) (postP (faultV 40 .i64 .i64)))) hp8 (gl [.nilS 3 6 50 (.tree .u8 .u32)] [0, 1, 2, 3, 4, 5, 6] (by kernel_rfl)) (fun y o ho => ?_)) (fun e σ' hq => ?_)
    · obtain ⟨p16, p17, p18, l5, c4⟩ := y
      replace h := ho
      clear ho hp8
      unfold pq_row_v5_L1 at h
      refine W_seq ?_
      refine W_seq ?_
      obtain ⟨v15, hp7, h⟩ := h_bind h
      refine W.mono (Q := (postN Try.f62.ntmps (fun (v15 : Bool) => mkSt [(0, .adr 0 0 10 0), (2, .adr 5 0 3 0), (3, .sl 6), (20, .bo v15)] (ob31 p1 p16 p3 p4 p17 p18 o1 o2 o3 o4 (0 : Int) (0 : Int) l5) 7 5)) v15) ?_ (fun e σ' hq => ?_)
      · replace h := hp7
        clear hp7
        obtain ⟨r88, q42, h⟩ := h_bind h
        rcases bb r88 with hb59 | hb59
        · replace h := h_if hb59 h
          refine W_r tbok ⟨[(2, true), (5, true), (6, true), (9, true), (10, true), (13, true)], [(1, ⟨.bo r88, [false], false, [true], [], [], none⟩)]⟩ [] [0, 1, 2, 3, 4, 5, 6] [(0, .adr 0 0 10 0), (2, .adr 5 0 3 0), (3, .sl 6), (20, .bo true)] (ob31 p1 p16 p3 p4 p17 p18 o1 o2 o3 o4 (0 : Int) (0 : Int) l5) 7 5 [True, Pure Try.prog 54 [.u8 c4] (.bo r88), True, r88 = true, r88 = true, r88 = true, True, true = true, true = true, true = true, True, true = true, true = true, true = true] (by kernel_rfl) ⟨tt, (rules_letter_ok c4 _ q42), tt, hb59, hb59, hb59, tt, rfl, rfl, rfl, tt, rfl, rfl, rfl, tt⟩ ?_
          obtain rfl := sI h
          exact postN_to (gl [] [0, 1, 2, 3, 4, 5, 6] (by kernel_rfl))
        replace h := h_else hb59 h
        rcases bb (c4 == (40 : Int)) with hb60 | hb60
        · replace h := h_if hb60 h
          refine W_r tbok ⟨[(2, false), (5, false), (6, true), (9, true), (10, true), (13, true)], [(1, ⟨.bo r88, [false], false, [true], [], [], none⟩)]⟩ [] [0, 1, 2, 3, 4, 5, 6] [(0, .adr 0 0 10 0), (2, .adr 5 0 3 0), (3, .sl 6), (20, .bo true)] (ob31 p1 p16 p3 p4 p17 p18 o1 o2 o3 o4 (0 : Int) (0 : Int) l5) 7 5 [True, Pure Try.prog 54 [.u8 c4] (.bo r88), True, r88 = false ∧ True, r88 = false ∧ True, r88 = false, True, (c4 == (40 : Int)) = true, (c4 == (40 : Int)) = true, (c4 == (40 : Int)) = true, True, true = true, true = true, true = true] (by kernel_rfl) ⟨tt, (rules_letter_ok c4 _ q42), tt, ⟨hb59, tt⟩, ⟨hb59, tt⟩, hb59, tt, hb60, hb60, hb60, tt, rfl, rfl, rfl, tt⟩ ?_
          obtain rfl := sI h
          exact postN_to (gl [] [0, 1, 2, 3, 4, 5, 6] (by kernel_rfl))
        replace h := h_else hb60 h
        rcases bb (c4 == (91 : Int)) with hb61 | hb61
        · replace h := h_if hb61 h
          refine W_r tbok ⟨[(2, false), (5, false), (6, false), (9, false), (10, true), (13, true)], [(1, ⟨.bo r88, [false], false, [true], [], [], none⟩)]⟩ [] [0, 1, 2, 3, 4, 5, 6] [(0, .adr 0 0 10 0), (2, .adr 5 0 3 0), (3, .sl 6), (20, .bo true)] (ob31 p1 p16 p3 p4 p17 p18 o1 o2 o3 o4 (0 : Int) (0 : Int) l5) 7 5 [True, Pure Try.prog 54 [.u8 c4] (.bo r88), True, r88 = false ∧ True, r88 = false ∧ True, r88 = false, True, (c4 == (40 : Int)) = false ∧ True, (c4 == (40 : Int)) = false ∧ True, (c4 == (40 : Int)) = false, True, (c4 == (91 : Int)) = true, (c4 == (91 : Int)) = true, (c4 == (91 : Int)) = true] (by kernel_rfl) ⟨tt, (rules_letter_ok c4 _ q42), tt, ⟨hb59, tt⟩, ⟨hb59, tt⟩, hb59, tt, ⟨hb60, tt⟩, ⟨hb60, tt⟩, hb60, tt, hb61, hb61, hb61, tt⟩ ?_
          obtain rfl := sI h
          exact postN_to (gl [] [0, 1, 2, 3, 4, 5, 6] (by kernel_rfl))
        replace h := h_else hb61 h
        refine W_r tbok ⟨[(2, false), (5, false), (6, false), (9, false), (10, false), (13, false)], [(1, ⟨.bo r88, [false], false, [true], [], [], none⟩)]⟩ [] [0, 1, 2, 3, 4, 5, 6] [(0, .adr 0 0 10 0), (2, .adr 5 0 3 0), (3, .sl 6), (20, .bo (c4 == (46 : Int)))] (ob31 p1 p16 p3 p4 p17 p18 o1 o2 o3 o4 (0 : Int) (0 : Int) l5) 7 5 [True, Pure Try.prog 54 [.u8 c4] (.bo r88), True, r88 = false ∧ True, r88 = false ∧ True, r88 = false, True, (c4 == (40 : Int)) = false ∧ True, (c4 == (40 : Int)) = false ∧ True, (c4 == (40 : Int)) = false, True, (c4 == (91 : Int)) = false ∧ True, (c4 == (91 : Int)) = false ∧ True, (c4 == (91 : Int)) = false] (by kernel_rfl) ⟨tt, (rules_letter_ok c4 _ q42), tt, ⟨hb59, tt⟩, ⟨hb59, tt⟩, hb59, tt, ⟨hb60, tt⟩, ⟨hb60, tt⟩, hb60, tt, ⟨hb61, tt⟩, ⟨hb61, tt⟩, hb61, tt⟩ ?_
        obtain rfl := sI h
        exact postN_to (gl [] [0, 1, 2, 3, 4, 5, 6] (by kernel_rfl))
      clear hp7
      obtain ⟨rfl, hle⟩ := hq
      refine use_to ?_ hle
      refine to_then ?_
      refine W_cond (b := v15) (β := false) (by kernel_rfl) (fun hb62 => ?_) (fun hb62 => ?_)
      · replace h := h_if hb62 h
        refine W_skip_to ?_
        refine to_then ?_
        refine W_seq ?_
        refine W_block ?_
        obtain ⟨z26, q44, h⟩ := h_bind h
        rcases z26 with ⟨r93, r94, r95, r96⟩ | ⟨e55, e56⟩
        · obtain ⟨c16, h⟩ := h_guard h
          have u_1 := (pq_often_v5_ok rec_pq_either_v1 hrec_pq_either_v1 p1 p16 p3 p4 p17 p18 o1 o2 o3 o4 _ q44)
          refine W_r tbok ⟨[], [(2, ⟨.agg [.u8 r93.op, .u32 r93.set, .p false (.slice (.tree .u8 .u32)) r93.kids], [false], true, [true], [0, 1, 2, 3, 4], (ob21 p1 r94 p3 p4 r95 r96 o1 o2 o3 o4), none⟩)]⟩ [] [0, 1, 2, 3, 4, 5, 39] [(0, .adr 0 0 10 0), (2, .adr 5 0 3 0), (3, .sl 6)] (ob31 p1 r94 p3 p4 r95 r96 o1 o2 o3 o4 (0 : Int) (0 : Int) (l5 ++ ([(Tree.node r93.op r93.set r93.kids)] : List Tree))) 7 5 [True, True, pO u_1, True, (l5.length + ([(Tree.node r93.op r93.set r93.kids)] : List Tree).length) * 32 ≤ 140737488355328 ∧ l5.length + ([(Tree.node r93.op r93.set r93.kids)] : List Tree).length ≤ 9223372036854775807, True] (by kernel_rfl) ⟨tt, tt, u_1, tt, c16, tt, tt⟩ ?_
          refine to_block ?_
          refine to_then ?_
          obtain ⟨z28, q46, h⟩ := h_bind h
          rcases z28 with ⟨r99, r100⟩ | ⟨e59, e60⟩
          · have u_1 := (pq_here_v2_ok p1 r94 p3 p4 r95 r96 o1 o2 o3 o4 _ q46)
            refine W_r tbok ⟨[], [(1, ⟨.u8 r99, [false], true, [true], [0, 1, 2, 3, 4], (ob21 p1 r100 p3 p4 r95 r96 o1 o2 o3 o4), none⟩)]⟩ [] [0, 1, 2, 3, 4, 5, 6] [(0, .adr 0 0 10 0), (2, .adr 5 0 3 0), (3, .sl 6), (4, .u8 r99)] (ob31 p1 r100 p3 p4 r95 r96 o1 o2 o3 o4 (0 : Int) (0 : Int) (l5 ++ ([(Tree.node r93.op r93.set r93.kids)] : List Tree))) 7 5 [True, pO u_1, True] (by kernel_rfl) ⟨tt, u_1, tt, tt⟩ ?_
            obtain rfl := sI h
            exact roundB (gl [] [0, 1, 2, 3, 4, 5, 6] (by kernel_rfl))
          refine W_die tbok ⟨[], [(1, ⟨.unk, [false], true, [true], [0, 1, 2, 3, 4], [], some (faultV 40 .i64 .i64 (e59, e60))⟩)]⟩ 1 (faultV 40 .i64 .i64 (e59, e60)) [] [0, 1, 2, 3, 4] [] [] 5 5 [True, Dies Try.prog 33 [.adr 0 0 10 0] (ob21 p1 r94 p3 p4 r95 r96 o1 o2 o3 o4) (faultV 40 .i64 .i64 (e59, e60))] (by kernel_rfl) (by kernel_rfl) ⟨tt, (pq_here_v2_ok p1 r94 p3 p4 r95 r96 o1 o2 o3 o4 _ q46), tt⟩ (fun σ1 hle => ?_)
          obtain rfl := sI h
          refine round_pan ?_
          refine postS_rr ?_
          exact rfl
        refine W_die tbok ⟨[], [(2, ⟨.unk, [false], true, [true], [0, 1, 2, 3, 4], [], some (faultV 40 .i64 .i64 (e55, e56))⟩)]⟩ 2 (faultV 40 .i64 .i64 (e55, e56)) [] [0, 1, 2, 3, 4] [] [] 5 5 [True, True, Dies Try.prog 65 [.adr 0 0 10 0] (ob21 p1 p16 p3 p4 p17 p18 o1 o2 o3 o4) (faultV 40 .i64 .i64 (e55, e56))] (by kernel_rfl) (by kernel_rfl) ⟨tt, tt, (pq_often_v5_ok rec_pq_either_v1 hrec_pq_either_v1 p1 p16 p3 p4 p17 p18 o1 o2 o3 o4 _ q44), tt⟩ (fun σ1 hle => ?_)
        obtain rfl := sI h
        refine blockQ_pan ?_
        refine thenQ_pan ?_
        refine round_pan ?_
        refine postS_rr ?_
        exact rfl
      replace h := h_else hb62 h
      refine W_exit_to ?_
      refine thenE ?_
      obtain rfl := sI h
      refine roundE ?_
      refine postS_l ?_
      exact postX_to (gl [] [0, 1, 2, 3, 4, 5, 6] (by kernel_rfl))
    clear hp8
    rcases r101 with ⟨l6, v12, v13, v14⟩ | ⟨e51, e52⟩
    · obtain ⟨rfl, hle⟩ := hq
      refine use_to ?_ hle
      refine blockE_eq ?_
      refine to_then ?_
      refine W_seq ?_
      refine W_rs tbok ⟨[], []⟩ [] [0, 1, 2, 3, 4, 5, 6] [(2, .adr 5 0 3 0), (3, .sl 6), (29, .i64 (l6.length : Int))] (ob31 p1 v12 p3 p4 v13 v14 o1 o2 o3 o4 (0 : Int) (0 : Int) l6) 7 5 [True, True] (by kernel_rfl) ⟨tt, tt, tt⟩ ?_
      refine W_block ?_
      refine W_rs tbok ⟨[], []⟩ [] [0, 1, 2, 3, 4, 5, 6] [(2, .adr 5 0 3 0), (3, .sl 6), (29, .i64 (l6.length : Int)), (30, .bo ((l6.length : Int) == (0 : Int)))] (ob31 p1 v12 p3 p4 v13 v14 o1 o2 o3 o4 (0 : Int) (0 : Int) l6) 7 5 [True, True] (by kernel_rfl) ⟨tt, tt, tt⟩ ?_
      refine W_cond (b := ((l6.length : Int) == (0 : Int))) (β := false) (by kernel_rfl) (fun hb63 => ?_) (fun hb63 => ?_)
      · replace h := h_if hb63 h
        refine W_rs tbok ⟨[], []⟩ [] [0, 1, 2, 3, 4, 5] [(2, .adr 5 0 3 0)] (ob26 p1 v12 p3 p4 v13 v14 o1 o2 o3 o4 (0 : Int) (0 : Int)) 6 5 [True, True] (by kernel_rfl) ⟨tt, tt, tt⟩ ?_
        refine W_ret ?_
        refine blockQ_ret ?_
        refine thenQ_ret ?_
        obtain rfl := sI h
        exact RetO_intro [some (.tree .u8 .u32)] [] [0, 1, 2, 3, 4, 5] [(2, .adr 5 0 3 0)] (ob26 p1 v12 p3 p4 v13 v14 o1 o2 o3 o4 (0 : Int) (0 : Int)) 6 5 (by kernel_rfl) (by kernel_rfl) (by kernel_rfl)
      replace h := h_else hb63 h
      refine W_rs tbok ⟨[], []⟩ [] [0, 1, 2, 3, 4, 5, 6] [(2, .adr 5 0 3 0), (3, .sl 6), (33, .bo ((l6.length : Int) == (1 : Int)))] (ob31 p1 v12 p3 p4 v13 v14 o1 o2 o3 o4 (0 : Int) (0 : Int) l6) 7 5 [True, True] (by kernel_rfl) ⟨tt, tt, tt⟩ ?_
      refine W_cond (b := ((l6.length : Int) == (1 : Int))) (β := false) (by kernel_rfl) (fun hb64 => ?_) (fun hb64 => ?_)
      · replace h := h_if hb64 h
        refine W_seq ?_
        obtain ⟨c19, h⟩ := h_guard h
        obtain ⟨c20, h⟩ := h_guard h
        refine W_r tbok ⟨[], []⟩ [] [0, 1, 2, 3, 4, 5] [(2, .adr 5 0 3 0)] (ob30 p1 v12 p3 p4 v13 v14 o1 o2 o3 o4 ((l6.getD ((0 : Int).toNat) (Tree.node 0 0 [])).op) ((l6.getD ((0 : Int).toNat) (Tree.node 0 0 [])).set) ((l6.getD ((0 : Int).toNat) (Tree.node 0 0 [])).kids)) 6 5 [True, 0 ≤ (0 : Int) ∧ (0 : Int) < (l6.length : Int), (0 : Int).toNat < l6.length, True] (by kernel_rfl) ⟨tt, c19, c20, tt, tt⟩ ?_
        refine to_then ?_
        refine W_ret ?_
        refine blockQ_ret ?_
        refine thenQ_ret ?_
        obtain rfl := sI h
        exact RetO_intro [some (.tree .u8 .u32)] [] [0, 1, 2, 3, 4, 5] [(2, .adr 5 0 3 0)] (ob30 p1 v12 p3 p4 v13 v14 o1 o2 o3 o4 ((l6.getD ((0 : Int).toNat) (Tree.node 0 0 [])).op) ((l6.getD ((0 : Int).toNat) (Tree.node 0 0 [])).set) ((l6.getD ((0 : Int).toNat) (Tree.node 0 0 [])).kids)) 6 5 (by kernel_rfl) (by kernel_rfl) (by kernel_rfl)
      replace h := h_else hb64 h
      refine W_skip_to ?_
      refine to_block ?_
      refine to_then ?_
      refine W_rs tbok ⟨[], []⟩ [] [0, 1, 2, 3, 4, 5, 6] [(2, .adr 5 0 3 0)] (ob29 p1 v12 p3 p4 v13 v14 o1 o2 o3 o4 (2 : Int) (0 : Int) l6) 7 5 (Ts 3 []) (by kernel_rfl) (tr 3 tt) ?_
      refine W_ret ?_
      obtain rfl := sI h
      exact RetO_intro [some (.tree .u8 .u32)] [] [0, 1, 2, 3, 4, 5, 6] [(2, .adr 5 0 3 0)] (ob29 p1 v12 p3 p4 v13 v14 o1 o2 o3 o4 (2 : Int) (0 : Int) l6) 7 5 (by kernel_rfl) (by kernel_rfl) (by kernel_rfl)
    obtain rfl := hq
    refine blockQ_pan ?_
    refine thenQ_pan ?_
    obtain rfl := sI h
    exact rfl
  refine W_die tbok ⟨[], [(1, ⟨.unk, [false], true, [true], [0, 1, 2, 3, 4], [], some (faultV 40 .i64 .i64 (e33, e34))⟩)]⟩ 1 (faultV 40 .i64 .i64 (e33, e34)) [] [0, 1, 2, 3, 4] [] [] 5 5 [True, Dies Try.prog 33 [.adr 0 0 10 0] (ob21 p1 p2 p3 p4 p5 p6 o1 o2 o3 o4) (faultV 40 .i64 .i64 (e33, e34))] (by kernel_rfl) (by kernel_rfl) ⟨tt, (pq_here_v2_ok p1 p2 p3 p4 p5 p6 o1 o2 o3 o4 _ q25), tt⟩ (fun σ1 hle => ?_)
  refine thenQ_pan ?_
  refine thenQ_pan ?_
  obtain rfl := sI h
  exact rfl
end
end Go.Proofs.Ytjfjigknkhgkdaa.T
