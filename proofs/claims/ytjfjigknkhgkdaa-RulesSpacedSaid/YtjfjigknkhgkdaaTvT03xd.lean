/- Functions of the program as functions on data, and that the program's own come to them. -/
import Derived.Test.YtjfjigknkhgkdaaTvT03x0
namespace Go.Proofs.Ytjfjigknkhgkdaa.T
open Go Go.Tv Go.Proofs
noncomputable section
set_option maxRecDepth 100000
set_option maxHeartbeats 4000000
def hq_Plan_Count (p1 p2 p3 : Int) (p4 : List Int) (p5 : List (Int × (List Int) × List Int)) : Option (Int) :=
  (if ¬ (6 : Int) = 0 then some (IntKind.i64.wrap ((1 : Int) + (IntKind.i64.wrap (Int.tmod p1 (6 : Int))))) else none)
theorem hq_Plan_Count_ok (β3 β4 : Bool) (p1 p2 p3 : Int) (p4 : List Int) (p5 : List (Int × (List Int) × List Int)) (res : Int) (h : hq_Plan_Count p1 p2 p3 p4 p5 = some res) :
    Pure Try.prog 15 [.agg [.u8 p1, .u8 p2, .u8 p3, .p β3 (.slice (.int .u8)) p4, .p β4 (.slice (.prod (.int .u8) Y6)) p5]] (wrapR (encs false [⟨(.int .i64), res⟩])) := by
  refine Pure.of_body tbok Try.func15 (by kernel_rfl) rfl (nl rfl) (fun Bw w0 => ?_) rfl
  unfold hq_Plan_Count at h
  refine W_rs tbok ⟨[], []⟩ [] [0] [(1, .adr 0 0 5 0)] (ob82 p1 p2 p3 β3 p4 β4 p5) 1 0 [True, True] (by kernel_rfl) ⟨tt, tt, tt⟩ ?_
  refine W_seq ?_
  obtain ⟨c2, h⟩ := h_guard h
  refine W_r tbok ⟨[], []⟩ [] [] [(2, .i64 (IntKind.i64.wrap ((1 : Int) + (IntKind.i64.wrap (Int.tmod p1 (6 : Int))))))] [] 0 0 (True :: True :: (¬ (6 : Int) = 0) :: (Ts 3 [])) (by kernel_rfl) ⟨tt, tt, c2, (tr 3 tt)⟩ ?_
  refine to_then ?_
  refine W_ret ?_
  obtain rfl := sI h
  exact Ret_intro [(.int .i64)] (by kernel_rfl)
def hq_name (n1 i1 : Int) : Option (List UInt8) :=
  (if ¬ n1 = 0 then some (bytesOf ([(IntKind.u8.wrap (IntKind.i64.wrap ((65 : Int) + (Int.tmod i1 n1))))] : List Int)) else none)
theorem hq_name_ok (n1 i1 : Int) (res : List UInt8) (h : hq_name n1 i1 = some res) :
    Pure Try.prog 19 [.i64 n1, .i64 i1] (wrapR (encs false [⟨.str, res⟩])) := by
  refine Pure.of_body tbok Try.func19 (by kernel_rfl) rfl (nl rfl) (fun Bw w0 => ?_) rfl
  unfold hq_name at h
  refine W_rs tbok ⟨[], []⟩ [] [] [(0, .i64 n1), (1, .i64 i1)] [] 0 0 [True] (by kernel_rfl) ⟨tt, tt⟩ ?_
  refine W_seq ?_
  obtain ⟨c2, h⟩ := h_guard h
  refine W_r tbok ⟨[], []⟩ [] [] [(4, .st (bytesOf ([(IntKind.u8.wrap (IntKind.i64.wrap ((65 : Int) + (Int.tmod i1 n1))))] : List Int)))] [] 0 0 (True :: True :: (¬ n1 = 0) :: (Ts 5 [])) (by kernel_rfl) ⟨tt, tt, c2, (tr 5 tt)⟩ ?_
  refine to_then ?_
  refine W_ret ?_
  obtain rfl := sI h
  exact Ret_intro [.str] (by kernel_rfl)
def hq_names_L1 (n1 bits1 : Int) : ((List UInt8) × Int) → Option (((List UInt8) × Int) ⊕ (List UInt8)) := fun ((out4, i2) : (List UInt8) × Int) =>
  (if (decide (i2 < n1)) = true then (if 0 ≤ i2 then (if ¬ (2 : Int) = 0 then (((if ((Int.tmod (Int.fdiv bits1 (2 ^ (min i2.toNat IntKind.u8.bits))) (2 : Int)) == (1 : Int)) = true then (if out4.length + ([32] : List UInt8).length ≤ 9223372036854775807 then ((hq_name n1 i2).bind fun (r12 : List UInt8) =>
  (if (out4 ++ ([32] : List UInt8)).length + r12.length ≤ 9223372036854775807 then some (((out4 ++ ([32] : List UInt8)) ++ r12)) else none)) else none)
  else some (out4))).bind fun (out6 : List UInt8) => some (Sum.inl (out6, (IntKind.i64.wrap (i2 + (1 : Int)))))) else none) else none)
  else some (Sum.inr out4))
def hq_names (n1 bits1 : Int) : Option (List UInt8) :=
  ((iter (hq_names_L1 n1 bits1) (([] : List UInt8), (0 : Int))).bind fun (out5 : List UInt8) => some out5)
theorem hq_names_ok (n1 bits1 : Int) (res : List UInt8) (h : hq_names n1 bits1 = some res) :
    Pure Try.prog 18 [.i64 n1, .u8 bits1] (wrapR (encs false [⟨.str, res⟩])) := by
  refine Pure.of_body tbok Try.func18 (by kernel_rfl) rfl (nl rfl) (fun Bw w0 => ?_) rfl
  unfold hq_names at h
  refine W_rs tbok ⟨[], []⟩ [] [] [(0, .i64 n1), (1, .u8 bits1)] [] 0 0 [True] (by kernel_rfl) ⟨tt, tt⟩ ?_
  refine W_rs tbok ⟨[], []⟩ [] [] [(0, .i64 n1), (1, .u8 bits1), (5, .st ([] : List UInt8))] [] 0 0 [True] (by kernel_rfl) ⟨tt, tt⟩ ?_
  refine W_seq ?_
  refine W_rs tbok ⟨[], []⟩ [] [] [(0, .i64 n1), (1, .u8 bits1), (5, .st ([] : List UInt8)), (6, .i64 (0 : Int))] [] 0 0 [True] (by kernel_rfl) ⟨tt, tt⟩ ?_
  refine W_block ?_
  obtain ⟨out5, hp4, h⟩ := h_bind h
  refine W.mono (Q := (postX Try.f18.ntmps 0 (fun (out5 : List UInt8) => mkSt [(5, .st out5)] [] 0)) out5) (W_iter (f := fun ((out4, i2) : (List UInt8) × Int) => mkSt [(0, .i64 n1), (1, .u8 bits1), (5, .st out4), (6, .i64 i2)] [] 0) (Q := (postX Try.f18.ntmps 0 (fun (out5 : List UInt8) => mkSt [(5, .st out5)] [] 0))) hp4 (gl [] [] (by kernel_rfl)) (fun y o ho => ?_)) (fun e σ' hq => ?_)
  · obtain ⟨out4, i2⟩ := y
    replace h := ho
    clear ho hp4
    unfold hq_names_L1 at h
    refine W_seq ?_
    refine W_rs tbok ⟨[], []⟩ [] [] [(0, .i64 n1), (1, .u8 bits1), (5, .st out4), (6, .i64 i2), (9, .bo (decide (i2 < n1)))] [] 0 0 (Ts 3 []) (by kernel_rfl) (tr 3 tt) ?_
    refine W_cond (b := (decide (i2 < n1))) (β := false) (by kernel_rfl) (fun hb7 => ?_) (fun hb7 => ?_)
    · replace h := h_if hb7 h
      refine W_skip_to ?_
      refine to_then ?_
      refine W_seq ?_
      refine W_block ?_
      refine W_seq ?_
      obtain ⟨c27, h⟩ := h_guard h
      obtain ⟨c28, h⟩ := h_guard h
      refine W_r tbok ⟨[], []⟩ [] [] [(0, .i64 n1), (1, .u8 bits1), (5, .st out4), (6, .i64 i2), (16, .bo ((Int.tmod (Int.fdiv bits1 (2 ^ (min i2.toNat IntKind.u8.bits))) (2 : Int)) == (1 : Int)))] [] 0 0 [True, True, 0 ≤ i2, ¬ (2 : Int) = 0, True] (by kernel_rfl) ⟨tt, tt, c27, c28, tt, tt⟩ ?_
      refine to_then ?_
      obtain ⟨out6, hp3, h⟩ := h_bind h
      refine W.mono (Q := (postN Try.f18.ntmps (fun (out6 : List UInt8) => mkSt [(0, .i64 n1), (1, .u8 bits1), (5, .st out6), (6, .i64 i2)] [] 0)) out6) ?_ (fun e σ' hq => ?_)
      · replace h := hp3
        clear hp3
        refine W_cond (b := ((Int.tmod (Int.fdiv bits1 (2 ^ (min i2.toNat IntKind.u8.bits))) (2 : Int)) == (1 : Int))) (β := false) (by kernel_rfl) (fun hb9 => ?_) (fun hb9 => ?_)
        · replace h := h_if hb9 h
          obtain ⟨c35, h⟩ := h_guard h
          obtain ⟨r12, q12, h⟩ := h_bind h
          obtain ⟨c36, h⟩ := h_guard h
          have u_1 := (hq_name_ok n1 i2 _ q12)
          refine W_r tbok ⟨[], [(4, ⟨.st r12, [false, false], false, [true, true], [], [], none⟩)]⟩ [] [] [(0, .i64 n1), (1, .u8 bits1), (5, .st ((out4 ++ ([32] : List UInt8)) ++ r12)), (6, .i64 i2)] [] 0 0 [True, out4.length + ([32] : List UInt8).length ≤ 9223372036854775807, True, True, pO u_1, (out4 ++ ([32] : List UInt8)).length + r12.length ≤ 9223372036854775807, True] (by kernel_rfl) ⟨tt, c35, tt, tt, u_1, c36, tt, tt⟩ ?_
          obtain rfl := sI h
          exact postN_to (gl [] [] (by kernel_rfl))
        replace h := h_else hb9 h
        refine W_skip_to ?_
        obtain rfl := sI h
        exact postN_to (gl [] [] (by kernel_rfl))
      clear hp3
      obtain ⟨rfl, hle⟩ := hq
      refine use_to ?_ hle
      refine to_block ?_
      refine to_then ?_
      refine W_r tbok ⟨[], []⟩ [] [] [(0, .i64 n1), (1, .u8 bits1), (5, .st out6), (6, .i64 (IntKind.i64.wrap (i2 + (1 : Int))))] [] 0 0 (Ts 3 []) (by kernel_rfl) (tr 3 tt) ?_
      obtain rfl := sI h
      exact roundB (gl [] [] (by kernel_rfl))
    replace h := h_else hb7 h
    refine W_exit_to ?_
    refine thenE ?_
    obtain rfl := sI h
    refine roundE ?_
    exact postX_to (gl [] [] (by kernel_rfl))
  clear hp4
  obtain ⟨rfl, hle⟩ := hq
  refine use_to ?_ hle
  refine blockE_eq ?_
  refine to_then ?_
  refine W_rs tbok ⟨[], []⟩ [] [] [(4, .st out5)] [] 0 0 [True, True] (by kernel_rfl) ⟨tt, tt, tt⟩ ?_
  refine W_ret ?_
  obtain rfl := sI h
  exact Ret_intro [.str] (by kernel_rfl)
def hq_reader_next_v2 (r1 : List Int) (r2 : Int) : Option (Int × Int) :=
  (if (decide (r2 ≥ (r1.length : Int))) = true then some ((0 : Int), r2)
  else (if 0 ≤ (IntKind.i64.wrap ((IntKind.i64.wrap (r2 + (1 : Int))) - (1 : Int))) ∧ (IntKind.i64.wrap ((IntKind.i64.wrap (r2 + (1 : Int))) - (1 : Int))) < (r1.length : Int) then some ((IntKind.i64.wrap (r1.getD ((IntKind.i64.wrap ((IntKind.i64.wrap (r2 + (1 : Int))) - (1 : Int))).toNat) (0 : Int))), (IntKind.i64.wrap (r2 + (1 : Int)))) else none))
theorem hq_reader_next_v2_ok (r1 : List Int) (r2 : Int) (res : Int × Int) (h : hq_reader_next_v2 r1 r2 = some res) :
    Owns Try.prog 46 [.adr 0 0 2 0] [(0, .box [.p false (.slice (.int .u8)) r1, .i64 r2])] (.i64 res.1) [(0, .box [.p false (.slice (.int .u8)) r1, .i64 res.2])] := by
  refine Owns.of_body tbok Try.func46 (by kernel_rfl) rfl (nl rfl) (fun Bw w0 => ?_)
  unfold hq_reader_next_v2 at h
  refine W_rs tbok ⟨[], []⟩ [] [0] [(0, .adr 0 0 2 0)] [(0, .box [.p false (.slice (.int .u8)) r1, .i64 r2])] 1 1 [True] (by kernel_rfl) ⟨tt, tt⟩ ?_
  refine W_seq ?_
  refine W_rd tbok mixed ⟨[], []⟩ [] [0] [(0, .adr 0 0 2 0), (12, .bo (decide (r2 ≥ (r1.length : Int))))] [(0, .box [.p false (.slice (.int .u8)) r1, .i64 r2])] 1 1 (Ts 10 []) (by kernel_rfl) (tr 10 tt) ?_
  refine W_cond (b := (decide (r2 ≥ (r1.length : Int)))) (β := false) (by kernel_rfl) (fun hb2 => ?_) (fun hb2 => ?_)
  · replace h := h_if hb2 h
    refine W_rs tbok ⟨[], []⟩ [] [0] [(2, .i64 (0 : Int))] [(0, .box [.p false (.slice (.int .u8)) r1, .i64 r2])] 1 1 [True] (by kernel_rfl) ⟨tt, tt⟩ ?_
    refine W_ret ?_
    refine thenQ_ret ?_
    obtain rfl := sI h
    exact RetO_intro [some (.int .i64)] [] [0] [(2, .i64 (0 : Int))] [(0, .box [.p false (.slice (.int .u8)) r1, .i64 r2])] 1 1 (by kernel_rfl) (by kernel_rfl) (by kernel_rfl)
  replace h := h_else hb2 h
  refine W_skip_to ?_
  refine to_then ?_
  refine W_rs tbok ⟨[], []⟩ [] [0] [(0, .adr 0 0 2 0)] [(0, .box [.p false (.slice (.int .u8)) r1, .i64 (IntKind.i64.wrap (r2 + (1 : Int)))])] 1 1 (Ts 9 []) (by kernel_rfl) (tr 9 tt) ?_
  refine W_seq ?_
  obtain ⟨c4, h⟩ := h_guard h
  refine W_regD tbok mixed ⟨[], []⟩ [] [0] [(2, .i64 (IntKind.i64.wrap (r1.getD ((IntKind.i64.wrap ((IntKind.i64.wrap (r2 + (1 : Int))) - (1 : Int))).toNat) (0 : Int))))] [(0, .box [.p false (.slice (.int .u8)) r1, .i64 (IntKind.i64.wrap (r2 + (1 : Int)))])] 1 1 (Ts 9 ((0 ≤ (IntKind.i64.wrap ((IntKind.i64.wrap (r2 + (1 : Int))) - (1 : Int))) ∧ (IntKind.i64.wrap ((IntKind.i64.wrap (r2 + (1 : Int))) - (1 : Int))) < (r1.length : Int)) :: (Ts 3 []))) (by kernel_rfl) (by kernel_rfl) (tr 9 ⟨c4, (tr 3 tt)⟩) ?_
  refine to_then ?_
  refine W_ret ?_
  obtain rfl := sI h
  exact RetO_intro [some (.int .i64)] [] [0] [(2, .i64 (IntKind.i64.wrap (r1.getD ((IntKind.i64.wrap ((IntKind.i64.wrap (r2 + (1 : Int))) - (1 : Int))).toNat) (0 : Int))))] [(0, .box [.p false (.slice (.int .u8)) r1, .i64 (IntKind.i64.wrap (r2 + (1 : Int)))])] 1 1 (by kernel_rfl) (by kernel_rfl) (by kernel_rfl)
def hq_expr_v1_F (rec_hq_expr_v1 : Int → Int → (List Int) → Int → Option ((List UInt8) × Int)) (d1 x1 : Int) (i1 : List Int) (i2 : Int) : Option ((List UInt8) × Int) :=
  ((hq_reader_next_v2 i1 i2).bind fun ((r73, r74) : Int × Int) =>
  (if (decide (x1 ≤ (0 : Int))) = true then ((hq_name d1 r73).bind fun (r76 : List UInt8) =>
  some (r76, r74))
  else (if ¬ (12 : Int) = 0 then (if ((Int.tmod r73 (12 : Int)) == (4 : Int)) = true then some (([46] : List UInt8), r74)
  else (if ((Int.tmod r73 (12 : Int)) == (5 : Int)) = true then ((hq_reader_next_v2 i1 r74).bind fun ((r79, r80) : Int × Int) =>
  ((hq_names d1 (IntKind.u8.wrap r79)).bind fun (r82 : List UInt8) =>
  (if ([91] : List UInt8).length + r82.length ≤ 9223372036854775807 then (if (([91] : List UInt8) ++ r82).length + ([93] : List UInt8).length ≤ 9223372036854775807 then some (((([91] : List UInt8) ++ r82) ++ ([93] : List UInt8)), r80) else none) else none)))
  else (if ((Int.tmod r73 (12 : Int)) == (6 : Int)) = true then ((hq_reader_next_v2 i1 r74).bind fun ((r85, r86) : Int × Int) =>
  ((hq_names d1 (IntKind.u8.wrap r85)).bind fun (r88 : List UInt8) =>
  (if ([91, 94] : List UInt8).length + r88.length ≤ 9223372036854775807 then (if (([91, 94] : List UInt8) ++ r88).length + ([93] : List UInt8).length ≤ 9223372036854775807 then some (((([91, 94] : List UInt8) ++ r88) ++ ([93] : List UInt8)), r86) else none) else none)))
  else (if ((Int.tmod r73 (12 : Int)) == (7 : Int)) = true then ((rec_hq_expr_v1 d1 (IntKind.i64.wrap (x1 - (1 : Int))) i1 r74).bind fun ((r91, r92) : (List UInt8) × Int) =>
  (if ([40] : List UInt8).length + r91.length ≤ 9223372036854775807 then (if (([40] : List UInt8) ++ r91).length + ([41, 42] : List UInt8).length ≤ 9223372036854775807 then some (((([40] : List UInt8) ++ r91) ++ ([41, 42] : List UInt8)), r92) else none) else none))
  else (if ((Int.tmod r73 (12 : Int)) == (8 : Int)) = true then ((rec_hq_expr_v1 d1 (IntKind.i64.wrap (x1 - (1 : Int))) i1 r74).bind fun ((r95, r96) : (List UInt8) × Int) =>
  (if ([40] : List UInt8).length + r95.length ≤ 9223372036854775807 then (if (([40] : List UInt8) ++ r95).length + ([41, 43] : List UInt8).length ≤ 9223372036854775807 then some (((([40] : List UInt8) ++ r95) ++ ([41, 43] : List UInt8)), r96) else none) else none))
  else (if ((Int.tmod r73 (12 : Int)) == (9 : Int)) = true then ((rec_hq_expr_v1 d1 (IntKind.i64.wrap (x1 - (1 : Int))) i1 r74).bind fun ((r99, r100) : (List UInt8) × Int) =>
  (if ([40] : List UInt8).length + r99.length ≤ 9223372036854775807 then (if (([40] : List UInt8) ++ r99).length + ([41, 63] : List UInt8).length ≤ 9223372036854775807 then some (((([40] : List UInt8) ++ r99) ++ ([41, 63] : List UInt8)), r100) else none) else none))
  else (if ((Int.tmod r73 (12 : Int)) == (10 : Int)) = true then ((rec_hq_expr_v1 d1 (IntKind.i64.wrap (x1 - (1 : Int))) i1 r74).bind fun ((r103, r104) : (List UInt8) × Int) =>
  ((rec_hq_expr_v1 d1 (IntKind.i64.wrap (x1 - (1 : Int))) i1 r104).bind fun ((r107, r108) : (List UInt8) × Int) =>
  (if ([40] : List UInt8).length + r103.length ≤ 9223372036854775807 then (if (([40] : List UInt8) ++ r103).length + ([124] : List UInt8).length ≤ 9223372036854775807 then (if ((([40] : List UInt8) ++ r103) ++ ([124] : List UInt8)).length + r107.length ≤ 9223372036854775807 then (if (((([40] : List UInt8) ++ r103) ++ ([124] : List UInt8)) ++ r107).length + ([41] : List UInt8).length ≤ 9223372036854775807 then some (((((([40] : List UInt8) ++ r103) ++ ([124] : List UInt8)) ++ r107) ++ ([41] : List UInt8)), r108) else none) else none) else none) else none)))
  else (if ((Int.tmod r73 (12 : Int)) == (11 : Int)) = true then ((rec_hq_expr_v1 d1 (IntKind.i64.wrap (x1 - (1 : Int))) i1 r74).bind fun ((r111, r112) : (List UInt8) × Int) =>
  ((rec_hq_expr_v1 d1 (IntKind.i64.wrap (x1 - (1 : Int))) i1 r112).bind fun ((r115, r116) : (List UInt8) × Int) =>
  (if r111.length + ([32] : List UInt8).length ≤ 9223372036854775807 then (if (r111 ++ ([32] : List UInt8)).length + r115.length ≤ 9223372036854775807 then some (((r111 ++ ([32] : List UInt8)) ++ r115), r116) else none) else none)))
  else ((hq_name d1 r73).bind fun (r118 : List UInt8) =>
  some (r118, r74)))))))))) else none)))
def hq_expr_v1 : Nat → Int → Int → (List Int) → Int → Option ((List UInt8) × Int)
  | 0 => fun _ _ _ _ => none
  | n + 1 => hq_expr_v1_F (hq_expr_v1 n)
theorem hq_expr_v1_F_ok (rec_hq_expr_v1 : Int → Int → (List Int) → Int → Option ((List UInt8) × Int)) (hrec_hq_expr_v1 : ∀ (d1 x1 : Int) (i1 : List Int) (i2 : Int) (res : (List UInt8) × Int), rec_hq_expr_v1 d1 x1 i1 i2 = some res → Owns Try.prog 28 [.i64 d1, .adr 0 0 2 0, .i64 x1] [(0, .box [.p false (.slice (.int .u8)) i1, .i64 i2])] (.st res.1) [(0, .box [.p false (.slice (.int .u8)) i1, .i64 res.2])]) (d1 x1 : Int) (i1 : List Int) (i2 : Int) (res : (List UInt8) × Int) (h : hq_expr_v1_F rec_hq_expr_v1 d1 x1 i1 i2 = some res) :
    Owns Try.prog 28 [.i64 d1, .adr 0 0 2 0, .i64 x1] [(0, .box [.p false (.slice (.int .u8)) i1, .i64 i2])] (.st res.1) [(0, .box [.p false (.slice (.int .u8)) i1, .i64 res.2])] := by
  refine Owns.of_body tbok Try.func28 (by kernel_rfl) rfl (nl rfl) (fun Bw w0 => ?_)
  unfold hq_expr_v1_F at h
  refine W_rs tbok ⟨[], []⟩ [] [0] [(0, .i64 d1), (1, .adr 0 0 2 0), (2, .i64 x1)] [(0, .box [.p false (.slice (.int .u8)) i1, .i64 i2])] 1 1 [True] (by kernel_rfl) ⟨tt, tt⟩ ?_
  obtain ⟨⟨r73, r74⟩, q44, h⟩ := h_bind h
  have u_1 := (hq_reader_next_v2_ok i1 i2 _ q44)
  refine W_rs tbok ⟨[], [(1, ⟨.i64 r73, [false], true, [true], [0], [(0, .box [.p false (.slice (.int .u8)) i1, .i64 r74])], none⟩)]⟩ [] [0] [(0, .i64 d1), (1, .adr 0 0 2 0), (2, .i64 x1), (7, .i64 r73)] [(0, .box [.p false (.slice (.int .u8)) i1, .i64 r74])] 1 1 [True, pO u_1, True] (by kernel_rfl) ⟨tt, u_1, tt, tt⟩ ?_
  refine W_seq ?_
  refine W_rs tbok ⟨[], []⟩ [] [0] [(0, .i64 d1), (1, .adr 0 0 2 0), (2, .i64 x1), (7, .i64 r73), (20, .bo (decide (x1 ≤ (0 : Int))))] [(0, .box [.p false (.slice (.int .u8)) i1, .i64 r74])] 1 1 [True, True] (by kernel_rfl) ⟨tt, tt, tt⟩ ?_
  refine W_cond (b := (decide (x1 ≤ (0 : Int)))) (β := false) (by kernel_rfl) (fun hb19 => ?_) (fun hb19 => ?_)
  · replace h := h_if hb19 h
    obtain ⟨r76, q46, h⟩ := h_bind h
    have u_1 := (hq_name_ok d1 r73 _ q46)
    refine W_rs tbok ⟨[], [(2, ⟨.st r76, [false, false], false, [true, true], [], [], none⟩)]⟩ [] [0] [(6, .st r76)] [(0, .box [.p false (.slice (.int .u8)) i1, .i64 r74])] 1 1 [True, True, pO u_1, True] (by kernel_rfl) ⟨tt, tt, u_1, tt, tt⟩ ?_
    refine W_ret ?_
    refine thenQ_ret ?_
    obtain rfl := sI h
    exact RetO_intro [some .str] [] [0] [(6, .st r76)] [(0, .box [.p false (.slice (.int .u8)) i1, .i64 r74])] 1 1 (by kernel_rfl) (by kernel_rfl) (by kernel_rfl)
  replace h := h_else hb19 h
  refine W_skip_to ?_
  refine to_then ?_
  refine W_seq ?_
  refine W_seq ?_
  obtain ⟨c46, h⟩ := h_guard h
  refine W_r tbok ⟨[], []⟩ [] [0] [(0, .i64 d1), (1, .adr 0 0 2 0), (2, .i64 x1), (7, .i64 r73), (25, .i64 (Int.tmod r73 (12 : Int)))] [(0, .box [.p false (.slice (.int .u8)) i1, .i64 r74])] 1 1 [True, ¬ (12 : Int) = 0] (by kernel_rfl) ⟨tt, c46, tt⟩ ?_
  refine to_then ?_
  refine W_block ?_
  refine W_rs tbok ⟨[], []⟩ [] [0] [(0, .i64 d1), (1, .adr 0 0 2 0), (2, .i64 x1), (7, .i64 r73), (25, .i64 (Int.tmod r73 (12 : Int))), (26, .bo ((Int.tmod r73 (12 : Int)) == (4 : Int)))] [(0, .box [.p false (.slice (.int .u8)) i1, .i64 r74])] 1 1 [True, True] (by kernel_rfl) ⟨tt, tt, tt⟩ ?_
  refine W_cond (b := ((Int.tmod r73 (12 : Int)) == (4 : Int))) (β := false) (by kernel_rfl) (fun hb20 => ?_) (fun hb20 => ?_)
  · replace h := h_if hb20 h
    refine W_rs tbok ⟨[], []⟩ [] [0] [(6, .st ([46] : List UInt8))] [(0, .box [.p false (.slice (.int .u8)) i1, .i64 r74])] 1 1 [True] (by kernel_rfl) ⟨tt, tt⟩ ?_
    refine W_ret ?_
    refine blockQ_ret ?_
    refine thenQ_ret ?_
    obtain rfl := sI h
    exact RetO_intro [some .str] [] [0] [(6, .st ([46] : List UInt8))] [(0, .box [.p false (.slice (.int .u8)) i1, .i64 r74])] 1 1 (by kernel_rfl) (by kernel_rfl) (by kernel_rfl)
  replace h := h_else hb20 h
  refine W_rs tbok ⟨[], []⟩ [] [0] [(0, .i64 d1), (1, .adr 0 0 2 0), (2, .i64 x1), (7, .i64 r73), (25, .i64 (Int.tmod r73 (12 : Int))), (28, .bo ((Int.tmod r73 (12 : Int)) == (5 : Int)))] [(0, .box [.p false (.slice (.int .u8)) i1, .i64 r74])] 1 1 [True, True] (by kernel_rfl) ⟨tt, tt, tt⟩ ?_
  refine W_cond (b := ((Int.tmod r73 (12 : Int)) == (5 : Int))) (β := false) (by kernel_rfl) (fun hb21 => ?_) (fun hb21 => ?_)
  · replace h := h_if hb21 h
    obtain ⟨⟨r79, r80⟩, q48, h⟩ := h_bind h
    have u_1 := (hq_reader_next_v2_ok i1 r74 _ q48)
    refine W_rs tbok ⟨[], [(1, ⟨.i64 r79, [false], true, [true], [0], [(0, .box [.p false (.slice (.int .u8)) i1, .i64 r80])], none⟩)]⟩ [] [0] [(0, .i64 d1), (8, .i64 r79)] [(0, .box [.p false (.slice (.int .u8)) i1, .i64 r80])] 1 1 [True, pO u_1, True] (by kernel_rfl) ⟨tt, u_1, tt, tt⟩ ?_
    refine W_seq ?_
    obtain ⟨r82, q50, h⟩ := h_bind h
    obtain ⟨c49, h⟩ := h_guard h
    obtain ⟨c50, h⟩ := h_guard h
    have u_1 := (hq_names_ok d1 (IntKind.u8.wrap r79) _ q50)
    refine W_r tbok ⟨[], [(3, ⟨.st r82, [false, false], false, [true, true], [], [], none⟩)]⟩ [] [0] [(6, .st ((([91] : List UInt8) ++ r82) ++ ([93] : List UInt8)))] [(0, .box [.p false (.slice (.int .u8)) i1, .i64 r80])] 1 1 (Ts 3 [pO u_1, ([91] : List UInt8).length + r82.length ≤ 9223372036854775807, (([91] : List UInt8) ++ r82).length + ([93] : List UInt8).length ≤ 9223372036854775807, True]) (by kernel_rfl) (tr 3 ⟨u_1, c49, c50, tt, tt⟩) ?_
    refine to_then ?_
    refine W_ret ?_
    refine blockQ_ret ?_
    refine thenQ_ret ?_
    obtain rfl := sI h
    exact RetO_intro [some .str] [] [0] [(6, .st ((([91] : List UInt8) ++ r82) ++ ([93] : List UInt8)))] [(0, .box [.p false (.slice (.int .u8)) i1, .i64 r80])] 1 1 (by kernel_rfl) (by kernel_rfl) (by kernel_rfl)
  replace h := h_else hb21 h
  refine W_rs tbok ⟨[], []⟩ [] [0] [(0, .i64 d1), (1, .adr 0 0 2 0), (2, .i64 x1), (7, .i64 r73), (25, .i64 (Int.tmod r73 (12 : Int))), (38, .bo ((Int.tmod r73 (12 : Int)) == (6 : Int)))] [(0, .box [.p false (.slice (.int .u8)) i1, .i64 r74])] 1 1 [True, True] (by kernel_rfl) ⟨tt, tt, tt⟩ ?_
  refine W_cond (b := ((Int.tmod r73 (12 : Int)) == (6 : Int))) (β := false) (by kernel_rfl) (fun hb22 => ?_) (fun hb22 => ?_)
  · replace h := h_if hb22 h
    obtain ⟨⟨r85, r86⟩, q52, h⟩ := h_bind h
    have u_1 := (hq_reader_next_v2_ok i1 r74 _ q52)
    refine W_rs tbok ⟨[], [(1, ⟨.i64 r85, [false], true, [true], [0], [(0, .box [.p false (.slice (.int .u8)) i1, .i64 r86])], none⟩)]⟩ [] [0] [(0, .i64 d1), (9, .i64 r85)] [(0, .box [.p false (.slice (.int .u8)) i1, .i64 r86])] 1 1 [True, pO u_1, True] (by kernel_rfl) ⟨tt, u_1, tt, tt⟩ ?_
    refine W_seq ?_
    obtain ⟨r88, q54, h⟩ := h_bind h
    obtain ⟨c53, h⟩ := h_guard h
    obtain ⟨c54, h⟩ := h_guard h
    have u_1 := (hq_names_ok d1 (IntKind.u8.wrap r85) _ q54)
    refine W_r tbok ⟨[], [(3, ⟨.st r88, [false, false], false, [true, true], [], [], none⟩)]⟩ [] [0] [(6, .st ((([91, 94] : List UInt8) ++ r88) ++ ([93] : List UInt8)))] [(0, .box [.p false (.slice (.int .u8)) i1, .i64 r86])] 1 1 (Ts 3 [pO u_1, ([91, 94] : List UInt8).length + r88.length ≤ 9223372036854775807, (([91, 94] : List UInt8) ++ r88).length + ([93] : List UInt8).length ≤ 9223372036854775807, True]) (by kernel_rfl) (tr 3 ⟨u_1, c53, c54, tt, tt⟩) ?_
    refine to_then ?_
    refine W_ret ?_
    refine blockQ_ret ?_
    refine thenQ_ret ?_
    obtain rfl := sI h
    exact RetO_intro [some .str] [] [0] [(6, .st ((([91, 94] : List UInt8) ++ r88) ++ ([93] : List UInt8)))] [(0, .box [.p false (.slice (.int .u8)) i1, .i64 r86])] 1 1 (by kernel_rfl) (by kernel_rfl) (by kernel_rfl)
  replace h := h_else hb22 h
  refine W_rs tbok ⟨[], []⟩ [] [0] [(0, .i64 d1), (1, .adr 0 0 2 0), (2, .i64 x1), (7, .i64 r73), (25, .i64 (Int.tmod r73 (12 : Int))), (48, .bo ((Int.tmod r73 (12 : Int)) == (7 : Int)))] [(0, .box [.p false (.slice (.int .u8)) i1, .i64 r74])] 1 1 [True, True] (by kernel_rfl) ⟨tt, tt, tt⟩ ?_
  refine W_cond (b := ((Int.tmod r73 (12 : Int)) == (7 : Int))) (β := false) (by kernel_rfl) (fun hb23 => ?_) (fun hb23 => ?_)
  · replace h := h_if hb23 h
    obtain ⟨⟨r91, r92⟩, q56, h⟩ := h_bind h
    have u_1 := (hrec_hq_expr_v1 d1 (IntKind.i64.wrap (x1 - (1 : Int))) i1 r74 _ q56)
    refine W_rs tbok ⟨[], [(4, ⟨.st r91, [false, false, false], true, [true, true, true], [0], [(0, .box [.p false (.slice (.int .u8)) i1, .i64 r92])], none⟩)]⟩ [] [0] [(10, .st r91)] [(0, .box [.p false (.slice (.int .u8)) i1, .i64 r92])] 1 1 (Ts 4 [pO u_1, True]) (by kernel_rfl) (tr 4 ⟨u_1, tt, tt⟩) ?_
    refine W_seq ?_
    obtain ⟨c57, h⟩ := h_guard h
    obtain ⟨c58, h⟩ := h_guard h
    refine W_r tbok ⟨[], []⟩ [] [0] [(6, .st ((([40] : List UInt8) ++ r91) ++ ([41, 42] : List UInt8)))] [(0, .box [.p false (.slice (.int .u8)) i1, .i64 r92])] 1 1 [True, ([40] : List UInt8).length + r91.length ≤ 9223372036854775807, (([40] : List UInt8) ++ r91).length + ([41, 42] : List UInt8).length ≤ 9223372036854775807, True] (by kernel_rfl) ⟨tt, c57, c58, tt, tt⟩ ?_
    refine to_then ?_
    refine W_ret ?_
    refine blockQ_ret ?_
    refine thenQ_ret ?_
    obtain rfl := sI h
    exact RetO_intro [some .str] [] [0] [(6, .st ((([40] : List UInt8) ++ r91) ++ ([41, 42] : List UInt8)))] [(0, .box [.p false (.slice (.int .u8)) i1, .i64 r92])] 1 1 (by kernel_rfl) (by kernel_rfl) (by kernel_rfl)
  replace h := h_else hb23 h
  refine W_rs tbok ⟨[], []⟩ [] [0] [(0, .i64 d1), (1, .adr 0 0 2 0), (2, .i64 x1), (7, .i64 r73), (25, .i64 (Int.tmod r73 (12 : Int))), (58, .bo ((Int.tmod r73 (12 : Int)) == (8 : Int)))] [(0, .box [.p false (.slice (.int .u8)) i1, .i64 r74])] 1 1 [True, True] (by kernel_rfl) ⟨tt, tt, tt⟩ ?_
  refine W_cond (b := ((Int.tmod r73 (12 : Int)) == (8 : Int))) (β := false) (by kernel_rfl) (fun hb24 => ?_) (fun hb24 => ?_)
  · replace h := h_if hb24 h
    obtain ⟨⟨r95, r96⟩, q58, h⟩ := h_bind h
    have u_1 := (hrec_hq_expr_v1 d1 (IntKind.i64.wrap (x1 - (1 : Int))) i1 r74 _ q58)
    refine W_rs tbok ⟨[], [(4, ⟨.st r95, [false, false, false], true, [true, true, true], [0], [(0, .box [.p false (.slice (.int .u8)) i1, .i64 r96])], none⟩)]⟩ [] [0] [(11, .st r95)] [(0, .box [.p false (.slice (.int .u8)) i1, .i64 r96])] 1 1 (Ts 4 [pO u_1, True]) (by kernel_rfl) (tr 4 ⟨u_1, tt, tt⟩) ?_
    refine W_seq ?_
    obtain ⟨c61, h⟩ := h_guard h
    obtain ⟨c62, h⟩ := h_guard h
    refine W_r tbok ⟨[], []⟩ [] [0] [(6, .st ((([40] : List UInt8) ++ r95) ++ ([41, 43] : List UInt8)))] [(0, .box [.p false (.slice (.int .u8)) i1, .i64 r96])] 1 1 [True, ([40] : List UInt8).length + r95.length ≤ 9223372036854775807, (([40] : List UInt8) ++ r95).length + ([41, 43] : List UInt8).length ≤ 9223372036854775807, True] (by kernel_rfl) ⟨tt, c61, c62, tt, tt⟩ ?_
    refine to_then ?_
    refine W_ret ?_
    refine blockQ_ret ?_
    refine thenQ_ret ?_
    obtain rfl := sI h
    exact RetO_intro [some .str] [] [0] [(6, .st ((([40] : List UInt8) ++ r95) ++ ([41, 43] : List UInt8)))] [(0, .box [.p false (.slice (.int .u8)) i1, .i64 r96])] 1 1 (by kernel_rfl) (by kernel_rfl) (by kernel_rfl)
  replace h := h_else hb24 h
  refine W_rs tbok ⟨[], []⟩ [] [0] [(0, .i64 d1), (1, .adr 0 0 2 0), (2, .i64 x1), (7, .i64 r73), (25, .i64 (Int.tmod r73 (12 : Int))), (68, .bo ((Int.tmod r73 (12 : Int)) == (9 : Int)))] [(0, .box [.p false (.slice (.int .u8)) i1, .i64 r74])] 1 1 [True, True] (by kernel_rfl) ⟨tt, tt, tt⟩ ?_
  refine W_cond (b := ((Int.tmod r73 (12 : Int)) == (9 : Int))) (β := false) (by kernel_rfl) (fun hb25 => ?_) (fun hb25 => ?_)
  · replace h := h_if hb25 h
    obtain ⟨⟨r99, r100⟩, q60, h⟩ := h_bind h
    have u_1 := (hrec_hq_expr_v1 d1 (IntKind.i64.wrap (x1 - (1 : Int))) i1 r74 _ q60)
    refine W_rs tbok ⟨[], [(4, ⟨.st r99, [false, false, false], true, [true, true, true], [0], [(0, .box [.p false (.slice (.int .u8)) i1, .i64 r100])], none⟩)]⟩ [] [0] [(12, .st r99)] [(0, .box [.p false (.slice (.int .u8)) i1, .i64 r100])] 1 1 (Ts 4 [pO u_1, True]) (by kernel_rfl) (tr 4 ⟨u_1, tt, tt⟩) ?_
    refine W_seq ?_
    obtain ⟨c65, h⟩ := h_guard h
    obtain ⟨c66, h⟩ := h_guard h
    refine W_r tbok ⟨[], []⟩ [] [0] [(6, .st ((([40] : List UInt8) ++ r99) ++ ([41, 63] : List UInt8)))] [(0, .box [.p false (.slice (.int .u8)) i1, .i64 r100])] 1 1 [True, ([40] : List UInt8).length + r99.length ≤ 9223372036854775807, (([40] : List UInt8) ++ r99).length + ([41, 63] : List UInt8).length ≤ 9223372036854775807, True] (by kernel_rfl) ⟨tt, c65, c66, tt, tt⟩ ?_
    refine to_then ?_
    refine W_ret ?_
    refine blockQ_ret ?_
    refine thenQ_ret ?_
    obtain rfl := sI h
    exact RetO_intro [some .str] [] [0] [(6, .st ((([40] : List UInt8) ++ r99) ++ ([41, 63] : List UInt8)))] [(0, .box [.p false (.slice (.int .u8)) i1, .i64 r100])] 1 1 (by kernel_rfl) (by kernel_rfl) (by kernel_rfl)
  replace h := h_else hb25 h
  refine W_rs tbok ⟨[], []⟩ [] [0] [(0, .i64 d1), (1, .adr 0 0 2 0), (2, .i64 x1), (7, .i64 r73), (25, .i64 (Int.tmod r73 (12 : Int))), (78, .bo ((Int.tmod r73 (12 : Int)) == (10 : Int)))] [(0, .box [.p false (.slice (.int .u8)) i1, .i64 r74])] 1 1 [True, True] (by kernel_rfl) ⟨tt, tt, tt⟩ ?_
  refine W_cond (b := ((Int.tmod r73 (12 : Int)) == (10 : Int))) (β := false) (by kernel_rfl) (fun hb26 => ?_) (fun hb26 => ?_)
  · replace h := h_if hb26 h
    obtain ⟨⟨r103, r104⟩, q62, h⟩ := h_bind h
    have u_1 := (hrec_hq_expr_v1 d1 (IntKind.i64.wrap (x1 - (1 : Int))) i1 r74 _ q62)
    refine W_rs tbok ⟨[], [(4, ⟨.st r103, [false, false, false], true, [true, true, true], [0], [(0, .box [.p false (.slice (.int .u8)) i1, .i64 r104])], none⟩)]⟩ [] [0] [(0, .i64 d1), (1, .adr 0 0 2 0), (2, .i64 x1), (13, .st r103)] [(0, .box [.p false (.slice (.int .u8)) i1, .i64 r104])] 1 1 (Ts 4 [pO u_1, True]) (by kernel_rfl) (tr 4 ⟨u_1, tt, tt⟩) ?_
    obtain ⟨⟨r107, r108⟩, q64, h⟩ := h_bind h
    have u_1 := (hrec_hq_expr_v1 d1 (IntKind.i64.wrap (x1 - (1 : Int))) i1 r104 _ q64)
    refine W_rs tbok ⟨[], [(4, ⟨.st r107, [false, false, false], true, [true, true, true], [0], [(0, .box [.p false (.slice (.int .u8)) i1, .i64 r108])], none⟩)]⟩ [] [0] [(13, .st r103), (14, .st r107)] [(0, .box [.p false (.slice (.int .u8)) i1, .i64 r108])] 1 1 (Ts 4 [pO u_1, True]) (by kernel_rfl) (tr 4 ⟨u_1, tt, tt⟩) ?_
    refine W_seq ?_
    obtain ⟨c71, h⟩ := h_guard h
    obtain ⟨c72, h⟩ := h_guard h
    obtain ⟨c73, h⟩ := h_guard h
    obtain ⟨c74, h⟩ := h_guard h
    refine W_r tbok ⟨[], []⟩ [] [0] [(6, .st ((((([40] : List UInt8) ++ r103) ++ ([124] : List UInt8)) ++ r107) ++ ([41] : List UInt8)))] [(0, .box [.p false (.slice (.int .u8)) i1, .i64 r108])] 1 1 [True, ([40] : List UInt8).length + r103.length ≤ 9223372036854775807, (([40] : List UInt8) ++ r103).length + ([124] : List UInt8).length ≤ 9223372036854775807, True, ((([40] : List UInt8) ++ r103) ++ ([124] : List UInt8)).length + r107.length ≤ 9223372036854775807, (((([40] : List UInt8) ++ r103) ++ ([124] : List UInt8)) ++ r107).length + ([41] : List UInt8).length ≤ 9223372036854775807, True] (by kernel_rfl) ⟨tt, c71, c72, tt, c73, c74, tt, tt⟩ ?_
    refine to_then ?_
    refine W_ret ?_
    refine blockQ_ret ?_
    refine thenQ_ret ?_
    obtain rfl := sI h
    exact RetO_intro [some .str] [] [0] [(6, .st ((((([40] : List UInt8) ++ r103) ++ ([124] : List UInt8)) ++ r107) ++ ([41] : List UInt8)))] [(0, .box [.p false (.slice (.int .u8)) i1, .i64 r108])] 1 1 (by kernel_rfl) (by kernel_rfl) (by kernel_rfl)
  replace h := h_else hb26 h
  refine W_rs tbok ⟨[], []⟩ [] [0] [(0, .i64 d1), (1, .adr 0 0 2 0), (2, .i64 x1), (7, .i64 r73), (96, .bo ((Int.tmod r73 (12 : Int)) == (11 : Int)))] [(0, .box [.p false (.slice (.int .u8)) i1, .i64 r74])] 1 1 [True, True] (by kernel_rfl) ⟨tt, tt, tt⟩ ?_
  refine W_cond (b := ((Int.tmod r73 (12 : Int)) == (11 : Int))) (β := false) (by kernel_rfl) (fun hb27 => ?_) (fun hb27 => ?_)
  · replace h := h_if hb27 h
    obtain ⟨⟨r111, r112⟩, q66, h⟩ := h_bind h
    have u_1 := (hrec_hq_expr_v1 d1 (IntKind.i64.wrap (x1 - (1 : Int))) i1 r74 _ q66)
    refine W_rs tbok ⟨[], [(4, ⟨.st r111, [false, false, false], true, [true, true, true], [0], [(0, .box [.p false (.slice (.int .u8)) i1, .i64 r112])], none⟩)]⟩ [] [0] [(0, .i64 d1), (1, .adr 0 0 2 0), (2, .i64 x1), (15, .st r111)] [(0, .box [.p false (.slice (.int .u8)) i1, .i64 r112])] 1 1 (Ts 4 [pO u_1, True]) (by kernel_rfl) (tr 4 ⟨u_1, tt, tt⟩) ?_
    obtain ⟨⟨r115, r116⟩, q68, h⟩ := h_bind h
    have u_1 := (hrec_hq_expr_v1 d1 (IntKind.i64.wrap (x1 - (1 : Int))) i1 r112 _ q68)
    refine W_rs tbok ⟨[], [(4, ⟨.st r115, [false, false, false], true, [true, true, true], [0], [(0, .box [.p false (.slice (.int .u8)) i1, .i64 r116])], none⟩)]⟩ [] [0] [(15, .st r111), (16, .st r115)] [(0, .box [.p false (.slice (.int .u8)) i1, .i64 r116])] 1 1 (Ts 4 [pO u_1, True]) (by kernel_rfl) (tr 4 ⟨u_1, tt, tt⟩) ?_
    refine W_seq ?_
    obtain ⟨c77, h⟩ := h_guard h
    obtain ⟨c78, h⟩ := h_guard h
    refine W_r tbok ⟨[], []⟩ [] [0] [(6, .st ((r111 ++ ([32] : List UInt8)) ++ r115))] [(0, .box [.p false (.slice (.int .u8)) i1, .i64 r116])] 1 1 [True, r111.length + ([32] : List UInt8).length ≤ 9223372036854775807, True, (r111 ++ ([32] : List UInt8)).length + r115.length ≤ 9223372036854775807, True] (by kernel_rfl) ⟨tt, c77, tt, c78, tt, tt⟩ ?_
    refine to_then ?_
    refine W_ret ?_
    refine blockQ_ret ?_
    refine thenQ_ret ?_
    obtain rfl := sI h
    exact RetO_intro [some .str] [] [0] [(6, .st ((r111 ++ ([32] : List UInt8)) ++ r115))] [(0, .box [.p false (.slice (.int .u8)) i1, .i64 r116])] 1 1 (by kernel_rfl) (by kernel_rfl) (by kernel_rfl)
  replace h := h_else hb27 h
  refine W_skip_to ?_
  refine to_block ?_
  refine to_then ?_
  obtain ⟨r118, q70, h⟩ := h_bind h
  have u_1 := (hq_name_ok d1 r73 _ q70)
  refine W_rs tbok ⟨[], [(2, ⟨.st r118, [false, false], false, [true, true], [], [], none⟩)]⟩ [] [0] [(6, .st r118)] [(0, .box [.p false (.slice (.int .u8)) i1, .i64 r74])] 1 1 [True, True, pO u_1, True] (by kernel_rfl) ⟨tt, tt, u_1, tt, tt⟩ ?_
  refine W_ret ?_
  obtain rfl := sI h
  exact RetO_intro [some .str] [] [0] [(6, .st r118)] [(0, .box [.p false (.slice (.int .u8)) i1, .i64 r74])] 1 1 (by kernel_rfl) (by kernel_rfl) (by kernel_rfl)
theorem hq_expr_v1_ok : ∀ (n : Nat) (d1 x1 : Int) (i1 : List Int) (i2 : Int) (res : (List UInt8) × Int), hq_expr_v1 n d1 x1 i1 i2 = some res → Owns Try.prog 28 [.i64 d1, .adr 0 0 2 0, .i64 x1] [(0, .box [.p false (.slice (.int .u8)) i1, .i64 i2])] (.st res.1) [(0, .box [.p false (.slice (.int .u8)) i1, .i64 res.2])]
  | 0, _, _, _, _, _, h => by cases h
  | n + 1, d1, x1, i1, i2, res, h => hq_expr_v1_F_ok (hq_expr_v1 n) (hq_expr_v1_ok n)  d1 x1 i1 i2 res h
def hq_Expr (n1 : Int) (l1 : List Int) : Option (List UInt8) :=
  (if ((l1.length : Int) == (0 : Int)) = true then some ([] : List UInt8)
  else (if 0 ≤ (0 : Int) ∧ (0 : Int) ≤ (min (l1.length : Int) (30 : Int)) ∧ (min (l1.length : Int) (30 : Int)) ≤ (l1.length : Int) then ((hq_expr_v1 1000 n1 (3 : Int) ((l1.take (min (l1.length : Int) (30 : Int)).toNat).drop (0 : Int).toNat) (0 : Int)).bind fun ((r3, r4) : (List UInt8) × Int) =>
  some r3) else none))
theorem hq_Expr_ok (n1 : Int) (l1 : List Int) (res : List UInt8) (h : hq_Expr n1 l1 = some res) :
    Pure Try.prog 20 [.i64 n1, .p false (.slice (.int .u8)) l1] (wrapR (encs false [⟨.str, res⟩])) := by
  refine Pure.of_body tbok Try.func20 (by kernel_rfl) rfl (nl rfl) (fun Bw w0 => ?_) rfl
  unfold hq_Expr at h
  refine W_rs tbok ⟨[], []⟩ [] [] [(0, .i64 n1), (1, .p false (.slice (.int .u8)) l1)] [] 0 0 [True] (by kernel_rfl) ⟨tt, tt⟩ ?_
  refine W_seq ?_
  refine W_rs tbok ⟨[], []⟩ [] [] [(0, .i64 n1), (1, .p false (.slice (.int .u8)) l1), (7, .bo ((l1.length : Int) == (0 : Int)))] [] 0 0 (Ts 3 []) (by kernel_rfl) (tr 3 tt) ?_
  refine W_cond (b := ((l1.length : Int) == (0 : Int))) (β := false) (by kernel_rfl) (fun hb1 => ?_) (fun hb1 => ?_)
  · replace h := h_if hb1 h
    refine W_rs tbok ⟨[], []⟩ [] [] [(4, .st ([] : List UInt8))] [] 0 0 [True] (by kernel_rfl) ⟨tt, tt⟩ ?_
    refine W_ret ?_
    refine thenQ_ret ?_
    obtain rfl := sI h
    exact Ret_intro [.str] (by kernel_rfl)
  replace h := h_else hb1 h
  refine W_skip_to ?_
  refine to_then ?_
  refine W_seq ?_
  obtain ⟨c2, h⟩ := h_guard h
  obtain ⟨⟨r3, r4⟩, q2, h⟩ := h_bind h
  have u_1 := (hq_expr_v1_ok 1000 n1 (3 : Int) ((l1.take (min (l1.length : Int) (30 : Int)).toNat).drop (0 : Int).toNat) (0 : Int) _ q2)
  refine W_r tbok ⟨[], [(8, ⟨.st r3, [false, false, false], true, [true, true, true], [56], [(0, .box [.p false (.slice (.int .u8)) ((l1.take (min (l1.length : Int) (30 : Int)).toNat).drop (0 : Int).toNat), .i64 r4])], none⟩)]⟩ [] [] [(4, .st r3)] [] 0 0 (Ts 5 [0 ≤ (0 : Int) ∧ (0 : Int) ≤ (min (l1.length : Int) (30 : Int)) ∧ (min (l1.length : Int) (30 : Int)) ≤ (l1.length : Int), True, True, pO u_1, True]) (by kernel_rfl) (tr 5 ⟨c2, tt, tt, u_1, tt, tt⟩) ?_
  refine to_then ?_
  refine W_ret ?_
  obtain rfl := sI h
  exact Ret_intro [.str] (by kernel_rfl)
def hq_Text_L1 (d4 : List Int) (r2 : Int) : ((List UInt8) × Int) → Option (((List UInt8) × Int) ⊕ (List UInt8)) := fun ((v6, v7) : (List UInt8) × Int) =>
  (((if (decide (v7 < (d4.length : Int))) = true then some ((decide (v7 < r2)))
  else some (false))).bind fun (v9 : Bool) => (if v9 = true then (if v6.length + ([116, 114, 101, 97, 116, 32] : List UInt8).length ≤ 9223372036854775807 then ((hq_name r2 v7).bind fun (r23 : List UInt8) =>
  (if (v6 ++ ([116, 114, 101, 97, 116, 32] : List UInt8)).length + r23.length ≤ 9223372036854775807 then (if ((v6 ++ ([116, 114, 101, 97, 116, 32] : List UInt8)) ++ r23).length + ([32, 61, 32] : List UInt8).length ≤ 9223372036854775807 then (if 0 ≤ v7 ∧ v7 < (d4.length : Int) then ((hq_name r2 (IntKind.i64.wrap (d4.getD v7.toNat (0 : Int)))).bind fun (r24 : List UInt8) =>
  (if (((v6 ++ ([116, 114, 101, 97, 116, 32] : List UInt8)) ++ r23) ++ ([32, 61, 32] : List UInt8)).length + r24.length ≤ 9223372036854775807 then (if ((((v6 ++ ([116, 114, 101, 97, 116, 32] : List UInt8)) ++ r23) ++ ([32, 61, 32] : List UInt8)) ++ r24).length + ([59, 10] : List UInt8).length ≤ 9223372036854775807 then some (Sum.inl ((((((v6 ++ ([116, 114, 101, 97, 116, 32] : List UInt8)) ++ r23) ++ ([32, 61, 32] : List UInt8)) ++ r24) ++ ([59, 10] : List UInt8)), (IntKind.i64.wrap (v7 + (1 : Int))))) else none) else none)) else none) else none) else none)) else none)
  else some (Sum.inr v6)))
def hq_Text_L2 (d5 : List (Int × (List Int) × List Int)) (r2 : Int) : ((List UInt8) × Int) → Option (((List UInt8) × Int) ⊕ (List UInt8)) := fun ((v14, v15) : (List UInt8) × Int) =>
  (((if (decide (v15 < (d5.length : Int))) = true then some ((decide (v15 < (10 : Int))))
  else some (false))).bind fun (v17 : Bool) => (if v17 = true then (if 0 ≤ v15 ∧ v15 < (d5.length : Int) then (if ¬ (3 : Int) = 0 then (if 0 ≤ (Int.tmod ((d5.getD v15.toNat ((0 : Int), (([] : List Int), ([] : List Int)))).1) (3 : Int)) ∧ (Int.tmod ((d5.getD v15.toNat ((0 : Int), (([] : List Int), ([] : List Int)))).1) (3 : Int)) < (([([107, 101, 101, 112, 32] : List UInt8), ([109, 97, 121, 32] : List UInt8), ([109, 117, 115, 116, 32] : List UInt8)] : List (List UInt8)).length : Int) then (if (Int.tmod ((d5.getD v15.toNat ((0 : Int), (([] : List Int), ([] : List Int)))).1) (3 : Int)).toNat < ([([107, 101, 101, 112, 32] : List UInt8), ([109, 97, 121, 32] : List UInt8), ([109, 117, 115, 116, 32] : List UInt8)] : List (List UInt8)).length then (if v14.length + (([([107, 101, 101, 112, 32] : List UInt8), ([109, 97, 121, 32] : List UInt8), ([109, 117, 115, 116, 32] : List UInt8)] : List (List UInt8)).getD ((Int.tmod ((d5.getD v15.toNat ((0 : Int), (([] : List Int), ([] : List Int)))).1) (3 : Int)).toNat) ([] : List UInt8)).length ≤ 9223372036854775807 then (if 0 ≤ v15 ∧ v15 < (d5.length : Int) then ((hq_Expr r2 ((d5.getD v15.toNat ((0 : Int), (([] : List Int), ([] : List Int)))).2.1)).bind fun (r35 : List UInt8) =>
  (if (v14 ++ (([([107, 101, 101, 112, 32] : List UInt8), ([109, 97, 121, 32] : List UInt8), ([109, 117, 115, 116, 32] : List UInt8)] : List (List UInt8)).getD ((Int.tmod ((d5.getD v15.toNat ((0 : Int), (([] : List Int), ([] : List Int)))).1) (3 : Int)).toNat) ([] : List UInt8))).length + r35.length ≤ 9223372036854775807 then (if ((v14 ++ (([([107, 101, 101, 112, 32] : List UInt8), ([109, 97, 121, 32] : List UInt8), ([109, 117, 115, 116, 32] : List UInt8)] : List (List UInt8)).getD ((Int.tmod ((d5.getD v15.toNat ((0 : Int), (([] : List Int), ([] : List Int)))).1) (3 : Int)).toNat) ([] : List UInt8))) ++ r35).length + ([32, 47, 32] : List UInt8).length ≤ 9223372036854775807 then (if 0 ≤ v15 ∧ v15 < (d5.length : Int) then ((hq_Expr r2 ((d5.getD v15.toNat ((0 : Int), (([] : List Int), ([] : List Int)))).2.2)).bind fun (r36 : List UInt8) =>
  (if (((v14 ++ (([([107, 101, 101, 112, 32] : List UInt8), ([109, 97, 121, 32] : List UInt8), ([109, 117, 115, 116, 32] : List UInt8)] : List (List UInt8)).getD ((Int.tmod ((d5.getD v15.toNat ((0 : Int), (([] : List Int), ([] : List Int)))).1) (3 : Int)).toNat) ([] : List UInt8))) ++ r35) ++ ([32, 47, 32] : List UInt8)).length + r36.length ≤ 9223372036854775807 then (if ((((v14 ++ (([([107, 101, 101, 112, 32] : List UInt8), ([109, 97, 121, 32] : List UInt8), ([109, 117, 115, 116, 32] : List UInt8)] : List (List UInt8)).getD ((Int.tmod ((d5.getD v15.toNat ((0 : Int), (([] : List Int), ([] : List Int)))).1) (3 : Int)).toNat) ([] : List UInt8))) ++ r35) ++ ([32, 47, 32] : List UInt8)) ++ r36).length + ([59, 10] : List UInt8).length ≤ 9223372036854775807 then some (Sum.inl ((((((v14 ++ (([([107, 101, 101, 112, 32] : List UInt8), ([109, 97, 121, 32] : List UInt8), ([109, 117, 115, 116, 32] : List UInt8)] : List (List UInt8)).getD ((Int.tmod ((d5.getD v15.toNat ((0 : Int), (([] : List Int), ([] : List Int)))).1) (3 : Int)).toNat) ([] : List UInt8))) ++ r35) ++ ([32, 47, 32] : List UInt8)) ++ r36) ++ ([59, 10] : List UInt8)), (IntKind.i64.wrap (v15 + (1 : Int))))) else none) else none)) else none) else none) else none)) else none) else none) else none) else none) else none) else none)
  else some (Sum.inr v14)))
def hq_Text (d1 d2 d3 : Int) (d4 : List Int) (d5 : List (Int × (List Int) × List Int)) : Option (List UInt8) :=
  ((hq_Plan_Count d1 d2 d3 d4 d5).bind fun (r2 : Int) =>
  ((hq_names r2 (255 : Int)).bind fun (r4 : List UInt8) =>
  (if ([99, 108, 97, 115, 115] : List UInt8).length + r4.length ≤ 9223372036854775807 then (if (([99, 108, 97, 115, 115] : List UInt8) ++ r4).length + ([59, 10] : List UInt8).length ≤ 9223372036854775807 then (((if (d2 != (0 : Int)) = true then (if ((([99, 108, 97, 115, 115] : List UInt8) ++ r4) ++ ([59, 10] : List UInt8)).length + ([106, 111, 105, 110] : List UInt8).length ≤ 9223372036854775807 then ((hq_names r2 d2).bind fun (r11 : List UInt8) =>
  (if (((([99, 108, 97, 115, 115] : List UInt8) ++ r4) ++ ([59, 10] : List UInt8)) ++ ([106, 111, 105, 110] : List UInt8)).length + r11.length ≤ 9223372036854775807 then (if ((((([99, 108, 97, 115, 115] : List UInt8) ++ r4) ++ ([59, 10] : List UInt8)) ++ ([106, 111, 105, 110] : List UInt8)) ++ r11).length + ([32, 47] : List UInt8).length ≤ 9223372036854775807 then ((hq_names r2 d3).bind fun (r12 : List UInt8) =>
  (if (((((([99, 108, 97, 115, 115] : List UInt8) ++ r4) ++ ([59, 10] : List UInt8)) ++ ([106, 111, 105, 110] : List UInt8)) ++ r11) ++ ([32, 47] : List UInt8)).length + r12.length ≤ 9223372036854775807 then (if ((((((([99, 108, 97, 115, 115] : List UInt8) ++ r4) ++ ([59, 10] : List UInt8)) ++ ([106, 111, 105, 110] : List UInt8)) ++ r11) ++ ([32, 47] : List UInt8)) ++ r12).length + ([59, 10] : List UInt8).length ≤ 9223372036854775807 then some ((((((((([99, 108, 97, 115, 115] : List UInt8) ++ r4) ++ ([59, 10] : List UInt8)) ++ ([106, 111, 105, 110] : List UInt8)) ++ r11) ++ ([32, 47] : List UInt8)) ++ r12) ++ ([59, 10] : List UInt8))) else none) else none)) else none) else none)) else none)
  else some (((([99, 108, 97, 115, 115] : List UInt8) ++ r4) ++ ([59, 10] : List UInt8))))).bind fun (v1 : List UInt8) => ((iter (hq_Text_L1 d4 r2) (v1, (0 : Int))).bind fun (v8 : List UInt8) => ((iter (hq_Text_L2 d5 r2) (v8, (0 : Int))).bind fun (v16 : List UInt8) => some v16))) else none) else none)))
theorem hq_Text_ok (β3 : Bool) (d1 d2 d3 : Int) (d4 : List Int) (d5 : List (Int × (List Int) × List Int)) (res : List UInt8) (h : hq_Text d1 d2 d3 d4 d5 = some res) :
    Pure Try.prog 12 [.agg [.u8 d1, .u8 d2, .u8 d3, .p β3 (.slice (.int .u8)) d4, .p false (.slice (.prod (.int .u8) Y6)) d5]] (wrapR (encs false [⟨.str, res⟩])) := by
  refine Pure.of_body tbok Try.func12 (by kernel_rfl) rfl (nl rfl) (fun Bw w0 => ?_) rfl
  unfold hq_Text at h
  refine W_rs tbok ⟨[], []⟩ [] [0] [(1, .adr 0 0 5 0)] (ob84 d1 d2 d3 β3 d4 d5) 1 0 [True, True] (by kernel_rfl) ⟨tt, tt, tt⟩ ?_
  obtain ⟨r2, q2, h⟩ := h_bind h
  have u_1 := (hq_Plan_Count_ok β3 false d1 d2 d3 d4 d5 _ q2)
  refine W_rs tbok ⟨[], [(1, ⟨.i64 r2, [false], false, [true], [], [], none⟩)]⟩ [] [0] [(1, .adr 0 0 5 0), (3, .i64 r2)] (ob84 d1 d2 d3 β3 d4 d5) 1 0 [True, pO u_1, True] (by kernel_rfl) ⟨tt, u_1, tt, tt⟩ ?_
  refine W_seq ?_
  obtain ⟨r4, q4, h⟩ := h_bind h
  obtain ⟨c3, h⟩ := h_guard h
  obtain ⟨c4, h⟩ := h_guard h
  have u_1 := (hq_names_ok r2 (255 : Int) _ q4)
  refine W_r tbok ⟨[], [(1, ⟨.st r4, [false, false], false, [true, true], [], [], none⟩)]⟩ [] [0] [(1, .adr 0 0 5 0), (3, .i64 r2), (4, .st ((([99, 108, 97, 115, 115] : List UInt8) ++ r4) ++ ([59, 10] : List UInt8)))] (ob84 d1 d2 d3 β3 d4 d5) 1 0 [True, pO u_1, ([99, 108, 97, 115, 115] : List UInt8).length + r4.length ≤ 9223372036854775807, (([99, 108, 97, 115, 115] : List UInt8) ++ r4).length + ([59, 10] : List UInt8).length ≤ 9223372036854775807, True] (by kernel_rfl) ⟨tt, u_1, c3, c4, tt, tt⟩ ?_
  refine to_then ?_
  refine W_seq ?_
  refine W_rs tbok ⟨[], []⟩ [] [0] [(1, .adr 0 0 5 0), (3, .i64 r2), (4, .st ((([99, 108, 97, 115, 115] : List UInt8) ++ r4) ++ ([59, 10] : List UInt8))), (16, .bo (d2 != (0 : Int)))] (ob84 d1 d2 d3 β3 d4 d5) 1 0 (Ts 3 []) (by kernel_rfl) (tr 3 tt) ?_
  obtain ⟨v1, hp1, h⟩ := h_bind h
  refine W.mono (Q := (postN Try.f12.ntmps (fun (v1 : List UInt8) => mkSt [(1, .adr 0 0 5 0), (3, .i64 r2), (4, .st v1)] (ob84 d1 d2 d3 β3 d4 d5) 1)) v1) ?_ (fun e σ' hq => ?_)
  · replace h := hp1
    clear hp1
    refine W_cond (b := (d2 != (0 : Int))) (β := false) (by kernel_rfl) (fun hb2 => ?_) (fun hb2 => ?_)
    · replace h := h_if hb2 h
      obtain ⟨c20, h⟩ := h_guard h
      obtain ⟨r11, q11, h⟩ := h_bind h
      obtain ⟨c21, h⟩ := h_guard h
      obtain ⟨c22, h⟩ := h_guard h
      obtain ⟨r12, q12, h⟩ := h_bind h
      obtain ⟨c23, h⟩ := h_guard h
      obtain ⟨c24, h⟩ := h_guard h
      have u_1 := (hq_names_ok r2 d2 _ q11)
      have u_2 := (hq_names_ok r2 d3 _ q12)
      refine W_regD tbok mixed ⟨[], [(5, ⟨.st r11, [false, false], false, [true, true], [], [], none⟩), (11, ⟨.st r12, [false, false], false, [true, true], [], [], none⟩)]⟩ [] [0] [(1, .adr 0 0 5 0), (3, .i64 r2), (4, .st (((((((([99, 108, 97, 115, 115] : List UInt8) ++ r4) ++ ([59, 10] : List UInt8)) ++ ([106, 111, 105, 110] : List UInt8)) ++ r11) ++ ([32, 47] : List UInt8)) ++ r12) ++ ([59, 10] : List UInt8)))] (ob84 d1 d2 d3 β3 d4 d5) 1 0 (True :: (((([99, 108, 97, 115, 115] : List UInt8) ++ r4) ++ ([59, 10] : List UInt8)).length + ([106, 111, 105, 110] : List UInt8).length ≤ 9223372036854775807) :: (Ts 3 ((pO u_1) :: ((((([99, 108, 97, 115, 115] : List UInt8) ++ r4) ++ ([59, 10] : List UInt8)) ++ ([106, 111, 105, 110] : List UInt8)).length + r11.length ≤ 9223372036854775807) :: (((((([99, 108, 97, 115, 115] : List UInt8) ++ r4) ++ ([59, 10] : List UInt8)) ++ ([106, 111, 105, 110] : List UInt8)) ++ r11).length + ([32, 47] : List UInt8).length ≤ 9223372036854775807) :: (Ts 3 [pO u_2, (((((([99, 108, 97, 115, 115] : List UInt8) ++ r4) ++ ([59, 10] : List UInt8)) ++ ([106, 111, 105, 110] : List UInt8)) ++ r11) ++ ([32, 47] : List UInt8)).length + r12.length ≤ 9223372036854775807, ((((((([99, 108, 97, 115, 115] : List UInt8) ++ r4) ++ ([59, 10] : List UInt8)) ++ ([106, 111, 105, 110] : List UInt8)) ++ r11) ++ ([32, 47] : List UInt8)) ++ r12).length + ([59, 10] : List UInt8).length ≤ 9223372036854775807, True])))) (by kernel_rfl) (by kernel_rfl) ⟨tt, c20, (tr 3 ⟨u_1, c21, c22, (tr 3 ⟨u_2, c23, c24, tt, tt⟩)⟩)⟩ ?_
      obtain rfl := sI h
      exact postN_to (gl [] [0] (by kernel_rfl))
    replace h := h_else hb2 h
    refine W_skip_to ?_
    obtain rfl := sI h
    exact postN_to (gl [] [0] (by kernel_rfl))
  clear hp1
  obtain ⟨rfl, hle⟩ := hq
  refine use_to ?_ hle
  refine to_then ?_
  refine W_seq ?_
  refine W_rs tbok ⟨[], []⟩ [] [0] [(1, .adr 0 0 5 0), (3, .i64 r2), (4, .st v1), (5, .i64 (0 : Int))] (ob84 d1 d2 d3 β3 d4 d5) 1 0 [True] (by kernel_rfl) ⟨tt, tt⟩ ?_
  refine W_block ?_
  obtain ⟨v8, hp5, h⟩ := h_bind h
  refine W.mono (Q := (postX Try.f12.ntmps 0 (fun (v8 : List UInt8) => mkSt [(1, .adr 0 0 5 0), (3, .i64 r2), (4, .st v8)] (ob84 d1 d2 d3 β3 d4 d5) 1)) v8) (W_iter (f := fun ((v6, v7) : (List UInt8) × Int) => mkSt [(1, .adr 0 0 5 0), (3, .i64 r2), (4, .st v6), (5, .i64 v7)] (ob84 d1 d2 d3 β3 d4 d5) 1) (Q := (postX Try.f12.ntmps 0 (fun (v8 : List UInt8) => mkSt [(1, .adr 0 0 5 0), (3, .i64 r2), (4, .st v8)] (ob84 d1 d2 d3 β3 d4 d5) 1))) hp5 (gl [] [0] (by kernel_rfl)) (fun y o ho => ?_)) (fun e σ' hq => ?_)
  · obtain ⟨v6, v7⟩ := y
    replace h := ho
    clear ho hp5
    unfold hq_Text_L1 at h
    refine W_seq ?_
    refine W_seq ?_
    obtain ⟨v9, hp4, h⟩ := h_bind h
    refine W.mono (Q := (postN Try.f12.ntmps (fun (v9 : Bool) => mkSt [(1, .adr 0 0 5 0), (3, .i64 r2), (4, .st v6), (5, .i64 v7), (40, .bo v9)] (ob84 d1 d2 d3 β3 d4 d5) 1)) v9) ?_ (fun e σ' hq => ?_)
    · replace h := hp4
      clear hp4
      rcases bb (decide (v7 < (d4.length : Int))) with hb13 | hb13
      · replace h := h_if hb13 h
        refine W_r tbok ⟨[(5, true), (9, true)], []⟩ [] [0] [(1, .adr 0 0 5 0), (3, .i64 r2), (4, .st v6), (5, .i64 v7), (40, .bo (decide (v7 < r2)))] (ob84 d1 d2 d3 β3 d4 d5) 1 0 (Ts 6 [(decide (v7 < (d4.length : Int))) = true ∧ True, (decide (v7 < (d4.length : Int))) = true ∧ True, (decide (v7 < (d4.length : Int))) = true ∧ True, (decide (v7 < (d4.length : Int))) = true]) (by kernel_rfl) (tr 6 ⟨⟨hb13, tt⟩, ⟨hb13, tt⟩, ⟨hb13, tt⟩, hb13, tt⟩) ?_
        obtain rfl := sI h
        exact postN_to (gl [] [0] (by kernel_rfl))
      replace h := h_else hb13 h
      refine W_r tbok ⟨[(5, false), (9, false)], []⟩ [] [0] [(1, .adr 0 0 5 0), (3, .i64 r2), (4, .st v6), (5, .i64 v7), (40, .bo false)] (ob84 d1 d2 d3 β3 d4 d5) 1 0 (Ts 6 [(decide (v7 < (d4.length : Int))) = false, (decide (v7 < (d4.length : Int))) = false, (decide (v7 < (d4.length : Int))) = false, (decide (v7 < (d4.length : Int))) = false]) (by kernel_rfl) (tr 6 ⟨hb13, hb13, hb13, hb13, tt⟩) ?_
      obtain rfl := sI h
      exact postN_to (gl [] [0] (by kernel_rfl))
    clear hp4
    obtain ⟨rfl, hle⟩ := hq
    refine use_to ?_ hle
    refine to_then ?_
    refine W_cond (b := v9) (β := false) (by kernel_rfl) (fun hb14 => ?_) (fun hb14 => ?_)
    · replace h := h_if hb14 h
      refine W_skip_to ?_
      refine to_then ?_
      refine W_seq ?_
      refine W_block ?_
      obtain ⟨c55, h⟩ := h_guard h
      obtain ⟨r23, q23, h⟩ := h_bind h
      obtain ⟨c56, h⟩ := h_guard h
      obtain ⟨c57, h⟩ := h_guard h
      obtain ⟨c58, h⟩ := h_guard h
      obtain ⟨r24, q24, h⟩ := h_bind h
      obtain ⟨c59, h⟩ := h_guard h
      obtain ⟨c60, h⟩ := h_guard h
      have u_1 := (hq_name_ok r2 v7 _ q23)
      have u_2 := (hq_name_ok r2 (IntKind.i64.wrap (d4.getD v7.toNat (0 : Int))) _ q24)
      refine W_regD tbok mixed ⟨[], [(4, ⟨.st r23, [false, false], false, [true, true], [], [], none⟩), (14, ⟨.st r24, [false, false], false, [true, true], [], [], none⟩)]⟩ [] [0] [(1, .adr 0 0 5 0), (3, .i64 r2), (4, .st (((((v6 ++ ([116, 114, 101, 97, 116, 32] : List UInt8)) ++ r23) ++ ([32, 61, 32] : List UInt8)) ++ r24) ++ ([59, 10] : List UInt8))), (5, .i64 v7)] (ob84 d1 d2 d3 β3 d4 d5) 1 0 (True :: (v6.length + ([116, 114, 101, 97, 116, 32] : List UInt8).length ≤ 9223372036854775807) :: True :: True :: (pO u_1) :: ((v6 ++ ([116, 114, 101, 97, 116, 32] : List UInt8)).length + r23.length ≤ 9223372036854775807) :: (((v6 ++ ([116, 114, 101, 97, 116, 32] : List UInt8)) ++ r23).length + ([32, 61, 32] : List UInt8).length ≤ 9223372036854775807) :: (Ts 4 [0 ≤ v7 ∧ v7 < (d4.length : Int), True, True, pO u_2, (((v6 ++ ([116, 114, 101, 97, 116, 32] : List UInt8)) ++ r23) ++ ([32, 61, 32] : List UInt8)).length + r24.length ≤ 9223372036854775807, ((((v6 ++ ([116, 114, 101, 97, 116, 32] : List UInt8)) ++ r23) ++ ([32, 61, 32] : List UInt8)) ++ r24).length + ([59, 10] : List UInt8).length ≤ 9223372036854775807, True])) (by kernel_rfl) (by kernel_rfl) ⟨tt, c55, tt, tt, u_1, c56, c57, (tr 4 ⟨c58, tt, tt, u_2, c59, c60, tt, tt⟩)⟩ ?_
      refine to_block ?_
      refine to_then ?_
      refine W_r tbok ⟨[], []⟩ [] [0] [(1, .adr 0 0 5 0), (3, .i64 r2), (4, .st (((((v6 ++ ([116, 114, 101, 97, 116, 32] : List UInt8)) ++ r23) ++ ([32, 61, 32] : List UInt8)) ++ r24) ++ ([59, 10] : List UInt8))), (5, .i64 (IntKind.i64.wrap (v7 + (1 : Int))))] (ob84 d1 d2 d3 β3 d4 d5) 1 0 (Ts 3 []) (by kernel_rfl) (tr 3 tt) ?_
      obtain rfl := sI h
      exact roundB (gl [] [0] (by kernel_rfl))
    replace h := h_else hb14 h
    refine W_exit_to ?_
    refine thenE ?_
    obtain rfl := sI h
    refine roundE ?_
    exact postX_to (gl [] [0] (by kernel_rfl))
  clear hp5
  obtain ⟨rfl, hle⟩ := hq
  refine use_to ?_ hle
  refine blockE_eq ?_
  refine to_then ?_
  refine W_rs tbok ⟨[], []⟩ [] [0, 1] [(1, .adr 0 0 5 0), (3, .i64 r2), (4, .st v8), (6, .sl 1)] (ob85 d1 d2 d3 β3 d4 d5 ([([107, 101, 101, 112, 32] : List UInt8), ([109, 97, 121, 32] : List UInt8), ([109, 117, 115, 116, 32] : List UInt8)] : List (List UInt8))) 2 0 [True, True] (by kernel_rfl) ⟨tt, tt, tt⟩ ?_
  refine W_seq ?_
  refine W_rs tbok ⟨[], []⟩ [] [0, 1] [(1, .adr 0 0 5 0), (3, .i64 r2), (4, .st v8), (6, .sl 1), (7, .i64 (0 : Int))] (ob85 d1 d2 d3 β3 d4 d5 ([([107, 101, 101, 112, 32] : List UInt8), ([109, 97, 121, 32] : List UInt8), ([109, 117, 115, 116, 32] : List UInt8)] : List (List UInt8))) 2 0 [True] (by kernel_rfl) ⟨tt, tt⟩ ?_
  refine W_block ?_
  obtain ⟨v16, hp9, h⟩ := h_bind h
  refine W.mono (Q := (postX Try.f12.ntmps 2 (fun (v16 : List UInt8) => mkSt [(4, .st v16)] [] 0)) v16) (W_iter (f := fun ((v14, v15) : (List UInt8) × Int) => mkSt [(1, .adr 0 0 5 0), (3, .i64 r2), (4, .st v14), (6, .sl 1), (7, .i64 v15)] (ob85 d1 d2 d3 β3 d4 d5 ([([107, 101, 101, 112, 32] : List UInt8), ([109, 97, 121, 32] : List UInt8), ([109, 117, 115, 116, 32] : List UInt8)] : List (List UInt8))) 2) (Q := (postX Try.f12.ntmps 2 (fun (v16 : List UInt8) => mkSt [(4, .st v16)] [] 0))) hp9 (gl [] [0, 1] (by kernel_rfl)) (fun y o ho => ?_)) (fun e σ' hq => ?_)
  · obtain ⟨v14, v15⟩ := y
    replace h := ho
    clear ho hp9
    unfold hq_Text_L2 at h
    refine W_seq ?_
    refine W_seq ?_
    obtain ⟨v17, hp8, h⟩ := h_bind h
    refine W.mono (Q := (postN Try.f12.ntmps (fun (v17 : Bool) => mkSt [(1, .adr 0 0 5 0), (3, .i64 r2), (4, .st v14), (6, .sl 1), (7, .i64 v15), (69, .bo v17)] (ob85 d1 d2 d3 β3 d4 d5 ([([107, 101, 101, 112, 32] : List UInt8), ([109, 97, 121, 32] : List UInt8), ([109, 117, 115, 116, 32] : List UInt8)] : List (List UInt8))) 2)) v17) ?_ (fun e σ' hq => ?_)
    · replace h := hp8
      clear hp8
      rcases bb (decide (v15 < (d5.length : Int))) with hb25 | hb25
      · replace h := h_if hb25 h
        refine W_r tbok ⟨[(5, true), (8, true)], []⟩ [] [0, 1] [(1, .adr 0 0 5 0), (3, .i64 r2), (4, .st v14), (6, .sl 1), (7, .i64 v15), (69, .bo (decide (v15 < (10 : Int))))] (ob85 d1 d2 d3 β3 d4 d5 ([([107, 101, 101, 112, 32] : List UInt8), ([109, 97, 121, 32] : List UInt8), ([109, 117, 115, 116, 32] : List UInt8)] : List (List UInt8))) 2 0 (Ts 6 [(decide (v15 < (d5.length : Int))) = true ∧ True, (decide (v15 < (d5.length : Int))) = true ∧ True, (decide (v15 < (d5.length : Int))) = true]) (by kernel_rfl) (tr 6 ⟨⟨hb25, tt⟩, ⟨hb25, tt⟩, hb25, tt⟩) ?_
        obtain rfl := sI h
        exact postN_to (gl [] [0, 1] (by kernel_rfl))
      replace h := h_else hb25 h
      refine W_r tbok ⟨[(5, false), (8, false)], []⟩ [] [0, 1] [(1, .adr 0 0 5 0), (3, .i64 r2), (4, .st v14), (6, .sl 1), (7, .i64 v15), (69, .bo false)] (ob85 d1 d2 d3 β3 d4 d5 ([([107, 101, 101, 112, 32] : List UInt8), ([109, 97, 121, 32] : List UInt8), ([109, 117, 115, 116, 32] : List UInt8)] : List (List UInt8))) 2 0 (Ts 6 [(decide (v15 < (d5.length : Int))) = false, (decide (v15 < (d5.length : Int))) = false, (decide (v15 < (d5.length : Int))) = false]) (by kernel_rfl) (tr 6 ⟨hb25, hb25, hb25, tt⟩) ?_
      obtain rfl := sI h
      exact postN_to (gl [] [0, 1] (by kernel_rfl))
    clear hp8
    obtain ⟨rfl, hle⟩ := hq
    refine use_to ?_ hle
    refine to_then ?_
    refine W_cond (b := v17) (β := false) (by kernel_rfl) (fun hb26 => ?_) (fun hb26 => ?_)
    · replace h := h_if hb26 h
      refine W_skip_to ?_
      refine to_then ?_
      refine W_seq ?_
      refine W_block ?_
      obtain ⟨c116, h⟩ := h_guard h
      obtain ⟨c117, h⟩ := h_guard h
      obtain ⟨c118, h⟩ := h_guard h
      obtain ⟨c119, h⟩ := h_guard h
      obtain ⟨c120, h⟩ := h_guard h
      obtain ⟨c121, h⟩ := h_guard h
      obtain ⟨r35, q35, h⟩ := h_bind h
      obtain ⟨c122, h⟩ := h_guard h
      obtain ⟨c123, h⟩ := h_guard h
      obtain ⟨c124, h⟩ := h_guard h
      obtain ⟨r36, q36, h⟩ := h_bind h
      obtain ⟨c125, h⟩ := h_guard h
      obtain ⟨c126, h⟩ := h_guard h
      have u_1 := (hq_Expr_ok r2 ((d5.getD v15.toNat ((0 : Int), (([] : List Int), ([] : List Int)))).2.1) _ q35)
      have u_2 := (hq_Expr_ok r2 ((d5.getD v15.toNat ((0 : Int), (([] : List Int), ([] : List Int)))).2.2) _ q36)
      refine W_regD tbok mixed ⟨[], [(19, ⟨.st r35, [false, false], false, [true, true], [], [], none⟩), (29, ⟨.st r36, [false, false], false, [true, true], [], [], none⟩)]⟩ [] [0, 1] [(1, .adr 0 0 5 0), (3, .i64 r2), (4, .st (((((v14 ++ (([([107, 101, 101, 112, 32] : List UInt8), ([109, 97, 121, 32] : List UInt8), ([109, 117, 115, 116, 32] : List UInt8)] : List (List UInt8)).getD ((Int.tmod ((d5.getD v15.toNat ((0 : Int), (([] : List Int), ([] : List Int)))).1) (3 : Int)).toNat) ([] : List UInt8))) ++ r35) ++ ([32, 47, 32] : List UInt8)) ++ r36) ++ ([59, 10] : List UInt8))), (6, .sl 1), (7, .i64 v15)] (ob85 d1 d2 d3 β3 d4 d5 ([([107, 101, 101, 112, 32] : List UInt8), ([109, 97, 121, 32] : List UInt8), ([109, 117, 115, 116, 32] : List UInt8)] : List (List UInt8))) 2 0 (Ts 5 ((0 ≤ v15 ∧ v15 < (d5.length : Int)) :: True :: True :: (¬ (3 : Int) = 0) :: (0 ≤ (Int.tmod ((d5.getD v15.toNat ((0 : Int), (([] : List Int), ([] : List Int)))).1) (3 : Int)) ∧ (Int.tmod ((d5.getD v15.toNat ((0 : Int), (([] : List Int), ([] : List Int)))).1) (3 : Int)) < (([([107, 101, 101, 112, 32] : List UInt8), ([109, 97, 121, 32] : List UInt8), ([109, 117, 115, 116, 32] : List UInt8)] : List (List UInt8)).length : Int)) :: ((Int.tmod ((d5.getD v15.toNat ((0 : Int), (([] : List Int), ([] : List Int)))).1) (3 : Int)).toNat < ([([107, 101, 101, 112, 32] : List UInt8), ([109, 97, 121, 32] : List UInt8), ([109, 117, 115, 116, 32] : List UInt8)] : List (List UInt8)).length) :: (v14.length + (([([107, 101, 101, 112, 32] : List UInt8), ([109, 97, 121, 32] : List UInt8), ([109, 117, 115, 116, 32] : List UInt8)] : List (List UInt8)).getD ((Int.tmod ((d5.getD v15.toNat ((0 : Int), (([] : List Int), ([] : List Int)))).1) (3 : Int)).toNat) ([] : List UInt8)).length ≤ 9223372036854775807) :: (Ts 4 ((0 ≤ v15 ∧ v15 < (d5.length : Int)) :: True :: True :: (pO u_1) :: ((v14 ++ (([([107, 101, 101, 112, 32] : List UInt8), ([109, 97, 121, 32] : List UInt8), ([109, 117, 115, 116, 32] : List UInt8)] : List (List UInt8)).getD ((Int.tmod ((d5.getD v15.toNat ((0 : Int), (([] : List Int), ([] : List Int)))).1) (3 : Int)).toNat) ([] : List UInt8))).length + r35.length ≤ 9223372036854775807) :: (((v14 ++ (([([107, 101, 101, 112, 32] : List UInt8), ([109, 97, 121, 32] : List UInt8), ([109, 117, 115, 116, 32] : List UInt8)] : List (List UInt8)).getD ((Int.tmod ((d5.getD v15.toNat ((0 : Int), (([] : List Int), ([] : List Int)))).1) (3 : Int)).toNat) ([] : List UInt8))) ++ r35).length + ([32, 47, 32] : List UInt8).length ≤ 9223372036854775807) :: (Ts 4 [0 ≤ v15 ∧ v15 < (d5.length : Int), True, True, pO u_2, (((v14 ++ (([([107, 101, 101, 112, 32] : List UInt8), ([109, 97, 121, 32] : List UInt8), ([109, 117, 115, 116, 32] : List UInt8)] : List (List UInt8)).getD ((Int.tmod ((d5.getD v15.toNat ((0 : Int), (([] : List Int), ([] : List Int)))).1) (3 : Int)).toNat) ([] : List UInt8))) ++ r35) ++ ([32, 47, 32] : List UInt8)).length + r36.length ≤ 9223372036854775807, ((((v14 ++ (([([107, 101, 101, 112, 32] : List UInt8), ([109, 97, 121, 32] : List UInt8), ([109, 117, 115, 116, 32] : List UInt8)] : List (List UInt8)).getD ((Int.tmod ((d5.getD v15.toNat ((0 : Int), (([] : List Int), ([] : List Int)))).1) (3 : Int)).toNat) ([] : List UInt8))) ++ r35) ++ ([32, 47, 32] : List UInt8)) ++ r36).length + ([59, 10] : List UInt8).length ≤ 9223372036854775807, True]))))) (by kernel_rfl) (by kernel_rfl) (tr 5 ⟨c116, tt, tt, c117, c118, c119, c120, (tr 4 ⟨c121, tt, tt, u_1, c122, c123, (tr 4 ⟨c124, tt, tt, u_2, c125, c126, tt, tt⟩)⟩)⟩) ?_
      refine to_block ?_
      refine to_then ?_
      refine W_r tbok ⟨[], []⟩ [] [0, 1] [(1, .adr 0 0 5 0), (3, .i64 r2), (4, .st (((((v14 ++ (([([107, 101, 101, 112, 32] : List UInt8), ([109, 97, 121, 32] : List UInt8), ([109, 117, 115, 116, 32] : List UInt8)] : List (List UInt8)).getD ((Int.tmod ((d5.getD v15.toNat ((0 : Int), (([] : List Int), ([] : List Int)))).1) (3 : Int)).toNat) ([] : List UInt8))) ++ r35) ++ ([32, 47, 32] : List UInt8)) ++ r36) ++ ([59, 10] : List UInt8))), (6, .sl 1), (7, .i64 (IntKind.i64.wrap (v15 + (1 : Int))))] (ob85 d1 d2 d3 β3 d4 d5 ([([107, 101, 101, 112, 32] : List UInt8), ([109, 97, 121, 32] : List UInt8), ([109, 117, 115, 116, 32] : List UInt8)] : List (List UInt8))) 2 0 (Ts 3 []) (by kernel_rfl) (tr 3 tt) ?_
      obtain rfl := sI h
      exact roundB (gl [] [0, 1] (by kernel_rfl))
    replace h := h_else hb26 h
    refine W_exit_to ?_
    refine thenE ?_
    obtain rfl := sI h
    refine roundE ?_
    exact postX_to (gl [] [] (by kernel_rfl))
  clear hp9
  obtain ⟨rfl, hle⟩ := hq
  refine use_to ?_ hle
  refine blockE_eq ?_
  refine to_then ?_
  refine W_rs tbok ⟨[], []⟩ [] [] [(2, .st v16)] [] 0 0 [True, True] (by kernel_rfl) ⟨tt, tt, tt⟩ ?_
  refine W_ret ?_
  obtain rfl := sI h
  exact Ret_intro [.str] (by kernel_rfl)
end
end Go.Proofs.Ytjfjigknkhgkdaa.T
