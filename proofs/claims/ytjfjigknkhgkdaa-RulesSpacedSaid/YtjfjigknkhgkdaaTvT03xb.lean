/- Functions of the program as functions on data, and that the program's own come to them. -/
import Derived.Test.YtjfjigknkhgkdaaTvT03x0
namespace Go.Proofs.Ytjfjigknkhgkdaa.T
open Go Go.Tv Go.Proofs
noncomputable section
set_option maxRecDepth 100000
set_option maxHeartbeats 4000000
def ra_SameInts_L1 (a1 b1 : List Int) : (Int) → Option ((Int) ⊕ ((Unit) ⊕ (Bool))) := fun (i2 : Int) =>
  (if (decide (i2 < (a1.length : Int))) = true then (if 0 ≤ i2 ∧ i2 < (a1.length : Int) then (if 0 ≤ i2 ∧ i2 < (b1.length : Int) then (if ((a1.getD i2.toNat (0 : Int)) != (b1.getD i2.toNat (0 : Int))) = true then some (Sum.inr (Sum.inr false))
  else some (Sum.inl (IntKind.i64.wrap (i2 + (1 : Int))))) else none) else none)
  else some (Sum.inr (Sum.inl ())))
def ra_SameInts (a1 b1 : List Int) : Option (Bool) :=
  (if ((a1.length : Int) != (b1.length : Int)) = true then some false
  else ((iter (ra_SameInts_L1 a1 b1) (0 : Int)).bind fun (r2 : ((Unit) ⊕ (Bool))) => match r2 with
  | .inl _ => some true
  | .inr (r1) => some r1))
theorem ra_SameInts_ok (β0 β1 : Bool) (a1 b1 : List Int) (res : Bool) (h : ra_SameInts a1 b1 = some res) :
    Pure Try.prog 24 [.p β0 (.slice (.int .i64)) a1, .p β1 (.slice (.int .i64)) b1] (wrapR (encs false [⟨.bool, res⟩])) := by
  refine Pure.of_body tbok Try.func24 (by kernel_rfl) rfl (nl rfl) (fun Bw w0 => ?_) rfl
  unfold ra_SameInts at h
  refine W_rs tbok ⟨[], []⟩ [] [] [(0, .p β0 (.slice (.int .i64)) a1), (1, .p β1 (.slice (.int .i64)) b1)] [] 0 0 [True] (by kernel_rfl) ⟨tt, tt⟩ ?_
  refine W_seq ?_
  refine W_rs tbok ⟨[], []⟩ [] [] [(0, .p β0 (.slice (.int .i64)) a1), (1, .p β1 (.slice (.int .i64)) b1), (10, .bo ((a1.length : Int) != (b1.length : Int)))] [] 0 0 (Ts 5 []) (by kernel_rfl) (tr 5 tt) ?_
  refine W_cond (b := ((a1.length : Int) != (b1.length : Int))) (β := false) (by kernel_rfl) (fun hb1 => ?_) (fun hb1 => ?_)
  · replace h := h_if hb1 h
    refine W_rs tbok ⟨[], []⟩ [] [] [(4, .bo false)] [] 0 0 [True] (by kernel_rfl) ⟨tt, tt⟩ ?_
    refine W_ret ?_
    refine thenQ_ret ?_
    obtain rfl := sI h
    exact Ret_intro [.bool] (by kernel_rfl)
  replace h := h_else hb1 h
  refine W_skip_to ?_
  refine to_then ?_
  refine W_seq ?_
  refine W_rs tbok ⟨[], []⟩ [] [] [(0, .p β0 (.slice (.int .i64)) a1), (1, .p β1 (.slice (.int .i64)) b1), (5, .i64 (0 : Int))] [] 0 0 [True] (by kernel_rfl) ⟨tt, tt⟩ ?_
  refine W_block ?_
  obtain ⟨r2, hp1, h⟩ := h_bind h
  refine W.mono (Q := (postS (postX Try.f24.ntmps 0 (fun (_ : Unit) => mkSt [] [] 0)) (postR tb Try.f24.results.toList (fun (r1 : Bool) => [⟨.bool, r1⟩]))) r2) (W_iter (f := fun (i2 : Int) => mkSt [(0, .p β0 (.slice (.int .i64)) a1), (1, .p β1 (.slice (.int .i64)) b1), (5, .i64 i2)] [] 0) (Q := (postS (postX Try.f24.ntmps 0 (fun (_ : Unit) => mkSt [] [] 0)) (postR tb Try.f24.results.toList (fun (r1 : Bool) => [⟨.bool, r1⟩])))) hp1 (gl [] [] (by kernel_rfl)) (fun i2 o ho => ?_)) (fun e σ' hq => ?_)
  · replace h := ho
    clear ho hp1
    unfold ra_SameInts_L1 at h
    refine W_seq ?_
    refine W_rs tbok ⟨[], []⟩ [] [] [(0, .p β0 (.slice (.int .i64)) a1), (1, .p β1 (.slice (.int .i64)) b1), (5, .i64 i2), (14, .bo (decide (i2 < (a1.length : Int))))] [] 0 0 (Ts 4 []) (by kernel_rfl) (tr 4 tt) ?_
    refine W_cond (b := (decide (i2 < (a1.length : Int)))) (β := false) (by kernel_rfl) (fun hb6 => ?_) (fun hb6 => ?_)
    · replace h := h_if hb6 h
      refine W_skip_to ?_
      refine to_then ?_
      refine W_seq ?_
      refine W_block ?_
      refine W_seq ?_
      obtain ⟨c11, h⟩ := h_guard h
      obtain ⟨c12, h⟩ := h_guard h
      refine W_regD tbok mixed ⟨[], []⟩ [] [] [(0, .p β0 (.slice (.int .i64)) a1), (1, .p β1 (.slice (.int .i64)) b1), (5, .i64 i2), (25, .bo ((a1.getD i2.toNat (0 : Int)) != (b1.getD i2.toNat (0 : Int))))] [] 0 0 (True :: True :: (0 ≤ i2 ∧ i2 < (a1.length : Int)) :: (Ts 3 [0 ≤ i2 ∧ i2 < (b1.length : Int), True, True])) (by kernel_rfl) (by kernel_rfl) ⟨tt, tt, c11, (tr 3 ⟨c12, tt, tt, tt⟩)⟩ ?_
      refine to_then ?_
      refine W_cond (b := ((a1.getD i2.toNat (0 : Int)) != (b1.getD i2.toNat (0 : Int)))) (β := false) (by kernel_rfl) (fun hb7 => ?_) (fun hb7 => ?_)
      · replace h := h_if hb7 h
        refine W_rs tbok ⟨[], []⟩ [] [] [(4, .bo false)] [] 0 0 [True] (by kernel_rfl) ⟨tt, tt⟩ ?_
        refine W_ret ?_
        obtain rfl := sI h
        refine blockQ_ret ?_
        refine thenQ_ret ?_
        refine round_ret ?_
        refine postS_rr ?_
        exact postR_mk (Ret_intro [.bool] (by kernel_rfl))
      replace h := h_else hb7 h
      refine W_skip_to ?_
      refine to_block ?_
      refine to_then ?_
      refine W_r tbok ⟨[], []⟩ [] [] [(0, .p β0 (.slice (.int .i64)) a1), (1, .p β1 (.slice (.int .i64)) b1), (5, .i64 (IntKind.i64.wrap (i2 + (1 : Int))))] [] 0 0 (Ts 3 []) (by kernel_rfl) (tr 3 tt) ?_
      obtain rfl := sI h
      exact roundB (gl [] [] (by kernel_rfl))
    replace h := h_else hb6 h
    refine W_exit_to ?_
    refine thenE ?_
    obtain rfl := sI h
    refine roundE ?_
    refine postS_l ?_
    exact postX_to (gl [] [] (by kernel_rfl))
  clear hp1
  rcases r2 with _ | r1
  · obtain ⟨rfl, hle⟩ := hq
    refine use_to ?_ hle
    refine blockE_eq ?_
    refine to_then ?_
    refine W_rs tbok ⟨[], []⟩ [] [] [(4, .bo true)] [] 0 0 [True] (by kernel_rfl) ⟨tt, tt⟩ ?_
    refine W_ret ?_
    obtain rfl := sI h
    exact Ret_intro [.bool] (by kernel_rfl)
  obtain ⟨rfl, hr⟩ := hq
  refine blockQ_ret ?_
  refine thenQ_ret ?_
  obtain rfl := sI h
  exact hr
def rr_SameExpr_L1 (a3 b3 : List Tree) (rec_rr_SameExpr : Int → Int → (List Tree) → Int → Int → (List Tree) → Option (Bool)) : (Int) → Option ((Int) ⊕ ((Unit) ⊕ (Bool))) := fun (i2 : Int) =>
  (if (decide (i2 < (a3.length : Int))) = true then (if 0 ≤ i2 ∧ i2 < (a3.length : Int) then (if 0 ≤ i2 ∧ i2 < (b3.length : Int) then ((rec_rr_SameExpr ((a3.getD i2.toNat (Tree.node 0 0 [])).op) ((a3.getD i2.toNat (Tree.node 0 0 [])).set) ((a3.getD i2.toNat (Tree.node 0 0 [])).kids) ((b3.getD i2.toNat (Tree.node 0 0 [])).op) ((b3.getD i2.toNat (Tree.node 0 0 [])).set) ((b3.getD i2.toNat (Tree.node 0 0 [])).kids)).bind fun (r7 : Bool) =>
  (if (!r7) = true then some (Sum.inr (Sum.inr false))
  else some (Sum.inl (IntKind.i64.wrap (i2 + (1 : Int)))))) else none) else none)
  else some (Sum.inr (Sum.inl ())))
def rr_SameExpr_F (rec_rr_SameExpr : Int → Int → (List Tree) → Int → Int → (List Tree) → Option (Bool)) (a1 a2 : Int) (a3 : List Tree) (b1 b2 : Int) (b3 : List Tree) : Option (Bool) :=
  (((if (a1 != b1) = true then some (true)
  else (if (a2 != b2) = true then some (true)
  else some (((a3.length : Int) != (b3.length : Int)))))).bind fun (v1 : Bool) => (if v1 = true then some false
  else ((iter (rr_SameExpr_L1 a3 b3 rec_rr_SameExpr) (0 : Int)).bind fun (r8 : ((Unit) ⊕ (Bool))) => match r8 with
  | .inl _ => some true
  | .inr (r5) => some r5)))
def rr_SameExpr : Nat → Int → Int → (List Tree) → Int → Int → (List Tree) → Option (Bool)
  | 0 => fun _ _ _ _ _ _ => none
  | n + 1 => rr_SameExpr_F (rr_SameExpr n)
theorem rr_SameExpr_F_ok (rec_rr_SameExpr : Int → Int → (List Tree) → Int → Int → (List Tree) → Option (Bool)) (hrec_rr_SameExpr : ∀ (β2 β5 : Bool) (a1 a2 : Int) (a3 : List Tree) (b1 b2 : Int) (b3 : List Tree) (res : Bool), rec_rr_SameExpr a1 a2 a3 b1 b2 b3 = some res → Pure Try.prog 25 [.agg [.u8 a1, .u32 a2, .p β2 (.slice (.tree .u8 .u32)) a3], .agg [.u8 b1, .u32 b2, .p β5 (.slice (.tree .u8 .u32)) b3]] (wrapR (encs false [⟨.bool, res⟩]))) (β2 β5 : Bool) (a1 a2 : Int) (a3 : List Tree) (b1 b2 : Int) (b3 : List Tree) (res : Bool) (h : rr_SameExpr_F rec_rr_SameExpr a1 a2 a3 b1 b2 b3 = some res) :
    Pure Try.prog 25 [.agg [.u8 a1, .u32 a2, .p β2 (.slice (.tree .u8 .u32)) a3], .agg [.u8 b1, .u32 b2, .p β5 (.slice (.tree .u8 .u32)) b3]] (wrapR (encs false [⟨.bool, res⟩])) := by
  refine Pure.of_body tbok Try.func25 (by kernel_rfl) rfl (nl rfl) (fun Bw w0 => ?_) rfl
  unfold rr_SameExpr_F at h
  refine W_rs tbok ⟨[], []⟩ [] [0, 8] [(2, .adr 0 0 3 0), (3, .adr 1 0 3 0)] (ob81 a1 a2 β2 a3 b1 b2 β5 b3) 2 0 (Ts 3 []) (by kernel_rfl) (tr 3 tt) ?_
  refine W_seq ?_
  refine W_seq ?_
  obtain ⟨v1, hp1, h⟩ := h_bind h
  refine W.mono (Q := (postN Try.f25.ntmps (fun (v1 : Bool) => mkSt [(2, .adr 0 0 3 0), (3, .adr 1 0 3 0), (26, .bo v1)] (ob81 a1 a2 β2 a3 b1 b2 β5 b3) 2)) v1) ?_ (fun e σ' hq => ?_)
  · replace h := hp1
    clear hp1
    rcases bb (a1 != b1) with hb5 | hb5
    · replace h := h_if hb5 h
      refine W_r tbok ⟨[(5, true), (11, true), (12, true), (20, true)], []⟩ [] [0, 1] [(2, .adr 0 0 3 0), (3, .adr 1 0 3 0), (26, .bo true)] (ob81 a1 a2 β2 a3 b1 b2 β5 b3) 2 0 (Ts 6 [(a1 != b1) = true, (a1 != b1) = true, (a1 != b1) = true, (a1 != b1) = true, (a1 != b1) = true, (a1 != b1) = true, True, true = true, true = true, true = true, true = true, true = true, true = true, true = true, true = true]) (by kernel_rfl) (tr 6 ⟨hb5, hb5, hb5, hb5, hb5, hb5, tt, rfl, rfl, rfl, rfl, rfl, rfl, rfl, rfl, tt⟩) ?_
      obtain rfl := sI h
      exact postN_to (gl [] [0, 1] (by kernel_rfl))
    replace h := h_else hb5 h
    rcases bb (a2 != b2) with hb6 | hb6
    · replace h := h_if hb6 h
      refine W_r tbok ⟨[(5, false), (11, false), (12, true), (20, true)], []⟩ [] [0, 1] [(2, .adr 0 0 3 0), (3, .adr 1 0 3 0), (26, .bo true)] (ob81 a1 a2 β2 a3 b1 b2 β5 b3) 2 0 (Ts 6 [(a1 != b1) = false ∧ True, (a1 != b1) = false ∧ True, (a1 != b1) = false ∧ True, (a1 != b1) = false ∧ True, (a1 != b1) = false ∧ True, (a1 != b1) = false, True, (a2 != b2) = true, (a2 != b2) = true, (a2 != b2) = true, (a2 != b2) = true, (a2 != b2) = true, (a2 != b2) = true, (a2 != b2) = true, (a2 != b2) = true]) (by kernel_rfl) (tr 6 ⟨⟨hb5, tt⟩, ⟨hb5, tt⟩, ⟨hb5, tt⟩, ⟨hb5, tt⟩, ⟨hb5, tt⟩, hb5, tt, hb6, hb6, hb6, hb6, hb6, hb6, hb6, hb6, tt⟩) ?_
      obtain rfl := sI h
      exact postN_to (gl [] [0, 1] (by kernel_rfl))
    replace h := h_else hb6 h
    refine W_r tbok ⟨[(5, false), (11, false), (12, false), (20, false)], []⟩ [] [0, 1] [(2, .adr 0 0 3 0), (3, .adr 1 0 3 0), (26, .bo ((a3.length : Int) != (b3.length : Int)))] (ob81 a1 a2 β2 a3 b1 b2 β5 b3) 2 0 (Ts 6 [(a1 != b1) = false ∧ True, (a1 != b1) = false ∧ True, (a1 != b1) = false ∧ True, (a1 != b1) = false ∧ True, (a1 != b1) = false ∧ True, (a1 != b1) = false, True, (a2 != b2) = false ∧ True, (a2 != b2) = false ∧ True, (a2 != b2) = false ∧ True, (a2 != b2) = false ∧ True, (a2 != b2) = false ∧ True, (a2 != b2) = false ∧ True, (a2 != b2) = false ∧ True, (a2 != b2) = false]) (by kernel_rfl) (tr 6 ⟨⟨hb5, tt⟩, ⟨hb5, tt⟩, ⟨hb5, tt⟩, ⟨hb5, tt⟩, ⟨hb5, tt⟩, hb5, tt, ⟨hb6, tt⟩, ⟨hb6, tt⟩, ⟨hb6, tt⟩, ⟨hb6, tt⟩, ⟨hb6, tt⟩, ⟨hb6, tt⟩, ⟨hb6, tt⟩, hb6, tt⟩) ?_
    obtain rfl := sI h
    exact postN_to (gl [] [0, 1] (by kernel_rfl))
  clear hp1
  obtain ⟨rfl, hle⟩ := hq
  refine use_to ?_ hle
  refine to_then ?_
  refine W_cond (b := v1) (β := false) (by kernel_rfl) (fun hb7 => ?_) (fun hb7 => ?_)
  · replace h := h_if hb7 h
    refine W_rs tbok ⟨[], []⟩ [] [] [(4, .bo false)] [] 0 0 [True] (by kernel_rfl) ⟨tt, tt⟩ ?_
    refine W_ret ?_
    refine thenQ_ret ?_
    obtain rfl := sI h
    exact Ret_intro [.bool] (by kernel_rfl)
  replace h := h_else hb7 h
  refine W_skip_to ?_
  refine to_then ?_
  refine W_seq ?_
  refine W_rs tbok ⟨[], []⟩ [] [0, 1] [(2, .adr 0 0 3 0), (3, .adr 1 0 3 0), (5, .i64 (0 : Int))] (ob81 a1 a2 β2 a3 b1 b2 β5 b3) 2 0 [True] (by kernel_rfl) ⟨tt, tt⟩ ?_
  refine W_block ?_
  obtain ⟨r8, hp2, h⟩ := h_bind h
  refine W.mono (Q := (postS (postX Try.f25.ntmps 0 (fun (_ : Unit) => mkSt [] [] 0)) (postR tb Try.f25.results.toList (fun (r5 : Bool) => [⟨.bool, r5⟩]))) r8) (W_iter (f := fun (i2 : Int) => mkSt [(2, .adr 0 0 3 0), (3, .adr 1 0 3 0), (5, .i64 i2)] (ob81 a1 a2 β2 a3 b1 b2 β5 b3) 2) (Q := (postS (postX Try.f25.ntmps 0 (fun (_ : Unit) => mkSt [] [] 0)) (postR tb Try.f25.results.toList (fun (r5 : Bool) => [⟨.bool, r5⟩])))) hp2 (gl [] [0, 1] (by kernel_rfl)) (fun i2 o ho => ?_)) (fun e σ' hq => ?_)
  · replace h := ho
    clear ho hp2
    unfold rr_SameExpr_L1 at h
    refine W_seq ?_
    refine W_rs tbok ⟨[], []⟩ [] [0, 1] [(2, .adr 0 0 3 0), (3, .adr 1 0 3 0), (5, .i64 i2), (31, .bo (decide (i2 < (a3.length : Int))))] (ob81 a1 a2 β2 a3 b1 b2 β5 b3) 2 0 (Ts 5 []) (by kernel_rfl) (tr 5 tt) ?_
    refine W_cond (b := (decide (i2 < (a3.length : Int)))) (β := false) (by kernel_rfl) (fun hb12 => ?_) (fun hb12 => ?_)
    · replace h := h_if hb12 h
      refine W_skip_to ?_
      refine to_then ?_
      refine W_seq ?_
      refine W_block ?_
      refine W_seq ?_
      obtain ⟨c11, h⟩ := h_guard h
      obtain ⟨c12, h⟩ := h_guard h
      obtain ⟨r7, q6, h⟩ := h_bind h
      have u_1 := (hrec_rr_SameExpr β2 β5 ((a3.getD i2.toNat (Tree.node 0 0 [])).op) ((a3.getD i2.toNat (Tree.node 0 0 [])).set) ((a3.getD i2.toNat (Tree.node 0 0 [])).kids) ((b3.getD i2.toNat (Tree.node 0 0 [])).op) ((b3.getD i2.toNat (Tree.node 0 0 [])).set) ((b3.getD i2.toNat (Tree.node 0 0 [])).kids) _ q6)
      refine W_regD tbok mixed ⟨[], [(10, ⟨.bo r7, [false, false], false, [true, true], [], [], none⟩)]⟩ [] [0, 1] [(2, .adr 0 0 3 0), (3, .adr 1 0 3 0), (5, .i64 i2), (45, .bo (!r7))] (ob81 a1 a2 β2 a3 b1 b2 β5 b3) 2 0 (Ts 3 ((0 ≤ i2 ∧ i2 < (a3.length : Int)) :: (Ts 4 [0 ≤ i2 ∧ i2 < (b3.length : Int), True, pO u_1, True]))) (by kernel_rfl) (by kernel_rfl) (tr 3 ⟨c11, (tr 4 ⟨c12, tt, u_1, tt, tt⟩)⟩) ?_
      refine to_then ?_
      refine W_cond (b := (!r7)) (β := false) (by kernel_rfl) (fun hb13 => ?_) (fun hb13 => ?_)
      · replace h := h_if hb13 h
        refine W_rs tbok ⟨[], []⟩ [] [] [(4, .bo false)] [] 0 0 [True] (by kernel_rfl) ⟨tt, tt⟩ ?_
        refine W_ret ?_
        obtain rfl := sI h
        refine blockQ_ret ?_
        refine thenQ_ret ?_
        refine round_ret ?_
        refine postS_rr ?_
        exact postR_mk (Ret_intro [.bool] (by kernel_rfl))
      replace h := h_else hb13 h
      refine W_skip_to ?_
      refine to_block ?_
      refine to_then ?_
      refine W_r tbok ⟨[], []⟩ [] [0, 1] [(2, .adr 0 0 3 0), (3, .adr 1 0 3 0), (5, .i64 (IntKind.i64.wrap (i2 + (1 : Int))))] (ob81 a1 a2 β2 a3 b1 b2 β5 b3) 2 0 (Ts 3 []) (by kernel_rfl) (tr 3 tt) ?_
      obtain rfl := sI h
      exact roundB (gl [] [0, 1] (by kernel_rfl))
    replace h := h_else hb12 h
    refine W_exit_to ?_
    refine thenE ?_
    obtain rfl := sI h
    refine roundE ?_
    refine postS_l ?_
    exact postX_to (gl [] [] (by kernel_rfl))
  clear hp2
  rcases r8 with _ | r5
  · obtain ⟨rfl, hle⟩ := hq
    refine use_to ?_ hle
    refine blockE_eq ?_
    refine to_then ?_
    refine W_rs tbok ⟨[], []⟩ [] [] [(4, .bo true)] [] 0 0 [True] (by kernel_rfl) ⟨tt, tt⟩ ?_
    refine W_ret ?_
    obtain rfl := sI h
    exact Ret_intro [.bool] (by kernel_rfl)
  obtain ⟨rfl, hr⟩ := hq
  refine blockQ_ret ?_
  refine thenQ_ret ?_
  obtain rfl := sI h
  exact hr
theorem rr_SameExpr_ok : ∀ (n : Nat) (β2 β5 : Bool) (a1 a2 : Int) (a3 : List Tree) (b1 b2 : Int) (b3 : List Tree) (res : Bool), rr_SameExpr n a1 a2 a3 b1 b2 b3 = some res → Pure Try.prog 25 [.agg [.u8 a1, .u32 a2, .p β2 (.slice (.tree .u8 .u32)) a3], .agg [.u8 b1, .u32 b2, .p β5 (.slice (.tree .u8 .u32)) b3]] (wrapR (encs false [⟨.bool, res⟩]))
  | 0, _, _, _, _, _, _, _, _, _, h => by cases h
  | n + 1, β2, β5, a1, a2, a3, b1, b2, b3, res, h => rr_SameExpr_F_ok (rr_SameExpr n) (rr_SameExpr_ok n) β2 β5 a1 a2 a3 b1 b2 b3 res h
def rr_SameRules_L1 (d1 i1 : List (List UInt8)) : (Int) → Option ((Int) ⊕ ((Unit) ⊕ (Bool))) := fun (v3 : Int) =>
  (if (decide (v3 < (d1.length : Int))) = true then (if 0 ≤ v3 ∧ v3 < (d1.length : Int) then (if 0 ≤ v3 ∧ v3 < (i1.length : Int) then (if (!((d1.getD v3.toNat ([] : List UInt8)) == (i1.getD v3.toNat ([] : List UInt8)))) = true then some (Sum.inr (Sum.inr false))
  else some (Sum.inl (IntKind.i64.wrap (v3 + (1 : Int))))) else none) else none)
  else some (Sum.inr (Sum.inl ())))
def rr_SameRules_L2 (d5 i5 : List (Int × Tree × Tree)) : (Int) → Option ((Int) ⊕ ((Unit) ⊕ (Bool))) := fun (v7 : Int) =>
  (if (decide (v7 < (d5.length : Int))) = true then (((if 0 ≤ v7 ∧ v7 < (d5.length : Int) then (if 0 ≤ v7 ∧ v7 < (i5.length : Int) then (if (((d5.getD v7.toNat ((0 : Int), ((Tree.node 0 0 []), (Tree.node 0 0 [])))).1) != ((i5.getD v7.toNat ((0 : Int), ((Tree.node 0 0 []), (Tree.node 0 0 [])))).1)) = true then some (true)
  else (if 0 ≤ v7 ∧ v7 < (d5.length : Int) then (if 0 ≤ v7 ∧ v7 < (i5.length : Int) then ((rr_SameExpr 1000 (((d5.getD v7.toNat ((0 : Int), ((Tree.node 0 0 []), (Tree.node 0 0 [])))).2.1).op) (((d5.getD v7.toNat ((0 : Int), ((Tree.node 0 0 []), (Tree.node 0 0 [])))).2.1).set) (((d5.getD v7.toNat ((0 : Int), ((Tree.node 0 0 []), (Tree.node 0 0 [])))).2.1).kids) (((i5.getD v7.toNat ((0 : Int), ((Tree.node 0 0 []), (Tree.node 0 0 [])))).2.1).op) (((i5.getD v7.toNat ((0 : Int), ((Tree.node 0 0 []), (Tree.node 0 0 [])))).2.1).set) (((i5.getD v7.toNat ((0 : Int), ((Tree.node 0 0 []), (Tree.node 0 0 [])))).2.1).kids)).bind fun (r23 : Bool) =>
  (if (!r23) = true then some (true)
  else (if 0 ≤ v7 ∧ v7 < (d5.length : Int) then (if 0 ≤ v7 ∧ v7 < (i5.length : Int) then ((rr_SameExpr 1000 (((d5.getD v7.toNat ((0 : Int), ((Tree.node 0 0 []), (Tree.node 0 0 [])))).2.2).op) (((d5.getD v7.toNat ((0 : Int), ((Tree.node 0 0 []), (Tree.node 0 0 [])))).2.2).set) (((d5.getD v7.toNat ((0 : Int), ((Tree.node 0 0 []), (Tree.node 0 0 [])))).2.2).kids) (((i5.getD v7.toNat ((0 : Int), ((Tree.node 0 0 []), (Tree.node 0 0 [])))).2.2).op) (((i5.getD v7.toNat ((0 : Int), ((Tree.node 0 0 []), (Tree.node 0 0 [])))).2.2).set) (((i5.getD v7.toNat ((0 : Int), ((Tree.node 0 0 []), (Tree.node 0 0 [])))).2.2).kids)).bind fun (r24 : Bool) =>
  some ((!r24))) else none) else none))) else none) else none)) else none) else none)).bind fun (v8 : Bool) => (if v8 = true then some (Sum.inr (Sum.inr false))
  else some (Sum.inl (IntKind.i64.wrap (v7 + (1 : Int))))))
  else some (Sum.inr (Sum.inl ())))
def rr_SameRules (d1 : List (List UInt8)) (d2 d3 : Int) (d4 : List Int) (d5 : List (Int × Tree × Tree)) (i1 : List (List UInt8)) (i2 i3 : Int) (i4 : List Int) (i5 : List (Int × Tree × Tree)) : Option (Bool) :=
  (((if ((d1.length : Int) != (i1.length : Int)) = true then some (true)
  else (if (d2 != i2) = true then some (true)
  else (if (d3 != i3) = true then some (true)
  else ((ra_SameInts d4 i4).bind fun (r3 : Bool) =>
  (if (!r3) = true then some (true)
  else some (((d5.length : Int) != (i5.length : Int))))))))).bind fun (v1 : Bool) => (if v1 = true then some false
  else ((iter (rr_SameRules_L1 d1 i1) (0 : Int)).bind fun (r5 : ((Unit) ⊕ (Bool))) => match r5 with
  | .inl _ => ((iter (rr_SameRules_L2 d5 i5) (0 : Int)).bind fun (r25 : ((Unit) ⊕ (Bool))) => match r25 with
  | .inl _ => some true
  | .inr (r18) => some r18)
  | .inr (r4) => some r4)))
theorem rr_SameRules_ok (β0 β3 β4 β5 β8 β9 : Bool) (d1 : List (List UInt8)) (d2 d3 : Int) (d4 : List Int) (d5 : List (Int × Tree × Tree)) (i1 : List (List UInt8)) (i2 i3 : Int) (i4 : List Int) (i5 : List (Int × Tree × Tree)) (res : Bool) (h : rr_SameRules d1 d2 d3 d4 d5 i1 i2 i3 i4 i5 = some res) :
    Pure Try.prog 14 [.agg [.p β0 (.slice .str) d1, .u32 d2, .u32 d3, .p β3 (.slice (.int .i64)) d4, .p β4 (.slice (.prod (.int .u8) Y1)) d5], .agg [.p β5 (.slice .str) i1, .u32 i2, .u32 i3, .p β8 (.slice (.int .i64)) i4, .p β9 (.slice (.prod (.int .u8) Y1)) i5]] (wrapR (encs false [⟨.bool, res⟩])) := by
  refine Pure.of_body tbok Try.func14 (by kernel_rfl) rfl (nl rfl) (fun Bw w0 => ?_) rfl
  unfold rr_SameRules at h
  refine W_rs tbok ⟨[], []⟩ [] [0, 8] [(2, .adr 0 0 5 0), (3, .adr 1 0 5 0)] (ob80 β0 d1 d2 d3 β3 d4 β4 d5 β5 i1 i2 i3 β8 i4 β9 i5) 2 0 (Ts 3 []) (by kernel_rfl) (tr 3 tt) ?_
  refine W_seq ?_
  refine W_seq ?_
  obtain ⟨v1, hp1, h⟩ := h_bind h
  refine W.mono (Q := (postN Try.f14.ntmps (fun (v1 : Bool) => mkSt [(2, .adr 0 0 5 0), (3, .adr 1 0 5 0), (44, .bo v1)] (ob80 β0 d1 d2 d3 β3 d4 β4 d5 β5 i1 i2 i3 β8 i4 β9 i5) 2)) v1) ?_ (fun e σ' hq => ?_)
  · replace h := hp1
    clear hp1
    rcases bb ((d1.length : Int) != (i1.length : Int)) with hb9 | hb9
    · replace h := h_if hb9 h
      refine W_r tbok ⟨[(7, true), (13, true), (14, true), (20, true), (21, true), (28, true), (29, true), (37, true)], []⟩ [] [0, 1] [(2, .adr 0 0 5 0), (3, .adr 1 0 5 0), (44, .bo true)] (ob80 β0 d1 d2 d3 β3 d4 β4 d5 β5 i1 i2 i3 β8 i4 β9 i5) 2 0 (Ts 8 [((d1.length : Int) != (i1.length : Int)) = true, ((d1.length : Int) != (i1.length : Int)) = true, ((d1.length : Int) != (i1.length : Int)) = true, ((d1.length : Int) != (i1.length : Int)) = true, ((d1.length : Int) != (i1.length : Int)) = true, ((d1.length : Int) != (i1.length : Int)) = true, True, true = true, true = true, true = true, true = true, true = true, true = true, True, true = true, true = true, true = true, true = true, true = true, true = true, true = true, True, true = true, true = true, true = true, true = true, true = true, true = true, true = true, true = true]) (by kernel_rfl) (tr 8 ⟨hb9, hb9, hb9, hb9, hb9, hb9, tt, rfl, rfl, rfl, rfl, rfl, rfl, tt, rfl, rfl, rfl, rfl, rfl, rfl, rfl, tt, rfl, rfl, rfl, rfl, rfl, rfl, rfl, rfl, tt⟩) ?_
      obtain rfl := sI h
      exact postN_to (gl [] [0, 1] (by kernel_rfl))
    replace h := h_else hb9 h
    rcases bb (d2 != i2) with hb10 | hb10
    · replace h := h_if hb10 h
      refine W_r tbok ⟨[(7, false), (13, false), (14, true), (20, true), (21, true), (28, true), (29, true), (37, true)], []⟩ [] [0, 1] [(2, .adr 0 0 5 0), (3, .adr 1 0 5 0), (44, .bo true)] (ob80 β0 d1 d2 d3 β3 d4 β4 d5 β5 i1 i2 i3 β8 i4 β9 i5) 2 0 (Ts 8 [((d1.length : Int) != (i1.length : Int)) = false ∧ True, ((d1.length : Int) != (i1.length : Int)) = false ∧ True, ((d1.length : Int) != (i1.length : Int)) = false ∧ True, ((d1.length : Int) != (i1.length : Int)) = false ∧ True, ((d1.length : Int) != (i1.length : Int)) = false ∧ True, ((d1.length : Int) != (i1.length : Int)) = false, True, (d2 != i2) = true, (d2 != i2) = true, (d2 != i2) = true, (d2 != i2) = true, (d2 != i2) = true, (d2 != i2) = true, True, true = true, true = true, true = true, true = true, true = true, true = true, true = true, True, true = true, true = true, true = true, true = true, true = true, true = true, true = true, true = true]) (by kernel_rfl) (tr 8 ⟨⟨hb9, tt⟩, ⟨hb9, tt⟩, ⟨hb9, tt⟩, ⟨hb9, tt⟩, ⟨hb9, tt⟩, hb9, tt, hb10, hb10, hb10, hb10, hb10, hb10, tt, rfl, rfl, rfl, rfl, rfl, rfl, rfl, tt, rfl, rfl, rfl, rfl, rfl, rfl, rfl, rfl, tt⟩) ?_
      obtain rfl := sI h
      exact postN_to (gl [] [0, 1] (by kernel_rfl))
    replace h := h_else hb10 h
    rcases bb (d3 != i3) with hb11 | hb11
    · replace h := h_if hb11 h
      refine W_r tbok ⟨[(7, false), (13, false), (14, false), (20, false), (21, true), (28, true), (29, true), (37, true)], []⟩ [] [0, 1] [(2, .adr 0 0 5 0), (3, .adr 1 0 5 0), (44, .bo true)] (ob80 β0 d1 d2 d3 β3 d4 β4 d5 β5 i1 i2 i3 β8 i4 β9 i5) 2 0 (Ts 8 [((d1.length : Int) != (i1.length : Int)) = false ∧ True, ((d1.length : Int) != (i1.length : Int)) = false ∧ True, ((d1.length : Int) != (i1.length : Int)) = false ∧ True, ((d1.length : Int) != (i1.length : Int)) = false ∧ True, ((d1.length : Int) != (i1.length : Int)) = false ∧ True, ((d1.length : Int) != (i1.length : Int)) = false, True, (d2 != i2) = false ∧ True, (d2 != i2) = false ∧ True, (d2 != i2) = false ∧ True, (d2 != i2) = false ∧ True, (d2 != i2) = false ∧ True, (d2 != i2) = false, True, (d3 != i3) = true, (d3 != i3) = true, (d3 != i3) = true, (d3 != i3) = true, (d3 != i3) = true, (d3 != i3) = true, (d3 != i3) = true, True, true = true, true = true, true = true, true = true, true = true, true = true, true = true, true = true]) (by kernel_rfl) (tr 8 ⟨⟨hb9, tt⟩, ⟨hb9, tt⟩, ⟨hb9, tt⟩, ⟨hb9, tt⟩, ⟨hb9, tt⟩, hb9, tt, ⟨hb10, tt⟩, ⟨hb10, tt⟩, ⟨hb10, tt⟩, ⟨hb10, tt⟩, ⟨hb10, tt⟩, hb10, tt, hb11, hb11, hb11, hb11, hb11, hb11, hb11, tt, rfl, rfl, rfl, rfl, rfl, rfl, rfl, rfl, tt⟩) ?_
      obtain rfl := sI h
      exact postN_to (gl [] [0, 1] (by kernel_rfl))
    replace h := h_else hb11 h
    obtain ⟨r3, q3, h⟩ := h_bind h
    rcases bb (!r3) with hb12 | hb12
    · replace h := h_if hb12 h
      have u_1 := (ra_SameInts_ok β3 β8 d4 i4 _ q3)
      refine W_r tbok ⟨[(7, false), (13, false), (14, false), (20, false), (21, false), (28, false), (29, true), (37, true)], [(26, ⟨.bo r3, [false, false], false, [true, true], [], [], none⟩)]⟩ [] [0, 1] [(2, .adr 0 0 5 0), (3, .adr 1 0 5 0), (44, .bo true)] (ob80 β0 d1 d2 d3 β3 d4 β4 d5 β5 i1 i2 i3 β8 i4 β9 i5) 2 0 (Ts 8 [((d1.length : Int) != (i1.length : Int)) = false ∧ True, ((d1.length : Int) != (i1.length : Int)) = false ∧ True, ((d1.length : Int) != (i1.length : Int)) = false ∧ True, ((d1.length : Int) != (i1.length : Int)) = false ∧ True, ((d1.length : Int) != (i1.length : Int)) = false ∧ True, ((d1.length : Int) != (i1.length : Int)) = false, True, (d2 != i2) = false ∧ True, (d2 != i2) = false ∧ True, (d2 != i2) = false ∧ True, (d2 != i2) = false ∧ True, (d2 != i2) = false ∧ True, (d2 != i2) = false, True, (d3 != i3) = false ∧ True, (d3 != i3) = false ∧ True, (d3 != i3) = false ∧ True, (d3 != i3) = false ∧ True, (d3 != i3) = false ∧ pO u_1, (d3 != i3) = false ∧ True, (d3 != i3) = false, True, (!r3) = true, (!r3) = true, (!r3) = true, (!r3) = true, (!r3) = true, (!r3) = true, (!r3) = true, (!r3) = true]) (by kernel_rfl) (tr 8 ⟨⟨hb9, tt⟩, ⟨hb9, tt⟩, ⟨hb9, tt⟩, ⟨hb9, tt⟩, ⟨hb9, tt⟩, hb9, tt, ⟨hb10, tt⟩, ⟨hb10, tt⟩, ⟨hb10, tt⟩, ⟨hb10, tt⟩, ⟨hb10, tt⟩, hb10, tt, ⟨hb11, tt⟩, ⟨hb11, tt⟩, ⟨hb11, tt⟩, ⟨hb11, tt⟩, ⟨hb11, u_1⟩, ⟨hb11, tt⟩, hb11, tt, hb12, hb12, hb12, hb12, hb12, hb12, hb12, hb12, tt⟩) ?_
      obtain rfl := sI h
      exact postN_to (gl [] [0, 1] (by kernel_rfl))
    replace h := h_else hb12 h
    have u_1 := (ra_SameInts_ok β3 β8 d4 i4 _ q3)
    refine W_r tbok ⟨[(7, false), (13, false), (14, false), (20, false), (21, false), (28, false), (29, false), (37, false)], [(26, ⟨.bo r3, [false, false], false, [true, true], [], [], none⟩)]⟩ [] [0, 1] [(2, .adr 0 0 5 0), (3, .adr 1 0 5 0), (44, .bo ((d5.length : Int) != (i5.length : Int)))] (ob80 β0 d1 d2 d3 β3 d4 β4 d5 β5 i1 i2 i3 β8 i4 β9 i5) 2 0 (Ts 8 [((d1.length : Int) != (i1.length : Int)) = false ∧ True, ((d1.length : Int) != (i1.length : Int)) = false ∧ True, ((d1.length : Int) != (i1.length : Int)) = false ∧ True, ((d1.length : Int) != (i1.length : Int)) = false ∧ True, ((d1.length : Int) != (i1.length : Int)) = false ∧ True, ((d1.length : Int) != (i1.length : Int)) = false, True, (d2 != i2) = false ∧ True, (d2 != i2) = false ∧ True, (d2 != i2) = false ∧ True, (d2 != i2) = false ∧ True, (d2 != i2) = false ∧ True, (d2 != i2) = false, True, (d3 != i3) = false ∧ True, (d3 != i3) = false ∧ True, (d3 != i3) = false ∧ True, (d3 != i3) = false ∧ True, (d3 != i3) = false ∧ pO u_1, (d3 != i3) = false ∧ True, (d3 != i3) = false, True, (!r3) = false ∧ True, (!r3) = false ∧ True, (!r3) = false ∧ True, (!r3) = false ∧ True, (!r3) = false ∧ True, (!r3) = false ∧ True, (!r3) = false ∧ True, (!r3) = false]) (by kernel_rfl) (tr 8 ⟨⟨hb9, tt⟩, ⟨hb9, tt⟩, ⟨hb9, tt⟩, ⟨hb9, tt⟩, ⟨hb9, tt⟩, hb9, tt, ⟨hb10, tt⟩, ⟨hb10, tt⟩, ⟨hb10, tt⟩, ⟨hb10, tt⟩, ⟨hb10, tt⟩, hb10, tt, ⟨hb11, tt⟩, ⟨hb11, tt⟩, ⟨hb11, tt⟩, ⟨hb11, tt⟩, ⟨hb11, u_1⟩, ⟨hb11, tt⟩, hb11, tt, ⟨hb12, tt⟩, ⟨hb12, tt⟩, ⟨hb12, tt⟩, ⟨hb12, tt⟩, ⟨hb12, tt⟩, ⟨hb12, tt⟩, ⟨hb12, tt⟩, hb12, tt⟩) ?_
    obtain rfl := sI h
    exact postN_to (gl [] [0, 1] (by kernel_rfl))
  clear hp1
  obtain ⟨rfl, hle⟩ := hq
  refine use_to ?_ hle
  refine to_then ?_
  refine W_cond (b := v1) (β := false) (by kernel_rfl) (fun hb13 => ?_) (fun hb13 => ?_)
  · replace h := h_if hb13 h
    refine W_rs tbok ⟨[], []⟩ [] [] [(4, .bo false)] [] 0 0 [True] (by kernel_rfl) ⟨tt, tt⟩ ?_
    refine W_ret ?_
    refine thenQ_ret ?_
    obtain rfl := sI h
    exact Ret_intro [.bool] (by kernel_rfl)
  replace h := h_else hb13 h
  refine W_skip_to ?_
  refine to_then ?_
  refine W_seq ?_
  refine W_rs tbok ⟨[], []⟩ [] [0, 1] [(2, .adr 0 0 5 0), (3, .adr 1 0 5 0), (5, .i64 (0 : Int))] (ob80 β0 d1 d2 d3 β3 d4 β4 d5 β5 i1 i2 i3 β8 i4 β9 i5) 2 0 [True] (by kernel_rfl) ⟨tt, tt⟩ ?_
  refine W_block ?_
  obtain ⟨r5, hp2, h⟩ := h_bind h
  refine W.mono (Q := (postS (postX Try.f14.ntmps 0 (fun (_ : Unit) => mkSt [(2, .adr 0 0 5 0), (3, .adr 1 0 5 0)] (ob80 β0 d1 d2 d3 β3 d4 β4 d5 β5 i1 i2 i3 β8 i4 β9 i5) 2)) (postR tb Try.f14.results.toList (fun (r4 : Bool) => [⟨.bool, r4⟩]))) r5) (W_iter (f := fun (v3 : Int) => mkSt [(2, .adr 0 0 5 0), (3, .adr 1 0 5 0), (5, .i64 v3)] (ob80 β0 d1 d2 d3 β3 d4 β4 d5 β5 i1 i2 i3 β8 i4 β9 i5) 2) (Q := (postS (postX Try.f14.ntmps 0 (fun (_ : Unit) => mkSt [(2, .adr 0 0 5 0), (3, .adr 1 0 5 0)] (ob80 β0 d1 d2 d3 β3 d4 β4 d5 β5 i1 i2 i3 β8 i4 β9 i5) 2)) (postR tb Try.f14.results.toList (fun (r4 : Bool) => [⟨.bool, r4⟩])))) hp2 (gl [] [0, 1] (by kernel_rfl)) (fun v3 o ho => ?_)) (fun e σ' hq => ?_)
  · replace h := ho
    clear ho hp2
    unfold rr_SameRules_L1 at h
    refine W_seq ?_
    refine W_rs tbok ⟨[], []⟩ [] [0, 1] [(2, .adr 0 0 5 0), (3, .adr 1 0 5 0), (5, .i64 v3), (49, .bo (decide (v3 < (d1.length : Int))))] (ob80 β0 d1 d2 d3 β3 d4 β4 d5 β5 i1 i2 i3 β8 i4 β9 i5) 2 0 (Ts 5 []) (by kernel_rfl) (tr 5 tt) ?_
    refine W_cond (b := (decide (v3 < (d1.length : Int)))) (β := false) (by kernel_rfl) (fun hb18 => ?_) (fun hb18 => ?_)
    · replace h := h_if hb18 h
      refine W_skip_to ?_
      refine to_then ?_
      refine W_seq ?_
      refine W_block ?_
      refine W_seq ?_
      obtain ⟨c11, h⟩ := h_guard h
      obtain ⟨c12, h⟩ := h_guard h
      refine W_regD tbok mixed ⟨[], []⟩ [] [0, 1] [(2, .adr 0 0 5 0), (3, .adr 1 0 5 0), (5, .i64 v3), (62, .bo (!((d1.getD v3.toNat ([] : List UInt8)) == (i1.getD v3.toNat ([] : List UInt8)))))] (ob80 β0 d1 d2 d3 β3 d4 β4 d5 β5 i1 i2 i3 β8 i4 β9 i5) 2 0 (Ts 3 ((0 ≤ v3 ∧ v3 < (d1.length : Int)) :: (Ts 4 [0 ≤ v3 ∧ v3 < (i1.length : Int), True, True]))) (by kernel_rfl) (by kernel_rfl) (tr 3 ⟨c11, (tr 4 ⟨c12, tt, tt, tt⟩)⟩) ?_
      refine to_then ?_
      refine W_cond (b := (!((d1.getD v3.toNat ([] : List UInt8)) == (i1.getD v3.toNat ([] : List UInt8))))) (β := false) (by kernel_rfl) (fun hb19 => ?_) (fun hb19 => ?_)
      · replace h := h_if hb19 h
        refine W_rs tbok ⟨[], []⟩ [] [] [(4, .bo false)] [] 0 0 [True] (by kernel_rfl) ⟨tt, tt⟩ ?_
        refine W_ret ?_
        obtain rfl := sI h
        refine blockQ_ret ?_
        refine thenQ_ret ?_
        refine round_ret ?_
        refine postS_rr ?_
        exact postR_mk (Ret_intro [.bool] (by kernel_rfl))
      replace h := h_else hb19 h
      refine W_skip_to ?_
      refine to_block ?_
      refine to_then ?_
      refine W_r tbok ⟨[], []⟩ [] [0, 1] [(2, .adr 0 0 5 0), (3, .adr 1 0 5 0), (5, .i64 (IntKind.i64.wrap (v3 + (1 : Int))))] (ob80 β0 d1 d2 d3 β3 d4 β4 d5 β5 i1 i2 i3 β8 i4 β9 i5) 2 0 (Ts 3 []) (by kernel_rfl) (tr 3 tt) ?_
      obtain rfl := sI h
      exact roundB (gl [] [0, 1] (by kernel_rfl))
    replace h := h_else hb18 h
    refine W_exit_to ?_
    refine thenE ?_
    obtain rfl := sI h
    refine roundE ?_
    refine postS_l ?_
    exact postX_to (gl [] [0, 1] (by kernel_rfl))
  clear hp2
  rcases r5 with _ | r4
  · obtain ⟨rfl, hle⟩ := hq
    refine use_to ?_ hle
    refine blockE_eq ?_
    refine to_then ?_
    refine W_seq ?_
    refine W_rs tbok ⟨[], []⟩ [] [0, 1] [(2, .adr 0 0 5 0), (3, .adr 1 0 5 0), (6, .i64 (0 : Int))] (ob80 β0 d1 d2 d3 β3 d4 β4 d5 β5 i1 i2 i3 β8 i4 β9 i5) 2 0 [True] (by kernel_rfl) ⟨tt, tt⟩ ?_
    refine W_block ?_
    obtain ⟨r25, hp6, h⟩ := h_bind h
    refine W.mono (Q := (postS (postX Try.f14.ntmps 2 (fun (_ : Unit) => mkSt [] [] 0)) (postR tb Try.f14.results.toList (fun (r18 : Bool) => [⟨.bool, r18⟩]))) r25) (W_iter (f := fun (v7 : Int) => mkSt [(2, .adr 0 0 5 0), (3, .adr 1 0 5 0), (6, .i64 v7)] (ob80 β0 d1 d2 d3 β3 d4 β4 d5 β5 i1 i2 i3 β8 i4 β9 i5) 2) (Q := (postS (postX Try.f14.ntmps 2 (fun (_ : Unit) => mkSt [] [] 0)) (postR tb Try.f14.results.toList (fun (r18 : Bool) => [⟨.bool, r18⟩])))) hp6 (gl [] [0, 1] (by kernel_rfl)) (fun v7 o ho => ?_)) (fun e σ' hq => ?_)
    · replace h := ho
      clear ho hp6
      unfold rr_SameRules_L2 at h
      refine W_seq ?_
      refine W_rs tbok ⟨[], []⟩ [] [0, 1] [(2, .adr 0 0 5 0), (3, .adr 1 0 5 0), (6, .i64 v7), (67, .bo (decide (v7 < (d5.length : Int))))] (ob80 β0 d1 d2 d3 β3 d4 β4 d5 β5 i1 i2 i3 β8 i4 β9 i5) 2 0 (Ts 5 []) (by kernel_rfl) (tr 5 tt) ?_
      refine W_cond (b := (decide (v7 < (d5.length : Int)))) (β := false) (by kernel_rfl) (fun hb36 => ?_) (fun hb36 => ?_)
      · replace h := h_if hb36 h
        refine W_skip_to ?_
        refine to_then ?_
        refine W_seq ?_
        refine W_block ?_
        refine W_seq ?_
        obtain ⟨v8, hp5, h⟩ := h_bind h
        refine W.mono (Q := (postN Try.f14.ntmps (fun (v8 : Bool) => mkSt [(2, .adr 0 0 5 0), (3, .adr 1 0 5 0), (6, .i64 v7), (114, .bo v8)] (ob80 β0 d1 d2 d3 β3 d4 β4 d5 β5 i1 i2 i3 β8 i4 β9 i5) 2)) v8) ?_ (fun e σ' hq => ?_)
        · replace h := hp5
          clear hp5
          obtain ⟨c61, h⟩ := h_guard h
          obtain ⟨c62, h⟩ := h_guard h
          rcases bb (((d5.getD v7.toNat ((0 : Int), ((Tree.node 0 0 []), (Tree.node 0 0 [])))).1) != ((i5.getD v7.toNat ((0 : Int), ((Tree.node 0 0 []), (Tree.node 0 0 [])))).1)) with hb41 | hb41
          · replace h := h_if hb41 h
            refine W_regD tbok mixed ⟨[(13, true), (28, true), (29, true), (44, true)], []⟩ [] [0, 1] [(2, .adr 0 0 5 0), (3, .adr 1 0 5 0), (6, .i64 v7), (114, .bo true)] (ob80 β0 d1 d2 d3 β3 d4 β4 d5 β5 i1 i2 i3 β8 i4 β9 i5) 2 0 (Ts 3 ((0 ≤ v7 ∧ v7 < (d5.length : Int)) :: (Ts 5 ((0 ≤ v7 ∧ v7 < (i5.length : Int)) :: (Ts 4 [(((d5.getD v7.toNat ((0 : Int), ((Tree.node 0 0 []), (Tree.node 0 0 [])))).1) != ((i5.getD v7.toNat ((0 : Int), ((Tree.node 0 0 []), (Tree.node 0 0 [])))).1)) = true, (((d5.getD v7.toNat ((0 : Int), ((Tree.node 0 0 []), (Tree.node 0 0 [])))).1) != ((i5.getD v7.toNat ((0 : Int), ((Tree.node 0 0 []), (Tree.node 0 0 [])))).1)) = true, (((d5.getD v7.toNat ((0 : Int), ((Tree.node 0 0 []), (Tree.node 0 0 [])))).1) != ((i5.getD v7.toNat ((0 : Int), ((Tree.node 0 0 []), (Tree.node 0 0 [])))).1)) = true, (((d5.getD v7.toNat ((0 : Int), ((Tree.node 0 0 []), (Tree.node 0 0 [])))).1) != ((i5.getD v7.toNat ((0 : Int), ((Tree.node 0 0 []), (Tree.node 0 0 [])))).1)) = true, (((d5.getD v7.toNat ((0 : Int), ((Tree.node 0 0 []), (Tree.node 0 0 [])))).1) != ((i5.getD v7.toNat ((0 : Int), ((Tree.node 0 0 []), (Tree.node 0 0 [])))).1)) = true, (((d5.getD v7.toNat ((0 : Int), ((Tree.node 0 0 []), (Tree.node 0 0 [])))).1) != ((i5.getD v7.toNat ((0 : Int), ((Tree.node 0 0 []), (Tree.node 0 0 [])))).1)) = true, (((d5.getD v7.toNat ((0 : Int), ((Tree.node 0 0 []), (Tree.node 0 0 [])))).1) != ((i5.getD v7.toNat ((0 : Int), ((Tree.node 0 0 []), (Tree.node 0 0 [])))).1)) = true, (((d5.getD v7.toNat ((0 : Int), ((Tree.node 0 0 []), (Tree.node 0 0 [])))).1) != ((i5.getD v7.toNat ((0 : Int), ((Tree.node 0 0 []), (Tree.node 0 0 [])))).1)) = true, (((d5.getD v7.toNat ((0 : Int), ((Tree.node 0 0 []), (Tree.node 0 0 [])))).1) != ((i5.getD v7.toNat ((0 : Int), ((Tree.node 0 0 []), (Tree.node 0 0 [])))).1)) = true, (((d5.getD v7.toNat ((0 : Int), ((Tree.node 0 0 []), (Tree.node 0 0 [])))).1) != ((i5.getD v7.toNat ((0 : Int), ((Tree.node 0 0 []), (Tree.node 0 0 [])))).1)) = true, (((d5.getD v7.toNat ((0 : Int), ((Tree.node 0 0 []), (Tree.node 0 0 [])))).1) != ((i5.getD v7.toNat ((0 : Int), ((Tree.node 0 0 []), (Tree.node 0 0 [])))).1)) = true, (((d5.getD v7.toNat ((0 : Int), ((Tree.node 0 0 []), (Tree.node 0 0 [])))).1) != ((i5.getD v7.toNat ((0 : Int), ((Tree.node 0 0 []), (Tree.node 0 0 [])))).1)) = true, (((d5.getD v7.toNat ((0 : Int), ((Tree.node 0 0 []), (Tree.node 0 0 [])))).1) != ((i5.getD v7.toNat ((0 : Int), ((Tree.node 0 0 []), (Tree.node 0 0 [])))).1)) = true, (((d5.getD v7.toNat ((0 : Int), ((Tree.node 0 0 []), (Tree.node 0 0 [])))).1) != ((i5.getD v7.toNat ((0 : Int), ((Tree.node 0 0 []), (Tree.node 0 0 [])))).1)) = true, (((d5.getD v7.toNat ((0 : Int), ((Tree.node 0 0 []), (Tree.node 0 0 [])))).1) != ((i5.getD v7.toNat ((0 : Int), ((Tree.node 0 0 []), (Tree.node 0 0 [])))).1)) = true, True, true = true, true = true, true = true, true = true, true = true, true = true, true = true, true = true, true = true, true = true, true = true, true = true, true = true, true = true, true = true]))))) (by kernel_rfl) (by kernel_rfl) (tr 3 ⟨c61, (tr 5 ⟨c62, (tr 4 ⟨hb41, hb41, hb41, hb41, hb41, hb41, hb41, hb41, hb41, hb41, hb41, hb41, hb41, hb41, hb41, tt, rfl, rfl, rfl, rfl, rfl, rfl, rfl, rfl, rfl, rfl, rfl, rfl, rfl, rfl, rfl, tt⟩)⟩)⟩) ?_
            obtain rfl := sI h
            exact postN_to (gl [] [0, 1] (by kernel_rfl))
          replace h := h_else hb41 h
          obtain ⟨c63, h⟩ := h_guard h
          obtain ⟨c64, h⟩ := h_guard h
          obtain ⟨r23, q20, h⟩ := h_bind h
          rcases bb (!r23) with hb42 | hb42
          · replace h := h_if hb42 h
            have u_1 := (rr_SameExpr_ok 1000 β4 β9 (((d5.getD v7.toNat ((0 : Int), ((Tree.node 0 0 []), (Tree.node 0 0 [])))).2.1).op) (((d5.getD v7.toNat ((0 : Int), ((Tree.node 0 0 []), (Tree.node 0 0 [])))).2.1).set) (((d5.getD v7.toNat ((0 : Int), ((Tree.node 0 0 []), (Tree.node 0 0 [])))).2.1).kids) (((i5.getD v7.toNat ((0 : Int), ((Tree.node 0 0 []), (Tree.node 0 0 [])))).2.1).op) (((i5.getD v7.toNat ((0 : Int), ((Tree.node 0 0 []), (Tree.node 0 0 [])))).2.1).set) (((i5.getD v7.toNat ((0 : Int), ((Tree.node 0 0 []), (Tree.node 0 0 [])))).2.1).kids) _ q20)
            refine W_regD tbok mixed ⟨[(13, false), (28, false), (29, true), (44, true)], [(26, ⟨.bo r23, [false, false], false, [true, true], [], [], none⟩)]⟩ [] [0, 1] [(2, .adr 0 0 5 0), (3, .adr 1 0 5 0), (6, .i64 v7), (114, .bo true)] (ob80 β0 d1 d2 d3 β3 d4 β4 d5 β5 i1 i2 i3 β8 i4 β9 i5) 2 0 (Ts 3 ((0 ≤ v7 ∧ v7 < (d5.length : Int)) :: (Ts 5 ((0 ≤ v7 ∧ v7 < (i5.length : Int)) :: (Ts 4 [(((d5.getD v7.toNat ((0 : Int), ((Tree.node 0 0 []), (Tree.node 0 0 [])))).1) != ((i5.getD v7.toNat ((0 : Int), ((Tree.node 0 0 []), (Tree.node 0 0 [])))).1)) = false ∧ True, (((d5.getD v7.toNat ((0 : Int), ((Tree.node 0 0 []), (Tree.node 0 0 [])))).1) != ((i5.getD v7.toNat ((0 : Int), ((Tree.node 0 0 []), (Tree.node 0 0 [])))).1)) = false ∧ True, (((d5.getD v7.toNat ((0 : Int), ((Tree.node 0 0 []), (Tree.node 0 0 [])))).1) != ((i5.getD v7.toNat ((0 : Int), ((Tree.node 0 0 []), (Tree.node 0 0 [])))).1)) = false ∧ True, (((d5.getD v7.toNat ((0 : Int), ((Tree.node 0 0 []), (Tree.node 0 0 [])))).1) != ((i5.getD v7.toNat ((0 : Int), ((Tree.node 0 0 []), (Tree.node 0 0 [])))).1)) = false ∧ 0 ≤ v7 ∧ v7 < (d5.length : Int), (((d5.getD v7.toNat ((0 : Int), ((Tree.node 0 0 []), (Tree.node 0 0 [])))).1) != ((i5.getD v7.toNat ((0 : Int), ((Tree.node 0 0 []), (Tree.node 0 0 [])))).1)) = false ∧ True, (((d5.getD v7.toNat ((0 : Int), ((Tree.node 0 0 []), (Tree.node 0 0 [])))).1) != ((i5.getD v7.toNat ((0 : Int), ((Tree.node 0 0 []), (Tree.node 0 0 [])))).1)) = false ∧ True, (((d5.getD v7.toNat ((0 : Int), ((Tree.node 0 0 []), (Tree.node 0 0 [])))).1) != ((i5.getD v7.toNat ((0 : Int), ((Tree.node 0 0 []), (Tree.node 0 0 [])))).1)) = false ∧ True, (((d5.getD v7.toNat ((0 : Int), ((Tree.node 0 0 []), (Tree.node 0 0 [])))).1) != ((i5.getD v7.toNat ((0 : Int), ((Tree.node 0 0 []), (Tree.node 0 0 [])))).1)) = false ∧ True, (((d5.getD v7.toNat ((0 : Int), ((Tree.node 0 0 []), (Tree.node 0 0 [])))).1) != ((i5.getD v7.toNat ((0 : Int), ((Tree.node 0 0 []), (Tree.node 0 0 [])))).1)) = false ∧ True, (((d5.getD v7.toNat ((0 : Int), ((Tree.node 0 0 []), (Tree.node 0 0 [])))).1) != ((i5.getD v7.toNat ((0 : Int), ((Tree.node 0 0 []), (Tree.node 0 0 [])))).1)) = false ∧ 0 ≤ v7 ∧ v7 < (i5.length : Int), (((d5.getD v7.toNat ((0 : Int), ((Tree.node 0 0 []), (Tree.node 0 0 [])))).1) != ((i5.getD v7.toNat ((0 : Int), ((Tree.node 0 0 []), (Tree.node 0 0 [])))).1)) = false ∧ True, (((d5.getD v7.toNat ((0 : Int), ((Tree.node 0 0 []), (Tree.node 0 0 [])))).1) != ((i5.getD v7.toNat ((0 : Int), ((Tree.node 0 0 []), (Tree.node 0 0 [])))).1)) = false ∧ True, (((d5.getD v7.toNat ((0 : Int), ((Tree.node 0 0 []), (Tree.node 0 0 [])))).1) != ((i5.getD v7.toNat ((0 : Int), ((Tree.node 0 0 []), (Tree.node 0 0 [])))).1)) = false ∧ pO u_1, (((d5.getD v7.toNat ((0 : Int), ((Tree.node 0 0 []), (Tree.node 0 0 [])))).1) != ((i5.getD v7.toNat ((0 : Int), ((Tree.node 0 0 []), (Tree.node 0 0 [])))).1)) = false ∧ True, (((d5.getD v7.toNat ((0 : Int), ((Tree.node 0 0 []), (Tree.node 0 0 [])))).1) != ((i5.getD v7.toNat ((0 : Int), ((Tree.node 0 0 []), (Tree.node 0 0 [])))).1)) = false, True, (!r23) = true, (!r23) = true, (!r23) = true, (!r23) = true, (!r23) = true, (!r23) = true, (!r23) = true, (!r23) = true, (!r23) = true, (!r23) = true, (!r23) = true, (!r23) = true, (!r23) = true, (!r23) = true, (!r23) = true]))))) (by kernel_rfl) (by kernel_rfl) (tr 3 ⟨c61, (tr 5 ⟨c62, (tr 4 ⟨⟨hb41, tt⟩, ⟨hb41, tt⟩, ⟨hb41, tt⟩, ⟨hb41, c63⟩, ⟨hb41, tt⟩, ⟨hb41, tt⟩, ⟨hb41, tt⟩, ⟨hb41, tt⟩, ⟨hb41, tt⟩, ⟨hb41, c64⟩, ⟨hb41, tt⟩, ⟨hb41, tt⟩, ⟨hb41, u_1⟩, ⟨hb41, tt⟩, hb41, tt, hb42, hb42, hb42, hb42, hb42, hb42, hb42, hb42, hb42, hb42, hb42, hb42, hb42, hb42, hb42, tt⟩)⟩)⟩) ?_
            obtain rfl := sI h
            exact postN_to (gl [] [0, 1] (by kernel_rfl))
          replace h := h_else hb42 h
          obtain ⟨c65, h⟩ := h_guard h
          obtain ⟨c66, h⟩ := h_guard h
          obtain ⟨r24, q21, h⟩ := h_bind h
          have u_1 := (rr_SameExpr_ok 1000 β4 β9 (((d5.getD v7.toNat ((0 : Int), ((Tree.node 0 0 []), (Tree.node 0 0 [])))).2.1).op) (((d5.getD v7.toNat ((0 : Int), ((Tree.node 0 0 []), (Tree.node 0 0 [])))).2.1).set) (((d5.getD v7.toNat ((0 : Int), ((Tree.node 0 0 []), (Tree.node 0 0 [])))).2.1).kids) (((i5.getD v7.toNat ((0 : Int), ((Tree.node 0 0 []), (Tree.node 0 0 [])))).2.1).op) (((i5.getD v7.toNat ((0 : Int), ((Tree.node 0 0 []), (Tree.node 0 0 [])))).2.1).set) (((i5.getD v7.toNat ((0 : Int), ((Tree.node 0 0 []), (Tree.node 0 0 [])))).2.1).kids) _ q20)
          have u_2 := (rr_SameExpr_ok 1000 β4 β9 (((d5.getD v7.toNat ((0 : Int), ((Tree.node 0 0 []), (Tree.node 0 0 [])))).2.2).op) (((d5.getD v7.toNat ((0 : Int), ((Tree.node 0 0 []), (Tree.node 0 0 [])))).2.2).set) (((d5.getD v7.toNat ((0 : Int), ((Tree.node 0 0 []), (Tree.node 0 0 [])))).2.2).kids) (((i5.getD v7.toNat ((0 : Int), ((Tree.node 0 0 []), (Tree.node 0 0 [])))).2.2).op) (((i5.getD v7.toNat ((0 : Int), ((Tree.node 0 0 []), (Tree.node 0 0 [])))).2.2).set) (((i5.getD v7.toNat ((0 : Int), ((Tree.node 0 0 []), (Tree.node 0 0 [])))).2.2).kids) _ q21)
          refine W_regD tbok mixed ⟨[(13, false), (28, false), (29, false), (44, false)], [(26, ⟨.bo r23, [false, false], false, [true, true], [], [], none⟩), (42, ⟨.bo r24, [false, false], false, [true, true], [], [], none⟩)]⟩ [] [0, 1] [(2, .adr 0 0 5 0), (3, .adr 1 0 5 0), (6, .i64 v7), (114, .bo (!r24))] (ob80 β0 d1 d2 d3 β3 d4 β4 d5 β5 i1 i2 i3 β8 i4 β9 i5) 2 0 (Ts 3 ((0 ≤ v7 ∧ v7 < (d5.length : Int)) :: (Ts 5 ((0 ≤ v7 ∧ v7 < (i5.length : Int)) :: (Ts 4 [(((d5.getD v7.toNat ((0 : Int), ((Tree.node 0 0 []), (Tree.node 0 0 [])))).1) != ((i5.getD v7.toNat ((0 : Int), ((Tree.node 0 0 []), (Tree.node 0 0 [])))).1)) = false ∧ True, (((d5.getD v7.toNat ((0 : Int), ((Tree.node 0 0 []), (Tree.node 0 0 [])))).1) != ((i5.getD v7.toNat ((0 : Int), ((Tree.node 0 0 []), (Tree.node 0 0 [])))).1)) = false ∧ True, (((d5.getD v7.toNat ((0 : Int), ((Tree.node 0 0 []), (Tree.node 0 0 [])))).1) != ((i5.getD v7.toNat ((0 : Int), ((Tree.node 0 0 []), (Tree.node 0 0 [])))).1)) = false ∧ True, (((d5.getD v7.toNat ((0 : Int), ((Tree.node 0 0 []), (Tree.node 0 0 [])))).1) != ((i5.getD v7.toNat ((0 : Int), ((Tree.node 0 0 []), (Tree.node 0 0 [])))).1)) = false ∧ 0 ≤ v7 ∧ v7 < (d5.length : Int), (((d5.getD v7.toNat ((0 : Int), ((Tree.node 0 0 []), (Tree.node 0 0 [])))).1) != ((i5.getD v7.toNat ((0 : Int), ((Tree.node 0 0 []), (Tree.node 0 0 [])))).1)) = false ∧ True, (((d5.getD v7.toNat ((0 : Int), ((Tree.node 0 0 []), (Tree.node 0 0 [])))).1) != ((i5.getD v7.toNat ((0 : Int), ((Tree.node 0 0 []), (Tree.node 0 0 [])))).1)) = false ∧ True, (((d5.getD v7.toNat ((0 : Int), ((Tree.node 0 0 []), (Tree.node 0 0 [])))).1) != ((i5.getD v7.toNat ((0 : Int), ((Tree.node 0 0 []), (Tree.node 0 0 [])))).1)) = false ∧ True, (((d5.getD v7.toNat ((0 : Int), ((Tree.node 0 0 []), (Tree.node 0 0 [])))).1) != ((i5.getD v7.toNat ((0 : Int), ((Tree.node 0 0 []), (Tree.node 0 0 [])))).1)) = false ∧ True, (((d5.getD v7.toNat ((0 : Int), ((Tree.node 0 0 []), (Tree.node 0 0 [])))).1) != ((i5.getD v7.toNat ((0 : Int), ((Tree.node 0 0 []), (Tree.node 0 0 [])))).1)) = false ∧ True, (((d5.getD v7.toNat ((0 : Int), ((Tree.node 0 0 []), (Tree.node 0 0 [])))).1) != ((i5.getD v7.toNat ((0 : Int), ((Tree.node 0 0 []), (Tree.node 0 0 [])))).1)) = false ∧ 0 ≤ v7 ∧ v7 < (i5.length : Int), (((d5.getD v7.toNat ((0 : Int), ((Tree.node 0 0 []), (Tree.node 0 0 [])))).1) != ((i5.getD v7.toNat ((0 : Int), ((Tree.node 0 0 []), (Tree.node 0 0 [])))).1)) = false ∧ True, (((d5.getD v7.toNat ((0 : Int), ((Tree.node 0 0 []), (Tree.node 0 0 [])))).1) != ((i5.getD v7.toNat ((0 : Int), ((Tree.node 0 0 []), (Tree.node 0 0 [])))).1)) = false ∧ True, (((d5.getD v7.toNat ((0 : Int), ((Tree.node 0 0 []), (Tree.node 0 0 [])))).1) != ((i5.getD v7.toNat ((0 : Int), ((Tree.node 0 0 []), (Tree.node 0 0 [])))).1)) = false ∧ pO u_1, (((d5.getD v7.toNat ((0 : Int), ((Tree.node 0 0 []), (Tree.node 0 0 [])))).1) != ((i5.getD v7.toNat ((0 : Int), ((Tree.node 0 0 []), (Tree.node 0 0 [])))).1)) = false ∧ True, (((d5.getD v7.toNat ((0 : Int), ((Tree.node 0 0 []), (Tree.node 0 0 [])))).1) != ((i5.getD v7.toNat ((0 : Int), ((Tree.node 0 0 []), (Tree.node 0 0 [])))).1)) = false, True, (!r23) = false ∧ True, (!r23) = false ∧ True, (!r23) = false ∧ True, (!r23) = false ∧ 0 ≤ v7 ∧ v7 < (d5.length : Int), (!r23) = false ∧ True, (!r23) = false ∧ True, (!r23) = false ∧ True, (!r23) = false ∧ True, (!r23) = false ∧ True, (!r23) = false ∧ 0 ≤ v7 ∧ v7 < (i5.length : Int), (!r23) = false ∧ True, (!r23) = false ∧ True, (!r23) = false ∧ pO u_2, (!r23) = false ∧ True, (!r23) = false]))))) (by kernel_rfl) (by kernel_rfl) (tr 3 ⟨c61, (tr 5 ⟨c62, (tr 4 ⟨⟨hb41, tt⟩, ⟨hb41, tt⟩, ⟨hb41, tt⟩, ⟨hb41, c63⟩, ⟨hb41, tt⟩, ⟨hb41, tt⟩, ⟨hb41, tt⟩, ⟨hb41, tt⟩, ⟨hb41, tt⟩, ⟨hb41, c64⟩, ⟨hb41, tt⟩, ⟨hb41, tt⟩, ⟨hb41, u_1⟩, ⟨hb41, tt⟩, hb41, tt, ⟨hb42, tt⟩, ⟨hb42, tt⟩, ⟨hb42, tt⟩, ⟨hb42, c65⟩, ⟨hb42, tt⟩, ⟨hb42, tt⟩, ⟨hb42, tt⟩, ⟨hb42, tt⟩, ⟨hb42, tt⟩, ⟨hb42, c66⟩, ⟨hb42, tt⟩, ⟨hb42, tt⟩, ⟨hb42, u_2⟩, ⟨hb42, tt⟩, hb42, tt⟩)⟩)⟩) ?_
          obtain rfl := sI h
          exact postN_to (gl [] [0, 1] (by kernel_rfl))
        clear hp5
        obtain ⟨rfl, hle⟩ := hq
        refine use_to ?_ hle
        refine to_then ?_
        refine W_cond (b := v8) (β := false) (by kernel_rfl) (fun hb43 => ?_) (fun hb43 => ?_)
        · replace h := h_if hb43 h
          refine W_rs tbok ⟨[], []⟩ [] [] [(4, .bo false)] [] 0 0 [True] (by kernel_rfl) ⟨tt, tt⟩ ?_
          refine W_ret ?_
          obtain rfl := sI h
          refine blockQ_ret ?_
          refine thenQ_ret ?_
          refine round_ret ?_
          refine postS_rr ?_
          exact postR_mk (Ret_intro [.bool] (by kernel_rfl))
        replace h := h_else hb43 h
        refine W_skip_to ?_
        refine to_block ?_
        refine to_then ?_
        refine W_r tbok ⟨[], []⟩ [] [0, 1] [(2, .adr 0 0 5 0), (3, .adr 1 0 5 0), (6, .i64 (IntKind.i64.wrap (v7 + (1 : Int))))] (ob80 β0 d1 d2 d3 β3 d4 β4 d5 β5 i1 i2 i3 β8 i4 β9 i5) 2 0 (Ts 3 []) (by kernel_rfl) (tr 3 tt) ?_
        obtain rfl := sI h
        exact roundB (gl [] [0, 1] (by kernel_rfl))
      replace h := h_else hb36 h
      refine W_exit_to ?_
      refine thenE ?_
      obtain rfl := sI h
      refine roundE ?_
      refine postS_l ?_
      exact postX_to (gl [] [] (by kernel_rfl))
    clear hp6
    rcases r25 with _ | r18
    · obtain ⟨rfl, hle⟩ := hq
      refine use_to ?_ hle
      refine blockE_eq ?_
      refine to_then ?_
      refine W_rs tbok ⟨[], []⟩ [] [] [(4, .bo true)] [] 0 0 [True] (by kernel_rfl) ⟨tt, tt⟩ ?_
      refine W_ret ?_
      obtain rfl := sI h
      exact Ret_intro [.bool] (by kernel_rfl)
    obtain ⟨rfl, hr⟩ := hq
    refine blockQ_ret ?_
    refine thenQ_ret ?_
    obtain rfl := sI h
    exact hr
  obtain ⟨rfl, hr⟩ := hq
  refine blockQ_ret ?_
  refine thenQ_ret ?_
  obtain rfl := sI h
  exact hr
end
end Go.Proofs.Ytjfjigknkhgkdaa.T
