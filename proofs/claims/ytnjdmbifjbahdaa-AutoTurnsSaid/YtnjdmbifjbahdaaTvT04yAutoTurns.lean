/- Functions of the program as functions on data, and that the program's own come to them. -/
import Derived.Test.YtnjdmbifjbahdaaTvT04y0
import Derived.Test.YtnjdmbifjbahdaaTvT04ya
import Derived.Test.YtnjdmbifjbahdaaTvT04ya1
import Derived.Test.YtnjdmbifjbahdaaTvT04yb
namespace Go.Proofs.Ytnjdmbifjbahdaa.T
open Go Go.Tv Go.Proofs
noncomputable section
set_option maxRecDepth 100000
set_option maxHeartbeats 4000000
def auto_Turn_L1 (e1 : Int) (e3 : List Tree) (rec_auto_Turn : Int → Int → (List Tree) → Option (Tree)) : ((List Tree) × Int) → Option (((List Tree) × Int) ⊕ (List Tree)) := fun (out2, v2) =>
  (if (decide (v2 < (e3.length : Int))) = true then (if 0 ≤ v2 ∧ v2 < (e3.length : Int) then (((if (e1 == (2 : Int)) = true then (if 0 ≤ (IntKind.i64.wrap ((IntKind.i64.wrap ((e3.length : Int) - (1 : Int))) - v2)) ∧ (IntKind.i64.wrap ((IntKind.i64.wrap ((e3.length : Int) - (1 : Int))) - v2)) < (e3.length : Int) then some (((e3.getD ((IntKind.i64.wrap ((IntKind.i64.wrap ((e3.length : Int) - (1 : Int))) - v2)).toNat) (Tree.node 0 0 [])).op, (e3.getD ((IntKind.i64.wrap ((IntKind.i64.wrap ((e3.length : Int) - (1 : Int))) - v2)).toNat) (Tree.node 0 0 [])).set, (e3.getD ((IntKind.i64.wrap ((IntKind.i64.wrap ((e3.length : Int) - (1 : Int))) - v2)).toNat) (Tree.node 0 0 [])).kids)) else none)
  else some (((e3.getD v2.toNat (Tree.node 0 0 [])).op, (e3.getD v2.toNat (Tree.node 0 0 [])).set, (e3.getD v2.toNat (Tree.node 0 0 [])).kids)))).bind fun (k7, k8, k9) => ((rec_auto_Turn k7 k8 k9).bind fun r9 =>
  (if (out2.length + ([(Tree.node r9.op r9.set r9.kids)] : List Tree).length) * 32 ≤ 140737488355328 ∧ out2.length + ([(Tree.node r9.op r9.set r9.kids)] : List Tree).length ≤ 9223372036854775807 then some (Sum.inl ((out2 ++ ([(Tree.node r9.op r9.set r9.kids)] : List Tree)), (IntKind.i64.wrap (v2 + (1 : Int))))) else none))) else none)
  else some (Sum.inr out2))
def auto_Turn_F (rec_auto_Turn : Int → Int → (List Tree) → Option (Tree)) (e1 e2 : Int) (e3 : List Tree) : Option (Tree) :=
  ((iter (auto_Turn_L1 e1 e3 rec_auto_Turn) (([] : List Tree), (0 : Int))).bind fun out3 => some (Tree.node e1 e2 out3))
def auto_Turn : Nat → Int → Int → (List Tree) → Option (Tree)
  | 0 => fun _ _ _ => none
  | n + 1 => auto_Turn_F (auto_Turn n)
theorem auto_Turn_F_ok (rec_auto_Turn : Int → Int → (List Tree) → Option (Tree)) (hrec_auto_Turn : ∀ (β2 : Bool) {e1 : Int} {e2 : Int} {e3 : List Tree} {res : Tree}, rec_auto_Turn e1 e2 e3 = some res → Pure Try.prog 14 [.agg [.u8 e1, .u32 e2, .p β2 (.slice (.tree .u8 .u32)) e3]] (wrapR (encs false [⟨(.tree .u8 .u32), res⟩]))) (β2 : Bool) {e1 : Int} {e2 : Int} {e3 : List Tree} {res : Tree} (h : auto_Turn_F rec_auto_Turn e1 e2 e3 = some res) :
    Pure Try.prog 14 [.agg [.u8 e1, .u32 e2, .p β2 (.slice (.tree .u8 .u32)) e3]] (wrapR (encs false [⟨(.tree .u8 .u32), res⟩])) := by
  refine Pure.of_body tbok Try.func14 (by kernel_rfl) rfl (nl rfl) (fun Bw w0 => ?_) rfl
  unfold auto_Turn_F at h
  refine G (G (W_seq (G (W_block (W_lx h (fun (out2, v2) => mkSt [(1, .adr 0 0 3 0), (2, .adr 1 0 3 0), (3, .adr 2 0 3 0), (13, .i64 (e3.length : Int)), (14, .i64 v2)] (ob66 e1 e2 β2 e3 (0 : Int) (0 : Int) e1 e2 out2) 4) 0 (fun out3 => mkSt [(2, .adr 0 0 3 0), (3, .adr 1 0 3 0)] (ob67 (0 : Int) (0 : Int) e1 e2 out3) 3) (gg [.nilC 56 2 104 27 (.tree .u8 .u32)] [0, 8, 56, 104]) (fun y o h => ?_) (fun out3 h => ?_))))))
  · obtain ⟨out2, v2⟩ := y
    unfold auto_Turn_L1 at h
    refine G (W_seq (W_if h (fun hb7 h => ?_) (fun hb7 h => ?_)))
    · refine W_skip_to (to_thenG (W_seq (W_block (G (GC 3 h (fun h => W_seq (G (W_pn h (fun (k7, k8, k9) => mkSt [(1, .adr 0 0 3 0), (2, .adr 1 0 3 0), (3, .adr 2 0 3 0), (5, .adr 4 0 3 0), (13, .i64 (e3.length : Int)), (14, .i64 v2)] (ob65 e1 e2 β2 e3 (0 : Int) (0 : Int) e1 e2 out2 k7 k8 β2 k9) 5) (fun r7 h => ?_) (fun r7 h => ?_)))))))))
      · refine W_if h (fun hb9 h => ?_) (fun hb9 h => ?_)
        · refine GCe 8 h (fun h => ?_)
          exact eN h (gg [] [0, 1, 2, 3, 68])
        refine W_skip_to ?_
        exact eN h (gg [] [0, 1, 2, 3, 68])
      obtain ⟨k7, k8, k9⟩ := r7
      refine to_thenG ?_
      obtain ⟨r9, q6, h⟩ := h_bind h
      obtain ⟨c24, h⟩ := h_guard h
      have u_1 := (hrec_auto_Turn β2 q6)
      refine GDe ⟨[], [(3, (oP u_1))]⟩ [(3, 3, oc u_1), (5, 5, oc c24)] (to_block (to_thenG (Ge ?_)))
      exact eB h (gg [] [0, 1, 2, 45])
    refine W_exit_to (thenE ?_)
    exact eX h (gg [] [1, 2, 3])
  refine blockE_eq (to_thenG (G (W_ret ?_)))
  obtain rfl := sI h
  exact Ret_intro [(.tree .u8 .u32)] (by kernel_rfl)
theorem auto_Turn_ok : ∀ (n : Nat) (β2 : Bool) {e1 : Int} {e2 : Int} {e3 : List Tree} {res : Tree}, auto_Turn n e1 e2 e3 = some res → Pure Try.prog 14 [.agg [.u8 e1, .u32 e2, .p β2 (.slice (.tree .u8 .u32)) e3]] (wrapR (encs false [⟨(.tree .u8 .u32), res⟩]))
  | 0, _, _, _, _, _, h => by cases h
  | n + 1, β2, e1, e2, e3, res, h => auto_Turn_F_ok (auto_Turn n) (auto_Turn_ok n) β2 h
def stanzaref04_Turn_L1 (e1 : Int) (e3 : List Tree) (rec_stanzaref04_Turn : Int → Int → (List Tree) → Option (Tree)) : ((List Tree) × Int) → Option (((List Tree) × Int) ⊕ (List Tree)) := fun (out2, i2) =>
  (if (decide (i2 < (e3.length : Int))) = true then (((if (e1 == (2 : Int)) = true then some ((IntKind.i64.wrap ((IntKind.i64.wrap ((e3.length : Int) - (1 : Int))) - i2)))
  else some (i2))).bind fun k3 => (if 0 ≤ k3 ∧ k3 < (e3.length : Int) then ((rec_stanzaref04_Turn ((e3.getD k3.toNat (Tree.node 0 0 [])).op) ((e3.getD k3.toNat (Tree.node 0 0 [])).set) ((e3.getD k3.toNat (Tree.node 0 0 [])).kids)).bind fun r6 =>
  (if (out2.length + ([(Tree.node r6.op r6.set r6.kids)] : List Tree).length) * 32 ≤ 140737488355328 ∧ out2.length + ([(Tree.node r6.op r6.set r6.kids)] : List Tree).length ≤ 9223372036854775807 then some (Sum.inl ((out2 ++ ([(Tree.node r6.op r6.set r6.kids)] : List Tree)), (IntKind.i64.wrap (i2 + (1 : Int))))) else none)) else none))
  else some (Sum.inr out2))
def stanzaref04_Turn_F (rec_stanzaref04_Turn : Int → Int → (List Tree) → Option (Tree)) (e1 e2 : Int) (e3 : List Tree) : Option (Tree) :=
  ((iter (stanzaref04_Turn_L1 e1 e3 rec_stanzaref04_Turn) (([] : List Tree), (0 : Int))).bind fun out3 => some (Tree.node e1 e2 out3))
def stanzaref04_Turn : Nat → Int → Int → (List Tree) → Option (Tree)
  | 0 => fun _ _ _ => none
  | n + 1 => stanzaref04_Turn_F (stanzaref04_Turn n)
theorem stanzaref04_Turn_F_ok (rec_stanzaref04_Turn : Int → Int → (List Tree) → Option (Tree)) (hrec_stanzaref04_Turn : ∀ (β2 : Bool) {e1 : Int} {e2 : Int} {e3 : List Tree} {res : Tree}, rec_stanzaref04_Turn e1 e2 e3 = some res → Pure Try.prog 16 [.agg [.u8 e1, .u32 e2, .p β2 (.slice (.tree .u8 .u32)) e3]] (wrapR (encs false [⟨(.tree .u8 .u32), res⟩]))) (β2 : Bool) {e1 : Int} {e2 : Int} {e3 : List Tree} {res : Tree} (h : stanzaref04_Turn_F rec_stanzaref04_Turn e1 e2 e3 = some res) :
    Pure Try.prog 16 [.agg [.u8 e1, .u32 e2, .p β2 (.slice (.tree .u8 .u32)) e3]] (wrapR (encs false [⟨(.tree .u8 .u32), res⟩])) := by
  refine Pure.of_body tbok Try.func16 (by kernel_rfl) rfl (nl rfl) (fun Bw w0 => ?_) rfl
  unfold stanzaref04_Turn_F at h
  refine G (G (W_seq (G (W_block (W_lx h (fun (out2, i2) => mkSt [(1, .adr 0 0 3 0), (2, .adr 1 0 3 0), (3, .adr 2 0 3 0), (4, .i64 i2)] (ob66 e1 e2 β2 e3 (0 : Int) (0 : Int) e1 e2 out2) 4) 0 (fun out3 => mkSt [(2, .adr 0 0 3 0), (3, .adr 1 0 3 0)] (ob67 (0 : Int) (0 : Int) e1 e2 out3) 3) (gg [.nilC 56 2 80 27 (.tree .u8 .u32)] [0, 8, 56, 80]) (fun y o h => ?_) (fun out3 h => ?_))))))
  · obtain ⟨out2, i2⟩ := y
    unfold stanzaref04_Turn_L1 at h
    refine W_seq (G (W_if h (fun hb7 h => ?_) (fun hb7 h => ?_)))
    · refine W_skip_to (to_thenG (W_seq (W_block (G (W_seq (G (W_pn h (fun k3 => mkSt [(1, .adr 0 0 3 0), (2, .adr 1 0 3 0), (3, .adr 2 0 3 0), (4, .i64 i2), (5, .i64 k3)] (ob66 e1 e2 β2 e3 (0 : Int) (0 : Int) e1 e2 out2) 4) (fun k3 h => ?_) (fun k3 h => ?_))))))))
      · refine W_if h (fun hb9 h => ?_) (fun hb9 h => ?_)
        · refine Ge ?_
          exact eN h (gg [] [0, 1, 2, 3])
        refine W_skip_to ?_
        exact eN h (gg [] [0, 1, 2, 3])
      refine to_thenG ?_
      obtain ⟨c11, h⟩ := h_guard h
      obtain ⟨r6, q6, h⟩ := h_bind h
      obtain ⟨c12, h⟩ := h_guard h
      have u_1 := (hrec_stanzaref04_Turn β2 q6)
      refine GDe ⟨[], [(7, (oP u_1))]⟩ [(5, 5, oc c11), (7, 7, oc u_1), (9, 9, oc c12)] (to_block (to_thenG (Ge ?_)))
      exact eB h (gg [] [0, 1, 2, 76])
    refine W_exit_to (thenE ?_)
    exact eX h (gg [] [1, 2, 3])
  refine blockE_eq (to_thenG (G (W_ret ?_)))
  obtain rfl := sI h
  exact Ret_intro [(.tree .u8 .u32)] (by kernel_rfl)
theorem stanzaref04_Turn_ok : ∀ (n : Nat) (β2 : Bool) {e1 : Int} {e2 : Int} {e3 : List Tree} {res : Tree}, stanzaref04_Turn n e1 e2 e3 = some res → Pure Try.prog 16 [.agg [.u8 e1, .u32 e2, .p β2 (.slice (.tree .u8 .u32)) e3]] (wrapR (encs false [⟨(.tree .u8 .u32), res⟩]))
  | 0, _, _, _, _, _, h => by cases h
  | n + 1, β2, e1, e2, e3, res, h => stanzaref04_Turn_F_ok (stanzaref04_Turn n) (stanzaref04_Turn_ok n) β2 h
def rr_SameExpr_L1 (a3 b3 : List Tree) (rec_rr_SameExpr : Int → Int → (List Tree) → Int → Int → (List Tree) → Option (Bool)) : (Int) → Option ((Int) ⊕ ((Unit) ⊕ (Bool))) := fun i2 =>
  (if (decide (i2 < (a3.length : Int))) = true then (if 0 ≤ i2 ∧ i2 < (a3.length : Int) then (if 0 ≤ i2 ∧ i2 < (b3.length : Int) then ((rec_rr_SameExpr ((a3.getD i2.toNat (Tree.node 0 0 [])).op) ((a3.getD i2.toNat (Tree.node 0 0 [])).set) ((a3.getD i2.toNat (Tree.node 0 0 [])).kids) ((b3.getD i2.toNat (Tree.node 0 0 [])).op) ((b3.getD i2.toNat (Tree.node 0 0 [])).set) ((b3.getD i2.toNat (Tree.node 0 0 [])).kids)).bind fun r7 =>
  (if (!r7) = true then some (Sum.inr (Sum.inr false))
  else some (Sum.inl (IntKind.i64.wrap (i2 + (1 : Int)))))) else none) else none)
  else some (Sum.inr (Sum.inl ())))
def rr_SameExpr_F (rec_rr_SameExpr : Int → Int → (List Tree) → Int → Int → (List Tree) → Option (Bool)) (a1 a2 : Int) (a3 : List Tree) (b1 b2 : Int) (b3 : List Tree) : Option (Bool) :=
  (((if (a1 != b1) = true then some (true)
  else (if (a2 != b2) = true then some (true)
  else some (((a3.length : Int) != (b3.length : Int)))))).bind fun v1 => (if v1 = true then some false
  else ((iter (rr_SameExpr_L1 a3 b3 rec_rr_SameExpr) (0 : Int)).bind fun (r8 : ((Unit) ⊕ (Bool))) => match r8 with
  | .inl _ => some true
  | .inr (r5) => some r5)))
def rr_SameExpr : Nat → Int → Int → (List Tree) → Int → Int → (List Tree) → Option (Bool)
  | 0 => fun _ _ _ _ _ _ => none
  | n + 1 => rr_SameExpr_F (rr_SameExpr n)
theorem rr_SameExpr_F_ok (rec_rr_SameExpr : Int → Int → (List Tree) → Int → Int → (List Tree) → Option (Bool)) (hrec_rr_SameExpr : ∀ (β2 β5 : Bool) {a1 : Int} {a2 : Int} {a3 : List Tree} {b1 : Int} {b2 : Int} {b3 : List Tree} {res : Bool}, rec_rr_SameExpr a1 a2 a3 b1 b2 b3 = some res → Pure Try.prog 15 [.agg [.u8 a1, .u32 a2, .p β2 (.slice (.tree .u8 .u32)) a3], .agg [.u8 b1, .u32 b2, .p β5 (.slice (.tree .u8 .u32)) b3]] (wrapR (encs false [⟨.bool, res⟩]))) (β2 β5 : Bool) {a1 : Int} {a2 : Int} {a3 : List Tree} {b1 : Int} {b2 : Int} {b3 : List Tree} {res : Bool} (h : rr_SameExpr_F rec_rr_SameExpr a1 a2 a3 b1 b2 b3 = some res) :
    Pure Try.prog 15 [.agg [.u8 a1, .u32 a2, .p β2 (.slice (.tree .u8 .u32)) a3], .agg [.u8 b1, .u32 b2, .p β5 (.slice (.tree .u8 .u32)) b3]] (wrapR (encs false [⟨.bool, res⟩])) := by
  refine Pure.of_body tbok Try.func15 (by kernel_rfl) rfl (nl rfl) (fun Bw w0 => ?_) rfl
  unfold rr_SameExpr_F at h
  refine G (W_seq (W_seq (W_pn h (fun v1 => mkSt [(2, .adr 0 0 3 0), (3, .adr 1 0 3 0), (26, .bo v1)] (ob69 a1 a2 β2 a3 b1 b2 β5 b3) 2) (fun v1 h => ?_) (fun v1 h => ?_))))
  · rcases h_ite h with ⟨hb5, h⟩ | ⟨hb5, h⟩
    · refine GNe ⟨[(5, true), (11, true)], []⟩ [(6, 11, oc hb5)] ?_
      exact eN h (gg [] [0, 8])
    rcases h_ite h with ⟨hb6, h⟩ | ⟨hb6, h⟩
    · refine GNe ⟨[(5, false), (11, false), (12, true), (20, true)], []⟩ [(6, 10, an hb5), (11, 11, oc hb5), (13, 20, oc hb6)] ?_
      exact eN h (gg [] [0, 8])
    refine GNe ⟨[(5, false), (11, false), (12, false), (20, false)], []⟩ [(6, 10, an hb5), (11, 11, oc hb5), (13, 19, an hb6), (20, 20, oc hb6)] ?_
    exact eN h (gg [] [0, 8])
  refine to_thenG (W_if h (fun hb7 h => ?_) (fun hb7 h => ?_))
  · refine G (W_ret (thenQ_ret ?_))
    obtain rfl := sI h
    exact Ret_intro [.bool] (by kernel_rfl)
  refine W_skip_to (to_thenG (W_seq (G (W_block (W_lp h (fun i2 => mkSt [(2, .adr 0 0 3 0), (3, .adr 1 0 3 0), (5, .i64 i2)] (ob69 a1 a2 β2 a3 b1 b2 β5 b3) 2) (postS (postX Try.f15.ntmps 0 (fun _ => mkSt [] [] 0)) (postR tb Try.f15.results.toList (fun r5 => [⟨.bool, r5⟩]))) (gg [] [0, 1]) (fun i2 o h => ?_) (fun r8 h e σ' hq => ?_))))))
  · unfold rr_SameExpr_L1 at h
    refine W_seq (G (W_if h (fun hb12 h => ?_) (fun hb12 h => ?_)))
    · refine W_skip_to (to_thenG (W_seq (W_block ?_)))
      obtain ⟨c11, c12, h⟩ := g2 h
      obtain ⟨r7, q6, h⟩ := h_bind h
      have u_1 := (hrec_rr_SameExpr β2 β5 q6)
      refine GD ⟨[], [(10, (oP u_1))]⟩ [(3, 3, oc c11), (8, 8, oc c12), (10, 10, oc u_1)] (W_if h (fun hb13 h => ?_) (fun hb13 h => ?_))
      · refine G (W_ret ?_)
        obtain rfl := sI h
        refine blockQ_ret (thenQ_ret (round_ret (postS_rr ?_)))
        exact postR_mk (Ret_intro [.bool] (by kernel_rfl))
      refine W_skip_to (to_block (to_thenG (Ge ?_)))
      exact eB h (gg [] [0, 1])
    refine W_exit_to (thenE ?_)
    obtain rfl := sI h
    refine roundE (postS_l ?_)
    exact postX_to (gg [] [])
  rcases r8 with _ | r5
  · obtain ⟨rfl, hle⟩ := hq
    refine use_to ?_ hle
    refine blockE_eq (to_thenG (G (W_ret ?_)))
    obtain rfl := sI h
    exact Ret_intro [.bool] (by kernel_rfl)
  obtain ⟨rfl, hr⟩ := hq
  refine blockQ_ret (thenQ_ret ?_)
  obtain rfl := sI h
  exact hr
theorem rr_SameExpr_ok : ∀ (n : Nat) (β2 β5 : Bool) {a1 : Int} {a2 : Int} {a3 : List Tree} {b1 : Int} {b2 : Int} {b3 : List Tree} {res : Bool}, rr_SameExpr n a1 a2 a3 b1 b2 b3 = some res → Pure Try.prog 15 [.agg [.u8 a1, .u32 a2, .p β2 (.slice (.tree .u8 .u32)) a3], .agg [.u8 b1, .u32 b2, .p β5 (.slice (.tree .u8 .u32)) b3]] (wrapR (encs false [⟨.bool, res⟩]))
  | 0, _, _, _, _, _, _, _, _, _, h => by cases h
  | n + 1, β2, β5, a1, a2, a3, b1, b2, b3, res, h => rr_SameExpr_F_ok (rr_SameExpr n) (rr_SameExpr_ok n) β2 β5 h
def stanzaref04_Says (e1 e2 : Int) (e3 : List Tree) (classes1 : List Int) : Option (Bool) :=
  (if 0 ≤ (IntKind.i64.wrap ((classes1.length : Int) + (1 : Int))) ∧ (IntKind.i64.wrap ((classes1.length : Int) + (1 : Int))) ≤ (IntKind.i64.wrap ((classes1.length : Int) + (1 : Int))) ∧ (1 : Int) * (IntKind.i64.wrap ((classes1.length : Int) + (1 : Int))) ≤ 281474976710656 ∧ (IntKind.i64.wrap ((classes1.length : Int) + (1 : Int))) ≤ 9223372036854775807 then (if 0 ≤ (0 : Int) ∧ (0 : Int) < ((List.replicate (IntKind.i64.wrap ((classes1.length : Int) + (1 : Int))).toNat false).length : Int) then (if (0 : Int).toNat < (List.replicate (IntKind.i64.wrap ((classes1.length : Int) + (1 : Int))).toNat false).length then ((stanzaref04_Ends 1000 e1 e2 e3 classes1 ((List.replicate (IntKind.i64.wrap ((classes1.length : Int) + (1 : Int))).toNat false).set ((0 : Int).toNat) true)).bind fun r2 =>
  (if 0 ≤ (classes1.length : Int) ∧ (classes1.length : Int) < (r2.length : Int) then some (r2.getD ((classes1.length : Int).toNat) false) else none)) else none) else none) else none)
theorem stanzaref04_Says_ok (β2 β3 : Bool) {e1 : Int} {e2 : Int} {e3 : List Tree} {classes1 : List Int} {res : Bool} (h : stanzaref04_Says e1 e2 e3 classes1 = some res) :
    Pure Try.prog 17 [.agg [.u8 e1, .u32 e2, .p β2 (.slice (.tree .u8 .u32)) e3], .p β3 (.slice (.int .i64)) classes1] (wrapR (encs false [⟨.bool, res⟩])) := by
  refine Pure.of_body tbok Try.func17 (by kernel_rfl) rfl (nl rfl) (fun Bw w0 => ?_) rfl
  unfold stanzaref04_Says at h
  refine G (GC 3 h (fun h => ?_))
  obtain ⟨c5, c6, h⟩ := g2 h
  refine GN a0 [(1, 1, oc c5), (2, 2, oc c6)] ?_
  obtain ⟨r2, q2, h⟩ := h_bind h
  obtain ⟨c8, h⟩ := h_guard h
  have u_1 := (stanzaref04_Ends_ok 1000 β2 β3 true q2)
  refine GN ⟨[], [(3, (oP u_1))]⟩ [(3, 3, oc u_1), (6, 6, oc c8)] (W_ret ?_)
  obtain rfl := sI h
  exact Ret_intro [.bool] (by kernel_rfl)
def stanzalaw04_AutoTurns_L1 (i1 : List Int) (r6 : Int) : ((List Int) × Int) → Option (((List Int) × Int) ⊕ (List Int)) := fun (v3, v4) =>
  (if (decide (v4 < (i1.length : Int))) = true then (if 0 ≤ v4 ∧ v4 < (i1.length : Int) then (if ¬ (IntKind.u64.wrap r6) = 0 then (if (v3.length + ([(IntKind.i64.wrap (Int.tmod (IntKind.u64.wrap (i1.getD v4.toNat (0 : Int))) (IntKind.u64.wrap r6)))] : List Int).length) * 8 ≤ 140737488355328 ∧ v3.length + ([(IntKind.i64.wrap (Int.tmod (IntKind.u64.wrap (i1.getD v4.toNat (0 : Int))) (IntKind.u64.wrap r6)))] : List Int).length ≤ 9223372036854775807 then some (Sum.inl ((v3 ++ ([(IntKind.i64.wrap (Int.tmod (IntKind.u64.wrap (i1.getD v4.toNat (0 : Int))) (IntKind.u64.wrap r6)))] : List Int)), (IntKind.i64.wrap (v4 + (1 : Int))))) else none) else none) else none)
  else some (Sum.inr v3))
def stanzalaw04_AutoTurns_L2 (v5 : List Int) : ((List Int) × Int) → Option (((List Int) × Int) ⊕ (List Int)) := fun (v8, v9) =>
  (if (decide (v9 < (v5.length : Int))) = true then (if 0 ≤ (IntKind.i64.wrap ((IntKind.i64.wrap ((v5.length : Int) - (1 : Int))) - v9)) ∧ (IntKind.i64.wrap ((IntKind.i64.wrap ((v5.length : Int) - (1 : Int))) - v9)) < (v5.length : Int) then (if (IntKind.i64.wrap ((IntKind.i64.wrap ((v5.length : Int) - (1 : Int))) - v9)).toNat < v5.length then (if (v8.length + ([(v5.getD ((IntKind.i64.wrap ((IntKind.i64.wrap ((v5.length : Int) - (1 : Int))) - v9)).toNat) (0 : Int))] : List Int).length) * 8 ≤ 140737488355328 ∧ v8.length + ([(v5.getD ((IntKind.i64.wrap ((IntKind.i64.wrap ((v5.length : Int) - (1 : Int))) - v9)).toNat) (0 : Int))] : List Int).length ≤ 9223372036854775807 then some (Sum.inl ((v8 ++ ([(v5.getD ((IntKind.i64.wrap ((IntKind.i64.wrap ((v5.length : Int) - (1 : Int))) - v9)).toNat) (0 : Int))] : List Int)), (IntKind.i64.wrap (v9 + (1 : Int))))) else none) else none) else none)
  else some (Sum.inr v8))
def stanzalaw04_AutoTurns_L3 (r5 : List Tree) (v5 v10 : List Int) : (Int) → Option ((Int) ⊕ ((Unit) ⊕ (Bool))) := fun v14 =>
  (if (decide (v14 < (r5.length : Int))) = true then (if 0 ≤ v14 ∧ v14 < (r5.length : Int) then ((auto_Turn 1000 ((r5.getD v14.toNat (Tree.node 0 0 [])).op) ((r5.getD v14.toNat (Tree.node 0 0 [])).set) ((r5.getD v14.toNat (Tree.node 0 0 [])).kids)).bind fun r49 =>
  ((((stanzaref04_Turn 1000 ((r5.getD v14.toNat (Tree.node 0 0 [])).op) ((r5.getD v14.toNat (Tree.node 0 0 [])).set) ((r5.getD v14.toNat (Tree.node 0 0 [])).kids)).bind fun r62 =>
  ((rr_SameExpr 1000 r49.op r49.set r49.kids r62.op r62.set r62.kids).bind fun r63 =>
  (if (!r63) = true then some (true)
  else ((auto_Turn 1000 r49.op r49.set r49.kids).bind fun r64 =>
  ((rr_SameExpr 1000 r64.op r64.set r64.kids ((r5.getD v14.toNat (Tree.node 0 0 [])).op) ((r5.getD v14.toNat (Tree.node 0 0 [])).set) ((r5.getD v14.toNat (Tree.node 0 0 [])).kids)).bind fun r65 =>
  (if (!r65) = true then some (true)
  else ((stanzaref04_Says ((r5.getD v14.toNat (Tree.node 0 0 [])).op) ((r5.getD v14.toNat (Tree.node 0 0 [])).set) ((r5.getD v14.toNat (Tree.node 0 0 [])).kids) v5).bind fun r66 =>
  ((stanzaref04_Says r49.op r49.set r49.kids v10).bind fun r67 =>
  some ((!(r66 == r67)))))))))))).bind fun v15 => (if v15 = true then some (Sum.inr (Sum.inr false))
  else some (Sum.inl (IntKind.i64.wrap (v14 + (1 : Int))))))) else none)
  else some (Sum.inr (Sum.inl ())))
def stanzalaw04_AutoTurns (d1 d2 d3 : Int) (d4 : List Int) (d5 : List (Int × (List Int) × List Int)) (i1 : List Int) : Option (Bool) :=
  ((stanzalaw04_Awake).bind fun r2 =>
  (if (!r2) = true then some false
  else ((stanzalaw04_exprs d1 d2 d3 d4 d5).bind fun (r5, r6) =>
  (if (decide ((i1.length : Int) > (12 : Int))) = true then some true
  else ((iter (stanzalaw04_AutoTurns_L1 i1 r6) (([] : List Int), (0 : Int))).bind fun v5 => ((iter (stanzalaw04_AutoTurns_L2 v5) (([] : List Int), (0 : Int))).bind fun v10 => ((iter (stanzalaw04_AutoTurns_L3 r5 v5 v10) (0 : Int)).bind fun (r68 : ((Unit) ⊕ (Bool))) => match r68 with
  | .inl _ => some true
  | .inr (r47) => some r47)))))))
theorem stanzalaw04_AutoTurns_ok (β3 β5 : Bool) {d1 : Int} {d2 : Int} {d3 : Int} {d4 : List Int} {d5 : List (Int × (List Int) × List Int)} {i1 : List Int} {res : Bool} (h : stanzalaw04_AutoTurns d1 d2 d3 d4 d5 i1 = some res) :
    Pure Try.prog 5 [.agg [.u8 d1, .u8 d2, .u8 d3, .p β3 (.slice (.int .u8)) d4, .p false (.slice (.prod (.int .u8) Y5)) d5], .p β5 (.slice (.int .i64)) i1] (wrapR (encs false [⟨.bool, res⟩])) := by
  refine Pure.of_body tbok Try.func5 (by kernel_rfl) rfl (nl rfl) (fun Bw w0 => ?_) rfl
  unfold stanzalaw04_AutoTurns at h
  refine G (W_seq ?_)
  obtain ⟨r2, q2, h⟩ := h_bind h
  refine GP 0 (stanzalaw04_Awake_ok q2) (W_if h (fun hb1 h => ?_) (fun hb1 h => ?_))
  · refine G (W_ret (thenQ_ret ?_))
    obtain rfl := sI h
    exact Ret_intro [.bool] (by kernel_rfl)
  refine W_skip_to (to_thenG ?_)
  obtain ⟨⟨r5, r6⟩, q4, h⟩ := h_bind h
  refine GP 1 (stanzalaw04_exprs_ok β3 q4) (W_seq (G (W_if h (fun hb2 h => ?_) (fun hb2 h => ?_))))
  · refine G (W_ret (thenQ_ret ?_))
    obtain rfl := sI h
    exact Ret_intro [.bool] (by kernel_rfl)
  refine W_skip_to (to_thenG (G (W_seq (G (W_block (W_lx h (fun (v3, v4) => mkSt [(1, .p β5 (.slice (.int .i64)) i1), (5, .p false (.slice (.tree .u8 .u32)) r5), (6, .i64 r6), (7, .sl 0), (8, .nils), (25, .i64 (i1.length : Int)), (26, .i64 v4)] [(0, .arr 3 (.int .i64) v3)] 1) 0 (fun v5 => mkSt [(5, .p false (.slice (.tree .u8 .u32)) r5), (7, .sl 0), (8, .nils)] [(0, .arr 3 (.int .i64) v5)] 1) (gg [.nilS 7 152 3 (.int .i64)] [152]) (fun y o h => ?_) (fun v5 h => ?_)))))))
  · obtain ⟨v3, v4⟩ := y
    unfold stanzalaw04_AutoTurns_L1 at h
    refine G (W_seq (W_if h (fun hb5 h => ?_) (fun hb5 h => ?_)))
    · refine W_skip_to (to_thenG (W_seq (W_block (G ?_))))
      obtain ⟨c16, c17, c18, h⟩ := g3 h
      refine GNe a0 [(3, 3, oc c16), (8, 8, oc c17), (11, 11, oc c18)] (to_block (to_thenG (Ge ?_)))
      exact eB h (gg [] [113])
    refine W_exit_to (thenE ?_)
    exact eX h (gg [] [0])
  refine blockE_eq (to_thenG (W_seq (G (W_block (W_lx h (fun (v8, v9) => mkSt [(5, .p false (.slice (.tree .u8 .u32)) r5), (7, .sl 0), (8, .sl 1), (43, .i64 (v5.length : Int)), (44, .i64 v9)] [(0, .arr 3 (.int .i64) v5), (1, .arr 3 (.int .i64) v8)] 2) 2 (fun v10 => mkSt [(5, .p false (.slice (.tree .u8 .u32)) r5), (7, .sl 0), (8, .sl 1)] [(0, .arr 3 (.int .i64) v5), (1, .arr 3 (.int .i64) v10)] 2) (gg [.nilS 8 25 3 (.int .i64)] [0, 25]) (fun y o h => ?_) (fun v10 h => ?_))))))
  · obtain ⟨v8, v9⟩ := y
    unfold stanzalaw04_AutoTurns_L2 at h
    refine G (W_seq (W_if h (fun hb8 h => ?_) (fun hb8 h => ?_)))
    · refine W_skip_to (to_thenG (W_seq (W_block (G ?_))))
      obtain ⟨c34, c35, c36, h⟩ := g3 h
      refine GNe a0 [(7, 7, oc c34), (8, 8, oc c35), (10, 10, oc c36)] (to_block (to_thenG (Ge ?_)))
      exact eB h (gg [] [0, 106])
    refine W_exit_to (thenE ?_)
    exact eX h (gg [] [0, 1])
  refine blockE_eq (to_thenG (W_seq (G (W_block (W_lp h (fun v14 => mkSt [(7, .sl 0), (8, .sl 1), (59, .p false (.slice (.tree .u8 .u32)) r5), (60, .i64 (r5.length : Int)), (61, .i64 v14)] [(0, .arr 3 (.int .i64) v5), (1, .arr 3 (.int .i64) v10)] 2) (postS (postX Try.f5.ntmps 4 (fun _ => mkSt [] [] 0)) (postR tb Try.f5.results.toList (fun r47 => [⟨.bool, r47⟩]))) (gg [] [0, 1]) (fun v14 o h => ?_) (fun r68 h e σ' hq => ?_))))))
  · unfold stanzalaw04_AutoTurns_L3 at h
    refine G (W_seq (W_if h (fun hb25 h => ?_) (fun hb25 h => ?_)))
    · refine W_skip_to (to_thenG (W_seq (W_block (GC 0 h (fun h => ?_)))))
      obtain ⟨r49, q46, h⟩ := h_bind h
      refine GP 1 (auto_Turn_ok 1000 false q46) (W_seq (W_pn h (fun v15 => mkSt [(7, .sl 0), (8, .sl 1), (59, .p false (.slice (.tree .u8 .u32)) r5), (60, .i64 (r5.length : Int)), (61, .i64 v14), (87, .bo v15)] [(0, .arr 3 (.int .i64) v5), (1, .arr 3 (.int .i64) v10)] 2) (fun v15 h => ?_) (fun v15 h => ?_)))
      · obtain ⟨r62, q59, h⟩ := h_bind h
        obtain ⟨r63, q60, h⟩ := h_bind h
        rcases h_ite h with ⟨hb30, h⟩ | ⟨hb30, h⟩
        · have u_1 := (stanzaref04_Turn_ok 1000 false q59)
          have u_2 := (rr_SameExpr_ok 1000 false false q60)
          refine GDe ⟨[(5, true), (11, true)], [(2, (oP u_1)), (3, (oP u_2))]⟩ [(2, 2, oc u_1), (3, 3, oc u_2), (6, 11, oc hb30)] ?_
          exact eN h (gg [] [0, 1])
        obtain ⟨r64, q61, h⟩ := h_bind h
        obtain ⟨r65, q62, h⟩ := h_bind h
        rcases h_ite h with ⟨hb31, h⟩ | ⟨hb31, h⟩
        · have u_1 := (stanzaref04_Turn_ok 1000 false q59)
          have u_2 := (rr_SameExpr_ok 1000 false false q60)
          have u_3 := (auto_Turn_ok 1000 false q61)
          have u_4 := (rr_SameExpr_ok 1000 false false q62)
          refine GDe ⟨[(5, false), (11, false), (12, true), (20, true)], [(2, (oP u_1)), (3, (oP u_2)), (7, (oP u_3)), (9, (oP u_4))]⟩ [(2, 2, oc u_1), (3, 3, oc u_2), (6, 6, an hb30), (7, 7, oc (And.intro hb30 u_3)), (8, 8, an hb30), (9, 9, oc (And.intro hb30 u_4)), (10, 10, an hb30), (11, 11, oc hb30), (13, 20, oc hb31)] ?_
          exact eN h (gg [] [0, 1])
        obtain ⟨r66, q63, h⟩ := h_bind h
        obtain ⟨r67, q64, h⟩ := h_bind h
        have u_1 := (stanzaref04_Turn_ok 1000 false q59)
        have u_2 := (rr_SameExpr_ok 1000 false false q60)
        have u_3 := (auto_Turn_ok 1000 false q61)
        have u_4 := (rr_SameExpr_ok 1000 false false q62)
        have u_5 := (stanzaref04_Says_ok false true q63)
        have u_6 := (stanzaref04_Says_ok false true q64)
        refine GDe ⟨[(5, false), (11, false), (12, false), (20, false)], [(2, (oP u_1)), (3, (oP u_2)), (7, (oP u_3)), (9, (oP u_4)), (15, (oP u_5)), (18, (oP u_6))]⟩ [(2, 2, oc u_1), (3, 3, oc u_2), (6, 6, an hb30), (7, 7, oc (And.intro hb30 u_3)), (8, 8, an hb30), (9, 9, oc (And.intro hb30 u_4)), (10, 10, an hb30), (11, 11, oc hb30), (13, 14, an hb31), (15, 15, oc (And.intro hb31 u_5)), (16, 17, an hb31), (18, 18, oc (And.intro hb31 u_6)), (19, 19, an hb31), (20, 20, oc hb31)] ?_
        exact eN h (gg [] [0, 1])
      refine to_thenG (W_if h (fun hb32 h => ?_) (fun hb32 h => ?_))
      · refine G (W_ret ?_)
        obtain rfl := sI h
        refine blockQ_ret (thenQ_ret (round_ret (postS_rr ?_)))
        exact postR_mk (Ret_intro [.bool] (by kernel_rfl))
      refine W_skip_to (to_block (to_thenG (Ge ?_)))
      exact eB h (gg [] [0, 1])
    refine W_exit_to (thenE ?_)
    obtain rfl := sI h
    refine roundE (postS_l ?_)
    exact postX_to (gg [] [])
  rcases r68 with _ | r47
  · obtain ⟨rfl, hle⟩ := hq
    refine use_to ?_ hle
    refine blockE_eq (to_thenG (G (W_ret ?_)))
    obtain rfl := sI h
    exact Ret_intro [.bool] (by kernel_rfl)
  obtain ⟨rfl, hr⟩ := hq
  refine blockQ_ret (thenQ_ret ?_)
  obtain rfl := sI h
  exact hr
end
end Go.Proofs.Ytnjdmbifjbahdaa.T
