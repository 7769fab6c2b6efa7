/- Functions of the program as functions on data, and that the program's own come to them. -/
import Derived.Test.YtnjdmbifjbahdaaTvT04y0
namespace Go.Proofs.Ytnjdmbifjbahdaa.T
open Go Go.Tv Go.Proofs
noncomputable section
set_option maxRecDepth 100000
set_option maxHeartbeats 4000000
def stanzaref04_both_L1 (a1 b1 : List Bool) : ((List Bool) × Int) → Option (((List Bool) × Int) ⊕ (List Bool)) := fun (out4, i2) =>
  (if (decide (i2 < (a1.length : Int))) = true then (((if 0 ≤ i2 ∧ i2 < (a1.length : Int) then (if (a1.getD i2.toNat false) = true then (if 0 ≤ i2 ∧ i2 < (out4.length : Int) then (if i2.toNat < out4.length then some ((out4.set i2.toNat true)) else none) else none)
  else (if 0 ≤ i2 ∧ i2 < (b1.length : Int) then (if 0 ≤ i2 ∧ i2 < (out4.length : Int) then (if i2.toNat < out4.length then some ((out4.set i2.toNat (b1.getD i2.toNat false))) else none) else none) else none)) else none)).bind fun out6 => some (Sum.inl (out6, (IntKind.i64.wrap (i2 + (1 : Int))))))
  else some (Sum.inr out4))
def stanzaref04_both (a1 b1 : List Bool) : Option (List Bool) :=
  (if 0 ≤ (a1.length : Int) ∧ (a1.length : Int) ≤ (a1.length : Int) ∧ (1 : Int) * (a1.length : Int) ≤ 281474976710656 ∧ (a1.length : Int) ≤ 9223372036854775807 then ((iter (stanzaref04_both_L1 a1 b1) ((List.replicate (a1.length : Int).toNat false), (0 : Int))).bind fun out5 => some out5) else none)
theorem stanzaref04_both_ok (β0 β1 : Bool) {a1 : List Bool} {b1 : List Bool} {res : List Bool} (h : stanzaref04_both a1 b1 = some res) :
    Pure Try.prog 35 [.p β0 (.slice .bool) a1, .p β1 (.slice .bool) b1] (wrapR (encs false [⟨(.slice .bool), res⟩])) := by
  refine Pure.of_body tbok Try.func35 (by kernel_rfl) rfl (nl rfl) (fun Bw w0 => ?_) rfl
  unfold stanzaref04_both at h
  refine G (GC 2 h (fun h => W_seq (G (W_block (W_lx h (fun (out4, i2) => mkSt [(0, .p β0 (.slice .bool) a1), (1, .p β1 (.slice .bool) b1), (5, .sl 0), (6, .i64 i2)] [(0, .arr 4 .bool out4)] 1) 0 (fun out5 => mkSt [(5, .sl 0)] [(0, .arr 4 .bool out5)] 1) (gg [] [24]) (fun y o h => ?_) (fun out5 h => ?_))))))
  · obtain ⟨out4, i2⟩ := y
    unfold stanzaref04_both_L1 at h
    refine W_seq (G (W_if h (fun hb9 h => ?_) (fun hb9 h => ?_)))
    · refine W_skip_to (to_thenG (W_seq (W_block (W_pn h (fun out6 => mkSt [(0, .p β0 (.slice .bool) a1), (1, .p β1 (.slice .bool) b1), (5, .sl 0), (6, .i64 i2)] [(0, .arr 4 .bool out6)] 1) (fun out6 h => ?_) (fun out6 h => ?_)))))
      · obtain ⟨c51, h⟩ := h_guard h
        rcases h_ite h with ⟨hb12, h⟩ | ⟨hb12, h⟩
        · obtain ⟨c52, c53, h⟩ := g2 h
          refine GNe ⟨[(6, true), (11, true)], []⟩ [(4, 4, oc c51), (7, 11, oc hb12), (12, 12, oc c52), (13, 13, oc c53)] ?_
          exact eN h (gg [] [0])
        obtain ⟨c54, c55, c56, h⟩ := g3 h
        refine GNe ⟨[(6, false), (11, false)], []⟩ [(4, 4, oc c51), (7, 8, an hb12), (9, 9, oc (And.intro hb12 c54)), (10, 10, an hb12), (11, 11, oc hb12), (12, 12, oc c55), (13, 13, oc c56)] ?_
        exact eN h (gg [] [0])
      refine to_block (to_thenG (Ge ?_))
      exact eB h (gg [] [0])
    refine W_exit_to (thenE ?_)
    exact eX h (gg [] [0])
  refine blockE_eq (to_thenG (G (W_ret ?_)))
  obtain rfl := sI h
  exact Ret_intro [(.slice .bool)] (by kernel_rfl)
def stanzaref04_more_L1 (a1 b1 : List Bool) : (Int) → Option ((Int) ⊕ ((Unit) ⊕ (Bool))) := fun i2 =>
  (if (decide (i2 < (a1.length : Int))) = true then (((if 0 ≤ i2 ∧ i2 < (b1.length : Int) then (if (b1.getD i2.toNat false) = true then (if 0 ≤ i2 ∧ i2 < (a1.length : Int) then some ((!(a1.getD i2.toNat false))) else none)
  else some (false)) else none)).bind fun v3 => (if v3 = true then some (Sum.inr (Sum.inr true))
  else some (Sum.inl (IntKind.i64.wrap (i2 + (1 : Int))))))
  else some (Sum.inr (Sum.inl ())))
def stanzaref04_more (a1 b1 : List Bool) : Option (Bool) :=
  ((iter (stanzaref04_more_L1 a1 b1) (0 : Int)).bind fun (r2 : ((Unit) ⊕ (Bool))) => match r2 with
  | .inl _ => some false
  | .inr (r1) => some r1)
theorem stanzaref04_more_ok (β0 β1 : Bool) {a1 : List Bool} {b1 : List Bool} {res : Bool} (h : stanzaref04_more a1 b1 = some res) :
    Pure Try.prog 36 [.p β0 (.slice .bool) a1, .p β1 (.slice .bool) b1] (wrapR (encs false [⟨.bool, res⟩])) := by
  refine Pure.of_body tbok Try.func36 (by kernel_rfl) rfl (nl rfl) (fun Bw w0 => ?_) rfl
  unfold stanzaref04_more at h
  refine G (W_seq (G (W_block (W_lp h (fun i2 => mkSt [(0, .p β0 (.slice .bool) a1), (1, .p β1 (.slice .bool) b1), (5, .i64 i2)] [] 0) (postS (postX Try.f36.ntmps 0 (fun _ => mkSt [] [] 0)) (postR tb Try.f36.results.toList (fun r1 => [⟨.bool, r1⟩]))) (gg [] []) (fun i2 o h => ?_) (fun r2 h e σ' hq => ?_)))))
  · unfold stanzaref04_more_L1 at h
    refine W_seq (G (W_if h (fun hb11 h => ?_) (fun hb11 h => ?_)))
    · refine W_skip_to (to_thenG (W_seq (W_block (W_seq (W_pn h (fun v3 => mkSt [(0, .p β0 (.slice .bool) a1), (1, .p β1 (.slice .bool) b1), (5, .i64 i2), (22, .bo v3)] [] 0) (fun v3 h => ?_) (fun v3 h => ?_))))))
      · obtain ⟨c17, h⟩ := h_guard h
        rcases h_ite h with ⟨hb14, h⟩ | ⟨hb14, h⟩
        · obtain ⟨c18, h⟩ := h_guard h
          refine GNe ⟨[(4, true), (10, true)], []⟩ [(2, 2, oc c17), (5, 6, an hb14), (7, 7, oc (And.intro hb14 c18)), (8, 9, an hb14), (10, 10, oc hb14)] ?_
          exact eN h (gg [] [])
        refine GNe ⟨[(4, false), (10, false)], []⟩ [(2, 2, oc c17), (5, 10, oc hb14)] ?_
        exact eN h (gg [] [])
      refine to_thenG (W_if h (fun hb15 h => ?_) (fun hb15 h => ?_))
      · refine G (W_ret ?_)
        obtain rfl := sI h
        refine blockQ_ret (thenQ_ret (round_ret (postS_rr ?_)))
        exact postR_mk (Ret_intro [.bool] (by kernel_rfl))
      refine W_skip_to (to_block (to_thenG (Ge ?_)))
      exact eB h (gg [] [])
    refine W_exit_to (thenE ?_)
    obtain rfl := sI h
    refine roundE (postS_l ?_)
    exact postX_to (gg [] [])
  rcases r2 with _ | r1
  · obtain ⟨rfl, hle⟩ := hq
    refine use_to ?_ hle
    refine blockE_eq (to_thenG (G (W_ret ?_)))
    obtain rfl := sI h
    exact Ret_intro [.bool] (by kernel_rfl)
  obtain ⟨rfl, hr⟩ := hq
  refine blockQ_ret (thenQ_ret ?_)
  obtain rfl := sI h
  exact hr
def stanzaref04_Ends_L1 (d2 : Int) (i1 : List Int) (x1 : List Bool) : ((List Bool) × Int) → Option (((List Bool) × Int) ⊕ (List Bool)) := fun (v32, v33) =>
  (if (decide ((IntKind.i64.wrap (v33 + (1 : Int))) < (x1.length : Int))) = true then (((if 0 ≤ v33 ∧ v33 < (x1.length : Int) then (if (x1.getD v33.toNat false) = true then (if 0 ≤ v33 ∧ v33 < (i1.length : Int) then (if (decide ((i1.getD v33.toNat (0 : Int)) ≥ (0 : Int))) = true then (if 0 ≤ v33 ∧ v33 < (i1.length : Int) then (if (decide ((i1.getD v33.toNat (0 : Int)) < (32 : Int))) = true then (if 0 ≤ v33 ∧ v33 < (i1.length : Int) then (if 0 ≤ (i1.getD v33.toNat (0 : Int)) then (if ¬ (2 : Int) = 0 then (if 0 ≤ (IntKind.i64.wrap (v33 + (1 : Int))) ∧ (IntKind.i64.wrap (v33 + (1 : Int))) < (v32.length : Int) then (if (IntKind.i64.wrap (v33 + (1 : Int))).toNat < v32.length then some ((v32.set ((IntKind.i64.wrap (v33 + (1 : Int))).toNat) ((Int.tmod (Int.fdiv d2 (2 ^ (min (i1.getD v33.toNat (0 : Int)).toNat IntKind.u32.bits))) (2 : Int)) == (1 : Int)))) else none) else none) else none) else none) else none)
  else (if 0 ≤ (IntKind.i64.wrap (v33 + (1 : Int))) ∧ (IntKind.i64.wrap (v33 + (1 : Int))) < (v32.length : Int) then (if (IntKind.i64.wrap (v33 + (1 : Int))).toNat < v32.length then some ((v32.set ((IntKind.i64.wrap (v33 + (1 : Int))).toNat) false)) else none) else none)) else none)
  else (if 0 ≤ (IntKind.i64.wrap (v33 + (1 : Int))) ∧ (IntKind.i64.wrap (v33 + (1 : Int))) < (v32.length : Int) then (if (IntKind.i64.wrap (v33 + (1 : Int))).toNat < v32.length then some ((v32.set ((IntKind.i64.wrap (v33 + (1 : Int))).toNat) false)) else none) else none)) else none)
  else (if 0 ≤ (IntKind.i64.wrap (v33 + (1 : Int))) ∧ (IntKind.i64.wrap (v33 + (1 : Int))) < (v32.length : Int) then (if (IntKind.i64.wrap (v33 + (1 : Int))).toNat < v32.length then some ((v32.set ((IntKind.i64.wrap (v33 + (1 : Int))).toNat) false)) else none) else none)) else none)).bind fun v35 => some (Sum.inl (v35, (IntKind.i64.wrap (v33 + (1 : Int))))))
  else some (Sum.inr v32))
def stanzaref04_Ends_L2 (d3 : List Tree) (i1 : List Int) (rec_stanzaref04_Ends : Int → Int → (List Tree) → (List Int) → (List Bool) → Option (List Bool)) : ((List Bool) × Int) → Option (((List Bool) × Int) ⊕ (List Bool)) := fun (v38, v39) =>
  (if (decide (v39 < (d3.length : Int))) = true then (if 0 ≤ v39 ∧ v39 < (d3.length : Int) then ((rec_stanzaref04_Ends ((d3.getD v39.toNat (Tree.node 0 0 [])).op) ((d3.getD v39.toNat (Tree.node 0 0 [])).set) ((d3.getD v39.toNat (Tree.node 0 0 [])).kids) i1 v38).bind fun r49 =>
  some (Sum.inl (r49, (IntKind.i64.wrap (v39 + (1 : Int)))))) else none)
  else some (Sum.inr v38))
def stanzaref04_Ends_L3 (d3 : List Tree) (i1 : List Int) (x1 : List Bool) (rec_stanzaref04_Ends : Int → Int → (List Tree) → (List Int) → (List Bool) → Option (List Bool)) : ((List Bool) × Int) → Option (((List Bool) × Int) ⊕ (List Bool)) := fun (v43, v44) =>
  (if (decide (v44 < (d3.length : Int))) = true then (if 0 ≤ v44 ∧ v44 < (d3.length : Int) then ((rec_stanzaref04_Ends ((d3.getD v44.toNat (Tree.node 0 0 [])).op) ((d3.getD v44.toNat (Tree.node 0 0 [])).set) ((d3.getD v44.toNat (Tree.node 0 0 [])).kids) i1 x1).bind fun r60 =>
  ((stanzaref04_both v43 r60).bind fun r61 =>
  some (Sum.inl (r61, (IntKind.i64.wrap (v44 + (1 : Int))))))) else none)
  else some (Sum.inr v43))
def stanzaref04_Ends_L4 (d3 : List Tree) (i1 : List Int) (rec_stanzaref04_Ends : Int → Int → (List Tree) → (List Int) → (List Bool) → Option (List Bool)) : ((List Bool) × List Bool) → Option (((List Bool) × List Bool) ⊕ (List Bool)) := fun (v51, v52) =>
  ((stanzaref04_more v51 v52).bind fun r77 =>
  (if r77 = true then ((stanzaref04_both v51 v52).bind fun r79 =>
  (if 0 ≤ (0 : Int) ∧ (0 : Int) < (d3.length : Int) then ((rec_stanzaref04_Ends ((d3.getD ((0 : Int).toNat) (Tree.node 0 0 [])).op) ((d3.getD ((0 : Int).toNat) (Tree.node 0 0 [])).set) ((d3.getD ((0 : Int).toNat) (Tree.node 0 0 [])).kids) i1 r79).bind fun r81 =>
  some (Sum.inl (r79, r81))) else none))
  else some (Sum.inr v51)))
def stanzaref04_Ends_F (rec_stanzaref04_Ends : Int → Int → (List Tree) → (List Int) → (List Bool) → Option (List Bool)) (d1 d2 : Int) (d3 : List Tree) (i1 : List Int) (x1 : List Bool) : Option (List Bool) :=
  (if 0 ≤ (x1.length : Int) ∧ (x1.length : Int) ≤ (x1.length : Int) ∧ (1 : Int) * (x1.length : Int) ≤ 281474976710656 ∧ (x1.length : Int) ≤ 9223372036854775807 then (((if (d1 == (1 : Int)) = true then ((iter (stanzaref04_Ends_L1 d2 i1 x1) ((List.replicate (x1.length : Int).toNat false), (0 : Int))).bind fun v34 => some ((Sum.inl v34)))
  else (if (d1 == (2 : Int)) = true then ((iter (stanzaref04_Ends_L2 d3 i1 rec_stanzaref04_Ends) ((x1.take (List.replicate (x1.length : Int).toNat false).length ++ (List.replicate (x1.length : Int).toNat false).drop x1.length), (0 : Int))).bind fun v40 => some ((Sum.inl v40)))
  else (if (d1 == (3 : Int)) = true then ((iter (stanzaref04_Ends_L3 d3 i1 x1 rec_stanzaref04_Ends) ((List.replicate (x1.length : Int).toNat false), (0 : Int))).bind fun v45 => some ((Sum.inl v45)))
  else (((if (d1 == (4 : Int)) = true then some ((d1 == (4 : Int)))
  else some ((d1 == (5 : Int))))).bind fun v46 => (if v46 = true then (if ((d3.length : Int) == (0 : Int)) = true then (((if (d1 == (4 : Int)) = true then some ((x1.take (List.replicate (x1.length : Int).toNat false).length ++ (List.replicate (x1.length : Int).toNat false).drop x1.length))
  else some ((List.replicate (x1.length : Int).toNat false)))).bind fun v47 => some ((Sum.inr v47)))
  else (((if (d1 == (4 : Int)) = true then some ((x1.take (List.replicate (x1.length : Int).toNat false).length ++ (List.replicate (x1.length : Int).toNat false).drop x1.length))
  else some ((List.replicate (x1.length : Int).toNat false)))).bind fun v48 => (if 0 ≤ (0 : Int) ∧ (0 : Int) < (d3.length : Int) then ((rec_stanzaref04_Ends ((d3.getD ((0 : Int).toNat) (Tree.node 0 0 [])).op) ((d3.getD ((0 : Int).toNat) (Tree.node 0 0 [])).set) ((d3.getD ((0 : Int).toNat) (Tree.node 0 0 [])).kids) i1 x1).bind fun r63 =>
  ((iter (stanzaref04_Ends_L4 d3 i1 rec_stanzaref04_Ends) (v48, r63)).bind fun v53 => some ((Sum.inl v53)))) else none)))
  else (if (d1 == (6 : Int)) = true then (if (decide ((d3.length : Int) > (0 : Int))) = true then (if 0 ≤ (0 : Int) ∧ (0 : Int) < (d3.length : Int) then ((rec_stanzaref04_Ends ((d3.getD ((0 : Int).toNat) (Tree.node 0 0 [])).op) ((d3.getD ((0 : Int).toNat) (Tree.node 0 0 [])).set) ((d3.getD ((0 : Int).toNat) (Tree.node 0 0 [])).kids) i1 x1).bind fun r84 =>
  ((stanzaref04_both (x1.take (List.replicate (x1.length : Int).toNat false).length ++ (List.replicate (x1.length : Int).toNat false).drop x1.length) r84).bind fun r85 =>
  some ((Sum.inl r85)))) else none)
  else some ((Sum.inl (x1.take (List.replicate (x1.length : Int).toNat false).length ++ (List.replicate (x1.length : Int).toNat false).drop x1.length))))
  else some ((Sum.inl (x1.take (List.replicate (x1.length : Int).toNat false).length ++ (List.replicate (x1.length : Int).toNat false).drop x1.length)))))))))).bind fun (r86 : ((List Bool) ⊕ (List Bool))) => match r86 with
  | .inl v27 => some v27
  | .inr (r43) => some r43) else none)
def stanzaref04_Ends : Nat → Int → Int → (List Tree) → (List Int) → (List Bool) → Option (List Bool)
  | 0 => fun _ _ _ _ _ => none
  | n + 1 => stanzaref04_Ends_F (stanzaref04_Ends n)
theorem stanzaref04_Ends_F_ok (rec_stanzaref04_Ends : Int → Int → (List Tree) → (List Int) → (List Bool) → Option (List Bool)) (hrec_stanzaref04_Ends : ∀ (β2 β3 β4 : Bool) {d1 : Int} {d2 : Int} {d3 : List Tree} {i1 : List Int} {x1 : List Bool} {res : List Bool}, rec_stanzaref04_Ends d1 d2 d3 i1 x1 = some res → Pure Try.prog 26 [.agg [.u8 d1, .u32 d2, .p β2 (.slice (.tree .u8 .u32)) d3], .p β3 (.slice (.int .i64)) i1, .p β4 (.slice .bool) x1] (wrapR (encs false [⟨(.slice .bool), res⟩]))) (β2 β3 β4 : Bool) {d1 : Int} {d2 : Int} {d3 : List Tree} {i1 : List Int} {x1 : List Bool} {res : List Bool} (h : stanzaref04_Ends_F rec_stanzaref04_Ends d1 d2 d3 i1 x1 = some res) :
    Pure Try.prog 26 [.agg [.u8 d1, .u32 d2, .p β2 (.slice (.tree .u8 .u32)) d3], .p β3 (.slice (.int .i64)) i1, .p β4 (.slice .bool) x1] (wrapR (encs false [⟨(.slice .bool), res⟩])) := by
  refine Pure.of_body tbok Try.func26 (by kernel_rfl) rfl (nl rfl) (fun Bw w0 => ?_) rfl
  unfold stanzaref04_Ends_F at h
  refine G (GC 2 h (fun h => W_seq (G (W_block (G (W_pc h (postS (postN Try.f26.ntmps (fun v27 => mkSt [(7, .p false (.slice .bool) v27)] [] 0)) (postR tb Try.f26.results.toList (fun r43 => [⟨(.slice .bool), r43⟩]))) (fun r86 h => ?_) (fun r86 h e σ' hq => ?_)))))))
  · refine W_if h (fun hb53 h => ?_) (fun hb53 h => ?_)
    · refine G (W_block (W_lx h (fun (v32, v33) => mkSt [(1, .p β3 (.slice (.int .i64)) i1), (2, .p β4 (.slice .bool) x1), (3, .adr 0 0 3 0), (7, .sl 1), (8, .i64 v33)] (ob70 d1 d2 β2 d3 v32) 2) 1 (fun v34 => mkSt [(7, .sl 0)] [(0, .arr 4 .bool v34)] 1) (gg [] [0, 32]) (fun y o h => ?_) (fun v34 h => ?_)))
      · obtain ⟨v32, v33⟩ := y
        unfold stanzaref04_Ends_L1 at h
        refine W_seq (G (W_if h (fun hb74 h => ?_) (fun hb74 h => ?_)))
        · refine W_skip_to (to_thenG (W_seq (W_block (W_pn h (fun v35 => mkSt [(1, .p β3 (.slice (.int .i64)) i1), (2, .p β4 (.slice .bool) x1), (3, .adr 0 0 3 0), (7, .sl 1), (8, .i64 v33)] (ob70 d1 d2 β2 d3 v35) 2) (fun v35 h => ?_) (fun v35 h => ?_)))))
          · obtain ⟨c263, h⟩ := h_guard h
            rcases h_ite h with ⟨hb81, h⟩ | ⟨hb81, h⟩
            · obtain ⟨c264, h⟩ := h_guard h
              rcases h_ite h with ⟨hb82, h⟩ | ⟨hb82, h⟩
              · obtain ⟨c265, h⟩ := h_guard h
                rcases h_ite h with ⟨hb83, h⟩ | ⟨hb83, h⟩
                · obtain ⟨c266, c267, c268, c269, h⟩ := g4 h
                  obtain ⟨c270, h⟩ := h_guard h
                  refine GDe ⟨[(7, true), (13, true), (14, true), (20, true), (21, true), (31, true)], []⟩ [(5, 5, oc c263), (8, 9, an hb81), (10, 10, oc (And.intro hb81 c264)), (11, 12, an hb81), (13, 13, oc hb81), (15, 16, an hb82), (17, 17, oc (And.intro hb82 c265)), (18, 19, an hb82), (20, 20, oc hb82), (22, 25, an hb83), (26, 26, oc (And.intro hb83 c266)), (27, 27, an hb83), (28, 28, oc (And.intro hb83 c267)), (29, 29, oc (And.intro hb83 c268)), (30, 30, an hb83), (31, 31, oc hb83), (32, 32, oc c269), (33, 33, oc c270)] ?_
                  exact eN h (gg [] [0, 1])
                obtain ⟨c271, c272, h⟩ := g2 h
                refine GDe ⟨[(7, true), (13, true), (14, true), (20, true), (21, false), (31, false)], []⟩ [(5, 5, oc c263), (8, 9, an hb81), (10, 10, oc (And.intro hb81 c264)), (11, 12, an hb81), (13, 13, oc hb81), (15, 16, an hb82), (17, 17, oc (And.intro hb82 c265)), (18, 19, an hb82), (20, 20, oc hb82), (22, 31, oc hb83), (32, 32, oc c271), (33, 33, oc c272)] ?_
                exact eN h (gg [] [0, 1])
              obtain ⟨c273, c274, h⟩ := g2 h
              refine GDe ⟨[(7, true), (13, true), (14, false), (20, false)], []⟩ [(5, 5, oc c263), (8, 9, an hb81), (10, 10, oc (And.intro hb81 c264)), (11, 12, an hb81), (13, 13, oc hb81), (15, 20, oc hb82), (32, 32, oc c273), (33, 33, oc c274)] ?_
              exact eN h (gg [] [0, 1])
            obtain ⟨c275, c276, h⟩ := g2 h
            refine GDe ⟨[(7, false), (13, false)], []⟩ [(5, 5, oc c263), (8, 13, oc hb81), (32, 32, oc c275), (33, 33, oc c276)] ?_
            exact eN h (gg [] [0, 1])
          refine to_block (to_thenG (Ge ?_))
          exact eB h (gg [] [0, 1])
        refine W_exit_to (thenE ?_)
        exact eX h (gg [] [1])
      refine blockE_eq ?_
      obtain rfl := sI h
      refine postS_l ?_
      exact postN_to (gg [.frzS 7] [])
    refine G (W_if h (fun hb84 h => ?_) (fun hb84 h => ?_))
    · refine G (G (W_block (W_lx h (fun (v38, v39) => mkSt [(1, .p β3 (.slice (.int .i64)) i1), (3, .adr 0 0 3 0), (7, .p false (.slice .bool) v38), (9, .i64 v39)] (ob71 d1 d2 β2 d3) 1) 3 (fun v40 => mkSt [(7, .p false (.slice .bool) v40)] [] 0) (gg [.frzS 7] [0]) (fun y o h => ?_) (fun v40 h => ?_))))
      · obtain ⟨v38, v39⟩ := y
        unfold stanzaref04_Ends_L2 at h
        refine W_seq (G (W_if h (fun hb87 h => ?_) (fun hb87 h => ?_)))
        · refine W_skip_to (to_thenG (W_seq (W_block ?_)))
          obtain ⟨c282, h⟩ := h_guard h
          obtain ⟨r49, q48, h⟩ := h_bind h
          have u_1 := (hrec_stanzaref04_Ends β2 β3 false q48)
          refine GNe ⟨[], [(7, (oP u_1))]⟩ [(3, 3, oc c282), (7, 7, oc u_1)] (to_block (to_thenG (Ge ?_)))
          exact eB h (gg [] [0])
        refine W_exit_to (thenE ?_)
        exact eX h (gg [] [])
      refine blockE_eq ?_
      obtain rfl := sI h
      refine postS_l ?_
      exact postN_to (gg [] [])
    refine G (W_if h (fun hb88 h => ?_) (fun hb88 h => ?_))
    · refine G (W_block (W_lx h (fun (v43, v44) => mkSt [(1, .p β3 (.slice (.int .i64)) i1), (2, .p β4 (.slice .bool) x1), (3, .adr 0 0 3 0), (7, .p false (.slice .bool) v43), (10, .i64 v44)] (ob71 d1 d2 β2 d3) 1) 5 (fun v45 => mkSt [(7, .p false (.slice .bool) v45)] [] 0) (gg [.frzS 7] [0]) (fun y o h => ?_) (fun v45 h => ?_)))
      · obtain ⟨v43, v44⟩ := y
        unfold stanzaref04_Ends_L3 at h
        refine W_seq (G (W_if h (fun hb91 h => ?_) (fun hb91 h => ?_)))
        · refine W_skip_to (to_thenG (W_seq (W_block ?_)))
          obtain ⟨c288, h⟩ := h_guard h
          obtain ⟨r60, q59, h⟩ := h_bind h
          obtain ⟨r61, q60, h⟩ := h_bind h
          have u_1 := (hrec_stanzaref04_Ends β2 β3 β4 q59)
          have u_2 := (stanzaref04_both_ok false false q60)
          refine GNe ⟨[], [(8, (oP u_1)), (9, (oP u_2))]⟩ [(4, 4, oc c288), (8, 8, oc u_1), (9, 9, oc u_2)] (to_block (to_thenG (Ge ?_)))
          exact eB h (gg [] [0])
        refine W_exit_to (thenE ?_)
        exact eX h (gg [] [])
      refine blockE_eq ?_
      obtain rfl := sI h
      refine postS_l ?_
      exact postN_to (gg [] [])
    refine W_seq (G (W_pn h (fun v46 => mkSt [(1, .p β3 (.slice (.int .i64)) i1), (2, .p β4 (.slice .bool) x1), (3, .adr 0 0 3 0), (7, .sl 1), (16, .u8 d1), (101, .bo v46)] (ob70 d1 d2 β2 d3 (List.replicate (x1.length : Int).toNat false)) 2) (fun v46 h => ?_) (fun v46 h => ?_)))
    · refine W_if h (fun hb93 h => ?_) (fun hb93 h => ?_)
      · refine W_skip_to ?_
        exact eN h (gg [] [0, 32])
      refine Ge ?_
      exact eN h (gg [] [0, 32])
    refine to_thenG (W_if h (fun hb94 h => ?_) (fun hb94 h => ?_))
    · refine W_seq (G (W_if h (fun hb95 h => ?_) (fun hb95 h => ?_)))
      · refine W_seq (G (W_pn h (fun v47 => mkSt [(7, .sl 0)] [(0, .arr 4 .bool v47)] 1) (fun v47 h => ?_) (fun v47 h => ?_)))
        · refine W_if h (fun hb97 h => ?_) (fun hb97 h => ?_)
          · refine Ge ?_
            exact eN h (gg [] [1])
          refine W_skip_to ?_
          exact eN h (gg [] [1])
        refine to_thenG (G (W_ret ?_))
        obtain rfl := sI h
        refine thenQ_ret (postS_rr ?_)
        exact postR_mk (Ret_intro [(.slice .bool)] (by kernel_rfl))
      refine W_skip_to (to_thenG (W_seq (G (W_pn h (fun v48 => mkSt [(1, .p β3 (.slice (.int .i64)) i1), (2, .p β4 (.slice .bool) x1), (3, .adr 0 0 3 0), (7, .sl 1)] (ob70 d1 d2 β2 d3 v48) 2) (fun v48 h => ?_) (fun v48 h => ?_)))))
      · refine W_if h (fun hb99 h => ?_) (fun hb99 h => ?_)
        · refine Ge ?_
          exact eN h (gg [] [0, 1])
        refine W_skip_to ?_
        exact eN h (gg [] [0, 1])
      refine to_thenG ?_
      obtain ⟨c290, h⟩ := h_guard h
      obtain ⟨r63, q62, h⟩ := h_bind h
      have u_1 := (hrec_stanzaref04_Ends β2 β3 β4 q62)
      refine GN ⟨[], [(6, (oP u_1))]⟩ [(2, 2, oc c290), (6, 6, oc u_1)] (W_block (W_lx h (fun (v51, v52) => mkSt [(1, .p β3 (.slice (.int .i64)) i1), (3, .adr 0 0 3 0), (7, .p false (.slice .bool) v51), (11, .p false (.slice .bool) v52)] (ob71 d1 d2 β2 d3) 1) 7 (fun v53 => mkSt [(7, .p false (.slice .bool) v53)] [] 0) (gg [.frzS 7] [0]) (fun y o h => ?_) (fun v53 h => ?_)))
      · obtain ⟨v51, v52⟩ := y
        unfold stanzaref04_Ends_L4 at h
        refine W_seq ?_
        obtain ⟨r77, q76, h⟩ := h_bind h
        refine GP 2 (stanzaref04_more_ok false false q76) (W_if h (fun hb102 h => ?_) (fun hb102 h => ?_))
        · refine W_skip_to (to_thenG (W_block ?_))
          obtain ⟨r79, q78, h⟩ := h_bind h
          refine GP 2 (stanzaref04_both_ok false false q78) ?_
          obtain ⟨c296, h⟩ := h_guard h
          obtain ⟨r81, q80, h⟩ := h_bind h
          have u_1 := (hrec_stanzaref04_Ends β2 β3 false q80)
          refine GNe ⟨[], [(6, (oP u_1))]⟩ [(2, 2, oc c296), (6, 6, oc u_1)] (to_block ?_)
          exact eB h (gg [] [0])
        refine W_exit_to (thenE ?_)
        exact eX h (gg [] [])
      refine blockE_eq ?_
      obtain rfl := sI h
      refine postS_l ?_
      exact postN_to (gg [] [])
    refine G (W_if h (fun hb103 h => ?_) (fun hb103 h => ?_))
    · refine G (G (W_if h (fun hb104 h => ?_) (fun hb104 h => ?_)))
      · obtain ⟨c298, h⟩ := h_guard h
        obtain ⟨r84, q83, h⟩ := h_bind h
        obtain ⟨r85, q84, h⟩ := h_bind h
        have u_1 := (hrec_stanzaref04_Ends β2 β3 β4 q83)
        have u_2 := (stanzaref04_both_ok true false q84)
        refine GNe ⟨[], [(7, (oP u_1)), (8, (oP u_2))]⟩ [(3, 3, oc c298), (7, 7, oc u_1), (8, 8, oc u_2)] ?_
        obtain rfl := sI h
        refine postS_l ?_
        exact postN_to (gg [] [])
      refine W_skip_to ?_
      obtain rfl := sI h
      refine postS_l ?_
      exact postN_to (gg [.frzS 7] [])
    refine Ge ?_
    obtain rfl := sI h
    refine postS_l ?_
    exact postN_to (gg [.frzS 7] [])
  rcases r86 with v27 | r43
  · obtain ⟨rfl, hle⟩ := hq
    refine use_to ?_ hle
    refine to_block (to_thenG (G (W_ret ?_)))
    obtain rfl := sI h
    exact Ret_intro [(.slice .bool)] (by kernel_rfl)
  obtain ⟨rfl, hr⟩ := hq
  refine blockQ_ret (thenQ_ret ?_)
  obtain rfl := sI h
  exact hr
theorem stanzaref04_Ends_ok : ∀ (n : Nat) (β2 β3 β4 : Bool) {d1 : Int} {d2 : Int} {d3 : List Tree} {i1 : List Int} {x1 : List Bool} {res : List Bool}, stanzaref04_Ends n d1 d2 d3 i1 x1 = some res → Pure Try.prog 26 [.agg [.u8 d1, .u32 d2, .p β2 (.slice (.tree .u8 .u32)) d3], .p β3 (.slice (.int .i64)) i1, .p β4 (.slice .bool) x1] (wrapR (encs false [⟨(.slice .bool), res⟩]))
  | 0, _, _, _, _, _, _, _, _, _, h => by cases h
  | n + 1, β2, β3, β4, d1, d2, d3, i1, x1, res, h => stanzaref04_Ends_F_ok (stanzaref04_Ends n) (stanzaref04_Ends_ok n) β2 β3 β4 h
end
end Go.Proofs.Ytnjdmbifjbahdaa.T
