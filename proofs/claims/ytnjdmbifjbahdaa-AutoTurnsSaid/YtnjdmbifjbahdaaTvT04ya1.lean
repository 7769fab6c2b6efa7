/- Functions of the program as functions on data, and that the program's own come to them. -/
import Derived.Test.YtnjdmbifjbahdaaTvT04y0
namespace Go.Proofs.Ytnjdmbifjbahdaa.T
open Go Go.Tv Go.Proofs
noncomputable section
set_option maxRecDepth 100000
set_option maxHeartbeats 4000000
def auto_set_add_v1 (i1 : Int) (s1 : Bool) (s2 s3 s4 s5 s6 s7 s8 s9 : Int) : Option (Int × Int × Int × Int) :=
  (if ¬ (64 : Int) = 0 then (if 0 ≤ (IntKind.i64.wrap (Int.tdiv i1 (64 : Int))) ∧ (IntKind.i64.wrap (Int.tdiv i1 (64 : Int))) < ((4 : Nat) : Int) then (if ¬ (64 : Int) = 0 then (if 0 ≤ (Int.tmod i1 (64 : Int)) then (if 0 ≤ (IntKind.i64.wrap (Int.tdiv i1 (64 : Int))) ∧ (IntKind.i64.wrap (Int.tdiv i1 (64 : Int))) < ((4 : Nat) : Int) then some ((if (IntKind.i64.wrap (Int.tdiv i1 (64 : Int))).toNat = 0 then (bitsOf .or .u64 (([s2, s3, s4, s5] : List Int).getD ((IntKind.i64.wrap (Int.tdiv i1 (64 : Int))).toNat) 0) (IntKind.u64.wrap ((1 : Int) * 2 ^ (min (Int.tmod i1 (64 : Int)).toNat IntKind.u64.bits)))) else s2), (if (IntKind.i64.wrap (Int.tdiv i1 (64 : Int))).toNat = 1 then (bitsOf .or .u64 (([s2, s3, s4, s5] : List Int).getD ((IntKind.i64.wrap (Int.tdiv i1 (64 : Int))).toNat) 0) (IntKind.u64.wrap ((1 : Int) * 2 ^ (min (Int.tmod i1 (64 : Int)).toNat IntKind.u64.bits)))) else s3), (if (IntKind.i64.wrap (Int.tdiv i1 (64 : Int))).toNat = 2 then (bitsOf .or .u64 (([s2, s3, s4, s5] : List Int).getD ((IntKind.i64.wrap (Int.tdiv i1 (64 : Int))).toNat) 0) (IntKind.u64.wrap ((1 : Int) * 2 ^ (min (Int.tmod i1 (64 : Int)).toNat IntKind.u64.bits)))) else s4), (if (IntKind.i64.wrap (Int.tdiv i1 (64 : Int))).toNat = 3 then (bitsOf .or .u64 (([s2, s3, s4, s5] : List Int).getD ((IntKind.i64.wrap (Int.tdiv i1 (64 : Int))).toNat) 0) (IntKind.u64.wrap ((1 : Int) * 2 ^ (min (Int.tmod i1 (64 : Int)).toNat IntKind.u64.bits)))) else s5)) else none) else none) else none) else none) else none)
theorem auto_set_add_v1_ok {i1 : Int} {s1 : Bool} {s2 : Int} {s3 : Int} {s4 : Int} {s5 : Int} {s6 : Int} {s7 : Int} {s8 : Int} {s9 : Int} {res : Int × Int × Int × Int} (h : auto_set_add_v1 i1 s1 s2 s3 s4 s5 s6 s7 s8 s9 = some res) :
    Owns Try.prog 23 [.adr 0 0 9 1, .i64 i1] (ob1 s1 s2 s3 s4 s5 s6 s7 s8 s9) (.tup []) (ob1 s1 res.1 res.2.1 res.2.2.1 res.2.2.2 s6 s7 s8 s9) := by
  refine Owns.of_body tbok Try.func23 (by kernel_rfl) rfl (nl rfl) (fun Bw w0 => ?_)
  unfold auto_set_add_v1 at h
  obtain ⟨c16, c17, c18, c19, h⟩ := g4 h
  obtain ⟨c20, h⟩ := h_guard h
  refine GDe a0 [(2, 2, oc c16), (4, 4, oc c17), (7, 7, oc c18), (8, 8, oc c19), (11, 11, oc c20)] ?_
  obtain rfl := sI h
  exact (RetO_intro [] [] [0] [] (ob1 s1 (if (IntKind.i64.wrap (Int.tdiv i1 (64 : Int))).toNat = 0 then (bitsOf .or .u64 (([s2, s3, s4, s5] : List Int).getD ((IntKind.i64.wrap (Int.tdiv i1 (64 : Int))).toNat) 0) (IntKind.u64.wrap ((1 : Int) * 2 ^ (min (Int.tmod i1 (64 : Int)).toNat IntKind.u64.bits)))) else s2) (if (IntKind.i64.wrap (Int.tdiv i1 (64 : Int))).toNat = 1 then (bitsOf .or .u64 (([s2, s3, s4, s5] : List Int).getD ((IntKind.i64.wrap (Int.tdiv i1 (64 : Int))).toNat) 0) (IntKind.u64.wrap ((1 : Int) * 2 ^ (min (Int.tmod i1 (64 : Int)).toNat IntKind.u64.bits)))) else s3) (if (IntKind.i64.wrap (Int.tdiv i1 (64 : Int))).toNat = 2 then (bitsOf .or .u64 (([s2, s3, s4, s5] : List Int).getD ((IntKind.i64.wrap (Int.tdiv i1 (64 : Int))).toNat) 0) (IntKind.u64.wrap ((1 : Int) * 2 ^ (min (Int.tmod i1 (64 : Int)).toNat IntKind.u64.bits)))) else s4) (if (IntKind.i64.wrap (Int.tdiv i1 (64 : Int))).toNat = 3 then (bitsOf .or .u64 (([s2, s3, s4, s5] : List Int).getD ((IntKind.i64.wrap (Int.tdiv i1 (64 : Int))).toNat) 0) (IntKind.u64.wrap ((1 : Int) * 2 ^ (min (Int.tmod i1 (64 : Int)).toNat IntKind.u64.bits)))) else s5) s6 s7 s8 s9) 1 1 (by kernel_rfl) (by kernel_rfl) (by kernel_rfl)).normal
def auto_set_has (s1 s2 s3 s4 i1 : Int) : Option (Bool) :=
  (if ¬ (64 : Int) = 0 then (if 0 ≤ (IntKind.i64.wrap (Int.tdiv i1 (64 : Int))) ∧ (IntKind.i64.wrap (Int.tdiv i1 (64 : Int))) < ((4 : Nat) : Int) then (if ¬ (64 : Int) = 0 then (if 0 ≤ (Int.tmod i1 (64 : Int)) then some ((bitsOf .and .u64 (Int.fdiv (([s1, s2, s3, s4] : List Int).getD ((IntKind.i64.wrap (Int.tdiv i1 (64 : Int))).toNat) 0) (2 ^ (min (Int.tmod i1 (64 : Int)).toNat IntKind.u64.bits))) (1 : Int)) == (1 : Int)) else none) else none) else none) else none)
theorem auto_set_has_ok {s1 : Int} {s2 : Int} {s3 : Int} {s4 : Int} {i1 : Int} {res : Bool} (h : auto_set_has s1 s2 s3 s4 i1 = some res) :
    Pure Try.prog 21 [.agg [.u64 s1, .u64 s2, .u64 s3, .u64 s4], .i64 i1] (wrapR (encs false [⟨.bool, res⟩])) := by
  refine Pure.of_body tbok Try.func21 (by kernel_rfl) rfl (nl rfl) (fun Bw w0 => ?_) rfl
  unfold auto_set_has at h
  refine G ?_
  obtain ⟨c5, c6, c7, c8, h⟩ := g4 h
  refine GN a0 [(1, 1, oc c5), (2, 2, oc c6), (5, 5, oc c7), (6, 6, oc c8)] (W_ret ?_)
  obtain rfl := sI h
  exact Ret_intro [.bool] (by kernel_rfl)
def auto_set_or_L1 (o1 o2 o3 o4 : Int) : (Int × Int × Int × Int × Int) → Option ((Int × Int × Int × Int × Int) ⊕ (Int × Int × Int × Int)) := fun (s9, s10, s11, s12, v2) =>
  (if (decide (v2 < (4 : Int))) = true then (if 0 ≤ v2 ∧ v2 < ((4 : Nat) : Int) then (if 0 ≤ v2 ∧ v2 < ((4 : Nat) : Int) then (if 0 ≤ v2 ∧ v2 < ((4 : Nat) : Int) then some (Sum.inl ((if v2.toNat = 0 then (bitsOf .or .u64 (([s9, s10, s11, s12] : List Int).getD v2.toNat 0) (([o1, o2, o3, o4] : List Int).getD v2.toNat 0)) else s9), (if v2.toNat = 1 then (bitsOf .or .u64 (([s9, s10, s11, s12] : List Int).getD v2.toNat 0) (([o1, o2, o3, o4] : List Int).getD v2.toNat 0)) else s10), (if v2.toNat = 2 then (bitsOf .or .u64 (([s9, s10, s11, s12] : List Int).getD v2.toNat 0) (([o1, o2, o3, o4] : List Int).getD v2.toNat 0)) else s11), (if v2.toNat = 3 then (bitsOf .or .u64 (([s9, s10, s11, s12] : List Int).getD v2.toNat 0) (([o1, o2, o3, o4] : List Int).getD v2.toNat 0)) else s12), (IntKind.i64.wrap (v2 + (1 : Int))))) else none) else none) else none)
  else some (Sum.inr (s9, s10, s11, s12)))
def auto_set_or (s1 s2 s3 s4 o1 o2 o3 o4 : Int) : Option (Int × Int × Int × Int) :=
  ((iter (auto_set_or_L1 o1 o2 o3 o4) (s1, s2, s3, s4, (0 : Int))).bind fun (s13, s14, s15, s16) => some (s13, (s14, (s15, s16))))
theorem auto_set_or_ok {s1 : Int} {s2 : Int} {s3 : Int} {s4 : Int} {o1 : Int} {o2 : Int} {o3 : Int} {o4 : Int} {res : Int × Int × Int × Int} (h : auto_set_or s1 s2 s3 s4 o1 o2 o3 o4 = some res) :
    Pure Try.prog 20 [.agg [.u64 s1, .u64 s2, .u64 s3, .u64 s4], .agg [.u64 o1, .u64 o2, .u64 o3, .u64 o4]] (wrapR (encs false [⟨Y3, res⟩])) := by
  refine Pure.of_body tbok Try.func20 (by kernel_rfl) rfl (nl rfl) (fun Bw w0 => ?_) rfl
  unfold auto_set_or at h
  refine G (W_seq (G (W_block (W_lx h (fun (s9, s10, s11, s12, v2) => mkSt [(2, .adr 0 0 4 0), (3, .adr 1 0 4 0), (4, .adr 2 0 4 0), (6, .i64 v2)] (ob7 s9 s10 s11 s12 o1 o2 o3 o4 (0 : Int) (0 : Int) (0 : Int) (0 : Int)) 3) 0 (fun (s13, s14, s15, s16) => mkSt [(2, .adr 0 0 4 0), (4, .adr 1 0 4 0)] (ob3 s13 s14 s15 s16 (0 : Int) (0 : Int) (0 : Int) (0 : Int)) 2) (gg [] [0, 8, 16]) (fun y o h => ?_) (fun r1 h => ?_)))))
  · obtain ⟨s9, s10, s11, s12, v2⟩ := y
    unfold auto_set_or_L1 at h
    refine G (W_seq (W_if h (fun hb3 h => ?_) (fun hb3 h => ?_)))
    · refine W_skip_to (to_thenG (W_seq (W_block (G ?_))))
      obtain ⟨c16, c17, c18, h⟩ := g3 h
      refine GDe a0 [(1, 1, oc c16), (4, 4, oc c17), (7, 7, oc c18)] (to_block (to_thenG (Ge ?_)))
      exact eB h (gg [] [0, 1, 2])
    refine W_exit_to (thenE ?_)
    exact eX h (gg [] [0, 2])
  obtain ⟨s13, s14, s15, s16⟩ := r1
  refine blockE_eq (to_thenG (G (W_ret ?_)))
  obtain rfl := sI h
  exact Ret_intro [Y3] (by kernel_rfl)
def auto_maker_link_v2_L1 (from1 from2 from3 from4 to1 to2 to3 to4 : Int) (o2 : List (Int × Int × Int × Int)) : ((List (Int × Int × Int × Int)) × Int) → Option (((List (Int × Int × Int × Int)) × Int) ⊕ (List (Int × Int × Int × Int))) := fun (m10, v6) =>
  (if (decide (v6 < (o2.length : Int))) = true then ((auto_set_has from1 from2 from3 from4 v6).bind fun r32 =>
  (((if r32 = true then (if 0 ≤ v6 ∧ v6 < (m10.length : Int) then (if v6.toNat < m10.length then ((auto_set_or ((m10.getD v6.toNat ((0 : Int), ((0 : Int), ((0 : Int), (0 : Int))))).1) ((m10.getD v6.toNat ((0 : Int), ((0 : Int), ((0 : Int), (0 : Int))))).2.1) ((m10.getD v6.toNat ((0 : Int), ((0 : Int), ((0 : Int), (0 : Int))))).2.2.1) ((m10.getD v6.toNat ((0 : Int), ((0 : Int), ((0 : Int), (0 : Int))))).2.2.2) to1 to2 to3 to4).bind fun r36 =>
  (if 0 ≤ v6 ∧ v6 < (m10.length : Int) then (if v6.toNat < m10.length then some ((m10.set v6.toNat (r36.1, (r36.2.1, (r36.2.2.1, r36.2.2.2))))) else none) else none)) else none) else none)
  else some (m10))).bind fun m11 => some (Sum.inl (m11, (IntKind.i64.wrap (v6 + (1 : Int)))))))
  else some (Sum.inr m10))
def auto_maker_link_v2 (from1 from2 from3 from4 to1 to2 to3 to4 : Int) (m1 : Bool) (o1 : List Int) (o2 : List (Int × Int × Int × Int)) : Option (List (Int × Int × Int × Int)) :=
  ((iter (auto_maker_link_v2_L1 from1 from2 from3 from4 to1 to2 to3 to4 o2) (o2, (0 : Int))).bind fun v7 => some v7)
theorem auto_maker_link_v2_ok {from1 : Int} {from2 : Int} {from3 : Int} {from4 : Int} {to1 : Int} {to2 : Int} {to3 : Int} {to4 : Int} {m1 : Bool} {o1 : List Int} {o2 : List (Int × Int × Int × Int)} {res : List (Int × Int × Int × Int)} (h : auto_maker_link_v2 from1 from2 from3 from4 to1 to2 to3 to4 m1 o1 o2 = some res) :
    Owns Try.prog 27 [.adr 0 0 3 0, .agg [.u64 from1, .u64 from2, .u64 from3, .u64 from4], .agg [.u64 to1, .u64 to2, .u64 to3, .u64 to4]] (ob6 m1 o1 o2) (.tup []) (ob6 m1 o1 res) := by
  refine Owns.of_body tbok Try.func27 (by kernel_rfl) rfl (nl rfl) (fun Bw w0 => ?_)
  unfold auto_maker_link_v2 at h
  refine G (G (W_block (W_lx h (fun (m10, v6) => mkSt [(0, .adr 0 0 3 0), (4, .adr 3 0 4 0), (5, .adr 4 0 4 0), (11, .i64 (o2.length : Int)), (12, .i64 v6)] (ob8 m1 o1 m10 from1 from2 from3 from4 to1 to2 to3 to4) 5 3) 0 (fun v7 => mkSt [] (ob6 m1 o1 v7) 3 3) (gg [] [0, 1, 2, 3, 11]) (fun y o h => ?_) (fun v7 h => ?_))))
  · obtain ⟨m10, v6⟩ := y
    unfold auto_maker_link_v2_L1 at h
    refine G (W_seq (W_if h (fun hb16 h => ?_) (fun hb16 h => ?_)))
    · refine W_skip_to (to_thenG (W_seq (W_block (G ?_))))
      obtain ⟨r32, q32, h⟩ := h_bind h
      refine GP 2 (auto_set_has_ok q32) (W_pn h (fun m11 => mkSt [(0, .adr 0 0 3 0), (4, .adr 3 0 4 0), (5, .adr 4 0 4 0), (11, .i64 (o2.length : Int)), (12, .i64 v6)] (ob8 m1 o1 m11 from1 from2 from3 from4 to1 to2 to3 to4) 5 3) (fun m11 h => ?_) (fun m11 h => ?_))
      · refine W_if h (fun hb18 h => ?_) (fun hb18 h => ?_)
        · obtain ⟨c93, c94, h⟩ := g2 h
          obtain ⟨r36, q36, h⟩ := h_bind h
          obtain ⟨c95, c96, h⟩ := g2 h
          have u_1 := (auto_set_or_ok q36)
          refine GDe ⟨[], [(13, (oP u_1))]⟩ [(10, 10, oc c93), (11, 11, oc c94), (13, 13, oc u_1), (14, 14, oc c95), (15, 15, oc c96)] ?_
          exact eN h (gg [] [0, 1, 2, 3, 4])
        refine W_skip_to ?_
        exact eN h (gg [] [0, 1, 2, 3, 4])
      refine to_block (to_thenG (Ge ?_))
      exact eB h (gg [] [0, 1, 2, 3, 4])
    refine W_exit_to (thenE ?_)
    exact eX h (gg [] [0, 1, 2])
  refine blockE_eq ?_
  obtain rfl := sI h
  exact (RetO_intro [] [] [0, 1, 2] [] (ob6 m1 o1 v7) 3 3 (by kernel_rfl) (by kernel_rfl) (by kernel_rfl)).normal
def auto_maker_of_v3_L1 (i3 : List Tree) (rec_auto_maker_of_v3 : Int → Int → (List Tree) → Bool → (List Int) → (List (Int × Int × Int × Int)) → Option ((Bool × (Int × Int × Int × Int) × Int × Int × Int × Int) × (List Int) × (List (Int × Int × Int × Int)) × Bool)) : ((List Int) × (List (Int × Int × Int × Int)) × Bool × Bool × Int × Int × Int × Int × Int × Int × Int × Int × Int) → Option (((List Int) × (List (Int × Int × Int × Int)) × Bool × Bool × Int × Int × Int × Int × Int × Int × Int × Int × Int) ⊕ (Bool × Int × Int × Int × Int × Int × Int × Int × Int × (List Int) × (List (Int × Int × Int × Int)) × Bool)) := fun (d20, d21, d22, v148, v149, v150, v151, v152, v153, v154, v155, v156, v157) =>
  (if (decide (v157 < (i3.length : Int))) = true then (if 0 ≤ v157 ∧ v157 < (i3.length : Int) then ((rec_auto_maker_of_v3 ((i3.getD v157.toNat (Tree.node 0 0 [])).op) ((i3.getD v157.toNat (Tree.node 0 0 [])).set) ((i3.getD v157.toNat (Tree.node 0 0 [])).kids) d22 d20 d21).bind fun (r209, r210, r211, r212) =>
  ((auto_maker_link_v2 v153 v154 v155 v156 r209.2.1.1 r209.2.1.2.1 r209.2.1.2.2.1 r209.2.1.2.2.2 r212 r210 r211).bind fun r214 =>
  (((if v148 = true then ((auto_set_or v149 v150 v151 v152 r209.2.1.1 r209.2.1.2.1 r209.2.1.2.2.1 r209.2.1.2.2.2).bind fun r218 =>
  some ((r218.1, r218.2.1, r218.2.2.1, r218.2.2.2)))
  else some ((v149, v150, v151, v152)))).bind fun (v170, v171, v172, v173) => (((if r209.1 = true then ((auto_set_or r209.2.2.1 r209.2.2.2.1 r209.2.2.2.2.1 r209.2.2.2.2.2 v153 v154 v155 v156).bind fun r223 =>
  some ((r223.1, r223.2.1, r223.2.2.1, r223.2.2.2)))
  else some ((r209.2.2.1, r209.2.2.2.1, r209.2.2.2.2.1, r209.2.2.2.2.2)))).bind fun (v174, v175, v176, v177) => (((if v148 = true then some (r209.1)
  else some (false))).bind fun v178 => some (Sum.inl (r210, r214, r212, v178, v170, v171, v172, v173, v174, v175, v176, v177, (IntKind.i64.wrap (v157 + (1 : Int)))))))))) else none)
  else some (Sum.inr (v148, v149, v150, v151, v152, v153, v154, v155, v156, d20, d21, d22)))
def auto_maker_of_v3_L2 (i3 : List Tree) (rec_auto_maker_of_v3 : Int → Int → (List Tree) → Bool → (List Int) → (List (Int × Int × Int × Int)) → Option ((Bool × (Int × Int × Int × Int) × Int × Int × Int × Int) × (List Int) × (List (Int × Int × Int × Int)) × Bool)) : ((List Int) × (List (Int × Int × Int × Int)) × Bool × Bool × Int × Int × Int × Int × Int × Int × Int × Int × Int) → Option (((List Int) × (List (Int × Int × Int × Int)) × Bool × Bool × Int × Int × Int × Int × Int × Int × Int × Int × Int) ⊕ (Bool × Int × Int × Int × Int × Int × Int × Int × Int × (List Int) × (List (Int × Int × Int × Int)) × Bool)) := fun (d26, d27, d28, v198, v199, v200, v201, v202, v203, v204, v205, v206, v207) =>
  (if (decide (v207 < (i3.length : Int))) = true then (if 0 ≤ v207 ∧ v207 < (i3.length : Int) then ((rec_auto_maker_of_v3 ((i3.getD v207.toNat (Tree.node 0 0 [])).op) ((i3.getD v207.toNat (Tree.node 0 0 [])).set) ((i3.getD v207.toNat (Tree.node 0 0 [])).kids) d28 d26 d27).bind fun (r263, r264, r265, r266) =>
  (((if v198 = true then ((auto_set_or v199 v200 v201 v202 r263.2.1.1 r263.2.1.2.1 r263.2.1.2.2.1 r263.2.1.2.2.2).bind fun r275 =>
  ((auto_set_or v203 v204 v205 v206 r263.2.2.1 r263.2.2.2.1 r263.2.2.2.2.1 r263.2.2.2.2.2).bind fun r276 =>
  some ((true, r275.1, r275.2.1, r275.2.2.1, r275.2.2.2, r276.1, r276.2.1, r276.2.2.1, r276.2.2.2))))
  else ((auto_set_or v199 v200 v201 v202 r263.2.1.1 r263.2.1.2.1 r263.2.1.2.2.1 r263.2.1.2.2.2).bind fun r277 =>
  ((auto_set_or v203 v204 v205 v206 r263.2.2.1 r263.2.2.2.1 r263.2.2.2.2.1 r263.2.2.2.2.2).bind fun r278 =>
  some ((r263.1, r277.1, r277.2.1, r277.2.2.1, r277.2.2.2, r278.1, r278.2.1, r278.2.2.1, r278.2.2.2)))))).bind fun (v220, v221, v222, v223, v224, v225, v226, v227, v228) => some (Sum.inl (r264, r265, r266, v220, v221, v222, v223, v224, v225, v226, v227, v228, (IntKind.i64.wrap (v207 + (1 : Int))))))) else none)
  else some (Sum.inr (v198, v199, v200, v201, v202, v203, v204, v205, v206, d26, d27, d28)))
def auto_maker_of_v3_F (rec_auto_maker_of_v3 : Int → Int → (List Tree) → Bool → (List Int) → (List (Int × Int × Int × Int)) → Option ((Bool × (Int × Int × Int × Int) × Int × Int × Int × Int) × (List Int) × (List (Int × Int × Int × Int)) × Bool)) (i1 i2 : Int) (i3 : List Tree) (d1 : Bool) (o1 : List Int) (o2 : List (Int × Int × Int × Int)) : Option ((Bool × (Int × Int × Int × Int) × Int × Int × Int × Int) × (List Int) × (List (Int × Int × Int × Int)) × Bool) :=
  (if (i1 == (1 : Int)) = true then (if (decide ((o1.length : Int) ≥ (200 : Int))) = true then some ((false, (((0 : Int), ((0 : Int), ((0 : Int), (0 : Int)))), ((0 : Int), ((0 : Int), ((0 : Int), (0 : Int)))))), o1, o2, true)
  else ((auto_set_add_v1 (o1.length : Int) false (0 : Int) (0 : Int) (0 : Int) (0 : Int) (0 : Int) (0 : Int) (0 : Int) (0 : Int)).bind fun (r164, r165, r166, r167) =>
  (if (o1.length + ([i2] : List Int).length) * 4 ≤ 140737488355328 ∧ o1.length + ([i2] : List Int).length ≤ 9223372036854775807 then (if (o2.length + ([((0 : Int), ((0 : Int), ((0 : Int), (0 : Int))))] : List (Int × Int × Int × Int)).length) * 32 ≤ 140737488355328 ∧ o2.length + ([((0 : Int), ((0 : Int), ((0 : Int), (0 : Int))))] : List (Int × Int × Int × Int)).length ≤ 9223372036854775807 then some ((false, ((r164, (r165, (r166, r167))), (r164, (r165, (r166, r167))))), (o1 ++ ([i2] : List Int)), (o2 ++ ([((0 : Int), ((0 : Int), ((0 : Int), (0 : Int))))] : List (Int × Int × Int × Int))), d1) else none) else none)))
  else (if (i1 == (2 : Int)) = true then ((iter (auto_maker_of_v3_L1 i3 rec_auto_maker_of_v3) (o1, o2, d1, true, (0 : Int), (0 : Int), (0 : Int), (0 : Int), (0 : Int), (0 : Int), (0 : Int), (0 : Int), (0 : Int))).bind fun (v158, v159, v160, v161, v162, v163, v164, v165, v166, v167, v168, v169) => some ((v158, ((v159, (v160, (v161, v162))), (v163, (v164, (v165, v166))))), v167, v168, v169))
  else (if (i1 == (3 : Int)) = true then ((iter (auto_maker_of_v3_L2 i3 rec_auto_maker_of_v3) (o1, o2, d1, false, (0 : Int), (0 : Int), (0 : Int), (0 : Int), (0 : Int), (0 : Int), (0 : Int), (0 : Int), (0 : Int))).bind fun (v208, v209, v210, v211, v212, v213, v214, v215, v216, v217, v218, v219) => some ((v208, ((v209, (v210, (v211, v212))), (v213, (v214, (v215, v216))))), v217, v218, v219))
  else (((if (i1 == (4 : Int)) = true then some ((i1 == (4 : Int)))
  else (if (i1 == (5 : Int)) = true then some ((i1 == (5 : Int)))
  else some ((i1 == (6 : Int)))))).bind fun v229 => (if v229 = true then (((if (decide ((i3.length : Int) > (0 : Int))) = true then (if 0 ≤ (0 : Int) ∧ (0 : Int) < (i3.length : Int) then ((rec_auto_maker_of_v3 ((i3.getD ((0 : Int).toNat) (Tree.node 0 0 [])).op) ((i3.getD ((0 : Int).toNat) (Tree.node 0 0 [])).set) ((i3.getD ((0 : Int).toNat) (Tree.node 0 0 [])).kids) d1 o1 o2).bind fun (r293, r294, r295, r296) =>
  some ((r294, r295, r296, r293.1, r293.2.1.1, r293.2.1.2.1, r293.2.1.2.2.1, r293.2.1.2.2.2, r293.2.2.1, r293.2.2.2.1, r293.2.2.2.2.1, r293.2.2.2.2.2))) else none)
  else some ((o1, o2, d1, false, (0 : Int), (0 : Int), (0 : Int), (0 : Int), (0 : Int), (0 : Int), (0 : Int), (0 : Int))))).bind fun (d29, d30, d31, v230, v231, v232, v233, v234, v235, v236, v237, v238) => (((if (i1 != (6 : Int)) = true then ((auto_maker_link_v2 v235 v236 v237 v238 v231 v232 v233 v234 d31 d29 d30).bind fun r301 =>
  some (r301))
  else some (d30))).bind fun v239 => (((if v230 = true then some (true)
  else some ((i1 != (5 : Int))))).bind fun v240 => some ((v240, ((v231, (v232, (v233, v234))), (v235, (v236, (v237, v238))))), d29, v239, d31))))
  else some ((true, (((0 : Int), ((0 : Int), ((0 : Int), (0 : Int)))), ((0 : Int), ((0 : Int), ((0 : Int), (0 : Int)))))), o1, o2, d1))))))
def auto_maker_of_v3 : Nat → Int → Int → (List Tree) → Bool → (List Int) → (List (Int × Int × Int × Int)) → Option ((Bool × (Int × Int × Int × Int) × Int × Int × Int × Int) × (List Int) × (List (Int × Int × Int × Int)) × Bool)
  | 0 => fun _ _ _ _ _ _ => none
  | n + 1 => auto_maker_of_v3_F (auto_maker_of_v3 n)
theorem auto_maker_of_v3_F_ok (rec_auto_maker_of_v3 : Int → Int → (List Tree) → Bool → (List Int) → (List (Int × Int × Int × Int)) → Option ((Bool × (Int × Int × Int × Int) × Int × Int × Int × Int) × (List Int) × (List (Int × Int × Int × Int)) × Bool)) (hrec_auto_maker_of_v3 : ∀ (β2 : Bool) {i1 : Int} {i2 : Int} {i3 : List Tree} {d1 : Bool} {o1 : List Int} {o2 : List (Int × Int × Int × Int)} {res : (Bool × (Int × Int × Int × Int) × Int × Int × Int × Int) × (List Int) × (List (Int × Int × Int × Int)) × Bool}, rec_auto_maker_of_v3 i1 i2 i3 d1 o1 o2 = some res → Owns Try.prog 19 [.adr 0 0 3 0, .agg [.u8 i1, .u32 i2, .p β2 (.slice (.tree .u8 .u32)) i3]] (ob6 d1 o1 o2) (.agg [.bo res.1.1, .u64 res.1.2.1.1, .u64 res.1.2.1.2.1, .u64 res.1.2.1.2.2.1, .u64 res.1.2.1.2.2.2, .u64 res.1.2.2.1, .u64 res.1.2.2.2.1, .u64 res.1.2.2.2.2.1, .u64 res.1.2.2.2.2.2]) (ob13 res.2.2.2 res.2.1 res.2.2.1)) (β2 : Bool) {i1 : Int} {i2 : Int} {i3 : List Tree} {d1 : Bool} {o1 : List Int} {o2 : List (Int × Int × Int × Int)} {res : (Bool × (Int × Int × Int × Int) × Int × Int × Int × Int) × (List Int) × (List (Int × Int × Int × Int)) × Bool} (h : auto_maker_of_v3_F rec_auto_maker_of_v3 i1 i2 i3 d1 o1 o2 = some res) :
    Owns Try.prog 19 [.adr 0 0 3 0, .agg [.u8 i1, .u32 i2, .p β2 (.slice (.tree .u8 .u32)) i3]] (ob6 d1 o1 o2) (.agg [.bo res.1.1, .u64 res.1.2.1.1, .u64 res.1.2.1.2.1, .u64 res.1.2.1.2.2.1, .u64 res.1.2.1.2.2.2, .u64 res.1.2.2.1, .u64 res.1.2.2.2.1, .u64 res.1.2.2.2.2.1, .u64 res.1.2.2.2.2.2]) (ob13 res.2.2.2 res.2.1 res.2.2.1) := by
  refine Owns.of_body tbok Try.func19 (by kernel_rfl) rfl (nl rfl) (fun Bw w0 => ?_)
  unfold auto_maker_of_v3_F at h
  refine G (W_seq (G (W_block (G (W_if h (fun hb63 h => ?_) (fun hb63 h => ?_))))))
  · refine W_seq (G (W_if h (fun hb64 h => ?_) (fun hb64 h => ?_)))
    · refine G (G (W_ret (thenQ_ret (blockQ_ret (thenQ_ret ?_)))))
      obtain rfl := sI h
      exact RetO_intro [some Y4] [] [0, 1, 2, 1, 2, 11] [(4, .adr 5 0 9 0)] (ob19 true o1 o2 false (0 : Int) (0 : Int) (0 : Int) (0 : Int) (0 : Int) (0 : Int) (0 : Int) (0 : Int)) 6 3 (by kernel_rfl) (by kernel_rfl) (by kernel_rfl)
    refine W_skip_to (to_thenG (G ?_))
    obtain ⟨⟨r164, r165, r166, r167⟩, q86, h⟩ := h_bind h
    refine GO 6 [99] (auto_set_add_v1_ok q86) (G ?_)
    obtain ⟨c38, h⟩ := h_guard h
    refine GD a0 [(8, 8, oc c38)] (GC 7 h (fun h => G (W_ret (blockQ_ret (thenQ_ret ?_)))))
    obtain rfl := sI h
    exact RetO_intro [some Y4] [] [0, 1, 2, 259, 347, 11] [(4, .adr 5 0 9 0)] (ob19 d1 (o1 ++ ([i2] : List Int)) (o2 ++ ([((0 : Int), ((0 : Int), ((0 : Int), (0 : Int))))] : List (Int × Int × Int × Int))) false r164 r165 r166 r167 r164 r165 r166 r167) 6 3 (by kernel_rfl) (by kernel_rfl) (by kernel_rfl)
  refine G (W_if h (fun hb65 h => ?_) (fun hb65 h => ?_))
  · refine G (W_seq (G (W_block (W_lx h (fun (d20, d21, d22, v148, v149, v150, v151, v152, v153, v154, v155, v156, v157) => mkSt [(0, .adr 0 0 3 0), (4, .adr 5 0 9 0), (6, .adr 6 0 9 0), (65, .p β2 (.slice (.tree .u8 .u32)) i3), (66, .i64 (i3.length : Int)), (67, .i64 v157)] (ob15 d22 d20 d21 false (0 : Int) (0 : Int) (0 : Int) (0 : Int) (0 : Int) (0 : Int) (0 : Int) (0 : Int) v148 v149 v150 v151 v152 v153 v154 v155 v156) 7 3) 1 (fun (v158, v159, v160, v161, v162, v163, v164, v165, v166, v167, v168, v169) => mkSt [(4, .adr 3 0 9 0), (6, .adr 4 0 9 0)] (ob16 v169 false (0 : Int) (0 : Int) (0 : Int) (0 : Int) (0 : Int) (0 : Int) (0 : Int) (0 : Int) v158 v159 v160 v161 v162 v163 v164 v165 v166 v167 v168) 7 3) (gg [] [0, 1, 2, 1, 2, 11, 75]) (fun y o h => ?_) (fun r225 h => ?_)))))
    · obtain ⟨d20, d21, d22, v148, v149, v150, v151, v152, v153, v154, v155, v156, v157⟩ := y
      unfold auto_maker_of_v3_L1 at h
      refine G (W_seq (W_if h (fun hb78 h => ?_) (fun hb78 h => ?_)))
      · refine W_skip_to (to_thenG (W_seq (W_block (GC 0 h (fun h => ?_)))))
        obtain ⟨⟨r209, r210, r211, r212⟩, q110, h⟩ := h_bind h
        refine GO 2 [0, 3, 4] (hrec_auto_maker_of_v3 β2 q110) ?_
        obtain ⟨r214, q112, h⟩ := h_bind h
        refine GO 5 [0, 63, 64] (auto_maker_link_v2_ok q112) (W_seq (G (W_pn h (fun (v170, v171, v172, v173) => mkSt [(0, .adr 0 0 3 0), (4, .adr 5 0 9 0), (6, .adr 6 0 9 0), (9, .adr 7 0 9 0), (65, .p β2 (.slice (.tree .u8 .u32)) i3), (66, .i64 (i3.length : Int)), (67, .i64 v157)] (ob14 r212 r210 r214 false (0 : Int) (0 : Int) (0 : Int) (0 : Int) (0 : Int) (0 : Int) (0 : Int) (0 : Int) v148 v170 v171 v172 v173 v153 v154 v155 v156 r209.1 r209.2.1.1 r209.2.1.2.1 r209.2.1.2.2.1 r209.2.1.2.2.2 r209.2.2.1 r209.2.2.2.1 r209.2.2.2.2.1 r209.2.2.2.2.2) 8 3) (fun r219 h => ?_) (fun r219 h => ?_))))
        · refine W_if h (fun hb80 h => ?_) (fun hb80 h => ?_)
          · obtain ⟨r218, q116, h⟩ := h_bind h
            refine GPe 4 (auto_set_or_ok q116) ?_
            exact eN h (gg [] [0, 1, 2, 63, 64, 5, 6, 71])
          refine W_skip_to ?_
          exact eN h (gg [] [0, 1, 2, 63, 64, 5, 6, 71])
        obtain ⟨v170, v171, v172, v173⟩ := r219
        refine to_thenG (W_seq (G (W_pn h (fun (v174, v175, v176, v177) => mkSt [(0, .adr 0 0 3 0), (4, .adr 5 0 9 0), (6, .adr 6 0 9 0), (9, .adr 7 0 9 0), (65, .p β2 (.slice (.tree .u8 .u32)) i3), (66, .i64 (i3.length : Int)), (67, .i64 v157)] (ob14 r212 r210 r214 false (0 : Int) (0 : Int) (0 : Int) (0 : Int) (0 : Int) (0 : Int) (0 : Int) (0 : Int) v148 v170 v171 v172 v173 v153 v154 v155 v156 r209.1 r209.2.1.1 r209.2.1.2.1 r209.2.1.2.2.1 r209.2.1.2.2.2 v174 v175 v176 v177) 8 3) (fun r224 h => ?_) (fun r224 h => ?_))))
        · refine W_if h (fun hb82 h => ?_) (fun hb82 h => ?_)
          · obtain ⟨r223, q120, h⟩ := h_bind h
            refine GPe 4 (auto_set_or_ok q120) ?_
            exact eN h (gg [] [0, 1, 2, 3, 4, 5, 6, 7])
          refine W_skip_to ?_
          exact eN h (gg [] [0, 1, 2, 3, 4, 5, 6, 7])
        obtain ⟨v174, v175, v176, v177⟩ := r224
        refine to_thenG (W_pn h (fun v178 => mkSt [(0, .adr 0 0 3 0), (4, .adr 5 0 9 0), (6, .adr 6 0 9 0), (65, .p β2 (.slice (.tree .u8 .u32)) i3), (66, .i64 (i3.length : Int)), (67, .i64 v157)] (ob15 r212 r210 r214 false (0 : Int) (0 : Int) (0 : Int) (0 : Int) (0 : Int) (0 : Int) (0 : Int) (0 : Int) v178 v170 v171 v172 v173 v174 v175 v176 v177) 7 3) (fun v178 h => ?_) (fun v178 h => ?_))
        · rcases h_ite h with ⟨hb85, h⟩ | ⟨hb85, h⟩
          · refine GDe ⟨[(2, true), (5, true)], []⟩ [(3, 4, an hb85), (5, 5, oc hb85)] ?_
            exact eN h (gg [] [0, 1, 2, 3, 4, 5, 6])
          refine GDe ⟨[(2, false), (5, false)], []⟩ [(3, 5, oc hb85)] ?_
          exact eN h (gg [] [0, 1, 2, 3, 4, 5, 6])
        refine to_block (to_thenG (Ge ?_))
        exact eB h (gg [] [0, 1, 2, 3, 4, 5, 6])
      refine W_exit_to (thenE ?_)
      exact eX h (gg [] [0, 1, 2, 5, 6, 3, 4])
    obtain ⟨v158, v159, v160, v161, v162, v163, v164, v165, v166, v167, v168, v169⟩ := r225
    refine blockE_eq (to_thenG (G (W_ret (blockQ_ret (thenQ_ret ?_)))))
    obtain rfl := sI h
    exact RetO_intro [some Y4] [] [0, 1, 2, 5, 6, 3] [(4, .adr 5 0 9 0)] (ob19 v169 v167 v168 v158 v159 v160 v161 v162 v163 v164 v165 v166) 6 3 (by kernel_rfl) (by kernel_rfl) (by kernel_rfl)
  refine G (W_if h (fun hb86 h => ?_) (fun hb86 h => ?_))
  · refine G (W_seq (G (W_block (W_lx h (fun (d26, d27, d28, v198, v199, v200, v201, v202, v203, v204, v205, v206, v207) => mkSt [(0, .adr 0 0 3 0), (4, .adr 5 0 9 0), (10, .adr 6 0 9 0), (111, .p β2 (.slice (.tree .u8 .u32)) i3), (112, .i64 (i3.length : Int)), (113, .i64 v207)] (ob15 d28 d26 d27 false (0 : Int) (0 : Int) (0 : Int) (0 : Int) (0 : Int) (0 : Int) (0 : Int) (0 : Int) v198 v199 v200 v201 v202 v203 v204 v205 v206) 7 3) 3 (fun (v208, v209, v210, v211, v212, v213, v214, v215, v216, v217, v218, v219) => mkSt [(4, .adr 3 0 9 0), (10, .adr 4 0 9 0)] (ob16 v219 false (0 : Int) (0 : Int) (0 : Int) (0 : Int) (0 : Int) (0 : Int) (0 : Int) (0 : Int) v208 v209 v210 v211 v212 v213 v214 v215 v216 v217 v218) 7 3) (gg [] [0, 1, 2, 1, 2, 11, 83]) (fun y o h => ?_) (fun r280 h => ?_)))))
    · obtain ⟨d26, d27, d28, v198, v199, v200, v201, v202, v203, v204, v205, v206, v207⟩ := y
      unfold auto_maker_of_v3_L2 at h
      refine G (W_seq (W_if h (fun hb92 h => ?_) (fun hb92 h => ?_)))
      · refine W_skip_to (to_thenG (W_seq (W_block (GC 0 h (fun h => ?_)))))
        obtain ⟨⟨r263, r264, r265, r266⟩, q142, h⟩ := h_bind h
        refine GO 2 [0, 3, 4] (hrec_auto_maker_of_v3 β2 q142) (W_pn h (fun (v220, v221, v222, v223, v224, v225, v226, v227, v228) => mkSt [(0, .adr 0 0 3 0), (4, .adr 5 0 9 0), (10, .adr 6 0 9 0), (111, .p β2 (.slice (.tree .u8 .u32)) i3), (112, .i64 (i3.length : Int)), (113, .i64 v207)] (ob15 r266 r264 r265 false (0 : Int) (0 : Int) (0 : Int) (0 : Int) (0 : Int) (0 : Int) (0 : Int) (0 : Int) v220 v221 v222 v223 v224 v225 v226 v227 v228) 7 3) (fun r279 h => ?_) (fun r279 h => ?_))
        · rcases h_ite h with ⟨hb95, h⟩ | ⟨hb95, h⟩
          · obtain ⟨r275, q151, h⟩ := h_bind h
            obtain ⟨r276, q152, h⟩ := h_bind h
            have u_1 := (auto_set_or_ok q151)
            have u_2 := (auto_set_or_ok q152)
            refine GDe ⟨[(2, true), (5, true)], [(10, (oP u_1)), (15, (oP u_2))]⟩ [(3, 5, oc hb95), (10, 10, oc u_1), (15, 15, oc u_2)] ?_
            exact eN h (gg [] [0, 1, 2, 63, 64, 5, 6])
          obtain ⟨r277, q153, h⟩ := h_bind h
          obtain ⟨r278, q154, h⟩ := h_bind h
          have u_1 := (auto_set_or_ok q153)
          have u_2 := (auto_set_or_ok q154)
          refine GDe ⟨[(2, false), (5, false)], [(10, (oP u_1)), (15, (oP u_2))]⟩ [(3, 4, an hb95), (5, 5, oc hb95), (10, 10, oc u_1), (15, 15, oc u_2)] ?_
          exact eN h (gg [] [0, 1, 2, 63, 64, 5, 6])
        obtain ⟨v220, v221, v222, v223, v224, v225, v226, v227, v228⟩ := r279
        refine to_block (to_thenG (Ge ?_))
        exact eB h (gg [] [0, 1, 2, 3, 4, 5, 6])
      refine W_exit_to (thenE ?_)
      exact eX h (gg [] [0, 1, 2, 5, 6, 3, 4])
    obtain ⟨v208, v209, v210, v211, v212, v213, v214, v215, v216, v217, v218, v219⟩ := r280
    refine blockE_eq (to_thenG (G (W_ret (blockQ_ret (thenQ_ret ?_)))))
    obtain rfl := sI h
    exact RetO_intro [some Y4] [] [0, 1, 2, 5, 6, 3] [(4, .adr 5 0 9 0)] (ob19 v219 v217 v218 v208 v209 v210 v211 v212 v213 v214 v215 v216) 6 3 (by kernel_rfl) (by kernel_rfl) (by kernel_rfl)
  refine W_seq (G (W_pn h (fun v229 => mkSt [(0, .adr 0 0 3 0), (3, .adr 3 0 3 0), (4, .adr 4 0 9 0), (139, .bo v229)] (ob12 d1 o1 o2 i1 i2 β2 i3 false (0 : Int) (0 : Int) (0 : Int) (0 : Int) (0 : Int) (0 : Int) (0 : Int) (0 : Int)) 5 3) (fun v229 h => ?_) (fun v229 h => ?_)))
  · refine W_if h (fun hb98 h => ?_) (fun hb98 h => ?_)
    · refine W_skip_to ?_
      exact eN h (gg [] [0, 1, 2, 3, 11])
    refine G (W_if h (fun hb99 h => ?_) (fun hb99 h => ?_))
    · refine W_skip_to ?_
      exact eN h (gg [] [0, 1, 2, 3, 11])
    refine Ge ?_
    exact eN h (gg [] [0, 1, 2, 3, 11])
  refine to_thenG (W_if h (fun hb100 h => ?_) (fun hb100 h => ?_))
  · refine G (W_seq (G (W_pn h (fun (d29, d30, d31, v230, v231, v232, v233, v234, v235, v236, v237, v238) => mkSt [(0, .adr 0 0 3 0), (3, .adr 5 0 3 0), (4, .adr 6 0 9 0), (14, .adr 7 0 9 0)] (ob18 d31 d29 d30 i1 i2 β2 i3 false (0 : Int) (0 : Int) (0 : Int) (0 : Int) (0 : Int) (0 : Int) (0 : Int) (0 : Int) v230 v231 v232 v233 v234 v235 v236 v237 v238) 8 3) (fun r297 h => ?_) (fun r297 h => ?_))))
    · refine W_if h (fun hb102 h => ?_) (fun hb102 h => ?_)
      · obtain ⟨c56, h⟩ := h_guard h
        obtain ⟨⟨r293, r294, r295, r296⟩, q158, h⟩ := h_bind h
        have u_1 := (hrec_auto_maker_of_v3 β2 q158)
        refine GNe ⟨[], [(5, (oO u_1 [0, 1, 2]))]⟩ [(3, 3, oc c56), (5, 5, oc u_1)] ?_
        exact eN h (gg [] [0, 1, 2, 85, 86, 3, 4, 5])
      refine W_skip_to ?_
      exact eN h (gg [] [0, 1, 2, 1, 2, 3, 4, 5])
    obtain ⟨d29, d30, d31, v230, v231, v232, v233, v234, v235, v236, v237, v238⟩ := r297
    refine to_thenG (W_seq (G (W_pn h (fun v239 => mkSt [(3, .adr 3 0 3 0), (4, .adr 4 0 9 0), (14, .adr 5 0 9 0)] (ob17 d31 i1 i2 β2 i3 false (0 : Int) (0 : Int) (0 : Int) (0 : Int) (0 : Int) (0 : Int) (0 : Int) (0 : Int) v230 v231 v232 v233 v234 v235 v236 v237 v238 d29 v239) 8 3) (fun v239 h => ?_) (fun v239 h => ?_))))
    · refine W_if h (fun hb104 h => ?_) (fun hb104 h => ?_)
      · obtain ⟨r301, q162, h⟩ := h_bind h
        refine GOe 5 [0, 3, 4] (auto_maker_link_v2_ok q162) ?_
        exact eN h (gg [] [0, 1, 2, 5, 6, 7, 3, 4])
      refine W_skip_to ?_
      exact eN h (gg [] [0, 1, 2, 5, 6, 7, 3, 4])
    refine to_thenG (W_seq (W_pn h (fun v240 => mkSt [(4, .adr 3 0 9 0), (14, .adr 4 0 9 0)] (ob16 d31 false (0 : Int) (0 : Int) (0 : Int) (0 : Int) (0 : Int) (0 : Int) (0 : Int) (0 : Int) v240 v231 v232 v233 v234 v235 v236 v237 v238 d29 v239) 7 3) (fun v240 h => ?_) (fun v240 h => ?_)))
    · rcases h_ite h with ⟨hb107, h⟩ | ⟨hb107, h⟩
      · refine GNe ⟨[(2, true), (6, true)], []⟩ [(3, 6, oc hb107)] ?_
        exact eN h (gg [] [0, 1, 2, 4, 5, 6, 7])
      refine GNe ⟨[(2, false), (6, false)], []⟩ [(3, 5, an hb107), (6, 6, oc hb107)] ?_
      exact eN h (gg [] [0, 1, 2, 4, 5, 6, 7])
    refine to_thenG (G (W_ret (blockQ_ret (thenQ_ret ?_))))
    obtain rfl := sI h
    exact RetO_intro [some Y4] [] [0, 1, 2, 5, 6, 3] [(4, .adr 5 0 9 0)] (ob19 d31 d29 v239 v240 v231 v232 v233 v234 v235 v236 v237 v238) 6 3 (by kernel_rfl) (by kernel_rfl) (by kernel_rfl)
  refine W_skip_to (to_block (to_thenG (G (W_ret ?_))))
  obtain rfl := sI h
  exact RetO_intro [some Y4] [] [0, 1, 2, 1, 2, 4] [(4, .adr 5 0 9 0)] (ob19 d1 o1 o2 true (0 : Int) (0 : Int) (0 : Int) (0 : Int) (0 : Int) (0 : Int) (0 : Int) (0 : Int)) 6 3 (by kernel_rfl) (by kernel_rfl) (by kernel_rfl)
theorem auto_maker_of_v3_ok : ∀ (n : Nat) (β2 : Bool) {i1 : Int} {i2 : Int} {i3 : List Tree} {d1 : Bool} {o1 : List Int} {o2 : List (Int × Int × Int × Int)} {res : (Bool × (Int × Int × Int × Int) × Int × Int × Int × Int) × (List Int) × (List (Int × Int × Int × Int)) × Bool}, auto_maker_of_v3 n i1 i2 i3 d1 o1 o2 = some res → Owns Try.prog 19 [.adr 0 0 3 0, .agg [.u8 i1, .u32 i2, .p β2 (.slice (.tree .u8 .u32)) i3]] (ob6 d1 o1 o2) (.agg [.bo res.1.1, .u64 res.1.2.1.1, .u64 res.1.2.1.2.1, .u64 res.1.2.1.2.2.1, .u64 res.1.2.1.2.2.2, .u64 res.1.2.2.1, .u64 res.1.2.2.2.1, .u64 res.1.2.2.2.2.1, .u64 res.1.2.2.2.2.2]) (ob13 res.2.2.2 res.2.1 res.2.2.1)
  | 0, _, _, _, _, _, _, _, _, h => by cases h
  | n + 1, β2, i1, i2, i3, d1, o1, o2, res, h => auto_maker_of_v3_F_ok (auto_maker_of_v3 n) (auto_maker_of_v3_ok n) β2 h
def auto_meets_L1 (a1 a2 a3 a4 b1 b2 b3 b4 : Int) : (Int) → Option ((Int) ⊕ ((Unit) ⊕ (Bool))) := fun v2 =>
  (if (decide (v2 < (4 : Int))) = true then (if 0 ≤ v2 ∧ v2 < ((4 : Nat) : Int) then (if 0 ≤ v2 ∧ v2 < ((4 : Nat) : Int) then (if ((bitsOf .and .u64 (([a1, a2, a3, a4] : List Int).getD v2.toNat 0) (([b1, b2, b3, b4] : List Int).getD v2.toNat 0)) != (0 : Int)) = true then some (Sum.inr (Sum.inr true))
  else some (Sum.inl (IntKind.i64.wrap (v2 + (1 : Int))))) else none) else none)
  else some (Sum.inr (Sum.inl ())))
def auto_meets (a1 a2 a3 a4 b1 b2 b3 b4 : Int) : Option (Bool) :=
  ((iter (auto_meets_L1 a1 a2 a3 a4 b1 b2 b3 b4) (0 : Int)).bind fun (r2 : ((Unit) ⊕ (Bool))) => match r2 with
  | .inl _ => some false
  | .inr (r1) => some r1)
theorem auto_meets_ok {a1 : Int} {a2 : Int} {a3 : Int} {a4 : Int} {b1 : Int} {b2 : Int} {b3 : Int} {b4 : Int} {res : Bool} (h : auto_meets a1 a2 a3 a4 b1 b2 b3 b4 = some res) :
    Pure Try.prog 22 [.agg [.u64 a1, .u64 a2, .u64 a3, .u64 a4], .agg [.u64 b1, .u64 b2, .u64 b3, .u64 b4]] (wrapR (encs false [⟨.bool, res⟩])) := by
  refine Pure.of_body tbok Try.func22 (by kernel_rfl) rfl (nl rfl) (fun Bw w0 => ?_) rfl
  unfold auto_meets at h
  refine G (W_seq (G (W_block (W_lp h (fun v2 => mkSt [(2, .adr 0 0 4 0), (3, .adr 1 0 4 0), (6, .i64 v2)] (ob3 a1 a2 a3 a4 b1 b2 b3 b4) 2) (postS (postX Try.f22.ntmps 0 (fun _ => mkSt [] [] 0)) (postR tb Try.f22.results.toList (fun r1 => [⟨.bool, r1⟩]))) (gg [] [0, 8]) (fun v2 o h => ?_) (fun r2 h e σ' hq => ?_)))))
  · unfold auto_meets_L1 at h
    refine G (W_seq (W_if h (fun hb5 h => ?_) (fun hb5 h => ?_)))
    · refine W_skip_to (to_thenG (W_seq (W_block (G ?_))))
      obtain ⟨c11, c12, h⟩ := g2 h
      refine GD a0 [(1, 1, oc c11), (4, 4, oc c12)] (W_if h (fun hb6 h => ?_) (fun hb6 h => ?_))
      · refine G (W_ret ?_)
        obtain rfl := sI h
        refine blockQ_ret (thenQ_ret (round_ret (postS_rr ?_)))
        exact postR_mk (Ret_intro [.bool] (by kernel_rfl))
      refine W_skip_to (to_block (to_thenG (Ge ?_)))
      exact eB h (gg [] [0, 1])
    refine W_exit_to (thenE ?_)
    obtain rfl := sI h
    refine roundE (postS_l ?_)
    exact postX_to (gg [] [])
  rcases r2 with _ | r1
  · obtain ⟨rfl, hle⟩ := hq
    refine use_to ?_ hle
    refine blockE_eq (to_thenG (G (W_ret ?_)))
    obtain rfl := sI h
    exact Ret_intro [.bool] (by kernel_rfl)
  obtain ⟨rfl, hr⟩ := hq
  refine blockQ_ret (thenQ_ret ?_)
  obtain rfl := sI h
  exact hr
def auto_set_add_v3 (i1 s1 s2 s3 s4 : Int) : Option (Int × Int × Int × Int) :=
  (if ¬ (64 : Int) = 0 then (if 0 ≤ (IntKind.i64.wrap (Int.tdiv i1 (64 : Int))) ∧ (IntKind.i64.wrap (Int.tdiv i1 (64 : Int))) < ((4 : Nat) : Int) then (if ¬ (64 : Int) = 0 then (if 0 ≤ (Int.tmod i1 (64 : Int)) then (if 0 ≤ (IntKind.i64.wrap (Int.tdiv i1 (64 : Int))) ∧ (IntKind.i64.wrap (Int.tdiv i1 (64 : Int))) < ((4 : Nat) : Int) then some ((if (IntKind.i64.wrap (Int.tdiv i1 (64 : Int))).toNat = 0 then (bitsOf .or .u64 (([s1, s2, s3, s4] : List Int).getD ((IntKind.i64.wrap (Int.tdiv i1 (64 : Int))).toNat) 0) (IntKind.u64.wrap ((1 : Int) * 2 ^ (min (Int.tmod i1 (64 : Int)).toNat IntKind.u64.bits)))) else s1), (if (IntKind.i64.wrap (Int.tdiv i1 (64 : Int))).toNat = 1 then (bitsOf .or .u64 (([s1, s2, s3, s4] : List Int).getD ((IntKind.i64.wrap (Int.tdiv i1 (64 : Int))).toNat) 0) (IntKind.u64.wrap ((1 : Int) * 2 ^ (min (Int.tmod i1 (64 : Int)).toNat IntKind.u64.bits)))) else s2), (if (IntKind.i64.wrap (Int.tdiv i1 (64 : Int))).toNat = 2 then (bitsOf .or .u64 (([s1, s2, s3, s4] : List Int).getD ((IntKind.i64.wrap (Int.tdiv i1 (64 : Int))).toNat) 0) (IntKind.u64.wrap ((1 : Int) * 2 ^ (min (Int.tmod i1 (64 : Int)).toNat IntKind.u64.bits)))) else s3), (if (IntKind.i64.wrap (Int.tdiv i1 (64 : Int))).toNat = 3 then (bitsOf .or .u64 (([s1, s2, s3, s4] : List Int).getD ((IntKind.i64.wrap (Int.tdiv i1 (64 : Int))).toNat) 0) (IntKind.u64.wrap ((1 : Int) * 2 ^ (min (Int.tmod i1 (64 : Int)).toNat IntKind.u64.bits)))) else s4)) else none) else none) else none) else none) else none)
theorem auto_set_add_v3_ok {i1 : Int} {s1 : Int} {s2 : Int} {s3 : Int} {s4 : Int} {res : Int × Int × Int × Int} (h : auto_set_add_v3 i1 s1 s2 s3 s4 = some res) :
    Owns Try.prog 23 [.adr 0 0 4 0, .i64 i1] [(0, .box [.u64 s1, .u64 s2, .u64 s3, .u64 s4])] (.tup []) [(0, .box [.u64 res.1, .u64 res.2.1, .u64 res.2.2.1, .u64 res.2.2.2])] := by
  refine Owns.of_body tbok Try.func23 (by kernel_rfl) rfl (nl rfl) (fun Bw w0 => ?_)
  unfold auto_set_add_v3 at h
  obtain ⟨c16, c17, c18, c19, h⟩ := g4 h
  obtain ⟨c20, h⟩ := h_guard h
  refine GDe a0 [(2, 2, oc c16), (4, 4, oc c17), (7, 7, oc c18), (8, 8, oc c19), (11, 11, oc c20)] ?_
  obtain rfl := sI h
  exact (RetO_intro [] [] [0] [] [(0, .box [.u64 (if (IntKind.i64.wrap (Int.tdiv i1 (64 : Int))).toNat = 0 then (bitsOf .or .u64 (([s1, s2, s3, s4] : List Int).getD ((IntKind.i64.wrap (Int.tdiv i1 (64 : Int))).toNat) 0) (IntKind.u64.wrap ((1 : Int) * 2 ^ (min (Int.tmod i1 (64 : Int)).toNat IntKind.u64.bits)))) else s1), .u64 (if (IntKind.i64.wrap (Int.tdiv i1 (64 : Int))).toNat = 1 then (bitsOf .or .u64 (([s1, s2, s3, s4] : List Int).getD ((IntKind.i64.wrap (Int.tdiv i1 (64 : Int))).toNat) 0) (IntKind.u64.wrap ((1 : Int) * 2 ^ (min (Int.tmod i1 (64 : Int)).toNat IntKind.u64.bits)))) else s2), .u64 (if (IntKind.i64.wrap (Int.tdiv i1 (64 : Int))).toNat = 2 then (bitsOf .or .u64 (([s1, s2, s3, s4] : List Int).getD ((IntKind.i64.wrap (Int.tdiv i1 (64 : Int))).toNat) 0) (IntKind.u64.wrap ((1 : Int) * 2 ^ (min (Int.tmod i1 (64 : Int)).toNat IntKind.u64.bits)))) else s3), .u64 (if (IntKind.i64.wrap (Int.tdiv i1 (64 : Int))).toNat = 3 then (bitsOf .or .u64 (([s1, s2, s3, s4] : List Int).getD ((IntKind.i64.wrap (Int.tdiv i1 (64 : Int))).toNat) 0) (IntKind.u64.wrap ((1 : Int) * 2 ^ (min (Int.tmod i1 (64 : Int)).toNat IntKind.u64.bits)))) else s4)])] 1 1 (by kernel_rfl) (by kernel_rfl) (by kernel_rfl)).normal
def auto_Make_L1 (d1 : List Tree) : ((List Int) × (List (Int × Int × Int × Int)) × Bool × (List (Bool × (Int × Int × Int × Int) × Int × Int × Int × Int)) × Int) → Option (((List Int) × (List (Int × Int × Int × Int)) × Bool × (List (Bool × (Int × Int × Int × Int) × Int × Int × Int × Int)) × Int) ⊕ ((List Int) × (List (Int × Int × Int × Int)) × Bool × List (Bool × (Int × Int × Int × Int) × Int × Int × Int × Int))) := fun (v7, v8, v9, v10, v11) =>
  (if (decide (v11 < (d1.length : Int))) = true then (if 0 ≤ v11 ∧ v11 < (d1.length : Int) then ((auto_maker_of_v3 1000 ((d1.getD v11.toNat (Tree.node 0 0 [])).op) ((d1.getD v11.toNat (Tree.node 0 0 [])).set) ((d1.getD v11.toNat (Tree.node 0 0 [])).kids) v9 v7 v8).bind fun (r21, r22, r23, r24) =>
  (if (v10.length + ([(r21.1, ((r21.2.1.1, (r21.2.1.2.1, (r21.2.1.2.2.1, r21.2.1.2.2.2))), (r21.2.2.1, (r21.2.2.2.1, (r21.2.2.2.2.1, r21.2.2.2.2.2)))))] : List (Bool × (Int × Int × Int × Int) × Int × Int × Int × Int)).length) * 72 ≤ 140737488355328 ∧ v10.length + ([(r21.1, ((r21.2.1.1, (r21.2.1.2.1, (r21.2.1.2.2.1, r21.2.1.2.2.2))), (r21.2.2.1, (r21.2.2.2.1, (r21.2.2.2.2.1, r21.2.2.2.2.2)))))] : List (Bool × (Int × Int × Int × Int) × Int × Int × Int × Int)).length ≤ 9223372036854775807 then some (Sum.inl (r22, r23, r24, (v10 ++ ([(r21.1, ((r21.2.1.1, (r21.2.1.2.1, (r21.2.1.2.2.1, r21.2.1.2.2.2))), (r21.2.2.1, (r21.2.2.2.1, (r21.2.2.2.2.1, r21.2.2.2.2.2)))))] : List (Bool × (Int × Int × Int × Int) × Int × Int × Int × Int))), (IntKind.i64.wrap (v11 + (1 : Int))))) else none)) else none)
  else some (Sum.inr (v7, v8, v9, v10)))
def auto_Make_L2 (v15 : List (Bool × (Int × Int × Int × Int) × Int × Int × Int × Int)) : (Int × Int × Int × Int × Int) → Option ((Int × Int × Int × Int × Int) ⊕ (Int × Int × Int × Int)) := fun (v21, v22, v23, v24, v25) =>
  (if (decide (v25 < (v15.length : Int))) = true then (if 0 ≤ v25 ∧ v25 < (v15.length : Int) then (if v25.toNat < v15.length then ((auto_set_or v21 v22 v23 v24 ((v15.getD v25.toNat (false, (((0 : Int), ((0 : Int), ((0 : Int), (0 : Int)))), ((0 : Int), ((0 : Int), ((0 : Int), (0 : Int))))))).2.1.1) ((v15.getD v25.toNat (false, (((0 : Int), ((0 : Int), ((0 : Int), (0 : Int)))), ((0 : Int), ((0 : Int), ((0 : Int), (0 : Int))))))).2.1.2.1) ((v15.getD v25.toNat (false, (((0 : Int), ((0 : Int), ((0 : Int), (0 : Int)))), ((0 : Int), ((0 : Int), ((0 : Int), (0 : Int))))))).2.1.2.2.1) ((v15.getD v25.toNat (false, (((0 : Int), ((0 : Int), ((0 : Int), (0 : Int)))), ((0 : Int), ((0 : Int), ((0 : Int), (0 : Int))))))).2.1.2.2.2)).bind fun r31 =>
  some (Sum.inl (r31.1, r31.2.1, r31.2.2.1, r31.2.2.2, (IntKind.i64.wrap (v25 + (1 : Int)))))) else none) else none)
  else some (Sum.inr (v21, v22, v23, v24)))
def auto_Make_L3 (v13 v325 : List (Int × Int × Int × Int)) (v327 : Int) : (Int × Int × Int × Int × Int) → Option ((Int × Int × Int × Int × Int) ⊕ (Int × Int × Int × Int)) := fun (v343, v344, v345, v346, v347) =>
  (if (decide (v347 < (v13.length : Int))) = true then ((auto_set_has ((v325.getD v327.toNat ((0 : Int), ((0 : Int), ((0 : Int), (0 : Int))))).1) ((v325.getD v327.toNat ((0 : Int), ((0 : Int), ((0 : Int), (0 : Int))))).2.1) ((v325.getD v327.toNat ((0 : Int), ((0 : Int), ((0 : Int), (0 : Int))))).2.2.1) ((v325.getD v327.toNat ((0 : Int), ((0 : Int), ((0 : Int), (0 : Int))))).2.2.2) v347).bind fun r502 =>
  (((if r502 = true then (if 0 ≤ v347 ∧ v347 < (v13.length : Int) then (if v347.toNat < v13.length then ((auto_set_or v343 v344 v345 v346 ((v13.getD v347.toNat ((0 : Int), ((0 : Int), ((0 : Int), (0 : Int))))).1) ((v13.getD v347.toNat ((0 : Int), ((0 : Int), ((0 : Int), (0 : Int))))).2.1) ((v13.getD v347.toNat ((0 : Int), ((0 : Int), ((0 : Int), (0 : Int))))).2.2.1) ((v13.getD v347.toNat ((0 : Int), ((0 : Int), ((0 : Int), (0 : Int))))).2.2.2)).bind fun r506 =>
  some ((r506.1, r506.2.1, r506.2.2.1, r506.2.2.2))) else none) else none)
  else some ((v343, v344, v345, v346)))).bind fun (v352, v353, v354, v355) => some (Sum.inl (v352, v353, v354, v355, (IntKind.i64.wrap (v347 + (1 : Int)))))))
  else some (Sum.inr (v343, v344, v345, v346)))
def auto_Make_L4 (v15 : List (Bool × (Int × Int × Int × Int) × Int × Int × Int × Int)) (v325 : List (Int × Int × Int × Int)) (v327 : Int) : (Int × Int) → Option ((Int × Int) ⊕ (Int)) := fun (v362, v363) =>
  (if (decide (v363 < (v15.length : Int))) = true then (if 0 ≤ v363 ∧ v363 < (v15.length : Int) then (if v363.toNat < v15.length then (((if ((v15.getD v363.toNat (false, (((0 : Int), ((0 : Int), ((0 : Int), (0 : Int)))), ((0 : Int), ((0 : Int), ((0 : Int), (0 : Int))))))).1) = true then some (true)
  else ((auto_meets ((v325.getD v327.toNat ((0 : Int), ((0 : Int), ((0 : Int), (0 : Int))))).1) ((v325.getD v327.toNat ((0 : Int), ((0 : Int), ((0 : Int), (0 : Int))))).2.1) ((v325.getD v327.toNat ((0 : Int), ((0 : Int), ((0 : Int), (0 : Int))))).2.2.1) ((v325.getD v327.toNat ((0 : Int), ((0 : Int), ((0 : Int), (0 : Int))))).2.2.2) ((v15.getD v363.toNat (false, (((0 : Int), ((0 : Int), ((0 : Int), (0 : Int)))), ((0 : Int), ((0 : Int), ((0 : Int), (0 : Int))))))).2.2.1) ((v15.getD v363.toNat (false, (((0 : Int), ((0 : Int), ((0 : Int), (0 : Int)))), ((0 : Int), ((0 : Int), ((0 : Int), (0 : Int))))))).2.2.2.1) ((v15.getD v363.toNat (false, (((0 : Int), ((0 : Int), ((0 : Int), (0 : Int)))), ((0 : Int), ((0 : Int), ((0 : Int), (0 : Int))))))).2.2.2.2.1) ((v15.getD v363.toNat (false, (((0 : Int), ((0 : Int), ((0 : Int), (0 : Int)))), ((0 : Int), ((0 : Int), ((0 : Int), (0 : Int))))))).2.2.2.2.2)).bind fun r517 =>
  some (r517)))).bind fun v365 => (((if v365 = true then (if 0 ≤ v363 then some ((bitsOf .or .u32 v362 (IntKind.u32.wrap ((1 : Int) * 2 ^ (min v363.toNat IntKind.u32.bits))))) else none)
  else some (v362))).bind fun v366 => some (Sum.inl (v366, (IntKind.i64.wrap (v363 + (1 : Int))))))) else none) else none)
  else some (Sum.inr v362))
def auto_Make_L5 (v12 : List Int) (v348 v349 v350 v351 v438 : Int) : (Int × Int × Int × Int × Int) → Option ((Int × Int × Int × Int × Int) ⊕ (Int × Int × Int × Int)) := fun (v457, v458, v459, v460, v461) =>
  (if (decide (v461 < (v12.length : Int))) = true then (if 0 ≤ v461 ∧ v461 < (v12.length : Int) then (if v461.toNat < v12.length then ((((auto_set_has v348 v349 v350 v351 v461).bind fun r690 =>
  (if r690 = true then (if 0 ≤ v438 then some (((bitsOf .and .u32 (Int.fdiv (v12.getD v461.toNat (0 : Int)) (2 ^ (min v438.toNat IntKind.u32.bits))) (1 : Int)) == (1 : Int))) else none)
  else some (false)))).bind fun v466 => (((if v466 = true then ((auto_set_add_v3 v461 v457 v458 v459 v460).bind fun (r703, r704, r705, r706) =>
  some ((r703, r704, r705, r706)))
  else some ((v457, v458, v459, v460)))).bind fun (v467, v468, v469, v470) => some (Sum.inl (v467, v468, v469, v470, (IntKind.i64.wrap (v461 + (1 : Int))))))) else none) else none)
  else some (Sum.inr (v457, v458, v459, v460)))
def auto_Make_L6 (i1 : Int) (v12 : List Int) (v348 v349 v350 v351 : Int) : ((List (Int × Int × Int × Int)) × (List ((Int × Int × Int × Int) × Int)) × (List Int) × Int) → Option (((List (Int × Int × Int × Int)) × (List ((Int × Int × Int × Int) × Int)) × (List Int) × Int) ⊕ (((List (Int × Int × Int × Int)) × (List ((Int × Int × Int × Int) × Int)) × List Int) ⊕ (((List (List Int)) × List Int) × Int))) := fun (v435, v436, v437, v438) =>
  (if (decide (v438 < i1)) = true then ((iter (auto_Make_L5 v12 v348 v349 v350 v351 v438) ((0 : Int), (0 : Int), (0 : Int), (0 : Int), (0 : Int))).bind fun (v462, v463, v464, v465) => (((if (!((mfind Y3 v436 (v462, (v463, (v464, v465)))).isSome)) = true then (if (decide ((v435.length : Int) ≥ (300 : Int))) = true then some ((Sum.inr ((([] : List (List Int)), ([] : List Int)), (27 : Int))))
  else (if (v435.length + ([(v462, (v463, (v464, v465)))] : List (Int × Int × Int × Int)).length) * 32 ≤ 140737488355328 ∧ v435.length + ([(v462, (v463, (v464, v465)))] : List (Int × Int × Int × Int)).length ≤ 9223372036854775807 then some ((Sum.inl ((v435 ++ ([(v462, (v463, (v464, v465)))] : List (Int × Int × Int × Int))), (mset Y3 v436 (v462, (v463, (v464, v465))) (v435.length : Int)), (v435.length : Int)))) else none))
  else some ((Sum.inl (v435, v436, ((mfind Y3 v436 (v462, (v463, (v464, v465)))).getD (0 : Int))))))).bind fun (r711 : (((List (Int × Int × Int × Int)) × (List ((Int × Int × Int × Int) × Int)) × Int) ⊕ (((List (List Int)) × List Int) × Int))) => match r711 with
  | .inl (v471, v472, v473) => (if 0 ≤ v438 ∧ v438 < (v437.length : Int) then (if v438.toNat < v437.length then some (Sum.inl (v471, v472, (v437.set v438.toNat v473), (IntKind.i64.wrap (v438 + (1 : Int))))) else none) else none)
  | .inr ((r709, r710)) => some (Sum.inr (Sum.inr (r709, r710)))))
  else some (Sum.inr (Sum.inl (v435, v436, v437))))
def auto_Make_L7 (i1 : Int) (v12 : List Int) (v13 : List (Int × Int × Int × Int)) (v15 : List (Bool × (Int × Int × Int × Int) × Int × Int × Int × Int)) (v26 v27 v28 v29 : Int) : ((List (List Int)) × (List Int) × (List (Int × Int × Int × Int)) × (List ((Int × Int × Int × Int) × Int)) × Int) → Option (((List (List Int)) × (List Int) × (List (Int × Int × Int × Int)) × (List ((Int × Int × Int × Int) × Int)) × Int) ⊕ (((List (List Int)) × List Int) ⊕ (((List (List Int)) × List Int) × Int))) := fun (v323, v324, v325, v326, v327) =>
  (if (decide (v327 < (v325.length : Int))) = true then (if 0 ≤ v327 ∧ v327 < (v325.length : Int) then (if v327.toNat < v325.length then ((iter (auto_Make_L3 v13 v325 v327) (v26, v27, v28, v29, (0 : Int))).bind fun (v348, v349, v350, v351) => ((iter (auto_Make_L4 v15 v325 v327) ((0 : Int), (0 : Int))).bind fun v364 => (if 0 ≤ i1 ∧ i1 ≤ i1 ∧ (8 : Int) * i1 ≤ 281474976710656 ∧ i1 ≤ 9223372036854775807 then ((iter (auto_Make_L6 i1 v12 v348 v349 v350 v351) (v325, v326, (List.replicate i1.toNat (0 : Int)), (0 : Int))).bind fun (r712 : (((List (Int × Int × Int × Int)) × (List ((Int × Int × Int × Int) × Int)) × List Int) ⊕ (((List (List Int)) × List Int) × Int))) => match r712 with
  | .inl (v439, v440, v441) => (if (v323.length + ([v441] : List (List Int)).length) * 24 ≤ 140737488355328 ∧ v323.length + ([v441] : List (List Int)).length ≤ 9223372036854775807 then (if (v324.length + ([v364] : List Int).length) * 4 ≤ 140737488355328 ∧ v324.length + ([v364] : List Int).length ≤ 9223372036854775807 then some (Sum.inl ((v323 ++ ([v441] : List (List Int))), (v324 ++ ([v364] : List Int)), v439, v440, (IntKind.i64.wrap (v327 + (1 : Int))))) else none) else none)
  | .inr ((r646, r647)) => some (Sum.inr (Sum.inr (r646, r647)))) else none))) else none) else none)
  else some (Sum.inr (Sum.inl (v323, v324))))
def auto_Make (d1 : List Tree) (i1 : Int) : Option (((List (List Int)) × List Int) × Int) :=
  (((if (decide (i1 < (1 : Int))) = true then some (true)
  else (if (decide (i1 > (24 : Int))) = true then some (true)
  else some ((decide ((d1.length : Int) > (24 : Int))))))).bind fun v1 => (if v1 = true then some ((([] : List (List Int)), ([] : List Int)), (2 : Int))
  else ((iter (auto_Make_L1 d1) (([] : List Int), ([] : List (Int × Int × Int × Int)), false, ([] : List (Bool × (Int × Int × Int × Int) × Int × Int × Int × Int)), (0 : Int))).bind fun (v12, v13, v14, v15) => (if v14 = true then some ((([] : List (List Int)), ([] : List Int)), (26 : Int))
  else ((iter (auto_Make_L2 v15) ((0 : Int), (0 : Int), (0 : Int), (0 : Int), (0 : Int))).bind fun (v26, v27, v28, v29) => ((iter (auto_Make_L7 i1 v12 v13 v15 v26 v27 v28 v29) (([] : List (List Int)), ([] : List Int), ([((0 : Int), ((0 : Int), ((0 : Int), (0 : Int))))] : List (Int × Int × Int × Int)), (mset Y3 ([] : List ((Int × Int × Int × Int) × Int)) ((0 : Int), ((0 : Int), ((0 : Int), (0 : Int)))) (0 : Int)), (0 : Int))).bind fun (r713 : (((List (List Int)) × List Int) ⊕ (((List (List Int)) × List Int) × Int))) => match r713 with
  | .inl (v328, v329) => some ((v328, v329), (0 : Int))
  | .inr ((r485, r486)) => some (r485, r486)))))))
theorem auto_Make_ok (β0 : Bool) {d1 : List Tree} {i1 : Int} {res : ((List (List Int)) × List Int) × Int} (h : auto_Make d1 i1 = some res) :
    Pure Try.prog 9 [.p β0 (.slice (.tree .u8 .u32)) d1, .i64 i1] (wrapR (encs false [⟨Y1, res.1⟩, ⟨(.int .i64), res.2⟩])) := by
  refine Pure.of_body tbok Try.func9 (by kernel_rfl) rfl (nl rfl) (fun Bw w0 => ?_) rfl
  unfold auto_Make at h
  refine G (W_seq (W_seq (W_pn h (fun v1 => mkSt [(0, .p β0 (.slice (.tree .u8 .u32)) d1), (1, .i64 i1), (4, .adr 0 0 2 0), (40, .bo v1)] [(0, .box [.nils, .nils])] 1) (fun v1 h => ?_) (fun v1 h => ?_))))
  · rcases h_ite h with ⟨hb5, h⟩ | ⟨hb5, h⟩
    · refine GNe ⟨[(2, true), (5, true)], []⟩ [(3, 5, oc hb5)] ?_
      exact eN h (gg [] [0])
    rcases h_ite h with ⟨hb6, h⟩ | ⟨hb6, h⟩
    · refine GNe ⟨[(2, false), (5, false), (6, true), (10, true)], []⟩ [(3, 4, an hb5), (5, 5, oc hb5), (7, 10, oc hb6)] ?_
      exact eN h (gg [] [0])
    refine GNe ⟨[(2, false), (5, false), (6, false), (10, false)], []⟩ [(3, 4, an hb5), (5, 5, oc hb5), (7, 9, an hb6), (10, 10, oc hb6)] ?_
    exact eN h (gg [] [0])
  refine to_thenG (W_if h (fun hb7 h => ?_) (fun hb7 h => ?_))
  · refine G (W_ret (thenQ_ret ?_))
    obtain rfl := sI h
    exact Ret_intro [Y1, (.int .i64)] (by kernel_rfl)
  refine W_skip_to (to_thenG (G (G (W_seq (G (W_block (W_lx h (fun (v7, v8, v9, v10, v11) => mkSt [(1, .i64 i1), (4, .adr 0 0 2 0), (6, .adr 1 0 3 0), (7, .sl 4), (44, .p β0 (.slice (.tree .u8 .u32)) d1), (45, .i64 (d1.length : Int)), (46, .i64 v11)] (ob36 v9 v7 v8 v10) 5) 0 (fun (v12, v13, v14, v15) => mkSt [(1, .i64 i1), (4, .adr 0 0 2 0), (6, .adr 1 0 3 0), (7, .sl 4)] (ob36 v14 v12 v13 v15) 5) (gg [.nilC 9 0 57 24 (.int .u32), .nilC 9 1 58 60 Y3, .nilS 7 59 62 Y4] [0, 9, 57, 58, 59]) (fun y o h => ?_) (fun r25 h => ?_))))))))
  · obtain ⟨v7, v8, v9, v10, v11⟩ := y
    unfold auto_Make_L1 at h
    refine G (W_seq (W_if h (fun hb10 h => ?_) (fun hb10 h => ?_)))
    · refine W_skip_to (to_thenG (W_seq (W_block (GC 0 h (fun h => ?_)))))
      obtain ⟨⟨r21, r22, r23, r24⟩, q6, h⟩ := h_bind h
      obtain ⟨c12, h⟩ := h_guard h
      have u_1 := (auto_maker_of_v3_ok 1000 β0 q6)
      refine GNe ⟨[], [(3, (oO u_1 [1, 2, 3]))]⟩ [(3, 3, oc u_1), (5, 5, oc c12)] (to_block (to_thenG (Ge ?_)))
      exact eB h (gg [] [0, 1, 69, 70, 85])
    refine W_exit_to (thenE ?_)
    exact eX h (gg [] [0, 1, 2, 3, 4])
  obtain ⟨v12, v13, v14, v15⟩ := r25
  refine blockE_eq (to_thenG (W_seq (G (W_if h (fun hb11 h => ?_) (fun hb11 h => ?_)))))
  · refine G (W_ret (thenQ_ret ?_))
    obtain rfl := sI h
    exact Ret_intro [Y1, (.int .i64)] (by kernel_rfl)
  refine W_skip_to (to_thenG (G (W_seq (G (W_block (W_lx h (fun (v21, v22, v23, v24, v25) => mkSt [(1, .i64 i1), (4, .adr 0 0 2 0), (6, .adr 1 0 3 0), (7, .sl 4), (10, .adr 5 0 4 0), (62, .sl 4), (63, .i64 (v15.length : Int)), (64, .i64 v25)] (ob35 v14 v12 v13 v15 v21 v22 v23 v24) 6) 2 (fun (v26, v27, v28, v29) => mkSt [(1, .i64 i1), (4, .adr 0 0 2 0), (6, .adr 1 0 3 0), (7, .sl 4), (10, .adr 5 0 4 0)] (ob35 v14 v12 v13 v15 v26 v27 v28 v29) 6) (gg [] [0, 1, 2, 3, 4, 37]) (fun y o h => ?_) (fun r32 h => ?_)))))))
  · obtain ⟨v21, v22, v23, v24, v25⟩ := y
    unfold auto_Make_L2 at h
    refine G (W_seq (W_if h (fun hb14 h => ?_) (fun hb14 h => ?_)))
    · refine W_skip_to (to_thenG (W_seq (W_block ?_)))
      obtain ⟨c23, c24, h⟩ := g2 h
      refine GN a0 [(0, 0, oc c23), (1, 1, oc c24)] ?_
      obtain ⟨r31, q12, h⟩ := h_bind h
      refine GPe 3 (auto_set_or_ok q12) (to_block (to_thenG (Ge ?_)))
      exact eB h (gg [] [0, 1, 2, 3, 4, 5])
    refine W_exit_to (thenE ?_)
    exact eX h (gg [] [0, 1, 2, 3, 4, 5])
  obtain ⟨v26, v27, v28, v29⟩ := r32
  refine blockE_eq (to_thenG (G (G (GN a0 [(0, 0, oc key60), (2, 2, oc key60)] (W_seq (G (W_block (W_lp h (fun (v323, v324, v325, v326, v327) => mkSt [(1, .i64 i1), (4, .adr 0 0 2 0), (6, .adr 1 0 3 0), (7, .sl 4), (10, .adr 5 0 4 0), (13, .adr 6 0 2 0), (14, .sl 9), (15, .mp 10), (16, .i64 v327)] (ob33 v14 v12 v13 v15 v26 v27 v28 v29 v323 v324 v325 v326) 11) (postS (postX Try.f9.ntmps 4 (fun (v328, v329) => mkSt [(4, .adr 0 0 2 0), (13, .adr 1 0 2 0)] (ob34 v328 v329) 4)) (postR tb Try.f9.results.toList (fun (r485, r486) => [⟨Y1, r485⟩, ⟨(.int .i64), r486⟩]))) (gg [.nilC 6 0 86 36 (.slice (.int .i64)), .nilC 6 1 87 24 (.int .u32)] [0, 1, 2, 3, 4, 5, 6, 86, 87, 22, 38]) (fun y o h => ?_) (fun r713 h e σ' hq => ?_)))))))))
  · obtain ⟨v323, v324, v325, v326, v327⟩ := y
    unfold auto_Make_L7 at h
    refine W_seq (G (W_if h (fun hb209 h => ?_) (fun hb209 h => ?_)))
    · refine W_skip_to (to_thenG (W_seq (W_block ?_)))
      obtain ⟨c317, c318, h⟩ := g2 h
      refine GN a0 [(2, 2, oc c317), (3, 3, oc c318)] (G (G (W_seq (G (W_block ?_)))))
      refine W_lx h (fun (v343, v344, v345, v346, v347) => mkSt [(1, .i64 i1), (4, .adr 0 0 2 0), (6, .adr 1 0 3 0), (7, .sl 4), (10, .adr 5 0 4 0), (13, .adr 6 0 2 0), (14, .sl 9), (15, .mp 10), (16, .i64 v327), (17, .adr 11 0 4 0), (18, .u32 (0 : Int)), (19, .adr 12 0 4 0), (93, .i64 (v13.length : Int)), (94, .i64 v347)] (ob28 v14 v12 v13 v15 v26 v27 v28 v29 v323 v324 v325 v326 ((v325.getD v327.toNat ((0 : Int), ((0 : Int), ((0 : Int), (0 : Int))))).1) ((v325.getD v327.toNat ((0 : Int), ((0 : Int), ((0 : Int), (0 : Int))))).2.1) ((v325.getD v327.toNat ((0 : Int), ((0 : Int), ((0 : Int), (0 : Int))))).2.2.1) ((v325.getD v327.toNat ((0 : Int), ((0 : Int), ((0 : Int), (0 : Int))))).2.2.2) v343 v344 v345 v346) 13) 6 (fun (v348, v349, v350, v351) => mkSt [(1, .i64 i1), (4, .adr 0 0 2 0), (6, .adr 1 0 3 0), (7, .sl 4), (10, .adr 5 0 4 0), (13, .adr 6 0 2 0), (14, .sl 9), (15, .mp 10), (16, .i64 v327), (17, .adr 11 0 4 0), (18, .u32 (0 : Int)), (19, .adr 12 0 4 0)] (ob28 v14 v12 v13 v15 v26 v27 v28 v29 v323 v324 v325 v326 ((v325.getD v327.toNat ((0 : Int), ((0 : Int), ((0 : Int), (0 : Int))))).1) ((v325.getD v327.toNat ((0 : Int), ((0 : Int), ((0 : Int), (0 : Int))))).2.1) ((v325.getD v327.toNat ((0 : Int), ((0 : Int), ((0 : Int), (0 : Int))))).2.2.1) ((v325.getD v327.toNat ((0 : Int), ((0 : Int), ((0 : Int), (0 : Int))))).2.2.2) v348 v349 v350 v351) 13) (gg [] [0, 1, 2, 3, 4, 5, 6, 7, 8, 9, 10, 75, 107]) (fun y o h => ?_) (fun r508 h => ?_)
      · obtain ⟨v343, v344, v345, v346, v347⟩ := y
        unfold auto_Make_L3 at h
        refine G (W_seq (W_if h (fun hb216 h => ?_) (fun hb216 h => ?_)))
        · refine W_skip_to (to_thenG (W_seq (W_block (G ?_))))
          obtain ⟨r502, q206, h⟩ := h_bind h
          refine GP 2 (auto_set_has_ok q206) (W_pn h (fun (v352, v353, v354, v355) => mkSt [(1, .i64 i1), (4, .adr 0 0 2 0), (6, .adr 1 0 3 0), (7, .sl 4), (10, .adr 5 0 4 0), (13, .adr 6 0 2 0), (14, .sl 9), (15, .mp 10), (16, .i64 v327), (17, .adr 11 0 4 0), (18, .u32 (0 : Int)), (19, .adr 12 0 4 0), (93, .i64 (v13.length : Int)), (94, .i64 v347)] (ob28 v14 v12 v13 v15 v26 v27 v28 v29 v323 v324 v325 v326 ((v325.getD v327.toNat ((0 : Int), ((0 : Int), ((0 : Int), (0 : Int))))).1) ((v325.getD v327.toNat ((0 : Int), ((0 : Int), ((0 : Int), (0 : Int))))).2.1) ((v325.getD v327.toNat ((0 : Int), ((0 : Int), ((0 : Int), (0 : Int))))).2.2.1) ((v325.getD v327.toNat ((0 : Int), ((0 : Int), ((0 : Int), (0 : Int))))).2.2.2) v352 v353 v354 v355) 13) (fun r507 h => ?_) (fun r507 h => ?_))
          · refine W_if h (fun hb218 h => ?_) (fun hb218 h => ?_)
            · obtain ⟨c341, c342, h⟩ := g2 h
              obtain ⟨r506, q210, h⟩ := h_bind h
              have u_1 := (auto_set_or_ok q210)
              refine GDe ⟨[], [(8, (oP u_1))]⟩ [(6, 6, oc c341), (7, 7, oc c342), (8, 8, oc u_1)] ?_
              exact eN h (gg [] [0, 1, 2, 3, 4, 5, 6, 7, 8, 9, 10, 11, 12])
            refine W_skip_to ?_
            exact eN h (gg [] [0, 1, 2, 3, 4, 5, 6, 7, 8, 9, 10, 11, 12])
          obtain ⟨v352, v353, v354, v355⟩ := r507
          refine to_block (to_thenG (Ge ?_))
          exact eB h (gg [] [0, 1, 2, 3, 4, 5, 6, 7, 8, 9, 10, 11, 12])
        refine W_exit_to (thenE ?_)
        exact eX h (gg [] [0, 1, 2, 3, 4, 5, 6, 7, 8, 9, 10, 11, 12])
      obtain ⟨v348, v349, v350, v351⟩ := r508
      refine blockE_eq (to_thenG (W_seq (G (W_block ?_))))
      refine W_lx h (fun (v362, v363) => mkSt [(1, .i64 i1), (4, .adr 0 0 2 0), (6, .adr 1 0 3 0), (7, .sl 4), (10, .adr 5 0 4 0), (13, .adr 6 0 2 0), (14, .sl 9), (15, .mp 10), (16, .i64 v327), (17, .adr 11 0 4 0), (18, .u32 v362), (19, .adr 12 0 4 0), (110, .sl 4), (111, .i64 (v15.length : Int)), (112, .i64 v363)] (ob28 v14 v12 v13 v15 v26 v27 v28 v29 v323 v324 v325 v326 ((v325.getD v327.toNat ((0 : Int), ((0 : Int), ((0 : Int), (0 : Int))))).1) ((v325.getD v327.toNat ((0 : Int), ((0 : Int), ((0 : Int), (0 : Int))))).2.1) ((v325.getD v327.toNat ((0 : Int), ((0 : Int), ((0 : Int), (0 : Int))))).2.2.1) ((v325.getD v327.toNat ((0 : Int), ((0 : Int), ((0 : Int), (0 : Int))))).2.2.2) v348 v349 v350 v351) 13) 8 (fun v364 => mkSt [(1, .i64 i1), (4, .adr 0 0 2 0), (6, .adr 1 0 3 0), (7, .sl 4), (10, .adr 5 0 4 0), (13, .adr 6 0 2 0), (14, .sl 9), (15, .mp 10), (16, .i64 v327), (18, .u32 v364), (19, .adr 11 0 4 0)] (ob32 v14 v12 v13 v15 v26 v27 v28 v29 v323 v324 v325 v326 v348 v349 v350 v351) 12) (gg [] [0, 1, 2, 3, 4, 5, 6, 7, 8, 9, 10, 11, 12]) (fun y o h => ?_) (fun v364 h => ?_)
      · obtain ⟨v362, v363⟩ := y
        unfold auto_Make_L4 at h
        refine G (W_seq (W_if h (fun hb231 h => ?_) (fun hb231 h => ?_)))
        · refine W_skip_to (to_thenG (W_seq (W_block ?_)))
          obtain ⟨c361, c362, h⟩ := g2 h
          refine GN a0 [(1, 1, oc c361), (2, 2, oc c362)] (W_seq (W_pn h (fun v365 => mkSt [(1, .i64 i1), (4, .adr 0 0 2 0), (6, .adr 1 0 3 0), (7, .sl 4), (10, .adr 5 0 4 0), (13, .adr 6 0 2 0), (14, .sl 9), (15, .mp 10), (16, .i64 v327), (17, .adr 11 0 4 0), (18, .u32 v362), (19, .adr 12 0 4 0), (21, .i64 v363), (110, .sl 4), (111, .i64 (v15.length : Int)), (112, .i64 v363), (124, .bo v365)] (ob28 v14 v12 v13 v15 v26 v27 v28 v29 v323 v324 v325 v326 ((v325.getD v327.toNat ((0 : Int), ((0 : Int), ((0 : Int), (0 : Int))))).1) ((v325.getD v327.toNat ((0 : Int), ((0 : Int), ((0 : Int), (0 : Int))))).2.1) ((v325.getD v327.toNat ((0 : Int), ((0 : Int), ((0 : Int), (0 : Int))))).2.2.1) ((v325.getD v327.toNat ((0 : Int), ((0 : Int), ((0 : Int), (0 : Int))))).2.2.2) v348 v349 v350 v351) 13) (fun v365 h => ?_) (fun v365 h => ?_)))
          · rcases h_ite h with ⟨hb234, h⟩ | ⟨hb234, h⟩
            · refine GNe ⟨[(2, true), (7, true)], []⟩ [(3, 7, oc hb234)] ?_
              exact eN h (gg [] [0, 1, 2, 3, 4, 5, 6, 7, 8, 9, 10, 11, 12])
            obtain ⟨r517, q219, h⟩ := h_bind h
            have u_1 := (auto_meets_ok q219)
            refine GNe ⟨[(2, false), (7, false)], [(6, (oP u_1))]⟩ [(3, 5, an hb234), (6, 6, oc (And.intro hb234 u_1)), (7, 7, oc hb234)] ?_
            exact eN h (gg [] [0, 1, 2, 3, 4, 5, 6, 7, 8, 9, 10, 11, 12])
          refine to_thenG (W_pn h (fun v366 => mkSt [(1, .i64 i1), (4, .adr 0 0 2 0), (6, .adr 1 0 3 0), (7, .sl 4), (10, .adr 5 0 4 0), (13, .adr 6 0 2 0), (14, .sl 9), (15, .mp 10), (16, .i64 v327), (17, .adr 11 0 4 0), (18, .u32 v366), (19, .adr 12 0 4 0), (110, .sl 4), (111, .i64 (v15.length : Int)), (112, .i64 v363)] (ob28 v14 v12 v13 v15 v26 v27 v28 v29 v323 v324 v325 v326 ((v325.getD v327.toNat ((0 : Int), ((0 : Int), ((0 : Int), (0 : Int))))).1) ((v325.getD v327.toNat ((0 : Int), ((0 : Int), ((0 : Int), (0 : Int))))).2.1) ((v325.getD v327.toNat ((0 : Int), ((0 : Int), ((0 : Int), (0 : Int))))).2.2.1) ((v325.getD v327.toNat ((0 : Int), ((0 : Int), ((0 : Int), (0 : Int))))).2.2.2) v348 v349 v350 v351) 13) (fun v366 h => ?_) (fun v366 h => ?_))
          · refine W_if h (fun hb236 h => ?_) (fun hb236 h => ?_)
            · refine GCe 2 h (fun h => ?_)
              exact eN h (gg [] [0, 1, 2, 3, 4, 5, 6, 7, 8, 9, 10, 11, 12])
            refine W_skip_to ?_
            exact eN h (gg [] [0, 1, 2, 3, 4, 5, 6, 7, 8, 9, 10, 11, 12])
          refine to_block (to_thenG (Ge ?_))
          exact eB h (gg [] [0, 1, 2, 3, 4, 5, 6, 7, 8, 9, 10, 11, 12])
        refine W_exit_to (thenE ?_)
        exact eX h (gg [] [0, 1, 2, 3, 4, 5, 6, 7, 8, 9, 10, 12])
      refine blockE_eq (to_thenG (GC 1 h (fun h => W_seq (G (W_block ?_)))))
      refine W_lp h (fun (v435, v436, v437, v438) => mkSt [(1, .i64 i1), (4, .adr 0 0 2 0), (6, .adr 1 0 3 0), (7, .sl 4), (10, .adr 5 0 4 0), (13, .adr 6 0 2 0), (14, .sl 9), (15, .mp 10), (16, .i64 v327), (18, .u32 v364), (19, .adr 11 0 4 0), (23, .sl 12), (132, .i64 i1), (133, .i64 v438)] (ob30 v14 v12 v13 v15 v26 v27 v28 v29 v323 v324 v435 v436 v348 v349 v350 v351 v437) 13) (postS (postX Try.f9.ntmps 10 (fun (v439, v440, v441) => mkSt [(1, .i64 i1), (4, .adr 0 0 2 0), (6, .adr 1 0 3 0), (7, .sl 4), (10, .adr 5 0 4 0), (13, .adr 6 0 2 0), (14, .sl 9), (15, .mp 10), (16, .i64 v327), (18, .u32 v364), (23, .sl 11)] (ob31 v14 v12 v13 v15 v26 v27 v28 v29 v323 v324 v439 v440 v441) 12)) (postR tb Try.f9.results.toList (fun (r646, r647) => [⟨Y1, r646⟩, ⟨(.int .i64), r647⟩]))) (gg [] [0, 1, 2, 3, 4, 5, 6, 7, 8, 9, 10, 11, 20]) (fun y o h => ?_) (fun r712 h e σ' hq => ?_)
      · obtain ⟨v435, v436, v437, v438⟩ := y
        unfold auto_Make_L6 at h
        refine G (W_seq (W_if h (fun hb283 h => ?_) (fun hb283 h => ?_)))
        · refine W_skip_to (to_thenG (W_seq (W_block (G (G (W_seq (G (W_block ?_))))))))
          refine W_lx h (fun (v457, v458, v459, v460, v461) => mkSt [(1, .i64 i1), (4, .adr 0 0 2 0), (6, .adr 1 0 3 0), (7, .sl 4), (10, .adr 5 0 4 0), (13, .adr 6 0 2 0), (14, .sl 9), (15, .mp 10), (16, .i64 v327), (18, .u32 v364), (19, .adr 11 0 4 0), (23, .sl 12), (24, .i64 v438), (25, .adr 13 0 4 0), (132, .i64 i1), (133, .i64 v438), (139, .sl 2), (140, .i64 (v12.length : Int)), (141, .i64 v461)] (ob29 v14 v12 v13 v15 v26 v27 v28 v29 v323 v324 v435 v436 v348 v349 v350 v351 v437 v457 v458 v459 v460) 14) 12 (fun (v462, v463, v464, v465) => mkSt [(1, .i64 i1), (4, .adr 0 0 2 0), (6, .adr 1 0 3 0), (7, .sl 4), (10, .adr 5 0 4 0), (13, .adr 6 0 2 0), (14, .sl 9), (15, .mp 10), (16, .i64 v327), (18, .u32 v364), (19, .adr 11 0 4 0), (23, .sl 12), (24, .i64 v438), (25, .adr 13 0 4 0), (132, .i64 i1), (133, .i64 v438)] (ob29 v14 v12 v13 v15 v26 v27 v28 v29 v323 v324 v435 v436 v348 v349 v350 v351 v437 v462 v463 v464 v465) 14) (gg [] [0, 1, 2, 3, 4, 5, 6, 7, 8, 9, 10, 11, 12, 37]) (fun y o h => ?_) (fun r708 h => ?_)
          · obtain ⟨v457, v458, v459, v460, v461⟩ := y
            unfold auto_Make_L5 at h
            refine G (W_seq (W_if h (fun hb296 h => ?_) (fun hb296 h => ?_)))
            · refine W_skip_to (to_thenG (W_seq (W_block ?_)))
              obtain ⟨c443, c444, h⟩ := g2 h
              refine GN a0 [(1, 1, oc c443), (2, 2, oc c444)] (W_seq (W_pn h (fun v466 => mkSt [(1, .i64 i1), (4, .adr 0 0 2 0), (6, .adr 1 0 3 0), (7, .sl 4), (10, .adr 5 0 4 0), (13, .adr 6 0 2 0), (14, .sl 9), (15, .mp 10), (16, .i64 v327), (18, .u32 v364), (19, .adr 11 0 4 0), (23, .sl 12), (24, .i64 v438), (25, .adr 13 0 4 0), (26, .i64 v461), (132, .i64 i1), (133, .i64 v438), (139, .sl 2), (140, .i64 (v12.length : Int)), (141, .i64 v461), (155, .bo v466)] (ob29 v14 v12 v13 v15 v26 v27 v28 v29 v323 v324 v435 v436 v348 v349 v350 v351 v437 v457 v458 v459 v460) 14) (fun v466 h => ?_) (fun v466 h => ?_)))
              · obtain ⟨r690, q278, h⟩ := h_bind h
                rcases h_ite h with ⟨hb299, h⟩ | ⟨hb299, h⟩
                · obtain ⟨c447, h⟩ := h_guard h
                  have u_1 := (auto_set_has_ok q278)
                  refine GNe ⟨[(3, true), (9, true)], [(2, (oP u_1))]⟩ [(2, 2, oc u_1), (4, 5, an hb299), (6, 6, oc (And.intro hb299 c447)), (7, 8, an hb299), (9, 9, oc hb299)] ?_
                  exact eN h (gg [] [0, 1, 2, 3, 4, 5, 6, 7, 8, 9, 10, 11, 12, 13])
                have u_1 := (auto_set_has_ok q278)
                refine GNe ⟨[(3, false), (9, false)], [(2, (oP u_1))]⟩ [(2, 2, oc u_1), (4, 9, oc hb299)] ?_
                exact eN h (gg [] [0, 1, 2, 3, 4, 5, 6, 7, 8, 9, 10, 11, 12, 13])
              refine to_thenG (W_pn h (fun (v467, v468, v469, v470) => mkSt [(1, .i64 i1), (4, .adr 0 0 2 0), (6, .adr 1 0 3 0), (7, .sl 4), (10, .adr 5 0 4 0), (13, .adr 6 0 2 0), (14, .sl 9), (15, .mp 10), (16, .i64 v327), (18, .u32 v364), (19, .adr 11 0 4 0), (23, .sl 12), (24, .i64 v438), (25, .adr 13 0 4 0), (132, .i64 i1), (133, .i64 v438), (139, .sl 2), (140, .i64 (v12.length : Int)), (141, .i64 v461)] (ob29 v14 v12 v13 v15 v26 v27 v28 v29 v323 v324 v435 v436 v348 v349 v350 v351 v437 v467 v468 v469 v470) 14) (fun r707 h => ?_) (fun r707 h => ?_))
              · refine W_if h (fun hb301 h => ?_) (fun hb301 h => ?_)
                · obtain ⟨⟨r703, r704, r705, r706⟩, q282, h⟩ := h_bind h
                  refine GOe 1 [13] (auto_set_add_v3_ok q282) ?_
                  exact eN h (gg [] [0, 1, 2, 3, 4, 5, 6, 7, 8, 9, 10, 11, 12, 13])
                refine W_skip_to ?_
                exact eN h (gg [] [0, 1, 2, 3, 4, 5, 6, 7, 8, 9, 10, 11, 12, 13])
              obtain ⟨v467, v468, v469, v470⟩ := r707
              refine to_block (to_thenG (Ge ?_))
              exact eB h (gg [] [0, 1, 2, 3, 4, 5, 6, 7, 8, 9, 10, 11, 12, 13])
            refine W_exit_to (thenE ?_)
            exact eX h (gg [] [0, 1, 2, 3, 4, 5, 6, 7, 8, 9, 10, 11, 12, 13])
          obtain ⟨v462, v463, v464, v465⟩ := r708
          refine blockE_eq (to_thenG (GN a0 [(2, 2, oc key60)] (W_seq (G (W_pc h (postS (postN Try.f9.ntmps (fun (v471, v472, v473) => mkSt [(1, .i64 i1), (4, .adr 0 0 2 0), (6, .adr 1 0 3 0), (7, .sl 4), (10, .adr 5 0 4 0), (13, .adr 6 0 2 0), (14, .sl 9), (15, .mp 10), (16, .i64 v327), (18, .u32 v364), (19, .adr 11 0 4 0), (23, .sl 12), (24, .i64 v438), (28, .i64 v473), (132, .i64 i1), (133, .i64 v438)] (ob30 v14 v12 v13 v15 v26 v27 v28 v29 v323 v324 v471 v472 v348 v349 v350 v351 v437) 13)) (postR tb Try.f9.results.toList (fun (r709, r710) => [⟨Y1, r709⟩, ⟨(.int .i64), r710⟩]))) (fun r711 h => ?_) (fun r711 h e σ' hq => ?_))))))
          · refine W_if h (fun hb304 h => ?_) (fun hb304 h => ?_)
            · refine W_seq (G (G (W_if h (fun hb305 h => ?_) (fun hb305 h => ?_))))
              · refine G (W_ret ?_)
                obtain rfl := sI h
                refine thenQ_ret (postS_rr ?_)
                exact postR_mk (Ret_intro [Y1, (.int .i64)] (by kernel_rfl))
              refine W_skip_to (to_thenG (GN a0 [(3, 3, oc key60)] (GCe 3 h (fun h => ?_))))
              obtain rfl := sI h
              refine postS_l ?_
              exact postN_to (gg [] [0, 1, 2, 3, 4, 5, 6, 7, 8, 190, 10, 11, 12])
            refine W_skip_to ?_
            obtain rfl := sI h
            refine postS_l ?_
            exact postN_to (gg [] [0, 1, 2, 3, 4, 5, 6, 7, 8, 9, 10, 11, 12])
          rcases r711 with ⟨v471, v472, v473⟩ | ⟨r709, r710⟩
          · obtain ⟨rfl, hle⟩ := hq
            refine use_to ?_ hle
            refine to_thenG ?_
            obtain ⟨c454, c455, h⟩ := g2 h
            refine GNe a0 [(3, 3, oc c454), (4, 4, oc c455)] (to_block (to_thenG (Ge ?_)))
            exact eB h (gg [] [0, 1, 2, 3, 4, 5, 6, 7, 8, 9, 10, 11, 12])
          obtain ⟨rfl, hr⟩ := hq
          obtain rfl := sI h
          refine thenQ_ret (blockQ_ret (thenQ_ret (round_ret (postS_rr ?_))))
          exact postR_mk hr
        refine W_exit_to (thenE ?_)
        obtain rfl := sI h
        refine roundE (postS_l ?_)
        exact postX_to (gg [] [0, 1, 2, 3, 4, 5, 6, 7, 8, 9, 10, 12])
      rcases r712 with ⟨v439, v440, v441⟩ | ⟨r646, r647⟩
      · obtain ⟨rfl, hle⟩ := hq
        refine use_to ?_ hle
        refine blockE_eq (to_thenG ?_)
        obtain ⟨c458, c459, h⟩ := g2 h
        refine GDe a0 [(4, 4, oc c458), (9, 9, oc c459)] (to_block (to_thenG (Ge ?_)))
        exact eB h (gg [] [0, 1, 2, 3, 4, 5, 6, 44, 84, 9, 10])
      obtain ⟨rfl, hr⟩ := hq
      obtain rfl := sI h
      refine blockQ_ret (thenQ_ret (blockQ_ret (thenQ_ret (round_ret (postS_rr ?_)))))
      exact postR_mk hr
    refine W_exit_to (thenE ?_)
    obtain rfl := sI h
    refine roundE (postS_l ?_)
    exact postX_to (gg [] [0, 6, 7, 8])
  rcases r713 with ⟨v328, v329⟩ | ⟨r485, r486⟩
  · obtain ⟨rfl, hle⟩ := hq
    refine use_to ?_ hle
    refine blockE_eq (to_thenG (G (W_ret ?_)))
    obtain rfl := sI h
    exact Ret_intro [Y1, (.int .i64)] (by kernel_rfl)
  obtain ⟨rfl, hr⟩ := hq
  refine blockQ_ret (thenQ_ret ?_)
  obtain rfl := sI h
  exact hr
def stanzalaw04_Awake  : Option (Bool) :=
  ((auto_Make ([(Tree.node (1 : Int) (1 : Int) ([] : List Tree))] : List Tree) (1 : Int)).bind fun (r3, r4) =>
  ((auto_Make ([(Tree.node (2 : Int) (0 : Int) ([(Tree.node (1 : Int) (1 : Int) ([] : List Tree)), (Tree.node (1 : Int) (1 : Int) ([] : List Tree))] : List Tree))] : List Tree) (1 : Int)).bind fun (r7, r8) =>
  ((auto_Make ([(Tree.node (4 : Int) (0 : Int) ([(Tree.node (1 : Int) (1 : Int) ([] : List Tree))] : List Tree))] : List Tree) (1 : Int)).bind fun (r11, r12) =>
  (((if (r4 == (0 : Int)) = true then (if (r8 == (0 : Int)) = true then (if (r12 == (0 : Int)) = true then (if ((r3.2.length : Int) == (2 : Int)) = true then (if 0 ≤ (1 : Int) ∧ (1 : Int) < (r3.2.length : Int) then (if ((r3.2.getD ((1 : Int).toNat) (0 : Int)) == (1 : Int)) = true then (if ((r7.2.length : Int) == (3 : Int)) = true then (if 0 ≤ (2 : Int) ∧ (2 : Int) < (r7.2.length : Int) then (if ((r7.2.getD ((2 : Int).toNat) (0 : Int)) == (1 : Int)) = true then (if ((r11.2.length : Int) == (2 : Int)) = true then (if 0 ≤ (0 : Int) ∧ (0 : Int) < (r11.2.length : Int) then some (((r11.2.getD ((0 : Int).toNat) (0 : Int)) == (1 : Int))) else none)
  else some (false))
  else some (false)) else none)
  else some (false))
  else some (false)) else none)
  else some (false))
  else some (false))
  else some (false))
  else some (false))).bind fun d1 => some d1))))
theorem stanzalaw04_Awake_ok  {res : Bool} (h : stanzalaw04_Awake = some res) :
    Pure Try.prog 8 [] (wrapR (encs false [⟨.bool, res⟩])) := by
  refine Pure.of_body tbok Try.func8 (by kernel_rfl) rfl (nl rfl) (fun Bw w0 => ?_) rfl
  unfold stanzalaw04_Awake at h
  refine G (G ?_)
  obtain ⟨⟨r3, r4⟩, q2, h⟩ := h_bind h
  refine GP 2 (auto_Make_ok true q2) ?_
  obtain ⟨⟨r7, r8⟩, q4, h⟩ := h_bind h
  refine GP 5 (auto_Make_ok true q4) ?_
  obtain ⟨⟨r11, r12⟩, q6, h⟩ := h_bind h
  refine GP 4 (auto_Make_ok true q6) (W_seq (W_pn h (fun d1 => mkSt [(0, .bo d1)] [] 0) (fun d1 h => ?_) (fun d1 h => ?_)))
  · rcases h_ite h with ⟨hb17, h⟩ | ⟨hb17, h⟩
    · rcases h_ite h with ⟨hb18, h⟩ | ⟨hb18, h⟩
      · rcases h_ite h with ⟨hb19, h⟩ | ⟨hb19, h⟩
        · rcases h_ite h with ⟨hb20, h⟩ | ⟨hb20, h⟩
          · obtain ⟨c7, h⟩ := h_guard h
            rcases h_ite h with ⟨hb21, h⟩ | ⟨hb21, h⟩
            · rcases h_ite h with ⟨hb22, h⟩ | ⟨hb22, h⟩
              · obtain ⟨c8, h⟩ := h_guard h
                rcases h_ite h with ⟨hb23, h⟩ | ⟨hb23, h⟩
                · rcases h_ite h with ⟨hb24, h⟩ | ⟨hb24, h⟩
                  · obtain ⟨c9, h⟩ := h_guard h
                    refine GNe ⟨[(2, true), (5, true), (6, true), (9, true), (10, true), (15, true), (16, true), (22, true), (23, true), (28, true), (29, true), (35, true), (36, true), (41, true), (42, true), (48, true)], []⟩ [(3, 4, an hb17), (5, 5, oc hb17), (7, 8, an hb18), (9, 9, oc hb18), (11, 14, an hb19), (15, 15, oc hb19), (17, 18, an hb20), (19, 19, oc (And.intro hb20 c7)), (20, 21, an hb20), (22, 22, oc hb20), (24, 27, an hb21), (28, 28, oc hb21), (30, 31, an hb22), (32, 32, oc (And.intro hb22 c8)), (33, 34, an hb22), (35, 35, oc hb22), (37, 40, an hb23), (41, 41, oc hb23), (43, 44, an hb24), (45, 45, oc (And.intro hb24 c9)), (46, 47, an hb24), (48, 48, oc hb24)] ?_
                    exact eN h (gg [] [])
                  refine GNe ⟨[(2, true), (5, true), (6, true), (9, true), (10, true), (15, true), (16, true), (22, true), (23, true), (28, true), (29, true), (35, true), (36, true), (41, true), (42, false), (48, false)], []⟩ [(3, 4, an hb17), (5, 5, oc hb17), (7, 8, an hb18), (9, 9, oc hb18), (11, 14, an hb19), (15, 15, oc hb19), (17, 18, an hb20), (19, 19, oc (And.intro hb20 c7)), (20, 21, an hb20), (22, 22, oc hb20), (24, 27, an hb21), (28, 28, oc hb21), (30, 31, an hb22), (32, 32, oc (And.intro hb22 c8)), (33, 34, an hb22), (35, 35, oc hb22), (37, 40, an hb23), (41, 41, oc hb23), (43, 48, oc hb24)] ?_
                  exact eN h (gg [] [])
                refine GNe ⟨[(2, true), (5, true), (6, true), (9, true), (10, true), (15, true), (16, true), (22, true), (23, true), (28, true), (29, true), (35, true), (36, false), (41, false)], []⟩ [(3, 4, an hb17), (5, 5, oc hb17), (7, 8, an hb18), (9, 9, oc hb18), (11, 14, an hb19), (15, 15, oc hb19), (17, 18, an hb20), (19, 19, oc (And.intro hb20 c7)), (20, 21, an hb20), (22, 22, oc hb20), (24, 27, an hb21), (28, 28, oc hb21), (30, 31, an hb22), (32, 32, oc (And.intro hb22 c8)), (33, 34, an hb22), (35, 35, oc hb22), (37, 41, oc hb23)] ?_
                exact eN h (gg [] [])
              refine GNe ⟨[(2, true), (5, true), (6, true), (9, true), (10, true), (15, true), (16, true), (22, true), (23, true), (28, true), (29, false), (35, false)], []⟩ [(3, 4, an hb17), (5, 5, oc hb17), (7, 8, an hb18), (9, 9, oc hb18), (11, 14, an hb19), (15, 15, oc hb19), (17, 18, an hb20), (19, 19, oc (And.intro hb20 c7)), (20, 21, an hb20), (22, 22, oc hb20), (24, 27, an hb21), (28, 28, oc hb21), (30, 35, oc hb22)] ?_
              exact eN h (gg [] [])
            refine GNe ⟨[(2, true), (5, true), (6, true), (9, true), (10, true), (15, true), (16, true), (22, true), (23, false), (28, false)], []⟩ [(3, 4, an hb17), (5, 5, oc hb17), (7, 8, an hb18), (9, 9, oc hb18), (11, 14, an hb19), (15, 15, oc hb19), (17, 18, an hb20), (19, 19, oc (And.intro hb20 c7)), (20, 21, an hb20), (22, 22, oc hb20), (24, 28, oc hb21)] ?_
            exact eN h (gg [] [])
          refine GNe ⟨[(2, true), (5, true), (6, true), (9, true), (10, true), (15, true), (16, false), (22, false)], []⟩ [(3, 4, an hb17), (5, 5, oc hb17), (7, 8, an hb18), (9, 9, oc hb18), (11, 14, an hb19), (15, 15, oc hb19), (17, 22, oc hb20)] ?_
          exact eN h (gg [] [])
        refine GNe ⟨[(2, true), (5, true), (6, true), (9, true), (10, false), (15, false)], []⟩ [(3, 4, an hb17), (5, 5, oc hb17), (7, 8, an hb18), (9, 9, oc hb18), (11, 15, oc hb19)] ?_
        exact eN h (gg [] [])
      refine GNe ⟨[(2, true), (5, true), (6, false), (9, false)], []⟩ [(3, 4, an hb17), (5, 5, oc hb17), (7, 9, oc hb18)] ?_
      exact eN h (gg [] [])
    refine GNe ⟨[(2, false), (5, false)], []⟩ [(3, 5, oc hb17)] ?_
    exact eN h (gg [] [])
  refine to_thenG (W_ret ?_)
  obtain rfl := sI h
  exact Ret_intro [.bool] (by kernel_rfl)
def hq_Plan_Count (p1 p2 p3 : Int) (p4 : List Int) (p5 : List (Int × (List Int) × List Int)) : Option (Int) :=
  (if ¬ (6 : Int) = 0 then some (IntKind.i64.wrap ((1 : Int) + (IntKind.i64.wrap (Int.tmod p1 (6 : Int))))) else none)
theorem hq_Plan_Count_ok (β3 β4 : Bool) {p1 : Int} {p2 : Int} {p3 : Int} {p4 : List Int} {p5 : List (Int × (List Int) × List Int)} {res : Int} (h : hq_Plan_Count p1 p2 p3 p4 p5 = some res) :
    Pure Try.prog 31 [.agg [.u8 p1, .u8 p2, .u8 p3, .p β3 (.slice (.int .u8)) p4, .p β4 (.slice (.prod (.int .u8) Y5)) p5]] (wrapR (encs false [⟨(.int .i64), res⟩])) := by
  refine Pure.of_body tbok Try.func31 (by kernel_rfl) rfl (nl rfl) (fun Bw w0 => ?_) rfl
  unfold hq_Plan_Count at h
  refine G (GC 2 h (fun h => W_ret ?_))
  obtain rfl := sI h
  exact Ret_intro [(.int .i64)] (by kernel_rfl)
def hq_name (n1 i1 : Int) : Option (List UInt8) :=
  (if ¬ n1 = 0 then some (bytesOf ([(IntKind.u8.wrap (IntKind.i64.wrap ((65 : Int) + (Int.tmod i1 n1))))] : List Int)) else none)
theorem hq_name_ok {n1 : Int} {i1 : Int} {res : List UInt8} (h : hq_name n1 i1 = some res) :
    Pure Try.prog 33 [.i64 n1, .i64 i1] (wrapR (encs false [⟨.str, res⟩])) := by
  refine Pure.of_body tbok Try.func33 (by kernel_rfl) rfl (nl rfl) (fun Bw w0 => ?_) rfl
  unfold hq_name at h
  refine G (GC 2 h (fun h => W_ret ?_))
  obtain rfl := sI h
  exact Ret_intro [.str] (by kernel_rfl)
def hq_names_L1 (n1 bits1 : Int) : ((List UInt8) × Int) → Option (((List UInt8) × Int) ⊕ (List UInt8)) := fun (out4, i2) =>
  (if (decide (i2 < n1)) = true then (if 0 ≤ i2 then (if ¬ (2 : Int) = 0 then (((if ((Int.tmod (Int.fdiv bits1 (2 ^ (min i2.toNat IntKind.u8.bits))) (2 : Int)) == (1 : Int)) = true then (if out4.length + ([32] : List UInt8).length ≤ 9223372036854775807 then ((hq_name n1 i2).bind fun r12 =>
  (if (out4 ++ ([32] : List UInt8)).length + r12.length ≤ 9223372036854775807 then some (((out4 ++ ([32] : List UInt8)) ++ r12)) else none)) else none)
  else some (out4))).bind fun out6 => some (Sum.inl (out6, (IntKind.i64.wrap (i2 + (1 : Int)))))) else none) else none)
  else some (Sum.inr out4))
def hq_names (n1 bits1 : Int) : Option (List UInt8) :=
  ((iter (hq_names_L1 n1 bits1) (([] : List UInt8), (0 : Int))).bind fun out5 => some out5)
theorem hq_names_ok {n1 : Int} {bits1 : Int} {res : List UInt8} (h : hq_names n1 bits1 = some res) :
    Pure Try.prog 32 [.i64 n1, .u8 bits1] (wrapR (encs false [⟨.str, res⟩])) := by
  refine Pure.of_body tbok Try.func32 (by kernel_rfl) rfl (nl rfl) (fun Bw w0 => ?_) rfl
  unfold hq_names at h
  refine G (G (W_seq (G (W_block (W_lx h (fun (out4, i2) => mkSt [(0, .i64 n1), (1, .u8 bits1), (5, .st out4), (6, .i64 i2)] [] 0) 0 (fun out5 => mkSt [(5, .st out5)] [] 0) (gg [] []) (fun y o h => ?_) (fun out5 h => ?_))))))
  · obtain ⟨out4, i2⟩ := y
    unfold hq_names_L1 at h
    refine W_seq (G (W_if h (fun hb7 h => ?_) (fun hb7 h => ?_)))
    · refine W_skip_to (to_thenG (W_seq (W_block ?_)))
      obtain ⟨c27, c28, h⟩ := g2 h
      refine GN a0 [(2, 2, oc c27), (3, 3, oc c28)] (W_pn h (fun out6 => mkSt [(0, .i64 n1), (1, .u8 bits1), (5, .st out6), (6, .i64 i2)] [] 0) (fun out6 h => ?_) (fun out6 h => ?_))
      · refine W_if h (fun hb9 h => ?_) (fun hb9 h => ?_)
        · obtain ⟨c35, h⟩ := h_guard h
          obtain ⟨r12, q12, h⟩ := h_bind h
          obtain ⟨c36, h⟩ := h_guard h
          have u_1 := (hq_name_ok q12)
          refine GNe ⟨[], [(4, (oP u_1))]⟩ [(1, 1, oc c35), (4, 4, oc u_1), (5, 5, oc c36)] ?_
          exact eN h (gg [] [])
        refine W_skip_to ?_
        exact eN h (gg [] [])
      refine to_block (to_thenG (Ge ?_))
      exact eB h (gg [] [])
    refine W_exit_to (thenE ?_)
    exact eX h (gg [] [])
  refine blockE_eq (to_thenG (G (W_ret ?_)))
  obtain rfl := sI h
  exact Ret_intro [.str] (by kernel_rfl)
def hq_reader_next_v2 (r1 : List Int) (r2 : Int) : Option (Int × Int) :=
  (if (decide (r2 ≥ (r1.length : Int))) = true then some ((0 : Int), r2)
  else (if 0 ≤ (IntKind.i64.wrap ((IntKind.i64.wrap (r2 + (1 : Int))) - (1 : Int))) ∧ (IntKind.i64.wrap ((IntKind.i64.wrap (r2 + (1 : Int))) - (1 : Int))) < (r1.length : Int) then some ((IntKind.i64.wrap (r1.getD ((IntKind.i64.wrap ((IntKind.i64.wrap (r2 + (1 : Int))) - (1 : Int))).toNat) (0 : Int))), (IntKind.i64.wrap (r2 + (1 : Int)))) else none))
theorem hq_reader_next_v2_ok {r1 : List Int} {r2 : Int} {res : Int × Int} (h : hq_reader_next_v2 r1 r2 = some res) :
    Owns Try.prog 54 [.adr 0 0 2 0] [(0, .box [.p false (.slice (.int .u8)) r1, .i64 r2])] (.i64 res.1) [(0, .box [.p false (.slice (.int .u8)) r1, .i64 res.2])] := by
  refine Owns.of_body tbok Try.func54 (by kernel_rfl) rfl (nl rfl) (fun Bw w0 => ?_)
  unfold hq_reader_next_v2 at h
  refine G (W_seq (GD a0 [] (W_if h (fun hb2 h => ?_) (fun hb2 h => ?_))))
  · refine G (W_ret (thenQ_ret ?_))
    obtain rfl := sI h
    exact RetO_intro [some (.int .i64)] [] [0] [(2, .i64 (0 : Int))] [(0, .box [.p false (.slice (.int .u8)) r1, .i64 r2])] 1 1 (by kernel_rfl) (by kernel_rfl) (by kernel_rfl)
  refine W_skip_to (to_thenG (G ?_))
  obtain ⟨c4, h⟩ := h_guard h
  refine GD a0 [(9, 9, oc c4)] (W_ret ?_)
  obtain rfl := sI h
  exact RetO_intro [some (.int .i64)] [] [0] [(2, .i64 (IntKind.i64.wrap (r1.getD ((IntKind.i64.wrap ((IntKind.i64.wrap (r2 + (1 : Int))) - (1 : Int))).toNat) (0 : Int))))] [(0, .box [.p false (.slice (.int .u8)) r1, .i64 (IntKind.i64.wrap (r2 + (1 : Int)))])] 1 1 (by kernel_rfl) (by kernel_rfl) (by kernel_rfl)
def hq_expr_v1_F (rec_hq_expr_v1 : Int → Int → (List Int) → Int → Option ((List UInt8) × Int)) (d1 x1 : Int) (i1 : List Int) (i2 : Int) : Option ((List UInt8) × Int) :=
  ((hq_reader_next_v2 i1 i2).bind fun (r73, r74) =>
  (if (decide (x1 ≤ (0 : Int))) = true then ((hq_name d1 r73).bind fun r76 =>
  some (r76, r74))
  else (if ¬ (12 : Int) = 0 then (if ((Int.tmod r73 (12 : Int)) == (4 : Int)) = true then some (([46] : List UInt8), r74)
  else (if ((Int.tmod r73 (12 : Int)) == (5 : Int)) = true then ((hq_reader_next_v2 i1 r74).bind fun (r79, r80) =>
  ((hq_names d1 (IntKind.u8.wrap r79)).bind fun r82 =>
  (if ([91] : List UInt8).length + r82.length ≤ 9223372036854775807 then (if (([91] : List UInt8) ++ r82).length + ([93] : List UInt8).length ≤ 9223372036854775807 then some (((([91] : List UInt8) ++ r82) ++ ([93] : List UInt8)), r80) else none) else none)))
  else (if ((Int.tmod r73 (12 : Int)) == (6 : Int)) = true then ((hq_reader_next_v2 i1 r74).bind fun (r85, r86) =>
  ((hq_names d1 (IntKind.u8.wrap r85)).bind fun r88 =>
  (if ([91, 94] : List UInt8).length + r88.length ≤ 9223372036854775807 then (if (([91, 94] : List UInt8) ++ r88).length + ([93] : List UInt8).length ≤ 9223372036854775807 then some (((([91, 94] : List UInt8) ++ r88) ++ ([93] : List UInt8)), r86) else none) else none)))
  else (if ((Int.tmod r73 (12 : Int)) == (7 : Int)) = true then ((rec_hq_expr_v1 d1 (IntKind.i64.wrap (x1 - (1 : Int))) i1 r74).bind fun (r91, r92) =>
  (if ([40] : List UInt8).length + r91.length ≤ 9223372036854775807 then (if (([40] : List UInt8) ++ r91).length + ([41, 42] : List UInt8).length ≤ 9223372036854775807 then some (((([40] : List UInt8) ++ r91) ++ ([41, 42] : List UInt8)), r92) else none) else none))
  else (if ((Int.tmod r73 (12 : Int)) == (8 : Int)) = true then ((rec_hq_expr_v1 d1 (IntKind.i64.wrap (x1 - (1 : Int))) i1 r74).bind fun (r95, r96) =>
  (if ([40] : List UInt8).length + r95.length ≤ 9223372036854775807 then (if (([40] : List UInt8) ++ r95).length + ([41, 43] : List UInt8).length ≤ 9223372036854775807 then some (((([40] : List UInt8) ++ r95) ++ ([41, 43] : List UInt8)), r96) else none) else none))
  else (if ((Int.tmod r73 (12 : Int)) == (9 : Int)) = true then ((rec_hq_expr_v1 d1 (IntKind.i64.wrap (x1 - (1 : Int))) i1 r74).bind fun (r99, r100) =>
  (if ([40] : List UInt8).length + r99.length ≤ 9223372036854775807 then (if (([40] : List UInt8) ++ r99).length + ([41, 63] : List UInt8).length ≤ 9223372036854775807 then some (((([40] : List UInt8) ++ r99) ++ ([41, 63] : List UInt8)), r100) else none) else none))
  else (if ((Int.tmod r73 (12 : Int)) == (10 : Int)) = true then ((rec_hq_expr_v1 d1 (IntKind.i64.wrap (x1 - (1 : Int))) i1 r74).bind fun (r103, r104) =>
  ((rec_hq_expr_v1 d1 (IntKind.i64.wrap (x1 - (1 : Int))) i1 r104).bind fun (r107, r108) =>
  (if ([40] : List UInt8).length + r103.length ≤ 9223372036854775807 then (if (([40] : List UInt8) ++ r103).length + ([124] : List UInt8).length ≤ 9223372036854775807 then (if ((([40] : List UInt8) ++ r103) ++ ([124] : List UInt8)).length + r107.length ≤ 9223372036854775807 then (if (((([40] : List UInt8) ++ r103) ++ ([124] : List UInt8)) ++ r107).length + ([41] : List UInt8).length ≤ 9223372036854775807 then some (((((([40] : List UInt8) ++ r103) ++ ([124] : List UInt8)) ++ r107) ++ ([41] : List UInt8)), r108) else none) else none) else none) else none)))
  else (if ((Int.tmod r73 (12 : Int)) == (11 : Int)) = true then ((rec_hq_expr_v1 d1 (IntKind.i64.wrap (x1 - (1 : Int))) i1 r74).bind fun (r111, r112) =>
  ((rec_hq_expr_v1 d1 (IntKind.i64.wrap (x1 - (1 : Int))) i1 r112).bind fun (r115, r116) =>
  (if r111.length + ([32] : List UInt8).length ≤ 9223372036854775807 then (if (r111 ++ ([32] : List UInt8)).length + r115.length ≤ 9223372036854775807 then some (((r111 ++ ([32] : List UInt8)) ++ r115), r116) else none) else none)))
  else ((hq_name d1 r73).bind fun r118 =>
  some (r118, r74)))))))))) else none)))
def hq_expr_v1 : Nat → Int → Int → (List Int) → Int → Option ((List UInt8) × Int)
  | 0 => fun _ _ _ _ => none
  | n + 1 => hq_expr_v1_F (hq_expr_v1 n)
theorem hq_expr_v1_F_ok (rec_hq_expr_v1 : Int → Int → (List Int) → Int → Option ((List UInt8) × Int)) (hrec_hq_expr_v1 : ∀ {d1 : Int} {x1 : Int} {i1 : List Int} {i2 : Int} {res : (List UInt8) × Int}, rec_hq_expr_v1 d1 x1 i1 i2 = some res → Owns Try.prog 44 [.i64 d1, .adr 0 0 2 0, .i64 x1] [(0, .box [.p false (.slice (.int .u8)) i1, .i64 i2])] (.st res.1) [(0, .box [.p false (.slice (.int .u8)) i1, .i64 res.2])]) {d1 : Int} {x1 : Int} {i1 : List Int} {i2 : Int} {res : (List UInt8) × Int} (h : hq_expr_v1_F rec_hq_expr_v1 d1 x1 i1 i2 = some res) :
    Owns Try.prog 44 [.i64 d1, .adr 0 0 2 0, .i64 x1] [(0, .box [.p false (.slice (.int .u8)) i1, .i64 i2])] (.st res.1) [(0, .box [.p false (.slice (.int .u8)) i1, .i64 res.2])] := by
  refine Owns.of_body tbok Try.func44 (by kernel_rfl) rfl (nl rfl) (fun Bw w0 => ?_)
  unfold hq_expr_v1_F at h
  refine G ?_
  obtain ⟨⟨r73, r74⟩, q44, h⟩ := h_bind h
  refine GO 1 [0] (hq_reader_next_v2_ok q44) (W_seq (G (W_if h (fun hb19 h => ?_) (fun hb19 h => ?_))))
  · obtain ⟨r76, q46, h⟩ := h_bind h
    refine GP 2 (hq_name_ok q46) (W_ret (thenQ_ret ?_))
    obtain rfl := sI h
    exact RetO_intro [some .str] [] [0] [(6, .st r76)] [(0, .box [.p false (.slice (.int .u8)) i1, .i64 r74])] 1 1 (by kernel_rfl) (by kernel_rfl) (by kernel_rfl)
  refine W_skip_to (to_thenG (W_seq (GC 1 h (fun h => W_block (G (W_if h (fun hb20 h => ?_) (fun hb20 h => ?_)))))))
  · refine G (W_ret (blockQ_ret (thenQ_ret ?_)))
    obtain rfl := sI h
    exact RetO_intro [some .str] [] [0] [(6, .st ([46] : List UInt8))] [(0, .box [.p false (.slice (.int .u8)) i1, .i64 r74])] 1 1 (by kernel_rfl) (by kernel_rfl) (by kernel_rfl)
  refine G (W_if h (fun hb21 h => ?_) (fun hb21 h => ?_))
  · obtain ⟨⟨r79, r80⟩, q48, h⟩ := h_bind h
    refine GO 1 [0] (hq_reader_next_v2_ok q48) ?_
    obtain ⟨r82, q50, h⟩ := h_bind h
    obtain ⟨c49, c50, h⟩ := g2 h
    have u_1 := (hq_names_ok q50)
    refine GN ⟨[], [(3, (oP u_1))]⟩ [(3, 3, oc u_1), (4, 4, oc c49), (5, 5, oc c50)] (W_ret (blockQ_ret (thenQ_ret ?_)))
    obtain rfl := sI h
    exact RetO_intro [some .str] [] [0] [(6, .st ((([91] : List UInt8) ++ r82) ++ ([93] : List UInt8)))] [(0, .box [.p false (.slice (.int .u8)) i1, .i64 r80])] 1 1 (by kernel_rfl) (by kernel_rfl) (by kernel_rfl)
  refine G (W_if h (fun hb22 h => ?_) (fun hb22 h => ?_))
  · obtain ⟨⟨r85, r86⟩, q52, h⟩ := h_bind h
    refine GO 1 [0] (hq_reader_next_v2_ok q52) ?_
    obtain ⟨r88, q54, h⟩ := h_bind h
    obtain ⟨c53, c54, h⟩ := g2 h
    have u_1 := (hq_names_ok q54)
    refine GN ⟨[], [(3, (oP u_1))]⟩ [(3, 3, oc u_1), (4, 4, oc c53), (5, 5, oc c54)] (W_ret (blockQ_ret (thenQ_ret ?_)))
    obtain rfl := sI h
    exact RetO_intro [some .str] [] [0] [(6, .st ((([91, 94] : List UInt8) ++ r88) ++ ([93] : List UInt8)))] [(0, .box [.p false (.slice (.int .u8)) i1, .i64 r86])] 1 1 (by kernel_rfl) (by kernel_rfl) (by kernel_rfl)
  refine G (W_if h (fun hb23 h => ?_) (fun hb23 h => ?_))
  · obtain ⟨⟨r91, r92⟩, q56, h⟩ := h_bind h
    refine GO 4 [0] (hrec_hq_expr_v1 q56) ?_
    obtain ⟨c57, c58, h⟩ := g2 h
    refine GN a0 [(1, 1, oc c57), (2, 2, oc c58)] (W_ret (blockQ_ret (thenQ_ret ?_)))
    obtain rfl := sI h
    exact RetO_intro [some .str] [] [0] [(6, .st ((([40] : List UInt8) ++ r91) ++ ([41, 42] : List UInt8)))] [(0, .box [.p false (.slice (.int .u8)) i1, .i64 r92])] 1 1 (by kernel_rfl) (by kernel_rfl) (by kernel_rfl)
  refine G (W_if h (fun hb24 h => ?_) (fun hb24 h => ?_))
  · obtain ⟨⟨r95, r96⟩, q58, h⟩ := h_bind h
    refine GO 4 [0] (hrec_hq_expr_v1 q58) ?_
    obtain ⟨c61, c62, h⟩ := g2 h
    refine GN a0 [(1, 1, oc c61), (2, 2, oc c62)] (W_ret (blockQ_ret (thenQ_ret ?_)))
    obtain rfl := sI h
    exact RetO_intro [some .str] [] [0] [(6, .st ((([40] : List UInt8) ++ r95) ++ ([41, 43] : List UInt8)))] [(0, .box [.p false (.slice (.int .u8)) i1, .i64 r96])] 1 1 (by kernel_rfl) (by kernel_rfl) (by kernel_rfl)
  refine G (W_if h (fun hb25 h => ?_) (fun hb25 h => ?_))
  · obtain ⟨⟨r99, r100⟩, q60, h⟩ := h_bind h
    refine GO 4 [0] (hrec_hq_expr_v1 q60) ?_
    obtain ⟨c65, c66, h⟩ := g2 h
    refine GN a0 [(1, 1, oc c65), (2, 2, oc c66)] (W_ret (blockQ_ret (thenQ_ret ?_)))
    obtain rfl := sI h
    exact RetO_intro [some .str] [] [0] [(6, .st ((([40] : List UInt8) ++ r99) ++ ([41, 63] : List UInt8)))] [(0, .box [.p false (.slice (.int .u8)) i1, .i64 r100])] 1 1 (by kernel_rfl) (by kernel_rfl) (by kernel_rfl)
  refine G (W_if h (fun hb26 h => ?_) (fun hb26 h => ?_))
  · obtain ⟨⟨r103, r104⟩, q62, h⟩ := h_bind h
    refine GO 4 [0] (hrec_hq_expr_v1 q62) ?_
    obtain ⟨⟨r107, r108⟩, q64, h⟩ := h_bind h
    refine GO 4 [0] (hrec_hq_expr_v1 q64) ?_
    obtain ⟨c71, c72, c73, c74, h⟩ := g4 h
    refine GN a0 [(1, 1, oc c71), (2, 2, oc c72), (4, 4, oc c73), (5, 5, oc c74)] (W_ret (blockQ_ret (thenQ_ret ?_)))
    obtain rfl := sI h
    exact RetO_intro [some .str] [] [0] [(6, .st ((((([40] : List UInt8) ++ r103) ++ ([124] : List UInt8)) ++ r107) ++ ([41] : List UInt8)))] [(0, .box [.p false (.slice (.int .u8)) i1, .i64 r108])] 1 1 (by kernel_rfl) (by kernel_rfl) (by kernel_rfl)
  refine G (W_if h (fun hb27 h => ?_) (fun hb27 h => ?_))
  · obtain ⟨⟨r111, r112⟩, q66, h⟩ := h_bind h
    refine GO 4 [0] (hrec_hq_expr_v1 q66) ?_
    obtain ⟨⟨r115, r116⟩, q68, h⟩ := h_bind h
    refine GO 4 [0] (hrec_hq_expr_v1 q68) ?_
    obtain ⟨c77, c78, h⟩ := g2 h
    refine GN a0 [(1, 1, oc c77), (3, 3, oc c78)] (W_ret (blockQ_ret (thenQ_ret ?_)))
    obtain rfl := sI h
    exact RetO_intro [some .str] [] [0] [(6, .st ((r111 ++ ([32] : List UInt8)) ++ r115))] [(0, .box [.p false (.slice (.int .u8)) i1, .i64 r116])] 1 1 (by kernel_rfl) (by kernel_rfl) (by kernel_rfl)
  refine W_skip_to (to_block (to_thenG ?_))
  obtain ⟨r118, q70, h⟩ := h_bind h
  refine GP 2 (hq_name_ok q70) (W_ret ?_)
  obtain rfl := sI h
  exact RetO_intro [some .str] [] [0] [(6, .st r118)] [(0, .box [.p false (.slice (.int .u8)) i1, .i64 r74])] 1 1 (by kernel_rfl) (by kernel_rfl) (by kernel_rfl)
theorem hq_expr_v1_ok : ∀ (n : Nat) {d1 : Int} {x1 : Int} {i1 : List Int} {i2 : Int} {res : (List UInt8) × Int}, hq_expr_v1 n d1 x1 i1 i2 = some res → Owns Try.prog 44 [.i64 d1, .adr 0 0 2 0, .i64 x1] [(0, .box [.p false (.slice (.int .u8)) i1, .i64 i2])] (.st res.1) [(0, .box [.p false (.slice (.int .u8)) i1, .i64 res.2])]
  | 0, _, _, _, _, _, h => by cases h
  | n + 1, d1, x1, i1, i2, res, h => hq_expr_v1_F_ok (hq_expr_v1 n) (hq_expr_v1_ok n)  h
def hq_Expr (n1 : Int) (l1 : List Int) : Option (List UInt8) :=
  (if ((l1.length : Int) == (0 : Int)) = true then some ([] : List UInt8)
  else (if 0 ≤ (0 : Int) ∧ (0 : Int) ≤ (min (l1.length : Int) (30 : Int)) ∧ (min (l1.length : Int) (30 : Int)) ≤ (l1.length : Int) then ((hq_expr_v1 1000 n1 (3 : Int) ((l1.take (min (l1.length : Int) (30 : Int)).toNat).drop (0 : Int).toNat) (0 : Int)).bind fun (r3, r4) =>
  some r3) else none))
theorem hq_Expr_ok {n1 : Int} {l1 : List Int} {res : List UInt8} (h : hq_Expr n1 l1 = some res) :
    Pure Try.prog 34 [.i64 n1, .p false (.slice (.int .u8)) l1] (wrapR (encs false [⟨.str, res⟩])) := by
  refine Pure.of_body tbok Try.func34 (by kernel_rfl) rfl (nl rfl) (fun Bw w0 => ?_) rfl
  unfold hq_Expr at h
  refine G (W_seq (G (W_if h (fun hb1 h => ?_) (fun hb1 h => ?_))))
  · refine G (W_ret (thenQ_ret ?_))
    obtain rfl := sI h
    exact Ret_intro [.str] (by kernel_rfl)
  refine W_skip_to (to_thenG ?_)
  obtain ⟨c2, h⟩ := h_guard h
  obtain ⟨⟨r3, r4⟩, q2, h⟩ := h_bind h
  have u_1 := (hq_expr_v1_ok 1000 q2)
  refine GN ⟨[], [(8, (oO u_1 [88]))]⟩ [(5, 5, oc c2), (8, 8, oc u_1)] (W_ret ?_)
  obtain rfl := sI h
  exact Ret_intro [.str] (by kernel_rfl)
def hq_Text_L1 (d4 : List Int) (r2 : Int) : ((List UInt8) × Int) → Option (((List UInt8) × Int) ⊕ (List UInt8)) := fun (v6, v7) =>
  (((if (decide (v7 < (d4.length : Int))) = true then some ((decide (v7 < r2)))
  else some (false))).bind fun v9 => (if v9 = true then (if v6.length + ([116, 114, 101, 97, 116, 32] : List UInt8).length ≤ 9223372036854775807 then ((hq_name r2 v7).bind fun r23 =>
  (if (v6 ++ ([116, 114, 101, 97, 116, 32] : List UInt8)).length + r23.length ≤ 9223372036854775807 then (if ((v6 ++ ([116, 114, 101, 97, 116, 32] : List UInt8)) ++ r23).length + ([32, 61, 32] : List UInt8).length ≤ 9223372036854775807 then (if 0 ≤ v7 ∧ v7 < (d4.length : Int) then ((hq_name r2 (IntKind.i64.wrap (d4.getD v7.toNat (0 : Int)))).bind fun r24 =>
  (if (((v6 ++ ([116, 114, 101, 97, 116, 32] : List UInt8)) ++ r23) ++ ([32, 61, 32] : List UInt8)).length + r24.length ≤ 9223372036854775807 then (if ((((v6 ++ ([116, 114, 101, 97, 116, 32] : List UInt8)) ++ r23) ++ ([32, 61, 32] : List UInt8)) ++ r24).length + ([59, 10] : List UInt8).length ≤ 9223372036854775807 then some (Sum.inl ((((((v6 ++ ([116, 114, 101, 97, 116, 32] : List UInt8)) ++ r23) ++ ([32, 61, 32] : List UInt8)) ++ r24) ++ ([59, 10] : List UInt8)), (IntKind.i64.wrap (v7 + (1 : Int))))) else none) else none)) else none) else none) else none)) else none)
  else some (Sum.inr v6)))
def hq_Text_L2 (d5 : List (Int × (List Int) × List Int)) (r2 : Int) : ((List UInt8) × Int) → Option (((List UInt8) × Int) ⊕ (List UInt8)) := fun (v14, v15) =>
  (((if (decide (v15 < (d5.length : Int))) = true then some ((decide (v15 < (10 : Int))))
  else some (false))).bind fun v17 => (if v17 = true then (if 0 ≤ v15 ∧ v15 < (d5.length : Int) then (if ¬ (3 : Int) = 0 then (if 0 ≤ (Int.tmod ((d5.getD v15.toNat ((0 : Int), (([] : List Int), ([] : List Int)))).1) (3 : Int)) ∧ (Int.tmod ((d5.getD v15.toNat ((0 : Int), (([] : List Int), ([] : List Int)))).1) (3 : Int)) < (([([107, 101, 101, 112, 32] : List UInt8), ([109, 97, 121, 32] : List UInt8), ([109, 117, 115, 116, 32] : List UInt8)] : List (List UInt8)).length : Int) then (if (Int.tmod ((d5.getD v15.toNat ((0 : Int), (([] : List Int), ([] : List Int)))).1) (3 : Int)).toNat < ([([107, 101, 101, 112, 32] : List UInt8), ([109, 97, 121, 32] : List UInt8), ([109, 117, 115, 116, 32] : List UInt8)] : List (List UInt8)).length then (if v14.length + (([([107, 101, 101, 112, 32] : List UInt8), ([109, 97, 121, 32] : List UInt8), ([109, 117, 115, 116, 32] : List UInt8)] : List (List UInt8)).getD ((Int.tmod ((d5.getD v15.toNat ((0 : Int), (([] : List Int), ([] : List Int)))).1) (3 : Int)).toNat) ([] : List UInt8)).length ≤ 9223372036854775807 then (if 0 ≤ v15 ∧ v15 < (d5.length : Int) then ((hq_Expr r2 ((d5.getD v15.toNat ((0 : Int), (([] : List Int), ([] : List Int)))).2.1)).bind fun r35 =>
  (if (v14 ++ (([([107, 101, 101, 112, 32] : List UInt8), ([109, 97, 121, 32] : List UInt8), ([109, 117, 115, 116, 32] : List UInt8)] : List (List UInt8)).getD ((Int.tmod ((d5.getD v15.toNat ((0 : Int), (([] : List Int), ([] : List Int)))).1) (3 : Int)).toNat) ([] : List UInt8))).length + r35.length ≤ 9223372036854775807 then (if ((v14 ++ (([([107, 101, 101, 112, 32] : List UInt8), ([109, 97, 121, 32] : List UInt8), ([109, 117, 115, 116, 32] : List UInt8)] : List (List UInt8)).getD ((Int.tmod ((d5.getD v15.toNat ((0 : Int), (([] : List Int), ([] : List Int)))).1) (3 : Int)).toNat) ([] : List UInt8))) ++ r35).length + ([32, 47, 32] : List UInt8).length ≤ 9223372036854775807 then (if 0 ≤ v15 ∧ v15 < (d5.length : Int) then ((hq_Expr r2 ((d5.getD v15.toNat ((0 : Int), (([] : List Int), ([] : List Int)))).2.2)).bind fun r36 =>
  (if (((v14 ++ (([([107, 101, 101, 112, 32] : List UInt8), ([109, 97, 121, 32] : List UInt8), ([109, 117, 115, 116, 32] : List UInt8)] : List (List UInt8)).getD ((Int.tmod ((d5.getD v15.toNat ((0 : Int), (([] : List Int), ([] : List Int)))).1) (3 : Int)).toNat) ([] : List UInt8))) ++ r35) ++ ([32, 47, 32] : List UInt8)).length + r36.length ≤ 9223372036854775807 then (if ((((v14 ++ (([([107, 101, 101, 112, 32] : List UInt8), ([109, 97, 121, 32] : List UInt8), ([109, 117, 115, 116, 32] : List UInt8)] : List (List UInt8)).getD ((Int.tmod ((d5.getD v15.toNat ((0 : Int), (([] : List Int), ([] : List Int)))).1) (3 : Int)).toNat) ([] : List UInt8))) ++ r35) ++ ([32, 47, 32] : List UInt8)) ++ r36).length + ([59, 10] : List UInt8).length ≤ 9223372036854775807 then some (Sum.inl ((((((v14 ++ (([([107, 101, 101, 112, 32] : List UInt8), ([109, 97, 121, 32] : List UInt8), ([109, 117, 115, 116, 32] : List UInt8)] : List (List UInt8)).getD ((Int.tmod ((d5.getD v15.toNat ((0 : Int), (([] : List Int), ([] : List Int)))).1) (3 : Int)).toNat) ([] : List UInt8))) ++ r35) ++ ([32, 47, 32] : List UInt8)) ++ r36) ++ ([59, 10] : List UInt8)), (IntKind.i64.wrap (v15 + (1 : Int))))) else none) else none)) else none) else none) else none)) else none) else none) else none) else none) else none) else none)
  else some (Sum.inr v14)))
def hq_Text (d1 d2 d3 : Int) (d4 : List Int) (d5 : List (Int × (List Int) × List Int)) : Option (List UInt8) :=
  ((hq_Plan_Count d1 d2 d3 d4 d5).bind fun r2 =>
  ((hq_names r2 (255 : Int)).bind fun r4 =>
  (if ([99, 108, 97, 115, 115] : List UInt8).length + r4.length ≤ 9223372036854775807 then (if (([99, 108, 97, 115, 115] : List UInt8) ++ r4).length + ([59, 10] : List UInt8).length ≤ 9223372036854775807 then (((if (d2 != (0 : Int)) = true then (if ((([99, 108, 97, 115, 115] : List UInt8) ++ r4) ++ ([59, 10] : List UInt8)).length + ([106, 111, 105, 110] : List UInt8).length ≤ 9223372036854775807 then ((hq_names r2 d2).bind fun r11 =>
  (if (((([99, 108, 97, 115, 115] : List UInt8) ++ r4) ++ ([59, 10] : List UInt8)) ++ ([106, 111, 105, 110] : List UInt8)).length + r11.length ≤ 9223372036854775807 then (if ((((([99, 108, 97, 115, 115] : List UInt8) ++ r4) ++ ([59, 10] : List UInt8)) ++ ([106, 111, 105, 110] : List UInt8)) ++ r11).length + ([32, 47] : List UInt8).length ≤ 9223372036854775807 then ((hq_names r2 d3).bind fun r12 =>
  (if (((((([99, 108, 97, 115, 115] : List UInt8) ++ r4) ++ ([59, 10] : List UInt8)) ++ ([106, 111, 105, 110] : List UInt8)) ++ r11) ++ ([32, 47] : List UInt8)).length + r12.length ≤ 9223372036854775807 then (if ((((((([99, 108, 97, 115, 115] : List UInt8) ++ r4) ++ ([59, 10] : List UInt8)) ++ ([106, 111, 105, 110] : List UInt8)) ++ r11) ++ ([32, 47] : List UInt8)) ++ r12).length + ([59, 10] : List UInt8).length ≤ 9223372036854775807 then some ((((((((([99, 108, 97, 115, 115] : List UInt8) ++ r4) ++ ([59, 10] : List UInt8)) ++ ([106, 111, 105, 110] : List UInt8)) ++ r11) ++ ([32, 47] : List UInt8)) ++ r12) ++ ([59, 10] : List UInt8))) else none) else none)) else none) else none)) else none)
  else some (((([99, 108, 97, 115, 115] : List UInt8) ++ r4) ++ ([59, 10] : List UInt8))))).bind fun v1 => ((iter (hq_Text_L1 d4 r2) (v1, (0 : Int))).bind fun v8 => ((iter (hq_Text_L2 d5 r2) (v8, (0 : Int))).bind fun v16 => some v16))) else none) else none)))
theorem hq_Text_ok (β3 : Bool) {d1 : Int} {d2 : Int} {d3 : Int} {d4 : List Int} {d5 : List (Int × (List Int) × List Int)} {res : List UInt8} (h : hq_Text d1 d2 d3 d4 d5 = some res) :
    Pure Try.prog 25 [.agg [.u8 d1, .u8 d2, .u8 d3, .p β3 (.slice (.int .u8)) d4, .p false (.slice (.prod (.int .u8) Y5)) d5]] (wrapR (encs false [⟨.str, res⟩])) := by
  refine Pure.of_body tbok Try.func25 (by kernel_rfl) rfl (nl rfl) (fun Bw w0 => ?_) rfl
  unfold hq_Text at h
  refine G ?_
  obtain ⟨r2, q2, h⟩ := h_bind h
  refine GP 1 (hq_Plan_Count_ok β3 false q2) ?_
  obtain ⟨r4, q4, h⟩ := h_bind h
  obtain ⟨c3, c4, h⟩ := g2 h
  have u_1 := (hq_names_ok q4)
  refine GN ⟨[], [(1, (oP u_1))]⟩ [(1, 1, oc u_1), (2, 2, oc c3), (3, 3, oc c4)] (W_seq (G (W_pn h (fun v1 => mkSt [(1, .adr 0 0 5 0), (3, .i64 r2), (4, .st v1)] (ob38 d1 d2 d3 β3 d4 d5) 1) (fun v1 h => ?_) (fun v1 h => ?_))))
  · refine W_if h (fun hb2 h => ?_) (fun hb2 h => ?_)
    · obtain ⟨c20, h⟩ := h_guard h
      obtain ⟨r11, q11, h⟩ := h_bind h
      obtain ⟨c21, c22, h⟩ := g2 h
      obtain ⟨r12, q12, h⟩ := h_bind h
      obtain ⟨c23, c24, h⟩ := g2 h
      have u_1 := (hq_names_ok q11)
      have u_2 := (hq_names_ok q12)
      refine GDe ⟨[], [(5, (oP u_1)), (11, (oP u_2))]⟩ [(1, 1, oc c20), (5, 5, oc u_1), (6, 6, oc c21), (7, 7, oc c22), (11, 11, oc u_2), (12, 12, oc c23), (13, 13, oc c24)] ?_
      exact eN h (gg [] [0])
    refine W_skip_to ?_
    exact eN h (gg [] [0])
  refine to_thenG (W_seq (G (W_block (W_lx h (fun (v6, v7) => mkSt [(1, .adr 0 0 5 0), (3, .i64 r2), (4, .st v6), (5, .i64 v7)] (ob38 d1 d2 d3 β3 d4 d5) 1) 0 (fun v8 => mkSt [(1, .adr 0 0 5 0), (3, .i64 r2), (4, .st v8)] (ob38 d1 d2 d3 β3 d4 d5) 1) (gg [] [0]) (fun y o h => ?_) (fun v8 h => ?_)))))
  · obtain ⟨v6, v7⟩ := y
    unfold hq_Text_L1 at h
    refine W_seq (W_seq (W_pn h (fun v9 => mkSt [(1, .adr 0 0 5 0), (3, .i64 r2), (4, .st v6), (5, .i64 v7), (40, .bo v9)] (ob38 d1 d2 d3 β3 d4 d5) 1) (fun v9 h => ?_) (fun v9 h => ?_)))
    · rcases h_ite h with ⟨hb13, h⟩ | ⟨hb13, h⟩
      · refine GNe ⟨[(5, true), (9, true)], []⟩ [(6, 8, an hb13), (9, 9, oc hb13)] ?_
        exact eN h (gg [] [0])
      refine GNe ⟨[(5, false), (9, false)], []⟩ [(6, 9, oc hb13)] ?_
      exact eN h (gg [] [0])
    refine to_thenG (W_if h (fun hb14 h => ?_) (fun hb14 h => ?_))
    · refine W_skip_to (to_thenG (W_seq (W_block ?_)))
      obtain ⟨c55, h⟩ := h_guard h
      obtain ⟨r23, q23, h⟩ := h_bind h
      obtain ⟨c56, c57, c58, h⟩ := g3 h
      obtain ⟨r24, q24, h⟩ := h_bind h
      obtain ⟨c59, c60, h⟩ := g2 h
      have u_1 := (hq_name_ok q23)
      have u_2 := (hq_name_ok q24)
      refine GDe ⟨[], [(4, (oP u_1)), (14, (oP u_2))]⟩ [(1, 1, oc c55), (4, 4, oc u_1), (5, 5, oc c56), (6, 6, oc c57), (11, 11, oc c58), (14, 14, oc u_2), (15, 15, oc c59), (16, 16, oc c60)] (to_block (to_thenG (Ge ?_)))
      exact eB h (gg [] [0])
    refine W_exit_to (thenE ?_)
    exact eX h (gg [] [0])
  refine blockE_eq (to_thenG (G (W_seq (G (W_block (W_lx h (fun (v14, v15) => mkSt [(1, .adr 0 0 5 0), (3, .i64 r2), (4, .st v14), (6, .sl 1), (7, .i64 v15)] (ob39 d1 d2 d3 β3 d4 d5 ([([107, 101, 101, 112, 32] : List UInt8), ([109, 97, 121, 32] : List UInt8), ([109, 117, 115, 116, 32] : List UInt8)] : List (List UInt8))) 2) 2 (fun v16 => mkSt [(4, .st v16)] [] 0) (gg [] [0, 1]) (fun y o h => ?_) (fun v16 h => ?_)))))))
  · obtain ⟨v14, v15⟩ := y
    unfold hq_Text_L2 at h
    refine W_seq (W_seq (W_pn h (fun v17 => mkSt [(1, .adr 0 0 5 0), (3, .i64 r2), (4, .st v14), (6, .sl 1), (7, .i64 v15), (69, .bo v17)] (ob39 d1 d2 d3 β3 d4 d5 ([([107, 101, 101, 112, 32] : List UInt8), ([109, 97, 121, 32] : List UInt8), ([109, 117, 115, 116, 32] : List UInt8)] : List (List UInt8))) 2) (fun v17 h => ?_) (fun v17 h => ?_)))
    · rcases h_ite h with ⟨hb25, h⟩ | ⟨hb25, h⟩
      · refine GNe ⟨[(5, true), (8, true)], []⟩ [(6, 7, an hb25), (8, 8, oc hb25)] ?_
        exact eN h (gg [] [0, 1])
      refine GNe ⟨[(5, false), (8, false)], []⟩ [(6, 8, oc hb25)] ?_
      exact eN h (gg [] [0, 1])
    refine to_thenG (W_if h (fun hb26 h => ?_) (fun hb26 h => ?_))
    · refine W_skip_to (to_thenG (W_seq (W_block ?_)))
      obtain ⟨c116, c117, c118, c119, h⟩ := g4 h
      obtain ⟨c120, c121, h⟩ := g2 h
      obtain ⟨r35, q35, h⟩ := h_bind h
      obtain ⟨c122, c123, c124, h⟩ := g3 h
      obtain ⟨r36, q36, h⟩ := h_bind h
      obtain ⟨c125, c126, h⟩ := g2 h
      have u_1 := (hq_Expr_ok q35)
      have u_2 := (hq_Expr_ok q36)
      refine GDe ⟨[], [(19, (oP u_1)), (29, (oP u_2))]⟩ [(5, 5, oc c116), (8, 8, oc c117), (9, 9, oc c118), (10, 10, oc c119), (11, 11, oc c120), (16, 16, oc c121), (19, 19, oc u_1), (20, 20, oc c122), (21, 21, oc c123), (26, 26, oc c124), (29, 29, oc u_2), (30, 30, oc c125), (31, 31, oc c126)] (to_block (to_thenG (Ge ?_)))
      exact eB h (gg [] [0, 1])
    refine W_exit_to (thenE ?_)
    exact eX h (gg [] [])
  refine blockE_eq (to_thenG (G (W_ret ?_)))
  obtain rfl := sI h
  exact Ret_intro [.str] (by kernel_rfl)
def pq_fail (e1 at1 : Int) (p1 : List UInt8) (p2 p3 p4 p5 p6 : Int) (o1 : List ((List UInt8) × Int)) : Option ((Unit) ⊕ (Int × Int)) := some (Sum.inr (e1, at1))
theorem pq_fail_calls (v : Value) (e a : Int) (w : World) :
    Calls Try.prog 29 #[v, .int .i64 e, .int .i64 a] w fun r w' => r = .panicked [{ v := faultV 75 .i64 .i64 (e, a), recovered := false }] ∧ w' = w := by
  go_enter Try.func29, Try.ntmps29
  go_wp2
  exact ⟨rfl, rfl, rfl⟩
theorem pq_fail_ok {e1 : Int} {at1 : Int} {p1 : List UInt8} {p2 : Int} {p3 : Int} {p4 : Int} {p5 : Int} {p6 : Int} {o1 : List ((List UInt8) × Int)} {res : (Unit) ⊕ (Int × Int)} (h : pq_fail e1 at1 p1 p2 p3 p4 p5 p6 o1 = some res) :
    Does Try.prog 29 [.adr 0 0 10 0, .i64 e1, .i64 at1] (ob41 p1 p2 p3 p4 p5 p6 o1) (outT (fun (q : Unit) => (.tup [], [])) (faultV 75 .i64 .i64) res) := by
  obtain rfl := sI h
  exact Dies.of_calls Try.func29 (by kernel_rfl) rfl (fun v w => pq_fail_calls v _ _ w)
def stringslite_IndexByte (s1 : List UInt8) (c1 : Int) : Option (Int) := some (idxB s1 c1 0)
theorem stringslite_IndexByte_calls (s : ByteArray) (c : Int) (w : World) :
    Calls Try.prog 57 #[.string s, .int .u8 c] w fun e w' => e = .returned (.int .i64 (Lib.indexByte s.data.toList c.toNat.toUInt8)) ∧ w' = w := by
  have hd : ∀ w, (callFunc 59 #[.string s, .int .u8 c]).run Try.prog w = .ok (.value (.int .i64 (Lib.indexByte s.data.toList c.toNat.toUInt8))) w := fun w => by
    rw [run_callFunc_extern (fn := Try.f59) (e := Extern.BytealgIndexByte.indexByte) Try.func59 (by kernel_rfl) rfl (by kernel_rfl) (by kernel_rfl), Lib.run_indexByteString]
    rfl
  go_enter Try.func57, Try.ntmps57
  go_wp2
  go_ret
  exact ⟨rfl, rfl⟩
theorem stringslite_IndexByte_ok {s1 : List UInt8} {c1 : Int} {res : Int} (h : stringslite_IndexByte s1 c1 = some res) :
    Pure Try.prog 57 [.st s1, .u8 c1] (wrapR (encs false [⟨(.int .i64), res⟩])) := by
  obtain rfl := sI h
  exact Pure.of_idx Try.func57 (by kernel_rfl) rfl (fun s w => stringslite_IndexByte_calls s _ w)
def strings_IndexByte (s1 : List UInt8) (c1 : Int) : Option (Int) :=
  ((stringslite_IndexByte s1 c1).bind fun r2 =>
  some r2)
theorem strings_IndexByte_ok {s1 : List UInt8} {c1 : Int} {res : Int} (h : strings_IndexByte s1 c1 = some res) :
    Pure Try.prog 50 [.st s1, .u8 c1] (wrapR (encs false [⟨(.int .i64), res⟩])) := by
  refine Pure.of_body tbok Try.func50 (by kernel_rfl) rfl (nl rfl) (fun Bw w0 => ?_) rfl
  unfold strings_IndexByte at h
  refine G ?_
  obtain ⟨r2, q2, h⟩ := h_bind h
  refine GP 2 (stringslite_IndexByte_ok q2) (W_ret ?_)
  obtain rfl := sI h
  exact Ret_intro [(.int .i64)] (by kernel_rfl)
def rules_blank (c1 : Int) : Option (Bool) :=
  (((if (c1 == (32 : Int)) = true then some (true)
  else (if (c1 == (9 : Int)) = true then some (true)
  else (if (c1 == (10 : Int)) = true then some (true)
  else some ((c1 == (13 : Int))))))).bind fun v1 => some v1)
theorem rules_blank_ok {c1 : Int} {res : Bool} (h : rules_blank c1 = some res) :
    Pure Try.prog 51 [.u8 c1] (wrapR (encs false [⟨.bool, res⟩])) := by
  refine Pure.of_body tbok Try.func51 (by kernel_rfl) rfl (nl rfl) (fun Bw w0 => ?_) rfl
  unfold rules_blank at h
  refine G (W_seq (W_pn h (fun v1 => mkSt [(2, .bo v1)] [] 0) (fun v1 h => ?_) (fun v1 h => ?_)))
  · rcases h_ite h with ⟨hb7, h⟩ | ⟨hb7, h⟩
    · refine GNe ⟨[(2, true), (5, true)], []⟩ [(3, 5, oc hb7)] ?_
      exact eN h (gg [] [])
    rcases h_ite h with ⟨hb8, h⟩ | ⟨hb8, h⟩
    · refine GNe ⟨[(2, false), (5, false), (6, true), (9, true)], []⟩ [(3, 4, an hb7), (5, 5, oc hb7), (7, 9, oc hb8)] ?_
      exact eN h (gg [] [])
    rcases h_ite h with ⟨hb9, h⟩ | ⟨hb9, h⟩
    · refine GNe ⟨[(2, false), (5, false), (6, false), (9, false), (10, true), (13, true)], []⟩ [(3, 4, an hb7), (5, 5, oc hb7), (7, 8, an hb8), (9, 9, oc hb8), (11, 13, oc hb9)] ?_
      exact eN h (gg [] [])
    refine GNe ⟨[(2, false), (5, false), (6, false), (9, false), (10, false), (13, false)], []⟩ [(3, 4, an hb7), (5, 5, oc hb7), (7, 8, an hb8), (9, 9, oc hb8), (11, 12, an hb9), (13, 13, oc hb9)] ?_
    exact eN h (gg [] [])
  refine to_thenG (W_ret ?_)
  obtain rfl := sI h
  exact Ret_intro [.bool] (by kernel_rfl)
def rules_letter (c1 : Int) : Option (Bool) :=
  (((if (c1 == (95 : Int)) = true then some (true)
  else (if (decide (c1 ≥ (97 : Int))) = true then (if (decide (c1 ≤ (122 : Int))) = true then some (true)
  else (if (decide (c1 ≥ (65 : Int))) = true then (if (decide (c1 ≤ (90 : Int))) = true then some (true)
  else (if (decide (c1 ≥ (48 : Int))) = true then some ((decide (c1 ≤ (57 : Int))))
  else some (false)))
  else (if (decide (c1 ≥ (48 : Int))) = true then some ((decide (c1 ≤ (57 : Int))))
  else some (false))))
  else (if (decide (c1 ≥ (65 : Int))) = true then (if (decide (c1 ≤ (90 : Int))) = true then some (true)
  else (if (decide (c1 ≥ (48 : Int))) = true then some ((decide (c1 ≤ (57 : Int))))
  else some (false)))
  else (if (decide (c1 ≥ (48 : Int))) = true then some ((decide (c1 ≤ (57 : Int))))
  else some (false)))))).bind fun v1 => some v1)
theorem rules_letter_ok {c1 : Int} {res : Bool} (h : rules_letter c1 = some res) :
    Pure Try.prog 52 [.u8 c1] (wrapR (encs false [⟨.bool, res⟩])) := by
  refine Pure.of_body tbok Try.func52 (by kernel_rfl) rfl (nl rfl) (fun Bw w0 => ?_) rfl
  unfold rules_letter at h
  refine G (W_seq (W_pn h (fun v1 => mkSt [(2, .bo v1)] [] 0) (fun v1 h => ?_) (fun v1 h => ?_)))
  · rcases h_ite h with ⟨hb23, h⟩ | ⟨hb23, h⟩
    · refine GNe ⟨[(2, true), (9, true)], []⟩ [(3, 5, oc hb23), (8, 9, oc hb23)] ?_
      exact eN h (gg [] [])
    rcases h_ite h with ⟨hb24, h⟩ | ⟨hb24, h⟩
    · rcases h_ite h with ⟨hb25, h⟩ | ⟨hb25, h⟩
      · refine GNe ⟨[(2, false), (5, true), (8, true), (9, false), (10, true), (17, true)], []⟩ [(3, 5, an hb23), (6, 7, an hb24), (8, 8, oc (And.intro hb23 hb24)), (9, 9, oc hb23), (11, 13, oc hb25), (16, 17, oc hb25)] ?_
        exact eN h (gg [] [])
      rcases h_ite h with ⟨hb26, h⟩ | ⟨hb26, h⟩
      · rcases h_ite h with ⟨hb27, h⟩ | ⟨hb27, h⟩
        · refine GNe ⟨[(2, false), (5, true), (8, true), (9, false), (10, false), (13, true), (16, true), (17, false), (18, true), (25, true)], []⟩ [(3, 5, an hb23), (6, 7, an hb24), (8, 8, oc (And.intro hb23 hb24)), (9, 9, oc hb23), (11, 13, an hb25), (14, 15, an hb26), (16, 16, oc (And.intro hb25 hb26)), (17, 17, oc hb25), (19, 21, oc hb27), (24, 25, oc hb27)] ?_
          exact eN h (gg [] [])
        rcases h_ite h with ⟨hb28, h⟩ | ⟨hb28, h⟩
        · refine GNe ⟨[(2, false), (5, true), (8, true), (9, false), (10, false), (13, true), (16, true), (17, false), (18, false), (21, true), (24, true), (25, false)], []⟩ [(3, 5, an hb23), (6, 7, an hb24), (8, 8, oc (And.intro hb23 hb24)), (9, 9, oc hb23), (11, 13, an hb25), (14, 15, an hb26), (16, 16, oc (And.intro hb25 hb26)), (17, 17, oc hb25), (19, 21, an hb27), (22, 23, an hb28), (24, 24, oc (And.intro hb27 hb28)), (25, 25, oc hb27)] ?_
          exact eN h (gg [] [])
        refine GNe ⟨[(2, false), (5, true), (8, true), (9, false), (10, false), (13, true), (16, true), (17, false), (18, false), (21, false), (24, false), (25, false)], []⟩ [(3, 5, an hb23), (6, 7, an hb24), (8, 8, oc (And.intro hb23 hb24)), (9, 9, oc hb23), (11, 13, an hb25), (14, 15, an hb26), (16, 16, oc (And.intro hb25 hb26)), (17, 17, oc hb25), (19, 21, an hb27), (22, 23, oc hb28), (24, 24, oc (And.intro hb27 hb28)), (25, 25, oc hb27)] ?_
        exact eN h (gg [] [])
      rcases h_ite h with ⟨hb29, h⟩ | ⟨hb29, h⟩
      · refine GNe ⟨[(2, false), (5, true), (8, true), (9, false), (10, false), (13, false), (16, false), (17, false), (21, true), (24, true)], []⟩ [(3, 5, an hb23), (6, 7, an hb24), (8, 8, oc (And.intro hb23 hb24)), (9, 9, oc hb23), (11, 13, an hb25), (14, 15, oc hb26), (16, 16, oc (And.intro hb25 hb26)), (17, 17, oc hb25), (22, 23, an hb29), (24, 24, oc hb29)] ?_
        exact eN h (gg [] [])
      refine GNe ⟨[(2, false), (5, true), (8, true), (9, false), (10, false), (13, false), (16, false), (17, false), (21, false), (24, false)], []⟩ [(3, 5, an hb23), (6, 7, an hb24), (8, 8, oc (And.intro hb23 hb24)), (9, 9, oc hb23), (11, 13, an hb25), (14, 15, oc hb26), (16, 16, oc (And.intro hb25 hb26)), (17, 17, oc hb25), (22, 24, oc hb29)] ?_
      exact eN h (gg [] [])
    rcases h_ite h with ⟨hb30, h⟩ | ⟨hb30, h⟩
    · rcases h_ite h with ⟨hb31, h⟩ | ⟨hb31, h⟩
      · refine GNe ⟨[(2, false), (5, false), (8, false), (9, false), (13, true), (16, true), (18, true), (25, true)], []⟩ [(3, 5, an hb23), (6, 7, oc hb24), (8, 8, oc (And.intro hb23 hb24)), (9, 9, oc hb23), (14, 15, an hb30), (16, 16, oc hb30), (19, 21, oc hb31), (24, 25, oc hb31)] ?_
        exact eN h (gg [] [])
      rcases h_ite h with ⟨hb32, h⟩ | ⟨hb32, h⟩
      · refine GNe ⟨[(2, false), (5, false), (8, false), (9, false), (13, true), (16, true), (18, false), (21, true), (24, true), (25, false)], []⟩ [(3, 5, an hb23), (6, 7, oc hb24), (8, 8, oc (And.intro hb23 hb24)), (9, 9, oc hb23), (14, 15, an hb30), (16, 16, oc hb30), (19, 21, an hb31), (22, 23, an hb32), (24, 24, oc (And.intro hb31 hb32)), (25, 25, oc hb31)] ?_
        exact eN h (gg [] [])
      refine GNe ⟨[(2, false), (5, false), (8, false), (9, false), (13, true), (16, true), (18, false), (21, false), (24, false), (25, false)], []⟩ [(3, 5, an hb23), (6, 7, oc hb24), (8, 8, oc (And.intro hb23 hb24)), (9, 9, oc hb23), (14, 15, an hb30), (16, 16, oc hb30), (19, 21, an hb31), (22, 23, oc hb32), (24, 24, oc (And.intro hb31 hb32)), (25, 25, oc hb31)] ?_
      exact eN h (gg [] [])
    rcases h_ite h with ⟨hb33, h⟩ | ⟨hb33, h⟩
    · refine GNe ⟨[(2, false), (5, false), (8, false), (9, false), (13, false), (16, false), (21, true), (24, true)], []⟩ [(3, 5, an hb23), (6, 7, oc hb24), (8, 8, oc (And.intro hb23 hb24)), (9, 9, oc hb23), (14, 16, oc hb30), (22, 23, an hb33), (24, 24, oc hb33)] ?_
      exact eN h (gg [] [])
    refine GNe ⟨[(2, false), (5, false), (8, false), (9, false), (13, false), (16, false), (21, false), (24, false)], []⟩ [(3, 5, an hb23), (6, 7, oc hb24), (8, 8, oc (And.intro hb23 hb24)), (9, 9, oc hb23), (14, 16, oc hb30), (22, 24, oc hb33)] ?_
    exact eN h (gg [] [])
  refine to_thenG (W_ret ?_)
  obtain rfl := sI h
  exact Ret_intro [.bool] (by kernel_rfl)
def slices_Index_string_string_L1 (s1 : List (List UInt8)) (v1 : List UInt8) : (Int) → Option ((Int) ⊕ ((Unit) ⊕ (Int))) := fun v3 =>
  (if (decide (v3 < (s1.length : Int))) = true then (if 0 ≤ v3 ∧ v3 < (s1.length : Int) then (if (v1 == (s1.getD v3.toNat ([] : List UInt8))) = true then some (Sum.inr (Sum.inr v3))
  else some (Sum.inl (IntKind.i64.wrap (v3 + (1 : Int))))) else none)
  else some (Sum.inr (Sum.inl ())))
def slices_Index_string_string (s1 : List (List UInt8)) (v1 : List UInt8) : Option (Int) :=
  ((iter (slices_Index_string_string_L1 s1 v1) (0 : Int)).bind fun (r2 : ((Unit) ⊕ (Int))) => match r2 with
  | .inl _ => some (-1 : Int)
  | .inr (r1) => some r1)
theorem slices_Index_string_string_ok (β0 : Bool) {s1 : List (List UInt8)} {v1 : List UInt8} {res : Int} (h : slices_Index_string_string s1 v1 = some res) :
    Pure Try.prog 56 [.p β0 (.slice .str) s1, .st v1] (wrapR (encs false [⟨(.int .i64), res⟩])) := by
  refine Pure.of_body tbok Try.func56 (by kernel_rfl) rfl (nl rfl) (fun Bw w0 => ?_) rfl
  unfold slices_Index_string_string at h
  refine G (W_seq (G (W_block (W_lp h (fun v3 => mkSt [(0, .p β0 (.slice .str) s1), (1, .st v1), (7, .i64 (s1.length : Int)), (8, .i64 v3)] [] 0) (postS (postX Try.f56.ntmps 0 (fun _ => mkSt [] [] 0)) (postR tb Try.f56.results.toList (fun r1 => [⟨(.int .i64), r1⟩]))) (gg [] []) (fun v3 o h => ?_) (fun r2 h e σ' hq => ?_)))))
  · unfold slices_Index_string_string_L1 at h
    refine G (W_seq (W_if h (fun hb5 h => ?_) (fun hb5 h => ?_)))
    · refine W_skip_to (to_thenG (W_seq (W_block (G (GC 3 h (fun h => W_if h (fun hb6 h => ?_) (fun hb6 h => ?_)))))))
      · refine G (W_ret ?_)
        obtain rfl := sI h
        refine blockQ_ret (thenQ_ret (round_ret (postS_rr ?_)))
        exact postR_mk (Ret_intro [(.int .i64)] (by kernel_rfl))
      refine W_skip_to (to_block (to_thenG (Ge ?_)))
      exact eB h (gg [] [])
    refine W_exit_to (thenE ?_)
    obtain rfl := sI h
    refine roundE (postS_l ?_)
    exact postX_to (gg [] [])
  rcases r2 with _ | r1
  · obtain ⟨rfl, hle⟩ := hq
    refine use_to ?_ hle
    refine blockE_eq (to_thenG (G (W_ret ?_)))
    obtain rfl := sI h
    exact Ret_intro [(.int .i64)] (by kernel_rfl)
  obtain ⟨rfl, hr⟩ := hq
  refine blockQ_ret (thenQ_ret ?_)
  obtain rfl := sI h
  exact hr
def pq_fail_v2 (e1 at1 : Int) (p1 : List UInt8) (p2 p3 p4 p5 p6 : Int) (o1 : List (List UInt8)) (o2 : List Int) (o3 : List (Int × Tree × Tree)) (o4 : List ((List UInt8) × Int)) : Option ((Unit) ⊕ (Int × Int)) := some (Sum.inr (e1, at1))
theorem pq_fail_v2_calls (v : Value) (e a : Int) (w : World) :
    Calls Try.prog 29 #[v, .int .i64 e, .int .i64 a] w fun r w' => r = .panicked [{ v := faultV 75 .i64 .i64 (e, a), recovered := false }] ∧ w' = w := by
  go_enter Try.func29, Try.ntmps29
  go_wp2
  exact ⟨rfl, rfl, rfl⟩
theorem pq_fail_v2_ok {e1 : Int} {at1 : Int} {p1 : List UInt8} {p2 : Int} {p3 : Int} {p4 : Int} {p5 : Int} {p6 : Int} {o1 : List (List UInt8)} {o2 : List Int} {o3 : List (Int × Tree × Tree)} {o4 : List ((List UInt8) × Int)} {res : (Unit) ⊕ (Int × Int)} (h : pq_fail_v2 e1 at1 p1 p2 p3 p4 p5 p6 o1 o2 o3 o4 = some res) :
    Does Try.prog 29 [.adr 0 0 10 0, .i64 e1, .i64 at1] (ob52 p1 p2 p3 p4 p5 p6 o1 o2 o3 o4) (outT (fun (q : Unit) => (.tup [], [])) (faultV 75 .i64 .i64) res) := by
  obtain rfl := sI h
  exact Dies.of_calls Try.func29 (by kernel_rfl) rfl (fun v w => pq_fail_v2_calls v _ _ w)
def pq_here_v2_L1 (d1 : List UInt8) (d3 d4 d5 d6 : Int) (o1 : List (List UInt8)) (o2 : List Int) (o3 : List (Int × Tree × Tree)) (o4 : List ((List UInt8) × Int)) : (Int) → Option ((Int) ⊕ ((Int) ⊕ ((Int × Int) ⊕ (Int × Int)))) := fun d10 =>
  (if (decide (d10 < (d1.length : Int))) = true then (if 0 ≤ d10 ∧ d10 < (d1.length : Int) then (if (((d1.getD d10.toNat 0).toNat : Int) == (35 : Int)) = true then (if 0 ≤ d10 ∧ d10 ≤ (d1.length : Int) ∧ (d1.length : Int) ≤ (d1.length : Int) then ((strings_IndexByte ((d1.take (d1.length : Int).toNat).drop d10.toNat) (10 : Int)).bind fun r56 =>
  (((if (decide (r56 < (0 : Int))) = true then some ((IntKind.i64.wrap ((d1.length : Int) - d10)))
  else some (r56))).bind fun v14 => some (Sum.inl (IntKind.i64.wrap (d10 + v14))))) else none)
  else ((rules_blank ((d1.getD d10.toNat 0).toNat : Int)).bind fun r58 =>
  (if r58 = true then some (Sum.inl (IntKind.i64.wrap (d10 + (1 : Int))))
  else ((((rules_letter ((d1.getD d10.toNat 0).toNat : Int)).bind fun r63 =>
  (if (!r63) = true then ((strings_IndexByte ([40, 41, 91, 93, 94, 124, 42, 43, 63, 46, 59, 47, 61] : List UInt8) ((d1.getD d10.toNat 0).toNat : Int)).bind fun r64 =>
  some ((decide (r64 < (0 : Int)))))
  else some (false)))).bind fun v15 => (if v15 = true then ((pq_fail_v2 (20 : Int) d10 d1 d10 d3 d4 d5 d6 o1 o2 o3 o4).bind fun (z12 : (Unit) ⊕ (Int × Int)) => match z12 with
  | .inr (e27, e28) => some (Sum.inr (Sum.inr (Sum.inl (e27, e28))))
  | .inl _ => none)
  else some (Sum.inr (Sum.inr (Sum.inr (((d1.getD d10.toNat 0).toNat : Int), d10))))))))) else none)
  else some (Sum.inr (Sum.inl d10)))
def pq_here_v2 (d1 : List UInt8) (d2 d3 d4 d5 d6 : Int) (o1 : List (List UInt8)) (o2 : List Int) (o3 : List (Int × Tree × Tree)) (o4 : List ((List UInt8) × Int)) : Option ((Int × Int) ⊕ (Int × Int)) :=
  ((iter (pq_here_v2_L1 d1 d3 d4 d5 d6 o1 o2 o3 o4) d2).bind fun (r65 : ((Int) ⊕ ((Int × Int) ⊕ (Int × Int)))) => match r65 with
  | .inl v13 => some (Sum.inl ((0 : Int), v13))
  | .inr (.inl (e23, e24)) => some (Sum.inr (e23, e24))
  | .inr (.inr ((r53, r54))) => some (Sum.inl (r53, r54)))
theorem pq_here_v2_ok {d1 : List UInt8} {d2 : Int} {d3 : Int} {d4 : Int} {d5 : Int} {d6 : Int} {o1 : List (List UInt8)} {o2 : List Int} {o3 : List (Int × Tree × Tree)} {o4 : List ((List UInt8) × Int)} {res : (Int × Int) ⊕ (Int × Int)} (h : pq_here_v2 d1 d2 d3 d4 d5 d6 o1 o2 o3 o4 = some res) :
    Does Try.prog 41 [.adr 0 0 10 0] (ob52 d1 d2 d3 d4 d5 d6 o1 o2 o3 o4) (outT (fun (q : Int × Int) => (.u8 q.1, (ob52 d1 q.2 d3 d4 d5 d6 o1 o2 o3 o4))) (faultV 75 .i64 .i64) res) := by
  refine Does.of_body tbok Try.func41 (by kernel_rfl) rfl (nl rfl) (fun Bw w0 => ?_)
  unfold pq_here_v2 at h
  refine G (W_seq (W_block (W_lp h (fun d10 => mkSt [(0, .adr 0 0 10 0)] (ob52 d1 d10 d3 d4 d5 d6 o1 o2 o3 o4) 5 5) (postS (postX Try.f41.ntmps 0 (fun v13 => mkSt [] (ob52 d1 v13 d3 d4 d5 d6 o1 o2 o3 o4) 5 5)) (postS (postP (faultV 75 .i64 .i64)) (postRO tb Try.f41.ntmps Try.f41.results.toList (fun (r53, r54) => (.u8 r53, (ob52 d1 r54 d3 d4 d5 d6 o1 o2 o3 o4)))))) (gg [] [0, 1, 2, 3, 4]) (fun d10 o h => ?_) (fun r65 h e σ' hq => ?_))))
  · unfold pq_here_v2_L1 at h
    refine W_seq (GD a0 [] (W_if h (fun hb46 h => ?_) (fun hb46 h => ?_)))
    · refine W_skip_to (to_thenG (W_block ?_))
      obtain ⟨c22, h⟩ := h_guard h
      refine GD a0 [(8, 8, oc c22)] (G (W_if h (fun hb47 h => ?_) (fun hb47 h => ?_)))
      · obtain ⟨c24, h⟩ := h_guard h
        obtain ⟨r56, q62, h⟩ := h_bind h
        have u_1 := (strings_IndexByte_ok q62)
        refine GD ⟨[], [(9, (oP u_1))]⟩ [(8, 8, oc c24), (9, 9, oc u_1)] (W_seq (G (W_pn h (fun v14 => mkSt [(0, .adr 0 0 10 0), (4, .i64 v14)] (ob52 d1 d10 d3 d4 d5 d6 o1 o2 o3 o4) 5 5) (fun v14 h => ?_) (fun v14 h => ?_))))
        · refine W_if h (fun hb49 h => ?_) (fun hb49 h => ?_)
          · refine GDe a0 [] ?_
            exact eN h (gg [] [0, 1, 2, 3, 4])
          refine W_skip_to ?_
          exact eN h (gg [] [0, 1, 2, 3, 4])
        refine to_thenG (Ge (to_block ?_))
        exact eB h (gg [] [0, 1, 2, 3, 4])
      obtain ⟨r58, q64, h⟩ := h_bind h
      refine GP 1 (rules_blank_ok q64) (W_if h (fun hb50 h => ?_) (fun hb50 h => ?_))
      · refine Ge (to_block ?_)
        exact eB h (gg [] [0, 1, 2, 3, 4])
      refine W_seq (W_seq (W_pn h (fun v15 => mkSt [(0, .adr 0 0 10 0), (3, .u8 ((d1.getD d10.toNat 0).toNat : Int)), (72, .bo v15)] (ob52 d1 d10 d3 d4 d5 d6 o1 o2 o3 o4) 5 5) (fun v15 h => ?_) (fun v15 h => ?_)))
      · obtain ⟨r63, q69, h⟩ := h_bind h
        rcases h_ite h with ⟨hb53, h⟩ | ⟨hb53, h⟩
        · obtain ⟨r64, q70, h⟩ := h_bind h
          have u_1 := (rules_letter_ok q69)
          have u_2 := (strings_IndexByte_ok q70)
          refine GNe ⟨[(3, true), (7, true)], [(1, (oP u_1)), (5, (oP u_2))]⟩ [(1, 1, oc u_1), (4, 4, an hb53), (5, 5, oc (And.intro hb53 u_2)), (6, 6, an hb53), (7, 7, oc hb53)] ?_
          exact eN h (gg [] [0, 1, 2, 3, 4])
        have u_1 := (rules_letter_ok q69)
        refine GNe ⟨[(3, false), (7, false)], [(1, (oP u_1))]⟩ [(1, 1, oc u_1), (4, 7, oc hb53)] ?_
        exact eN h (gg [] [0, 1, 2, 3, 4])
      refine to_thenG (W_if h (fun hb54 h => ?_) (fun hb54 h => ?_))
      · obtain ⟨z12, q72, h⟩ := h_bind h
        rcases z12 with _ | ⟨e27, e28⟩
        · cases h
        refine GX 5 [0, 1, 2, 3, 4] (pq_fail_v2_ok q72) (fun _ => ?_)
        obtain rfl := sI h
        refine thenQ_pan (blockQ_pan (round_pan (postS_rr (postS_lr ?_))))
        exact rfl
      refine W_skip_to (to_thenG (G (W_ret ?_)))
      obtain rfl := sI h
      refine blockQ_ret (round_ret (postS_rr (postS_rr ?_)))
      exact postRO_mk (RetO_intro [some (.int .u8)] [] [0, 1, 2, 3, 4] [(2, .u8 ((d1.getD d10.toNat 0).toNat : Int))] (ob52 d1 d10 d3 d4 d5 d6 o1 o2 o3 o4) 5 5 (by kernel_rfl) (by kernel_rfl) (by kernel_rfl))
    refine W_exit_to (thenE ?_)
    obtain rfl := sI h
    refine roundE (postS_l ?_)
    exact postX_to (gg [] [0, 1, 2, 3, 4])
  rcases r65 with v13 | ⟨e23, e24⟩ | ⟨r53, r54⟩
  · obtain ⟨rfl, hle⟩ := hq
    refine use_to ?_ hle
    refine blockE_eq (to_thenG (G (W_ret ?_)))
    obtain rfl := sI h
    exact RetO_intro [some (.int .u8)] [] [0, 1, 2, 3, 4] [(2, .u8 (0 : Int))] (ob52 d1 v13 d3 d4 d5 d6 o1 o2 o3 o4) 5 5 (by kernel_rfl) (by kernel_rfl) (by kernel_rfl)
  · obtain rfl := hq
    refine blockQ_pan (thenQ_pan ?_)
    obtain rfl := sI h
    exact rfl
  obtain ⟨rfl, hr⟩ := hq
  refine blockQ_ret (thenQ_ret ?_)
  obtain rfl := sI h
  exact hr
def pq_word_v2_L1 (p1 : List UInt8) : (Int) → Option ((Int) ⊕ (Int)) := fun p11 =>
  (((if (decide (p11 < (p1.length : Int))) = true then (if 0 ≤ p11 ∧ p11 < (p1.length : Int) then ((rules_letter ((p1.getD p11.toNat 0).toNat : Int)).bind fun r32 =>
  some (r32)) else none)
  else some (false))).bind fun v7 => (if v7 = true then some (Sum.inl (IntKind.i64.wrap (p11 + (1 : Int))))
  else some (Sum.inr p11)))
def pq_word_v2 (p1 : List UInt8) (p2 p3 p4 p5 p6 : Int) (o1 : List (List UInt8)) (o2 : List Int) (o3 : List (Int × Tree × Tree)) (o4 : List ((List UInt8) × Int)) : Option (((List UInt8) × Int × Int) ⊕ (Int × Int)) :=
  ((pq_here_v2 p1 p2 p3 p4 p5 p6 o1 o2 o3 o4).bind fun (z6 : (Int × Int) ⊕ (Int × Int)) => match z6 with
  | .inr (e11, e12) => some (Sum.inr (e11, e12))
  | .inl (r21, r22) => ((rules_letter r21).bind fun r23 =>
  (if (!r23) = true then ((pq_fail_v2 (21 : Int) r22 p1 r22 p3 p4 p5 p6 o1 o2 o3 o4).bind fun (z8 : (Unit) ⊕ (Int × Int)) => match z8 with
  | .inr (e15, e16) => some (Sum.inr (e15, e16))
  | .inl _ => none)
  else ((iter (pq_word_v2_L1 p1) r22).bind fun p12 => (if 0 ≤ r22 ∧ r22 ≤ p12 ∧ p12 ≤ (p1.length : Int) then some (Sum.inl (((p1.take p12.toNat).drop r22.toNat), r22, p12)) else none)))))
theorem pq_word_v2_ok {p1 : List UInt8} {p2 : Int} {p3 : Int} {p4 : Int} {p5 : Int} {p6 : Int} {o1 : List (List UInt8)} {o2 : List Int} {o3 : List (Int × Tree × Tree)} {o4 : List ((List UInt8) × Int)} {res : ((List UInt8) × Int × Int) ⊕ (Int × Int)} (h : pq_word_v2 p1 p2 p3 p4 p5 p6 o1 o2 o3 o4 = some res) :
    Does Try.prog 42 [.adr 0 0 10 0] (ob52 p1 p2 p3 p4 p5 p6 o1 o2 o3 o4) (outT (fun (q : (List UInt8) × Int × Int) => (.tup [.st q.1, .i64 q.2.1], (ob52 p1 q.2.2 p3 p4 p5 p6 o1 o2 o3 o4))) (faultV 75 .i64 .i64) res) := by
  refine Does.of_body tbok Try.func42 (by kernel_rfl) rfl (nl rfl) (fun Bw w0 => ?_)
  unfold pq_word_v2 at h
  refine G (W_seq (W_seq ?_))
  obtain ⟨z6, q18, h⟩ := h_bind h
  rcases z6 with ⟨r21, r22⟩ | ⟨e11, e12⟩
  · obtain ⟨r23, q19, h⟩ := h_bind h
    have u_1 := (pq_here_v2_ok q18)
    have u_2 := (rules_letter_ok q19)
    refine GNe ⟨[], [(1, (oO u_1 [0, 1, 2, 3, 4])), (2, (oP u_2))]⟩ [(1, 1, oc u_1), (2, 2, oc u_2)] (to_thenG (W_if h (fun hb14 h => ?_) (fun hb14 h => ?_)))
    · obtain ⟨z8, q21, h⟩ := h_bind h
      rcases z8 with _ | ⟨e15, e16⟩
      · cases h
      refine GX 5 [0, 1, 2, 3, 4] (pq_fail_v2_ok q21) (fun _ => thenQ_pan ?_)
      obtain rfl := sI h
      exact rfl
    refine W_skip_to (to_thenG (G (W_seq (W_block (W_lx h (fun p11 => mkSt [(0, .adr 0 0 10 0), (4, .i64 r22)] (ob52 p1 p11 p3 p4 p5 p6 o1 o2 o3 o4) 5 5) 0 (fun p12 => mkSt [(0, .adr 0 0 10 0), (4, .i64 r22)] (ob52 p1 p12 p3 p4 p5 p6 o1 o2 o3 o4) 5 5) (gg [] [0, 1, 2, 3, 4]) (fun p11 o h => ?_) (fun p12 h => ?_))))))
    · unfold pq_word_v2_L1 at h
      refine W_seq (W_seq (W_pn h (fun v7 => mkSt [(0, .adr 0 0 10 0), (4, .i64 r22), (40, .bo v7)] (ob52 p1 p11 p3 p4 p5 p6 o1 o2 o3 o4) 5 5) (fun v7 h => ?_) (fun v7 h => ?_)))
      · rcases h_ite h with ⟨hb25, h⟩ | ⟨hb25, h⟩
        · obtain ⟨c20, h⟩ := h_guard h
          obtain ⟨r32, q30, h⟩ := h_bind h
          have u_1 := (rules_letter_ok q30)
          refine GDe ⟨[(10, true), (21, true)], [(20, (oP u_1))]⟩ [(11, 18, an hb25), (19, 19, oc (And.intro hb25 c20)), (20, 20, oc (And.intro hb25 u_1)), (21, 21, oc hb25)] ?_
          exact eN h (gg [] [0, 1, 2, 3, 4])
        refine GDe ⟨[(10, false), (21, false)], []⟩ [(11, 21, oc hb25)] ?_
        exact eN h (gg [] [0, 1, 2, 3, 4])
      refine to_thenG (W_if h (fun hb26 h => ?_) (fun hb26 h => ?_))
      · refine W_skip_to (to_thenG (W_block (Ge (to_block ?_))))
        exact eB h (gg [] [0, 1, 2, 3, 4])
      refine W_exit_to (thenE ?_)
      exact eX h (gg [] [0, 1, 2, 3, 4])
    refine blockE_eq (to_thenG ?_)
    obtain ⟨c22, h⟩ := h_guard h
    refine GD a0 [(9, 9, oc c22)] (W_ret ?_)
    obtain rfl := sI h
    exact RetO_intro [some .str, some (.int .i64)] [] [0, 1, 2, 3, 4] [(2, .st ((p1.take p12.toNat).drop r22.toNat)), (3, .i64 r22)] (ob52 p1 p12 p3 p4 p5 p6 o1 o2 o3 o4) 5 5 (by kernel_rfl) (by kernel_rfl) (by kernel_rfl)
  refine GX 1 [0, 1, 2, 3, 4] (pq_here_v2_ok q18) (fun _ => thenQ_pan (thenQ_pan ?_))
  obtain rfl := sI h
  exact rfl
def pq_sign_v2 (c1 : Int) (p1 : List UInt8) (p2 p3 p4 p5 p6 : Int) (o1 : List (List UInt8)) (o2 : List Int) (o3 : List (Int × Tree × Tree)) (o4 : List ((List UInt8) × Int)) : Option ((Bool × Int) ⊕ (Int × Int)) :=
  ((pq_here_v2 p1 p2 p3 p4 p5 p6 o1 o2 o3 o4).bind fun (z4 : (Int × Int) ⊕ (Int × Int)) => match z4 with
  | .inr (e7, e8) => some (Sum.inr (e7, e8))
  | .inl (r8, r9) => (if (r8 != c1) = true then some (Sum.inl (false, r9))
  else some (Sum.inl (true, (IntKind.i64.wrap (r9 + (1 : Int)))))))
theorem pq_sign_v2_ok {c1 : Int} {p1 : List UInt8} {p2 : Int} {p3 : Int} {p4 : Int} {p5 : Int} {p6 : Int} {o1 : List (List UInt8)} {o2 : List Int} {o3 : List (Int × Tree × Tree)} {o4 : List ((List UInt8) × Int)} {res : (Bool × Int) ⊕ (Int × Int)} (h : pq_sign_v2 c1 p1 p2 p3 p4 p5 p6 o1 o2 o3 o4 = some res) :
    Does Try.prog 45 [.adr 0 0 10 0, .u8 c1] (ob52 p1 p2 p3 p4 p5 p6 o1 o2 o3 o4) (outT (fun (q : Bool × Int) => (.bo q.1, (ob52 p1 q.2 p3 p4 p5 p6 o1 o2 o3 o4))) (faultV 75 .i64 .i64) res) := by
  refine Does.of_body tbok Try.func45 (by kernel_rfl) rfl (nl rfl) (fun Bw w0 => ?_)
  unfold pq_sign_v2 at h
  refine G (W_seq (W_seq ?_))
  obtain ⟨z4, q4, h⟩ := h_bind h
  rcases z4 with ⟨r8, r9⟩ | ⟨e7, e8⟩
  · refine GOe 1 [0, 1, 2, 3, 4] (pq_here_v2_ok q4) (to_thenG (W_if h (fun hb2 h => ?_) (fun hb2 h => ?_)))
    · refine G (W_ret (thenQ_ret ?_))
      obtain rfl := sI h
      exact RetO_intro [some .bool] [] [0, 1, 2, 3, 4] [(4, .bo false)] (ob52 p1 r9 p3 p4 p5 p6 o1 o2 o3 o4) 5 5 (by kernel_rfl) (by kernel_rfl) (by kernel_rfl)
    refine W_skip_to (to_thenG (G (G (W_ret ?_))))
    obtain rfl := sI h
    exact RetO_intro [some .bool] [] [0, 1, 2, 3, 4] [(4, .bo true)] (ob52 p1 (IntKind.i64.wrap (r9 + (1 : Int))) p3 p4 p5 p6 o1 o2 o3 o4) 5 5 (by kernel_rfl) (by kernel_rfl) (by kernel_rfl)
  refine GX 1 [0, 1, 2, 3, 4] (pq_here_v2_ok q4) (fun _ => thenQ_pan (thenQ_pan ?_))
  obtain rfl := sI h
  exact rfl
def pq_fresh_v2 (p1 : List UInt8) (p2 p3 p4 p5 p6 : Int) (o1 : List (List UInt8)) (o2 : List Int) (o3 : List (Int × Tree × Tree)) (o4 : List ((List UInt8) × Int)) : Option (((List UInt8) × Int) ⊕ (Int × Int)) :=
  ((pq_word_v2 p1 p2 p3 p4 p5 p6 o1 o2 o3 o4).bind fun (z6 : ((List UInt8) × Int × Int) ⊕ (Int × Int)) => match z6 with
  | .inr (e11, e12) => some (Sum.inr (e11, e12))
  | .inl (r11, r12, r13) => (if ((mfind .str o4 r11).isSome) = true then ((pq_fail_v2 (23 : Int) r12 p1 r13 p3 p4 p5 p6 o1 o2 o3 o4).bind fun (z8 : (Unit) ⊕ (Int × Int)) => match z8 with
  | .inr (e15, e16) => some (Sum.inr (e15, e16))
  | .inl _ => none)
  else some (Sum.inl (r11, r13))))
theorem pq_fresh_v2_ok {p1 : List UInt8} {p2 : Int} {p3 : Int} {p4 : Int} {p5 : Int} {p6 : Int} {o1 : List (List UInt8)} {o2 : List Int} {o3 : List (Int × Tree × Tree)} {o4 : List ((List UInt8) × Int)} {res : ((List UInt8) × Int) ⊕ (Int × Int)} (h : pq_fresh_v2 p1 p2 p3 p4 p5 p6 o1 o2 o3 o4 = some res) :
    Does Try.prog 46 [.adr 0 0 10 0] (ob52 p1 p2 p3 p4 p5 p6 o1 o2 o3 o4) (outT (fun (q : (List UInt8) × Int) => (.st q.1, (ob52 p1 q.2 p3 p4 p5 p6 o1 o2 o3 o4))) (faultV 75 .i64 .i64) res) := by
  refine Does.of_body tbok Try.func46 (by kernel_rfl) rfl (nl rfl) (fun Bw w0 => ?_)
  unfold pq_fresh_v2 at h
  refine G (W_seq ?_)
  obtain ⟨z6, q6, h⟩ := h_bind h
  rcases z6 with ⟨r11, r12, r13⟩ | ⟨e11, e12⟩
  · refine GOe 1 [0, 1, 2, 3, 4] (pq_word_v2_ok q6) (to_thenG (W_seq (G (G (W_if h (fun hb2 h => ?_) (fun hb2 h => ?_))))))
    · obtain ⟨z8, q8, h⟩ := h_bind h
      rcases z8 with _ | ⟨e15, e16⟩
      · cases h
      refine GX 2 [0, 1, 2, 3, 4] (pq_fail_v2_ok q8) (fun _ => thenQ_pan ?_)
      obtain rfl := sI h
      exact rfl
    refine W_skip_to (to_thenG (G (W_ret ?_)))
    obtain rfl := sI h
    exact RetO_intro [some .str] [] [0, 1, 2, 3, 4] [(2, .st r11)] (ob52 p1 r13 p3 p4 p5 p6 o1 o2 o3 o4) 5 5 (by kernel_rfl) (by kernel_rfl) (by kernel_rfl)
  refine GX 1 [0, 1, 2, 3, 4] (pq_word_v2_ok q6) (fun _ => thenQ_pan ?_)
  obtain rfl := sI h
  exact rfl
def pq_class_v1_L1 (d1 : List UInt8) (d3 d4 d5 d6 : Int) (o3 : List (Int × Tree × Tree)) : (Int × (List (List UInt8)) × (List Int) × List ((List UInt8) × Int)) → Option ((Int × (List (List UInt8)) × (List Int) × List ((List UInt8) × Int)) ⊕ ((Int × (List (List UInt8)) × (List Int) × List ((List UInt8) × Int)) ⊕ (Int × Int))) := fun (d19, d20, d21, d22) =>
  ((pq_sign_v2 (59 : Int) d1 d19 d3 d4 d5 d6 d20 d21 o3 d22).bind fun (z42 : (Bool × Int) ⊕ (Int × Int)) => match z42 with
  | .inr (e87, e88) => some (Sum.inr (Sum.inr (e87, e88)))
  | .inl (r64, r65) => (if (!r64) = true then ((pq_here_v2 d1 r65 d3 d4 d5 d6 d20 d21 o3 d22).bind fun (z44 : (Int × Int) ⊕ (Int × Int)) => match z44 with
  | .inr (e91, e92) => some (Sum.inr (Sum.inr (e91, e92)))
  | .inl (r68, r69) => ((pq_fresh_v2 d1 r69 d3 d4 d5 d6 d20 d21 o3 d22).bind fun (z46 : ((List UInt8) × Int) ⊕ (Int × Int)) => match z46 with
  | .inr (e95, e96) => some (Sum.inr (Sum.inr (e95, e96)))
  | .inl (r72, r73) => (if (decide ((d20.length : Int) ≥ (24 : Int))) = true then ((pq_fail_v2 (24 : Int) r69 d1 r73 d3 d4 d5 d6 d20 d21 o3 d22).bind fun (z48 : (Unit) ⊕ (Int × Int)) => match z48 with
  | .inr (e99, e100) => some (Sum.inr (Sum.inr (e99, e100)))
  | .inl _ => none)
  else (if 0 ≤ (d20.length : Int) then (if (d21.length + ([(d20.length : Int)] : List Int).length) * 8 ≤ 140737488355328 ∧ d21.length + ([(d20.length : Int)] : List Int).length ≤ 9223372036854775807 then (if (d20.length + ([r72] : List (List UInt8)).length) * 16 ≤ 140737488355328 ∧ d20.length + ([r72] : List (List UInt8)).length ≤ 9223372036854775807 then some (Sum.inl (r73, (d20 ++ ([r72] : List (List UInt8))), (d21 ++ ([(d20.length : Int)] : List Int)), (mset .str d22 r72 (IntKind.u32.wrap ((1 : Int) * 2 ^ (min (d20.length : Int).toNat IntKind.u32.bits)))))) else none) else none) else none))))
  else some (Sum.inr (Sum.inl (r65, d20, d21, d22)))))
def pq_class_v1 (d1 : List UInt8) (d2 d3 d4 d5 d6 : Int) (o1 : List (List UInt8)) (o2 : List Int) (o3 : List (Int × Tree × Tree)) (o4 : List ((List UInt8) × Int)) : Option ((Int × (List (List UInt8)) × (List Int) × List ((List UInt8) × Int)) ⊕ (Int × Int)) :=
  ((iter (pq_class_v1_L1 d1 d3 d4 d5 d6 o3) (d2, o1, o2, o4)).bind fun (r74 : ((Int × (List (List UInt8)) × (List Int) × List ((List UInt8) × Int)) ⊕ (Int × Int))) => match r74 with
  | .inl (v9, v10, v11, v12) => some (Sum.inl (v9, v10, v11, v12))
  | .inr ((e83, e84)) => some (Sum.inr (e83, e84)))
theorem pq_class_v1_ok {d1 : List UInt8} {d2 : Int} {d3 : Int} {d4 : Int} {d5 : Int} {d6 : Int} {o1 : List (List UInt8)} {o2 : List Int} {o3 : List (Int × Tree × Tree)} {o4 : List ((List UInt8) × Int)} {res : (Int × (List (List UInt8)) × (List Int) × List ((List UInt8) × Int)) ⊕ (Int × Int)} (h : pq_class_v1 d1 d2 d3 d4 d5 d6 o1 o2 o3 o4 = some res) :
    Does Try.prog 37 [.adr 0 0 10 0] (ob52 d1 d2 d3 d4 d5 d6 o1 o2 o3 o4) (outT (fun (q : Int × (List (List UInt8)) × (List Int) × List ((List UInt8) × Int)) => (.tup [], (ob53 d1 q.1 d3 d4 d5 d6 o3 q.2.2.2 q.2.1 q.2.2.1))) (faultV 75 .i64 .i64) res) := by
  refine Does.of_body tbok Try.func37 (by kernel_rfl) rfl (nl rfl) (fun Bw w0 => ?_)
  unfold pq_class_v1 at h
  refine W_block (W_lp h (fun (d19, d20, d21, d22) => mkSt [(0, .adr 0 0 10 0)] (ob53 d1 d19 d3 d4 d5 d6 o3 d22 d20 d21) 7 5) (postS (postX Try.f37.ntmps 0 (fun (v9, v10, v11, v12) => mkSt [] (ob53 d1 v9 d3 d4 d5 d6 o3 v12 v10 v11) 7 5)) (postP (faultV 75 .i64 .i64))) (gg [] [0, 1, 2, 3, 4, 1, 2]) (fun y o h => ?_) (fun r74 h e σ' hq => ?_))
  · obtain ⟨d19, d20, d21, d22⟩ := y
    unfold pq_class_v1_L1 at h
    refine W_seq (W_seq ?_)
    obtain ⟨z42, q42, h⟩ := h_bind h
    rcases z42 with ⟨r64, r65⟩ | ⟨e87, e88⟩
    · refine GOe 1 [0, 5, 6, 3, 4] (pq_sign_v2_ok q42) (to_thenG (W_if h (fun hb11 h => ?_) (fun hb11 h => ?_)))
      · refine W_skip_to (to_thenG (W_block (W_seq ?_)))
        obtain ⟨z44, q44, h⟩ := h_bind h
        rcases z44 with ⟨r68, r69⟩ | ⟨e91, e92⟩
        · refine GOe 1 [0, 5, 6, 3, 4] (pq_here_v2_ok q44) (to_thenG (G (W_seq ?_)))
          obtain ⟨z46, q46, h⟩ := h_bind h
          rcases z46 with ⟨r72, r73⟩ | ⟨e95, e96⟩
          · refine GOe 1 [0, 5, 6, 3, 4] (pq_fresh_v2_ok q46) (to_thenG (W_seq (G (W_if h (fun hb12 h => ?_) (fun hb12 h => ?_)))))
            · obtain ⟨z48, q48, h⟩ := h_bind h
              rcases z48 with _ | ⟨e99, e100⟩
              · cases h
              refine GX 2 [0, 5, 6, 3, 4] (pq_fail_v2_ok q48) (fun _ => ?_)
              obtain rfl := sI h
              refine thenQ_pan (blockQ_pan (round_pan (postS_rr ?_)))
              exact rfl
            refine W_skip_to (to_thenG ?_)
            obtain ⟨c32, h⟩ := h_guard h
            refine GD a0 [(11, 11, oc c32)] ?_
            obtain ⟨c34, h⟩ := h_guard h
            refine GD a0 [(13, 13, oc c34)] (GCe 8 h (fun h => to_block ?_))
            exact eB h (gg [] [0, 1, 2, 3, 4, 479, 375])
          refine GX 1 [0, 5, 6, 3, 4] (pq_fresh_v2_ok q46) (fun _ => ?_)
          obtain rfl := sI h
          refine thenQ_pan (blockQ_pan (round_pan (postS_rr ?_)))
          exact rfl
        refine GX 1 [0, 5, 6, 3, 4] (pq_here_v2_ok q44) (fun _ => ?_)
        obtain rfl := sI h
        refine thenQ_pan (blockQ_pan (round_pan (postS_rr ?_)))
        exact rfl
      refine W_exit_to (thenE ?_)
      obtain rfl := sI h
      refine roundE (postS_l ?_)
      exact postX_to (gg [] [0, 1, 2, 3, 4, 5, 6])
    refine GX 1 [0, 5, 6, 3, 4] (pq_sign_v2_ok q42) (fun _ => ?_)
    obtain rfl := sI h
    refine thenQ_pan (thenQ_pan (round_pan (postS_rr ?_)))
    exact rfl
  rcases r74 with ⟨v9, v10, v11, v12⟩ | ⟨e83, e84⟩
  · obtain ⟨rfl, hle⟩ := hq
    refine use_to ?_ hle
    refine blockE_eq ?_
    obtain rfl := sI h
    exact (RetO_intro [] [] [0, 1, 2, 3, 4, 5, 6] [] (ob53 d1 v9 d3 d4 d5 d6 o3 v12 v10 v11) 7 5 (by kernel_rfl) (by kernel_rfl) (by kernel_rfl)).normal
  obtain rfl := hq
  refine blockQ_pan ?_
  obtain rfl := sI h
  exact rfl
def pq_want_v1 (c1 : Int) (p1 : List UInt8) (p2 p3 p4 p5 p6 : Int) (o1 : List (List UInt8)) (o2 : List Int) (o3 : List (Int × Tree × Tree)) (o4 : List ((List UInt8) × Int)) : Option ((Int) ⊕ (Int × Int)) :=
  ((pq_sign_v2 c1 p1 p2 p3 p4 p5 p6 o1 o2 o3 o4).bind fun (z6 : (Bool × Int) ⊕ (Int × Int)) => match z6 with
  | .inr (e11, e12) => some (Sum.inr (e11, e12))
  | .inl (r7, r8) => (if (!r7) = true then ((pq_fail_v2 (21 : Int) r8 p1 r8 p3 p4 p5 p6 o1 o2 o3 o4).bind fun (z8 : (Unit) ⊕ (Int × Int)) => match z8 with
  | .inr (e15, e16) => some (Sum.inr (e15, e16))
  | .inl _ => none)
  else some (Sum.inl r8)))
theorem pq_want_v1_ok {c1 : Int} {p1 : List UInt8} {p2 : Int} {p3 : Int} {p4 : Int} {p5 : Int} {p6 : Int} {o1 : List (List UInt8)} {o2 : List Int} {o3 : List (Int × Tree × Tree)} {o4 : List ((List UInt8) × Int)} {res : (Int) ⊕ (Int × Int)} (h : pq_want_v1 c1 p1 p2 p3 p4 p5 p6 o1 o2 o3 o4 = some res) :
    Does Try.prog 47 [.adr 0 0 10 0, .u8 c1] (ob52 p1 p2 p3 p4 p5 p6 o1 o2 o3 o4) (outT (fun (q : Int) => (.tup [], (ob52 p1 q p3 p4 p5 p6 o1 o2 o3 o4))) (faultV 75 .i64 .i64) res) := by
  refine Does.of_body tbok Try.func47 (by kernel_rfl) rfl (nl rfl) (fun Bw w0 => ?_)
  unfold pq_want_v1 at h
  refine W_seq ?_
  obtain ⟨z6, q6, h⟩ := h_bind h
  rcases z6 with ⟨r7, r8⟩ | ⟨e11, e12⟩
  · refine GOe 2 [0, 1, 2, 3, 4] (pq_sign_v2_ok q6) (to_thenG (W_if h (fun hb2 h => ?_) (fun hb2 h => ?_)))
    · obtain ⟨z8, q8, h⟩ := h_bind h
      rcases z8 with _ | ⟨e15, e16⟩
      · cases h
      refine GX 5 [0, 1, 2, 3, 4] (pq_fail_v2_ok q8) (fun _ => ?_)
      obtain rfl := sI h
      exact rfl
    refine W_skip_to ?_
    obtain rfl := sI h
    exact (RetO_intro [] [] [0, 1, 2, 3, 4] [] (ob52 p1 r8 p3 p4 p5 p6 o1 o2 o3 o4) 5 5 (by kernel_rfl) (by kernel_rfl) (by kernel_rfl)).normal
  refine GX 2 [0, 1, 2, 3, 4] (pq_sign_v2_ok q6) (fun _ => thenQ_pan ?_)
  obtain rfl := sI h
  exact rfl
def pq_named_v1 (p1 : List UInt8) (p2 p3 p4 p5 p6 : Int) (o1 : List (List UInt8)) (o2 : List Int) (o3 : List (Int × Tree × Tree)) (o4 : List ((List UInt8) × Int)) : Option ((Int × Int) ⊕ (Int × Int)) :=
  ((pq_word_v2 p1 p2 p3 p4 p5 p6 o1 o2 o3 o4).bind fun (z6 : ((List UInt8) × Int × Int) ⊕ (Int × Int)) => match z6 with
  | .inr (e11, e12) => some (Sum.inr (e11, e12))
  | .inl (r11, r12, r13) => (if ((mfind .str o4 r11).isSome) = true then some (Sum.inl (((mfind .str o4 r11).getD (0 : Int)), r13))
  else ((pq_fail_v2 (22 : Int) r12 p1 r13 p3 p4 p5 p6 o1 o2 o3 o4).bind fun (z8 : (Unit) ⊕ (Int × Int)) => match z8 with
  | .inr (e15, e16) => some (Sum.inr (e15, e16))
  | .inl _ => none)))
theorem pq_named_v1_ok {p1 : List UInt8} {p2 : Int} {p3 : Int} {p4 : Int} {p5 : Int} {p6 : Int} {o1 : List (List UInt8)} {o2 : List Int} {o3 : List (Int × Tree × Tree)} {o4 : List ((List UInt8) × Int)} {res : (Int × Int) ⊕ (Int × Int)} (h : pq_named_v1 p1 p2 p3 p4 p5 p6 o1 o2 o3 o4 = some res) :
    Does Try.prog 55 [.adr 0 0 10 0] (ob52 p1 p2 p3 p4 p5 p6 o1 o2 o3 o4) (outT (fun (q : Int × Int) => (.u32 q.1, (ob52 p1 q.2 p3 p4 p5 p6 o1 o2 o3 o4))) (faultV 75 .i64 .i64) res) := by
  refine Does.of_body tbok Try.func55 (by kernel_rfl) rfl (nl rfl) (fun Bw w0 => ?_)
  unfold pq_named_v1 at h
  refine G (W_seq ?_)
  obtain ⟨z6, q6, h⟩ := h_bind h
  rcases z6 with ⟨r11, r12, r13⟩ | ⟨e11, e12⟩
  · refine GOe 1 [0, 1, 2, 3, 4] (pq_word_v2_ok q6) (to_thenG (W_seq (G (G (W_if h (fun hb2 h => ?_) (fun hb2 h => ?_))))))
    · refine G (W_ret (thenQ_ret ?_))
      obtain rfl := sI h
      exact RetO_intro [some (.int .u32)] [] [0, 1, 2, 3, 4] [(2, .u32 ((mfind .str o4 r11).getD (0 : Int)))] (ob52 p1 r13 p3 p4 p5 p6 o1 o2 o3 o4) 5 5 (by kernel_rfl) (by kernel_rfl) (by kernel_rfl)
    refine W_skip_to (to_thenG (W_seq ?_))
    obtain ⟨z8, q8, h⟩ := h_bind h
    rcases z8 with _ | ⟨e15, e16⟩
    · cases h
    refine GX 2 [0, 1, 2, 3, 4] (pq_fail_v2_ok q8) (fun _ => thenQ_pan ?_)
    obtain rfl := sI h
    exact rfl
  refine GX 1 [0, 1, 2, 3, 4] (pq_word_v2_ok q6) (fun _ => thenQ_pan ?_)
  obtain rfl := sI h
  exact rfl
def pq_classes_v1_L1 (end1 : Int) (p1 : List UInt8) (p3 p4 p5 p6 : Int) (o1 : List (List UInt8)) (o2 : List Int) (o3 : List (Int × Tree × Tree)) (o4 : List ((List UInt8) × Int)) : (Int × Int) → Option ((Int × Int) ⊕ ((Int × Int) ⊕ (Int × Int))) := fun (p11, bits5) =>
  ((pq_here_v2 p1 p11 p3 p4 p5 p6 o1 o2 o3 o4).bind fun (z22 : (Int × Int) ⊕ (Int × Int)) => match z22 with
  | .inr (e47, e48) => some (Sum.inr (Sum.inr (e47, e48)))
  | .inl (r45, r46) => (if (r45 != end1) = true then ((pq_named_v1 p1 r46 p3 p4 p5 p6 o1 o2 o3 o4).bind fun (z24 : (Int × Int) ⊕ (Int × Int)) => match z24 with
  | .inr (e51, e52) => some (Sum.inr (Sum.inr (e51, e52)))
  | .inl (r49, r50) => some (Sum.inl (r50, (bitsOf .or .u32 bits5 r49))))
  else some (Sum.inr (Sum.inl (r46, bits5)))))
def pq_classes_v1 (end1 : Int) (p1 : List UInt8) (p2 p3 p4 p5 p6 : Int) (o1 : List (List UInt8)) (o2 : List Int) (o3 : List (Int × Tree × Tree)) (o4 : List ((List UInt8) × Int)) : Option ((Int × Int) ⊕ (Int × Int)) :=
  ((iter (pq_classes_v1_L1 end1 p1 p3 p4 p5 p6 o1 o2 o3 o4) (p2, (0 : Int))).bind fun (r51 : ((Int × Int) ⊕ (Int × Int))) => match r51 with
  | .inl (p12, bits6) => some (Sum.inl (bits6, (IntKind.i64.wrap (p12 + (1 : Int)))))
  | .inr ((e43, e44)) => some (Sum.inr (e43, e44)))
theorem pq_classes_v1_ok {end1 : Int} {p1 : List UInt8} {p2 : Int} {p3 : Int} {p4 : Int} {p5 : Int} {p6 : Int} {o1 : List (List UInt8)} {o2 : List Int} {o3 : List (Int × Tree × Tree)} {o4 : List ((List UInt8) × Int)} {res : (Int × Int) ⊕ (Int × Int)} (h : pq_classes_v1 end1 p1 p2 p3 p4 p5 p6 o1 o2 o3 o4 = some res) :
    Does Try.prog 48 [.adr 0 0 10 0, .u8 end1] (ob52 p1 p2 p3 p4 p5 p6 o1 o2 o3 o4) (outT (fun (q : Int × Int) => (.u32 q.1, (ob52 p1 q.2 p3 p4 p5 p6 o1 o2 o3 o4))) (faultV 75 .i64 .i64) res) := by
  refine Does.of_body tbok Try.func48 (by kernel_rfl) rfl (nl rfl) (fun Bw w0 => ?_)
  unfold pq_classes_v1 at h
  refine G (G (W_seq (W_block (W_lp h (fun (p11, bits5) => mkSt [(0, .adr 0 0 10 0), (1, .u8 end1), (5, .u32 bits5)] (ob52 p1 p11 p3 p4 p5 p6 o1 o2 o3 o4) 5 5) (postS (postX Try.f48.ntmps 0 (fun (p12, bits6) => mkSt [(0, .adr 0 0 10 0), (5, .u32 bits6)] (ob52 p1 p12 p3 p4 p5 p6 o1 o2 o3 o4) 5 5)) (postP (faultV 75 .i64 .i64))) (gg [] [0, 1, 2, 3, 4]) (fun y o h => ?_) (fun r51 h e σ' hq => ?_)))))
  · obtain ⟨p11, bits5⟩ := y
    unfold pq_classes_v1_L1 at h
    refine W_seq (W_seq ?_)
    obtain ⟨z22, q22, h⟩ := h_bind h
    rcases z22 with ⟨r45, r46⟩ | ⟨e47, e48⟩
    · refine GOe 1 [0, 1, 2, 3, 4] (pq_here_v2_ok q22) (to_thenG (W_if h (fun hb6 h => ?_) (fun hb6 h => ?_)))
      · refine W_skip_to (to_thenG (W_block ?_))
        obtain ⟨z24, q24, h⟩ := h_bind h
        rcases z24 with ⟨r49, r50⟩ | ⟨e51, e52⟩
        · refine GOe 2 [0, 1, 2, 3, 4] (pq_named_v1_ok q24) (to_block ?_)
          exact eB h (gg [] [0, 1, 2, 3, 4])
        refine GX 2 [0, 1, 2, 3, 4] (pq_named_v1_ok q24) (fun _ => ?_)
        obtain rfl := sI h
        refine blockQ_pan (round_pan (postS_rr ?_))
        exact rfl
      refine W_exit_to (thenE ?_)
      obtain rfl := sI h
      refine roundE (postS_l ?_)
      exact postX_to (gg [] [0, 1, 2, 3, 4])
    refine GX 1 [0, 1, 2, 3, 4] (pq_here_v2_ok q22) (fun _ => ?_)
    obtain rfl := sI h
    refine thenQ_pan (thenQ_pan (round_pan (postS_rr ?_)))
    exact rfl
  rcases r51 with ⟨p12, bits6⟩ | ⟨e43, e44⟩
  · obtain ⟨rfl, hle⟩ := hq
    refine use_to ?_ hle
    refine blockE_eq (to_thenG (G (G (W_ret ?_))))
    obtain rfl := sI h
    exact RetO_intro [some (.int .u32)] [] [0, 1, 2, 3, 4] [(4, .u32 bits6)] (ob52 p1 (IntKind.i64.wrap (p12 + (1 : Int))) p3 p4 p5 p6 o1 o2 o3 o4) 5 5 (by kernel_rfl) (by kernel_rfl) (by kernel_rfl)
  obtain rfl := hq
  refine blockQ_pan (thenQ_pan ?_)
  obtain rfl := sI h
  exact rfl
def pq_set_v1 (p1 : List UInt8) (p2 p3 p4 p5 p6 : Int) (o1 : List (List UInt8)) (o2 : List Int) (o3 : List (Int × Tree × Tree)) (o4 : List ((List UInt8) × Int)) : Option ((Int × List ((List UInt8) × Int)) ⊕ (Int × Int)) :=
  ((pq_fresh_v2 p1 p2 p3 p4 p5 p6 o1 o2 o3 o4).bind fun (z8 : ((List UInt8) × Int) ⊕ (Int × Int)) => match z8 with
  | .inr (e15, e16) => some (Sum.inr (e15, e16))
  | .inl (r13, r14) => ((pq_want_v1 (61 : Int) p1 r14 p3 p4 p5 p6 o1 o2 o3 o4).bind fun (z10 : (Int) ⊕ (Int × Int)) => match z10 with
  | .inr (e19, e20) => some (Sum.inr (e19, e20))
  | .inl r16 => ((pq_classes_v1 (59 : Int) p1 r16 p3 p4 p5 p6 o1 o2 o3 o4).bind fun (z12 : (Int × Int) ⊕ (Int × Int)) => match z12 with
  | .inr (e23, e24) => some (Sum.inr (e23, e24))
  | .inl (r19, r20) => some (Sum.inl (r20, (mset .str o4 r13 r19))))))
theorem pq_set_v1_ok {p1 : List UInt8} {p2 : Int} {p3 : Int} {p4 : Int} {p5 : Int} {p6 : Int} {o1 : List (List UInt8)} {o2 : List Int} {o3 : List (Int × Tree × Tree)} {o4 : List ((List UInt8) × Int)} {res : (Int × List ((List UInt8) × Int)) ⊕ (Int × Int)} (h : pq_set_v1 p1 p2 p3 p4 p5 p6 o1 o2 o3 o4 = some res) :
    Does Try.prog 38 [.adr 0 0 10 0] (ob52 p1 p2 p3 p4 p5 p6 o1 o2 o3 o4) (outT (fun (q : Int × List ((List UInt8) × Int)) => (.tup [], (ob52 p1 q.1 p3 p4 p5 p6 o1 o2 o3 q.2))) (faultV 75 .i64 .i64) res) := by
  refine Does.of_body tbok Try.func38 (by kernel_rfl) rfl (nl rfl) (fun Bw w0 => ?_)
  unfold pq_set_v1 at h
  refine W_seq ?_
  obtain ⟨z8, q8, h⟩ := h_bind h
  rcases z8 with ⟨r13, r14⟩ | ⟨e15, e16⟩
  · refine GOe 1 [0, 1, 2, 3, 4] (pq_fresh_v2_ok q8) (to_thenG (W_seq ?_))
    obtain ⟨z10, q10, h⟩ := h_bind h
    rcases z10 with r16 | ⟨e19, e20⟩
    · refine GOe 1 [0, 1, 2, 3, 4] (pq_want_v1_ok q10) (to_thenG ?_)
      obtain ⟨z12, q12, h⟩ := h_bind h
      rcases z12 with ⟨r19, r20⟩ | ⟨e23, e24⟩
      · have u_1 := (pq_classes_v1_ok q12)
        refine W_regT tbok mixed ⟨[], [(6, (oO u_1 [0, 1, 2, 3, 4]))]⟩ (.one 0 (.one 1 (.one 2 (.one 4 (.one 5 (.two 3 (.one 6 (.one 7 (.leaf))) 6 (.one 3 (.one 7 (.leaf))))))))) [([], []), ([], []), ([], []), ([0], []), ([], []), ([], []), ([0, 1, 2, 3, 4], [0, 1, 2, 3, 4, 93, 94, 95, 96, 97, 98, 99, 100]), ([4], [4])] 2 [] [] [0, 1, 2, 3, 4] [] (ob52 p1 r20 p3 p4 p5 p6 o1 o2 o3 (mset .str o4 r13 r19)) 5 5 (Ts 6 ((pO u_1) :: (pO u_1) :: (Ts 3 []))) (by kernel_rfl) (by kernel_rfl) (tr 6 ⟨u_1, u_1, (tr 3 tt)⟩) (fun _ => ?_) (fun y hy => by cases hy)
        obtain rfl := sI h
        exact (RetO_intro [] [] [0, 1, 2, 3, 4] [] (ob52 p1 r20 p3 p4 p5 p6 o1 o2 o3 (mset .str o4 r13 r19)) 5 5 (by kernel_rfl) (by kernel_rfl) (by kernel_rfl)).normal
      have u_1 := (pq_classes_v1_ok q12)
      refine W_regT tbok mixed ⟨[], [(6, (oD u_1 [0, 1, 2, 3, 4]))]⟩ (.one 0 (.one 1 (.one 2 (.one 4 (.one 5 (.twoD 3 (.dead 6) 6)))))) [([], []), ([], []), ([], []), ([0], []), ([], []), ([], []), ([0, 1, 2, 3, 4], [0, 1, 2, 3, 4, 93, 94, 95, 96, 97, 98, 99, 100]), ([], [])] 0 [(faultV 75 .i64 .i64 (e23, e24)), (faultV 75 .i64 .i64 (e23, e24))] [] [0, 1, 2, 3, 4] [] [] 5 5 (Ts 6 [Dies Try.prog 48 [.adr 0 0 10 0, .u8 (59 : Int)] (ob52 p1 r16 p3 p4 p5 p6 o1 o2 o3 o4) (faultV 75 .i64 .i64 (e23, e24)), Dies Try.prog 48 [.adr 0 0 10 0, .u8 (59 : Int)] (ob52 p1 r16 p3 p4 p5 p6 o1 o2 o3 o4) (faultV 75 .i64 .i64 (e23, e24))]) (by kernel_rfl) (by kernel_rfl) (tr 6 ⟨(pq_classes_v1_ok q12), (pq_classes_v1_ok q12), tt⟩) (fun h0 => absurd rfl h0) (fun y hy σ1 => ?_)
      obtain rfl : y = (faultV 75 .i64 .i64 (e23, e24)) := by simpa using hy
      obtain rfl := sI h
      exact rfl
    refine GX 1 [0, 1, 2, 3, 4] (pq_want_v1_ok q10) (fun _ => thenQ_pan ?_)
    obtain rfl := sI h
    exact rfl
  refine GX 1 [0, 1, 2, 3, 4] (pq_fresh_v2_ok q8) (fun _ => thenQ_pan ?_)
  obtain rfl := sI h
  exact rfl
def pq_join_v1 (p1 : List UInt8) (p2 p3 p4 p5 p6 : Int) (o1 : List (List UInt8)) (o2 : List Int) (o3 : List (Int × Tree × Tree)) (o4 : List ((List UInt8) × Int)) : Option ((Int × Int × Int) ⊕ (Int × Int)) :=
  ((pq_classes_v1 (47 : Int) p1 p2 p3 p4 p5 p6 o1 o2 o3 o4).bind fun (z6 : (Int × Int) ⊕ (Int × Int)) => match z6 with
  | .inr (e11, e12) => some (Sum.inr (e11, e12))
  | .inl (r11, r12) => ((pq_classes_v1 (59 : Int) p1 r12 (bitsOf .or .u32 p3 r11) p4 p5 p6 o1 o2 o3 o4).bind fun (z8 : (Int × Int) ⊕ (Int × Int)) => match z8 with
  | .inr (e15, e16) => some (Sum.inr (e15, e16))
  | .inl (r15, r16) => some (Sum.inl (r16, (bitsOf .or .u32 p3 r11), (bitsOf .or .u32 p4 r15)))))
theorem pq_join_v1_ok {p1 : List UInt8} {p2 : Int} {p3 : Int} {p4 : Int} {p5 : Int} {p6 : Int} {o1 : List (List UInt8)} {o2 : List Int} {o3 : List (Int × Tree × Tree)} {o4 : List ((List UInt8) × Int)} {res : (Int × Int × Int) ⊕ (Int × Int)} (h : pq_join_v1 p1 p2 p3 p4 p5 p6 o1 o2 o3 o4 = some res) :
    Does Try.prog 39 [.adr 0 0 10 0] (ob52 p1 p2 p3 p4 p5 p6 o1 o2 o3 o4) (outT (fun (q : Int × Int × Int) => (.tup [], (ob52 p1 q.1 q.2.1 q.2.2 p5 p6 o1 o2 o3 o4))) (faultV 75 .i64 .i64) res) := by
  refine Does.of_body tbok Try.func39 (by kernel_rfl) rfl (nl rfl) (fun Bw w0 => ?_)
  unfold pq_join_v1 at h
  refine W_seq ?_
  obtain ⟨z6, q6, h⟩ := h_bind h
  rcases z6 with ⟨r11, r12⟩ | ⟨e11, e12⟩
  · have u_1 := (pq_classes_v1_ok q6)
    refine W_regT tbok mixed ⟨[], [(6, (oO u_1 [0, 1, 2, 3, 4]))]⟩ (.one 0 (.one 1 (.one 2 (.one 3 (.one 5 (.two 4 (.one 6 (.one 7 (.one 8 (.one 9 (.one 10 (.one 11 (.leaf))))))) 6 (.one 4 (.one 7 (.one 8 (.one 9 (.one 10 (.one 11 (.leaf))))))))))))) [([], []), ([], []), ([], []), ([], []), ([0], []), ([], []), ([0, 1, 2, 3, 4], [0, 1, 2, 3, 4, 53, 54, 55, 56, 57, 58, 59, 60]), ([], []), ([], []), ([], []), ([], []), ([0], [0])] 2 [] [] [0, 1, 2, 3, 4] [(0, .adr 0 0 10 0)] (ob52 p1 r12 (bitsOf .or .u32 p3 r11) p4 p5 p6 o1 o2 o3 o4) 5 5 (Ts 6 ((pO u_1) :: (pO u_1) :: (Ts 11 []))) (by kernel_rfl) (by kernel_rfl) (tr 6 ⟨u_1, u_1, (tr 11 tt)⟩) (fun _ => ?_) (fun y hy => by cases hy)
    refine to_thenG ?_
    obtain ⟨z8, q8, h⟩ := h_bind h
    rcases z8 with ⟨r15, r16⟩ | ⟨e15, e16⟩
    · have u_1 := (pq_classes_v1_ok q8)
      refine W_regT tbok mixed ⟨[], [(6, (oO u_1 [0, 1, 2, 3, 4]))]⟩ (.one 0 (.one 1 (.one 2 (.one 3 (.one 5 (.two 4 (.one 6 (.one 7 (.one 8 (.one 9 (.one 10 (.one 11 (.leaf))))))) 6 (.one 4 (.one 7 (.one 8 (.one 9 (.one 10 (.one 11 (.leaf))))))))))))) [([], []), ([], []), ([], []), ([], []), ([0], []), ([], []), ([0, 1, 2, 3, 4], [0, 1, 2, 3, 4, 53, 54, 55, 56, 57, 58, 59, 60]), ([], []), ([], []), ([], []), ([], []), ([0], [0])] 2 [] [] [0, 1, 2, 3, 4] [] (ob52 p1 r16 (bitsOf .or .u32 p3 r11) (bitsOf .or .u32 p4 r15) p5 p6 o1 o2 o3 o4) 5 5 (Ts 6 ((pO u_1) :: (pO u_1) :: (Ts 11 []))) (by kernel_rfl) (by kernel_rfl) (tr 6 ⟨u_1, u_1, (tr 11 tt)⟩) (fun _ => ?_) (fun y hy => by cases hy)
      obtain rfl := sI h
      exact (RetO_intro [] [] [0, 1, 2, 3, 4] [] (ob52 p1 r16 (bitsOf .or .u32 p3 r11) (bitsOf .or .u32 p4 r15) p5 p6 o1 o2 o3 o4) 5 5 (by kernel_rfl) (by kernel_rfl) (by kernel_rfl)).normal
    have u_1 := (pq_classes_v1_ok q8)
    refine W_regT tbok mixed ⟨[], [(6, (oD u_1 [0, 1, 2, 3, 4]))]⟩ (.one 0 (.one 1 (.one 2 (.one 3 (.one 5 (.twoD 4 (.dead 6) 6)))))) [([], []), ([], []), ([], []), ([], []), ([0], []), ([], []), ([0, 1, 2, 3, 4], [0, 1, 2, 3, 4, 53, 54, 55, 56, 57, 58, 59, 60]), ([], []), ([], []), ([], []), ([], []), ([], [])] 0 [(faultV 75 .i64 .i64 (e15, e16)), (faultV 75 .i64 .i64 (e15, e16))] [] [0, 1, 2, 3, 4] [] [] 5 5 (Ts 6 [Dies Try.prog 48 [.adr 0 0 10 0, .u8 (59 : Int)] (ob52 p1 r12 (bitsOf .or .u32 p3 r11) p4 p5 p6 o1 o2 o3 o4) (faultV 75 .i64 .i64 (e15, e16)), Dies Try.prog 48 [.adr 0 0 10 0, .u8 (59 : Int)] (ob52 p1 r12 (bitsOf .or .u32 p3 r11) p4 p5 p6 o1 o2 o3 o4) (faultV 75 .i64 .i64 (e15, e16))]) (by kernel_rfl) (by kernel_rfl) (tr 6 ⟨(pq_classes_v1_ok q8), (pq_classes_v1_ok q8), tt⟩) (fun h0 => absurd rfl h0) (fun y hy σ1 => ?_)
    obtain rfl : y = (faultV 75 .i64 .i64 (e15, e16)) := by simpa using hy
    obtain rfl := sI h
    exact rfl
  have u_1 := (pq_classes_v1_ok q6)
  refine W_regT tbok mixed ⟨[], [(6, (oD u_1 [0, 1, 2, 3, 4]))]⟩ (.one 0 (.one 1 (.one 2 (.one 3 (.one 5 (.twoD 4 (.dead 6) 6)))))) [([], []), ([], []), ([], []), ([], []), ([0], []), ([], []), ([0, 1, 2, 3, 4], [0, 1, 2, 3, 4, 53, 54, 55, 56, 57, 58, 59, 60]), ([], []), ([], []), ([], []), ([], []), ([], [])] 0 [(faultV 75 .i64 .i64 (e11, e12)), (faultV 75 .i64 .i64 (e11, e12))] [] [0, 1, 2, 3, 4] [] [] 5 5 (Ts 6 [Dies Try.prog 48 [.adr 0 0 10 0, .u8 (47 : Int)] (ob52 p1 p2 p3 p4 p5 p6 o1 o2 o3 o4) (faultV 75 .i64 .i64 (e11, e12)), Dies Try.prog 48 [.adr 0 0 10 0, .u8 (47 : Int)] (ob52 p1 p2 p3 p4 p5 p6 o1 o2 o3 o4) (faultV 75 .i64 .i64 (e11, e12))]) (by kernel_rfl) (by kernel_rfl) (tr 6 ⟨(pq_classes_v1_ok q6), (pq_classes_v1_ok q6), tt⟩) (fun h0 => absurd rfl h0) (fun y hy σ1 => ?_)
  obtain rfl : y = (faultV 75 .i64 .i64 (e11, e12)) := by simpa using hy
  refine thenQ_pan ?_
  obtain rfl := sI h
  exact rfl
end
end Go.Proofs.Ytnjdmbifjbahdaa.T
