/- Functions of the program as functions on data, and that the program's own come to them. -/
import Derived.Test.YtnjdmbifjbahdaaTvT04y0
import Derived.Test.YtnjdmbifjbahdaaTvT04ya1
namespace Go.Proofs.Ytnjdmbifjbahdaa.T
open Go Go.Tv Go.Proofs
noncomputable section
set_option maxRecDepth 100000
set_option maxHeartbeats 4000000
def pq_one_v1 (p1 : List UInt8) (p2 p3 p4 p5 p6 : Int) (o1 : List (List UInt8)) (o2 : List Int) (o3 : List (Int × Tree × Tree)) (o4 : List ((List UInt8) × Int)) : Option ((Int × Int) ⊕ (Int × Int)) :=
  ((pq_word_v2 p1 p2 p3 p4 p5 p6 o1 o2 o3 o4).bind fun (z6 : ((List UInt8) × Int × Int) ⊕ (Int × Int)) => match z6 with
  | .inr (e11, e12) => some (Sum.inr (e11, e12))
  | .inl (r13, r14, r15) => ((slices_Index_string_string o1 r13).bind fun r17 =>
  (if (decide (r17 < (0 : Int))) = true then ((pq_fail_v2 (22 : Int) r14 p1 r15 p3 p4 p5 p6 o1 o2 o3 o4).bind fun (z8 : (Unit) ⊕ (Int × Int)) => match z8 with
  | .inr (e15, e16) => some (Sum.inr (e15, e16))
  | .inl _ => none)
  else some (Sum.inl (r17, r15)))))
theorem pq_one_v1_ok {p1 : List UInt8} {p2 : Int} {p3 : Int} {p4 : Int} {p5 : Int} {p6 : Int} {o1 : List (List UInt8)} {o2 : List Int} {o3 : List (Int × Tree × Tree)} {o4 : List ((List UInt8) × Int)} {res : (Int × Int) ⊕ (Int × Int)} (h : pq_one_v1 p1 p2 p3 p4 p5 p6 o1 o2 o3 o4 = some res) :
    Does Try.prog 49 [.adr 0 0 10 0] (ob52 p1 p2 p3 p4 p5 p6 o1 o2 o3 o4) (outT (fun (q : Int × Int) => (.i64 q.1, (ob52 p1 q.2 p3 p4 p5 p6 o1 o2 o3 o4))) (faultV 75 .i64 .i64) res) := by
  refine Does.of_body tbok Try.func49 (by kernel_rfl) rfl (nl rfl) (fun Bw w0 => ?_)
  unfold pq_one_v1 at h
  refine G (W_seq ?_)
  obtain ⟨z6, q8, h⟩ := h_bind h
  rcases z6 with ⟨r13, r14, r15⟩ | ⟨e11, e12⟩
  · refine GOe 1 [0, 1, 2, 3, 4] (pq_word_v2_ok q8) (to_thenG ?_)
    obtain ⟨r17, q10, h⟩ := h_bind h
    refine GP 6 (slices_Index_string_string_ok true q10) (W_seq (G (W_if h (fun hb2 h => ?_) (fun hb2 h => ?_))))
    · obtain ⟨z8, q12, h⟩ := h_bind h
      rcases z8 with _ | ⟨e15, e16⟩
      · cases h
      refine GX 2 [0, 1, 2, 3, 4] (pq_fail_v2_ok q12) (fun _ => thenQ_pan ?_)
      obtain rfl := sI h
      exact rfl
    refine W_skip_to (to_thenG (G (W_ret ?_)))
    obtain rfl := sI h
    exact RetO_intro [some (.int .i64)] [] [0, 1, 2, 3, 4] [(2, .i64 r17)] (ob52 p1 r15 p3 p4 p5 p6 o1 o2 o3 o4) 5 5 (by kernel_rfl) (by kernel_rfl) (by kernel_rfl)
  refine GX 1 [0, 1, 2, 3, 4] (pq_word_v2_ok q8) (fun _ => thenQ_pan ?_)
  obtain rfl := sI h
  exact rfl
def pq_treat_v1 (p1 : List UInt8) (p2 p3 p4 p5 p6 : Int) (o1 : List (List UInt8)) (o2 : List Int) (o3 : List (Int × Tree × Tree)) (o4 : List ((List UInt8) × Int)) : Option ((Int × List Int) ⊕ (Int × Int)) :=
  ((pq_one_v1 p1 p2 p3 p4 p5 p6 o1 o2 o3 o4).bind fun (z10 : (Int × Int) ⊕ (Int × Int)) => match z10 with
  | .inr (e19, e20) => some (Sum.inr (e19, e20))
  | .inl (r15, r16) => ((pq_want_v1 (61 : Int) p1 r16 p3 p4 p5 p6 o1 o2 o3 o4).bind fun (z12 : (Int) ⊕ (Int × Int)) => match z12 with
  | .inr (e23, e24) => some (Sum.inr (e23, e24))
  | .inl r18 => ((pq_one_v1 p1 r18 p3 p4 p5 p6 o1 o2 o3 o4).bind fun (z14 : (Int × Int) ⊕ (Int × Int)) => match z14 with
  | .inr (e27, e28) => some (Sum.inr (e27, e28))
  | .inl (r21, r22) => (if 0 ≤ r15 ∧ r15 < (o2.length : Int) then (if r15.toNat < o2.length then ((pq_want_v1 (59 : Int) p1 r22 p3 p4 p5 p6 o1 (o2.set r15.toNat r21) o3 o4).bind fun (z16 : (Int) ⊕ (Int × Int)) => match z16 with
  | .inr (e31, e32) => some (Sum.inr (e31, e32))
  | .inl r24 => some (Sum.inl (r24, (o2.set r15.toNat r21)))) else none) else none))))
theorem pq_treat_v1_ok {p1 : List UInt8} {p2 : Int} {p3 : Int} {p4 : Int} {p5 : Int} {p6 : Int} {o1 : List (List UInt8)} {o2 : List Int} {o3 : List (Int × Tree × Tree)} {o4 : List ((List UInt8) × Int)} {res : (Int × List Int) ⊕ (Int × Int)} (h : pq_treat_v1 p1 p2 p3 p4 p5 p6 o1 o2 o3 o4 = some res) :
    Does Try.prog 40 [.adr 0 0 10 0] (ob52 p1 p2 p3 p4 p5 p6 o1 o2 o3 o4) (outT (fun (q : Int × List Int) => (.tup [], (ob52 p1 q.1 p3 p4 p5 p6 o1 q.2 o3 o4))) (faultV 75 .i64 .i64) res) := by
  refine Does.of_body tbok Try.func40 (by kernel_rfl) rfl (nl rfl) (fun Bw w0 => ?_)
  unfold pq_treat_v1 at h
  refine W_seq ?_
  obtain ⟨z10, q10, h⟩ := h_bind h
  rcases z10 with ⟨r15, r16⟩ | ⟨e19, e20⟩
  · refine GOe 1 [0, 1, 2, 3, 4] (pq_one_v1_ok q10) (to_thenG (W_seq ?_))
    obtain ⟨z12, q12, h⟩ := h_bind h
    rcases z12 with r18 | ⟨e23, e24⟩
    · refine GOe 1 [0, 1, 2, 3, 4] (pq_want_v1_ok q12) (to_thenG (W_seq ?_))
      obtain ⟨z14, q14, h⟩ := h_bind h
      rcases z14 with ⟨r21, r22⟩ | ⟨e27, e28⟩
      · obtain ⟨c7, c8, h⟩ := g2 h
        have u_1 := (pq_one_v1_ok q14)
        refine W_regT tbok mixed ⟨[], [(7, (oO u_1 [0, 1, 2, 3, 4]))]⟩ (.one 0 (.one 1 (.one 2 (.one 3 (.one 5 (.one 6 (.two 4 (.one 7 (.one 8 (.one 9 (.leaf)))) 7 (.one 4 (.one 8 (.one 9 (.leaf))))))))))) [([], []), ([], []), ([], []), ([], []), ([0], []), ([], []), ([], []), ([0, 1, 2, 3, 4], [0, 1, 2, 3, 4, 101, 102, 103, 104, 105, 106, 107, 108]), ([2], []), ([2], [2])] 2 [] [] [0, 1, 2, 3, 4] [(0, .adr 0 0 10 0)] (ob52 p1 r22 p3 p4 p5 p6 o1 (o2.set r15.toNat r21) o3 o4) 5 5 (Ts 7 [pO u_1, pO u_1, 0 ≤ r15 ∧ r15 < (o2.length : Int), r15.toNat < o2.length, True, 0 ≤ r15 ∧ r15 < (o2.length : Int), r15.toNat < o2.length]) (by kernel_rfl) (by kernel_rfl) (tr 7 ⟨u_1, u_1, c7, c8, tt, c7, c8, tt⟩) (fun _ => ?_) (fun y hy => by cases hy)
        refine to_thenG ?_
        obtain ⟨z16, q16, h⟩ := h_bind h
        rcases z16 with r24 | ⟨e31, e32⟩
        · refine GOe 1 [0, 1, 2, 3, 4] (pq_want_v1_ok q16) ?_
          obtain rfl := sI h
          exact (RetO_intro [] [] [0, 1, 2, 3, 4] [] (ob52 p1 r24 p3 p4 p5 p6 o1 (o2.set r15.toNat r21) o3 o4) 5 5 (by kernel_rfl) (by kernel_rfl) (by kernel_rfl)).normal
        refine GX 1 [0, 1, 2, 3, 4] (pq_want_v1_ok q16) (fun _ => ?_)
        obtain rfl := sI h
        exact rfl
      have u_1 := (pq_one_v1_ok q14)
      refine W_regT tbok mixed ⟨[], [(7, (oD u_1 [0, 1, 2, 3, 4]))]⟩ (.one 0 (.one 1 (.one 2 (.one 3 (.one 5 (.one 6 (.twoD 4 (.dead 7) 7))))))) [([], []), ([], []), ([], []), ([], []), ([0], []), ([], []), ([], []), ([0, 1, 2, 3, 4], [0, 1, 2, 3, 4, 101, 102, 103, 104, 105, 106, 107, 108]), ([], []), ([], [])] 0 [(faultV 75 .i64 .i64 (e27, e28)), (faultV 75 .i64 .i64 (e27, e28))] [] [0, 1, 2, 3, 4] [] [] 5 5 (Ts 7 [Dies Try.prog 49 [.adr 0 0 10 0] (ob52 p1 r18 p3 p4 p5 p6 o1 o2 o3 o4) (faultV 75 .i64 .i64 (e27, e28)), Dies Try.prog 49 [.adr 0 0 10 0] (ob52 p1 r18 p3 p4 p5 p6 o1 o2 o3 o4) (faultV 75 .i64 .i64 (e27, e28))]) (by kernel_rfl) (by kernel_rfl) (tr 7 ⟨(pq_one_v1_ok q14), (pq_one_v1_ok q14), tt⟩) (fun h0 => absurd rfl h0) (fun y hy σ1 => ?_)
      obtain rfl : y = (faultV 75 .i64 .i64 (e27, e28)) := by simpa using hy
      refine thenQ_pan ?_
      obtain rfl := sI h
      exact rfl
    refine GX 1 [0, 1, 2, 3, 4] (pq_want_v1_ok q12) (fun _ => thenQ_pan ?_)
    obtain rfl := sI h
    exact rfl
  refine GX 1 [0, 1, 2, 3, 4] (pq_one_v1_ok q10) (fun _ => thenQ_pan ?_)
  obtain rfl := sI h
  exact rfl
def pq_thing_v5 (rec_pq_either_v1 : (List UInt8) → Int → Int → Int → Int → Int → (List (List UInt8)) → (List Int) → (List (Int × Tree × Tree)) → (List ((List UInt8) × Int)) → Option ((Tree × Int × Int × Int) ⊕ (Int × Int))) (d1 : List UInt8) (d2 d3 d4 d5 d6 : Int) (o1 : List (List UInt8)) (o2 : List Int) (o3 : List (Int × Tree × Tree)) (o4 : List ((List UInt8) × Int)) : Option ((Tree × Int × Int × Int) ⊕ (Int × Int)) :=
  ((pq_sign_v2 (40 : Int) d1 d2 d3 d4 d5 d6 o1 o2 o3 o4).bind fun (z30 : (Bool × Int) ⊕ (Int × Int)) => match z30 with
  | .inr (e61, e62) => some (Sum.inr (e61, e62))
  | .inl (r55, r56) => (if r55 = true then (if (decide ((IntKind.i64.wrap (d6 + (1 : Int))) > (16 : Int))) = true then ((pq_fail_v2 (25 : Int) d2 d1 r56 d3 d4 d5 (IntKind.i64.wrap (d6 + (1 : Int))) o1 o2 o3 o4).bind fun (z32 : (Unit) ⊕ (Int × Int)) => match z32 with
  | .inr (e65, e66) => some (Sum.inr (e65, e66))
  | .inl _ => none)
  else ((rec_pq_either_v1 d1 r56 d3 d4 d5 (IntKind.i64.wrap (d6 + (1 : Int))) o1 o2 o3 o4).bind fun (z34 : (Tree × Int × Int × Int) ⊕ (Int × Int)) => match z34 with
  | .inr (e69, e70) => some (Sum.inr (e69, e70))
  | .inl (r61, r62, r63, r64) => ((pq_want_v1 (41 : Int) d1 r62 d3 d4 r63 r64 o1 o2 o3 o4).bind fun (z36 : (Int) ⊕ (Int × Int)) => match z36 with
  | .inr (e73, e74) => some (Sum.inr (e73, e74))
  | .inl r66 => some (Sum.inl ((Tree.node r61.op r61.set r61.kids), r66, r63, (IntKind.i64.wrap (r64 - (1 : Int))))))))
  else (if (decide ((IntKind.i64.wrap (d5 + (1 : Int))) > (200 : Int))) = true then ((pq_fail_v2 (26 : Int) d2 d1 r56 d3 d4 (IntKind.i64.wrap (d5 + (1 : Int))) d6 o1 o2 o3 o4).bind fun (z38 : (Unit) ⊕ (Int × Int)) => match z38 with
  | .inr (e77, e78) => some (Sum.inr (e77, e78))
  | .inl _ => none)
  else (if 0 ≤ (o1.length : Int) then ((pq_sign_v2 (46 : Int) d1 r56 d3 d4 (IntKind.i64.wrap (d5 + (1 : Int))) d6 o1 o2 o3 o4).bind fun (z40 : (Bool × Int) ⊕ (Int × Int)) => match z40 with
  | .inr (e81, e82) => some (Sum.inr (e81, e82))
  | .inl (r69, r70) => (((if r69 = true then some ((Sum.inl ((IntKind.u32.wrap ((IntKind.u32.wrap ((1 : Int) * 2 ^ (min (o1.length : Int).toNat IntKind.u32.bits))) - (1 : Int))), r70)))
  else ((pq_sign_v2 (91 : Int) d1 r70 d3 d4 (IntKind.i64.wrap (d5 + (1 : Int))) d6 o1 o2 o3 o4).bind fun (z50 : (Bool × Int) ⊕ (Int × Int)) => match z50 with
  | .inr (e103, e104) => some ((Sum.inr (e103, e104)))
  | .inl (r89, r90) => (if r89 = true then ((pq_sign_v2 (94 : Int) d1 r90 d3 d4 (IntKind.i64.wrap (d5 + (1 : Int))) d6 o1 o2 o3 o4).bind fun (z52 : (Bool × Int) ⊕ (Int × Int)) => match z52 with
  | .inr (e107, e108) => some ((Sum.inr (e107, e108)))
  | .inl (r93, r94) => ((pq_classes_v1 (93 : Int) d1 r94 d3 d4 (IntKind.i64.wrap (d5 + (1 : Int))) d6 o1 o2 o3 o4).bind fun (z54 : (Int × Int) ⊕ (Int × Int)) => match z54 with
  | .inr (e111, e112) => some ((Sum.inr (e111, e112)))
  | .inl (r97, r98) => (if r93 = true then some ((Sum.inl ((bitsOf .andNot .u32 (IntKind.u32.wrap ((IntKind.u32.wrap ((1 : Int) * 2 ^ (min (o1.length : Int).toNat IntKind.u32.bits))) - (1 : Int))) r97), r98)))
  else some ((Sum.inl (r97, r98))))))
  else ((pq_named_v1 d1 r90 d3 d4 (IntKind.i64.wrap (d5 + (1 : Int))) d6 o1 o2 o3 o4).bind fun (z56 : (Int × Int) ⊕ (Int × Int)) => match z56 with
  | .inr (e115, e116) => some ((Sum.inr (e115, e116)))
  | .inl (r101, r102) => some ((Sum.inl (r101, r102)))))))).bind fun (r103 : ((Int × Int) ⊕ (Int × Int))) => match r103 with
  | .inl (v6, v7) => some (Sum.inl ((Tree.node (1 : Int) v6 ([] : List Tree)), v7, (IntKind.i64.wrap (d5 + (1 : Int))), d6))
  | .inr ((e99, e100)) => some (Sum.inr (e99, e100)))) else none))))
theorem pq_thing_v5_ok (rec_pq_either_v1 : (List UInt8) → Int → Int → Int → Int → Int → (List (List UInt8)) → (List Int) → (List (Int × Tree × Tree)) → (List ((List UInt8) × Int)) → Option ((Tree × Int × Int × Int) ⊕ (Int × Int))) (hrec_pq_either_v1 : ∀ {p1 : List UInt8} {p2 : Int} {p3 : Int} {p4 : Int} {p5 : Int} {p6 : Int} {o1 : List (List UInt8)} {o2 : List Int} {o3 : List (Int × Tree × Tree)} {o4 : List ((List UInt8) × Int)} {res : (Tree × Int × Int × Int) ⊕ (Int × Int)}, rec_pq_either_v1 p1 p2 p3 p4 p5 p6 o1 o2 o3 o4 = some res → Does Try.prog 53 [.adr 0 0 10 0] (ob52 p1 p2 p3 p4 p5 p6 o1 o2 o3 o4) (outT (fun (q : Tree × Int × Int × Int) => (.agg [.u8 q.1.op, .u32 q.1.set, .p false (.slice (.tree .u8 .u32)) q.1.kids], (ob52 p1 q.2.1 p3 p4 q.2.2.1 q.2.2.2 o1 o2 o3 o4))) (faultV 75 .i64 .i64) res)) {d1 : List UInt8} {d2 : Int} {d3 : Int} {d4 : Int} {d5 : Int} {d6 : Int} {o1 : List (List UInt8)} {o2 : List Int} {o3 : List (Int × Tree × Tree)} {o4 : List ((List UInt8) × Int)} {res : (Tree × Int × Int × Int) ⊕ (Int × Int)} (h : pq_thing_v5 rec_pq_either_v1 d1 d2 d3 d4 d5 d6 o1 o2 o3 o4 = some res) :
    Does Try.prog 61 [.adr 0 0 10 0] (ob52 d1 d2 d3 d4 d5 d6 o1 o2 o3 o4) (outT (fun (q : Tree × Int × Int × Int) => (.agg [.u8 q.1.op, .u32 q.1.set, .p false (.slice (.tree .u8 .u32)) q.1.kids], (ob52 d1 q.2.1 d3 d4 q.2.2.1 q.2.2.2 o1 o2 o3 o4))) (faultV 75 .i64 .i64) res) := by
  refine Does.of_body tbok Try.func61 (by kernel_rfl) rfl (nl rfl) (fun Bw w0 => ?_)
  unfold pq_thing_v5 at h
  refine G (G (W_seq (W_seq ?_)))
  obtain ⟨z30, q30, h⟩ := h_bind h
  rcases z30 with ⟨r55, r56⟩ | ⟨e61, e62⟩
  · refine GOe 1 [0, 1, 2, 3, 4] (pq_sign_v2_ok q30) (to_thenG (W_if h (fun hb10 h => ?_) (fun hb10 h => ?_)))
    · refine W_seq (G (G (W_if h (fun hb11 h => ?_) (fun hb11 h => ?_))))
      · obtain ⟨z32, q32, h⟩ := h_bind h
        rcases z32 with _ | ⟨e65, e66⟩
        · cases h
        refine GX 2 [0, 1, 2, 3, 4] (pq_fail_v2_ok q32) (fun _ => thenQ_pan (thenQ_pan ?_))
        obtain rfl := sI h
        exact rfl
      refine W_skip_to (to_thenG (W_seq ?_))
      obtain ⟨z34, q34, h⟩ := h_bind h
      rcases z34 with ⟨r61, r62, r63, r64⟩ | ⟨e69, e70⟩
      · refine GOe 1 [0, 1, 2, 3, 4] (hrec_pq_either_v1 q34) (to_thenG (W_seq ?_))
        obtain ⟨z36, q36, h⟩ := h_bind h
        rcases z36 with r66 | ⟨e73, e74⟩
        · refine GOe 1 [0, 1, 2, 3, 4] (pq_want_v1_ok q36) (to_thenG (G (G (W_ret (thenQ_ret ?_)))))
          obtain rfl := sI h
          exact RetO_intro [some (.tree .u8 .u32)] [] [0, 1, 2, 3, 4, 5] [(2, .adr 5 0 3 0)] (ob58 d1 r66 d3 d4 r63 (IntKind.i64.wrap (r64 - (1 : Int))) o1 o2 o3 o4 r61.op r61.set r61.kids) 6 5 (by kernel_rfl) (by kernel_rfl) (by kernel_rfl)
        refine GX 1 [0, 1, 2, 3, 4] (pq_want_v1_ok q36) (fun _ => thenQ_pan (thenQ_pan ?_))
        obtain rfl := sI h
        exact rfl
      refine GX 1 [0, 1, 2, 3, 4] (hrec_pq_either_v1 q34) (fun _ => thenQ_pan (thenQ_pan ?_))
      obtain rfl := sI h
      exact rfl
    refine W_skip_to (to_thenG (W_seq (G (G (W_if h (fun hb12 h => ?_) (fun hb12 h => ?_))))))
    · obtain ⟨z38, q38, h⟩ := h_bind h
      rcases z38 with _ | ⟨e77, e78⟩
      · cases h
      refine GX 2 [0, 1, 2, 3, 4] (pq_fail_v2_ok q38) (fun _ => thenQ_pan ?_)
      obtain rfl := sI h
      exact rfl
    refine W_skip_to (to_thenG (G (GC 6 h (fun h => W_seq (W_block (W_seq ?_))))))
    obtain ⟨z40, q40, h⟩ := h_bind h
    rcases z40 with ⟨r69, r70⟩ | ⟨e81, e82⟩
    · refine GOe 1 [0, 1, 2, 3, 4] (pq_sign_v2_ok q40) (to_thenG (W_pc h (postS (postN Try.f61.ntmps (fun (v6, v7) => mkSt [(2, .adr 5 0 3 0), (5, .adr 6 0 3 0)] (ob54 d1 v7 d3 d4 (IntKind.i64.wrap (d5 + (1 : Int))) d6 o1 o2 o3 o4 (0 : Int) (0 : Int) (1 : Int) v6) 7 5)) (postP (faultV 75 .i64 .i64))) (fun r103 h => ?_) (fun r103 h e σ' hq => ?_)))
      · refine W_if h (fun hb16 h => ?_) (fun hb16 h => ?_)
        · refine Ge ?_
          obtain rfl := sI h
          refine postS_l ?_
          exact postN_to (gg [] [0, 1, 2, 3, 4, 5, 181])
        refine W_seq ?_
        obtain ⟨z50, q50, h⟩ := h_bind h
        rcases z50 with ⟨r89, r90⟩ | ⟨e103, e104⟩
        · refine GOe 1 [0, 1, 2, 3, 4] (pq_sign_v2_ok q50) (to_thenG (W_if h (fun hb17 h => ?_) (fun hb17 h => ?_)))
          · refine W_seq ?_
            obtain ⟨z52, q52, h⟩ := h_bind h
            rcases z52 with ⟨r93, r94⟩ | ⟨e107, e108⟩
            · refine GOe 1 [0, 1, 2, 3, 4] (pq_sign_v2_ok q52) (to_thenG (W_seq ?_))
              obtain ⟨z54, q54, h⟩ := h_bind h
              rcases z54 with ⟨r97, r98⟩ | ⟨e111, e112⟩
              · refine GOe 1 [0, 1, 2, 3, 4] (pq_classes_v1_ok q54) (to_thenG (G (W_if h (fun hb18 h => ?_) (fun hb18 h => ?_))))
                · refine Ge ?_
                  obtain rfl := sI h
                  refine postS_l ?_
                  exact postN_to (gg [] [0, 1, 2, 3, 4, 5, 181])
                refine W_skip_to ?_
                obtain rfl := sI h
                refine postS_l ?_
                exact postN_to (gg [] [0, 1, 2, 3, 4, 5, 181])
              refine GX 1 [0, 1, 2, 3, 4] (pq_classes_v1_ok q54) (fun _ => ?_)
              obtain rfl := sI h
              refine thenQ_pan (postS_rr ?_)
              exact rfl
            refine GX 1 [0, 1, 2, 3, 4] (pq_sign_v2_ok q52) (fun _ => ?_)
            obtain rfl := sI h
            refine thenQ_pan (postS_rr ?_)
            exact rfl
          obtain ⟨z56, q56, h⟩ := h_bind h
          rcases z56 with ⟨r101, r102⟩ | ⟨e115, e116⟩
          · refine GOe 1 [0, 1, 2, 3, 4] (pq_named_v1_ok q56) ?_
            obtain rfl := sI h
            refine postS_l ?_
            exact postN_to (gg [] [0, 1, 2, 3, 4, 5, 181])
          refine GX 1 [0, 1, 2, 3, 4] (pq_named_v1_ok q56) (fun _ => ?_)
          obtain rfl := sI h
          refine postS_rr ?_
          exact rfl
        refine GX 1 [0, 1, 2, 3, 4] (pq_sign_v2_ok q50) (fun _ => ?_)
        obtain rfl := sI h
        refine thenQ_pan (postS_rr ?_)
        exact rfl
      rcases r103 with ⟨v6, v7⟩ | ⟨e99, e100⟩
      · obtain ⟨rfl, hle⟩ := hq
        refine use_to ?_ hle
        refine to_block (to_thenG (G (W_ret ?_)))
        obtain rfl := sI h
        exact RetO_intro [some (.tree .u8 .u32)] [] [0, 1, 2, 3, 4, 5] [(2, .adr 5 0 3 0)] (ob55 d1 v7 d3 d4 (IntKind.i64.wrap (d5 + (1 : Int))) d6 o1 o2 o3 o4 (1 : Int) v6) 6 5 (by kernel_rfl) (by kernel_rfl) (by kernel_rfl)
      obtain rfl := hq
      refine blockQ_pan (thenQ_pan ?_)
      obtain rfl := sI h
      exact rfl
    refine GX 1 [0, 1, 2, 3, 4] (pq_sign_v2_ok q40) (fun _ => thenQ_pan (blockQ_pan (thenQ_pan ?_)))
    obtain rfl := sI h
    exact rfl
  refine GX 1 [0, 1, 2, 3, 4] (pq_sign_v2_ok q30) (fun _ => thenQ_pan (thenQ_pan ?_))
  obtain rfl := sI h
  exact rfl
def pq_often_v5_L1 (p1 : List UInt8) (p3 p4 : Int) (o1 : List (List UInt8)) (o2 : List Int) (o3 : List (Int × Tree × Tree)) (o4 : List ((List UInt8) × Int)) (r36 : Tree) (r38 r39 : Int) : (Int × Int) → Option ((Int × Int) ⊕ ((Int) ⊕ ((Int × Int) ⊕ (Tree × Int × Int × Int)))) := fun (p15, v13) =>
  (if (decide (v13 < (7 : Int))) = true then (if 0 ≤ v13 ∧ v13 < ((7 : Nat) : Int) then (((if ((([(0 : Int), (0 : Int), (0 : Int), (0 : Int), (42 : Int), (43 : Int), (63 : Int)] : List Int).getD v13.toNat 0) != (0 : Int)) = true then ((pq_sign_v2 (([(0 : Int), (0 : Int), (0 : Int), (0 : Int), (42 : Int), (43 : Int), (63 : Int)] : List Int).getD v13.toNat 0) p1 p15 p3 p4 r38 r39 o1 o2 o3 o4).bind fun (z22 : (Bool × Int) ⊕ (Int × Int)) => match z22 with
  | .inr (e59, e60) => some ((Sum.inr (e59, e60)))
  | .inl (r62, r63) => some ((Sum.inl (r63, r62))))
  else some ((Sum.inl (p15, false))))).bind fun (r64 : ((Int × Bool) ⊕ (Int × Int))) => match r64 with
  | .inl (p16, v15) => (if v15 = true then some (Sum.inr (Sum.inr (Sum.inr ((Tree.node (IntKind.u8.wrap v13) (0 : Int) ([(Tree.node r36.op r36.set r36.kids)] : List Tree)), p16, r38, r39))))
  else some (Sum.inl (p16, (IntKind.i64.wrap (v13 + (1 : Int))))))
  | .inr ((e57, e58)) => some (Sum.inr (Sum.inr (Sum.inl (e57, e58))))) else none)
  else some (Sum.inr (Sum.inl p15)))
def pq_often_v5 (rec_pq_either_v1 : (List UInt8) → Int → Int → Int → Int → Int → (List (List UInt8)) → (List Int) → (List (Int × Tree × Tree)) → (List ((List UInt8) × Int)) → Option ((Tree × Int × Int × Int) ⊕ (Int × Int))) (p1 : List UInt8) (p2 p3 p4 p5 p6 : Int) (o1 : List (List UInt8)) (o2 : List Int) (o3 : List (Int × Tree × Tree)) (o4 : List ((List UInt8) × Int)) : Option ((Tree × Int × Int × Int) ⊕ (Int × Int)) :=
  ((pq_thing_v5 rec_pq_either_v1 p1 p2 p3 p4 p5 p6 o1 o2 o3 o4).bind fun (z13 : (Tree × Int × Int × Int) ⊕ (Int × Int)) => match z13 with
  | .inr (e33, e34) => some (Sum.inr (e33, e34))
  | .inl (r36, r37, r38, r39) => ((iter (pq_often_v5_L1 p1 p3 p4 o1 o2 o3 o4 r36 r38 r39) (r37, (0 : Int))).bind fun (r65 : ((Int) ⊕ ((Int × Int) ⊕ (Tree × Int × Int × Int)))) => match r65 with
  | .inl v14 => some (Sum.inl ((Tree.node r36.op r36.set r36.kids), v14, r38, r39))
  | .inr (.inl (e51, e52)) => some (Sum.inr (e51, e52))
  | .inr (.inr ((r54, r55, r56, r57))) => some (Sum.inl (r54, r55, r56, r57))))
theorem pq_often_v5_ok (rec_pq_either_v1 : (List UInt8) → Int → Int → Int → Int → Int → (List (List UInt8)) → (List Int) → (List (Int × Tree × Tree)) → (List ((List UInt8) × Int)) → Option ((Tree × Int × Int × Int) ⊕ (Int × Int))) (hrec_pq_either_v1 : ∀ {p1 : List UInt8} {p2 : Int} {p3 : Int} {p4 : Int} {p5 : Int} {p6 : Int} {o1 : List (List UInt8)} {o2 : List Int} {o3 : List (Int × Tree × Tree)} {o4 : List ((List UInt8) × Int)} {res : (Tree × Int × Int × Int) ⊕ (Int × Int)}, rec_pq_either_v1 p1 p2 p3 p4 p5 p6 o1 o2 o3 o4 = some res → Does Try.prog 53 [.adr 0 0 10 0] (ob52 p1 p2 p3 p4 p5 p6 o1 o2 o3 o4) (outT (fun (q : Tree × Int × Int × Int) => (.agg [.u8 q.1.op, .u32 q.1.set, .p false (.slice (.tree .u8 .u32)) q.1.kids], (ob52 p1 q.2.1 p3 p4 q.2.2.1 q.2.2.2 o1 o2 o3 o4))) (faultV 75 .i64 .i64) res)) {p1 : List UInt8} {p2 : Int} {p3 : Int} {p4 : Int} {p5 : Int} {p6 : Int} {o1 : List (List UInt8)} {o2 : List Int} {o3 : List (Int × Tree × Tree)} {o4 : List ((List UInt8) × Int)} {res : (Tree × Int × Int × Int) ⊕ (Int × Int)} (h : pq_often_v5 rec_pq_either_v1 p1 p2 p3 p4 p5 p6 o1 o2 o3 o4 = some res) :
    Does Try.prog 60 [.adr 0 0 10 0] (ob52 p1 p2 p3 p4 p5 p6 o1 o2 o3 o4) (outT (fun (q : Tree × Int × Int × Int) => (.agg [.u8 q.1.op, .u32 q.1.set, .p false (.slice (.tree .u8 .u32)) q.1.kids], (ob52 p1 q.2.1 p3 p4 q.2.2.1 q.2.2.2 o1 o2 o3 o4))) (faultV 75 .i64 .i64) res) := by
  refine Does.of_body tbok Try.func60 (by kernel_rfl) rfl (nl rfl) (fun Bw w0 => ?_)
  unfold pq_often_v5 at h
  refine G (W_seq ?_)
  obtain ⟨z13, q13, h⟩ := h_bind h
  rcases z13 with ⟨r36, r37, r38, r39⟩ | ⟨e33, e34⟩
  · refine GOe 1 [0, 1, 2, 3, 4] (pq_thing_v5_ok rec_pq_either_v1 hrec_pq_either_v1 q13) (to_thenG (W_seq (G (W_block ?_))))
    refine W_lp h (fun (p15, v13) => mkSt [(0, .adr 0 0 10 0), (2, .adr 5 0 3 0), (3, .adr 6 0 3 0), (8, .agg [.u8 (0 : Int), .u8 (0 : Int), .u8 (0 : Int), .u8 (0 : Int), .u8 (42 : Int), .u8 (43 : Int), .u8 (63 : Int)]), (9, .i64 v13)] (ob56 p1 p15 p3 p4 r38 r39 o1 o2 o3 o4 (0 : Int) (0 : Int) r36.op r36.set r36.kids) 7 5) (postS (postX Try.f60.ntmps 0 (fun v14 => mkSt [(2, .adr 5 0 3 0), (3, .adr 6 0 3 0)] (ob56 p1 v14 p3 p4 r38 r39 o1 o2 o3 o4 (0 : Int) (0 : Int) r36.op r36.set r36.kids) 7 5)) (postS (postP (faultV 75 .i64 .i64)) (postRO tb Try.f60.ntmps Try.f60.results.toList (fun (r54, r55, r56, r57) => (.agg [.u8 r54.op, .u32 r54.set, .p false (.slice (.tree .u8 .u32)) r54.kids], (ob52 p1 r55 p3 p4 r56 r57 o1 o2 o3 o4)))))) (gg [] [0, 1, 2, 3, 4, 5, 29]) (fun y o h => ?_) (fun r65 h e σ' hq => ?_)
    · obtain ⟨p15, v13⟩ := y
      unfold pq_often_v5_L1 at h
      refine G (W_seq (W_if h (fun hb26 h => ?_) (fun hb26 h => ?_)))
      · refine W_skip_to (to_thenG (W_seq (W_block (GC 1 h (fun h => W_seq (W_pc h (postS (postN Try.f60.ntmps (fun (p16, v15) => mkSt [(0, .adr 0 0 10 0), (2, .adr 5 0 3 0), (3, .adr 6 0 3 0), (4, .i64 v13), (8, .agg [.u8 (0 : Int), .u8 (0 : Int), .u8 (0 : Int), .u8 (0 : Int), .u8 (42 : Int), .u8 (43 : Int), .u8 (63 : Int)]), (9, .i64 v13), (19, .bo v15)] (ob56 p1 p16 p3 p4 r38 r39 o1 o2 o3 o4 (0 : Int) (0 : Int) r36.op r36.set r36.kids) 7 5)) (postP (faultV 75 .i64 .i64))) (fun r64 h => ?_) (fun r64 h e σ' hq => ?_)))))))
        · rcases h_ite h with ⟨hb29, h⟩ | ⟨hb29, h⟩
          · obtain ⟨z22, q22, h⟩ := h_bind h
            rcases z22 with ⟨r62, r63⟩ | ⟨e59, e60⟩
            · have u_1 := (pq_sign_v2_ok q22)
              refine GNe ⟨[(2, true), (6, true)], [(5, (oO u_1 [0, 1, 2, 3, 4]))]⟩ [(3, 4, an hb29), (5, 5, oc (And.intro hb29 u_1)), (6, 6, oc hb29)] ?_
              obtain rfl := sI h
              refine postS_l ?_
              exact postN_to (gg [] [0, 1, 2, 3, 4, 5, 6])
            have u_1 := (pq_sign_v2_ok q22)
            refine GXn u_1 ⟨[(2, true)], [(5, (oD u_1 [0, 1, 2, 3, 4]))]⟩ 5 [(3, 4, an hb29), (5, 5, oc (And.intro hb29 u_1))] (fun _ => ?_)
            obtain rfl := sI h
            refine postS_rr ?_
            exact rfl
          refine GNe ⟨[(2, false), (6, false)], []⟩ [(3, 6, oc hb29)] ?_
          obtain rfl := sI h
          refine postS_l ?_
          exact postN_to (gg [] [0, 1, 2, 3, 4, 5, 6])
        rcases r64 with ⟨p16, v15⟩ | ⟨e57, e58⟩
        · obtain ⟨rfl, hle⟩ := hq
          refine use_to ?_ hle
          refine to_thenG (W_if h (fun hb30 h => ?_) (fun hb30 h => ?_))
          · refine G (W_ret ?_)
            obtain rfl := sI h
            refine blockQ_ret (thenQ_ret (round_ret (postS_rr (postS_rr ?_))))
            exact postRO_mk (RetO_intro [some (.tree .u8 .u32)] [] [0, 1, 2, 3, 4, 5, 31] [(2, .adr 5 0 3 0)] (ob57 p1 p16 p3 p4 r38 r39 o1 o2 o3 o4 (IntKind.u8.wrap v13) (0 : Int) ([(Tree.node r36.op r36.set r36.kids)] : List Tree)) 7 5 (by kernel_rfl) (by kernel_rfl) (by kernel_rfl))
          refine W_skip_to (to_block (to_thenG (Ge ?_)))
          exact eB h (gg [] [0, 1, 2, 3, 4, 5, 6])
        obtain rfl := hq
        obtain rfl := sI h
        refine thenQ_pan (blockQ_pan (thenQ_pan (round_pan (postS_rr (postS_lr ?_)))))
        exact rfl
      refine W_exit_to (thenE ?_)
      obtain rfl := sI h
      refine roundE (postS_l ?_)
      exact postX_to (gg [] [0, 1, 2, 3, 4, 5, 6])
    rcases r65 with v14 | ⟨e51, e52⟩ | ⟨r54, r55, r56, r57⟩
    · obtain ⟨rfl, hle⟩ := hq
      refine use_to ?_ hle
      refine blockE_eq (to_thenG (G (W_ret ?_)))
      obtain rfl := sI h
      exact RetO_intro [some (.tree .u8 .u32)] [] [0, 1, 2, 3, 4, 5] [(2, .adr 5 0 3 0)] (ob58 p1 v14 p3 p4 r38 r39 o1 o2 o3 o4 r36.op r36.set r36.kids) 6 5 (by kernel_rfl) (by kernel_rfl) (by kernel_rfl)
    · obtain rfl := hq
      refine blockQ_pan (thenQ_pan ?_)
      obtain rfl := sI h
      exact rfl
    obtain ⟨rfl, hr⟩ := hq
    refine blockQ_ret (thenQ_ret ?_)
    obtain rfl := sI h
    exact hr
  refine GX 1 [0, 1, 2, 3, 4] (pq_thing_v5_ok rec_pq_either_v1 hrec_pq_either_v1 q13) (fun _ => thenQ_pan ?_)
  obtain rfl := sI h
  exact rfl
def pq_row_v5_L1 (p1 : List UInt8) (p3 p4 : Int) (o1 : List (List UInt8)) (o2 : List Int) (o3 : List (Int × Tree × Tree)) (o4 : List ((List UInt8) × Int)) (rec_pq_either_v1 : (List UInt8) → Int → Int → Int → Int → Int → (List (List UInt8)) → (List Int) → (List (Int × Tree × Tree)) → (List ((List UInt8) × Int)) → Option ((Tree × Int × Int × Int) ⊕ (Int × Int))) : (Int × Int × Int × (List Tree) × Int) → Option ((Int × Int × Int × (List Tree) × Int) ⊕ (((List Tree) × Int × Int × Int) ⊕ (Int × Int))) := fun (p16, p17, p18, l5, c4) =>
  ((((rules_letter c4).bind fun r88 =>
  (if r88 = true then some (true)
  else (if (c4 == (40 : Int)) = true then some (true)
  else (if (c4 == (91 : Int)) = true then some (true)
  else some ((c4 == (46 : Int)))))))).bind fun v15 => (if v15 = true then ((pq_often_v5 rec_pq_either_v1 p1 p16 p3 p4 p17 p18 o1 o2 o3 o4).bind fun (z26 : (Tree × Int × Int × Int) ⊕ (Int × Int)) => match z26 with
  | .inr (e55, e56) => some (Sum.inr (Sum.inr (e55, e56)))
  | .inl (r93, r94, r95, r96) => (if (l5.length + ([(Tree.node r93.op r93.set r93.kids)] : List Tree).length) * 32 ≤ 140737488355328 ∧ l5.length + ([(Tree.node r93.op r93.set r93.kids)] : List Tree).length ≤ 9223372036854775807 then ((pq_here_v2 p1 r94 p3 p4 r95 r96 o1 o2 o3 o4).bind fun (z28 : (Int × Int) ⊕ (Int × Int)) => match z28 with
  | .inr (e59, e60) => some (Sum.inr (Sum.inr (e59, e60)))
  | .inl (r99, r100) => some (Sum.inl (r100, r95, r96, (l5 ++ ([(Tree.node r93.op r93.set r93.kids)] : List Tree)), r99))) else none))
  else some (Sum.inr (Sum.inl (l5, p16, p17, p18)))))
def pq_row_v5 (rec_pq_either_v1 : (List UInt8) → Int → Int → Int → Int → Int → (List (List UInt8)) → (List Int) → (List (Int × Tree × Tree)) → (List ((List UInt8) × Int)) → Option ((Tree × Int × Int × Int) ⊕ (Int × Int))) (p1 : List UInt8) (p2 p3 p4 p5 p6 : Int) (o1 : List (List UInt8)) (o2 : List Int) (o3 : List (Int × Tree × Tree)) (o4 : List ((List UInt8) × Int)) : Option ((Tree × Int × Int × Int) ⊕ (Int × Int)) :=
  ((pq_here_v2 p1 p2 p3 p4 p5 p6 o1 o2 o3 o4).bind fun (z16 : (Int × Int) ⊕ (Int × Int)) => match z16 with
  | .inr (e33, e34) => some (Sum.inr (e33, e34))
  | .inl (r54, r55) => ((iter (pq_row_v5_L1 p1 p3 p4 o1 o2 o3 o4 rec_pq_either_v1) (r55, p5, p6, ([] : List Tree), r54)).bind fun (r101 : (((List Tree) × Int × Int × Int) ⊕ (Int × Int))) => match r101 with
  | .inl (l6, v12, v13, v14) => (if ((l6.length : Int) == (0 : Int)) = true then some (Sum.inl ((Tree.node (0 : Int) (0 : Int) ([] : List Tree)), v12, v13, v14))
  else (if ((l6.length : Int) == (1 : Int)) = true then (if 0 ≤ (0 : Int) ∧ (0 : Int) < (l6.length : Int) then (if (0 : Int).toNat < l6.length then some (Sum.inl ((Tree.node ((l6.getD ((0 : Int).toNat) (Tree.node 0 0 [])).op) ((l6.getD ((0 : Int).toNat) (Tree.node 0 0 [])).set) ((l6.getD ((0 : Int).toNat) (Tree.node 0 0 [])).kids)), v12, v13, v14)) else none) else none)
  else some (Sum.inl ((Tree.node (2 : Int) (0 : Int) l6), v12, v13, v14))))
  | .inr ((e51, e52)) => some (Sum.inr (e51, e52))))
theorem pq_row_v5_ok (rec_pq_either_v1 : (List UInt8) → Int → Int → Int → Int → Int → (List (List UInt8)) → (List Int) → (List (Int × Tree × Tree)) → (List ((List UInt8) × Int)) → Option ((Tree × Int × Int × Int) ⊕ (Int × Int))) (hrec_pq_either_v1 : ∀ {p1 : List UInt8} {p2 : Int} {p3 : Int} {p4 : Int} {p5 : Int} {p6 : Int} {o1 : List (List UInt8)} {o2 : List Int} {o3 : List (Int × Tree × Tree)} {o4 : List ((List UInt8) × Int)} {res : (Tree × Int × Int × Int) ⊕ (Int × Int)}, rec_pq_either_v1 p1 p2 p3 p4 p5 p6 o1 o2 o3 o4 = some res → Does Try.prog 53 [.adr 0 0 10 0] (ob52 p1 p2 p3 p4 p5 p6 o1 o2 o3 o4) (outT (fun (q : Tree × Int × Int × Int) => (.agg [.u8 q.1.op, .u32 q.1.set, .p false (.slice (.tree .u8 .u32)) q.1.kids], (ob52 p1 q.2.1 p3 p4 q.2.2.1 q.2.2.2 o1 o2 o3 o4))) (faultV 75 .i64 .i64) res)) {p1 : List UInt8} {p2 : Int} {p3 : Int} {p4 : Int} {p5 : Int} {p6 : Int} {o1 : List (List UInt8)} {o2 : List Int} {o3 : List (Int × Tree × Tree)} {o4 : List ((List UInt8) × Int)} {res : (Tree × Int × Int × Int) ⊕ (Int × Int)} (h : pq_row_v5 rec_pq_either_v1 p1 p2 p3 p4 p5 p6 o1 o2 o3 o4 = some res) :
    Does Try.prog 58 [.adr 0 0 10 0] (ob52 p1 p2 p3 p4 p5 p6 o1 o2 o3 o4) (outT (fun (q : Tree × Int × Int × Int) => (.agg [.u8 q.1.op, .u32 q.1.set, .p false (.slice (.tree .u8 .u32)) q.1.kids], (ob52 p1 q.2.1 p3 p4 q.2.2.1 q.2.2.2 o1 o2 o3 o4))) (faultV 75 .i64 .i64) res) := by
  refine Does.of_body tbok Try.func58 (by kernel_rfl) rfl (nl rfl) (fun Bw w0 => ?_)
  unfold pq_row_v5 at h
  refine G (G (W_seq (W_seq ?_)))
  obtain ⟨z16, q25, h⟩ := h_bind h
  rcases z16 with ⟨r54, r55⟩ | ⟨e33, e34⟩
  · refine GOe 1 [0, 1, 2, 3, 4] (pq_here_v2_ok q25) (to_thenG (W_block (W_lp h (fun (p16, p17, p18, l5, c4) => mkSt [(0, .adr 0 0 10 0), (2, .adr 5 0 3 0), (3, .sl 6), (4, .u8 c4)] (ob59 p1 p16 p3 p4 p17 p18 o1 o2 o3 o4 (0 : Int) (0 : Int) l5) 7 5) (postS (postX Try.f58.ntmps 0 (fun (l6, v12, v13, v14) => mkSt [(2, .adr 5 0 3 0), (3, .sl 6)] (ob59 p1 v12 p3 p4 v13 v14 o1 o2 o3 o4 (0 : Int) (0 : Int) l6) 7 5)) (postP (faultV 75 .i64 .i64))) (gg [.nilS 3 45 27 (.tree .u8 .u32)] [0, 1, 2, 3, 4, 5, 45]) (fun y o h => ?_) (fun r101 h e σ' hq => ?_))))
    · obtain ⟨p16, p17, p18, l5, c4⟩ := y
      unfold pq_row_v5_L1 at h
      refine W_seq (W_seq (W_pn h (fun v15 => mkSt [(0, .adr 0 0 10 0), (2, .adr 5 0 3 0), (3, .sl 6), (20, .bo v15)] (ob59 p1 p16 p3 p4 p17 p18 o1 o2 o3 o4 (0 : Int) (0 : Int) l5) 7 5) (fun v15 h => ?_) (fun v15 h => ?_)))
      · obtain ⟨r88, q42, h⟩ := h_bind h
        rcases h_ite h with ⟨hb59, h⟩ | ⟨hb59, h⟩
        · have u_1 := (rules_letter_ok q42)
          refine GNe ⟨[(2, true), (5, true)], [(1, (oP u_1))]⟩ [(1, 1, oc u_1), (3, 5, oc hb59)] ?_
          exact eN h (gg [] [0, 1, 2, 3, 4, 5, 6])
        rcases h_ite h with ⟨hb60, h⟩ | ⟨hb60, h⟩
        · have u_1 := (rules_letter_ok q42)
          refine GNe ⟨[(2, false), (5, false), (6, true), (9, true)], [(1, (oP u_1))]⟩ [(1, 1, oc u_1), (3, 4, an hb59), (5, 5, oc hb59), (7, 9, oc hb60)] ?_
          exact eN h (gg [] [0, 1, 2, 3, 4, 5, 6])
        rcases h_ite h with ⟨hb61, h⟩ | ⟨hb61, h⟩
        · have u_1 := (rules_letter_ok q42)
          refine GNe ⟨[(2, false), (5, false), (6, false), (9, false), (10, true), (13, true)], [(1, (oP u_1))]⟩ [(1, 1, oc u_1), (3, 4, an hb59), (5, 5, oc hb59), (7, 8, an hb60), (9, 9, oc hb60), (11, 13, oc hb61)] ?_
          exact eN h (gg [] [0, 1, 2, 3, 4, 5, 6])
        have u_1 := (rules_letter_ok q42)
        refine GNe ⟨[(2, false), (5, false), (6, false), (9, false), (10, false), (13, false)], [(1, (oP u_1))]⟩ [(1, 1, oc u_1), (3, 4, an hb59), (5, 5, oc hb59), (7, 8, an hb60), (9, 9, oc hb60), (11, 12, an hb61), (13, 13, oc hb61)] ?_
        exact eN h (gg [] [0, 1, 2, 3, 4, 5, 6])
      refine to_thenG (W_if h (fun hb62 h => ?_) (fun hb62 h => ?_))
      · refine W_skip_to (to_thenG (W_seq (W_block ?_)))
        obtain ⟨z26, q44, h⟩ := h_bind h
        rcases z26 with ⟨r93, r94, r95, r96⟩ | ⟨e55, e56⟩
        · obtain ⟨c16, h⟩ := h_guard h
          have u_1 := (pq_often_v5_ok rec_pq_either_v1 hrec_pq_either_v1 q44)
          refine GNe ⟨[], [(2, (oO u_1 [0, 1, 2, 3, 4]))]⟩ [(2, 2, oc u_1), (4, 4, oc c16)] (to_block (to_thenG ?_))
          obtain ⟨z28, q46, h⟩ := h_bind h
          rcases z28 with ⟨r99, r100⟩ | ⟨e59, e60⟩
          · refine GOe 1 [0, 1, 2, 3, 4] (pq_here_v2_ok q46) ?_
            exact eB h (gg [] [0, 1, 2, 3, 4, 5, 39])
          refine GX 1 [0, 1, 2, 3, 4] (pq_here_v2_ok q46) (fun _ => ?_)
          obtain rfl := sI h
          refine round_pan (postS_rr ?_)
          exact rfl
        refine GX 2 [0, 1, 2, 3, 4] (pq_often_v5_ok rec_pq_either_v1 hrec_pq_either_v1 q44) (fun _ => ?_)
        obtain rfl := sI h
        refine blockQ_pan (thenQ_pan (round_pan (postS_rr ?_)))
        exact rfl
      refine W_exit_to (thenE ?_)
      obtain rfl := sI h
      refine roundE (postS_l ?_)
      exact postX_to (gg [] [0, 1, 2, 3, 4, 5, 6])
    rcases r101 with ⟨l6, v12, v13, v14⟩ | ⟨e51, e52⟩
    · obtain ⟨rfl, hle⟩ := hq
      refine use_to ?_ hle
      refine blockE_eq (to_thenG (W_seq (G (W_block (G (W_if h (fun hb63 h => ?_) (fun hb63 h => ?_)))))))
      · refine G (W_ret (blockQ_ret (thenQ_ret ?_)))
        obtain rfl := sI h
        exact RetO_intro [some (.tree .u8 .u32)] [] [0, 1, 2, 3, 4, 5] [(2, .adr 5 0 3 0)] (ob55 p1 v12 p3 p4 v13 v14 o1 o2 o3 o4 (0 : Int) (0 : Int)) 6 5 (by kernel_rfl) (by kernel_rfl) (by kernel_rfl)
      refine G (W_if h (fun hb64 h => ?_) (fun hb64 h => ?_))
      · obtain ⟨c19, c20, h⟩ := g2 h
        refine GN a0 [(1, 1, oc c19), (2, 2, oc c20)] (W_ret (blockQ_ret (thenQ_ret ?_)))
        obtain rfl := sI h
        exact RetO_intro [some (.tree .u8 .u32)] [] [0, 1, 2, 3, 4, 5] [(2, .adr 5 0 3 0)] (ob58 p1 v12 p3 p4 v13 v14 o1 o2 o3 o4 ((l6.getD ((0 : Int).toNat) (Tree.node 0 0 [])).op) ((l6.getD ((0 : Int).toNat) (Tree.node 0 0 [])).set) ((l6.getD ((0 : Int).toNat) (Tree.node 0 0 [])).kids)) 6 5 (by kernel_rfl) (by kernel_rfl) (by kernel_rfl)
      refine W_skip_to (to_block (to_thenG (G (W_ret ?_))))
      obtain rfl := sI h
      exact RetO_intro [some (.tree .u8 .u32)] [] [0, 1, 2, 3, 4, 5, 6] [(2, .adr 5 0 3 0)] (ob57 p1 v12 p3 p4 v13 v14 o1 o2 o3 o4 (2 : Int) (0 : Int) l6) 7 5 (by kernel_rfl) (by kernel_rfl) (by kernel_rfl)
    obtain rfl := hq
    refine blockQ_pan (thenQ_pan ?_)
    obtain rfl := sI h
    exact rfl
  refine GX 1 [0, 1, 2, 3, 4] (pq_here_v2_ok q25) (fun _ => thenQ_pan (thenQ_pan ?_))
  obtain rfl := sI h
  exact rfl
def pq_either_v1_L1 (p1 : List UInt8) (p3 p4 : Int) (o1 : List (List UInt8)) (o2 : List Int) (o3 : List (Int × Tree × Tree)) (o4 : List ((List UInt8) × Int)) (rec_pq_either_v1 : (List UInt8) → Int → Int → Int → Int → Int → (List (List UInt8)) → (List Int) → (List (Int × Tree × Tree)) → (List ((List UInt8) × Int)) → Option ((Tree × Int × Int × Int) ⊕ (Int × Int))) : (Int × Int × Int × List Tree) → Option ((Int × Int × Int × List Tree) ⊕ (((List Tree) × Int × Int × Int) ⊕ (Int × Int))) := fun (p26, p27, p28, l11) =>
  ((pq_sign_v2 (124 : Int) p1 p26 p3 p4 p27 p28 o1 o2 o3 o4).bind fun (z54 : (Bool × Int) ⊕ (Int × Int)) => match z54 with
  | .inr (e115, e116) => some (Sum.inr (Sum.inr (e115, e116)))
  | .inl (r165, r166) => (if r165 = true then ((pq_row_v5 rec_pq_either_v1 p1 r166 p3 p4 p27 p28 o1 o2 o3 o4).bind fun (z56 : (Tree × Int × Int × Int) ⊕ (Int × Int)) => match z56 with
  | .inr (e119, e120) => some (Sum.inr (Sum.inr (e119, e120)))
  | .inl (r171, r172, r173, r174) => (if (l11.length + ([(Tree.node r171.op r171.set r171.kids)] : List Tree).length) * 32 ≤ 140737488355328 ∧ l11.length + ([(Tree.node r171.op r171.set r171.kids)] : List Tree).length ≤ 9223372036854775807 then some (Sum.inl (r172, r173, r174, (l11 ++ ([(Tree.node r171.op r171.set r171.kids)] : List Tree)))) else none))
  else some (Sum.inr (Sum.inl (l11, r166, p27, p28)))))
def pq_either_v1_F (rec_pq_either_v1 : (List UInt8) → Int → Int → Int → Int → Int → (List (List UInt8)) → (List Int) → (List (Int × Tree × Tree)) → (List ((List UInt8) × Int)) → Option ((Tree × Int × Int × Int) ⊕ (Int × Int))) (p1 : List UInt8) (p2 p3 p4 p5 p6 : Int) (o1 : List (List UInt8)) (o2 : List Int) (o3 : List (Int × Tree × Tree)) (o4 : List ((List UInt8) × Int)) : Option ((Tree × Int × Int × Int) ⊕ (Int × Int)) :=
  ((pq_row_v5 rec_pq_either_v1 p1 p2 p3 p4 p5 p6 o1 o2 o3 o4).bind fun (z44 : (Tree × Int × Int × Int) ⊕ (Int × Int)) => match z44 with
  | .inr (e93, e94) => some (Sum.inr (e93, e94))
  | .inl (r135, r136, r137, r138) => ((iter (pq_either_v1_L1 p1 p3 p4 o1 o2 o3 o4 rec_pq_either_v1) (r136, r137, r138, ([(Tree.node r135.op r135.set r135.kids)] : List Tree))).bind fun (r175 : (((List Tree) × Int × Int × Int) ⊕ (Int × Int))) => match r175 with
  | .inl (l12, v17, v18, v19) => (if ((l12.length : Int) == (1 : Int)) = true then (if 0 ≤ (0 : Int) ∧ (0 : Int) < (l12.length : Int) then (if (0 : Int).toNat < l12.length then some (Sum.inl ((Tree.node ((l12.getD ((0 : Int).toNat) (Tree.node 0 0 [])).op) ((l12.getD ((0 : Int).toNat) (Tree.node 0 0 [])).set) ((l12.getD ((0 : Int).toNat) (Tree.node 0 0 [])).kids)), v17, v18, v19)) else none) else none)
  else some (Sum.inl ((Tree.node (3 : Int) (0 : Int) l12), v17, v18, v19)))
  | .inr ((e111, e112)) => some (Sum.inr (e111, e112))))
def pq_either_v1 : Nat → (List UInt8) → Int → Int → Int → Int → Int → (List (List UInt8)) → (List Int) → (List (Int × Tree × Tree)) → (List ((List UInt8) × Int)) → Option ((Tree × Int × Int × Int) ⊕ (Int × Int))
  | 0 => fun _ _ _ _ _ _ _ _ _ _ => none
  | n + 1 => pq_either_v1_F (pq_either_v1 n)
theorem pq_either_v1_F_ok (rec_pq_either_v1 : (List UInt8) → Int → Int → Int → Int → Int → (List (List UInt8)) → (List Int) → (List (Int × Tree × Tree)) → (List ((List UInt8) × Int)) → Option ((Tree × Int × Int × Int) ⊕ (Int × Int))) (hrec_pq_either_v1 : ∀ {p1 : List UInt8} {p2 : Int} {p3 : Int} {p4 : Int} {p5 : Int} {p6 : Int} {o1 : List (List UInt8)} {o2 : List Int} {o3 : List (Int × Tree × Tree)} {o4 : List ((List UInt8) × Int)} {res : (Tree × Int × Int × Int) ⊕ (Int × Int)}, rec_pq_either_v1 p1 p2 p3 p4 p5 p6 o1 o2 o3 o4 = some res → Does Try.prog 53 [.adr 0 0 10 0] (ob52 p1 p2 p3 p4 p5 p6 o1 o2 o3 o4) (outT (fun (q : Tree × Int × Int × Int) => (.agg [.u8 q.1.op, .u32 q.1.set, .p false (.slice (.tree .u8 .u32)) q.1.kids], (ob52 p1 q.2.1 p3 p4 q.2.2.1 q.2.2.2 o1 o2 o3 o4))) (faultV 75 .i64 .i64) res)) {p1 : List UInt8} {p2 : Int} {p3 : Int} {p4 : Int} {p5 : Int} {p6 : Int} {o1 : List (List UInt8)} {o2 : List Int} {o3 : List (Int × Tree × Tree)} {o4 : List ((List UInt8) × Int)} {res : (Tree × Int × Int × Int) ⊕ (Int × Int)} (h : pq_either_v1_F rec_pq_either_v1 p1 p2 p3 p4 p5 p6 o1 o2 o3 o4 = some res) :
    Does Try.prog 53 [.adr 0 0 10 0] (ob52 p1 p2 p3 p4 p5 p6 o1 o2 o3 o4) (outT (fun (q : Tree × Int × Int × Int) => (.agg [.u8 q.1.op, .u32 q.1.set, .p false (.slice (.tree .u8 .u32)) q.1.kids], (ob52 p1 q.2.1 p3 p4 q.2.2.1 q.2.2.2 o1 o2 o3 o4))) (faultV 75 .i64 .i64) res) := by
  refine Does.of_body tbok Try.func53 (by kernel_rfl) rfl (nl rfl) (fun Bw w0 => ?_)
  unfold pq_either_v1_F at h
  refine G (W_seq ?_)
  obtain ⟨z44, q44, h⟩ := h_bind h
  rcases z44 with ⟨r135, r136, r137, r138⟩ | ⟨e93, e94⟩
  · refine GOe 1 [0, 1, 2, 3, 4] (pq_row_v5_ok rec_pq_either_v1 hrec_pq_either_v1 q44) (to_thenG (W_seq (W_block (W_lp h (fun (p26, p27, p28, l11) => mkSt [(0, .adr 0 0 10 0), (2, .adr 5 0 3 0), (3, .sl 6)] (ob59 p1 p26 p3 p4 p27 p28 o1 o2 o3 o4 (0 : Int) (0 : Int) l11) 7 5) (postS (postX Try.f53.ntmps 0 (fun (l12, v17, v18, v19) => mkSt [(2, .adr 5 0 3 0), (3, .sl 6)] (ob59 p1 v17 p3 p4 v18 v19 o1 o2 o3 o4 (0 : Int) (0 : Int) l12) 7 5)) (postP (faultV 75 .i64 .i64))) (gg [] [0, 1, 2, 3, 4, 5, 29]) (fun y o h => ?_) (fun r175 h e σ' hq => ?_)))))
    · obtain ⟨p26, p27, p28, l11⟩ := y
      unfold pq_either_v1_L1 at h
      refine W_seq (W_seq ?_)
      obtain ⟨z54, q54, h⟩ := h_bind h
      rcases z54 with ⟨r165, r166⟩ | ⟨e115, e116⟩
      · refine GOe 1 [0, 1, 2, 3, 4] (pq_sign_v2_ok q54) (to_thenG (W_if h (fun hb15 h => ?_) (fun hb15 h => ?_)))
        · refine W_skip_to (to_thenG (W_block ?_))
          obtain ⟨z56, q56, h⟩ := h_bind h
          rcases z56 with ⟨r171, r172, r173, r174⟩ | ⟨e119, e120⟩
          · obtain ⟨c36, h⟩ := h_guard h
            have u_1 := (pq_row_v5_ok rec_pq_either_v1 hrec_pq_either_v1 q56)
            refine GNe ⟨[], [(2, (oO u_1 [0, 1, 2, 3, 4]))]⟩ [(2, 2, oc u_1), (4, 4, oc c36)] (to_block ?_)
            exact eB h (gg [] [0, 1, 2, 3, 4, 5, 55])
          refine GX 2 [0, 1, 2, 3, 4] (pq_row_v5_ok rec_pq_either_v1 hrec_pq_either_v1 q56) (fun _ => ?_)
          obtain rfl := sI h
          refine blockQ_pan (round_pan (postS_rr ?_))
          exact rfl
        refine W_exit_to (thenE ?_)
        obtain rfl := sI h
        refine roundE (postS_l ?_)
        exact postX_to (gg [] [0, 1, 2, 3, 4, 5, 6])
      refine GX 1 [0, 1, 2, 3, 4] (pq_sign_v2_ok q54) (fun _ => ?_)
      obtain rfl := sI h
      refine thenQ_pan (thenQ_pan (round_pan (postS_rr ?_)))
      exact rfl
    rcases r175 with ⟨l12, v17, v18, v19⟩ | ⟨e111, e112⟩
    · obtain ⟨rfl, hle⟩ := hq
      refine use_to ?_ hle
      refine blockE_eq (to_thenG (W_seq (G (W_if h (fun hb16 h => ?_) (fun hb16 h => ?_)))))
      · obtain ⟨c39, c40, h⟩ := g2 h
        refine GN a0 [(1, 1, oc c39), (2, 2, oc c40)] (W_ret (thenQ_ret ?_))
        obtain rfl := sI h
        exact RetO_intro [some (.tree .u8 .u32)] [] [0, 1, 2, 3, 4, 5] [(2, .adr 5 0 3 0)] (ob58 p1 v17 p3 p4 v18 v19 o1 o2 o3 o4 ((l12.getD ((0 : Int).toNat) (Tree.node 0 0 [])).op) ((l12.getD ((0 : Int).toNat) (Tree.node 0 0 [])).set) ((l12.getD ((0 : Int).toNat) (Tree.node 0 0 [])).kids)) 6 5 (by kernel_rfl) (by kernel_rfl) (by kernel_rfl)
      refine W_skip_to (to_thenG (G (W_ret ?_)))
      obtain rfl := sI h
      exact RetO_intro [some (.tree .u8 .u32)] [] [0, 1, 2, 3, 4, 5, 6] [(2, .adr 5 0 3 0)] (ob57 p1 v17 p3 p4 v18 v19 o1 o2 o3 o4 (3 : Int) (0 : Int) l12) 7 5 (by kernel_rfl) (by kernel_rfl) (by kernel_rfl)
    obtain rfl := hq
    refine blockQ_pan (thenQ_pan ?_)
    obtain rfl := sI h
    exact rfl
  refine GX 1 [0, 1, 2, 3, 4] (pq_row_v5_ok rec_pq_either_v1 hrec_pq_either_v1 q44) (fun _ => thenQ_pan ?_)
  obtain rfl := sI h
  exact rfl
theorem pq_either_v1_ok : ∀ (n : Nat) {p1 : List UInt8} {p2 : Int} {p3 : Int} {p4 : Int} {p5 : Int} {p6 : Int} {o1 : List (List UInt8)} {o2 : List Int} {o3 : List (Int × Tree × Tree)} {o4 : List ((List UInt8) × Int)} {res : (Tree × Int × Int × Int) ⊕ (Int × Int)}, pq_either_v1 n p1 p2 p3 p4 p5 p6 o1 o2 o3 o4 = some res → Does Try.prog 53 [.adr 0 0 10 0] (ob52 p1 p2 p3 p4 p5 p6 o1 o2 o3 o4) (outT (fun (q : Tree × Int × Int × Int) => (.agg [.u8 q.1.op, .u32 q.1.set, .p false (.slice (.tree .u8 .u32)) q.1.kids], (ob52 p1 q.2.1 p3 p4 q.2.2.1 q.2.2.2 o1 o2 o3 o4))) (faultV 75 .i64 .i64) res)
  | 0, _, _, _, _, _, _, _, _, _, _, _, h => by cases h
  | n + 1, p1, p2, p3, p4, p5, p6, o1, o2, o3, o4, res, h => pq_either_v1_F_ok (pq_either_v1 n) (pq_either_v1_ok n)  h
def pq_rule_v1 (does1 at1 : Int) (p1 : List UInt8) (p2 p3 p4 p5 p6 : Int) (o1 : List (List UInt8)) (o2 : List Int) (o3 : List (Int × Tree × Tree)) (o4 : List ((List UInt8) × Int)) : Option ((Int × (List (Int × Tree × Tree)) × Int × Int) ⊕ (Int × Int)) :=
  (if (decide ((o3.length : Int) ≥ (24 : Int))) = true then ((pq_fail_v2 (24 : Int) at1 p1 p2 p3 p4 p5 p6 o1 o2 o3 o4).bind fun (z12 : (Unit) ⊕ (Int × Int)) => match z12 with
  | .inr (e23, e24) => some (Sum.inr (e23, e24))
  | .inl _ => none)
  else ((pq_either_v1 1000 p1 p2 p3 p4 p5 p6 o1 o2 o3 o4).bind fun (z14 : (Tree × Int × Int × Int) ⊕ (Int × Int)) => match z14 with
  | .inr (e27, e28) => some (Sum.inr (e27, e28))
  | .inl (r25, r26, r27, r28) => ((pq_want_v1 (47 : Int) p1 r26 p3 p4 r27 r28 o1 o2 o3 o4).bind fun (z16 : (Int) ⊕ (Int × Int)) => match z16 with
  | .inr (e31, e32) => some (Sum.inr (e31, e32))
  | .inl r30 => ((pq_either_v1 1000 p1 r30 p3 p4 r27 r28 o1 o2 o3 o4).bind fun (z18 : (Tree × Int × Int × Int) ⊕ (Int × Int)) => match z18 with
  | .inr (e35, e36) => some (Sum.inr (e35, e36))
  | .inl (r35, r36, r37, r38) => ((pq_want_v1 (59 : Int) p1 r36 p3 p4 r37 r38 o1 o2 o3 o4).bind fun (z20 : (Int) ⊕ (Int × Int)) => match z20 with
  | .inr (e39, e40) => some (Sum.inr (e39, e40))
  | .inl r40 => (if (o3.length + ([(does1, ((Tree.node r25.op r25.set r25.kids), (Tree.node r35.op r35.set r35.kids)))] : List (Int × Tree × Tree)).length) * 72 ≤ 140737488355328 ∧ o3.length + ([(does1, ((Tree.node r25.op r25.set r25.kids), (Tree.node r35.op r35.set r35.kids)))] : List (Int × Tree × Tree)).length ≤ 9223372036854775807 then some (Sum.inl (r40, (o3 ++ ([(does1, ((Tree.node r25.op r25.set r25.kids), (Tree.node r35.op r35.set r35.kids)))] : List (Int × Tree × Tree))), r37, r38)) else none))))))
theorem pq_rule_v1_ok {does1 : Int} {at1 : Int} {p1 : List UInt8} {p2 : Int} {p3 : Int} {p4 : Int} {p5 : Int} {p6 : Int} {o1 : List (List UInt8)} {o2 : List Int} {o3 : List (Int × Tree × Tree)} {o4 : List ((List UInt8) × Int)} {res : (Int × (List (Int × Tree × Tree)) × Int × Int) ⊕ (Int × Int)} (h : pq_rule_v1 does1 at1 p1 p2 p3 p4 p5 p6 o1 o2 o3 o4 = some res) :
    Does Try.prog 43 [.adr 0 0 10 0, .u8 does1, .i64 at1] (ob52 p1 p2 p3 p4 p5 p6 o1 o2 o3 o4) (outT (fun (q : Int × (List (Int × Tree × Tree)) × Int × Int) => (.tup [], (ob60 p1 q.1 p3 p4 q.2.2.1 q.2.2.2 o1 o2 o4 q.2.1))) (faultV 75 .i64 .i64) res) := by
  refine Does.of_body tbok Try.func43 (by kernel_rfl) rfl (nl rfl) (fun Bw w0 => ?_)
  unfold pq_rule_v1 at h
  refine W_seq (G (W_if h (fun hb2 h => ?_) (fun hb2 h => ?_)))
  · obtain ⟨z12, q12, h⟩ := h_bind h
    rcases z12 with _ | ⟨e23, e24⟩
    · cases h
    refine GX 2 [0, 1, 2, 3, 4] (pq_fail_v2_ok q12) (fun _ => thenQ_pan ?_)
    obtain rfl := sI h
    exact rfl
  refine W_skip_to (to_thenG (G (W_seq ?_)))
  obtain ⟨z14, q14, h⟩ := h_bind h
  rcases z14 with ⟨r25, r26, r27, r28⟩ | ⟨e27, e28⟩
  · refine GOe 1 [0, 1, 2, 3, 4] (pq_either_v1_ok 1000 q14) (to_thenG (W_seq ?_))
    obtain ⟨z16, q16, h⟩ := h_bind h
    rcases z16 with r30 | ⟨e31, e32⟩
    · refine GOe 1 [0, 1, 2, 3, 4] (pq_want_v1_ok q16) (to_thenG (W_seq ?_))
      obtain ⟨z18, q18, h⟩ := h_bind h
      rcases z18 with ⟨r35, r36, r37, r38⟩ | ⟨e35, e36⟩
      · refine GOe 1 [0, 1, 2, 3, 4] (pq_either_v1_ok 1000 q18) (to_thenG (W_seq ?_))
        obtain ⟨z20, q20, h⟩ := h_bind h
        rcases z20 with r40 | ⟨e39, e40⟩
        · refine GOe 1 [0, 1, 2, 3, 4] (pq_want_v1_ok q20) (to_thenG ?_)
          obtain ⟨c4, h⟩ := h_guard h
          refine GDe a0 [(8, 8, oc c4)] ?_
          obtain rfl := sI h
          exact (RetO_intro [] [] [0, 1, 2, 3, 4, 253] [] (ob60 p1 r40 p3 p4 r37 r38 o1 o2 o4 (o3 ++ ([(does1, ((Tree.node r25.op r25.set r25.kids), (Tree.node r35.op r35.set r35.kids)))] : List (Int × Tree × Tree)))) 6 5 (by kernel_rfl) (by kernel_rfl) (by kernel_rfl)).normal
        refine GX 1 [0, 1, 2, 3, 4] (pq_want_v1_ok q20) (fun _ => thenQ_pan ?_)
        obtain rfl := sI h
        exact rfl
      refine GX 1 [0, 1, 2, 3, 4] (pq_either_v1_ok 1000 q18) (fun _ => thenQ_pan ?_)
      obtain rfl := sI h
      exact rfl
    refine GX 1 [0, 1, 2, 3, 4] (pq_want_v1_ok q16) (fun _ => thenQ_pan ?_)
    obtain rfl := sI h
    exact rfl
  refine GX 1 [0, 1, 2, 3, 4] (pq_either_v1_ok 1000 q14) (fun _ => thenQ_pan ?_)
  obtain rfl := sI h
  exact rfl
def pq_all_L1 (p1 : List UInt8) : (Int × (List (List UInt8)) × Int × Int × (List Int) × (List (Int × Tree × Tree)) × (List ((List UInt8) × Int)) × Int × Int) → Option ((Int × (List (List UInt8)) × Int × Int × (List Int) × (List (Int × Tree × Tree)) × (List ((List UInt8) × Int)) × Int × Int) ⊕ ((Int × (List (List UInt8)) × Int × Int × (List Int) × (List (Int × Tree × Tree)) × (List ((List UInt8) × Int)) × Int × Int) ⊕ (Int × Int))) := fun (p34, p35, p36, p37, p38, p39, p40, p41, p42) =>
  ((pq_here_v2 p1 p34 p36 p37 p41 p42 p35 p38 p39 p40).bind fun (z78 : (Int × Int) ⊕ (Int × Int)) => match z78 with
  | .inr (e159, e160) => some (Sum.inr (Sum.inr (e159, e160)))
  | .inl (r196, r197) => (if (r196 != (0 : Int)) = true then ((pq_word_v2 p1 r197 p36 p37 p41 p42 p35 p38 p39 p40).bind fun (z80 : ((List UInt8) × Int × Int) ⊕ (Int × Int)) => match z80 with
  | .inr (e163, e164) => some (Sum.inr (Sum.inr (e163, e164)))
  | .inl (r201, r202, r203) => (if (keyEq .str ([99, 108, 97, 115, 115] : List UInt8) r201) = true then ((pq_class_v1 p1 r203 p36 p37 p41 p42 p35 p38 p39 p40).bind fun (z82 : (Int × (List (List UInt8)) × (List Int) × List ((List UInt8) × Int)) ⊕ (Int × Int)) => match z82 with
  | .inr (e167, e168) => some (Sum.inr (Sum.inr (e167, e168)))
  | .inl (r208, r209, r210, r211) => some (Sum.inl (r208, r209, p36, p37, r210, p39, r211, p41, p42)))
  else (if (keyEq .str ([115, 101, 116] : List UInt8) r201) = true then ((pq_set_v1 p1 r203 p36 p37 p41 p42 p35 p38 p39 p40).bind fun (z84 : (Int × List ((List UInt8) × Int)) ⊕ (Int × Int)) => match z84 with
  | .inr (e171, e172) => some (Sum.inr (Sum.inr (e171, e172)))
  | .inl (r214, r215) => some (Sum.inl (r214, p35, p36, p37, p38, p39, r215, p41, p42)))
  else (if (keyEq .str ([106, 111, 105, 110] : List UInt8) r201) = true then ((pq_join_v1 p1 r203 p36 p37 p41 p42 p35 p38 p39 p40).bind fun (z86 : (Int × Int × Int) ⊕ (Int × Int)) => match z86 with
  | .inr (e175, e176) => some (Sum.inr (Sum.inr (e175, e176)))
  | .inl (r219, r220, r221) => some (Sum.inl (r219, p35, r220, r221, p38, p39, p40, p41, p42)))
  else (if (keyEq .str ([116, 114, 101, 97, 116] : List UInt8) r201) = true then ((pq_treat_v1 p1 r203 p36 p37 p41 p42 p35 p38 p39 p40).bind fun (z88 : (Int × List Int) ⊕ (Int × Int)) => match z88 with
  | .inr (e179, e180) => some (Sum.inr (Sum.inr (e179, e180)))
  | .inl (r224, r225) => some (Sum.inl (r224, p35, p36, p37, r225, p39, p40, p41, p42)))
  else (if ((mfind .str (mset .str (mset .str (mset .str ([] : List ((List UInt8) × Int)) ([107, 101, 101, 112] : List UInt8) (0 : Int)) ([109, 97, 121] : List UInt8) (1 : Int)) ([109, 117, 115, 116] : List UInt8) (2 : Int)) r201).isSome) = true then ((pq_rule_v1 ((mfind .str (mset .str (mset .str (mset .str ([] : List ((List UInt8) × Int)) ([107, 101, 101, 112] : List UInt8) (0 : Int)) ([109, 97, 121] : List UInt8) (1 : Int)) ([109, 117, 115, 116] : List UInt8) (2 : Int)) r201).getD (0 : Int)) r202 p1 r203 p36 p37 p41 p42 p35 p38 p39 p40).bind fun (z90 : (Int × (List (Int × Tree × Tree)) × Int × Int) ⊕ (Int × Int)) => match z90 with
  | .inr (e183, e184) => some (Sum.inr (Sum.inr (e183, e184)))
  | .inl (r230, r231, r232, r233) => some (Sum.inl (r230, p35, p36, p37, p38, r231, p40, r232, r233)))
  else ((pq_fail_v2 (21 : Int) r202 p1 r203 p36 p37 p41 p42 p35 p38 p39 p40).bind fun (z92 : (Unit) ⊕ (Int × Int)) => match z92 with
  | .inr (e187, e188) => some (Sum.inr (Sum.inr (e187, e188)))
  | .inl _ => none)))))))
  else some (Sum.inr (Sum.inl (r197, p35, p36, p37, p38, p39, p40, p41, p42)))))
def pq_all (p1 : List UInt8) (p2 p3 p4 p5 p6 : Int) (o1 : List ((List UInt8) × Int)) : Option ((Int × (List (List UInt8)) × Int × Int × (List Int) × (List (Int × Tree × Tree)) × (List ((List UInt8) × Int)) × Int × Int) ⊕ (Int × Int)) :=
  ((iter (pq_all_L1 p1) (p2, ([] : List (List UInt8)), p3, p4, ([] : List Int), ([] : List (Int × Tree × Tree)), o1, p5, p6)).bind fun (r234 : ((Int × (List (List UInt8)) × Int × Int × (List Int) × (List (Int × Tree × Tree)) × (List ((List UInt8) × Int)) × Int × Int) ⊕ (Int × Int))) => match r234 with
  | .inl (v19, v20, v21, v22, v23, v24, v25, v26, v27) => some (Sum.inl (v19, v20, v21, v22, v23, v24, v25, v26, v27))
  | .inr ((e155, e156)) => some (Sum.inr (e155, e156)))
theorem pq_all_ok {p1 : List UInt8} {p2 : Int} {p3 : Int} {p4 : Int} {p5 : Int} {p6 : Int} {o1 : List ((List UInt8) × Int)} {res : (Int × (List (List UInt8)) × Int × Int × (List Int) × (List (Int × Tree × Tree)) × (List ((List UInt8) × Int)) × Int × Int) ⊕ (Int × Int)} (h : pq_all p1 p2 p3 p4 p5 p6 o1 = some res) :
    Does Try.prog 30 [.adr 0 0 10 0] (ob41 p1 p2 p3 p4 p5 p6 o1) (outT (fun (q : Int × (List (List UInt8)) × Int × Int × (List Int) × (List (Int × Tree × Tree)) × (List ((List UInt8) × Int)) × Int × Int) => (.tup [], (ob62 p1 q.1 q.2.2.1 q.2.2.2.1 q.2.2.2.2.2.2.2.1 q.2.2.2.2.2.2.2.2 q.2.2.2.2.2.2.1 q.2.1 q.2.2.2.2.1 q.2.2.2.2.2.1))) (faultV 75 .i64 .i64) res) := by
  refine Does.of_body tbok Try.func30 (by kernel_rfl) rfl (nl rfl) (fun Bw w0 => ?_)
  unfold pq_all at h
  refine G (G (W_block (W_lp h (fun (p34, p35, p36, p37, p38, p39, p40, p41, p42) => mkSt [(0, .adr 0 0 10 0), (2, .mp 5), (3, .mp 6)] (ob61 p1 p34 p36 p37 p41 p42 p40 p35 p38 p39 (mset .str (mset .str (mset .str ([] : List ((List UInt8) × Int)) ([107, 101, 101, 112] : List UInt8) (0 : Int)) ([109, 97, 121] : List UInt8) (1 : Int)) ([109, 117, 115, 116] : List UInt8) (2 : Int))) 7 2) (postS (postX Try.f30.ntmps 0 (fun (v19, v20, v21, v22, v23, v24, v25, v26, v27) => mkSt [] (ob62 p1 v19 v21 v22 v26 v27 v25 v20 v23 v24) 5 2)) (postP (faultV 75 .i64 .i64))) (gg [.nilC 0 2 106 9 .str, .nilC 0 5 107 3 (.int .i64), .nilC 0 6 108 81 (.prod (.int .u8) Y6)] [0, 1, 106, 107, 108, 2, 58]) (fun y o h => ?_) (fun r234 h e σ' hq => ?_))))
  · obtain ⟨p34, p35, p36, p37, p38, p39, p40, p41, p42⟩ := y
    unfold pq_all_L1 at h
    refine W_seq (W_seq ?_)
    obtain ⟨z78, q78, h⟩ := h_bind h
    rcases z78 with ⟨r196, r197⟩ | ⟨e159, e160⟩
    · refine GOe 1 [0, 2, 3, 4, 1] (pq_here_v2_ok q78) (to_thenG (W_if h (fun hb76 h => ?_) (fun hb76 h => ?_)))
      · refine W_skip_to (to_thenG (W_block (W_seq ?_)))
        obtain ⟨z80, q80, h⟩ := h_bind h
        rcases z80 with ⟨r201, r202, r203⟩ | ⟨e163, e164⟩
        · refine GOe 1 [0, 2, 3, 4, 1] (pq_word_v2_ok q80) (to_thenG (W_seq ?_))
          rcases h_ite h with ⟨hb81, h⟩ | ⟨hb81, h⟩
          · refine GNe ⟨[], [(2, ⟨.unk, [], false, [], [0], [], none⟩)]⟩ [(2, 2, oc (And.intro tt hb81))] (to_thenG (G (W_kt rfl ?_)))
            obtain ⟨z82, q82, h⟩ := h_bind h
            rcases z82 with ⟨r208, r209, r210, r211⟩ | ⟨e167, e168⟩
            · refine GOe 2 [0, 2, 3, 4, 1] (pq_class_v1_ok q82) (to_block ?_)
              exact eB h (gg [] [0, 1, 175, 176, 4, 5, 6])
            refine GX 2 [0, 2, 3, 4, 1] (pq_class_v1_ok q82) (fun _ => ?_)
            obtain rfl := sI h
            refine blockQ_pan (round_pan (postS_rr ?_))
            exact rfl
          rcases h_ite h with ⟨hb83, h⟩ | ⟨hb83, h⟩
          · refine GNe ⟨[], [(2, ⟨.unk, [], false, [], [1], [], none⟩)]⟩ [(2, 2, ⟨True ∧ keyAt .str [(([99, 108, 97, 115, 115] : List UInt8), (fnV 37)), (([115, 101, 116] : List UInt8), (fnV 38)), (([106, 111, 105, 110] : List UInt8), (fnV 39)), (([116, 114, 101, 97, 116] : List UInt8), (fnV 40))] r201 1, ⟨trivial, ⟨hb81, hb83⟩⟩⟩)] (to_thenG (G (W_kt rfl ?_)))
            obtain ⟨z84, q84, h⟩ := h_bind h
            rcases z84 with ⟨r214, r215⟩ | ⟨e171, e172⟩
            · refine GOe 2 [0, 2, 3, 4, 1] (pq_set_v1_ok q84) (to_block ?_)
              exact eB h (gg [] [0, 1, 2, 3, 4, 5, 6])
            refine GX 2 [0, 2, 3, 4, 1] (pq_set_v1_ok q84) (fun _ => ?_)
            obtain rfl := sI h
            refine blockQ_pan (round_pan (postS_rr ?_))
            exact rfl
          rcases h_ite h with ⟨hb85, h⟩ | ⟨hb85, h⟩
          · refine GNe ⟨[], [(2, ⟨.unk, [], false, [], [2], [], none⟩)]⟩ [(2, 2, ⟨True ∧ keyAt .str [(([99, 108, 97, 115, 115] : List UInt8), (fnV 37)), (([115, 101, 116] : List UInt8), (fnV 38)), (([106, 111, 105, 110] : List UInt8), (fnV 39)), (([116, 114, 101, 97, 116] : List UInt8), (fnV 40))] r201 2, ⟨trivial, ⟨hb81, ⟨hb83, hb85⟩⟩⟩⟩)] (to_thenG (G (W_kt rfl ?_)))
            obtain ⟨z86, q86, h⟩ := h_bind h
            rcases z86 with ⟨r219, r220, r221⟩ | ⟨e175, e176⟩
            · refine GOe 2 [0, 2, 3, 4, 1] (pq_join_v1_ok q86) (to_block ?_)
              exact eB h (gg [] [0, 1, 2, 3, 4, 5, 6])
            refine GX 2 [0, 2, 3, 4, 1] (pq_join_v1_ok q86) (fun _ => ?_)
            obtain rfl := sI h
            refine blockQ_pan (round_pan (postS_rr ?_))
            exact rfl
          rcases h_ite h with ⟨hb87, h⟩ | ⟨hb87, h⟩
          · refine GNe ⟨[], [(2, ⟨.unk, [], false, [], [3], [], none⟩)]⟩ [(2, 2, ⟨True ∧ keyAt .str [(([99, 108, 97, 115, 115] : List UInt8), (fnV 37)), (([115, 101, 116] : List UInt8), (fnV 38)), (([106, 111, 105, 110] : List UInt8), (fnV 39)), (([116, 114, 101, 97, 116] : List UInt8), (fnV 40))] r201 3, ⟨trivial, ⟨hb81, ⟨hb83, ⟨hb85, hb87⟩⟩⟩⟩⟩)] (to_thenG (G (W_kt rfl ?_)))
            obtain ⟨z88, q88, h⟩ := h_bind h
            rcases z88 with ⟨r224, r225⟩ | ⟨e179, e180⟩
            · refine GOe 2 [0, 2, 3, 4, 1] (pq_treat_v1_ok q88) (to_block ?_)
              exact eB h (gg [] [0, 1, 2, 3, 4, 5, 6])
            refine GX 2 [0, 2, 3, 4, 1] (pq_treat_v1_ok q88) (fun _ => ?_)
            obtain rfl := sI h
            refine blockQ_pan (round_pan (postS_rr ?_))
            exact rfl
          refine GNe ⟨[], [(2, ⟨.unk, [], false, [], [4], [], none⟩)]⟩ [(2, 2, ⟨True ∧ keyAt .str [(([99, 108, 97, 115, 115] : List UInt8), (fnV 37)), (([115, 101, 116] : List UInt8), (fnV 38)), (([106, 111, 105, 110] : List UInt8), (fnV 39)), (([116, 114, 101, 97, 116] : List UInt8), (fnV 40))] r201 4, ⟨trivial, ⟨hb81, ⟨hb83, ⟨hb85, ⟨hb87, trivial⟩⟩⟩⟩⟩⟩)] (to_thenG (G (W_kf rfl (G (G (W_if h (fun hb89 h => ?_) (fun hb89 h => ?_)))))))
          · obtain ⟨z90, q90, h⟩ := h_bind h
            rcases z90 with ⟨r230, r231, r232, r233⟩ | ⟨e183, e184⟩
            · refine GOe 3 [0, 2, 3, 4, 1] (pq_rule_v1_ok q90) (to_block ?_)
              exact eB h (gg [] [0, 1, 2, 3, 255, 5, 6])
            refine GX 3 [0, 2, 3, 4, 1] (pq_rule_v1_ok q90) (fun _ => ?_)
            obtain rfl := sI h
            refine blockQ_pan (round_pan (postS_rr ?_))
            exact rfl
          obtain ⟨z92, q92, h⟩ := h_bind h
          rcases z92 with _ | ⟨e187, e188⟩
          · cases h
          refine GX 2 [0, 2, 3, 4, 1] (pq_fail_v2_ok q92) (fun _ => ?_)
          obtain rfl := sI h
          refine blockQ_pan (round_pan (postS_rr ?_))
          exact rfl
        refine GX 1 [0, 2, 3, 4, 1] (pq_word_v2_ok q80) (fun _ => ?_)
        obtain rfl := sI h
        refine thenQ_pan (blockQ_pan (round_pan (postS_rr ?_)))
        exact rfl
      refine W_exit_to (thenE ?_)
      obtain rfl := sI h
      refine roundE (postS_l ?_)
      exact postX_to (gg [] [0, 1, 2, 3, 4])
    refine GX 1 [0, 2, 3, 4, 1] (pq_here_v2_ok q78) (fun _ => ?_)
    obtain rfl := sI h
    refine thenQ_pan (thenQ_pan (round_pan (postS_rr ?_)))
    exact rfl
  rcases r234 with ⟨v19, v20, v21, v22, v23, v24, v25, v26, v27⟩ | ⟨e155, e156⟩
  · obtain ⟨rfl, hle⟩ := hq
    refine use_to ?_ hle
    refine blockE_eq ?_
    obtain rfl := sI h
    exact (RetO_intro [] [] [0, 1, 2, 3, 4] [] (ob62 p1 v19 v21 v22 v26 v27 v25 v20 v23 v24) 5 2 (by kernel_rfl) (by kernel_rfl) (by kernel_rfl)).normal
  obtain rfl := hq
  refine blockQ_pan ?_
  obtain rfl := sI h
  exact rfl
theorem rules_Parse_catch (e1 e2 : Int) : Catches Try.prog 28 [.adr 0 0 5 0, .adr 1 0 2 0] (ob42 (0 : Int) (0 : Int) (0 : Int) (0 : Int)) (ob42 (0 : Int) (0 : Int) e1 e2) (faultV 75 .i64 .i64 (e1, e2)) := by
  refine Catches.of_body (nx := 2) (pn := 2) Try.func28 rfl rfl rfl rfl rfl rfl rfl rfl (by kernel_rfl) rfl (fun Bw w0 => ?_)
  have h : some () = some () := rfl
  refine GN a0 [(1, 1, ⟨∃ ms, Try.prog.underlying 20 = some (.interface ms), ⟨_, rfl⟩⟩)] (W_kt rfl (GN a0 [(1, 1, ⟨∃ d, Try.prog.underlying 75 = some d ∧ (match d with | .interface _ => false | _ => true) = true, ⟨_, rfl, rfl⟩⟩)] (W_seq (G (W_kf rfl (W_skip_to (to_thenG (GDe a0 [] ?_))))))))
  exact eN h (gg [] [0, 1])
theorem rules_Parse_rests : Rests Try.prog 28 2 := by
  intro vals w hv
  obtain ⟨v2, v3, rfl⟩ : ∃ v2 v3, vals = #[v2, v3] := by
    match hq : vals.toList with
    | [a, b] => exact ⟨a, b, Array.ext' hq⟩
    | [] => have := congrArg List.length hq; simp [hv] at this
    | [_] => have := congrArg List.length hq; simp [hv] at this
    | _ :: _ :: _ :: _ => have := congrArg List.length hq; simp [hv] at this
  refine callsD_of_wpS Try.func28 rfl fun c₀ cs hu => ?_
  apply wpS_seq
  apply wpS_region
  simp [wpOpsS, go_sem, recoverD, hu, Try.ntmps28, Exit.thenS]
  apply wpS_seq
  apply wpS_region
  simp [wpOpsS, go_sem, Exit.thenS, Act.eval, Act.put]
  refine wpS_cond (t := false) (by simp [Act.eval, Array.replicate]) ?_
  simp only [Bool.false_eq_true, if_false]
  refine wpS_of_wp (wp_skip ?_)
  cases c₀
  simp_all [bodyPostS, results, Try.results28]
def rules_Parse_D (text1 : List UInt8) : Option ((((List (List UInt8)) × Int × Int × (List Int) × List (Int × Tree × Tree)) × Int × Int) ⊕ (Int × Int)) :=
  (if (decide ((text1.length : Int) > (4096 : Int))) = true then ((pq_fail (24 : Int) (4096 : Int) text1 (0 : Int) (0 : Int) (0 : Int) (0 : Int) (0 : Int) ([] : List ((List UInt8) × Int))).bind fun (z2 : (Unit) ⊕ (Int × Int)) => match z2 with
  | .inr (e3, e4) => some (Sum.inr (e3, e4))
  | .inl _ => none)
  else ((pq_all text1 (0 : Int) (0 : Int) (0 : Int) (0 : Int) (0 : Int) ([] : List ((List UInt8) × Int))).bind fun (z4 : (Int × (List (List UInt8)) × Int × Int × (List Int) × (List (Int × Tree × Tree)) × (List ((List UInt8) × Int)) × Int × Int) ⊕ (Int × Int)) => match z4 with
  | .inr (e7, e8) => some (Sum.inr (e7, e8))
  | .inl (r10, r11, r12, r13, r14, r15, r16, r17, r18) => some (Sum.inl ((r11, (r12, (r13, (r14, r15)))), ((0 : Int), (0 : Int))))))
def rules_Parse_of : (((List (List UInt8)) × Int × Int × (List Int) × List (Int × Tree × Tree)) × Int × Int) ⊕ (Int × Int) → ((List (List UInt8)) × Int × Int × (List Int) × List (Int × Tree × Tree)) × Int × Int
  | .inl x => x
  | .inr e => ((([] : List (List UInt8)), ((0 : Int), ((0 : Int), (([] : List Int), ([] : List (Int × Tree × Tree)))))), (e.1, e.2))
def rules_Parse (text1 : List UInt8) : Option (((List (List UInt8)) × Int × Int × (List Int) × List (Int × Tree × Tree)) × Int × Int) := (rules_Parse_D text1).map rules_Parse_of
theorem rules_Parse_okD (text1 : List UInt8) (res : (((List (List UInt8)) × Int × Int × (List Int) × List (Int × Tree × Tree)) × Int × Int) ⊕ (Int × Int)) (h : rules_Parse_D text1 = some res) :
    Pure Try.prog 24 [.st text1] (wrapR (encs false (ansOf (fun (q : ((List (List UInt8)) × Int × Int × (List Int) × List (Int × Tree × Tree)) × Int × Int) => ([⟨Y9, q.1⟩, ⟨Y10, q.2⟩] : List (Σ T : Ty, T.den))) (fun (e : Int × Int) => ([⟨Y9, (([] : List (List UInt8)), ((0 : Int), ((0 : Int), (([] : List Int), ([] : List (Int × Tree × Tree))))))⟩, ⟨Y10, (e.1, e.2)⟩] : List (Σ T : Ty, T.den))) res))) := by
  refine Pure.of_defer (args := [.st text1]) (gd := 28) (fnd := Try.f28) (l := [(0, .st text1), (2, .adr 0 0 5 0), (3, .adr 1 0 2 0), (4, .adr 2 0 10 0)]) (m := (ob40 (0 : Int) (0 : Int) (0 : Int) (0 : Int) text1 (0 : Int) (0 : Int) (0 : Int) (0 : Int) (0 : Int) ([] : List ((List UInt8) × Int)))) (nx := 4) (s2 := 5) (s3 := 2) (lp := [(2, .adr 0 0 5 0), (3, .adr 1 0 2 0)]) (mp := (ob42 (0 : Int) (0 : Int) (0 : Int) (0 : Int))) (nxp := 2) (fv := faultV 75 .i64 .i64) (hin := (ob42 (0 : Int) (0 : Int) (0 : Int) (0 : Int))) (hout := fun e => (ob42 (0 : Int) (0 : Int) e.1 e.2)) (t2 := 2) (t3 := 3) (d := 9) tbok Try.func24 (by kernel_rfl) Try.func28 (by kernel_rfl) rfl rfl rfl rfl rfl rfl rfl rfl (nl rfl) rfl rfl (by decide) rfl rfl (by decide) (fun Bw w0 => ?_) (fun Bw w0 D => ?_) rules_Parse_rests (fun e => rules_Parse_catch e.1 e.2) (by kernel_rfl) (fun e => by kernel_rfl) [Y9, Y10] (fun e => by kernel_rfl)
  · clear h
    have h : some () = some () := rfl
    refine Ge (to_thenG (Ge ?_))
    exact eN h (gg [] [0, 8, 40, 24])
  unfold rules_Parse_D at h
  refine W_seq (G (W_if h (fun hb1 h => ?_) (fun hb1 h => ?_)))
  · obtain ⟨z2, q2, h⟩ := h_bind h
    rcases z2 with _ | ⟨e3, e4⟩
    · cases h
    have u_1 := (pq_fail_ok q2)
    refine W_die tbok ⟨[], [(1, (oD u_1 [2, 3]))]⟩ 1 (faultV 75 .i64 .i64 (e3, e4)) [] [0, 1] [(2, .adr 0 0 5 0), (3, .adr 1 0 2 0)] (ob42 (0 : Int) (0 : Int) (0 : Int) (0 : Int)) 2 2 [True, Dies Try.prog 29 [.adr 0 0 10 0, .i64 (24 : Int), .i64 (4096 : Int)] (ob41 text1 (0 : Int) (0 : Int) (0 : Int) (0 : Int) (0 : Int) ([] : List ((List UInt8) × Int))) (faultV 75 .i64 .i64 (e3, e4))] (by kernel_rfl) (by kernel_rfl) ⟨tt, (pq_fail_ok q2), tt⟩ (fun σ1 hle => thenQ_pan ?_)
    obtain rfl := sI h
    exact ⟨rfl, hle⟩
  refine W_skip_to (to_thenG (W_seq ?_))
  obtain ⟨z4, q4, h⟩ := h_bind h
  rcases z4 with ⟨r10, r11, r12, r13, r14, r15, r16, r17, r18⟩ | ⟨e7, e8⟩
  · refine GOe 1 [2, 3] (pq_all_ok q4) (to_thenG (G (W_ret ?_)))
    obtain rfl := sI h
    exact ⟨rfl, Ret_intro [Y9, Y10] (by kernel_rfl)⟩
  have u_1 := (pq_all_ok q4)
  refine W_die tbok ⟨[], [(1, (oD u_1 [2, 3]))]⟩ 1 (faultV 75 .i64 .i64 (e7, e8)) [] [0, 1] [(2, .adr 0 0 5 0), (3, .adr 1 0 2 0)] (ob42 (0 : Int) (0 : Int) (0 : Int) (0 : Int)) 2 2 [True, Dies Try.prog 30 [.adr 0 0 10 0] (ob41 text1 (0 : Int) (0 : Int) (0 : Int) (0 : Int) (0 : Int) ([] : List ((List UInt8) × Int))) (faultV 75 .i64 .i64 (e7, e8))] (by kernel_rfl) (by kernel_rfl) ⟨tt, (pq_all_ok q4), tt⟩ (fun σ1 hle => thenQ_pan ?_)
  obtain rfl := sI h
  exact ⟨rfl, hle⟩
theorem rules_Parse_ok {text1 : List UInt8} {res : ((List (List UInt8)) × Int × Int × (List Int) × List (Int × Tree × Tree)) × Int × Int} (h : rules_Parse text1 = some res) :
    Pure Try.prog 24 [.st text1] (wrapR (encs false [⟨Y9, res.1⟩, ⟨Y10, res.2⟩])) := by
  unfold rules_Parse at h
  obtain ⟨r, hr, rfl⟩ := Option.map_eq_some_iff.1 h
  have := rules_Parse_okD  text1 r hr
  cases r with
  | inl x => exact this
  | inr e => exact this
def stanzalaw04_exprs_L1 (r5 : (List (List UInt8)) × Int × Int × (List Int) × List (Int × Tree × Tree)) : ((List Tree) × Int) → Option (((List Tree) × Int) ⊕ (List Tree)) := fun (out2, v2) =>
  (if (decide (v2 < (r5.2.2.2.2.length : Int))) = true then (if 0 ≤ v2 ∧ v2 < (r5.2.2.2.2.length : Int) then (if (out2.length + ([(Tree.node (((r5.2.2.2.2.getD v2.toNat ((0 : Int), ((Tree.node 0 0 []), (Tree.node 0 0 [])))).2.1).op) (((r5.2.2.2.2.getD v2.toNat ((0 : Int), ((Tree.node 0 0 []), (Tree.node 0 0 [])))).2.1).set) (((r5.2.2.2.2.getD v2.toNat ((0 : Int), ((Tree.node 0 0 []), (Tree.node 0 0 [])))).2.1).kids)), (Tree.node (((r5.2.2.2.2.getD v2.toNat ((0 : Int), ((Tree.node 0 0 []), (Tree.node 0 0 [])))).2.2).op) (((r5.2.2.2.2.getD v2.toNat ((0 : Int), ((Tree.node 0 0 []), (Tree.node 0 0 [])))).2.2).set) (((r5.2.2.2.2.getD v2.toNat ((0 : Int), ((Tree.node 0 0 []), (Tree.node 0 0 [])))).2.2).kids))] : List Tree).length) * 32 ≤ 140737488355328 ∧ out2.length + ([(Tree.node (((r5.2.2.2.2.getD v2.toNat ((0 : Int), ((Tree.node 0 0 []), (Tree.node 0 0 [])))).2.1).op) (((r5.2.2.2.2.getD v2.toNat ((0 : Int), ((Tree.node 0 0 []), (Tree.node 0 0 [])))).2.1).set) (((r5.2.2.2.2.getD v2.toNat ((0 : Int), ((Tree.node 0 0 []), (Tree.node 0 0 [])))).2.1).kids)), (Tree.node (((r5.2.2.2.2.getD v2.toNat ((0 : Int), ((Tree.node 0 0 []), (Tree.node 0 0 [])))).2.2).op) (((r5.2.2.2.2.getD v2.toNat ((0 : Int), ((Tree.node 0 0 []), (Tree.node 0 0 [])))).2.2).set) (((r5.2.2.2.2.getD v2.toNat ((0 : Int), ((Tree.node 0 0 []), (Tree.node 0 0 [])))).2.2).kids))] : List Tree).length ≤ 9223372036854775807 then some (Sum.inl ((out2 ++ ([(Tree.node (((r5.2.2.2.2.getD v2.toNat ((0 : Int), ((Tree.node 0 0 []), (Tree.node 0 0 [])))).2.1).op) (((r5.2.2.2.2.getD v2.toNat ((0 : Int), ((Tree.node 0 0 []), (Tree.node 0 0 [])))).2.1).set) (((r5.2.2.2.2.getD v2.toNat ((0 : Int), ((Tree.node 0 0 []), (Tree.node 0 0 [])))).2.1).kids)), (Tree.node (((r5.2.2.2.2.getD v2.toNat ((0 : Int), ((Tree.node 0 0 []), (Tree.node 0 0 [])))).2.2).op) (((r5.2.2.2.2.getD v2.toNat ((0 : Int), ((Tree.node 0 0 []), (Tree.node 0 0 [])))).2.2).set) (((r5.2.2.2.2.getD v2.toNat ((0 : Int), ((Tree.node 0 0 []), (Tree.node 0 0 [])))).2.2).kids))] : List Tree)), (IntKind.i64.wrap (v2 + (1 : Int))))) else none) else none)
  else some (Sum.inr out2))
def stanzalaw04_exprs (p1 p2 p3 : Int) (p4 : List Int) (p5 : List (Int × (List Int) × List Int)) : Option ((List Tree) × Int) :=
  ((hq_Text p1 p2 p3 p4 p5).bind fun r4 =>
  ((rules_Parse r4).bind fun (r5, r6) =>
  ((iter (stanzalaw04_exprs_L1 r5) (([] : List Tree), (0 : Int))).bind fun out3 => some (out3, (r5.1.length : Int)))))
theorem stanzalaw04_exprs_ok (β3 : Bool) {p1 : Int} {p2 : Int} {p3 : Int} {p4 : List Int} {p5 : List (Int × (List Int) × List Int)} {res : (List Tree) × Int} (h : stanzalaw04_exprs p1 p2 p3 p4 p5 = some res) :
    Pure Try.prog 13 [.agg [.u8 p1, .u8 p2, .u8 p3, .p β3 (.slice (.int .u8)) p4, .p false (.slice (.prod (.int .u8) Y5)) p5]] (wrapR (encs false [⟨(.slice (.tree .u8 .u32)), res.1⟩, ⟨(.int .i64), res.2⟩])) := by
  refine Pure.of_body tbok Try.func13 (by kernel_rfl) rfl (nl rfl) (fun Bw w0 => ?_) rfl
  unfold stanzalaw04_exprs at h
  refine G ?_
  obtain ⟨r4, q3, h⟩ := h_bind h
  obtain ⟨⟨r5, r6⟩, q4, h⟩ := h_bind h
  have u_1 := (hq_Text_ok β3 q3)
  have u_2 := (rules_Parse_ok q4)
  refine GN ⟨[], [(1, (oP u_1)), (2, (oP u_2))]⟩ [(1, 1, oc u_1), (2, 2, oc u_2)] (G (W_seq (G (W_block (W_lx h (fun (out2, v2) => mkSt [(4, .adr 0 0 5 0), (6, .sl 1), (16, .p false (.slice (.prod (.int .u8) Y6)) r5.2.2.2.2), (17, .i64 (r5.2.2.2.2.length : Int)), (18, .i64 v2)] (ob63 r5.1 r5.2.1 r5.2.2.1 r5.2.2.2.1 r5.2.2.2.2 out2) 2) 0 (fun out3 => mkSt [(4, .adr 0 0 5 0), (6, .sl 1)] (ob63 r5.1 r5.2.1 r5.2.2.1 r5.2.2.2.1 r5.2.2.2.2 out3) 2) (gg [.nilS 6 144 27 (.tree .u8 .u32)] [72, 144]) (fun y o h => ?_) (fun out3 h => ?_))))))
  · obtain ⟨out2, v2⟩ := y
    unfold stanzalaw04_exprs_L1 at h
    refine G (W_seq (W_if h (fun hb3 h => ?_) (fun hb3 h => ?_)))
    · refine W_skip_to (to_thenG (W_seq (W_block (GC 0 h (fun h => GCe 6 h (fun h => to_block (to_thenG (Ge ?_))))))))
      exact eB h (gg [] [0, 90])
    refine W_exit_to (thenE ?_)
    exact eX h (gg [] [0, 1])
  refine blockE_eq (to_thenG (GD a0 [] (W_ret ?_)))
  obtain rfl := sI h
  exact Ret_intro [(.slice (.tree .u8 .u32)), (.int .i64)] (by kernel_rfl)
end
end Go.Proofs.Ytnjdmbifjbahdaa.T
