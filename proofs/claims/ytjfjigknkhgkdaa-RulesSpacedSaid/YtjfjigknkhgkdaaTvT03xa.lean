/- Functions of the program as functions on data, and that the program's own come to them. -/
import Derived.Test.YtjfjigknkhgkdaaTvT03x0
import Derived.Test.YtjfjigknkhgkdaaTvT03xa1
namespace Go.Proofs.Ytjfjigknkhgkdaa.T
open Go Go.Tv Go.Proofs
noncomputable section
set_option maxRecDepth 100000
set_option maxHeartbeats 4000000
def pq_either_v1_L1 (p1 : List UInt8) (p3 p4 : Int) (o1 : List (List UInt8)) (o2 : List Int) (o3 : List (Int × Tree × Tree)) (o4 : List ((List UInt8) × Int)) (rec_pq_either_v1 : (List UInt8) → Int → Int → Int → Int → Int → (List (List UInt8)) → (List Int) → (List (Int × Tree × Tree)) → (List ((List UInt8) × Int)) → Option ((Tree × Int × Int × Int) ⊕ (Int × Int))) : (Int × Int × Int × List Tree) → Option ((Int × Int × Int × List Tree) ⊕ (((List Tree) × Int × Int × Int) ⊕ (Int × Int))) := fun ((p26, p27, p28, l11) : Int × Int × Int × List Tree) =>
  ((pq_sign_v2 (124 : Int) p1 p26 p3 p4 p27 p28 o1 o2 o3 o4).bind fun (z54 : (Bool × Int) ⊕ (Int × Int)) => match z54 with
  | .inr (e115, e116) => some (Sum.inr (Sum.inr (e115, e116)))
  | .inl (r165, r166) => (if r165 = true then ((pq_row_v5 rec_pq_either_v1 p1 r166 p3 p4 p27 p28 o1 o2 o3 o4).bind fun (z56 : (Tree × Int × Int × Int) ⊕ (Int × Int)) => match z56 with
  | .inr (e119, e120) => some (Sum.inr (Sum.inr (e119, e120)))
  | .inl (r171, r172, r173, r174) => (if (l11.length + ([(Tree.node r171.op r171.set r171.kids)] : List Tree).length) * 32 ≤ 140737488355328 ∧ l11.length + ([(Tree.node r171.op r171.set r171.kids)] : List Tree).length ≤ 9223372036854775807 then some (Sum.inl (r172, r173, r174, (l11 ++ ([(Tree.node r171.op r171.set r171.kids)] : List Tree)))) else none))
  else some (Sum.inr (Sum.inl (l11, r166, p27, p28)))))
def pq_either_v1_F (rec_pq_either_v1 : (List UInt8) → Int → Int → Int → Int → Int → (List (List UInt8)) → (List Int) → (List (Int × Tree × Tree)) → (List ((List UInt8) × Int)) → Option ((Tree × Int × Int × Int) ⊕ (Int × Int))) (p1 : List UInt8) (p2 p3 p4 p5 p6 : Int) (o1 : List (List UInt8)) (o2 : List Int) (o3 : List (Int × Tree × Tree)) (o4 : List ((List UInt8) × Int)) : Option ((Tree × Int × Int × Int) ⊕ (Int × Int)) :=
  ((pq_row_v5 rec_pq_either_v1 p1 p2 p3 p4 p5 p6 o1 o2 o3 o4).bind fun (z44 : (Tree × Int × Int × Int) ⊕ (Int × Int)) => match z44 with
  | .inr (e93, e94) => some (Sum.inr (e93, e94))
  | .inl (r135, r136, r137, r138) => ((iter (pq_either_v1_L1 p1 p3 p4 o1 o2 o3 o4 rec_pq_either_v1) (r136, r137, r138, ([(Tree.node r135.op r135.set r135.kids)] : List Tree))).bind fun (r175 : (((List Tree) × Int × Int × Int) ⊕ (Int × Int))) => match r175 with
  | .inl (l12, v17, v18, v19) => (if ((l12.length : Int) == (1 : Int)) = true then (if 0 ≤ (0 : Int) ∧ (0 : Int) < (l12.length : Int) then (if (0 : Int).toNat < l12.length then some (Sum.inl ((Tree.node ((l12.getD ((0 : Int).toNat) (Tree.node 0 0 [])).op) ((l12.getD ((0 : Int).toNat) (Tree.node 0 0 [])).set) ((l12.getD ((0 : Int).toNat) (Tree.node 0 0 [])).kids)), v17, v18, v19)) else none) else none)
  else some (Sum.inl ((Tree.node (3 : Int) (0 : Int) l12), v17, v18, v19)))
  | .inr ((e111, e112)) => some (Sum.inr (e111, e112))))
def pq_either_v1 : Nat → (List UInt8) → Int → Int → Int → Int → Int → (List (List UInt8)) → (List Int) → (List (Int × Tree × Tree)) → (List ((List UInt8) × Int)) → Option ((Tree × Int × Int × Int) ⊕ (Int × Int))
  | 0 => fun _ _ _ _ _ _ _ _ _ _ => none
  | n + 1 => pq_either_v1_F (pq_either_v1 n)
theorem pq_either_v1_F_ok (rec_pq_either_v1 : (List UInt8) → Int → Int → Int → Int → Int → (List (List UInt8)) → (List Int) → (List (Int × Tree × Tree)) → (List ((List UInt8) × Int)) → Option ((Tree × Int × Int × Int) ⊕ (Int × Int))) (hrec_pq_either_v1 : ∀ (p1 : List UInt8) (p2 p3 p4 p5 p6 : Int) (o1 : List (List UInt8)) (o2 : List Int) (o3 : List (Int × Tree × Tree)) (o4 : List ((List UInt8) × Int)) (res : (Tree × Int × Int × Int) ⊕ (Int × Int)), rec_pq_either_v1 p1 p2 p3 p4 p5 p6 o1 o2 o3 o4 = some res → Does Try.prog 55 [.adr 0 0 10 0] (ob21 p1 p2 p3 p4 p5 p6 o1 o2 o3 o4) (outT (fun (q : Tree × Int × Int × Int) => (.agg [.u8 q.1.op, .u32 q.1.set, .p false (.slice (.tree .u8 .u32)) q.1.kids], (ob21 p1 q.2.1 p3 p4 q.2.2.1 q.2.2.2 o1 o2 o3 o4))) (faultV 40 .i64 .i64) res)) (p1 : List UInt8) (p2 p3 p4 p5 p6 : Int) (o1 : List (List UInt8)) (o2 : List Int) (o3 : List (Int × Tree × Tree)) (o4 : List ((List UInt8) × Int)) (res : (Tree × Int × Int × Int) ⊕ (Int × Int)) (h : pq_either_v1_F rec_pq_either_v1 p1 p2 p3 p4 p5 p6 o1 o2 o3 o4 = some res) :
    Does Try.prog 55 [.adr 0 0 10 0] (ob21 p1 p2 p3 p4 p5 p6 o1 o2 o3 o4) (outT (fun (q : Tree × Int × Int × Int) => (.agg [.u8 q.1.op, .u32 q.1.set, .p false (.slice (.tree .u8 .u32)) q.1.kids], (ob21 p1 q.2.1 p3 p4 q.2.2.1 q.2.2.2 o1 o2 o3 o4))) (faultV 40 .i64 .i64) res) := by
  refine Does.of_body tbok Try.func55 (by kernel_rfl) rfl (nl rfl) (fun Bw w0 => ?_)
  unfold pq_either_v1_F at h
  refine W_rs tbok ⟨[], []⟩ [] [0, 1, 2, 3, 4, 5] [(0, .adr 0 0 10 0), (2, .adr 5 0 3 0)] (ob26 p1 p2 p3 p4 p5 p6 o1 o2 o3 o4 (0 : Int) (0 : Int)) 6 5 [True] (by kernel_rfl) ⟨tt, tt⟩ ?_
  refine W_seq ?_
  obtain ⟨z44, q44, h⟩ := h_bind h
  rcases z44 with ⟨r135, r136, r137, r138⟩ | ⟨e93, e94⟩
  · have u_1 := (pq_row_v5_ok rec_pq_either_v1 hrec_pq_either_v1 p1 p2 p3 p4 p5 p6 o1 o2 o3 o4 _ q44)
    refine W_r tbok ⟨[], [(1, ⟨.agg [.u8 r135.op, .u32 r135.set, .p false (.slice (.tree .u8 .u32)) r135.kids], [false], true, [true], [0, 1, 2, 3, 4], (ob21 p1 r136 p3 p4 r137 r138 o1 o2 o3 o4), none⟩)]⟩ [] [0, 1, 2, 3, 4, 5, 22] [(0, .adr 0 0 10 0), (2, .adr 5 0 3 0), (3, .sl 6)] (ob31 p1 r136 p3 p4 r137 r138 o1 o2 o3 o4 (0 : Int) (0 : Int) ([(Tree.node r135.op r135.set r135.kids)] : List Tree)) 7 5 [True, pO u_1, True, True] (by kernel_rfl) ⟨tt, u_1, tt, tt, tt⟩ ?_
    refine to_then ?_
    refine W_seq ?_
    refine W_block ?_
    obtain ⟨r175, hp4, h⟩ := h_bind h
    refine W.mono (Q := (postS (postX Try.f55.ntmps 0 (fun ((l12, v17, v18, v19) : (List Tree) × Int × Int × Int) => mkSt [(2, .adr 5 0 3 0), (3, .sl 6)] (ob31 p1 v17 p3 p4 v18 v19 o1 o2 o3 o4 (0 : Int) (0 : Int) l12) 7 5)) (postP (faultV 40 .i64 .i64))) r175) (W_iter (f := fun ((p26, p27, p28, l11) : Int × Int × Int × List Tree) => mkSt [(0, .adr 0 0 10 0), (2, .adr 5 0 3 0), (3, .sl 6)] (ob31 p1 p26 p3 p4 p27 p28 o1 o2 o3 o4 (0 : Int) (0 : Int) l11) 7 5) (Q := (postS (postX Try.f55.ntmps 0 (fun ((l12, v17, v18, v19) : (List Tree) × Int × Int × Int) => mkSt [(2, .adr 5 0 3 0), (3, .sl 6)] (ob31 p1 v17 p3 p4 v18 v19 o1 o2 o3 o4 (0 : Int) (0 : Int) l12) 7 5)) (postP (faultV 40 .i64 .i64)))) hp4 (gl [] [0, 1, 2, 3, 4, 5, 6] (by kernel_rfl)) (fun y o ho => ?_)) (fun e σ' hq => ?_)
    · obtain ⟨p26, p27, p28, l11⟩ := y
      replace h := ho
      clear ho hp4
      unfold pq_either_v1_L1 at h
      refine W_seq ?_
      refine W_seq ?_
      obtain ⟨z54, q54, h⟩ := h_bind h
      rcases z54 with ⟨r165, r166⟩ | ⟨e115, e116⟩
      · have u_1 := (pq_sign_v2_ok (124 : Int) p1 p26 p3 p4 p27 p28 o1 o2 o3 o4 _ q54)
        refine W_r tbok ⟨[], [(1, ⟨.bo r165, [false, false], true, [true, true], [0, 1, 2, 3, 4], (ob21 p1 r166 p3 p4 p27 p28 o1 o2 o3 o4), none⟩)]⟩ [] [0, 1, 2, 3, 4, 5, 6] [(0, .adr 0 0 10 0), (2, .adr 5 0 3 0), (3, .sl 6), (8, .bo r165)] (ob31 p1 r166 p3 p4 p27 p28 o1 o2 o3 o4 (0 : Int) (0 : Int) l11) 7 5 [True, pO u_1] (by kernel_rfl) ⟨tt, u_1, tt⟩ ?_
        refine to_then ?_
        refine W_cond (b := r165) (β := false) (by kernel_rfl) (fun hb15 => ?_) (fun hb15 => ?_)
        · replace h := h_if hb15 h
          refine W_skip_to ?_
          refine to_then ?_
          refine W_block ?_
          obtain ⟨z56, q56, h⟩ := h_bind h
          rcases z56 with ⟨r171, r172, r173, r174⟩ | ⟨e119, e120⟩
          · obtain ⟨c36, h⟩ := h_guard h
            have u_1 := (pq_row_v5_ok rec_pq_either_v1 hrec_pq_either_v1 p1 r166 p3 p4 p27 p28 o1 o2 o3 o4 _ q56)
            refine W_r tbok ⟨[], [(2, ⟨.agg [.u8 r171.op, .u32 r171.set, .p false (.slice (.tree .u8 .u32)) r171.kids], [false], true, [true], [0, 1, 2, 3, 4], (ob21 p1 r172 p3 p4 r173 r174 o1 o2 o3 o4), none⟩)]⟩ [] [0, 1, 2, 3, 4, 5, 39] [(0, .adr 0 0 10 0), (2, .adr 5 0 3 0), (3, .sl 6)] (ob31 p1 r172 p3 p4 r173 r174 o1 o2 o3 o4 (0 : Int) (0 : Int) (l11 ++ ([(Tree.node r171.op r171.set r171.kids)] : List Tree))) 7 5 [True, True, pO u_1, True, (l11.length + ([(Tree.node r171.op r171.set r171.kids)] : List Tree).length) * 32 ≤ 140737488355328 ∧ l11.length + ([(Tree.node r171.op r171.set r171.kids)] : List Tree).length ≤ 9223372036854775807, True] (by kernel_rfl) ⟨tt, tt, u_1, tt, c36, tt, tt⟩ ?_
            refine to_block ?_
            obtain rfl := sI h
            exact roundB (gl [] [0, 1, 2, 3, 4, 5, 6] (by kernel_rfl))
          refine W_die tbok ⟨[], [(2, ⟨.unk, [false], true, [true], [0, 1, 2, 3, 4], [], some (faultV 40 .i64 .i64 (e119, e120))⟩)]⟩ 2 (faultV 40 .i64 .i64 (e119, e120)) [] [0, 1, 2, 3, 4] [] [] 5 5 [True, True, Dies Try.prog 62 [.adr 0 0 10 0] (ob21 p1 r166 p3 p4 p27 p28 o1 o2 o3 o4) (faultV 40 .i64 .i64 (e119, e120))] (by kernel_rfl) (by kernel_rfl) ⟨tt, tt, (pq_row_v5_ok rec_pq_either_v1 hrec_pq_either_v1 p1 r166 p3 p4 p27 p28 o1 o2 o3 o4 _ q56), tt⟩ (fun σ1 hle => ?_)
          obtain rfl := sI h
          refine blockQ_pan ?_
          refine round_pan ?_
          refine postS_rr ?_
          exact rfl
        replace h := h_else hb15 h
        refine W_exit_to ?_
        refine thenE ?_
        obtain rfl := sI h
        refine roundE ?_
        refine postS_l ?_
        exact postX_to (gl [] [0, 1, 2, 3, 4, 5, 6] (by kernel_rfl))
      refine W_die tbok ⟨[], [(1, ⟨.unk, [false, false], true, [true, true], [0, 1, 2, 3, 4], [], some (faultV 40 .i64 .i64 (e115, e116))⟩)]⟩ 1 (faultV 40 .i64 .i64 (e115, e116)) [] [0, 1, 2, 3, 4] [] [] 5 5 [True, Dies Try.prog 47 [.adr 0 0 10 0, .u8 (124 : Int)] (ob21 p1 p26 p3 p4 p27 p28 o1 o2 o3 o4) (faultV 40 .i64 .i64 (e115, e116))] (by kernel_rfl) (by kernel_rfl) ⟨tt, (pq_sign_v2_ok (124 : Int) p1 p26 p3 p4 p27 p28 o1 o2 o3 o4 _ q54), tt⟩ (fun σ1 hle => ?_)
      obtain rfl := sI h
      refine thenQ_pan ?_
      refine thenQ_pan ?_
      refine round_pan ?_
      refine postS_rr ?_
      exact rfl
    clear hp4
    rcases r175 with ⟨l12, v17, v18, v19⟩ | ⟨e111, e112⟩
    · obtain ⟨rfl, hle⟩ := hq
      refine use_to ?_ hle
      refine blockE_eq ?_
      refine to_then ?_
      refine W_seq ?_
      refine W_rs tbok ⟨[], []⟩ [] [0, 1, 2, 3, 4, 5, 6] [(2, .adr 5 0 3 0), (3, .sl 6), (16, .bo ((l12.length : Int) == (1 : Int)))] (ob31 p1 v17 p3 p4 v18 v19 o1 o2 o3 o4 (0 : Int) (0 : Int) l12) 7 5 (Ts 3 []) (by kernel_rfl) (tr 3 tt) ?_
      refine W_cond (b := ((l12.length : Int) == (1 : Int))) (β := false) (by kernel_rfl) (fun hb16 => ?_) (fun hb16 => ?_)
      · replace h := h_if hb16 h
        refine W_seq ?_
        obtain ⟨c39, h⟩ := h_guard h
        obtain ⟨c40, h⟩ := h_guard h
        refine W_r tbok ⟨[], []⟩ [] [0, 1, 2, 3, 4, 5] [(2, .adr 5 0 3 0)] (ob30 p1 v17 p3 p4 v18 v19 o1 o2 o3 o4 ((l12.getD ((0 : Int).toNat) (Tree.node 0 0 [])).op) ((l12.getD ((0 : Int).toNat) (Tree.node 0 0 [])).set) ((l12.getD ((0 : Int).toNat) (Tree.node 0 0 [])).kids)) 6 5 [True, 0 ≤ (0 : Int) ∧ (0 : Int) < (l12.length : Int), (0 : Int).toNat < l12.length, True] (by kernel_rfl) ⟨tt, c39, c40, tt, tt⟩ ?_
        refine to_then ?_
        refine W_ret ?_
        refine thenQ_ret ?_
        obtain rfl := sI h
        exact RetO_intro [some (.tree .u8 .u32)] [] [0, 1, 2, 3, 4, 5] [(2, .adr 5 0 3 0)] (ob30 p1 v17 p3 p4 v18 v19 o1 o2 o3 o4 ((l12.getD ((0 : Int).toNat) (Tree.node 0 0 [])).op) ((l12.getD ((0 : Int).toNat) (Tree.node 0 0 [])).set) ((l12.getD ((0 : Int).toNat) (Tree.node 0 0 [])).kids)) 6 5 (by kernel_rfl) (by kernel_rfl) (by kernel_rfl)
      replace h := h_else hb16 h
      refine W_skip_to ?_
      refine to_then ?_
      refine W_rs tbok ⟨[], []⟩ [] [0, 1, 2, 3, 4, 5, 6] [(2, .adr 5 0 3 0)] (ob29 p1 v17 p3 p4 v18 v19 o1 o2 o3 o4 (3 : Int) (0 : Int) l12) 7 5 (Ts 3 []) (by kernel_rfl) (tr 3 tt) ?_
      refine W_ret ?_
      obtain rfl := sI h
      exact RetO_intro [some (.tree .u8 .u32)] [] [0, 1, 2, 3, 4, 5, 6] [(2, .adr 5 0 3 0)] (ob29 p1 v17 p3 p4 v18 v19 o1 o2 o3 o4 (3 : Int) (0 : Int) l12) 7 5 (by kernel_rfl) (by kernel_rfl) (by kernel_rfl)
    obtain rfl := hq
    refine blockQ_pan ?_
    refine thenQ_pan ?_
    obtain rfl := sI h
    exact rfl
  refine W_die tbok ⟨[], [(1, ⟨.unk, [false], true, [true], [0, 1, 2, 3, 4], [], some (faultV 40 .i64 .i64 (e93, e94))⟩)]⟩ 1 (faultV 40 .i64 .i64 (e93, e94)) [] [0, 1, 2, 3, 4] [] [] 5 5 [True, Dies Try.prog 62 [.adr 0 0 10 0] (ob21 p1 p2 p3 p4 p5 p6 o1 o2 o3 o4) (faultV 40 .i64 .i64 (e93, e94))] (by kernel_rfl) (by kernel_rfl) ⟨tt, (pq_row_v5_ok rec_pq_either_v1 hrec_pq_either_v1 p1 p2 p3 p4 p5 p6 o1 o2 o3 o4 _ q44), tt⟩ (fun σ1 hle => ?_)
  refine thenQ_pan ?_
  obtain rfl := sI h
  exact rfl
theorem pq_either_v1_ok : ∀ (n : Nat) (p1 : List UInt8) (p2 p3 p4 p5 p6 : Int) (o1 : List (List UInt8)) (o2 : List Int) (o3 : List (Int × Tree × Tree)) (o4 : List ((List UInt8) × Int)) (res : (Tree × Int × Int × Int) ⊕ (Int × Int)), pq_either_v1 n p1 p2 p3 p4 p5 p6 o1 o2 o3 o4 = some res → Does Try.prog 55 [.adr 0 0 10 0] (ob21 p1 p2 p3 p4 p5 p6 o1 o2 o3 o4) (outT (fun (q : Tree × Int × Int × Int) => (.agg [.u8 q.1.op, .u32 q.1.set, .p false (.slice (.tree .u8 .u32)) q.1.kids], (ob21 p1 q.2.1 p3 p4 q.2.2.1 q.2.2.2 o1 o2 o3 o4))) (faultV 40 .i64 .i64) res)
  | 0, _, _, _, _, _, _, _, _, _, _, _, h => by cases h
  | n + 1, p1, p2, p3, p4, p5, p6, o1, o2, o3, o4, res, h => pq_either_v1_F_ok (pq_either_v1 n) (pq_either_v1_ok n)  p1 p2 p3 p4 p5 p6 o1 o2 o3 o4 res h
def pq_rule_v1 (does1 at1 : Int) (p1 : List UInt8) (p2 p3 p4 p5 p6 : Int) (o1 : List (List UInt8)) (o2 : List Int) (o3 : List (Int × Tree × Tree)) (o4 : List ((List UInt8) × Int)) : Option ((Int × (List (Int × Tree × Tree)) × Int × Int) ⊕ (Int × Int)) :=
  (if (decide ((o3.length : Int) ≥ (24 : Int))) = true then ((pq_fail_v2 (24 : Int) at1 p1 p2 p3 p4 p5 p6 o1 o2 o3 o4).bind fun (z12 : (Unit) ⊕ (Int × Int)) => match z12 with
  | .inr (e23, e24) => some (Sum.inr (e23, e24))
  | .inl _ => none)
  else ((pq_either_v1 1000 p1 p2 p3 p4 p5 p6 o1 o2 o3 o4).bind fun (z14 : (Tree × Int × Int × Int) ⊕ (Int × Int)) => match z14 with
  | .inr (e27, e28) => some (Sum.inr (e27, e28))
  | .inl (r25, r26, r27, r28) => ((pq_want_v1 (47 : Int) p1 r26 p3 p4 r27 r28 o1 o2 o3 o4).bind fun (z16 : (Int) ⊕ (Int × Int)) => match z16 with
  | .inr (e31, e32) => some (Sum.inr (e31, e32))
  | .inl r30 => ((pq_either_v1 1000 p1 r30 p3 p4 r27 r28 o1 o2 o3 o4).bind fun (z18 : (Tree × Int × Int × Int) ⊕ (Int × Int)) => match z18 with
  | .inr (e35, e36) => some (Sum.inr (e35, e36))
  | .inl (r35, r36, r37, r38) => ((pq_want_v1 (59 : Int) p1 r36 p3 p4 r37 r38 o1 o2 o3 o4).bind fun (z20 : (Int) ⊕ (Int × Int)) => match z20 with
  | .inr (e39, e40) => some (Sum.inr (e39, e40))
  | .inl r40 => (if (o3.length + ([(does1, ((Tree.node r25.op r25.set r25.kids), (Tree.node r35.op r35.set r35.kids)))] : List (Int × Tree × Tree)).length) * 72 ≤ 140737488355328 ∧ o3.length + ([(does1, ((Tree.node r25.op r25.set r25.kids), (Tree.node r35.op r35.set r35.kids)))] : List (Int × Tree × Tree)).length ≤ 9223372036854775807 then some (Sum.inl (r40, (o3 ++ ([(does1, ((Tree.node r25.op r25.set r25.kids), (Tree.node r35.op r35.set r35.kids)))] : List (Int × Tree × Tree))), r37, r38)) else none))))))
theorem pq_rule_v1_ok (does1 at1 : Int) (p1 : List UInt8) (p2 p3 p4 p5 p6 : Int) (o1 : List (List UInt8)) (o2 : List Int) (o3 : List (Int × Tree × Tree)) (o4 : List ((List UInt8) × Int)) (res : (Int × (List (Int × Tree × Tree)) × Int × Int) ⊕ (Int × Int)) (h : pq_rule_v1 does1 at1 p1 p2 p3 p4 p5 p6 o1 o2 o3 o4 = some res) :
    Does Try.prog 35 [.adr 0 0 10 0, .u8 does1, .i64 at1] (ob21 p1 p2 p3 p4 p5 p6 o1 o2 o3 o4) (outT (fun (q : Int × (List (Int × Tree × Tree)) × Int × Int) => (.tup [], (ob34 p1 q.1 p3 p4 q.2.2.1 q.2.2.2 o1 o2 o4 q.2.1))) (faultV 40 .i64 .i64) res) := by
  refine Does.of_body tbok Try.func35 (by kernel_rfl) rfl (nl rfl) (fun Bw w0 => ?_)
  unfold pq_rule_v1 at h
  refine W_seq ?_
  refine W_rs tbok ⟨[], []⟩ [] [0, 1, 2, 3, 4] [(0, .adr 0 0 10 0), (1, .u8 does1), (2, .i64 at1), (13, .bo (decide ((o3.length : Int) ≥ (24 : Int))))] (ob21 p1 p2 p3 p4 p5 p6 o1 o2 o3 o4) 5 5 (Ts 7 []) (by kernel_rfl) (tr 7 tt) ?_
  refine W_cond (b := (decide ((o3.length : Int) ≥ (24 : Int)))) (β := false) (by kernel_rfl) (fun hb2 => ?_) (fun hb2 => ?_)
  · replace h := h_if hb2 h
    obtain ⟨z12, q12, h⟩ := h_bind h
    rcases z12 with _ | ⟨e23, e24⟩
    · cases h
    refine W_die tbok ⟨[], [(2, ⟨.unk, [false, false, false], true, [true, true, true], [0, 1, 2, 3, 4], [], some (faultV 40 .i64 .i64 (e23, e24))⟩)]⟩ 2 (faultV 40 .i64 .i64 (e23, e24)) [] [0, 1, 2, 3, 4] [] [] 5 5 [True, True, Dies Try.prog 22 [.adr 0 0 10 0, .i64 (24 : Int), .i64 at1] (ob21 p1 p2 p3 p4 p5 p6 o1 o2 o3 o4) (faultV 40 .i64 .i64 (e23, e24))] (by kernel_rfl) (by kernel_rfl) ⟨tt, tt, (pq_fail_v2_ok (24 : Int) at1 p1 p2 p3 p4 p5 p6 o1 o2 o3 o4 _ q12), tt⟩ (fun σ1 hle => ?_)
    refine thenQ_pan ?_
    obtain rfl := sI h
    exact rfl
  replace h := h_else hb2 h
  refine W_skip_to ?_
  refine to_then ?_
  refine W_rs tbok ⟨[], []⟩ [] [0, 1, 2, 3, 4, 21] [(0, .adr 0 0 10 0), (6, .adr 5 0 7 0)] (ob25 p1 p2 p3 p4 p5 p6 o1 o2 o3 o4 does1 (0 : Int) (0 : Int) (0 : Int) (0 : Int)) 6 5 (Ts 4 []) (by kernel_rfl) (tr 4 tt) ?_
  refine W_seq ?_
  obtain ⟨z14, q14, h⟩ := h_bind h
  rcases z14 with ⟨r25, r26, r27, r28⟩ | ⟨e27, e28⟩
  · have u_1 := (pq_either_v1_ok 1000 p1 p2 p3 p4 p5 p6 o1 o2 o3 o4 _ q14)
    refine W_r tbok ⟨[], [(1, ⟨.agg [.u8 r25.op, .u32 r25.set, .p false (.slice (.tree .u8 .u32)) r25.kids], [false], true, [true], [0, 1, 2, 3, 4], (ob21 p1 r26 p3 p4 r27 r28 o1 o2 o3 o4), none⟩)]⟩ [] [0, 1, 2, 3, 4, 5] [(0, .adr 0 0 10 0), (6, .adr 5 0 7 0)] (ob32 p1 r26 p3 p4 r27 r28 o1 o2 o3 o4 does1 r25.op r25.set r25.kids (0 : Int) (0 : Int)) 6 5 [True, pO u_1, True, True] (by kernel_rfl) ⟨tt, u_1, tt, tt, tt⟩ ?_
    refine to_then ?_
    refine W_seq ?_
    obtain ⟨z16, q16, h⟩ := h_bind h
    rcases z16 with r30 | ⟨e31, e32⟩
    · have u_1 := (pq_want_v1_ok (47 : Int) p1 r26 p3 p4 r27 r28 o1 o2 o3 o4 _ q16)
      refine W_r tbok ⟨[], [(1, ⟨.tup [], [false, false], true, [true, true], [0, 1, 2, 3, 4], (ob21 p1 r30 p3 p4 r27 r28 o1 o2 o3 o4), none⟩)]⟩ [] [0, 1, 2, 3, 4, 5] [(0, .adr 0 0 10 0), (6, .adr 5 0 7 0)] (ob32 p1 r30 p3 p4 r27 r28 o1 o2 o3 o4 does1 r25.op r25.set r25.kids (0 : Int) (0 : Int)) 6 5 [True, pO u_1] (by kernel_rfl) ⟨tt, u_1, tt⟩ ?_
      refine to_then ?_
      refine W_seq ?_
      obtain ⟨z18, q18, h⟩ := h_bind h
      rcases z18 with ⟨r35, r36, r37, r38⟩ | ⟨e35, e36⟩
      · have u_1 := (pq_either_v1_ok 1000 p1 r30 p3 p4 r27 r28 o1 o2 o3 o4 _ q18)
        refine W_r tbok ⟨[], [(1, ⟨.agg [.u8 r35.op, .u32 r35.set, .p false (.slice (.tree .u8 .u32)) r35.kids], [false], true, [true], [0, 1, 2, 3, 4], (ob21 p1 r36 p3 p4 r37 r38 o1 o2 o3 o4), none⟩)]⟩ [] [0, 1, 2, 3, 4, 5] [(0, .adr 0 0 10 0), (6, .adr 5 0 7 0)] (ob33 p1 r36 p3 p4 r37 r38 o1 o2 o3 o4 does1 r25.op r25.set r25.kids r35.op r35.set r35.kids) 6 5 [True, pO u_1, True, True] (by kernel_rfl) ⟨tt, u_1, tt, tt, tt⟩ ?_
        refine to_then ?_
        refine W_seq ?_
        obtain ⟨z20, q20, h⟩ := h_bind h
        rcases z20 with r40 | ⟨e39, e40⟩
        · have u_1 := (pq_want_v1_ok (59 : Int) p1 r36 p3 p4 r37 r38 o1 o2 o3 o4 _ q20)
          refine W_r tbok ⟨[], [(1, ⟨.tup [], [false, false], true, [true, true], [0, 1, 2, 3, 4], (ob21 p1 r40 p3 p4 r37 r38 o1 o2 o3 o4), none⟩)]⟩ [] [0, 1, 2, 3, 4, 5] [(0, .adr 0 0 10 0), (6, .adr 5 0 7 0)] (ob33 p1 r40 p3 p4 r37 r38 o1 o2 o3 o4 does1 r25.op r25.set r25.kids r35.op r35.set r35.kids) 6 5 [True, pO u_1] (by kernel_rfl) ⟨tt, u_1, tt⟩ ?_
          refine to_then ?_
          obtain ⟨c4, h⟩ := h_guard h
          refine W_regD tbok mixed ⟨[], []⟩ [] [0, 1, 2, 3, 4, 70] [] (ob34 p1 r40 p3 p4 r37 r38 o1 o2 o4 (o3 ++ ([(does1, ((Tree.node r25.op r25.set r25.kids), (Tree.node r35.op r35.set r35.kids)))] : List (Int × Tree × Tree)))) 6 5 (Ts 8 (((o3.length + ([(does1, ((Tree.node r25.op r25.set r25.kids), (Tree.node r35.op r35.set r35.kids)))] : List (Int × Tree × Tree)).length) * 72 ≤ 140737488355328 ∧ o3.length + ([(does1, ((Tree.node r25.op r25.set r25.kids), (Tree.node r35.op r35.set r35.kids)))] : List (Int × Tree × Tree)).length ≤ 9223372036854775807) :: (Ts 4 []))) (by kernel_rfl) (by kernel_rfl) (tr 8 ⟨c4, (tr 4 tt)⟩) ?_
          obtain rfl := sI h
          exact (RetO_intro [] [] [0, 1, 2, 3, 4, 5] [] (ob34 p1 r40 p3 p4 r37 r38 o1 o2 o4 (o3 ++ ([(does1, ((Tree.node r25.op r25.set r25.kids), (Tree.node r35.op r35.set r35.kids)))] : List (Int × Tree × Tree)))) 6 5 (by kernel_rfl) (by kernel_rfl) (by kernel_rfl)).normal
        refine W_die tbok ⟨[], [(1, ⟨.unk, [false, false], true, [true, true], [0, 1, 2, 3, 4], [], some (faultV 40 .i64 .i64 (e39, e40))⟩)]⟩ 1 (faultV 40 .i64 .i64 (e39, e40)) [] [0, 1, 2, 3, 4] [] [] 5 5 [True, Dies Try.prog 49 [.adr 0 0 10 0, .u8 (59 : Int)] (ob21 p1 r36 p3 p4 r37 r38 o1 o2 o3 o4) (faultV 40 .i64 .i64 (e39, e40))] (by kernel_rfl) (by kernel_rfl) ⟨tt, (pq_want_v1_ok (59 : Int) p1 r36 p3 p4 r37 r38 o1 o2 o3 o4 _ q20), tt⟩ (fun σ1 hle => ?_)
        refine thenQ_pan ?_
        obtain rfl := sI h
        exact rfl
      refine W_die tbok ⟨[], [(1, ⟨.unk, [false], true, [true], [0, 1, 2, 3, 4], [], some (faultV 40 .i64 .i64 (e35, e36))⟩)]⟩ 1 (faultV 40 .i64 .i64 (e35, e36)) [] [0, 1, 2, 3, 4] [] [] 5 5 [True, Dies Try.prog 55 [.adr 0 0 10 0] (ob21 p1 r30 p3 p4 r27 r28 o1 o2 o3 o4) (faultV 40 .i64 .i64 (e35, e36))] (by kernel_rfl) (by kernel_rfl) ⟨tt, (pq_either_v1_ok 1000 p1 r30 p3 p4 r27 r28 o1 o2 o3 o4 _ q18), tt⟩ (fun σ1 hle => ?_)
      refine thenQ_pan ?_
      obtain rfl := sI h
      exact rfl
    refine W_die tbok ⟨[], [(1, ⟨.unk, [false, false], true, [true, true], [0, 1, 2, 3, 4], [], some (faultV 40 .i64 .i64 (e31, e32))⟩)]⟩ 1 (faultV 40 .i64 .i64 (e31, e32)) [] [0, 1, 2, 3, 4] [] [] 5 5 [True, Dies Try.prog 49 [.adr 0 0 10 0, .u8 (47 : Int)] (ob21 p1 r26 p3 p4 r27 r28 o1 o2 o3 o4) (faultV 40 .i64 .i64 (e31, e32))] (by kernel_rfl) (by kernel_rfl) ⟨tt, (pq_want_v1_ok (47 : Int) p1 r26 p3 p4 r27 r28 o1 o2 o3 o4 _ q16), tt⟩ (fun σ1 hle => ?_)
    refine thenQ_pan ?_
    obtain rfl := sI h
    exact rfl
  refine W_die tbok ⟨[], [(1, ⟨.unk, [false], true, [true], [0, 1, 2, 3, 4], [], some (faultV 40 .i64 .i64 (e27, e28))⟩)]⟩ 1 (faultV 40 .i64 .i64 (e27, e28)) [] [0, 1, 2, 3, 4] [] [] 5 5 [True, Dies Try.prog 55 [.adr 0 0 10 0] (ob21 p1 p2 p3 p4 p5 p6 o1 o2 o3 o4) (faultV 40 .i64 .i64 (e27, e28))] (by kernel_rfl) (by kernel_rfl) ⟨tt, (pq_either_v1_ok 1000 p1 p2 p3 p4 p5 p6 o1 o2 o3 o4 _ q14), tt⟩ (fun σ1 hle => ?_)
  refine thenQ_pan ?_
  obtain rfl := sI h
  exact rfl
def pq_all_L1 (p1 : List UInt8) : (Int × (List (List UInt8)) × Int × Int × (List Int) × (List (Int × Tree × Tree)) × (List ((List UInt8) × Int)) × Int × Int) → Option ((Int × (List (List UInt8)) × Int × Int × (List Int) × (List (Int × Tree × Tree)) × (List ((List UInt8) × Int)) × Int × Int) ⊕ ((Int × (List (List UInt8)) × Int × Int × (List Int) × (List (Int × Tree × Tree)) × (List ((List UInt8) × Int)) × Int × Int) ⊕ (Int × Int))) := fun ((p34, p35, p36, p37, p38, p39, p40, p41, p42) : Int × (List (List UInt8)) × Int × Int × (List Int) × (List (Int × Tree × Tree)) × (List ((List UInt8) × Int)) × Int × Int) =>
  ((pq_here_v2 p1 p34 p36 p37 p41 p42 p35 p38 p39 p40).bind fun (z78 : (Int × Int) ⊕ (Int × Int)) => match z78 with
  | .inr (e159, e160) => some (Sum.inr (Sum.inr (e159, e160)))
  | .inl (r196, r197) => (if (r196 != (0 : Int)) = true then ((pq_word_v2 p1 r197 p36 p37 p41 p42 p35 p38 p39 p40).bind fun (z80 : ((List UInt8) × Int × Int) ⊕ (Int × Int)) => match z80 with
  | .inr (e163, e164) => some (Sum.inr (Sum.inr (e163, e164)))
  | .inl (r201, r202, r203) => (if (keyEq .str ([99, 108, 97, 115, 115] : List UInt8) r201) = true then ((pq_class_v1 p1 r203 p36 p37 p41 p42 p35 p38 p39 p40).bind fun (z82 : (Int × (List (List UInt8)) × (List Int) × List ((List UInt8) × Int)) ⊕ (Int × Int)) => match z82 with
  | .inr (e167, e168) => some (Sum.inr (Sum.inr (e167, e168)))
  | .inl (r208, r209, r210, r211) => some (Sum.inl (r208, r209, p36, p37, r210, p39, r211, p41, p42)))
  else (if (keyEq .str ([115, 101, 116] : List UInt8) r201) = true then ((pq_set_v1 p1 r203 p36 p37 p41 p42 p35 p38 p39 p40).bind fun (z84 : (Int × List ((List UInt8) × Int)) ⊕ (Int × Int)) => match z84 with
  | .inr (e171, e172) => some (Sum.inr (Sum.inr (e171, e172)))
  | .inl (r214, r215) => some (Sum.inl (r214, p35, p36, p37, p38, p39, r215, p41, p42)))
  else (if (keyEq .str ([106, 111, 105, 110] : List UInt8) r201) = true then ((pq_join_v1 p1 r203 p36 p37 p41 p42 p35 p38 p39 p40).bind fun (z86 : (Int × Int × Int) ⊕ (Int × Int)) => match z86 with
  | .inr (e175, e176) => some (Sum.inr (Sum.inr (e175, e176)))
  | .inl (r219, r220, r221) => some (Sum.inl (r219, p35, r220, r221, p38, p39, p40, p41, p42)))
  else (if (keyEq .str ([116, 114, 101, 97, 116] : List UInt8) r201) = true then ((pq_treat_v1 p1 r203 p36 p37 p41 p42 p35 p38 p39 p40).bind fun (z88 : (Int × List Int) ⊕ (Int × Int)) => match z88 with
  | .inr (e179, e180) => some (Sum.inr (Sum.inr (e179, e180)))
  | .inl (r224, r225) => some (Sum.inl (r224, p35, p36, p37, r225, p39, p40, p41, p42)))
  else (if ((mfind .str (mset .str (mset .str (mset .str ([] : List ((List UInt8) × Int)) ([107, 101, 101, 112] : List UInt8) (0 : Int)) ([109, 97, 121] : List UInt8) (1 : Int)) ([109, 117, 115, 116] : List UInt8) (2 : Int)) r201).isSome) = true then ((pq_rule_v1 ((mfind .str (mset .str (mset .str (mset .str ([] : List ((List UInt8) × Int)) ([107, 101, 101, 112] : List UInt8) (0 : Int)) ([109, 97, 121] : List UInt8) (1 : Int)) ([109, 117, 115, 116] : List UInt8) (2 : Int)) r201).getD (0 : Int)) r202 p1 r203 p36 p37 p41 p42 p35 p38 p39 p40).bind fun (z90 : (Int × (List (Int × Tree × Tree)) × Int × Int) ⊕ (Int × Int)) => match z90 with
  | .inr (e183, e184) => some (Sum.inr (Sum.inr (e183, e184)))
  | .inl (r230, r231, r232, r233) => some (Sum.inl (r230, p35, p36, p37, p38, r231, p40, r232, r233)))
  else ((pq_fail_v2 (21 : Int) r202 p1 r203 p36 p37 p41 p42 p35 p38 p39 p40).bind fun (z92 : (Unit) ⊕ (Int × Int)) => match z92 with
  | .inr (e187, e188) => some (Sum.inr (Sum.inr (e187, e188)))
  | .inl _ => none)))))))
  else some (Sum.inr (Sum.inl (r197, p35, p36, p37, p38, p39, p40, p41, p42)))))
def pq_all (p1 : List UInt8) (p2 p3 p4 p5 p6 : Int) (o1 : List ((List UInt8) × Int)) : Option ((Int × (List (List UInt8)) × Int × Int × (List Int) × (List (Int × Tree × Tree)) × (List ((List UInt8) × Int)) × Int × Int) ⊕ (Int × Int)) :=
  ((iter (pq_all_L1 p1) (p2, ([] : List (List UInt8)), p3, p4, ([] : List Int), ([] : List (Int × Tree × Tree)), o1, p5, p6)).bind fun (r234 : ((Int × (List (List UInt8)) × Int × Int × (List Int) × (List (Int × Tree × Tree)) × (List ((List UInt8) × Int)) × Int × Int) ⊕ (Int × Int))) => match r234 with
  | .inl (v19, v20, v21, v22, v23, v24, v25, v26, v27) => some (Sum.inl (v19, v20, v21, v22, v23, v24, v25, v26, v27))
  | .inr ((e155, e156)) => some (Sum.inr (e155, e156)))
theorem pq_all_ok (p1 : List UInt8) (p2 p3 p4 p5 p6 : Int) (o1 : List ((List UInt8) × Int)) (res : (Int × (List (List UInt8)) × Int × Int × (List Int) × (List (Int × Tree × Tree)) × (List ((List UInt8) × Int)) × Int × Int) ⊕ (Int × Int)) (h : pq_all p1 p2 p3 p4 p5 p6 o1 = some res) :
    Does Try.prog 23 [.adr 0 0 10 0] (ob3 p1 p2 p3 p4 p5 p6 o1) (outT (fun (q : Int × (List (List UInt8)) × Int × Int × (List Int) × (List (Int × Tree × Tree)) × (List ((List UInt8) × Int)) × Int × Int) => (.tup [], (ob35 p1 q.1 q.2.2.1 q.2.2.2.1 q.2.2.2.2.2.2.2.1 q.2.2.2.2.2.2.2.2 q.2.2.2.2.2.2.1 q.2.1 q.2.2.2.2.1 q.2.2.2.2.2.1))) (faultV 40 .i64 .i64) res) := by
  refine Does.of_body tbok Try.func23 (by kernel_rfl) rfl (nl rfl) (fun Bw w0 => ?_)
  unfold pq_all at h
  refine W_rs tbok ⟨[], []⟩ [] [0, 1, 2] [(0, .adr 0 0 10 0), (2, .mp 2)] (ob4 p1 p2 p3 p4 p5 p6 o1) 3 2 (Ts 7 []) (by kernel_rfl) (tr 7 tt) ?_
  refine W_rs tbok ⟨[], []⟩ [] [0, 1, 2, 3] [(0, .adr 0 0 10 0), (2, .mp 2), (3, .mp 3)] (ob5 p1 p2 p3 p4 p5 p6 o1 (mset .str (mset .str (mset .str ([] : List ((List UInt8) × Int)) ([107, 101, 101, 112] : List UInt8) (0 : Int)) ([109, 97, 121] : List UInt8) (1 : Int)) ([109, 117, 115, 116] : List UInt8) (2 : Int))) 4 2 (Ts 6 []) (by kernel_rfl) (tr 6 tt) ?_
  refine W_block ?_
  obtain ⟨r234, hp2, h⟩ := h_bind h
  refine W.mono (Q := (postS (postX Try.f23.ntmps 0 (fun ((v19, v20, v21, v22, v23, v24, v25, v26, v27) : Int × (List (List UInt8)) × Int × Int × (List Int) × (List (Int × Tree × Tree)) × (List ((List UInt8) × Int)) × Int × Int) => mkSt [] (ob35 p1 v19 v21 v22 v26 v27 v25 v20 v23 v24) 5 2)) (postP (faultV 40 .i64 .i64))) r234) (W_iter (f := fun ((p34, p35, p36, p37, p38, p39, p40, p41, p42) : Int × (List (List UInt8)) × Int × Int × (List Int) × (List (Int × Tree × Tree)) × (List ((List UInt8) × Int)) × Int × Int) => mkSt [(0, .adr 0 0 10 0), (2, .mp 5), (3, .mp 6)] (ob22 p1 p34 p36 p37 p41 p42 p40 p35 p38 p39 (mset .str (mset .str (mset .str ([] : List ((List UInt8) × Int)) ([107, 101, 101, 112] : List UInt8) (0 : Int)) ([109, 97, 121] : List UInt8) (1 : Int)) ([109, 117, 115, 116] : List UInt8) (2 : Int))) 7 2) (Q := (postS (postX Try.f23.ntmps 0 (fun ((v19, v20, v21, v22, v23, v24, v25, v26, v27) : Int × (List (List UInt8)) × Int × Int × (List Int) × (List (Int × Tree × Tree)) × (List ((List UInt8) × Int)) × Int × Int) => mkSt [] (ob35 p1 v19 v21 v22 v26 v27 v25 v20 v23 v24) 5 2)) (postP (faultV 40 .i64 .i64)))) hp2 (gl [.nilC 0 2 4 9 .str, .nilC 0 5 5 3 (.int .i64), .nilC 0 6 6 52 (.prod (.int .u8) Y1)] [0, 1, 4, 5, 6, 2, 3] (by kernel_rfl)) (fun y o ho => ?_)) (fun e σ' hq => ?_)
  · obtain ⟨p34, p35, p36, p37, p38, p39, p40, p41, p42⟩ := y
    replace h := ho
    clear ho hp2
    unfold pq_all_L1 at h
    refine W_seq ?_
    refine W_seq ?_
    obtain ⟨z78, q78, h⟩ := h_bind h
    rcases z78 with ⟨r196, r197⟩ | ⟨e159, e160⟩
    · have u_1 := (pq_here_v2_ok p1 p34 p36 p37 p41 p42 p35 p38 p39 p40 _ q78)
      refine W_r tbok ⟨[], [(1, ⟨.u8 r196, [false], true, [true], [0, 2, 3, 4, 1], (ob21 p1 r197 p36 p37 p41 p42 p35 p38 p39 p40), none⟩)]⟩ [] [0, 1, 2, 3, 4, 5, 6] [(0, .adr 0 0 10 0), (2, .mp 5), (3, .mp 6), (16, .bo (r196 != (0 : Int)))] (ob22 p1 r197 p36 p37 p41 p42 p40 p35 p38 p39 (mset .str (mset .str (mset .str ([] : List ((List UInt8) × Int)) ([107, 101, 101, 112] : List UInt8) (0 : Int)) ([109, 97, 121] : List UInt8) (1 : Int)) ([109, 117, 115, 116] : List UInt8) (2 : Int))) 7 2 [True, pO u_1, True] (by kernel_rfl) ⟨tt, u_1, tt, tt⟩ ?_
      refine to_then ?_
      refine W_cond (b := (r196 != (0 : Int))) (β := false) (by kernel_rfl) (fun hb76 => ?_) (fun hb76 => ?_)
      · replace h := h_if hb76 h
        refine W_skip_to ?_
        refine to_then ?_
        refine W_block ?_
        refine W_seq ?_
        obtain ⟨z80, q80, h⟩ := h_bind h
        rcases z80 with ⟨r201, r202, r203⟩ | ⟨e163, e164⟩
        · have u_1 := (pq_word_v2_ok p1 r197 p36 p37 p41 p42 p35 p38 p39 p40 _ q80)
          refine W_r tbok ⟨[], [(1, ⟨.tup [.st r201, .i64 r202], [false], true, [true], [0, 2, 3, 4, 1], (ob21 p1 r203 p36 p37 p41 p42 p35 p38 p39 p40), none⟩)]⟩ [] [0, 1, 2, 3, 4, 5, 6] [(0, .adr 0 0 10 0), (2, .mp 5), (3, .mp 6), (4, .st r201), (5, .i64 r202)] (ob22 p1 r203 p36 p37 p41 p42 p40 p35 p38 p39 (mset .str (mset .str (mset .str ([] : List ((List UInt8) × Int)) ([107, 101, 101, 112] : List UInt8) (0 : Int)) ([109, 97, 121] : List UInt8) (1 : Int)) ([109, 117, 115, 116] : List UInt8) (2 : Int))) 7 2 (True :: (pO u_1) :: (Ts 5 [])) (by kernel_rfl) ⟨tt, u_1, (tr 5 tt)⟩ ?_
          refine to_then ?_
          refine W_seq ?_
          rcases bb (keyEq .str ([99, 108, 97, 115, 115] : List UInt8) r201) with hb81 | hb81
          · replace h := h_if hb81 h
            refine W_r tbok ⟨[], [(2, ⟨.unk, [], false, [], [0], [], none⟩)]⟩ [] [0, 1, 2, 3, 4, 5, 6] [(0, .adr 0 0 10 0), (2, .mp 5), (3, .mp 6), (4, .st r201), (5, .i64 r202), (6, .lit (fnV 29)), (7, .bo true)] (ob22 p1 r203 p36 p37 p41 p42 p40 p35 p38 p39 (mset .str (mset .str (mset .str ([] : List ((List UInt8) × Int)) ([107, 101, 101, 112] : List UInt8) (0 : Int)) ([109, 97, 121] : List UInt8) (1 : Int)) ([109, 117, 115, 116] : List UInt8) (2 : Int))) 7 2 (True :: True :: (True ∧ keyAt .str [(([99, 108, 97, 115, 115] : List UInt8), (fnV 29)), (([115, 101, 116] : List UInt8), (fnV 30)), (([106, 111, 105, 110] : List UInt8), (fnV 31)), (([116, 114, 101, 97, 116] : List UInt8), (fnV 32))] r201 0) :: (Ts 5 [])) (by kernel_rfl) ⟨tt, tt, ⟨tt, hb81⟩, (tr 5 tt)⟩ ?_
            refine to_then ?_
            refine W_rs tbok ⟨[], []⟩ [] [0, 1, 2, 3, 4, 5, 6] [(0, .adr 0 0 10 0), (2, .mp 5), (3, .mp 6), (4, .st r201), (5, .i64 r202), (6, .lit (fnV 29)), (28, .bo true)] (ob22 p1 r203 p36 p37 p41 p42 p40 p35 p38 p39 (mset .str (mset .str (mset .str ([] : List ((List UInt8) × Int)) ([107, 101, 101, 112] : List UInt8) (0 : Int)) ([109, 97, 121] : List UInt8) (1 : Int)) ([109, 117, 115, 116] : List UInt8) (2 : Int))) 7 2 [True] (by kernel_rfl) ⟨tt, tt⟩ ?_
            refine W_cond (b := true) (β := false) (by kernel_rfl) (fun hb82 => ?_) (fun hb82 => ?_)
            · obtain ⟨z82, q82, h⟩ := h_bind h
              rcases z82 with ⟨r208, r209, r210, r211⟩ | ⟨e167, e168⟩
              · have u_1 := (pq_class_v1_ok p1 r203 p36 p37 p41 p42 p35 p38 p39 p40 _ q82)
                refine W_r tbok ⟨[], [(2, ⟨.tup [], [false], true, [true], [0, 2, 3, 4, 1], (ob24 p1 r208 p36 p37 p41 p42 p39 r211 r209 r210), none⟩)]⟩ [] [0, 1, 23, 24, 4, 5, 6] [(0, .adr 0 0 10 0), (2, .mp 5), (3, .mp 6)] (ob22 p1 r208 p36 p37 p41 p42 r211 r209 r210 p39 (mset .str (mset .str (mset .str ([] : List ((List UInt8) × Int)) ([107, 101, 101, 112] : List UInt8) (0 : Int)) ([109, 97, 121] : List UInt8) (1 : Int)) ([109, 117, 115, 116] : List UInt8) (2 : Int))) 7 2 [True, True, pO u_1] (by kernel_rfl) ⟨tt, tt, u_1, tt⟩ ?_
                refine to_block ?_
                obtain rfl := sI h
                exact roundB (gl [] [0, 1, 2, 3, 4, 5, 6] (by kernel_rfl))
              refine W_die tbok ⟨[], [(2, ⟨.unk, [false], true, [true], [0, 2, 3, 4, 1], [], some (faultV 40 .i64 .i64 (e167, e168))⟩)]⟩ 2 (faultV 40 .i64 .i64 (e167, e168)) [] [0, 1] [] [] 2 2 [True, True, Dies Try.prog 29 [.adr 0 0 10 0] (ob21 p1 r203 p36 p37 p41 p42 p35 p38 p39 p40) (faultV 40 .i64 .i64 (e167, e168))] (by kernel_rfl) (by kernel_rfl) ⟨tt, tt, (pq_class_v1_ok p1 r203 p36 p37 p41 p42 p35 p38 p39 p40 _ q82), tt⟩ (fun σ1 hle => ?_)
              obtain rfl := sI h
              refine blockQ_pan ?_
              refine round_pan ?_
              refine postS_rr ?_
              exact rfl
            exact absurd (hb82.symm.trans rfl) (by decide)
          replace h := h_else hb81 h
          rcases bb (keyEq .str ([115, 101, 116] : List UInt8) r201) with hb83 | hb83
          · replace h := h_if hb83 h
            refine W_r tbok ⟨[], [(2, ⟨.unk, [], false, [], [1], [], none⟩)]⟩ [] [0, 1, 2, 3, 4, 5, 6] [(0, .adr 0 0 10 0), (2, .mp 5), (3, .mp 6), (4, .st r201), (5, .i64 r202), (6, .lit (fnV 30)), (7, .bo true)] (ob22 p1 r203 p36 p37 p41 p42 p40 p35 p38 p39 (mset .str (mset .str (mset .str ([] : List ((List UInt8) × Int)) ([107, 101, 101, 112] : List UInt8) (0 : Int)) ([109, 97, 121] : List UInt8) (1 : Int)) ([109, 117, 115, 116] : List UInt8) (2 : Int))) 7 2 (True :: True :: (True ∧ keyAt .str [(([99, 108, 97, 115, 115] : List UInt8), (fnV 29)), (([115, 101, 116] : List UInt8), (fnV 30)), (([106, 111, 105, 110] : List UInt8), (fnV 31)), (([116, 114, 101, 97, 116] : List UInt8), (fnV 32))] r201 1) :: (Ts 5 [])) (by kernel_rfl) ⟨tt, tt, ⟨tt, ⟨hb81, hb83⟩⟩, (tr 5 tt)⟩ ?_
            refine to_then ?_
            refine W_rs tbok ⟨[], []⟩ [] [0, 1, 2, 3, 4, 5, 6] [(0, .adr 0 0 10 0), (2, .mp 5), (3, .mp 6), (4, .st r201), (5, .i64 r202), (6, .lit (fnV 30)), (28, .bo true)] (ob22 p1 r203 p36 p37 p41 p42 p40 p35 p38 p39 (mset .str (mset .str (mset .str ([] : List ((List UInt8) × Int)) ([107, 101, 101, 112] : List UInt8) (0 : Int)) ([109, 97, 121] : List UInt8) (1 : Int)) ([109, 117, 115, 116] : List UInt8) (2 : Int))) 7 2 [True] (by kernel_rfl) ⟨tt, tt⟩ ?_
            refine W_cond (b := true) (β := false) (by kernel_rfl) (fun hb84 => ?_) (fun hb84 => ?_)
            · obtain ⟨z84, q84, h⟩ := h_bind h
              rcases z84 with ⟨r214, r215⟩ | ⟨e171, e172⟩
              · have u_1 := (pq_set_v1_ok p1 r203 p36 p37 p41 p42 p35 p38 p39 p40 _ q84)
                refine W_r tbok ⟨[], [(2, ⟨.tup [], [false], true, [true], [0, 2, 3, 4, 1], (ob21 p1 r214 p36 p37 p41 p42 p35 p38 p39 r215), none⟩)]⟩ [] [0, 1, 2, 3, 4, 5, 6] [(0, .adr 0 0 10 0), (2, .mp 5), (3, .mp 6)] (ob22 p1 r214 p36 p37 p41 p42 r215 p35 p38 p39 (mset .str (mset .str (mset .str ([] : List ((List UInt8) × Int)) ([107, 101, 101, 112] : List UInt8) (0 : Int)) ([109, 97, 121] : List UInt8) (1 : Int)) ([109, 117, 115, 116] : List UInt8) (2 : Int))) 7 2 [True, True, pO u_1] (by kernel_rfl) ⟨tt, tt, u_1, tt⟩ ?_
                refine to_block ?_
                obtain rfl := sI h
                exact roundB (gl [] [0, 1, 2, 3, 4, 5, 6] (by kernel_rfl))
              refine W_die tbok ⟨[], [(2, ⟨.unk, [false], true, [true], [0, 2, 3, 4, 1], [], some (faultV 40 .i64 .i64 (e171, e172))⟩)]⟩ 2 (faultV 40 .i64 .i64 (e171, e172)) [] [0, 1] [] [] 2 2 [True, True, Dies Try.prog 30 [.adr 0 0 10 0] (ob21 p1 r203 p36 p37 p41 p42 p35 p38 p39 p40) (faultV 40 .i64 .i64 (e171, e172))] (by kernel_rfl) (by kernel_rfl) ⟨tt, tt, (pq_set_v1_ok p1 r203 p36 p37 p41 p42 p35 p38 p39 p40 _ q84), tt⟩ (fun σ1 hle => ?_)
              obtain rfl := sI h
              refine blockQ_pan ?_
              refine round_pan ?_
              refine postS_rr ?_
              exact rfl
            exact absurd (hb84.symm.trans rfl) (by decide)
          replace h := h_else hb83 h
          rcases bb (keyEq .str ([106, 111, 105, 110] : List UInt8) r201) with hb85 | hb85
          · replace h := h_if hb85 h
            refine W_r tbok ⟨[], [(2, ⟨.unk, [], false, [], [2], [], none⟩)]⟩ [] [0, 1, 2, 3, 4, 5, 6] [(0, .adr 0 0 10 0), (2, .mp 5), (3, .mp 6), (4, .st r201), (5, .i64 r202), (6, .lit (fnV 31)), (7, .bo true)] (ob22 p1 r203 p36 p37 p41 p42 p40 p35 p38 p39 (mset .str (mset .str (mset .str ([] : List ((List UInt8) × Int)) ([107, 101, 101, 112] : List UInt8) (0 : Int)) ([109, 97, 121] : List UInt8) (1 : Int)) ([109, 117, 115, 116] : List UInt8) (2 : Int))) 7 2 (True :: True :: (True ∧ keyAt .str [(([99, 108, 97, 115, 115] : List UInt8), (fnV 29)), (([115, 101, 116] : List UInt8), (fnV 30)), (([106, 111, 105, 110] : List UInt8), (fnV 31)), (([116, 114, 101, 97, 116] : List UInt8), (fnV 32))] r201 2) :: (Ts 5 [])) (by kernel_rfl) ⟨tt, tt, ⟨tt, ⟨hb81, ⟨hb83, hb85⟩⟩⟩, (tr 5 tt)⟩ ?_
            refine to_then ?_
            refine W_rs tbok ⟨[], []⟩ [] [0, 1, 2, 3, 4, 5, 6] [(0, .adr 0 0 10 0), (2, .mp 5), (3, .mp 6), (4, .st r201), (5, .i64 r202), (6, .lit (fnV 31)), (28, .bo true)] (ob22 p1 r203 p36 p37 p41 p42 p40 p35 p38 p39 (mset .str (mset .str (mset .str ([] : List ((List UInt8) × Int)) ([107, 101, 101, 112] : List UInt8) (0 : Int)) ([109, 97, 121] : List UInt8) (1 : Int)) ([109, 117, 115, 116] : List UInt8) (2 : Int))) 7 2 [True] (by kernel_rfl) ⟨tt, tt⟩ ?_
            refine W_cond (b := true) (β := false) (by kernel_rfl) (fun hb86 => ?_) (fun hb86 => ?_)
            · obtain ⟨z86, q86, h⟩ := h_bind h
              rcases z86 with ⟨r219, r220, r221⟩ | ⟨e175, e176⟩
              · have u_1 := (pq_join_v1_ok p1 r203 p36 p37 p41 p42 p35 p38 p39 p40 _ q86)
                refine W_r tbok ⟨[], [(2, ⟨.tup [], [false], true, [true], [0, 2, 3, 4, 1], (ob21 p1 r219 r220 r221 p41 p42 p35 p38 p39 p40), none⟩)]⟩ [] [0, 1, 2, 3, 4, 5, 6] [(0, .adr 0 0 10 0), (2, .mp 5), (3, .mp 6)] (ob22 p1 r219 r220 r221 p41 p42 p40 p35 p38 p39 (mset .str (mset .str (mset .str ([] : List ((List UInt8) × Int)) ([107, 101, 101, 112] : List UInt8) (0 : Int)) ([109, 97, 121] : List UInt8) (1 : Int)) ([109, 117, 115, 116] : List UInt8) (2 : Int))) 7 2 [True, True, pO u_1] (by kernel_rfl) ⟨tt, tt, u_1, tt⟩ ?_
                refine to_block ?_
                obtain rfl := sI h
                exact roundB (gl [] [0, 1, 2, 3, 4, 5, 6] (by kernel_rfl))
              refine W_die tbok ⟨[], [(2, ⟨.unk, [false], true, [true], [0, 2, 3, 4, 1], [], some (faultV 40 .i64 .i64 (e175, e176))⟩)]⟩ 2 (faultV 40 .i64 .i64 (e175, e176)) [] [0, 1] [] [] 2 2 [True, True, Dies Try.prog 31 [.adr 0 0 10 0] (ob21 p1 r203 p36 p37 p41 p42 p35 p38 p39 p40) (faultV 40 .i64 .i64 (e175, e176))] (by kernel_rfl) (by kernel_rfl) ⟨tt, tt, (pq_join_v1_ok p1 r203 p36 p37 p41 p42 p35 p38 p39 p40 _ q86), tt⟩ (fun σ1 hle => ?_)
              obtain rfl := sI h
              refine blockQ_pan ?_
              refine round_pan ?_
              refine postS_rr ?_
              exact rfl
            exact absurd (hb86.symm.trans rfl) (by decide)
          replace h := h_else hb85 h
          rcases bb (keyEq .str ([116, 114, 101, 97, 116] : List UInt8) r201) with hb87 | hb87
          · replace h := h_if hb87 h
            refine W_r tbok ⟨[], [(2, ⟨.unk, [], false, [], [3], [], none⟩)]⟩ [] [0, 1, 2, 3, 4, 5, 6] [(0, .adr 0 0 10 0), (2, .mp 5), (3, .mp 6), (4, .st r201), (5, .i64 r202), (6, .lit (fnV 32)), (7, .bo true)] (ob22 p1 r203 p36 p37 p41 p42 p40 p35 p38 p39 (mset .str (mset .str (mset .str ([] : List ((List UInt8) × Int)) ([107, 101, 101, 112] : List UInt8) (0 : Int)) ([109, 97, 121] : List UInt8) (1 : Int)) ([109, 117, 115, 116] : List UInt8) (2 : Int))) 7 2 (True :: True :: (True ∧ keyAt .str [(([99, 108, 97, 115, 115] : List UInt8), (fnV 29)), (([115, 101, 116] : List UInt8), (fnV 30)), (([106, 111, 105, 110] : List UInt8), (fnV 31)), (([116, 114, 101, 97, 116] : List UInt8), (fnV 32))] r201 3) :: (Ts 5 [])) (by kernel_rfl) ⟨tt, tt, ⟨tt, ⟨hb81, ⟨hb83, ⟨hb85, hb87⟩⟩⟩⟩, (tr 5 tt)⟩ ?_
            refine to_then ?_
            refine W_rs tbok ⟨[], []⟩ [] [0, 1, 2, 3, 4, 5, 6] [(0, .adr 0 0 10 0), (2, .mp 5), (3, .mp 6), (4, .st r201), (5, .i64 r202), (6, .lit (fnV 32)), (28, .bo true)] (ob22 p1 r203 p36 p37 p41 p42 p40 p35 p38 p39 (mset .str (mset .str (mset .str ([] : List ((List UInt8) × Int)) ([107, 101, 101, 112] : List UInt8) (0 : Int)) ([109, 97, 121] : List UInt8) (1 : Int)) ([109, 117, 115, 116] : List UInt8) (2 : Int))) 7 2 [True] (by kernel_rfl) ⟨tt, tt⟩ ?_
            refine W_cond (b := true) (β := false) (by kernel_rfl) (fun hb88 => ?_) (fun hb88 => ?_)
            · obtain ⟨z88, q88, h⟩ := h_bind h
              rcases z88 with ⟨r224, r225⟩ | ⟨e179, e180⟩
              · have u_1 := (pq_treat_v1_ok p1 r203 p36 p37 p41 p42 p35 p38 p39 p40 _ q88)
                refine W_r tbok ⟨[], [(2, ⟨.tup [], [false], true, [true], [0, 2, 3, 4, 1], (ob21 p1 r224 p36 p37 p41 p42 p35 r225 p39 p40), none⟩)]⟩ [] [0, 1, 2, 3, 4, 5, 6] [(0, .adr 0 0 10 0), (2, .mp 5), (3, .mp 6)] (ob22 p1 r224 p36 p37 p41 p42 p40 p35 r225 p39 (mset .str (mset .str (mset .str ([] : List ((List UInt8) × Int)) ([107, 101, 101, 112] : List UInt8) (0 : Int)) ([109, 97, 121] : List UInt8) (1 : Int)) ([109, 117, 115, 116] : List UInt8) (2 : Int))) 7 2 [True, True, pO u_1] (by kernel_rfl) ⟨tt, tt, u_1, tt⟩ ?_
                refine to_block ?_
                obtain rfl := sI h
                exact roundB (gl [] [0, 1, 2, 3, 4, 5, 6] (by kernel_rfl))
              refine W_die tbok ⟨[], [(2, ⟨.unk, [false], true, [true], [0, 2, 3, 4, 1], [], some (faultV 40 .i64 .i64 (e179, e180))⟩)]⟩ 2 (faultV 40 .i64 .i64 (e179, e180)) [] [0, 1] [] [] 2 2 [True, True, Dies Try.prog 32 [.adr 0 0 10 0] (ob21 p1 r203 p36 p37 p41 p42 p35 p38 p39 p40) (faultV 40 .i64 .i64 (e179, e180))] (by kernel_rfl) (by kernel_rfl) ⟨tt, tt, (pq_treat_v1_ok p1 r203 p36 p37 p41 p42 p35 p38 p39 p40 _ q88), tt⟩ (fun σ1 hle => ?_)
              obtain rfl := sI h
              refine blockQ_pan ?_
              refine round_pan ?_
              refine postS_rr ?_
              exact rfl
            exact absurd (hb88.symm.trans rfl) (by decide)
          replace h := h_else hb87 h
          refine W_r tbok ⟨[], [(2, ⟨.unk, [], false, [], [4], [], none⟩)]⟩ [] [0, 1, 2, 3, 4, 5, 6] [(0, .adr 0 0 10 0), (2, .mp 5), (3, .mp 6), (4, .st r201), (5, .i64 r202), (7, .bo false)] (ob22 p1 r203 p36 p37 p41 p42 p40 p35 p38 p39 (mset .str (mset .str (mset .str ([] : List ((List UInt8) × Int)) ([107, 101, 101, 112] : List UInt8) (0 : Int)) ([109, 97, 121] : List UInt8) (1 : Int)) ([109, 117, 115, 116] : List UInt8) (2 : Int))) 7 2 (True :: True :: (True ∧ keyAt .str [(([99, 108, 97, 115, 115] : List UInt8), (fnV 29)), (([115, 101, 116] : List UInt8), (fnV 30)), (([106, 111, 105, 110] : List UInt8), (fnV 31)), (([116, 114, 101, 97, 116] : List UInt8), (fnV 32))] r201 4) :: (Ts 5 [])) (by kernel_rfl) ⟨tt, tt, ⟨tt, ⟨hb81, ⟨hb83, ⟨hb85, ⟨hb87, tt⟩⟩⟩⟩⟩, (tr 5 tt)⟩ ?_
          refine to_then ?_
          refine W_rs tbok ⟨[], []⟩ [] [0, 1, 2, 3, 4, 5, 6] [(0, .adr 0 0 10 0), (2, .mp 5), (3, .mp 6), (4, .st r201), (5, .i64 r202), (28, .bo false)] (ob22 p1 r203 p36 p37 p41 p42 p40 p35 p38 p39 (mset .str (mset .str (mset .str ([] : List ((List UInt8) × Int)) ([107, 101, 101, 112] : List UInt8) (0 : Int)) ([109, 97, 121] : List UInt8) (1 : Int)) ([109, 117, 115, 116] : List UInt8) (2 : Int))) 7 2 [True] (by kernel_rfl) ⟨tt, tt⟩ ?_
          refine W_cond (b := false) (β := false) (by kernel_rfl) (fun hb90 => ?_) (fun hb90 => ?_)
          · exact absurd (hb90.symm.trans rfl) (by decide)
          refine W_rs tbok ⟨[], []⟩ [] [0, 1, 2, 3, 4, 5, 6] [(0, .adr 0 0 10 0), (2, .mp 5), (3, .mp 6), (5, .i64 r202), (8, .u8 ((mfind .str (mset .str (mset .str (mset .str ([] : List ((List UInt8) × Int)) ([107, 101, 101, 112] : List UInt8) (0 : Int)) ([109, 97, 121] : List UInt8) (1 : Int)) ([109, 117, 115, 116] : List UInt8) (2 : Int)) r201).getD (0 : Int))), (9, .bo ((mfind .str (mset .str (mset .str (mset .str ([] : List ((List UInt8) × Int)) ([107, 101, 101, 112] : List UInt8) (0 : Int)) ([109, 97, 121] : List UInt8) (1 : Int)) ([109, 117, 115, 116] : List UInt8) (2 : Int)) r201).isSome))] (ob22 p1 r203 p36 p37 p41 p42 p40 p35 p38 p39 (mset .str (mset .str (mset .str ([] : List ((List UInt8) × Int)) ([107, 101, 101, 112] : List UInt8) (0 : Int)) ([109, 97, 121] : List UInt8) (1 : Int)) ([109, 117, 115, 116] : List UInt8) (2 : Int))) 7 2 (Ts 8 []) (by kernel_rfl) (tr 8 tt) ?_
          refine W_rs tbok ⟨[], []⟩ [] [0, 1, 2, 3, 4, 5, 6] [(0, .adr 0 0 10 0), (2, .mp 5), (3, .mp 6), (5, .i64 r202), (8, .u8 ((mfind .str (mset .str (mset .str (mset .str ([] : List ((List UInt8) × Int)) ([107, 101, 101, 112] : List UInt8) (0 : Int)) ([109, 97, 121] : List UInt8) (1 : Int)) ([109, 117, 115, 116] : List UInt8) (2 : Int)) r201).getD (0 : Int))), (38, .bo ((mfind .str (mset .str (mset .str (mset .str ([] : List ((List UInt8) × Int)) ([107, 101, 101, 112] : List UInt8) (0 : Int)) ([109, 97, 121] : List UInt8) (1 : Int)) ([109, 117, 115, 116] : List UInt8) (2 : Int)) r201).isSome))] (ob22 p1 r203 p36 p37 p41 p42 p40 p35 p38 p39 (mset .str (mset .str (mset .str ([] : List ((List UInt8) × Int)) ([107, 101, 101, 112] : List UInt8) (0 : Int)) ([109, 97, 121] : List UInt8) (1 : Int)) ([109, 117, 115, 116] : List UInt8) (2 : Int))) 7 2 [True] (by kernel_rfl) ⟨tt, tt⟩ ?_
          refine W_cond (b := (mfind .str (mset .str (mset .str (mset .str ([] : List ((List UInt8) × Int)) ([107, 101, 101, 112] : List UInt8) (0 : Int)) ([109, 97, 121] : List UInt8) (1 : Int)) ([109, 117, 115, 116] : List UInt8) (2 : Int)) r201).isSome) (β := false) (by kernel_rfl) (fun hb89 => ?_) (fun hb89 => ?_)
          · replace h := h_if hb89 h
            obtain ⟨z90, q90, h⟩ := h_bind h
            rcases z90 with ⟨r230, r231, r232, r233⟩ | ⟨e183, e184⟩
            · have u_1 := (pq_rule_v1_ok ((mfind .str (mset .str (mset .str (mset .str ([] : List ((List UInt8) × Int)) ([107, 101, 101, 112] : List UInt8) (0 : Int)) ([109, 97, 121] : List UInt8) (1 : Int)) ([109, 117, 115, 116] : List UInt8) (2 : Int)) r201).getD (0 : Int)) r202 p1 r203 p36 p37 p41 p42 p35 p38 p39 p40 _ q90)
              refine W_r tbok ⟨[], [(3, ⟨.tup [], [false, false, false], true, [true, true, true], [0, 2, 3, 4, 1], (ob34 p1 r230 p36 p37 r232 r233 p35 p38 p40 r231), none⟩)]⟩ [] [0, 1, 2, 3, 31, 5, 6] [(0, .adr 0 0 10 0), (2, .mp 5), (3, .mp 6)] (ob22 p1 r230 p36 p37 r232 r233 p40 p35 p38 r231 (mset .str (mset .str (mset .str ([] : List ((List UInt8) × Int)) ([107, 101, 101, 112] : List UInt8) (0 : Int)) ([109, 97, 121] : List UInt8) (1 : Int)) ([109, 117, 115, 116] : List UInt8) (2 : Int))) 7 2 (Ts 3 [pO u_1]) (by kernel_rfl) (tr 3 ⟨u_1, tt⟩) ?_
              refine to_block ?_
              obtain rfl := sI h
              exact roundB (gl [] [0, 1, 2, 3, 4, 5, 6] (by kernel_rfl))
            refine W_die tbok ⟨[], [(3, ⟨.unk, [false, false, false], true, [true, true, true], [0, 2, 3, 4, 1], [], some (faultV 40 .i64 .i64 (e183, e184))⟩)]⟩ 3 (faultV 40 .i64 .i64 (e183, e184)) [] [0, 1] [] [] 2 2 (Ts 3 [Dies Try.prog 35 [.adr 0 0 10 0, .u8 ((mfind .str (mset .str (mset .str (mset .str ([] : List ((List UInt8) × Int)) ([107, 101, 101, 112] : List UInt8) (0 : Int)) ([109, 97, 121] : List UInt8) (1 : Int)) ([109, 117, 115, 116] : List UInt8) (2 : Int)) r201).getD (0 : Int)), .i64 r202] (ob21 p1 r203 p36 p37 p41 p42 p35 p38 p39 p40) (faultV 40 .i64 .i64 (e183, e184))]) (by kernel_rfl) (by kernel_rfl) (tr 3 ⟨(pq_rule_v1_ok ((mfind .str (mset .str (mset .str (mset .str ([] : List ((List UInt8) × Int)) ([107, 101, 101, 112] : List UInt8) (0 : Int)) ([109, 97, 121] : List UInt8) (1 : Int)) ([109, 117, 115, 116] : List UInt8) (2 : Int)) r201).getD (0 : Int)) r202 p1 r203 p36 p37 p41 p42 p35 p38 p39 p40 _ q90), tt⟩) (fun σ1 hle => ?_)
            obtain rfl := sI h
            refine blockQ_pan ?_
            refine round_pan ?_
            refine postS_rr ?_
            exact rfl
          replace h := h_else hb89 h
          obtain ⟨z92, q92, h⟩ := h_bind h
          rcases z92 with _ | ⟨e187, e188⟩
          · cases h
          refine W_die tbok ⟨[], [(2, ⟨.unk, [false, false, false], true, [true, true, true], [0, 2, 3, 4, 1], [], some (faultV 40 .i64 .i64 (e187, e188))⟩)]⟩ 2 (faultV 40 .i64 .i64 (e187, e188)) [] [0, 1] [] [] 2 2 [True, True, Dies Try.prog 22 [.adr 0 0 10 0, .i64 (21 : Int), .i64 r202] (ob21 p1 r203 p36 p37 p41 p42 p35 p38 p39 p40) (faultV 40 .i64 .i64 (e187, e188))] (by kernel_rfl) (by kernel_rfl) ⟨tt, tt, (pq_fail_v2_ok (21 : Int) r202 p1 r203 p36 p37 p41 p42 p35 p38 p39 p40 _ q92), tt⟩ (fun σ1 hle => ?_)
          obtain rfl := sI h
          refine blockQ_pan ?_
          refine round_pan ?_
          refine postS_rr ?_
          exact rfl
        refine W_die tbok ⟨[], [(1, ⟨.unk, [false], true, [true], [0, 2, 3, 4, 1], [], some (faultV 40 .i64 .i64 (e163, e164))⟩)]⟩ 1 (faultV 40 .i64 .i64 (e163, e164)) [] [0, 1] [] [] 2 2 [True, Dies Try.prog 34 [.adr 0 0 10 0] (ob21 p1 r197 p36 p37 p41 p42 p35 p38 p39 p40) (faultV 40 .i64 .i64 (e163, e164))] (by kernel_rfl) (by kernel_rfl) ⟨tt, (pq_word_v2_ok p1 r197 p36 p37 p41 p42 p35 p38 p39 p40 _ q80), tt⟩ (fun σ1 hle => ?_)
        obtain rfl := sI h
        refine thenQ_pan ?_
        refine blockQ_pan ?_
        refine round_pan ?_
        refine postS_rr ?_
        exact rfl
      replace h := h_else hb76 h
      refine W_exit_to ?_
      refine thenE ?_
      obtain rfl := sI h
      refine roundE ?_
      refine postS_l ?_
      exact postX_to (gl [] [0, 1, 2, 3, 4] (by kernel_rfl))
    refine W_die tbok ⟨[], [(1, ⟨.unk, [false], true, [true], [0, 2, 3, 4, 1], [], some (faultV 40 .i64 .i64 (e159, e160))⟩)]⟩ 1 (faultV 40 .i64 .i64 (e159, e160)) [] [0, 1] [] [] 2 2 [True, Dies Try.prog 33 [.adr 0 0 10 0] (ob21 p1 p34 p36 p37 p41 p42 p35 p38 p39 p40) (faultV 40 .i64 .i64 (e159, e160))] (by kernel_rfl) (by kernel_rfl) ⟨tt, (pq_here_v2_ok p1 p34 p36 p37 p41 p42 p35 p38 p39 p40 _ q78), tt⟩ (fun σ1 hle => ?_)
    obtain rfl := sI h
    refine thenQ_pan ?_
    refine thenQ_pan ?_
    refine round_pan ?_
    refine postS_rr ?_
    exact rfl
  clear hp2
  rcases r234 with ⟨v19, v20, v21, v22, v23, v24, v25, v26, v27⟩ | ⟨e155, e156⟩
  · obtain ⟨rfl, hle⟩ := hq
    refine use_to ?_ hle
    refine blockE_eq ?_
    obtain rfl := sI h
    exact (RetO_intro [] [] [0, 1, 2, 3, 4] [] (ob35 p1 v19 v21 v22 v26 v27 v25 v20 v23 v24) 5 2 (by kernel_rfl) (by kernel_rfl) (by kernel_rfl)).normal
  obtain rfl := hq
  refine blockQ_pan ?_
  obtain rfl := sI h
  exact rfl
theorem rules_Parse_catch (e1 e2 : Int) : Catches Try.prog 21 [.adr 0 0 5 0, .adr 1 0 2 0] (ob1 (0 : Int) (0 : Int) (0 : Int) (0 : Int)) (ob1 (0 : Int) (0 : Int) e1 e2) (faultV 40 .i64 .i64 (e1, e2)) := by
  refine Catches.of_body (nx := 2) (pn := 2) Try.func21 rfl rfl rfl rfl rfl rfl rfl rfl (by kernel_rfl) rfl (fun Bw w0 => ?_)
  have h : some () = some () := rfl
  refine W_rs tbok ⟨[], []⟩ [] [0, 1] [(0, .adr 0 0 5 0), (1, .adr 1 0 2 0), (2, .lit (faultV 40 .i64 .i64 (e1, e2))), (7, .bo true)] (ob1 (0 : Int) (0 : Int) (0 : Int) (0 : Int)) 2 2 [True, ∃ ms, Try.prog.underlying 20 = some (.interface ms)] (by kernel_rfl) ⟨tt, ⟨_, rfl⟩, tt⟩ ?_
  refine W_cond (b := true) (β := false) (by kernel_rfl) (fun hb4 => ?_) (fun hb4 => ?_)
  · refine W_rs tbok ⟨[], []⟩ [] [0, 1, 42] [(0, .adr 0 0 5 0), (1, .adr 1 0 2 0), (2, .lit (faultV 40 .i64 .i64 (e1, e2))), (3, .adr 2 0 2 0), (4, .bo true)] (ob38 (0 : Int) (0 : Int) (0 : Int) (0 : Int) e1 e2) 3 2 (True :: (∃ d, Try.prog.underlying 40 = some d ∧ (match d with | .interface _ => false | _ => true) = true) :: (Ts 6 [])) (by kernel_rfl) ⟨tt, ⟨_, rfl, rfl⟩, (tr 6 tt)⟩ ?_
    refine W_seq ?_
    refine W_rs tbok ⟨[], []⟩ [] [0, 1, 2] [(0, .adr 0 0 5 0), (1, .adr 1 0 2 0), (2, .lit (faultV 40 .i64 .i64 (e1, e2))), (3, .adr 2 0 2 0), (14, .bo false)] (ob38 (0 : Int) (0 : Int) (0 : Int) (0 : Int) e1 e2) 3 2 [True, True] (by kernel_rfl) ⟨tt, tt, tt⟩ ?_
    refine W_cond (b := false) (β := false) (by kernel_rfl) (fun hb3 => ?_) (fun hb3 => ?_)
    · exact absurd (hb3.symm.trans rfl) (by decide)
    refine W_skip_to ?_
    refine to_then ?_
    refine W_regD tbok mixed ⟨[], []⟩ [] [0, 1] [] (ob1 (0 : Int) (0 : Int) e1 e2) 2 2 (Ts 4 []) (by kernel_rfl) (by kernel_rfl) (tr 4 tt) ?_
    exact postN_to (gl [] [0, 1] (by kernel_rfl))
  exact absurd (hb4.symm.trans rfl) (by decide)
theorem rules_Parse_rests : Rests Try.prog 21 2 := by
  intro vals w hv
  obtain ⟨v2, v3, rfl⟩ : ∃ v2 v3, vals = #[v2, v3] := by
    match hq : vals.toList with
    | [a, b] => exact ⟨a, b, Array.ext' hq⟩
    | [] => have := congrArg List.length hq; simp [hv] at this
    | [_] => have := congrArg List.length hq; simp [hv] at this
    | _ :: _ :: _ :: _ => have := congrArg List.length hq; simp [hv] at this
  refine callsD_of_wpS Try.func21 rfl fun c₀ cs hu => ?_
  apply wpS_seq
  apply wpS_region
  simp [wpOpsS, go_sem, recoverD, hu, Try.ntmps21, Exit.thenS]
  apply wpS_seq
  apply wpS_region
  simp [wpOpsS, go_sem, Exit.thenS, Act.eval, Act.put]
  refine wpS_cond (t := false) (by simp [Act.eval, Array.replicate]) ?_
  simp only [Bool.false_eq_true, if_false]
  refine wpS_of_wp (wp_skip ?_)
  cases c₀
  simp_all [bodyPostS, results, Try.results21]
def rules_Parse_D (text1 : List UInt8) : Option ((((List (List UInt8)) × Int × Int × (List Int) × List (Int × Tree × Tree)) × Int × Int) ⊕ (Int × Int)) :=
  (if (decide ((text1.length : Int) > (4096 : Int))) = true then ((pq_fail (24 : Int) (4096 : Int) text1 (0 : Int) (0 : Int) (0 : Int) (0 : Int) (0 : Int) ([] : List ((List UInt8) × Int))).bind fun (z2 : (Unit) ⊕ (Int × Int)) => match z2 with
  | .inr (e3, e4) => some (Sum.inr (e3, e4))
  | .inl _ => none)
  else ((pq_all text1 (0 : Int) (0 : Int) (0 : Int) (0 : Int) (0 : Int) ([] : List ((List UInt8) × Int))).bind fun (z4 : (Int × (List (List UInt8)) × Int × Int × (List Int) × (List (Int × Tree × Tree)) × (List ((List UInt8) × Int)) × Int × Int) ⊕ (Int × Int)) => match z4 with
  | .inr (e7, e8) => some (Sum.inr (e7, e8))
  | .inl (r10, r11, r12, r13, r14, r15, r16, r17, r18) => some (Sum.inl ((r11, (r12, (r13, (r14, r15)))), ((0 : Int), (0 : Int))))))
def rules_Parse_of : (((List (List UInt8)) × Int × Int × (List Int) × List (Int × Tree × Tree)) × Int × Int) ⊕ (Int × Int) → ((List (List UInt8)) × Int × Int × (List Int) × List (Int × Tree × Tree)) × Int × Int
  | .inl x => x
  | .inr e => ((([] : List (List UInt8)), ((0 : Int), ((0 : Int), (([] : List Int), ([] : List (Int × Tree × Tree)))))), (e.1, e.2))
def rules_Parse (text1 : List UInt8) : Option (((List (List UInt8)) × Int × Int × (List Int) × List (Int × Tree × Tree)) × Int × Int) := (rules_Parse_D text1).map rules_Parse_of
theorem rules_Parse_okD (text1 : List UInt8) (res : (((List (List UInt8)) × Int × Int × (List Int) × List (Int × Tree × Tree)) × Int × Int) ⊕ (Int × Int)) (h : rules_Parse_D text1 = some res) :
    Pure Try.prog 13 [.st text1] (wrapR (encs false (ansOf (fun (q : ((List (List UInt8)) × Int × Int × (List Int) × List (Int × Tree × Tree)) × Int × Int) => ([⟨Y4, q.1⟩, ⟨Y5, q.2⟩] : List (Σ T : Ty, T.den))) (fun (e : Int × Int) => ([⟨Y4, (([] : List (List UInt8)), ((0 : Int), ((0 : Int), (([] : List Int), ([] : List (Int × Tree × Tree))))))⟩, ⟨Y5, (e.1, e.2)⟩] : List (Σ T : Ty, T.den))) res))) := by
  refine Pure.of_defer (args := [.st text1]) (gd := 21) (fnd := Try.f21) (l := [(0, .st text1), (2, .adr 0 0 5 0), (3, .adr 1 0 2 0), (4, .adr 2 0 10 0)]) (m := (ob2 (0 : Int) (0 : Int) (0 : Int) (0 : Int) text1 (0 : Int) (0 : Int) (0 : Int) (0 : Int) (0 : Int) ([] : List ((List UInt8) × Int)))) (nx := 4) (s2 := 5) (s3 := 2) (lp := [(2, .adr 0 0 5 0), (3, .adr 1 0 2 0)]) (mp := (ob1 (0 : Int) (0 : Int) (0 : Int) (0 : Int))) (nxp := 2) (fv := faultV 40 .i64 .i64) (hin := (ob1 (0 : Int) (0 : Int) (0 : Int) (0 : Int))) (hout := fun e => (ob1 (0 : Int) (0 : Int) e.1 e.2)) (t2 := 2) (t3 := 3) (d := 9) tbok Try.func13 (by kernel_rfl) Try.func21 (by kernel_rfl) rfl rfl rfl rfl rfl rfl rfl rfl (nl rfl) rfl rfl (by decide) rfl rfl (by decide) (fun Bw w0 => ?_) (fun Bw w0 D => ?_) rules_Parse_rests (fun e => rules_Parse_catch e.1 e.2) (by kernel_rfl) (fun e => by kernel_rfl) [Y4, Y5] (fun e => by kernel_rfl)
  · clear h
    have h : some () = some () := rfl
    refine W_r tbok ⟨[], []⟩ [] [0, 8] [(0, .st text1), (2, .adr 0 0 5 0), (3, .adr 1 0 2 0)] (ob1 (0 : Int) (0 : Int) (0 : Int) (0 : Int)) 2 0 [True, True] (by kernel_rfl) ⟨tt, tt, tt⟩ ?_
    refine to_then ?_
    refine W_r tbok ⟨[], []⟩ [] [0, 1, 26, 10] [(0, .st text1), (2, .adr 0 0 5 0), (3, .adr 1 0 2 0), (4, .adr 2 0 10 0)] (ob2 (0 : Int) (0 : Int) (0 : Int) (0 : Int) text1 (0 : Int) (0 : Int) (0 : Int) (0 : Int) (0 : Int) ([] : List ((List UInt8) × Int))) 4 0 (Ts 5 []) (by kernel_rfl) (tr 5 tt) ?_
    exact postN_to (gl [] [0, 1, 2, 3] (by kernel_rfl))
  unfold rules_Parse_D at h
  refine W_seq ?_
  refine W_rs tbok ⟨[], []⟩ [] [0, 1, 2, 3] [(2, .adr 0 0 5 0), (3, .adr 1 0 2 0), (4, .adr 2 0 10 0), (12, .bo (decide ((text1.length : Int) > (4096 : Int))))] (ob2 (0 : Int) (0 : Int) (0 : Int) (0 : Int) text1 (0 : Int) (0 : Int) (0 : Int) (0 : Int) (0 : Int) ([] : List ((List UInt8) × Int))) 4 2 (Ts 3 []) (by kernel_rfl) (tr 3 tt) ?_
  refine W_cond (b := (decide ((text1.length : Int) > (4096 : Int)))) (β := false) (by kernel_rfl) (fun hb1 => ?_) (fun hb1 => ?_)
  · replace h := h_if hb1 h
    obtain ⟨z2, q2, h⟩ := h_bind h
    rcases z2 with _ | ⟨e3, e4⟩
    · cases h
    refine W_die tbok ⟨[], [(1, ⟨.unk, [false, false, false], true, [true, true, true], [2, 3], [], some (faultV 40 .i64 .i64 (e3, e4))⟩)]⟩ 1 (faultV 40 .i64 .i64 (e3, e4)) [] [0, 1] [(2, .adr 0 0 5 0), (3, .adr 1 0 2 0)] (ob1 (0 : Int) (0 : Int) (0 : Int) (0 : Int)) 2 2 [True, Dies Try.prog 22 [.adr 0 0 10 0, .i64 (24 : Int), .i64 (4096 : Int)] (ob3 text1 (0 : Int) (0 : Int) (0 : Int) (0 : Int) (0 : Int) ([] : List ((List UInt8) × Int))) (faultV 40 .i64 .i64 (e3, e4))] (by kernel_rfl) (by kernel_rfl) ⟨tt, (pq_fail_ok (24 : Int) (4096 : Int) text1 (0 : Int) (0 : Int) (0 : Int) (0 : Int) (0 : Int) ([] : List ((List UInt8) × Int)) _ q2), tt⟩ (fun σ1 hle => ?_)
    refine thenQ_pan ?_
    obtain rfl := sI h
    exact ⟨rfl, hle⟩
  replace h := h_else hb1 h
  refine W_skip_to ?_
  refine to_then ?_
  refine W_seq ?_
  obtain ⟨z4, q4, h⟩ := h_bind h
  rcases z4 with ⟨r10, r11, r12, r13, r14, r15, r16, r17, r18⟩ | ⟨e7, e8⟩
  · have u_1 := (pq_all_ok text1 (0 : Int) (0 : Int) (0 : Int) (0 : Int) (0 : Int) ([] : List ((List UInt8) × Int)) _ q4)
    refine W_r tbok ⟨[], [(1, ⟨.tup [], [false], true, [true], [2, 3], (ob35 text1 r10 r12 r13 r17 r18 r16 r11 r14 r15), none⟩)]⟩ [] [0, 1, 2, 12, 13, 14, 3] [(2, .adr 0 0 5 0), (3, .adr 1 0 2 0), (4, .adr 2 0 10 0)] (ob36 (0 : Int) (0 : Int) (0 : Int) (0 : Int) text1 r10 r12 r13 r17 r18 r11 r14 r15 r16) 7 2 [True, pO u_1] (by kernel_rfl) ⟨tt, u_1, tt⟩ ?_
    refine to_then ?_
    refine W_rs tbok ⟨[], []⟩ [] [0, 1, 3, 4, 5] [(2, .adr 0 0 5 0), (3, .adr 1 0 2 0)] (ob37 r12 r13 (0 : Int) (0 : Int) r11 r14 r15) 5 2 (Ts 7 []) (by kernel_rfl) (tr 7 tt) ?_
    refine W_ret ?_
    obtain rfl := sI h
    exact ⟨rfl, Ret_intro [Y4, Y5] (by kernel_rfl)⟩
  refine W_die tbok ⟨[], [(1, ⟨.unk, [false], true, [true], [2, 3], [], some (faultV 40 .i64 .i64 (e7, e8))⟩)]⟩ 1 (faultV 40 .i64 .i64 (e7, e8)) [] [0, 1] [(2, .adr 0 0 5 0), (3, .adr 1 0 2 0)] (ob1 (0 : Int) (0 : Int) (0 : Int) (0 : Int)) 2 2 [True, Dies Try.prog 23 [.adr 0 0 10 0] (ob3 text1 (0 : Int) (0 : Int) (0 : Int) (0 : Int) (0 : Int) ([] : List ((List UInt8) × Int))) (faultV 40 .i64 .i64 (e7, e8))] (by kernel_rfl) (by kernel_rfl) ⟨tt, (pq_all_ok text1 (0 : Int) (0 : Int) (0 : Int) (0 : Int) (0 : Int) ([] : List ((List UInt8) × Int)) _ q4), tt⟩ (fun σ1 hle => ?_)
  refine thenQ_pan ?_
  obtain rfl := sI h
  exact ⟨rfl, hle⟩
theorem rules_Parse_ok (text1 : List UInt8) (res : ((List (List UInt8)) × Int × Int × (List Int) × List (Int × Tree × Tree)) × Int × Int) (h : rules_Parse text1 = some res) :
    Pure Try.prog 13 [.st text1] (wrapR (encs false [⟨Y4, res.1⟩, ⟨Y5, res.2⟩])) := by
  unfold rules_Parse at h
  obtain ⟨r, hr, rfl⟩ := Option.map_eq_some_iff.1 h
  have := rules_Parse_okD  text1 r hr
  cases r with
  | inl x => exact this
  | inr e => exact this
def lq_Awake  : Option (Bool) :=
  ((rules_Parse ([99, 108, 97, 115, 115, 32, 65, 32, 66, 59, 32, 115, 101, 116, 32, 83, 32, 61, 32, 65, 32, 66, 59, 32, 107, 101, 101, 112, 32, 65, 32, 47, 32, 66, 32, 124, 32, 83, 42, 59, 32, 109, 97, 121, 32, 46, 32, 47, 32, 46, 59] : List UInt8)).bind fun ((r3, r4) : ((List (List UInt8)) × Int × Int × (List Int) × List (Int × Tree × Tree)) × Int × Int) =>
  ((rules_Parse ([107, 101, 101, 112, 32, 65, 32, 47, 32, 65, 59] : List UInt8)).bind fun ((r7, r8) : ((List (List UInt8)) × Int × Int × (List Int) × List (Int × Tree × Tree)) × Int × Int) =>
  ((rules_Parse ([99, 108, 97, 115, 115, 32, 65, 32, 65, 59] : List UInt8)).bind fun ((r11, r12) : ((List (List UInt8)) × Int × Int × (List Int) × List (Int × Tree × Tree)) × Int × Int) =>
  ((rules_Parse ([107, 101, 101, 112, 32, 47] : List UInt8)).bind fun ((r15, r16) : ((List (List UInt8)) × Int × Int × (List Int) × List (Int × Tree × Tree)) × Int × Int) =>
  (((if (r4.1 == (0 : Int)) = true then (if ((r3.1.length : Int) == (2 : Int)) = true then (if ((r3.2.2.2.2.length : Int) == (2 : Int)) = true then (if 0 ≤ (1 : Int) ∧ (1 : Int) < (r3.2.2.2.2.length : Int) then (if ((((r3.2.2.2.2.getD ((1 : Int).toNat) ((0 : Int), ((Tree.node 0 0 []), (Tree.node 0 0 [])))).2.1).set) == (3 : Int)) = true then (if ((r8.1 == (22 : Int)) && (r8.2 == (5 : Int))) = true then (if ((r12.1 == (23 : Int)) && (r12.2 == (8 : Int))) = true then some (((r16.1 == (21 : Int)) && (r16.2 == (6 : Int))))
  else some (false))
  else some (false))
  else some (false)) else none)
  else some (false))
  else some (false))
  else some (false))).bind fun (v1 : Bool) => some v1)))))
theorem lq_Awake_ok  (res : Bool) (h : lq_Awake = some res) :
    Pure Try.prog 10 [] (wrapR (encs false [⟨.bool, res⟩])) := by
  refine Pure.of_body tbok Try.func10 (by kernel_rfl) rfl (nl rfl) (fun Bw w0 => ?_) rfl
  unfold lq_Awake at h
  refine W_rs tbok ⟨[], []⟩ [] [] [] [] 0 0 [True] (by kernel_rfl) ⟨tt, tt⟩ ?_
  obtain ⟨⟨r3, r4⟩, q2, h⟩ := h_bind h
  have u_1 := (rules_Parse_ok ([99, 108, 97, 115, 115, 32, 65, 32, 66, 59, 32, 115, 101, 116, 32, 83, 32, 61, 32, 65, 32, 66, 59, 32, 107, 101, 101, 112, 32, 65, 32, 47, 32, 66, 32, 124, 32, 83, 42, 59, 32, 109, 97, 121, 32, 46, 32, 47, 32, 46, 59] : List UInt8) _ q2)
  refine W_rs tbok ⟨[], [(0, ⟨.tup [.agg [.p false (.slice .str) r3.1, .u32 r3.2.1, .u32 r3.2.2.1, .p false (.slice (.int .i64)) r3.2.2.2.1, .p false (.slice (.prod (.int .u8) Y1)) r3.2.2.2.2], .agg [.i64 r4.1, .i64 r4.2]], [false], false, [true], [], [], none⟩)]⟩ [] [32, 40] [(1, .adr 0 0 5 0), (2, .adr 1 0 2 0)] (ob39 r3.1 r3.2.1 r3.2.2.1 r3.2.2.2.1 r3.2.2.2.2 r4.1 r4.2) 2 0 ((pO u_1) :: (Ts 7 [])) (by kernel_rfl) ⟨u_1, (tr 7 tt)⟩ ?_
  obtain ⟨⟨r7, r8⟩, q4, h⟩ := h_bind h
  have u_1 := (rules_Parse_ok ([107, 101, 101, 112, 32, 65, 32, 47, 32, 65, 59] : List UInt8) _ q4)
  refine W_rs tbok ⟨[], [(0, ⟨.tup [.agg [.p false (.slice .str) r7.1, .u32 r7.2.1, .u32 r7.2.2.1, .p false (.slice (.int .i64)) r7.2.2.2.1, .p false (.slice (.prod (.int .u8) Y1)) r7.2.2.2.2], .agg [.i64 r8.1, .i64 r8.2]], [false], false, [true], [], [], none⟩)]⟩ [] [0, 1, 42] [(1, .adr 0 0 5 0), (2, .adr 1 0 2 0), (4, .adr 2 0 2 0)] (ob40 r3.1 r3.2.1 r3.2.2.1 r3.2.2.2.1 r3.2.2.2.2 r4.1 r4.2 r8.1 r8.2) 3 0 ((pO u_1) :: (Ts 7 [])) (by kernel_rfl) ⟨u_1, (tr 7 tt)⟩ ?_
  obtain ⟨⟨r11, r12⟩, q6, h⟩ := h_bind h
  have u_1 := (rules_Parse_ok ([99, 108, 97, 115, 115, 32, 65, 32, 65, 59] : List UInt8) _ q6)
  refine W_rs tbok ⟨[], [(0, ⟨.tup [.agg [.p false (.slice .str) r11.1, .u32 r11.2.1, .u32 r11.2.2.1, .p false (.slice (.int .i64)) r11.2.2.2.1, .p false (.slice (.prod (.int .u8) Y1)) r11.2.2.2.2], .agg [.i64 r12.1, .i64 r12.2]], [false], false, [true], [], [], none⟩)]⟩ [] [0, 1, 2, 43] [(1, .adr 0 0 5 0), (2, .adr 1 0 2 0), (4, .adr 2 0 2 0), (6, .adr 3 0 2 0)] (ob41 r3.1 r3.2.1 r3.2.2.1 r3.2.2.2.1 r3.2.2.2.2 r4.1 r4.2 r8.1 r8.2 r12.1 r12.2) 4 0 ((pO u_1) :: (Ts 7 [])) (by kernel_rfl) ⟨u_1, (tr 7 tt)⟩ ?_
  obtain ⟨⟨r15, r16⟩, q8, h⟩ := h_bind h
  have u_1 := (rules_Parse_ok ([107, 101, 101, 112, 32, 47] : List UInt8) _ q8)
  refine W_rs tbok ⟨[], [(0, ⟨.tup [.agg [.p false (.slice .str) r15.1, .u32 r15.2.1, .u32 r15.2.2.1, .p false (.slice (.int .i64)) r15.2.2.2.1, .p false (.slice (.prod (.int .u8) Y1)) r15.2.2.2.2], .agg [.i64 r16.1, .i64 r16.2]], [false], false, [true], [], [], none⟩)]⟩ [] [0, 1, 2, 3, 44] [(1, .adr 0 0 5 0), (2, .adr 1 0 2 0), (4, .adr 2 0 2 0), (6, .adr 3 0 2 0), (8, .adr 4 0 2 0)] (ob42 r3.1 r3.2.1 r3.2.2.1 r3.2.2.2.1 r3.2.2.2.2 r4.1 r4.2 r8.1 r8.2 r12.1 r12.2 r16.1 r16.2) 5 0 ((pO u_1) :: (Ts 7 [])) (by kernel_rfl) ⟨u_1, (tr 7 tt)⟩ ?_
  refine W_seq ?_
  obtain ⟨v1, hp1, h⟩ := h_bind h
  refine W.mono (Q := (postN Try.f10.ntmps (fun (v1 : Bool) => mkSt [(0, .bo v1)] [] 0)) v1) ?_ (fun e σ' hq => ?_)
  · replace h := hp1
    clear hp1
    rcases bb (r4.1 == (0 : Int)) with hb13 | hb13
    · replace h := h_if hb13 h
      rcases bb ((r3.1.length : Int) == (2 : Int)) with hb14 | hb14
      · replace h := h_if hb14 h
        rcases bb ((r3.2.2.2.2.length : Int) == (2 : Int)) with hb15 | hb15
        · replace h := h_if hb15 h
          obtain ⟨c3, h⟩ := h_guard h
          rcases bb ((((r3.2.2.2.2.getD ((1 : Int).toNat) ((0 : Int), ((Tree.node 0 0 []), (Tree.node 0 0 [])))).2.1).set) == (3 : Int)) with hb16 | hb16
          · replace h := h_if hb16 h
            rcases bb ((r8.1 == (22 : Int)) && (r8.2 == (5 : Int))) with hb17 | hb17
            · replace h := h_if hb17 h
              rcases bb ((r12.1 == (23 : Int)) && (r12.2 == (8 : Int))) with hb18 | hb18
              · replace h := h_if hb18 h
                refine W_r tbok ⟨[(3, true), (8, true), (9, true), (14, true), (15, true), (23, true), (24, true), (28, true), (29, true), (33, true), (34, true), (38, true)], []⟩ [] [] [(0, .bo ((r16.1 == (21 : Int)) && (r16.2 == (6 : Int))))] [] 0 0 (Ts 4 [(r4.1 == (0 : Int)) = true ∧ True, (r4.1 == (0 : Int)) = true ∧ True, (r4.1 == (0 : Int)) = true ∧ True, (r4.1 == (0 : Int)) = true ∧ True, (r4.1 == (0 : Int)) = true, True, ((r3.1.length : Int) == (2 : Int)) = true ∧ True, ((r3.1.length : Int) == (2 : Int)) = true ∧ True, ((r3.1.length : Int) == (2 : Int)) = true ∧ True, ((r3.1.length : Int) == (2 : Int)) = true ∧ True, ((r3.1.length : Int) == (2 : Int)) = true, True, ((r3.2.2.2.2.length : Int) == (2 : Int)) = true ∧ True, ((r3.2.2.2.2.length : Int) == (2 : Int)) = true ∧ True, ((r3.2.2.2.2.length : Int) == (2 : Int)) = true ∧ 0 ≤ (1 : Int) ∧ (1 : Int) < (r3.2.2.2.2.length : Int), ((r3.2.2.2.2.length : Int) == (2 : Int)) = true ∧ True, ((r3.2.2.2.2.length : Int) == (2 : Int)) = true ∧ True, ((r3.2.2.2.2.length : Int) == (2 : Int)) = true ∧ True, ((r3.2.2.2.2.length : Int) == (2 : Int)) = true ∧ True, ((r3.2.2.2.2.length : Int) == (2 : Int)) = true, True, ((((r3.2.2.2.2.getD ((1 : Int).toNat) ((0 : Int), ((Tree.node 0 0 []), (Tree.node 0 0 [])))).2.1).set) == (3 : Int)) = true ∧ True, ((((r3.2.2.2.2.getD ((1 : Int).toNat) ((0 : Int), ((Tree.node 0 0 []), (Tree.node 0 0 [])))).2.1).set) == (3 : Int)) = true ∧ True, ((((r3.2.2.2.2.getD ((1 : Int).toNat) ((0 : Int), ((Tree.node 0 0 []), (Tree.node 0 0 [])))).2.1).set) == (3 : Int)) = true ∧ EqOk Try.prog 40 Y5, ((((r3.2.2.2.2.getD ((1 : Int).toNat) ((0 : Int), ((Tree.node 0 0 []), (Tree.node 0 0 [])))).2.1).set) == (3 : Int)) = true, True, ((r8.1 == (22 : Int)) && (r8.2 == (5 : Int))) = true ∧ True, ((r8.1 == (22 : Int)) && (r8.2 == (5 : Int))) = true ∧ True, ((r8.1 == (22 : Int)) && (r8.2 == (5 : Int))) = true ∧ EqOk Try.prog 40 Y5, ((r8.1 == (22 : Int)) && (r8.2 == (5 : Int))) = true, True, ((r12.1 == (23 : Int)) && (r12.2 == (8 : Int))) = true ∧ True, ((r12.1 == (23 : Int)) && (r12.2 == (8 : Int))) = true ∧ True, ((r12.1 == (23 : Int)) && (r12.2 == (8 : Int))) = true ∧ EqOk Try.prog 40 Y5, ((r12.1 == (23 : Int)) && (r12.2 == (8 : Int))) = true, True]) (by kernel_rfl) (tr 4 ⟨⟨hb13, tt⟩, ⟨hb13, tt⟩, ⟨hb13, tt⟩, ⟨hb13, tt⟩, hb13, tt, ⟨hb14, tt⟩, ⟨hb14, tt⟩, ⟨hb14, tt⟩, ⟨hb14, tt⟩, hb14, tt, ⟨hb15, tt⟩, ⟨hb15, tt⟩, ⟨hb15, c3⟩, ⟨hb15, tt⟩, ⟨hb15, tt⟩, ⟨hb15, tt⟩, ⟨hb15, tt⟩, hb15, tt, ⟨hb16, tt⟩, ⟨hb16, tt⟩, ⟨hb16, eq40⟩, hb16, tt, ⟨hb17, tt⟩, ⟨hb17, tt⟩, ⟨hb17, eq40⟩, hb17, tt, ⟨hb18, tt⟩, ⟨hb18, tt⟩, ⟨hb18, eq40⟩, hb18, tt, tt⟩) ?_
                obtain rfl := sI h
                exact postN_to (gl [] [] (by kernel_rfl))
              replace h := h_else hb18 h
              refine W_r tbok ⟨[(3, true), (8, true), (9, true), (14, true), (15, true), (23, true), (24, true), (28, true), (29, true), (33, true), (34, false), (38, false)], []⟩ [] [] [(0, .bo false)] [] 0 0 (Ts 4 [(r4.1 == (0 : Int)) = true ∧ True, (r4.1 == (0 : Int)) = true ∧ True, (r4.1 == (0 : Int)) = true ∧ True, (r4.1 == (0 : Int)) = true ∧ True, (r4.1 == (0 : Int)) = true, True, ((r3.1.length : Int) == (2 : Int)) = true ∧ True, ((r3.1.length : Int) == (2 : Int)) = true ∧ True, ((r3.1.length : Int) == (2 : Int)) = true ∧ True, ((r3.1.length : Int) == (2 : Int)) = true ∧ True, ((r3.1.length : Int) == (2 : Int)) = true, True, ((r3.2.2.2.2.length : Int) == (2 : Int)) = true ∧ True, ((r3.2.2.2.2.length : Int) == (2 : Int)) = true ∧ True, ((r3.2.2.2.2.length : Int) == (2 : Int)) = true ∧ 0 ≤ (1 : Int) ∧ (1 : Int) < (r3.2.2.2.2.length : Int), ((r3.2.2.2.2.length : Int) == (2 : Int)) = true ∧ True, ((r3.2.2.2.2.length : Int) == (2 : Int)) = true ∧ True, ((r3.2.2.2.2.length : Int) == (2 : Int)) = true ∧ True, ((r3.2.2.2.2.length : Int) == (2 : Int)) = true ∧ True, ((r3.2.2.2.2.length : Int) == (2 : Int)) = true, True, ((((r3.2.2.2.2.getD ((1 : Int).toNat) ((0 : Int), ((Tree.node 0 0 []), (Tree.node 0 0 [])))).2.1).set) == (3 : Int)) = true ∧ True, ((((r3.2.2.2.2.getD ((1 : Int).toNat) ((0 : Int), ((Tree.node 0 0 []), (Tree.node 0 0 [])))).2.1).set) == (3 : Int)) = true ∧ True, ((((r3.2.2.2.2.getD ((1 : Int).toNat) ((0 : Int), ((Tree.node 0 0 []), (Tree.node 0 0 [])))).2.1).set) == (3 : Int)) = true ∧ EqOk Try.prog 40 Y5, ((((r3.2.2.2.2.getD ((1 : Int).toNat) ((0 : Int), ((Tree.node 0 0 []), (Tree.node 0 0 [])))).2.1).set) == (3 : Int)) = true, True, ((r8.1 == (22 : Int)) && (r8.2 == (5 : Int))) = true ∧ True, ((r8.1 == (22 : Int)) && (r8.2 == (5 : Int))) = true ∧ True, ((r8.1 == (22 : Int)) && (r8.2 == (5 : Int))) = true ∧ EqOk Try.prog 40 Y5, ((r8.1 == (22 : Int)) && (r8.2 == (5 : Int))) = true, True, ((r12.1 == (23 : Int)) && (r12.2 == (8 : Int))) = false, ((r12.1 == (23 : Int)) && (r12.2 == (8 : Int))) = false, ((r12.1 == (23 : Int)) && (r12.2 == (8 : Int))) = false, ((r12.1 == (23 : Int)) && (r12.2 == (8 : Int))) = false, True]) (by kernel_rfl) (tr 4 ⟨⟨hb13, tt⟩, ⟨hb13, tt⟩, ⟨hb13, tt⟩, ⟨hb13, tt⟩, hb13, tt, ⟨hb14, tt⟩, ⟨hb14, tt⟩, ⟨hb14, tt⟩, ⟨hb14, tt⟩, hb14, tt, ⟨hb15, tt⟩, ⟨hb15, tt⟩, ⟨hb15, c3⟩, ⟨hb15, tt⟩, ⟨hb15, tt⟩, ⟨hb15, tt⟩, ⟨hb15, tt⟩, hb15, tt, ⟨hb16, tt⟩, ⟨hb16, tt⟩, ⟨hb16, eq40⟩, hb16, tt, ⟨hb17, tt⟩, ⟨hb17, tt⟩, ⟨hb17, eq40⟩, hb17, tt, hb18, hb18, hb18, hb18, tt, tt⟩) ?_
              obtain rfl := sI h
              exact postN_to (gl [] [] (by kernel_rfl))
            replace h := h_else hb17 h
            refine W_r tbok ⟨[(3, true), (8, true), (9, true), (14, true), (15, true), (23, true), (24, true), (28, true), (29, false), (33, false), (34, false), (38, false)], []⟩ [] [] [(0, .bo false)] [] 0 0 (Ts 4 [(r4.1 == (0 : Int)) = true ∧ True, (r4.1 == (0 : Int)) = true ∧ True, (r4.1 == (0 : Int)) = true ∧ True, (r4.1 == (0 : Int)) = true ∧ True, (r4.1 == (0 : Int)) = true, True, ((r3.1.length : Int) == (2 : Int)) = true ∧ True, ((r3.1.length : Int) == (2 : Int)) = true ∧ True, ((r3.1.length : Int) == (2 : Int)) = true ∧ True, ((r3.1.length : Int) == (2 : Int)) = true ∧ True, ((r3.1.length : Int) == (2 : Int)) = true, True, ((r3.2.2.2.2.length : Int) == (2 : Int)) = true ∧ True, ((r3.2.2.2.2.length : Int) == (2 : Int)) = true ∧ True, ((r3.2.2.2.2.length : Int) == (2 : Int)) = true ∧ 0 ≤ (1 : Int) ∧ (1 : Int) < (r3.2.2.2.2.length : Int), ((r3.2.2.2.2.length : Int) == (2 : Int)) = true ∧ True, ((r3.2.2.2.2.length : Int) == (2 : Int)) = true ∧ True, ((r3.2.2.2.2.length : Int) == (2 : Int)) = true ∧ True, ((r3.2.2.2.2.length : Int) == (2 : Int)) = true ∧ True, ((r3.2.2.2.2.length : Int) == (2 : Int)) = true, True, ((((r3.2.2.2.2.getD ((1 : Int).toNat) ((0 : Int), ((Tree.node 0 0 []), (Tree.node 0 0 [])))).2.1).set) == (3 : Int)) = true ∧ True, ((((r3.2.2.2.2.getD ((1 : Int).toNat) ((0 : Int), ((Tree.node 0 0 []), (Tree.node 0 0 [])))).2.1).set) == (3 : Int)) = true ∧ True, ((((r3.2.2.2.2.getD ((1 : Int).toNat) ((0 : Int), ((Tree.node 0 0 []), (Tree.node 0 0 [])))).2.1).set) == (3 : Int)) = true ∧ EqOk Try.prog 40 Y5, ((((r3.2.2.2.2.getD ((1 : Int).toNat) ((0 : Int), ((Tree.node 0 0 []), (Tree.node 0 0 [])))).2.1).set) == (3 : Int)) = true, True, ((r8.1 == (22 : Int)) && (r8.2 == (5 : Int))) = false, ((r8.1 == (22 : Int)) && (r8.2 == (5 : Int))) = false, ((r8.1 == (22 : Int)) && (r8.2 == (5 : Int))) = false, ((r8.1 == (22 : Int)) && (r8.2 == (5 : Int))) = false, True, false = false, false = false, false = false, false = false, True]) (by kernel_rfl) (tr 4 ⟨⟨hb13, tt⟩, ⟨hb13, tt⟩, ⟨hb13, tt⟩, ⟨hb13, tt⟩, hb13, tt, ⟨hb14, tt⟩, ⟨hb14, tt⟩, ⟨hb14, tt⟩, ⟨hb14, tt⟩, hb14, tt, ⟨hb15, tt⟩, ⟨hb15, tt⟩, ⟨hb15, c3⟩, ⟨hb15, tt⟩, ⟨hb15, tt⟩, ⟨hb15, tt⟩, ⟨hb15, tt⟩, hb15, tt, ⟨hb16, tt⟩, ⟨hb16, tt⟩, ⟨hb16, eq40⟩, hb16, tt, hb17, hb17, hb17, hb17, tt, rfl, rfl, rfl, rfl, tt, tt⟩) ?_
            obtain rfl := sI h
            exact postN_to (gl [] [] (by kernel_rfl))
          replace h := h_else hb16 h
          refine W_r tbok ⟨[(3, true), (8, true), (9, true), (14, true), (15, true), (23, true), (24, false), (28, false), (29, false), (33, false), (34, false), (38, false)], []⟩ [] [] [(0, .bo false)] [] 0 0 (Ts 4 [(r4.1 == (0 : Int)) = true ∧ True, (r4.1 == (0 : Int)) = true ∧ True, (r4.1 == (0 : Int)) = true ∧ True, (r4.1 == (0 : Int)) = true ∧ True, (r4.1 == (0 : Int)) = true, True, ((r3.1.length : Int) == (2 : Int)) = true ∧ True, ((r3.1.length : Int) == (2 : Int)) = true ∧ True, ((r3.1.length : Int) == (2 : Int)) = true ∧ True, ((r3.1.length : Int) == (2 : Int)) = true ∧ True, ((r3.1.length : Int) == (2 : Int)) = true, True, ((r3.2.2.2.2.length : Int) == (2 : Int)) = true ∧ True, ((r3.2.2.2.2.length : Int) == (2 : Int)) = true ∧ True, ((r3.2.2.2.2.length : Int) == (2 : Int)) = true ∧ 0 ≤ (1 : Int) ∧ (1 : Int) < (r3.2.2.2.2.length : Int), ((r3.2.2.2.2.length : Int) == (2 : Int)) = true ∧ True, ((r3.2.2.2.2.length : Int) == (2 : Int)) = true ∧ True, ((r3.2.2.2.2.length : Int) == (2 : Int)) = true ∧ True, ((r3.2.2.2.2.length : Int) == (2 : Int)) = true ∧ True, ((r3.2.2.2.2.length : Int) == (2 : Int)) = true, True, ((((r3.2.2.2.2.getD ((1 : Int).toNat) ((0 : Int), ((Tree.node 0 0 []), (Tree.node 0 0 [])))).2.1).set) == (3 : Int)) = false, ((((r3.2.2.2.2.getD ((1 : Int).toNat) ((0 : Int), ((Tree.node 0 0 []), (Tree.node 0 0 [])))).2.1).set) == (3 : Int)) = false, ((((r3.2.2.2.2.getD ((1 : Int).toNat) ((0 : Int), ((Tree.node 0 0 []), (Tree.node 0 0 [])))).2.1).set) == (3 : Int)) = false, ((((r3.2.2.2.2.getD ((1 : Int).toNat) ((0 : Int), ((Tree.node 0 0 []), (Tree.node 0 0 [])))).2.1).set) == (3 : Int)) = false, True, false = false, false = false, false = false, false = false, True, false = false, false = false, false = false, false = false, True]) (by kernel_rfl) (tr 4 ⟨⟨hb13, tt⟩, ⟨hb13, tt⟩, ⟨hb13, tt⟩, ⟨hb13, tt⟩, hb13, tt, ⟨hb14, tt⟩, ⟨hb14, tt⟩, ⟨hb14, tt⟩, ⟨hb14, tt⟩, hb14, tt, ⟨hb15, tt⟩, ⟨hb15, tt⟩, ⟨hb15, c3⟩, ⟨hb15, tt⟩, ⟨hb15, tt⟩, ⟨hb15, tt⟩, ⟨hb15, tt⟩, hb15, tt, hb16, hb16, hb16, hb16, tt, rfl, rfl, rfl, rfl, tt, rfl, rfl, rfl, rfl, tt, tt⟩) ?_
          obtain rfl := sI h
          exact postN_to (gl [] [] (by kernel_rfl))
        replace h := h_else hb15 h
        refine W_r tbok ⟨[(3, true), (8, true), (9, true), (14, true), (15, false), (23, false), (24, false), (28, false), (29, false), (33, false), (34, false), (38, false)], []⟩ [] [] [(0, .bo false)] [] 0 0 (Ts 4 [(r4.1 == (0 : Int)) = true ∧ True, (r4.1 == (0 : Int)) = true ∧ True, (r4.1 == (0 : Int)) = true ∧ True, (r4.1 == (0 : Int)) = true ∧ True, (r4.1 == (0 : Int)) = true, True, ((r3.1.length : Int) == (2 : Int)) = true ∧ True, ((r3.1.length : Int) == (2 : Int)) = true ∧ True, ((r3.1.length : Int) == (2 : Int)) = true ∧ True, ((r3.1.length : Int) == (2 : Int)) = true ∧ True, ((r3.1.length : Int) == (2 : Int)) = true, True, ((r3.2.2.2.2.length : Int) == (2 : Int)) = false, ((r3.2.2.2.2.length : Int) == (2 : Int)) = false, ((r3.2.2.2.2.length : Int) == (2 : Int)) = false, ((r3.2.2.2.2.length : Int) == (2 : Int)) = false, ((r3.2.2.2.2.length : Int) == (2 : Int)) = false, ((r3.2.2.2.2.length : Int) == (2 : Int)) = false, ((r3.2.2.2.2.length : Int) == (2 : Int)) = false, ((r3.2.2.2.2.length : Int) == (2 : Int)) = false, True, false = false, false = false, false = false, false = false, True, false = false, false = false, false = false, false = false, True, false = false, false = false, false = false, false = false, True]) (by kernel_rfl) (tr 4 ⟨⟨hb13, tt⟩, ⟨hb13, tt⟩, ⟨hb13, tt⟩, ⟨hb13, tt⟩, hb13, tt, ⟨hb14, tt⟩, ⟨hb14, tt⟩, ⟨hb14, tt⟩, ⟨hb14, tt⟩, hb14, tt, hb15, hb15, hb15, hb15, hb15, hb15, hb15, hb15, tt, rfl, rfl, rfl, rfl, tt, rfl, rfl, rfl, rfl, tt, rfl, rfl, rfl, rfl, tt, tt⟩) ?_
        obtain rfl := sI h
        exact postN_to (gl [] [] (by kernel_rfl))
      replace h := h_else hb14 h
      refine W_r tbok ⟨[(3, true), (8, true), (9, false), (14, false), (15, false), (23, false), (24, false), (28, false), (29, false), (33, false), (34, false), (38, false)], []⟩ [] [] [(0, .bo false)] [] 0 0 (Ts 4 [(r4.1 == (0 : Int)) = true ∧ True, (r4.1 == (0 : Int)) = true ∧ True, (r4.1 == (0 : Int)) = true ∧ True, (r4.1 == (0 : Int)) = true ∧ True, (r4.1 == (0 : Int)) = true, True, ((r3.1.length : Int) == (2 : Int)) = false, ((r3.1.length : Int) == (2 : Int)) = false, ((r3.1.length : Int) == (2 : Int)) = false, ((r3.1.length : Int) == (2 : Int)) = false, ((r3.1.length : Int) == (2 : Int)) = false, True, false = false, false = false, false = false, false = false, false = false, false = false, false = false, false = false, True, false = false, false = false, false = false, false = false, True, false = false, false = false, false = false, false = false, True, false = false, false = false, false = false, false = false, True]) (by kernel_rfl) (tr 4 ⟨⟨hb13, tt⟩, ⟨hb13, tt⟩, ⟨hb13, tt⟩, ⟨hb13, tt⟩, hb13, tt, hb14, hb14, hb14, hb14, hb14, tt, rfl, rfl, rfl, rfl, rfl, rfl, rfl, rfl, tt, rfl, rfl, rfl, rfl, tt, rfl, rfl, rfl, rfl, tt, rfl, rfl, rfl, rfl, tt, tt⟩) ?_
      obtain rfl := sI h
      exact postN_to (gl [] [] (by kernel_rfl))
    replace h := h_else hb13 h
    refine W_r tbok ⟨[(3, false), (8, false), (9, false), (14, false), (15, false), (23, false), (24, false), (28, false), (29, false), (33, false), (34, false), (38, false)], []⟩ [] [] [(0, .bo false)] [] 0 0 (Ts 4 [(r4.1 == (0 : Int)) = false, (r4.1 == (0 : Int)) = false, (r4.1 == (0 : Int)) = false, (r4.1 == (0 : Int)) = false, (r4.1 == (0 : Int)) = false, True, false = false, false = false, false = false, false = false, false = false, True, false = false, false = false, false = false, false = false, false = false, false = false, false = false, false = false, True, false = false, false = false, false = false, false = false, True, false = false, false = false, false = false, false = false, True, false = false, false = false, false = false, false = false, True]) (by kernel_rfl) (tr 4 ⟨hb13, hb13, hb13, hb13, hb13, tt, rfl, rfl, rfl, rfl, rfl, tt, rfl, rfl, rfl, rfl, rfl, rfl, rfl, rfl, tt, rfl, rfl, rfl, rfl, tt, rfl, rfl, rfl, rfl, tt, rfl, rfl, rfl, rfl, tt, tt⟩) ?_
    obtain rfl := sI h
    exact postN_to (gl [] [] (by kernel_rfl))
  clear hp1
  obtain ⟨rfl, hle⟩ := hq
  refine use_to ?_ hle
  refine to_then ?_
  refine W_ret ?_
  obtain rfl := sI h
  exact Ret_intro [.bool] (by kernel_rfl)
end
end Go.Proofs.Ytjfjigknkhgkdaa.T
