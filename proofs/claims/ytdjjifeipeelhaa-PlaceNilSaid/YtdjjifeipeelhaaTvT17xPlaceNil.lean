/- Functions of the program as functions on data, and that the program's own come to them. -/
import Derived.Test.YtdjjifeipeelhaaTvT17x0
import Derived.Test.YtdjjifeipeelhaaTvT17xa
namespace Go.Proofs.Ytdjjifeipeelhaa.T
open Go Go.Tv Go.Proofs
noncomputable section

/-- '(*stanza/place.Map).Spot' -/
def place_Map_Spot_v1 (i1 : Int) (x1 : Bool) : Option ((Int × Int) × Int) :=
  some (((0 : Int), (0 : Int)), (1 : Int))

set_option maxRecDepth 100000 in
set_option maxHeartbeats 4000000 in
theorem place_Map_Spot_v1_ok (i1 : Int) (x1 : Bool) (res : (Int × Int) × Int) (h : place_Map_Spot_v1 i1 x1 = some res) :
    Pure Try.prog 11 [.nilp, .p false (.int .i64) i1, .p false .bool x1] (wrapR (encs false [⟨(.prod (.int .i64) (.int .i64)), res.1⟩, ⟨(.int .i64), res.2⟩])) := by
  refine Pure.of_body tbok Try.func11 (by kernel_rfl) rfl (Nat.le_of_ble_eq_true rfl) (fun Bw w0 => ?_) rfl
  unfold place_Map_Spot_v1 at h
  refine W_seq ?_
  refine W_reg tbok ⟨[], []⟩ [] [0, 8] [(0, .nilp), (2, .p false .bool x1), (4, .adr 0 0 1 0), (6, .adr 1 0 2 0)] [(0, .box [.p false (.int .i64) i1]), (1, .box [.p false (.int .i64) (0 : Int), .p false (.int .i64) (0 : Int)])] 2 0 [True, True, True] (by kernel_rfl) (by kernel_rfl) ⟨trivial, trivial, trivial, trivial⟩ ?_
  refine to_then ?_
  refine W_seq ?_
  refine W_seq ?_
  refine W_reg tbok ⟨[], []⟩ [] [0, 1] [(0, .nilp), (2, .p false .bool x1), (4, .adr 0 0 1 0), (6, .adr 1 0 2 0), (11, .p false .bool true)] [(0, .box [.p false (.int .i64) i1]), (1, .box [.p false (.int .i64) (0 : Int), .p false (.int .i64) (0 : Int)])] 2 0 [True, ∃ e, Try.prog.underlying 25 = some (.pointer e)] (by kernel_rfl) (by kernel_rfl) ⟨trivial, ⟨_, rfl⟩, trivial⟩ ?_
  refine to_then ?_
  refine W_cond (b := true) (β := false) (by kernel_rfl) (fun hb1 => ?_) (fun hb1 => ?_)
  · refine W_seq ?_
    refine W_reg tbok ⟨[], []⟩ [] [1] [(6, .adr 0 0 2 0), (7, .p false (.int .i64) (1 : Int))] [(0, .box [.p false (.int .i64) (0 : Int), .p false (.int .i64) (0 : Int)])] 1 0 [True, True, True] (by kernel_rfl) (by kernel_rfl) ⟨trivial, trivial, trivial, trivial⟩ ?_
    refine to_then ?_
    refine W_ret ?_
    refine thenQ_ret ?_
    obtain rfl := Option.some.inj h
    exact Ret_intro [(.prod (.int .i64) (.int .i64)), (.int .i64)] (by kernel_rfl)
  · exact absurd (hb1.symm.trans rfl) (by decide)

/-- '(*stanza/place.Map).Byte' -/
def place_Map_Byte_v1 (i1 : Int) (i2 : Int) : Option (Int × Int) :=
  some ((0 : Int), (1 : Int))

set_option maxRecDepth 100000 in
set_option maxHeartbeats 4000000 in
theorem place_Map_Byte_v1_ok (i1 : Int) (i2 : Int) (res : Int × Int) (h : place_Map_Byte_v1 i1 i2 = some res) :
    Pure Try.prog 12 [.nilp, .agg [.p false (.int .i64) i1, .p false (.int .i64) i2]] (wrapR (encs false [⟨(.int .i64), res.1⟩, ⟨(.int .i64), res.2⟩])) := by
  refine Pure.of_body tbok Try.func12 (by kernel_rfl) rfl (Nat.le_of_ble_eq_true rfl) (fun Bw w0 => ?_) rfl
  unfold place_Map_Byte_v1 at h
  refine W_seq ?_
  refine W_reg tbok ⟨[], []⟩ [] [0] [(0, .nilp), (3, .adr 0 0 2 0)] [(0, .box [.p false (.int .i64) i1, .p false (.int .i64) i2])] 1 0 [True, True, True] (by kernel_rfl) (by kernel_rfl) ⟨trivial, trivial, trivial, trivial⟩ ?_
  refine to_then ?_
  refine W_seq ?_
  refine W_seq ?_
  refine W_reg tbok ⟨[], []⟩ [] [0] [(0, .nilp), (3, .adr 0 0 2 0), (10, .p false .bool true)] [(0, .box [.p false (.int .i64) i1, .p false (.int .i64) i2])] 1 0 [True, ∃ e, Try.prog.underlying 25 = some (.pointer e)] (by kernel_rfl) (by kernel_rfl) ⟨trivial, ⟨_, rfl⟩, trivial⟩ ?_
  refine to_then ?_
  refine W_cond (b := true) (β := false) (by kernel_rfl) (fun hb1 => ?_) (fun hb1 => ?_)
  · refine W_seq ?_
    refine W_reg tbok ⟨[], []⟩ [] [] [(4, .p false (.int .i64) (0 : Int)), (5, .p false (.int .i64) (1 : Int))] [] 0 0 [True, True] (by kernel_rfl) (by kernel_rfl) ⟨trivial, trivial, trivial⟩ ?_
    refine to_then ?_
    refine W_ret ?_
    refine thenQ_ret ?_
    obtain rfl := Option.some.inj h
    exact Ret_intro [(.int .i64), (.int .i64)] (by kernel_rfl)
  · exact absurd (hb1.symm.trans rfl) (by decide)

/-- '(*stanza/place.Map).Rows' -/
def place_Map_Rows_v1  : Option (Int) :=
  some (0 : Int)

set_option maxRecDepth 100000 in
set_option maxHeartbeats 4000000 in
theorem place_Map_Rows_v1_ok  (res : Int) (h : place_Map_Rows_v1 = some res) :
    Pure Try.prog 13 [.nilp] (wrapR (encs false [⟨(.int .i64), res⟩])) := by
  refine Pure.of_body tbok Try.func13 (by kernel_rfl) rfl (Nat.le_of_ble_eq_true rfl) (fun Bw w0 => ?_) rfl
  unfold place_Map_Rows_v1 at h
  refine W_seq ?_
  refine W_reg tbok ⟨[], []⟩ [] [] [(0, .nilp)] [] 0 0 [True] (by kernel_rfl) (by kernel_rfl) ⟨trivial, trivial⟩ ?_
  refine to_then ?_
  refine W_seq ?_
  refine W_seq ?_
  refine W_reg tbok ⟨[], []⟩ [] [] [(0, .nilp), (4, .p false .bool true)] [] 0 0 [True, ∃ e, Try.prog.underlying 25 = some (.pointer e)] (by kernel_rfl) (by kernel_rfl) ⟨trivial, ⟨_, rfl⟩, trivial⟩ ?_
  refine to_then ?_
  refine W_cond (b := true) (β := false) (by kernel_rfl) (fun hb1 => ?_) (fun hb1 => ?_)
  · refine W_seq ?_
    refine W_reg tbok ⟨[], []⟩ [] [] [(2, .p false (.int .i64) (0 : Int))] [] 0 0 [True] (by kernel_rfl) (by kernel_rfl) ⟨trivial, trivial⟩ ?_
    refine to_then ?_
    refine W_ret ?_
    refine thenQ_ret ?_
    obtain rfl := Option.some.inj h
    exact Ret_intro [(.int .i64)] (by kernel_rfl)
  · exact absurd (hb1.symm.trans rfl) (by decide)

/-- 'stanza/stanzalaw17.PlaceNil' -/
def stanzalaw17_PlaceNil (at1 : Int) (back1 : Bool) (s1 : Int) (s2 : Int) : Option (Bool) :=
  ((stanzalaw17_Awake).bind fun (r2 : Bool) =>
  (if (!r2) = true then some false
  else ((place_Map_Spot_v1 at1 back1).bind fun ((r5, r6) : (Int × Int) × Int) =>
  ((place_Map_Byte_v1 s1 s2).bind fun ((r9, r10) : Int × Int) =>
  ((((place_Map_Rows_v1).bind fun (r13 : Int) =>
  (if (r13 == (0 : Int)) = true then (if ((r5.1 == (0 : Int)) && (r5.2 == (0 : Int))) = true then (if (r9 == (0 : Int)) = true then (if (r6 == (1 : Int)) = true then some ((r10 == (1 : Int)))
  else some (false))
  else some (false))
  else some (false))
  else some (false)))).bind fun (v1 : Bool) => some v1)))))

set_option maxRecDepth 100000 in
set_option maxHeartbeats 4000000 in
theorem stanzalaw17_PlaceNil_ok (at1 : Int) (back1 : Bool) (s1 : Int) (s2 : Int) (res : Bool) (h : stanzalaw17_PlaceNil at1 back1 s1 s2 = some res) :
    Pure Try.prog 3 [.p false (.int .i64) at1, .p false .bool back1, .agg [.p false (.int .i64) s1, .p false (.int .i64) s2]] (wrapR (encs false [⟨.bool, res⟩])) := by
  refine Pure.of_body tbok Try.func3 (by kernel_rfl) rfl (Nat.le_of_ble_eq_true rfl) (fun Bw w0 => ?_) rfl
  unfold stanzalaw17_PlaceNil at h
  refine W_seq ?_
  refine W_reg tbok ⟨[], []⟩ [] [0] [(0, .p false (.int .i64) at1), (1, .p false .bool back1), (5, .adr 0 0 2 0)] [(0, .box [.p false (.int .i64) s1, .p false (.int .i64) s2])] 1 0 [True, True] (by kernel_rfl) (by kernel_rfl) ⟨trivial, trivial, trivial⟩ ?_
  refine to_then ?_
  refine W_seq ?_
  refine W_seq ?_
  obtain ⟨r2, q2, h⟩ := h_bind h
  refine W_reg tbok ⟨[], [(0, ⟨.p false .bool r2, [], false, [], [], []⟩)]⟩ [] [0] [(0, .p false (.int .i64) at1), (1, .p false .bool back1), (5, .adr 0 0 2 0), (13, .p false .bool (!r2))] [(0, .box [.p false (.int .i64) s1, .p false (.int .i64) s2])] 1 0 [Pure Try.prog 10 [] (.p false .bool r2), True] (by kernel_rfl) (by kernel_rfl) ⟨(stanzalaw17_Awake_ok _ q2), trivial, trivial⟩ ?_
  refine to_then ?_
  refine W_cond (b := (!r2)) (β := false) (by kernel_rfl) (fun hb1 => ?_) (fun hb1 => ?_)
  · replace h := h_if hb1 h
    refine W_seq ?_
    refine W_reg tbok ⟨[], []⟩ [] [] [(6, .p false .bool false)] [] 0 0 [True] (by kernel_rfl) (by kernel_rfl) ⟨trivial, trivial⟩ ?_
    refine to_then ?_
    refine W_ret ?_
    refine thenQ_ret ?_
    obtain rfl := Option.some.inj h
    exact Ret_intro [.bool] (by kernel_rfl)
  · replace h := h_else hb1 h
    refine W_skip_to ?_
    refine to_then ?_
    refine W_seq ?_
    refine W_reg tbok ⟨[], []⟩ [] [0] [(0, .p false (.int .i64) at1), (1, .p false .bool back1), (5, .adr 0 0 2 0), (7, .nilp)] [(0, .box [.p false (.int .i64) s1, .p false (.int .i64) s2])] 1 0 [True] (by kernel_rfl) (by kernel_rfl) ⟨trivial, trivial⟩ ?_
    refine to_then ?_
    refine W_seq ?_
    obtain ⟨⟨r5, r6⟩, q4, h⟩ := h_bind h
    refine W_reg tbok ⟨[], [(3, ⟨.tup [.agg [.p false (.int .i64) r5.1, .p false (.int .i64) r5.2], .p false (.int .i64) r6], [false, false, false], false, [true, true, true], [], []⟩)]⟩ [] [0, 57] [(5, .adr 0 0 2 0), (7, .nilp), (8, .adr 1 0 2 0), (9, .p false (.int .i64) r6)] [(0, .box [.p false (.int .i64) s1, .p false (.int .i64) s2]), (1, .box [.p false (.int .i64) r5.1, .p false (.int .i64) r5.2])] 2 0 [True, True, True, Pure Try.prog 11 [.nilp, .p false (.int .i64) at1, .p false .bool back1] (.tup [.agg [.p false (.int .i64) r5.1, .p false (.int .i64) r5.2], .p false (.int .i64) r6]), True, True, True, True, True, True] (by kernel_rfl) (by kernel_rfl) ⟨trivial, trivial, trivial, (place_Map_Spot_v1_ok at1 back1 _ q4), trivial, trivial, trivial, trivial, trivial, trivial, trivial⟩ ?_
    refine to_then ?_
    refine W_seq ?_
    obtain ⟨⟨r9, r10⟩, q6, h⟩ := h_bind h
    refine W_reg tbok ⟨[], [(2, ⟨.tup [.p false (.int .i64) r9, .p false (.int .i64) r10], [false, false], false, [true, true], [], []⟩)]⟩ [] [1] [(7, .nilp), (8, .adr 0 0 2 0), (9, .p false (.int .i64) r6), (10, .p false (.int .i64) r9), (11, .p false (.int .i64) r10)] [(0, .box [.p false (.int .i64) r5.1, .p false (.int .i64) r5.2])] 1 0 [True, True, Pure Try.prog 12 [.nilp, .agg [.p false (.int .i64) s1, .p false (.int .i64) s2]] (.tup [.p false (.int .i64) r9, .p false (.int .i64) r10]), True, True, True, True, True] (by kernel_rfl) (by kernel_rfl) ⟨trivial, trivial, (place_Map_Byte_v1_ok s1 s2 _ q6), trivial, trivial, trivial, trivial, trivial, trivial⟩ ?_
    refine to_then ?_
    refine W_seq ?_
    obtain ⟨v1, hp1, h⟩ := h_bind h
    refine W.mono (Q := (postN Try.f3.ntmps (fun (v1 : Bool) => mkSt [(6, .p false .bool v1)] [] 0)) v1) ?_ (fun e σ' hq => ?_)
    · replace h := hp1
      clear hp1
      obtain ⟨r13, q9, h⟩ := h_bind h
      rcases Bool.eq_false_or_eq_true (r13 == (0 : Int)) with hb10 | hb10
      · replace h := h_if hb10 h
        rcases Bool.eq_false_or_eq_true ((r5.1 == (0 : Int)) && (r5.2 == (0 : Int))) with hb11 | hb11
        · replace h := h_if hb11 h
          rcases Bool.eq_false_or_eq_true (r9 == (0 : Int)) with hb12 | hb12
          · replace h := h_if hb12 h
            rcases Bool.eq_false_or_eq_true (r6 == (1 : Int)) with hb13 | hb13
            · replace h := h_if hb13 h
              refine W_reg tbok ⟨[(3, true), (7, true), (8, true), (11, true), (12, true), (15, true), (16, true), (19, true)], [(1, ⟨.p false (.int .i64) r13, [false], false, [true], [], []⟩)]⟩ [] [] [(6, .p false .bool (r10 == (1 : Int)))] [] 0 0 [True, Pure Try.prog 13 [.nilp] (.p false (.int .i64) r13), True, True, (r13 == (0 : Int)) = true ∧ True, (r13 == (0 : Int)) = true ∧ True, (r13 == (0 : Int)) = true ∧ EqOk Try.prog 23 (.prod (.int .i64) (.int .i64)), (r13 == (0 : Int)) = true, True, ((r5.1 == (0 : Int)) && (r5.2 == (0 : Int))) = true ∧ True, ((r5.1 == (0 : Int)) && (r5.2 == (0 : Int))) = true ∧ True, ((r5.1 == (0 : Int)) && (r5.2 == (0 : Int))) = true, True, (r9 == (0 : Int)) = true ∧ True, (r9 == (0 : Int)) = true ∧ True, (r9 == (0 : Int)) = true, True, (r6 == (1 : Int)) = true ∧ True, (r6 == (1 : Int)) = true ∧ True, (r6 == (1 : Int)) = true, True] (by kernel_rfl) (by kernel_rfl) ⟨trivial, (place_Map_Rows_v1_ok _ q9), trivial, trivial, ⟨hb10, trivial⟩, ⟨hb10, trivial⟩, ⟨hb10, eq23⟩, hb10, trivial, ⟨hb11, trivial⟩, ⟨hb11, trivial⟩, hb11, trivial, ⟨hb12, trivial⟩, ⟨hb12, trivial⟩, hb12, trivial, ⟨hb13, trivial⟩, ⟨hb13, trivial⟩, hb13, trivial, trivial⟩ ?_
              obtain rfl := Option.some.inj h
              exact postN_to (goal_le (gs := []) (f := []) (by kernel_rfl) (by kernel_rfl))
            · replace h := h_else hb13 h
              refine W_reg tbok ⟨[(3, true), (7, true), (8, true), (11, true), (12, true), (15, true), (16, false), (19, false)], [(1, ⟨.p false (.int .i64) r13, [false], false, [true], [], []⟩)]⟩ [] [] [(6, .p false .bool false)] [] 0 0 [True, Pure Try.prog 13 [.nilp] (.p false (.int .i64) r13), True, True, (r13 == (0 : Int)) = true ∧ True, (r13 == (0 : Int)) = true ∧ True, (r13 == (0 : Int)) = true ∧ EqOk Try.prog 23 (.prod (.int .i64) (.int .i64)), (r13 == (0 : Int)) = true, True, ((r5.1 == (0 : Int)) && (r5.2 == (0 : Int))) = true ∧ True, ((r5.1 == (0 : Int)) && (r5.2 == (0 : Int))) = true ∧ True, ((r5.1 == (0 : Int)) && (r5.2 == (0 : Int))) = true, True, (r9 == (0 : Int)) = true ∧ True, (r9 == (0 : Int)) = true ∧ True, (r9 == (0 : Int)) = true, True, (r6 == (1 : Int)) = false, (r6 == (1 : Int)) = false, (r6 == (1 : Int)) = false, True] (by kernel_rfl) (by kernel_rfl) ⟨trivial, (place_Map_Rows_v1_ok _ q9), trivial, trivial, ⟨hb10, trivial⟩, ⟨hb10, trivial⟩, ⟨hb10, eq23⟩, hb10, trivial, ⟨hb11, trivial⟩, ⟨hb11, trivial⟩, hb11, trivial, ⟨hb12, trivial⟩, ⟨hb12, trivial⟩, hb12, trivial, hb13, hb13, hb13, trivial, trivial⟩ ?_
              obtain rfl := Option.some.inj h
              exact postN_to (goal_le (gs := []) (f := []) (by kernel_rfl) (by kernel_rfl))
          · replace h := h_else hb12 h
            refine W_reg tbok ⟨[(3, true), (7, true), (8, true), (11, true), (12, false), (15, false), (16, false), (19, false)], [(1, ⟨.p false (.int .i64) r13, [false], false, [true], [], []⟩)]⟩ [] [] [(6, .p false .bool false)] [] 0 0 [True, Pure Try.prog 13 [.nilp] (.p false (.int .i64) r13), True, True, (r13 == (0 : Int)) = true ∧ True, (r13 == (0 : Int)) = true ∧ True, (r13 == (0 : Int)) = true ∧ EqOk Try.prog 23 (.prod (.int .i64) (.int .i64)), (r13 == (0 : Int)) = true, True, ((r5.1 == (0 : Int)) && (r5.2 == (0 : Int))) = true ∧ True, ((r5.1 == (0 : Int)) && (r5.2 == (0 : Int))) = true ∧ True, ((r5.1 == (0 : Int)) && (r5.2 == (0 : Int))) = true, True, (r9 == (0 : Int)) = false, (r9 == (0 : Int)) = false, (r9 == (0 : Int)) = false, True, false = false, false = false, false = false, True] (by kernel_rfl) (by kernel_rfl) ⟨trivial, (place_Map_Rows_v1_ok _ q9), trivial, trivial, ⟨hb10, trivial⟩, ⟨hb10, trivial⟩, ⟨hb10, eq23⟩, hb10, trivial, ⟨hb11, trivial⟩, ⟨hb11, trivial⟩, hb11, trivial, hb12, hb12, hb12, trivial, rfl, rfl, rfl, trivial, trivial⟩ ?_
            obtain rfl := Option.some.inj h
            exact postN_to (goal_le (gs := []) (f := []) (by kernel_rfl) (by kernel_rfl))
        · replace h := h_else hb11 h
          refine W_reg tbok ⟨[(3, true), (7, true), (8, false), (11, false), (12, false), (15, false), (16, false), (19, false)], [(1, ⟨.p false (.int .i64) r13, [false], false, [true], [], []⟩)]⟩ [] [] [(6, .p false .bool false)] [] 0 0 [True, Pure Try.prog 13 [.nilp] (.p false (.int .i64) r13), True, True, (r13 == (0 : Int)) = true ∧ True, (r13 == (0 : Int)) = true ∧ True, (r13 == (0 : Int)) = true ∧ EqOk Try.prog 23 (.prod (.int .i64) (.int .i64)), (r13 == (0 : Int)) = true, True, ((r5.1 == (0 : Int)) && (r5.2 == (0 : Int))) = false, ((r5.1 == (0 : Int)) && (r5.2 == (0 : Int))) = false, ((r5.1 == (0 : Int)) && (r5.2 == (0 : Int))) = false, True, false = false, false = false, false = false, True, false = false, false = false, false = false, True] (by kernel_rfl) (by kernel_rfl) ⟨trivial, (place_Map_Rows_v1_ok _ q9), trivial, trivial, ⟨hb10, trivial⟩, ⟨hb10, trivial⟩, ⟨hb10, eq23⟩, hb10, trivial, hb11, hb11, hb11, trivial, rfl, rfl, rfl, trivial, rfl, rfl, rfl, trivial, trivial⟩ ?_
          obtain rfl := Option.some.inj h
          exact postN_to (goal_le (gs := []) (f := []) (by kernel_rfl) (by kernel_rfl))
      · replace h := h_else hb10 h
        refine W_reg tbok ⟨[(3, false), (7, false), (8, false), (11, false), (12, false), (15, false), (16, false), (19, false)], [(1, ⟨.p false (.int .i64) r13, [false], false, [true], [], []⟩)]⟩ [] [] [(6, .p false .bool false)] [] 0 0 [True, Pure Try.prog 13 [.nilp] (.p false (.int .i64) r13), True, True, (r13 == (0 : Int)) = false, (r13 == (0 : Int)) = false, (r13 == (0 : Int)) = false, (r13 == (0 : Int)) = false, True, false = false, false = false, false = false, True, false = false, false = false, false = false, True, false = false, false = false, false = false, True] (by kernel_rfl) (by kernel_rfl) ⟨trivial, (place_Map_Rows_v1_ok _ q9), trivial, trivial, hb10, hb10, hb10, hb10, trivial, rfl, rfl, rfl, trivial, rfl, rfl, rfl, trivial, rfl, rfl, rfl, trivial, trivial⟩ ?_
        obtain rfl := Option.some.inj h
        exact postN_to (goal_le (gs := []) (f := []) (by kernel_rfl) (by kernel_rfl))
    · clear hp1
      obtain ⟨rfl, hle⟩ := hq
      refine use_to ?_ hle
      refine to_then ?_
      refine W_ret ?_
      obtain rfl := Option.some.inj h
      exact Ret_intro [.bool] (by kernel_rfl)

end
end Go.Proofs.Ytdjjifeipeelhaa.T
