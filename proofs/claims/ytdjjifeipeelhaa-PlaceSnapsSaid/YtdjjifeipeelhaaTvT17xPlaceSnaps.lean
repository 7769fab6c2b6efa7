/- Functions of the program as functions on data, and that the program's own come to them. -/
import Derived.Test.YtdjjifeipeelhaaTvT17x0
import Derived.Test.YtdjjifeipeelhaaTvT17xa
import Derived.Test.YtdjjifeipeelhaaTvT17xb
namespace Go.Proofs.Ytdjjifeipeelhaa.T
open Go Go.Tv Go.Proofs
noncomputable section

/-- a loop of 'stanza/stanzalaw17.PlaceSnaps': one round -/
def stanzalaw17_PlaceSnaps_L1 (r12 : List (Int × Int × Int × Int)) (r15 : List (Int × Int × Int × Int)) (r16 : List Int) (r17 : List (Int × Int × Int × Int)) (r18 : List (List Int)) (v44 : Int) (v45 : Int) : (Int × Int) → Option ((Int × Int) ⊕ ((Unit) ⊕ (Bool))) := fun ((v58, v59) : Int × Int) =>
  (if (decide (v59 < (300 : Int))) = true then ((place_Map_Byte r15 r16 r17 r18 v44 v59).bind fun ((r171, r172) : Int × Int) =>
  (((if (r172 != (0 : Int)) = true then some (true)
  else (if (decide (r171 < v58)) = true then some (true)
  else some ((decide (r171 > v45)))))).bind fun (v60 : Bool) => (if v60 = true then some (Sum.inr (Sum.inr false))
  else (((if (r171 == v45) = true then ((place_Map_Spot r15 r16 r17 r18 r171 (decide (v44 < (IntKind.i64.wrap ((r12.length : Int) - (1 : Int)))))).bind fun ((r181, r182) : (Int × Int) × Int) =>
  some ((r181.1, r181.2, r182)))
  else ((place_Map_Spot r15 r16 r17 r18 r171 false).bind fun ((r183, r184) : (Int × Int) × Int) =>
  some ((r183.1, r183.2, r184))))).bind fun ((v61, v62, v63) : Int × Int × Int) => (((if (v63 != (0 : Int)) = true then some (true)
  else (if (v61 != v44) = true then some (true)
  else some ((decide (v62 > v59)))))).bind fun (v64 : Bool) => (if v64 = true then some (Sum.inr (Sum.inr false))
  else some (Sum.inl (r171, (IntKind.i64.wrap (v59 + (1 : Int)))))))))))
  else some (Sum.inr (Sum.inl ())))

/-- a loop of 'stanza/stanzalaw17.PlaceSnaps': one round -/
def stanzalaw17_PlaceSnaps_L2 (x1 : Int) (r11 : (List (Int × Int × Int × Int)) × List Int) (r12 : List (Int × Int × Int × Int)) (r13 : Int) (r15 : List (Int × Int × Int × Int)) (r16 : List Int) (r17 : List (Int × Int × Int × Int)) (r18 : List (List Int)) : (Int) → Option ((Int) ⊕ ((Unit) ⊕ (Bool))) := fun (v44 : Int) =>
  (if (decide (v44 < (r12.length : Int))) = true then (if 0 ≤ v44 ∧ v44 < (r12.length : Int) then (if (decide (v44 > (20 : Int))) = true then some (Sum.inr (Sum.inl ()))
  else (((if (decide (((r12.getD v44.toNat ((0 : Int), ((0 : Int), ((0 : Int), (0 : Int))))).2.1) < (r11.1.length : Int))) = true then (if 0 ≤ (r12.getD v44.toNat ((0 : Int), ((0 : Int), ((0 : Int), (0 : Int))))).2.1 ∧ (r12.getD v44.toNat ((0 : Int), ((0 : Int), ((0 : Int), (0 : Int))))).2.1 < (r11.1.length : Int) then some ((r11.1.getD (((r12.getD v44.toNat ((0 : Int), ((0 : Int), ((0 : Int), (0 : Int))))).2.1).toNat) ((0 : Int), ((0 : Int), ((0 : Int), (0 : Int))))).1) else none)
  else some (r13))).bind fun (v45 : Int) => (if 0 ≤ (r12.getD v44.toNat ((0 : Int), ((0 : Int), ((0 : Int), (0 : Int))))).1 ∧ (r12.getD v44.toNat ((0 : Int), ((0 : Int), ((0 : Int), (0 : Int))))).1 < (r11.1.length : Int) then ((iter (stanzalaw17_PlaceSnaps_L1 r12 r15 r16 r17 r18 v44 v45) ((r11.1.getD (((r12.getD v44.toNat ((0 : Int), ((0 : Int), ((0 : Int), (0 : Int))))).1).toNat) ((0 : Int), ((0 : Int), ((0 : Int), (0 : Int))))).1, (0 : Int))).bind fun (r186 : ((Unit) ⊕ (Bool))) => match r186 with
  | .inl _ => ((place_Map_Byte r15 r16 r17 r18 v44 (IntKind.i64.wrap ((1073741824 : Int) + (IntKind.i64.wrap x1)))).bind fun ((r189, r190) : Int × Int) =>
  (((if (r190 != (0 : Int)) = true then some (true)
  else some ((r189 != v45)))).bind fun (v65 : Bool) => (if v65 = true then some (Sum.inr (Sum.inr false))
  else some (Sum.inl (IntKind.i64.wrap (v44 + (1 : Int)))))))
  | .inr (r168) => some (Sum.inr (Sum.inr r168))) else none))) else none)
  else some (Sum.inr (Sum.inl ())))

/-- 'stanza/stanzalaw17.PlaceSnaps' -/
def stanzalaw17_PlaceSnaps (d1 : List (Int × Int × Int × Int)) (i1 : Int) (i2 : Int) (i3 : Int) (i4 : Int) (i5 : Int) (i6 : Nat) (x1 : Int) : Option (Bool) :=
  ((stanzalaw17_Awake).bind fun (r2 : Bool) =>
  (if (!r2) = true then some false
  else ((stanzalaw17_made d1 i1 i2 i3 i4 i5 i6).bind fun ((r11, r12, r13, r14, r15, r16, r17, r18) : ((List (Int × Int × Int × Int)) × List Int) × (List (Int × Int × Int × Int)) × Int × Int × (List (Int × Int × Int × Int)) × (List Int) × (List (Int × Int × Int × Int)) × List (List Int)) =>
  ((iter (stanzalaw17_PlaceSnaps_L2 x1 r11 r12 r13 r15 r16 r17 r18) (0 : Int)).bind fun (r191 : ((Unit) ⊕ (Bool))) => match r191 with
  | .inl _ => some true
  | .inr (r133) => some r133))))

set_option maxRecDepth 100000 in
set_option maxHeartbeats 4000000 in
theorem stanzalaw17_PlaceSnaps_ok (β0 : Bool) (d1 : List (Int × Int × Int × Int)) (i1 : Int) (i2 : Int) (i3 : Int) (i4 : Int) (i5 : Int) (i6 : Nat) (x1 : Int) (res : Bool) (h : stanzalaw17_PlaceSnaps d1 i1 i2 i3 i4 i5 i6 x1 = some res) :
    Pure Try.prog 8 [.p β0 (.slice (.prod (.int .u8) (.prod (.int .u8) (.prod (.int .u8) (.int .u8))))) d1, .agg [.p false (.int .u8) i1, .p false (.int .u8) i2, .p false (.int .u8) i3, .p false (.int .u16) i4, .p false (.int .u16) i5, .p false .flt i6], .p false (.int .u16) x1] (wrapR (encs false [⟨.bool, res⟩])) := by
  refine Pure.of_body tbok Try.func8 (by kernel_rfl) rfl (Nat.le_of_ble_eq_true rfl) (fun Bw w0 => ?_) rfl
  unfold stanzalaw17_PlaceSnaps at h
  refine W_seq ?_
  refine W_reg tbok ⟨[], []⟩ [] [0] [(0, .p β0 (.slice (.prod (.int .u8) (.prod (.int .u8) (.prod (.int .u8) (.int .u8))))) d1), (2, .p false (.int .u16) x1), (4, .adr 0 0 6 0)] [(0, .box [.p false (.int .u8) i1, .p false (.int .u8) i2, .p false (.int .u8) i3, .p false (.int .u16) i4, .p false (.int .u16) i5, .p false .flt i6])] 1 0 [True, True] (by kernel_rfl) (by kernel_rfl) ⟨trivial, trivial, trivial⟩ ?_
  refine to_then ?_
  refine W_seq ?_
  refine W_seq ?_
  obtain ⟨r2, q2, h⟩ := h_bind h
  refine W_reg tbok ⟨[], [(0, ⟨.p false .bool r2, [], false, [], [], []⟩)]⟩ [] [0] [(0, .p β0 (.slice (.prod (.int .u8) (.prod (.int .u8) (.prod (.int .u8) (.int .u8))))) d1), (2, .p false (.int .u16) x1), (4, .adr 0 0 6 0), (24, .p false .bool (!r2))] [(0, .box [.p false (.int .u8) i1, .p false (.int .u8) i2, .p false (.int .u8) i3, .p false (.int .u16) i4, .p false (.int .u16) i5, .p false .flt i6])] 1 0 [Pure Try.prog 10 [] (.p false .bool r2), True] (by kernel_rfl) (by kernel_rfl) ⟨(stanzalaw17_Awake_ok _ q2), trivial, trivial⟩ ?_
  refine to_then ?_
  refine W_cond (b := (!r2)) (β := false) (by kernel_rfl) (fun hb1 => ?_) (fun hb1 => ?_)
  · replace h := h_if hb1 h
    refine W_seq ?_
    refine W_reg tbok ⟨[], []⟩ [] [] [(6, .p false .bool false)] [] 0 0 [True] (by kernel_rfl) (by kernel_rfl) ⟨trivial, trivial⟩ ?_
    refine to_then ?_
    refine W_ret ?_
    refine thenQ_ret ?_
    obtain rfl := Option.some.inj h
    exact Ret_intro [.bool] (by kernel_rfl)
  · replace h := h_else hb1 h
    refine W_skip_to ?_
    refine to_then ?_
    refine W_seq ?_
    obtain ⟨⟨r11, r12, r13, r14, r15, r16, r17, r18⟩, q4, h⟩ := h_bind h
    refine W_reg tbok ⟨[], [(2, ⟨.tup [.agg [.p false (.slice (.prod (.int .i64) (.prod (.int .i64) (.prod (.int .i64) (.int .u8))))) r11.1, .p false (.slice (.int .u8)) r11.2], .p false (.slice (.prod (.int .i64) (.prod (.int .i64) (.prod (.int .i64) (.int .u8))))) r12, .adr 0 0 4 0, .p false (.int .i64) r13, .p false (.int .i64) r14], [false, false], true, [true, true], [], [(0, .box [.p false (.slice (.prod (.int .i64) (.prod (.int .i64) (.prod (.int .i64) (.int .u8))))) r15, .p false (.slice (.int .u8)) r16, .p false (.slice (.prod (.int .i64) (.prod (.int .i64) (.prod (.int .i64) (.int .u8))))) r17, .sl 1]), (1, .arr 46 (.slice (.int .i64)) r18)]⟩)]⟩ [] [73, 17, 18] [(2, .p false (.int .u16) x1), (7, .adr 0 0 2 0), (8, .p false (.slice (.prod (.int .i64) (.prod (.int .i64) (.prod (.int .i64) (.int .u8))))) r12), (9, .adr 1 0 4 0), (10, .p false (.int .i64) r13)] [(0, .box [.p false (.slice (.prod (.int .i64) (.prod (.int .i64) (.prod (.int .i64) (.int .u8))))) r11.1, .p false (.slice (.int .u8)) r11.2]), (1, .box [.p false (.slice (.prod (.int .i64) (.prod (.int .i64) (.prod (.int .i64) (.int .u8))))) r15, .p false (.slice (.int .u8)) r16, .p false (.slice (.prod (.int .i64) (.prod (.int .i64) (.prod (.int .i64) (.int .u8))))) r17, .sl 2]), (2, .arr 46 (.slice (.int .i64)) r18)] 3 0 [True, True, Owns Try.prog 14 [.p β0 (.slice (.prod (.int .u8) (.prod (.int .u8) (.prod (.int .u8) (.int .u8))))) d1, .agg [.p false (.int .u8) i1, .p false (.int .u8) i2, .p false (.int .u8) i3, .p false (.int .u16) i4, .p false (.int .u16) i5, .p false .flt i6]] [] (.tup [.agg [.p false (.slice (.prod (.int .i64) (.prod (.int .i64) (.prod (.int .i64) (.int .u8))))) r11.1, .p false (.slice (.int .u8)) r11.2], .p false (.slice (.prod (.int .i64) (.prod (.int .i64) (.prod (.int .i64) (.int .u8))))) r12, .adr 0 0 4 0, .p false (.int .i64) r13, .p false (.int .i64) r14]) [(0, .box [.p false (.slice (.prod (.int .i64) (.prod (.int .i64) (.prod (.int .i64) (.int .u8))))) r15, .p false (.slice (.int .u8)) r16, .p false (.slice (.prod (.int .i64) (.prod (.int .i64) (.prod (.int .i64) (.int .u8))))) r17, .sl 1]), (1, .arr 46 (.slice (.int .i64)) r18)], True, True, True, True, True, True, True, True, True, True, True, True] (by kernel_rfl) (by kernel_rfl) ⟨trivial, trivial, (stanzalaw17_made_ok β0 d1 i1 i2 i3 i4 i5 i6 _ q4), trivial, trivial, trivial, trivial, trivial, trivial, trivial, trivial, trivial, trivial, trivial, trivial, trivial⟩ ?_
    refine to_then ?_
    refine W_seq ?_
    refine W_seq ?_
    refine W_reg tbok ⟨[], []⟩ [] [0, 1, 2] [(2, .p false (.int .u16) x1), (7, .adr 0 0 2 0), (8, .p false (.slice (.prod (.int .i64) (.prod (.int .i64) (.prod (.int .i64) (.int .u8))))) r12), (9, .adr 1 0 4 0), (10, .p false (.int .i64) r13), (34, .p false (.slice (.prod (.int .i64) (.prod (.int .i64) (.prod (.int .i64) (.int .u8))))) r12), (35, .p false (.int .i64) (r12.length : Int)), (36, .p false (.int .i64) (0 : Int))] [(0, .box [.p false (.slice (.prod (.int .i64) (.prod (.int .i64) (.prod (.int .i64) (.int .u8))))) r11.1, .p false (.slice (.int .u8)) r11.2]), (1, .box [.p false (.slice (.prod (.int .i64) (.prod (.int .i64) (.prod (.int .i64) (.int .u8))))) r15, .p false (.slice (.int .u8)) r16, .p false (.slice (.prod (.int .i64) (.prod (.int .i64) (.prod (.int .i64) (.int .u8))))) r17, .sl 2]), (2, .arr 46 (.slice (.int .i64)) r18)] 3 0 [True, True, True] (by kernel_rfl) (by kernel_rfl) ⟨trivial, trivial, trivial, trivial⟩ ?_
    refine to_then ?_
    refine W_block ?_
    obtain ⟨r191, hp37, h⟩ := h_bind h
    refine W.mono (Q := (postS (postX Try.f8.ntmps 0 (fun (_ : Unit) => mkSt [] [] 0)) (postR tb Try.f8.results.toList (fun (r133 : Bool) => [⟨.bool, r133⟩]))) r191) (W_iter (f := fun (v44 : Int) => mkSt [(2, .p false (.int .u16) x1), (7, .adr 0 0 2 0), (8, .p false (.slice (.prod (.int .i64) (.prod (.int .i64) (.prod (.int .i64) (.int .u8))))) r12), (9, .adr 1 0 4 0), (10, .p false (.int .i64) r13), (34, .p false (.slice (.prod (.int .i64) (.prod (.int .i64) (.prod (.int .i64) (.int .u8))))) r12), (35, .p false (.int .i64) (r12.length : Int)), (36, .p false (.int .i64) v44)] [(0, .box [.p false (.slice (.prod (.int .i64) (.prod (.int .i64) (.prod (.int .i64) (.int .u8))))) r11.1, .p false (.slice (.int .u8)) r11.2]), (1, .box [.p false (.slice (.prod (.int .i64) (.prod (.int .i64) (.prod (.int .i64) (.int .u8))))) r15, .p false (.slice (.int .u8)) r16, .p false (.slice (.prod (.int .i64) (.prod (.int .i64) (.prod (.int .i64) (.int .u8))))) r17, .sl 2]), (2, .arr 46 (.slice (.int .i64)) r18)] 3) (Q := (postS (postX Try.f8.ntmps 0 (fun (_ : Unit) => mkSt [] [] 0)) (postR tb Try.f8.results.toList (fun (r133 : Bool) => [⟨.bool, r133⟩])))) hp37 (goal_le (gs := []) (f := [0, 1, 2]) (by kernel_rfl) (by kernel_rfl)) (fun v44 o ho => ?_)) (fun e σ' hq => ?_)
    · replace h := ho
      clear ho hp37
      unfold stanzalaw17_PlaceSnaps_L2 at h
      refine W_seq ?_
      refine W_reg tbok ⟨[], []⟩ [] [0, 1, 2] [(2, .p false (.int .u16) x1), (7, .adr 0 0 2 0), (8, .p false (.slice (.prod (.int .i64) (.prod (.int .i64) (.prod (.int .i64) (.int .u8))))) r12), (9, .adr 1 0 4 0), (10, .p false (.int .i64) r13), (34, .p false (.slice (.prod (.int .i64) (.prod (.int .i64) (.prod (.int .i64) (.int .u8))))) r12), (35, .p false (.int .i64) (r12.length : Int)), (36, .p false (.int .i64) v44), (37, .p false .bool (decide (v44 < (r12.length : Int))))] [(0, .box [.p false (.slice (.prod (.int .i64) (.prod (.int .i64) (.prod (.int .i64) (.int .u8))))) r11.1, .p false (.slice (.int .u8)) r11.2]), (1, .box [.p false (.slice (.prod (.int .i64) (.prod (.int .i64) (.prod (.int .i64) (.int .u8))))) r15, .p false (.slice (.int .u8)) r16, .p false (.slice (.prod (.int .i64) (.prod (.int .i64) (.prod (.int .i64) (.int .u8))))) r17, .sl 2]), (2, .arr 46 (.slice (.int .i64)) r18)] 3 0 [True] (by kernel_rfl) (by kernel_rfl) ⟨trivial, trivial⟩ ?_
      refine to_then ?_
      refine W_seq ?_
      refine W_cond (b := (decide (v44 < (r12.length : Int)))) (β := false) (by kernel_rfl) (fun hb126 => ?_) (fun hb126 => ?_)
      · replace h := h_if hb126 h
        refine W_skip_to ?_
        refine to_then ?_
        refine W_seq ?_
        refine W_block ?_
        refine W_seq ?_
        obtain ⟨c18, h⟩ := h_guard h
        refine W_reg tbok ⟨[], []⟩ [] [0, 1, 2, 27] [(2, .p false (.int .u16) x1), (7, .adr 0 0 2 0), (8, .p false (.slice (.prod (.int .i64) (.prod (.int .i64) (.prod (.int .i64) (.int .u8))))) r12), (9, .adr 1 0 4 0), (10, .p false (.int .i64) r13), (12, .p false (.int .i64) v44), (13, .adr 3 0 4 0), (34, .p false (.slice (.prod (.int .i64) (.prod (.int .i64) (.prod (.int .i64) (.int .u8))))) r12), (35, .p false (.int .i64) (r12.length : Int)), (36, .p false (.int .i64) v44)] [(0, .box [.p false (.slice (.prod (.int .i64) (.prod (.int .i64) (.prod (.int .i64) (.int .u8))))) r11.1, .p false (.slice (.int .u8)) r11.2]), (1, .box [.p false (.slice (.prod (.int .i64) (.prod (.int .i64) (.prod (.int .i64) (.int .u8))))) r15, .p false (.slice (.int .u8)) r16, .p false (.slice (.prod (.int .i64) (.prod (.int .i64) (.prod (.int .i64) (.int .u8))))) r17, .sl 2]), (2, .arr 46 (.slice (.int .i64)) r18), (3, .box [.p false (.int .i64) ((r12.getD v44.toNat ((0 : Int), ((0 : Int), ((0 : Int), (0 : Int))))).1), .p false (.int .i64) ((r12.getD v44.toNat ((0 : Int), ((0 : Int), ((0 : Int), (0 : Int))))).2.1), .p false (.int .i64) ((r12.getD v44.toNat ((0 : Int), ((0 : Int), ((0 : Int), (0 : Int))))).2.2.1), .p false (.int .u8) ((r12.getD v44.toNat ((0 : Int), ((0 : Int), ((0 : Int), (0 : Int))))).2.2.2)])] 4 0 [True, 0 ≤ v44 ∧ v44 < (r12.length : Int), True, True, True, True] (by kernel_rfl) (by kernel_rfl) ⟨trivial, c18, trivial, trivial, trivial, trivial, trivial⟩ ?_
        refine to_then ?_
        refine W_seq ?_
        refine W_seq ?_
        refine W_reg tbok ⟨[], []⟩ [] [0, 1, 2, 3] [(2, .p false (.int .u16) x1), (7, .adr 0 0 2 0), (8, .p false (.slice (.prod (.int .i64) (.prod (.int .i64) (.prod (.int .i64) (.int .u8))))) r12), (9, .adr 1 0 4 0), (10, .p false (.int .i64) r13), (12, .p false (.int .i64) v44), (13, .adr 3 0 4 0), (34, .p false (.slice (.prod (.int .i64) (.prod (.int .i64) (.prod (.int .i64) (.int .u8))))) r12), (35, .p false (.int .i64) (r12.length : Int)), (36, .p false (.int .i64) v44), (42, .p false .bool (decide (v44 > (20 : Int))))] [(0, .box [.p false (.slice (.prod (.int .i64) (.prod (.int .i64) (.prod (.int .i64) (.int .u8))))) r11.1, .p false (.slice (.int .u8)) r11.2]), (1, .box [.p false (.slice (.prod (.int .i64) (.prod (.int .i64) (.prod (.int .i64) (.int .u8))))) r15, .p false (.slice (.int .u8)) r16, .p false (.slice (.prod (.int .i64) (.prod (.int .i64) (.prod (.int .i64) (.int .u8))))) r17, .sl 2]), (2, .arr 46 (.slice (.int .i64)) r18), (3, .box [.p false (.int .i64) ((r12.getD v44.toNat ((0 : Int), ((0 : Int), ((0 : Int), (0 : Int))))).1), .p false (.int .i64) ((r12.getD v44.toNat ((0 : Int), ((0 : Int), ((0 : Int), (0 : Int))))).2.1), .p false (.int .i64) ((r12.getD v44.toNat ((0 : Int), ((0 : Int), ((0 : Int), (0 : Int))))).2.2.1), .p false (.int .u8) ((r12.getD v44.toNat ((0 : Int), ((0 : Int), ((0 : Int), (0 : Int))))).2.2.2)])] 4 0 [True, True] (by kernel_rfl) (by kernel_rfl) ⟨trivial, trivial, trivial⟩ ?_
        refine to_then ?_
        refine W_cond (b := (decide (v44 > (20 : Int)))) (β := false) (by kernel_rfl) (fun hb127 => ?_) (fun hb127 => ?_)
        · replace h := h_if hb127 h
          refine W_exit_to ?_
          refine thenE ?_
          refine blockE_ne rfl ?_
          refine thenE ?_
          obtain rfl := Option.some.inj h
          refine roundE ?_
          refine postS_l ?_
          exact postX_to (goal_le (gs := []) (f := []) (by kernel_rfl) (by kernel_rfl))
        · replace h := h_else hb127 h
          refine W_skip_to ?_
          refine to_then ?_
          refine W_seq ?_
          refine W_reg tbok ⟨[], []⟩ [] [0, 1, 2, 3] [(2, .p false (.int .u16) x1), (7, .adr 0 0 2 0), (8, .p false (.slice (.prod (.int .i64) (.prod (.int .i64) (.prod (.int .i64) (.int .u8))))) r12), (9, .adr 1 0 4 0), (10, .p false (.int .i64) r13), (12, .p false (.int .i64) v44), (13, .adr 3 0 4 0), (14, .p false (.int .i64) r13), (34, .p false (.slice (.prod (.int .i64) (.prod (.int .i64) (.prod (.int .i64) (.int .u8))))) r12), (35, .p false (.int .i64) (r12.length : Int)), (36, .p false (.int .i64) v44)] [(0, .box [.p false (.slice (.prod (.int .i64) (.prod (.int .i64) (.prod (.int .i64) (.int .u8))))) r11.1, .p false (.slice (.int .u8)) r11.2]), (1, .box [.p false (.slice (.prod (.int .i64) (.prod (.int .i64) (.prod (.int .i64) (.int .u8))))) r15, .p false (.slice (.int .u8)) r16, .p false (.slice (.prod (.int .i64) (.prod (.int .i64) (.prod (.int .i64) (.int .u8))))) r17, .sl 2]), (2, .arr 46 (.slice (.int .i64)) r18), (3, .box [.p false (.int .i64) ((r12.getD v44.toNat ((0 : Int), ((0 : Int), ((0 : Int), (0 : Int))))).1), .p false (.int .i64) ((r12.getD v44.toNat ((0 : Int), ((0 : Int), ((0 : Int), (0 : Int))))).2.1), .p false (.int .i64) ((r12.getD v44.toNat ((0 : Int), ((0 : Int), ((0 : Int), (0 : Int))))).2.2.1), .p false (.int .u8) ((r12.getD v44.toNat ((0 : Int), ((0 : Int), ((0 : Int), (0 : Int))))).2.2.2)])] 4 0 [True, True] (by kernel_rfl) (by kernel_rfl) ⟨trivial, trivial, trivial⟩ ?_
          refine to_then ?_
          refine W_seq ?_
          refine W_seq ?_
          refine W_reg tbok ⟨[], []⟩ [] [0, 1, 2, 3] [(2, .p false (.int .u16) x1), (7, .adr 0 0 2 0), (8, .p false (.slice (.prod (.int .i64) (.prod (.int .i64) (.prod (.int .i64) (.int .u8))))) r12), (9, .adr 1 0 4 0), (10, .p false (.int .i64) r13), (12, .p false (.int .i64) v44), (13, .adr 3 0 4 0), (14, .p false (.int .i64) r13), (34, .p false (.slice (.prod (.int .i64) (.prod (.int .i64) (.prod (.int .i64) (.int .u8))))) r12), (35, .p false (.int .i64) (r12.length : Int)), (36, .p false (.int .i64) v44), (49, .p false .bool (decide (((r12.getD v44.toNat ((0 : Int), ((0 : Int), ((0 : Int), (0 : Int))))).2.1) < (r11.1.length : Int))))] [(0, .box [.p false (.slice (.prod (.int .i64) (.prod (.int .i64) (.prod (.int .i64) (.int .u8))))) r11.1, .p false (.slice (.int .u8)) r11.2]), (1, .box [.p false (.slice (.prod (.int .i64) (.prod (.int .i64) (.prod (.int .i64) (.int .u8))))) r15, .p false (.slice (.int .u8)) r16, .p false (.slice (.prod (.int .i64) (.prod (.int .i64) (.prod (.int .i64) (.int .u8))))) r17, .sl 2]), (2, .arr 46 (.slice (.int .i64)) r18), (3, .box [.p false (.int .i64) ((r12.getD v44.toNat ((0 : Int), ((0 : Int), ((0 : Int), (0 : Int))))).1), .p false (.int .i64) ((r12.getD v44.toNat ((0 : Int), ((0 : Int), ((0 : Int), (0 : Int))))).2.1), .p false (.int .i64) ((r12.getD v44.toNat ((0 : Int), ((0 : Int), ((0 : Int), (0 : Int))))).2.2.1), .p false (.int .u8) ((r12.getD v44.toNat ((0 : Int), ((0 : Int), ((0 : Int), (0 : Int))))).2.2.2)])] 4 0 [True, True, True, True, True, True] (by kernel_rfl) (by kernel_rfl) ⟨trivial, trivial, trivial, trivial, trivial, trivial, trivial⟩ ?_
          refine to_then ?_
          obtain ⟨v45, hp25, h⟩ := h_bind h
          refine W.mono (Q := (postN Try.f8.ntmps (fun (v45 : Int) => mkSt [(2, .p false (.int .u16) x1), (7, .adr 0 0 2 0), (8, .p false (.slice (.prod (.int .i64) (.prod (.int .i64) (.prod (.int .i64) (.int .u8))))) r12), (9, .adr 1 0 4 0), (10, .p false (.int .i64) r13), (12, .p false (.int .i64) v44), (13, .adr 3 0 4 0), (14, .p false (.int .i64) v45), (34, .p false (.slice (.prod (.int .i64) (.prod (.int .i64) (.prod (.int .i64) (.int .u8))))) r12), (35, .p false (.int .i64) (r12.length : Int)), (36, .p false (.int .i64) v44)] [(0, .box [.p false (.slice (.prod (.int .i64) (.prod (.int .i64) (.prod (.int .i64) (.int .u8))))) r11.1, .p false (.slice (.int .u8)) r11.2]), (1, .box [.p false (.slice (.prod (.int .i64) (.prod (.int .i64) (.prod (.int .i64) (.int .u8))))) r15, .p false (.slice (.int .u8)) r16, .p false (.slice (.prod (.int .i64) (.prod (.int .i64) (.prod (.int .i64) (.int .u8))))) r17, .sl 2]), (2, .arr 46 (.slice (.int .i64)) r18), (3, .box [.p false (.int .i64) ((r12.getD v44.toNat ((0 : Int), ((0 : Int), ((0 : Int), (0 : Int))))).1), .p false (.int .i64) ((r12.getD v44.toNat ((0 : Int), ((0 : Int), ((0 : Int), (0 : Int))))).2.1), .p false (.int .i64) ((r12.getD v44.toNat ((0 : Int), ((0 : Int), ((0 : Int), (0 : Int))))).2.2.1), .p false (.int .u8) ((r12.getD v44.toNat ((0 : Int), ((0 : Int), ((0 : Int), (0 : Int))))).2.2.2)])] 4)) v45) ?_ (fun e σ' hq => ?_)
          · replace h := hp25
            clear hp25
            refine W_cond (b := (decide (((r12.getD v44.toNat ((0 : Int), ((0 : Int), ((0 : Int), (0 : Int))))).2.1) < (r11.1.length : Int)))) (β := false) (by kernel_rfl) (fun hb129 => ?_) (fun hb129 => ?_)
            · replace h := h_if hb129 h
              obtain ⟨c22, h⟩ := h_guard h
              refine W_reg tbok ⟨[], []⟩ [] [0, 1, 2, 3] [(2, .p false (.int .u16) x1), (7, .adr 0 0 2 0), (8, .p false (.slice (.prod (.int .i64) (.prod (.int .i64) (.prod (.int .i64) (.int .u8))))) r12), (9, .adr 1 0 4 0), (10, .p false (.int .i64) r13), (12, .p false (.int .i64) v44), (13, .adr 3 0 4 0), (14, .p false (.int .i64) ((r11.1.getD (((r12.getD v44.toNat ((0 : Int), ((0 : Int), ((0 : Int), (0 : Int))))).2.1).toNat) ((0 : Int), ((0 : Int), ((0 : Int), (0 : Int))))).1)), (34, .p false (.slice (.prod (.int .i64) (.prod (.int .i64) (.prod (.int .i64) (.int .u8))))) r12), (35, .p false (.int .i64) (r12.length : Int)), (36, .p false (.int .i64) v44)] [(0, .box [.p false (.slice (.prod (.int .i64) (.prod (.int .i64) (.prod (.int .i64) (.int .u8))))) r11.1, .p false (.slice (.int .u8)) r11.2]), (1, .box [.p false (.slice (.prod (.int .i64) (.prod (.int .i64) (.prod (.int .i64) (.int .u8))))) r15, .p false (.slice (.int .u8)) r16, .p false (.slice (.prod (.int .i64) (.prod (.int .i64) (.prod (.int .i64) (.int .u8))))) r17, .sl 2]), (2, .arr 46 (.slice (.int .i64)) r18), (3, .box [.p false (.int .i64) ((r12.getD v44.toNat ((0 : Int), ((0 : Int), ((0 : Int), (0 : Int))))).1), .p false (.int .i64) ((r12.getD v44.toNat ((0 : Int), ((0 : Int), ((0 : Int), (0 : Int))))).2.1), .p false (.int .i64) ((r12.getD v44.toNat ((0 : Int), ((0 : Int), ((0 : Int), (0 : Int))))).2.2.1), .p false (.int .u8) ((r12.getD v44.toNat ((0 : Int), ((0 : Int), ((0 : Int), (0 : Int))))).2.2.2)])] 4 0 [True, True, True, True, 0 ≤ (r12.getD v44.toNat ((0 : Int), ((0 : Int), ((0 : Int), (0 : Int))))).2.1 ∧ (r12.getD v44.toNat ((0 : Int), ((0 : Int), ((0 : Int), (0 : Int))))).2.1 < (r11.1.length : Int), True, True, True] (by kernel_rfl) (by kernel_rfl) ⟨trivial, trivial, trivial, trivial, c22, trivial, trivial, trivial, trivial⟩ ?_
              obtain rfl := Option.some.inj h
              exact postN_to (goal_le (gs := []) (f := [0, 1, 2, 3]) (by kernel_rfl) (by kernel_rfl))
            · replace h := h_else hb129 h
              refine W_skip_to ?_
              obtain rfl := Option.some.inj h
              exact postN_to (goal_le (gs := []) (f := [0, 1, 2, 3]) (by kernel_rfl) (by kernel_rfl))
          · clear hp25
            obtain ⟨rfl, hle⟩ := hq
            refine use_to ?_ hle
            refine to_then ?_
            refine W_seq ?_
            obtain ⟨c24, h⟩ := h_guard h
            refine W_reg tbok ⟨[], []⟩ [] [0, 1, 2] [(2, .p false (.int .u16) x1), (7, .adr 0 0 2 0), (8, .p false (.slice (.prod (.int .i64) (.prod (.int .i64) (.prod (.int .i64) (.int .u8))))) r12), (9, .adr 1 0 4 0), (10, .p false (.int .i64) r13), (12, .p false (.int .i64) v44), (14, .p false (.int .i64) v45), (15, .p false (.int .i64) ((r11.1.getD (((r12.getD v44.toNat ((0 : Int), ((0 : Int), ((0 : Int), (0 : Int))))).1).toNat) ((0 : Int), ((0 : Int), ((0 : Int), (0 : Int))))).1)), (34, .p false (.slice (.prod (.int .i64) (.prod (.int .i64) (.prod (.int .i64) (.int .u8))))) r12), (35, .p false (.int .i64) (r12.length : Int)), (36, .p false (.int .i64) v44)] [(0, .box [.p false (.slice (.prod (.int .i64) (.prod (.int .i64) (.prod (.int .i64) (.int .u8))))) r11.1, .p false (.slice (.int .u8)) r11.2]), (1, .box [.p false (.slice (.prod (.int .i64) (.prod (.int .i64) (.prod (.int .i64) (.int .u8))))) r15, .p false (.slice (.int .u8)) r16, .p false (.slice (.prod (.int .i64) (.prod (.int .i64) (.prod (.int .i64) (.int .u8))))) r17, .sl 2]), (2, .arr 46 (.slice (.int .i64)) r18)] 3 0 [True, True, True, True, 0 ≤ (r12.getD v44.toNat ((0 : Int), ((0 : Int), ((0 : Int), (0 : Int))))).1 ∧ (r12.getD v44.toNat ((0 : Int), ((0 : Int), ((0 : Int), (0 : Int))))).1 < (r11.1.length : Int), True, True, True] (by kernel_rfl) (by kernel_rfl) ⟨trivial, trivial, trivial, trivial, c24, trivial, trivial, trivial, trivial⟩ ?_
            refine to_then ?_
            refine W_seq ?_
            refine W_seq ?_
            refine W_reg tbok ⟨[], []⟩ [] [0, 1, 2] [(2, .p false (.int .u16) x1), (7, .adr 0 0 2 0), (8, .p false (.slice (.prod (.int .i64) (.prod (.int .i64) (.prod (.int .i64) (.int .u8))))) r12), (9, .adr 1 0 4 0), (10, .p false (.int .i64) r13), (12, .p false (.int .i64) v44), (14, .p false (.int .i64) v45), (15, .p false (.int .i64) ((r11.1.getD (((r12.getD v44.toNat ((0 : Int), ((0 : Int), ((0 : Int), (0 : Int))))).1).toNat) ((0 : Int), ((0 : Int), ((0 : Int), (0 : Int))))).1)), (16, .p false (.int .i64) (0 : Int)), (34, .p false (.slice (.prod (.int .i64) (.prod (.int .i64) (.prod (.int .i64) (.int .u8))))) r12), (35, .p false (.int .i64) (r12.length : Int)), (36, .p false (.int .i64) v44)] [(0, .box [.p false (.slice (.prod (.int .i64) (.prod (.int .i64) (.prod (.int .i64) (.int .u8))))) r11.1, .p false (.slice (.int .u8)) r11.2]), (1, .box [.p false (.slice (.prod (.int .i64) (.prod (.int .i64) (.prod (.int .i64) (.int .u8))))) r15, .p false (.slice (.int .u8)) r16, .p false (.slice (.prod (.int .i64) (.prod (.int .i64) (.prod (.int .i64) (.int .u8))))) r17, .sl 2]), (2, .arr 46 (.slice (.int .i64)) r18)] 3 0 [True] (by kernel_rfl) (by kernel_rfl) ⟨trivial, trivial⟩ ?_
            refine to_then ?_
            refine W_block ?_
            obtain ⟨r186, hp35, h⟩ := h_bind h
            refine W.mono (Q := (postS (postX Try.f8.ntmps 2 (fun (_ : Unit) => mkSt [(2, .p false (.int .u16) x1), (7, .adr 0 0 2 0), (8, .p false (.slice (.prod (.int .i64) (.prod (.int .i64) (.prod (.int .i64) (.int .u8))))) r12), (9, .adr 1 0 4 0), (10, .p false (.int .i64) r13), (12, .p false (.int .i64) v44), (14, .p false (.int .i64) v45), (34, .p false (.slice (.prod (.int .i64) (.prod (.int .i64) (.prod (.int .i64) (.int .u8))))) r12), (35, .p false (.int .i64) (r12.length : Int)), (36, .p false (.int .i64) v44)] [(0, .box [.p false (.slice (.prod (.int .i64) (.prod (.int .i64) (.prod (.int .i64) (.int .u8))))) r11.1, .p false (.slice (.int .u8)) r11.2]), (1, .box [.p false (.slice (.prod (.int .i64) (.prod (.int .i64) (.prod (.int .i64) (.int .u8))))) r15, .p false (.slice (.int .u8)) r16, .p false (.slice (.prod (.int .i64) (.prod (.int .i64) (.prod (.int .i64) (.int .u8))))) r17, .sl 2]), (2, .arr 46 (.slice (.int .i64)) r18)] 3)) (postR tb Try.f8.results.toList (fun (r168 : Bool) => [⟨.bool, r168⟩]))) r186) (W_iter (f := fun ((v58, v59) : Int × Int) => mkSt [(2, .p false (.int .u16) x1), (7, .adr 0 0 2 0), (8, .p false (.slice (.prod (.int .i64) (.prod (.int .i64) (.prod (.int .i64) (.int .u8))))) r12), (9, .adr 1 0 4 0), (10, .p false (.int .i64) r13), (12, .p false (.int .i64) v44), (14, .p false (.int .i64) v45), (15, .p false (.int .i64) v58), (16, .p false (.int .i64) v59), (34, .p false (.slice (.prod (.int .i64) (.prod (.int .i64) (.prod (.int .i64) (.int .u8))))) r12), (35, .p false (.int .i64) (r12.length : Int)), (36, .p false (.int .i64) v44)] [(0, .box [.p false (.slice (.prod (.int .i64) (.prod (.int .i64) (.prod (.int .i64) (.int .u8))))) r11.1, .p false (.slice (.int .u8)) r11.2]), (1, .box [.p false (.slice (.prod (.int .i64) (.prod (.int .i64) (.prod (.int .i64) (.int .u8))))) r15, .p false (.slice (.int .u8)) r16, .p false (.slice (.prod (.int .i64) (.prod (.int .i64) (.prod (.int .i64) (.int .u8))))) r17, .sl 2]), (2, .arr 46 (.slice (.int .i64)) r18)] 3) (Q := (postS (postX Try.f8.ntmps 2 (fun (_ : Unit) => mkSt [(2, .p false (.int .u16) x1), (7, .adr 0 0 2 0), (8, .p false (.slice (.prod (.int .i64) (.prod (.int .i64) (.prod (.int .i64) (.int .u8))))) r12), (9, .adr 1 0 4 0), (10, .p false (.int .i64) r13), (12, .p false (.int .i64) v44), (14, .p false (.int .i64) v45), (34, .p false (.slice (.prod (.int .i64) (.prod (.int .i64) (.prod (.int .i64) (.int .u8))))) r12), (35, .p false (.int .i64) (r12.length : Int)), (36, .p false (.int .i64) v44)] [(0, .box [.p false (.slice (.prod (.int .i64) (.prod (.int .i64) (.prod (.int .i64) (.int .u8))))) r11.1, .p false (.slice (.int .u8)) r11.2]), (1, .box [.p false (.slice (.prod (.int .i64) (.prod (.int .i64) (.prod (.int .i64) (.int .u8))))) r15, .p false (.slice (.int .u8)) r16, .p false (.slice (.prod (.int .i64) (.prod (.int .i64) (.prod (.int .i64) (.int .u8))))) r17, .sl 2]), (2, .arr 46 (.slice (.int .i64)) r18)] 3)) (postR tb Try.f8.results.toList (fun (r168 : Bool) => [⟨.bool, r168⟩])))) hp35 (goal_le (gs := []) (f := [0, 1, 2]) (by kernel_rfl) (by kernel_rfl)) (fun y o ho => ?_)) (fun e σ' hq => ?_)
            · obtain ⟨v58, v59⟩ := y
              replace h := ho
              clear ho hp35
              unfold stanzalaw17_PlaceSnaps_L1 at h
              refine W_seq ?_
              refine W_seq ?_
              refine W_reg tbok ⟨[], []⟩ [] [0, 1, 2] [(2, .p false (.int .u16) x1), (7, .adr 0 0 2 0), (8, .p false (.slice (.prod (.int .i64) (.prod (.int .i64) (.prod (.int .i64) (.int .u8))))) r12), (9, .adr 1 0 4 0), (10, .p false (.int .i64) r13), (12, .p false (.int .i64) v44), (14, .p false (.int .i64) v45), (15, .p false (.int .i64) v58), (16, .p false (.int .i64) v59), (34, .p false (.slice (.prod (.int .i64) (.prod (.int .i64) (.prod (.int .i64) (.int .u8))))) r12), (35, .p false (.int .i64) (r12.length : Int)), (36, .p false (.int .i64) v44), (65, .p false .bool (decide (v59 < (300 : Int))))] [(0, .box [.p false (.slice (.prod (.int .i64) (.prod (.int .i64) (.prod (.int .i64) (.int .u8))))) r11.1, .p false (.slice (.int .u8)) r11.2]), (1, .box [.p false (.slice (.prod (.int .i64) (.prod (.int .i64) (.prod (.int .i64) (.int .u8))))) r15, .p false (.slice (.int .u8)) r16, .p false (.slice (.prod (.int .i64) (.prod (.int .i64) (.prod (.int .i64) (.int .u8))))) r17, .sl 2]), (2, .arr 46 (.slice (.int .i64)) r18)] 3 0 [True, True] (by kernel_rfl) (by kernel_rfl) ⟨trivial, trivial, trivial⟩ ?_
              refine to_then ?_
              refine W_cond (b := (decide (v59 < (300 : Int)))) (β := false) (by kernel_rfl) (fun hb166 => ?_) (fun hb166 => ?_)
              · replace h := h_if hb166 h
                refine W_skip_to ?_
                refine to_then ?_
                refine W_seq ?_
                refine W_block ?_
                refine W_seq ?_
                obtain ⟨⟨r171, r172⟩, q74, h⟩ := h_bind h
                refine W_reg tbok ⟨[], [(4, ⟨.tup [.p false (.int .i64) r171, .p false (.int .i64) r172], [false, false], false, [true, true], [], []⟩)]⟩ [] [0, 1, 2] [(2, .p false (.int .u16) x1), (7, .adr 0 0 2 0), (8, .p false (.slice (.prod (.int .i64) (.prod (.int .i64) (.prod (.int .i64) (.int .u8))))) r12), (9, .adr 1 0 4 0), (10, .p false (.int .i64) r13), (12, .p false (.int .i64) v44), (14, .p false (.int .i64) v45), (15, .p false (.int .i64) v58), (16, .p false (.int .i64) v59), (17, .p false (.int .i64) r171), (18, .p false (.int .i64) r172), (34, .p false (.slice (.prod (.int .i64) (.prod (.int .i64) (.prod (.int .i64) (.int .u8))))) r12), (35, .p false (.int .i64) (r12.length : Int)), (36, .p false (.int .i64) v44)] [(0, .box [.p false (.slice (.prod (.int .i64) (.prod (.int .i64) (.prod (.int .i64) (.int .u8))))) r11.1, .p false (.slice (.int .u8)) r11.2]), (1, .box [.p false (.slice (.prod (.int .i64) (.prod (.int .i64) (.prod (.int .i64) (.int .u8))))) r15, .p false (.slice (.int .u8)) r16, .p false (.slice (.prod (.int .i64) (.prod (.int .i64) (.prod (.int .i64) (.int .u8))))) r17, .sl 2]), (2, .arr 46 (.slice (.int .i64)) r18)] 3 0 [True, True, True, True, Pure Try.prog 12 [.fad true [.p false (.slice (.prod (.int .i64) (.prod (.int .i64) (.prod (.int .i64) (.int .u8))))) r15, .p false (.slice (.int .u8)) r16, .p false (.slice (.prod (.int .i64) (.prod (.int .i64) (.prod (.int .i64) (.int .u8))))) r17, .p true (.slice (.slice (.int .i64))) r18] 0, .agg [.p false (.int .i64) v44, .p false (.int .i64) v59]] (.tup [.p false (.int .i64) r171, .p false (.int .i64) r172]), True, True, True, True, True] (by kernel_rfl) (by kernel_rfl) ⟨trivial, trivial, trivial, trivial, (place_Map_Byte_ok false false false true r15 r16 r17 r18 v44 v59 _ q74), trivial, trivial, trivial, trivial, trivial, trivial⟩ ?_
                refine to_then ?_
                refine W_seq ?_
                refine W_seq ?_
                obtain ⟨v60, hp32, h⟩ := h_bind h
                refine W.mono (Q := (postN Try.f8.ntmps (fun (v60 : Bool) => mkSt [(2, .p false (.int .u16) x1), (7, .adr 0 0 2 0), (8, .p false (.slice (.prod (.int .i64) (.prod (.int .i64) (.prod (.int .i64) (.int .u8))))) r12), (9, .adr 1 0 4 0), (10, .p false (.int .i64) r13), (12, .p false (.int .i64) v44), (14, .p false (.int .i64) v45), (16, .p false (.int .i64) v59), (17, .p false (.int .i64) r171), (34, .p false (.slice (.prod (.int .i64) (.prod (.int .i64) (.prod (.int .i64) (.int .u8))))) r12), (35, .p false (.int .i64) (r12.length : Int)), (36, .p false (.int .i64) v44), (87, .p false .bool v60)] [(0, .box [.p false (.slice (.prod (.int .i64) (.prod (.int .i64) (.prod (.int .i64) (.int .u8))))) r11.1, .p false (.slice (.int .u8)) r11.2]), (1, .box [.p false (.slice (.prod (.int .i64) (.prod (.int .i64) (.prod (.int .i64) (.int .u8))))) r15, .p false (.slice (.int .u8)) r16, .p false (.slice (.prod (.int .i64) (.prod (.int .i64) (.prod (.int .i64) (.int .u8))))) r17, .sl 2]), (2, .arr 46 (.slice (.int .i64)) r18)] 3)) v60) ?_ (fun e σ' hq => ?_)
                · replace h := hp32
                  clear hp32
                  rcases Bool.eq_false_or_eq_true (r172 != (0 : Int)) with hb171 | hb171
                  · replace h := h_if hb171 h
                    refine W_reg tbok ⟨[(2, true), (6, true), (7, true), (11, true)], []⟩ [] [0, 1, 2] [(2, .p false (.int .u16) x1), (7, .adr 0 0 2 0), (8, .p false (.slice (.prod (.int .i64) (.prod (.int .i64) (.prod (.int .i64) (.int .u8))))) r12), (9, .adr 1 0 4 0), (10, .p false (.int .i64) r13), (12, .p false (.int .i64) v44), (14, .p false (.int .i64) v45), (16, .p false (.int .i64) v59), (17, .p false (.int .i64) r171), (34, .p false (.slice (.prod (.int .i64) (.prod (.int .i64) (.prod (.int .i64) (.int .u8))))) r12), (35, .p false (.int .i64) (r12.length : Int)), (36, .p false (.int .i64) v44), (87, .p false .bool true)] [(0, .box [.p false (.slice (.prod (.int .i64) (.prod (.int .i64) (.prod (.int .i64) (.int .u8))))) r11.1, .p false (.slice (.int .u8)) r11.2]), (1, .box [.p false (.slice (.prod (.int .i64) (.prod (.int .i64) (.prod (.int .i64) (.int .u8))))) r15, .p false (.slice (.int .u8)) r16, .p false (.slice (.prod (.int .i64) (.prod (.int .i64) (.prod (.int .i64) (.int .u8))))) r17, .sl 2]), (2, .arr 46 (.slice (.int .i64)) r18)] 3 0 [True, True, True, (r172 != (0 : Int)) = true, (r172 != (0 : Int)) = true, (r172 != (0 : Int)) = true, (r172 != (0 : Int)) = true, True, true = true, true = true, true = true, true = true] (by kernel_rfl) (by kernel_rfl) ⟨trivial, trivial, trivial, hb171, hb171, hb171, hb171, trivial, rfl, rfl, rfl, rfl, trivial⟩ ?_
                    obtain rfl := Option.some.inj h
                    exact postN_to (goal_le (gs := []) (f := [0, 1, 2]) (by kernel_rfl) (by kernel_rfl))
                  · replace h := h_else hb171 h
                    rcases Bool.eq_false_or_eq_true (decide (r171 < v58)) with hb172 | hb172
                    · replace h := h_if hb172 h
                      refine W_reg tbok ⟨[(2, false), (6, false), (7, true), (11, true)], []⟩ [] [0, 1, 2] [(2, .p false (.int .u16) x1), (7, .adr 0 0 2 0), (8, .p false (.slice (.prod (.int .i64) (.prod (.int .i64) (.prod (.int .i64) (.int .u8))))) r12), (9, .adr 1 0 4 0), (10, .p false (.int .i64) r13), (12, .p false (.int .i64) v44), (14, .p false (.int .i64) v45), (16, .p false (.int .i64) v59), (17, .p false (.int .i64) r171), (34, .p false (.slice (.prod (.int .i64) (.prod (.int .i64) (.prod (.int .i64) (.int .u8))))) r12), (35, .p false (.int .i64) (r12.length : Int)), (36, .p false (.int .i64) v44), (87, .p false .bool true)] [(0, .box [.p false (.slice (.prod (.int .i64) (.prod (.int .i64) (.prod (.int .i64) (.int .u8))))) r11.1, .p false (.slice (.int .u8)) r11.2]), (1, .box [.p false (.slice (.prod (.int .i64) (.prod (.int .i64) (.prod (.int .i64) (.int .u8))))) r15, .p false (.slice (.int .u8)) r16, .p false (.slice (.prod (.int .i64) (.prod (.int .i64) (.prod (.int .i64) (.int .u8))))) r17, .sl 2]), (2, .arr 46 (.slice (.int .i64)) r18)] 3 0 [True, True, True, (r172 != (0 : Int)) = false ∧ True, (r172 != (0 : Int)) = false ∧ True, (r172 != (0 : Int)) = false ∧ True, (r172 != (0 : Int)) = false, True, (decide (r171 < v58)) = true, (decide (r171 < v58)) = true, (decide (r171 < v58)) = true, (decide (r171 < v58)) = true] (by kernel_rfl) (by kernel_rfl) ⟨trivial, trivial, trivial, ⟨hb171, trivial⟩, ⟨hb171, trivial⟩, ⟨hb171, trivial⟩, hb171, trivial, hb172, hb172, hb172, hb172, trivial⟩ ?_
                      obtain rfl := Option.some.inj h
                      exact postN_to (goal_le (gs := []) (f := [0, 1, 2]) (by kernel_rfl) (by kernel_rfl))
                    · replace h := h_else hb172 h
                      refine W_reg tbok ⟨[(2, false), (6, false), (7, false), (11, false)], []⟩ [] [0, 1, 2] [(2, .p false (.int .u16) x1), (7, .adr 0 0 2 0), (8, .p false (.slice (.prod (.int .i64) (.prod (.int .i64) (.prod (.int .i64) (.int .u8))))) r12), (9, .adr 1 0 4 0), (10, .p false (.int .i64) r13), (12, .p false (.int .i64) v44), (14, .p false (.int .i64) v45), (16, .p false (.int .i64) v59), (17, .p false (.int .i64) r171), (34, .p false (.slice (.prod (.int .i64) (.prod (.int .i64) (.prod (.int .i64) (.int .u8))))) r12), (35, .p false (.int .i64) (r12.length : Int)), (36, .p false (.int .i64) v44), (87, .p false .bool (decide (r171 > v45)))] [(0, .box [.p false (.slice (.prod (.int .i64) (.prod (.int .i64) (.prod (.int .i64) (.int .u8))))) r11.1, .p false (.slice (.int .u8)) r11.2]), (1, .box [.p false (.slice (.prod (.int .i64) (.prod (.int .i64) (.prod (.int .i64) (.int .u8))))) r15, .p false (.slice (.int .u8)) r16, .p false (.slice (.prod (.int .i64) (.prod (.int .i64) (.prod (.int .i64) (.int .u8))))) r17, .sl 2]), (2, .arr 46 (.slice (.int .i64)) r18)] 3 0 [True, True, True, (r172 != (0 : Int)) = false ∧ True, (r172 != (0 : Int)) = false ∧ True, (r172 != (0 : Int)) = false ∧ True, (r172 != (0 : Int)) = false, True, (decide (r171 < v58)) = false ∧ True, (decide (r171 < v58)) = false ∧ True, (decide (r171 < v58)) = false ∧ True, (decide (r171 < v58)) = false] (by kernel_rfl) (by kernel_rfl) ⟨trivial, trivial, trivial, ⟨hb171, trivial⟩, ⟨hb171, trivial⟩, ⟨hb171, trivial⟩, hb171, trivial, ⟨hb172, trivial⟩, ⟨hb172, trivial⟩, ⟨hb172, trivial⟩, hb172, trivial⟩ ?_
                      obtain rfl := Option.some.inj h
                      exact postN_to (goal_le (gs := []) (f := [0, 1, 2]) (by kernel_rfl) (by kernel_rfl))
                · clear hp32
                  obtain ⟨rfl, hle⟩ := hq
                  refine use_to ?_ hle
                  refine to_then ?_
                  refine W_cond (b := v60) (β := false) (by kernel_rfl) (fun hb173 => ?_) (fun hb173 => ?_)
                  · replace h := h_if hb173 h
                    refine W_seq ?_
                    refine W_reg tbok ⟨[], []⟩ [] [] [(6, .p false .bool false)] [] 0 0 [True] (by kernel_rfl) (by kernel_rfl) ⟨trivial, trivial⟩ ?_
                    refine to_then ?_
                    refine W_ret ?_
                    obtain rfl := Option.some.inj h
                    refine thenQ_ret ?_
                    refine blockQ_ret ?_
                    refine thenQ_ret ?_
                    refine round_ret ?_
                    refine postS_rr ?_
                    exact postR_mk (Ret_intro [.bool] (by kernel_rfl))
                  · replace h := h_else hb173 h
                    refine W_skip_to ?_
                    refine to_then ?_
                    refine W_seq ?_
                    refine W_seq ?_
                    obtain ⟨r185, hp33, h⟩ := h_bind h
                    refine W.mono (Q := (postN Try.f8.ntmps (fun ((v61, v62, v63) : Int × Int × Int) => mkSt [(2, .p false (.int .u16) x1), (7, .adr 0 0 2 0), (8, .p false (.slice (.prod (.int .i64) (.prod (.int .i64) (.prod (.int .i64) (.int .u8))))) r12), (9, .adr 1 0 4 0), (10, .p false (.int .i64) r13), (12, .p false (.int .i64) v44), (14, .p false (.int .i64) v45), (16, .p false (.int .i64) v59), (17, .p false (.int .i64) r171), (19, .adr 3 0 2 0), (20, .p false (.int .i64) v63), (34, .p false (.slice (.prod (.int .i64) (.prod (.int .i64) (.prod (.int .i64) (.int .u8))))) r12), (35, .p false (.int .i64) (r12.length : Int)), (36, .p false (.int .i64) v44)] [(0, .box [.p false (.slice (.prod (.int .i64) (.prod (.int .i64) (.prod (.int .i64) (.int .u8))))) r11.1, .p false (.slice (.int .u8)) r11.2]), (1, .box [.p false (.slice (.prod (.int .i64) (.prod (.int .i64) (.prod (.int .i64) (.int .u8))))) r15, .p false (.slice (.int .u8)) r16, .p false (.slice (.prod (.int .i64) (.prod (.int .i64) (.prod (.int .i64) (.int .u8))))) r17, .sl 2]), (2, .arr 46 (.slice (.int .i64)) r18), (3, .box [.p false (.int .i64) v61, .p false (.int .i64) v62])] 4)) r185) ?_ (fun e σ' hq => ?_)
                    · replace h := hp33
                      clear hp33
                      rcases Bool.eq_false_or_eq_true (r171 == v45) with hb176 | hb176
                      · replace h := h_if hb176 h
                        obtain ⟨⟨r181, r182⟩, q79, h⟩ := h_bind h
                        refine W_reg tbok ⟨[(5, true), (11, true)], [(12, ⟨.tup [.agg [.p false (.int .i64) r181.1, .p false (.int .i64) r181.2], .p false (.int .i64) r182], [false, false, false], false, [true, true, true], [], []⟩)]⟩ [] [0, 1, 2, 131] [(2, .p false (.int .u16) x1), (7, .adr 0 0 2 0), (8, .p false (.slice (.prod (.int .i64) (.prod (.int .i64) (.prod (.int .i64) (.int .u8))))) r12), (9, .adr 1 0 4 0), (10, .p false (.int .i64) r13), (12, .p false (.int .i64) v44), (14, .p false (.int .i64) v45), (16, .p false (.int .i64) v59), (17, .p false (.int .i64) r171), (19, .adr 3 0 2 0), (20, .p false (.int .i64) r182), (34, .p false (.slice (.prod (.int .i64) (.prod (.int .i64) (.prod (.int .i64) (.int .u8))))) r12), (35, .p false (.int .i64) (r12.length : Int)), (36, .p false (.int .i64) v44)] [(0, .box [.p false (.slice (.prod (.int .i64) (.prod (.int .i64) (.prod (.int .i64) (.int .u8))))) r11.1, .p false (.slice (.int .u8)) r11.2]), (1, .box [.p false (.slice (.prod (.int .i64) (.prod (.int .i64) (.prod (.int .i64) (.int .u8))))) r15, .p false (.slice (.int .u8)) r16, .p false (.slice (.prod (.int .i64) (.prod (.int .i64) (.prod (.int .i64) (.int .u8))))) r17, .sl 2]), (2, .arr 46 (.slice (.int .i64)) r18), (3, .box [.p false (.int .i64) r181.1, .p false (.int .i64) r181.2])] 4 0 [True, True, True, True, True, True, (r171 == v45) = true ∧ True, (r171 == v45) = true ∧ True, (r171 == v45) = true ∧ True, (r171 == v45) = true ∧ True, (r171 == v45) = true ∧ True, (r171 == v45) = true, Pure Try.prog 11 [.fad true [.p false (.slice (.prod (.int .i64) (.prod (.int .i64) (.prod (.int .i64) (.int .u8))))) r15, .p false (.slice (.int .u8)) r16, .p false (.slice (.prod (.int .i64) (.prod (.int .i64) (.prod (.int .i64) (.int .u8))))) r17, .p true (.slice (.slice (.int .i64))) r18] 0, .p false (.int .i64) r171, .p false .bool (decide (v44 < (IntKind.i64.wrap ((r12.length : Int) - (1 : Int)))))] (.tup [.agg [.p false (.int .i64) r181.1, .p false (.int .i64) r181.2], .p false (.int .i64) r182]), True, True, True, True, True, True] (by kernel_rfl) (by kernel_rfl) ⟨trivial, trivial, trivial, trivial, trivial, trivial, ⟨hb176, trivial⟩, ⟨hb176, trivial⟩, ⟨hb176, trivial⟩, ⟨hb176, trivial⟩, ⟨hb176, trivial⟩, hb176, (place_Map_Spot_ok false false false true r15 r16 r17 r18 r171 (decide (v44 < (IntKind.i64.wrap ((r12.length : Int) - (1 : Int))))) _ q79), trivial, trivial, trivial, trivial, trivial, trivial, trivial⟩ ?_
                        obtain rfl := Option.some.inj h
                        exact postN_to (goal_le (gs := []) (f := [0, 1, 2, 3]) (by kernel_rfl) (by kernel_rfl))
                      · replace h := h_else hb176 h
                        obtain ⟨⟨r183, r184⟩, q80, h⟩ := h_bind h
                        refine W_reg tbok ⟨[(5, false), (11, false)], [(12, ⟨.tup [.agg [.p false (.int .i64) r183.1, .p false (.int .i64) r183.2], .p false (.int .i64) r184], [false, false, false], false, [true, true, true], [], []⟩)]⟩ [] [0, 1, 2, 131] [(2, .p false (.int .u16) x1), (7, .adr 0 0 2 0), (8, .p false (.slice (.prod (.int .i64) (.prod (.int .i64) (.prod (.int .i64) (.int .u8))))) r12), (9, .adr 1 0 4 0), (10, .p false (.int .i64) r13), (12, .p false (.int .i64) v44), (14, .p false (.int .i64) v45), (16, .p false (.int .i64) v59), (17, .p false (.int .i64) r171), (19, .adr 3 0 2 0), (20, .p false (.int .i64) r184), (34, .p false (.slice (.prod (.int .i64) (.prod (.int .i64) (.prod (.int .i64) (.int .u8))))) r12), (35, .p false (.int .i64) (r12.length : Int)), (36, .p false (.int .i64) v44)] [(0, .box [.p false (.slice (.prod (.int .i64) (.prod (.int .i64) (.prod (.int .i64) (.int .u8))))) r11.1, .p false (.slice (.int .u8)) r11.2]), (1, .box [.p false (.slice (.prod (.int .i64) (.prod (.int .i64) (.prod (.int .i64) (.int .u8))))) r15, .p false (.slice (.int .u8)) r16, .p false (.slice (.prod (.int .i64) (.prod (.int .i64) (.prod (.int .i64) (.int .u8))))) r17, .sl 2]), (2, .arr 46 (.slice (.int .i64)) r18), (3, .box [.p false (.int .i64) r183.1, .p false (.int .i64) r183.2])] 4 0 [True, True, True, True, True, True, (r171 == v45) = false, (r171 == v45) = false, (r171 == v45) = false, (r171 == v45) = false, (r171 == v45) = false, (r171 == v45) = false, Pure Try.prog 11 [.fad true [.p false (.slice (.prod (.int .i64) (.prod (.int .i64) (.prod (.int .i64) (.int .u8))))) r15, .p false (.slice (.int .u8)) r16, .p false (.slice (.prod (.int .i64) (.prod (.int .i64) (.prod (.int .i64) (.int .u8))))) r17, .p true (.slice (.slice (.int .i64))) r18] 0, .p false (.int .i64) r171, .p false .bool false] (.tup [.agg [.p false (.int .i64) r183.1, .p false (.int .i64) r183.2], .p false (.int .i64) r184]), True, True, True, True, True, True] (by kernel_rfl) (by kernel_rfl) ⟨trivial, trivial, trivial, trivial, trivial, trivial, hb176, hb176, hb176, hb176, hb176, hb176, (place_Map_Spot_ok false false false true r15 r16 r17 r18 r171 false _ q80), trivial, trivial, trivial, trivial, trivial, trivial, trivial⟩ ?_
                        obtain rfl := Option.some.inj h
                        exact postN_to (goal_le (gs := []) (f := [0, 1, 2, 3]) (by kernel_rfl) (by kernel_rfl))
                    · clear hp33
                      obtain ⟨v61, v62, v63⟩ := r185
                      obtain ⟨rfl, hle⟩ := hq
                      refine use_to ?_ hle
                      refine to_then ?_
                      refine W_seq ?_
                      obtain ⟨v64, hp34, h⟩ := h_bind h
                      refine W.mono (Q := (postN Try.f8.ntmps (fun (v64 : Bool) => mkSt [(2, .p false (.int .u16) x1), (7, .adr 0 0 2 0), (8, .p false (.slice (.prod (.int .i64) (.prod (.int .i64) (.prod (.int .i64) (.int .u8))))) r12), (9, .adr 1 0 4 0), (10, .p false (.int .i64) r13), (12, .p false (.int .i64) v44), (14, .p false (.int .i64) v45), (16, .p false (.int .i64) v59), (17, .p false (.int .i64) r171), (34, .p false (.slice (.prod (.int .i64) (.prod (.int .i64) (.prod (.int .i64) (.int .u8))))) r12), (35, .p false (.int .i64) (r12.length : Int)), (36, .p false (.int .i64) v44), (117, .p false .bool v64)] [(0, .box [.p false (.slice (.prod (.int .i64) (.prod (.int .i64) (.prod (.int .i64) (.int .u8))))) r11.1, .p false (.slice (.int .u8)) r11.2]), (1, .box [.p false (.slice (.prod (.int .i64) (.prod (.int .i64) (.prod (.int .i64) (.int .u8))))) r15, .p false (.slice (.int .u8)) r16, .p false (.slice (.prod (.int .i64) (.prod (.int .i64) (.prod (.int .i64) (.int .u8))))) r17, .sl 2]), (2, .arr 46 (.slice (.int .i64)) r18)] 3)) v64) ?_ (fun e σ' hq => ?_)
                      · replace h := hp34
                        clear hp34
                        rcases Bool.eq_false_or_eq_true (v63 != (0 : Int)) with hb181 | hb181
                        · replace h := h_if hb181 h
                          refine W_reg tbok ⟨[(2, true), (7, true), (8, true), (13, true)], []⟩ [] [0, 1, 2] [(2, .p false (.int .u16) x1), (7, .adr 0 0 2 0), (8, .p false (.slice (.prod (.int .i64) (.prod (.int .i64) (.prod (.int .i64) (.int .u8))))) r12), (9, .adr 1 0 4 0), (10, .p false (.int .i64) r13), (12, .p false (.int .i64) v44), (14, .p false (.int .i64) v45), (16, .p false (.int .i64) v59), (17, .p false (.int .i64) r171), (34, .p false (.slice (.prod (.int .i64) (.prod (.int .i64) (.prod (.int .i64) (.int .u8))))) r12), (35, .p false (.int .i64) (r12.length : Int)), (36, .p false (.int .i64) v44), (117, .p false .bool true)] [(0, .box [.p false (.slice (.prod (.int .i64) (.prod (.int .i64) (.prod (.int .i64) (.int .u8))))) r11.1, .p false (.slice (.int .u8)) r11.2]), (1, .box [.p false (.slice (.prod (.int .i64) (.prod (.int .i64) (.prod (.int .i64) (.int .u8))))) r15, .p false (.slice (.int .u8)) r16, .p false (.slice (.prod (.int .i64) (.prod (.int .i64) (.prod (.int .i64) (.int .u8))))) r17, .sl 2]), (2, .arr 46 (.slice (.int .i64)) r18)] 3 0 [True, True, True, (v63 != (0 : Int)) = true, (v63 != (0 : Int)) = true, (v63 != (0 : Int)) = true, (v63 != (0 : Int)) = true, (v63 != (0 : Int)) = true, True, true = true, true = true, true = true, true = true, true = true] (by kernel_rfl) (by kernel_rfl) ⟨trivial, trivial, trivial, hb181, hb181, hb181, hb181, hb181, trivial, rfl, rfl, rfl, rfl, rfl, trivial⟩ ?_
                          obtain rfl := Option.some.inj h
                          exact postN_to (goal_le (gs := []) (f := [0, 1, 2]) (by kernel_rfl) (by kernel_rfl))
                        · replace h := h_else hb181 h
                          rcases Bool.eq_false_or_eq_true (v61 != v44) with hb182 | hb182
                          · replace h := h_if hb182 h
                            refine W_reg tbok ⟨[(2, false), (7, false), (8, true), (13, true)], []⟩ [] [0, 1, 2] [(2, .p false (.int .u16) x1), (7, .adr 0 0 2 0), (8, .p false (.slice (.prod (.int .i64) (.prod (.int .i64) (.prod (.int .i64) (.int .u8))))) r12), (9, .adr 1 0 4 0), (10, .p false (.int .i64) r13), (12, .p false (.int .i64) v44), (14, .p false (.int .i64) v45), (16, .p false (.int .i64) v59), (17, .p false (.int .i64) r171), (34, .p false (.slice (.prod (.int .i64) (.prod (.int .i64) (.prod (.int .i64) (.int .u8))))) r12), (35, .p false (.int .i64) (r12.length : Int)), (36, .p false (.int .i64) v44), (117, .p false .bool true)] [(0, .box [.p false (.slice (.prod (.int .i64) (.prod (.int .i64) (.prod (.int .i64) (.int .u8))))) r11.1, .p false (.slice (.int .u8)) r11.2]), (1, .box [.p false (.slice (.prod (.int .i64) (.prod (.int .i64) (.prod (.int .i64) (.int .u8))))) r15, .p false (.slice (.int .u8)) r16, .p false (.slice (.prod (.int .i64) (.prod (.int .i64) (.prod (.int .i64) (.int .u8))))) r17, .sl 2]), (2, .arr 46 (.slice (.int .i64)) r18)] 3 0 [True, True, True, (v63 != (0 : Int)) = false ∧ True, (v63 != (0 : Int)) = false ∧ True, (v63 != (0 : Int)) = false ∧ True, (v63 != (0 : Int)) = false ∧ True, (v63 != (0 : Int)) = false, True, (v61 != v44) = true, (v61 != v44) = true, (v61 != v44) = true, (v61 != v44) = true, (v61 != v44) = true] (by kernel_rfl) (by kernel_rfl) ⟨trivial, trivial, trivial, ⟨hb181, trivial⟩, ⟨hb181, trivial⟩, ⟨hb181, trivial⟩, ⟨hb181, trivial⟩, hb181, trivial, hb182, hb182, hb182, hb182, hb182, trivial⟩ ?_
                            obtain rfl := Option.some.inj h
                            exact postN_to (goal_le (gs := []) (f := [0, 1, 2]) (by kernel_rfl) (by kernel_rfl))
                          · replace h := h_else hb182 h
                            refine W_reg tbok ⟨[(2, false), (7, false), (8, false), (13, false)], []⟩ [] [0, 1, 2] [(2, .p false (.int .u16) x1), (7, .adr 0 0 2 0), (8, .p false (.slice (.prod (.int .i64) (.prod (.int .i64) (.prod (.int .i64) (.int .u8))))) r12), (9, .adr 1 0 4 0), (10, .p false (.int .i64) r13), (12, .p false (.int .i64) v44), (14, .p false (.int .i64) v45), (16, .p false (.int .i64) v59), (17, .p false (.int .i64) r171), (34, .p false (.slice (.prod (.int .i64) (.prod (.int .i64) (.prod (.int .i64) (.int .u8))))) r12), (35, .p false (.int .i64) (r12.length : Int)), (36, .p false (.int .i64) v44), (117, .p false .bool (decide (v62 > v59)))] [(0, .box [.p false (.slice (.prod (.int .i64) (.prod (.int .i64) (.prod (.int .i64) (.int .u8))))) r11.1, .p false (.slice (.int .u8)) r11.2]), (1, .box [.p false (.slice (.prod (.int .i64) (.prod (.int .i64) (.prod (.int .i64) (.int .u8))))) r15, .p false (.slice (.int .u8)) r16, .p false (.slice (.prod (.int .i64) (.prod (.int .i64) (.prod (.int .i64) (.int .u8))))) r17, .sl 2]), (2, .arr 46 (.slice (.int .i64)) r18)] 3 0 [True, True, True, (v63 != (0 : Int)) = false ∧ True, (v63 != (0 : Int)) = false ∧ True, (v63 != (0 : Int)) = false ∧ True, (v63 != (0 : Int)) = false ∧ True, (v63 != (0 : Int)) = false, True, (v61 != v44) = false ∧ True, (v61 != v44) = false ∧ True, (v61 != v44) = false ∧ True, (v61 != v44) = false ∧ True, (v61 != v44) = false] (by kernel_rfl) (by kernel_rfl) ⟨trivial, trivial, trivial, ⟨hb181, trivial⟩, ⟨hb181, trivial⟩, ⟨hb181, trivial⟩, ⟨hb181, trivial⟩, hb181, trivial, ⟨hb182, trivial⟩, ⟨hb182, trivial⟩, ⟨hb182, trivial⟩, ⟨hb182, trivial⟩, hb182, trivial⟩ ?_
                            obtain rfl := Option.some.inj h
                            exact postN_to (goal_le (gs := []) (f := [0, 1, 2]) (by kernel_rfl) (by kernel_rfl))
                      · clear hp34
                        obtain ⟨rfl, hle⟩ := hq
                        refine use_to ?_ hle
                        refine to_then ?_
                        refine W_cond (b := v64) (β := false) (by kernel_rfl) (fun hb183 => ?_) (fun hb183 => ?_)
                        · replace h := h_if hb183 h
                          refine W_seq ?_
                          refine W_reg tbok ⟨[], []⟩ [] [] [(6, .p false .bool false)] [] 0 0 [True] (by kernel_rfl) (by kernel_rfl) ⟨trivial, trivial⟩ ?_
                          refine to_then ?_
                          refine W_ret ?_
                          obtain rfl := Option.some.inj h
                          refine thenQ_ret ?_
                          refine blockQ_ret ?_
                          refine thenQ_ret ?_
                          refine round_ret ?_
                          refine postS_rr ?_
                          exact postR_mk (Ret_intro [.bool] (by kernel_rfl))
                        · replace h := h_else hb183 h
                          refine W_skip_to ?_
                          refine to_then ?_
                          refine W_reg tbok ⟨[], []⟩ [] [0, 1, 2] [(2, .p false (.int .u16) x1), (7, .adr 0 0 2 0), (8, .p false (.slice (.prod (.int .i64) (.prod (.int .i64) (.prod (.int .i64) (.int .u8))))) r12), (9, .adr 1 0 4 0), (10, .p false (.int .i64) r13), (12, .p false (.int .i64) v44), (14, .p false (.int .i64) v45), (15, .p false (.int .i64) r171), (16, .p false (.int .i64) v59), (34, .p false (.slice (.prod (.int .i64) (.prod (.int .i64) (.prod (.int .i64) (.int .u8))))) r12), (35, .p false (.int .i64) (r12.length : Int)), (36, .p false (.int .i64) v44)] [(0, .box [.p false (.slice (.prod (.int .i64) (.prod (.int .i64) (.prod (.int .i64) (.int .u8))))) r11.1, .p false (.slice (.int .u8)) r11.2]), (1, .box [.p false (.slice (.prod (.int .i64) (.prod (.int .i64) (.prod (.int .i64) (.int .u8))))) r15, .p false (.slice (.int .u8)) r16, .p false (.slice (.prod (.int .i64) (.prod (.int .i64) (.prod (.int .i64) (.int .u8))))) r17, .sl 2]), (2, .arr 46 (.slice (.int .i64)) r18)] 3 0 [True, True] (by kernel_rfl) (by kernel_rfl) ⟨trivial, trivial, trivial⟩ ?_
                          refine to_block ?_
                          refine to_then ?_
                          refine W_reg tbok ⟨[], []⟩ [] [0, 1, 2] [(2, .p false (.int .u16) x1), (7, .adr 0 0 2 0), (8, .p false (.slice (.prod (.int .i64) (.prod (.int .i64) (.prod (.int .i64) (.int .u8))))) r12), (9, .adr 1 0 4 0), (10, .p false (.int .i64) r13), (12, .p false (.int .i64) v44), (14, .p false (.int .i64) v45), (15, .p false (.int .i64) r171), (16, .p false (.int .i64) (IntKind.i64.wrap (v59 + (1 : Int)))), (34, .p false (.slice (.prod (.int .i64) (.prod (.int .i64) (.prod (.int .i64) (.int .u8))))) r12), (35, .p false (.int .i64) (r12.length : Int)), (36, .p false (.int .i64) v44)] [(0, .box [.p false (.slice (.prod (.int .i64) (.prod (.int .i64) (.prod (.int .i64) (.int .u8))))) r11.1, .p false (.slice (.int .u8)) r11.2]), (1, .box [.p false (.slice (.prod (.int .i64) (.prod (.int .i64) (.prod (.int .i64) (.int .u8))))) r15, .p false (.slice (.int .u8)) r16, .p false (.slice (.prod (.int .i64) (.prod (.int .i64) (.prod (.int .i64) (.int .u8))))) r17, .sl 2]), (2, .arr 46 (.slice (.int .i64)) r18)] 3 0 [True, True, True] (by kernel_rfl) (by kernel_rfl) ⟨trivial, trivial, trivial, trivial⟩ ?_
                          obtain rfl := Option.some.inj h
                          exact roundB (goal_le (gs := []) (f := [0, 1, 2]) (by kernel_rfl) (by kernel_rfl))
              · replace h := h_else hb166 h
                refine W_exit_to ?_
                refine thenE ?_
                obtain rfl := Option.some.inj h
                refine roundE ?_
                refine postS_l ?_
                exact postX_to (goal_le (gs := []) (f := [0, 1, 2]) (by kernel_rfl) (by kernel_rfl))
            · clear hp35
              rcases r186 with _ | r168
              · obtain ⟨rfl, hle⟩ := hq
                refine use_to ?_ hle
                refine blockE_eq ?_
                refine to_then ?_
                refine W_seq ?_
                obtain ⟨⟨r189, r190⟩, q82, h⟩ := h_bind h
                refine W_reg tbok ⟨[], [(6, ⟨.tup [.p false (.int .i64) r189, .p false (.int .i64) r190], [false, false], false, [true, true], [], []⟩)]⟩ [] [0, 1, 2] [(2, .p false (.int .u16) x1), (7, .adr 0 0 2 0), (8, .p false (.slice (.prod (.int .i64) (.prod (.int .i64) (.prod (.int .i64) (.int .u8))))) r12), (9, .adr 1 0 4 0), (10, .p false (.int .i64) r13), (14, .p false (.int .i64) v45), (21, .p false (.int .i64) r189), (22, .p false (.int .i64) r190), (34, .p false (.slice (.prod (.int .i64) (.prod (.int .i64) (.prod (.int .i64) (.int .u8))))) r12), (35, .p false (.int .i64) (r12.length : Int)), (36, .p false (.int .i64) v44)] [(0, .box [.p false (.slice (.prod (.int .i64) (.prod (.int .i64) (.prod (.int .i64) (.int .u8))))) r11.1, .p false (.slice (.int .u8)) r11.2]), (1, .box [.p false (.slice (.prod (.int .i64) (.prod (.int .i64) (.prod (.int .i64) (.int .u8))))) r15, .p false (.slice (.int .u8)) r16, .p false (.slice (.prod (.int .i64) (.prod (.int .i64) (.prod (.int .i64) (.int .u8))))) r17, .sl 2]), (2, .arr 46 (.slice (.int .i64)) r18)] 3 0 [True, True, True, True, True, True, Pure Try.prog 12 [.fad true [.p false (.slice (.prod (.int .i64) (.prod (.int .i64) (.prod (.int .i64) (.int .u8))))) r15, .p false (.slice (.int .u8)) r16, .p false (.slice (.prod (.int .i64) (.prod (.int .i64) (.prod (.int .i64) (.int .u8))))) r17, .p true (.slice (.slice (.int .i64))) r18] 0, .agg [.p false (.int .i64) v44, .p false (.int .i64) (IntKind.i64.wrap ((1073741824 : Int) + (IntKind.i64.wrap x1)))]] (.tup [.p false (.int .i64) r189, .p false (.int .i64) r190]), True, True, True, True, True] (by kernel_rfl) (by kernel_rfl) ⟨trivial, trivial, trivial, trivial, trivial, trivial, (place_Map_Byte_ok false false false true r15 r16 r17 r18 v44 (IntKind.i64.wrap ((1073741824 : Int) + (IntKind.i64.wrap x1))) _ q82), trivial, trivial, trivial, trivial, trivial, trivial⟩ ?_
                refine to_then ?_
                refine W_seq ?_
                obtain ⟨v65, hp36, h⟩ := h_bind h
                refine W.mono (Q := (postN Try.f8.ntmps (fun (v65 : Bool) => mkSt [(2, .p false (.int .u16) x1), (7, .adr 0 0 2 0), (8, .p false (.slice (.prod (.int .i64) (.prod (.int .i64) (.prod (.int .i64) (.int .u8))))) r12), (9, .adr 1 0 4 0), (10, .p false (.int .i64) r13), (34, .p false (.slice (.prod (.int .i64) (.prod (.int .i64) (.prod (.int .i64) (.int .u8))))) r12), (35, .p false (.int .i64) (r12.length : Int)), (36, .p false (.int .i64) v44), (135, .p false .bool v65)] [(0, .box [.p false (.slice (.prod (.int .i64) (.prod (.int .i64) (.prod (.int .i64) (.int .u8))))) r11.1, .p false (.slice (.int .u8)) r11.2]), (1, .box [.p false (.slice (.prod (.int .i64) (.prod (.int .i64) (.prod (.int .i64) (.int .u8))))) r15, .p false (.slice (.int .u8)) r16, .p false (.slice (.prod (.int .i64) (.prod (.int .i64) (.prod (.int .i64) (.int .u8))))) r17, .sl 2]), (2, .arr 46 (.slice (.int .i64)) r18)] 3)) v65) ?_ (fun e σ' hq => ?_)
                · replace h := hp36
                  clear hp36
                  rcases Bool.eq_false_or_eq_true (r190 != (0 : Int)) with hb186 | hb186
                  · replace h := h_if hb186 h
                    refine W_reg tbok ⟨[(2, true), (6, true)], []⟩ [] [0, 1, 2] [(2, .p false (.int .u16) x1), (7, .adr 0 0 2 0), (8, .p false (.slice (.prod (.int .i64) (.prod (.int .i64) (.prod (.int .i64) (.int .u8))))) r12), (9, .adr 1 0 4 0), (10, .p false (.int .i64) r13), (34, .p false (.slice (.prod (.int .i64) (.prod (.int .i64) (.prod (.int .i64) (.int .u8))))) r12), (35, .p false (.int .i64) (r12.length : Int)), (36, .p false (.int .i64) v44), (135, .p false .bool true)] [(0, .box [.p false (.slice (.prod (.int .i64) (.prod (.int .i64) (.prod (.int .i64) (.int .u8))))) r11.1, .p false (.slice (.int .u8)) r11.2]), (1, .box [.p false (.slice (.prod (.int .i64) (.prod (.int .i64) (.prod (.int .i64) (.int .u8))))) r15, .p false (.slice (.int .u8)) r16, .p false (.slice (.prod (.int .i64) (.prod (.int .i64) (.prod (.int .i64) (.int .u8))))) r17, .sl 2]), (2, .arr 46 (.slice (.int .i64)) r18)] 3 0 [True, True, True, (r190 != (0 : Int)) = true, (r190 != (0 : Int)) = true, (r190 != (0 : Int)) = true, (r190 != (0 : Int)) = true] (by kernel_rfl) (by kernel_rfl) ⟨trivial, trivial, trivial, hb186, hb186, hb186, hb186, trivial⟩ ?_
                    obtain rfl := Option.some.inj h
                    exact postN_to (goal_le (gs := []) (f := [0, 1, 2]) (by kernel_rfl) (by kernel_rfl))
                  · replace h := h_else hb186 h
                    refine W_reg tbok ⟨[(2, false), (6, false)], []⟩ [] [0, 1, 2] [(2, .p false (.int .u16) x1), (7, .adr 0 0 2 0), (8, .p false (.slice (.prod (.int .i64) (.prod (.int .i64) (.prod (.int .i64) (.int .u8))))) r12), (9, .adr 1 0 4 0), (10, .p false (.int .i64) r13), (34, .p false (.slice (.prod (.int .i64) (.prod (.int .i64) (.prod (.int .i64) (.int .u8))))) r12), (35, .p false (.int .i64) (r12.length : Int)), (36, .p false (.int .i64) v44), (135, .p false .bool (r189 != v45))] [(0, .box [.p false (.slice (.prod (.int .i64) (.prod (.int .i64) (.prod (.int .i64) (.int .u8))))) r11.1, .p false (.slice (.int .u8)) r11.2]), (1, .box [.p false (.slice (.prod (.int .i64) (.prod (.int .i64) (.prod (.int .i64) (.int .u8))))) r15, .p false (.slice (.int .u8)) r16, .p false (.slice (.prod (.int .i64) (.prod (.int .i64) (.prod (.int .i64) (.int .u8))))) r17, .sl 2]), (2, .arr 46 (.slice (.int .i64)) r18)] 3 0 [True, True, True, (r190 != (0 : Int)) = false ∧ True, (r190 != (0 : Int)) = false ∧ True, (r190 != (0 : Int)) = false ∧ True, (r190 != (0 : Int)) = false] (by kernel_rfl) (by kernel_rfl) ⟨trivial, trivial, trivial, ⟨hb186, trivial⟩, ⟨hb186, trivial⟩, ⟨hb186, trivial⟩, hb186, trivial⟩ ?_
                    obtain rfl := Option.some.inj h
                    exact postN_to (goal_le (gs := []) (f := [0, 1, 2]) (by kernel_rfl) (by kernel_rfl))
                · clear hp36
                  obtain ⟨rfl, hle⟩ := hq
                  refine use_to ?_ hle
                  refine to_then ?_
                  refine W_cond (b := v65) (β := false) (by kernel_rfl) (fun hb187 => ?_) (fun hb187 => ?_)
                  · replace h := h_if hb187 h
                    refine W_seq ?_
                    refine W_reg tbok ⟨[], []⟩ [] [] [(6, .p false .bool false)] [] 0 0 [True] (by kernel_rfl) (by kernel_rfl) ⟨trivial, trivial⟩ ?_
                    refine to_then ?_
                    refine W_ret ?_
                    obtain rfl := Option.some.inj h
                    refine blockQ_ret ?_
                    refine thenQ_ret ?_
                    refine round_ret ?_
                    refine postS_rr ?_
                    exact postR_mk (Ret_intro [.bool] (by kernel_rfl))
                  · replace h := h_else hb187 h
                    refine W_skip_to ?_
                    refine to_block ?_
                    refine to_then ?_
                    refine W_reg tbok ⟨[], []⟩ [] [0, 1, 2] [(2, .p false (.int .u16) x1), (7, .adr 0 0 2 0), (8, .p false (.slice (.prod (.int .i64) (.prod (.int .i64) (.prod (.int .i64) (.int .u8))))) r12), (9, .adr 1 0 4 0), (10, .p false (.int .i64) r13), (34, .p false (.slice (.prod (.int .i64) (.prod (.int .i64) (.prod (.int .i64) (.int .u8))))) r12), (35, .p false (.int .i64) (r12.length : Int)), (36, .p false (.int .i64) (IntKind.i64.wrap (v44 + (1 : Int))))] [(0, .box [.p false (.slice (.prod (.int .i64) (.prod (.int .i64) (.prod (.int .i64) (.int .u8))))) r11.1, .p false (.slice (.int .u8)) r11.2]), (1, .box [.p false (.slice (.prod (.int .i64) (.prod (.int .i64) (.prod (.int .i64) (.int .u8))))) r15, .p false (.slice (.int .u8)) r16, .p false (.slice (.prod (.int .i64) (.prod (.int .i64) (.prod (.int .i64) (.int .u8))))) r17, .sl 2]), (2, .arr 46 (.slice (.int .i64)) r18)] 3 0 [True, True] (by kernel_rfl) (by kernel_rfl) ⟨trivial, trivial, trivial⟩ ?_
                    obtain rfl := Option.some.inj h
                    exact roundB (goal_le (gs := []) (f := [0, 1, 2]) (by kernel_rfl) (by kernel_rfl))
              · obtain ⟨rfl, hr⟩ := hq
                obtain rfl := Option.some.inj h
                refine blockQ_ret ?_
                refine thenQ_ret ?_
                refine blockQ_ret ?_
                refine thenQ_ret ?_
                refine round_ret ?_
                refine postS_rr ?_
                exact postR_mk hr
      · replace h := h_else hb126 h
        refine W_exit_to ?_
        refine thenE ?_
        obtain rfl := Option.some.inj h
        refine roundE ?_
        refine postS_l ?_
        exact postX_to (goal_le (gs := []) (f := []) (by kernel_rfl) (by kernel_rfl))
    · clear hp37
      rcases r191 with _ | r133
      · obtain ⟨rfl, hle⟩ := hq
        refine use_to ?_ hle
        refine blockE_eq ?_
        refine to_then ?_
        refine W_seq ?_
        refine W_reg tbok ⟨[], []⟩ [] [] [(6, .p false .bool true)] [] 0 0 [True] (by kernel_rfl) (by kernel_rfl) ⟨trivial, trivial⟩ ?_
        refine to_then ?_
        refine W_ret ?_
        obtain rfl := Option.some.inj h
        exact Ret_intro [.bool] (by kernel_rfl)
      · obtain ⟨rfl, hr⟩ := hq
        refine blockQ_ret ?_
        refine thenQ_ret ?_
        obtain rfl := Option.some.inj h
        exact hr

end
end Go.Proofs.Ytdjjifeipeelhaa.T
