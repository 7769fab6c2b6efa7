/- Functions of the program as functions on data, and that the program's own come to them. -/
import Derived.Test.YtjfjigknkhgkdaaTvT03x0
import Derived.Test.YtjfjigknkhgkdaaTvT03xa
import Derived.Test.YtjfjigknkhgkdaaTvT03xb
import Derived.Test.YtjfjigknkhgkdaaTvT03xc1
namespace Go.Proofs.Ytjfjigknkhgkdaa.T
open Go Go.Tv Go.Proofs
noncomputable section
set_option maxRecDepth 100000
set_option maxHeartbeats 4000000
def rq_line_v3_L1 (d1 : List UInt8) (d3 d4 d5 d6 : Int) (o3 : List (Int × Tree × Tree)) : (Int × (List (List UInt8)) × (List Int) × (List (List UInt8)) × (List Int) × Int × Int) → Option ((Int × (List (List UInt8)) × (List Int) × (List (List UInt8)) × (List Int) × Int × Int) ⊕ (Int × (List (List UInt8)) × (List Int) × (List (List UInt8)) × (List Int) × Int × Int)) := fun ((d116, d117, d118, d119, d120, d121, d122) : Int × (List (List UInt8)) × (List Int) × (List (List UInt8)) × (List Int) × Int × Int) =>
  (((if (d121 == (0 : Int)) = true then ((rq_sign_v6 (59 : Int) d1 d116 d3 d4 d5 d6 d121 d122 d117 d118 o3 d119 d120).bind fun ((r765, r766, r767, r768) : Bool × Int × Int × Int) =>
  some ((r766, r767, r768, (!r765))))
  else some ((d116, d121, d122, false)))).bind fun ((d123, d124, d125, v87) : Int × Int × Int × Bool) => (if v87 = true then ((rq_fresh_v5 d1 d123 d3 d4 d5 d6 d124 d125 d117 d118 o3 d119 d120).bind fun ((r775, r776, r777, r778, r779) : (List UInt8) × Int × Int × Int × Int) =>
  (((if (r778 == (0 : Int)) = true then some (((d117.length : Int) == (24 : Int)))
  else some (false))).bind fun (v88 : Bool) => (((if v88 = true then ((rq_bad_v6 (24 : Int) r776 d1 r777 d3 d4 d5 d6 r778 r779 d117 d118 o3 d119 d120).bind fun ((r786, r787) : Int × Int) =>
  some ((r786, r787)))
  else some ((r778, r779)))).bind fun ((d126, d127) : Int × Int) => (if (d126 == (0 : Int)) = true then (if 0 ≤ (d117.length : Int) then ((rq_declare_v5 r775 (IntKind.u32.wrap ((1 : Int) * 2 ^ (min (d117.length : Int).toNat IntKind.u32.bits))) d1 r777 d3 d4 d5 d6 d126 d127 d117 d118 o3 d119 d120).bind fun ((r791, r792) : (List (List UInt8)) × List Int) =>
  (if (d117.length + ([r775] : List (List UInt8)).length) * 16 ≤ 140737488355328 ∧ d117.length + ([r775] : List (List UInt8)).length ≤ 9223372036854775807 then (if (d118.length + ([(d117.length : Int)] : List Int).length) * 8 ≤ 140737488355328 ∧ d118.length + ([(d117.length : Int)] : List Int).length ≤ 9223372036854775807 then some (Sum.inl (r777, (d117 ++ ([r775] : List (List UInt8))), (d118 ++ ([(d117.length : Int)] : List Int)), r791, r792, d126, d127)) else none) else none)) else none)
  else some (Sum.inl (r777, d117, d118, d119, d120, d126, d127))))))
  else some (Sum.inr (d123, d117, d118, d119, d120, d124, d125))))
def rq_line_v3 (d1 : List UInt8) (d2 d3 d4 d5 d6 d7 d8 : Int) (o1 : List (List UInt8)) (o2 : List Int) (o3 : List (Int × Tree × Tree)) (o4 : List (List UInt8)) (o5 : List Int) : Option (Int × (List (List UInt8)) × Int × Int × (List Int) × (List (Int × Tree × Tree)) × (List (List UInt8)) × (List Int) × Int × Int × Int × Int) :=
  ((rq_word_v8 d1 d2 d3 d4 d5 d6 d7 d8 o1 o2 o3 o4 o5).bind fun ((r459, r460, r461, r462, r463) : (List UInt8) × Int × Int × Int × Int) =>
  (((if (r459 == ([99, 108, 97, 115, 115] : List UInt8)) = true then ((iter (rq_line_v3_L1 d1 d3 d4 d5 d6 o3) (r461, o1, o2, o4, o5, r462, r463)).bind fun ((v80, v81, v82, v83, v84, v85, v86) : Int × (List (List UInt8)) × (List Int) × (List (List UInt8)) × (List Int) × Int × Int) => some ((v80, v81, d3, d4, v82, o3, v83, v84, d5, d6, v85, v86)))
  else (if (r459 == ([115, 101, 116] : List UInt8)) = true then ((rq_fresh_v5 d1 r461 d3 d4 d5 d6 r462 r463 o1 o2 o3 o4 o5).bind fun ((r799, r800, r801, r802, r803) : (List UInt8) × Int × Int × Int × Int) =>
  ((rq_want_v3 (61 : Int) d1 r801 d3 d4 d5 d6 r802 r803 o1 o2 o3 o4 o5).bind fun ((r807, r808, r809) : Int × Int × Int) =>
  ((rq_list_v3 (59 : Int) d1 r807 d3 d4 d5 d6 r808 r809 o1 o2 o3 o4 o5).bind fun ((r814, r815, r816, r817) : Int × Int × Int × Int) =>
  (if (r816 == (0 : Int)) = true then ((rq_declare_v5 r799 r814 d1 r815 d3 d4 d5 d6 r816 r817 o1 o2 o3 o4 o5).bind fun ((r820, r821) : (List (List UInt8)) × List Int) =>
  some ((r815, o1, d3, d4, o2, o3, r820, r821, d5, d6, r816, r817)))
  else some ((r815, o1, d3, d4, o2, o3, o4, o5, d5, d6, r816, r817))))))
  else (if (r459 == ([106, 111, 105, 110] : List UInt8)) = true then ((rq_list_v3 (47 : Int) d1 r461 d3 d4 d5 d6 r462 r463 o1 o2 o3 o4 o5).bind fun ((r826, r827, r828, r829) : Int × Int × Int × Int) =>
  ((rq_list_v3 (59 : Int) d1 r827 (bitsOf .or .u32 d3 r826) d4 d5 d6 r828 r829 o1 o2 o3 o4 o5).bind fun ((r834, r835, r836, r837) : Int × Int × Int × Int) =>
  some ((r835, o1, (bitsOf .or .u32 d3 r826), (bitsOf .or .u32 d4 r834), o2, o3, o4, o5, d5, d6, r836, r837))))
  else (if (r459 == ([116, 114, 101, 97, 116] : List UInt8)) = true then ((rq_class_v3 d1 r461 d3 d4 d5 d6 r462 r463 o1 o2 o3 o4 o5).bind fun ((r842, r843, r844, r845) : Int × Int × Int × Int) =>
  ((rq_want_v3 (61 : Int) d1 r843 d3 d4 d5 d6 r844 r845 o1 o2 o3 o4 o5).bind fun ((r849, r850, r851) : Int × Int × Int) =>
  ((rq_class_v3 d1 r849 d3 d4 d5 d6 r850 r851 o1 o2 o3 o4 o5).bind fun ((r856, r857, r858, r859) : Int × Int × Int × Int) =>
  (((if (r858 == (0 : Int)) = true then (if 0 ≤ r842 ∧ r842 < (o2.length : Int) then (if r842.toNat < o2.length then some ((o2.set r842.toNat r856)) else none) else none)
  else some (o2))).bind fun (d128 : List Int) => ((rq_want_v3 (59 : Int) d1 r857 d3 d4 d5 d6 r858 r859 o1 d128 o3 o4 o5).bind fun ((r863, r864, r865) : Int × Int × Int) =>
  some ((r863, o1, d3, d4, d128, o3, o4, o5, d5, d6, r864, r865)))))))
  else (if (r459 == ([107, 101, 101, 112] : List UInt8)) = true then ((rq_rule_v3 (0 : Int) r460 d1 r461 d3 d4 d5 d6 r462 r463 o1 o2 o3 o4 o5).bind fun ((r872, r873, r874, r875, r876, r877) : Int × (List (Int × Tree × Tree)) × Int × Int × Int × Int) =>
  some ((r872, o1, d3, d4, o2, r873, o4, o5, r874, r875, r876, r877)))
  else (if (r459 == ([109, 97, 121] : List UInt8)) = true then ((rq_rule_v3 (1 : Int) r460 d1 r461 d3 d4 d5 d6 r462 r463 o1 o2 o3 o4 o5).bind fun ((r884, r885, r886, r887, r888, r889) : Int × (List (Int × Tree × Tree)) × Int × Int × Int × Int) =>
  some ((r884, o1, d3, d4, o2, r885, o4, o5, r886, r887, r888, r889)))
  else (if (r459 == ([109, 117, 115, 116] : List UInt8)) = true then ((rq_rule_v3 (2 : Int) r460 d1 r461 d3 d4 d5 d6 r462 r463 o1 o2 o3 o4 o5).bind fun ((r896, r897, r898, r899, r900, r901) : Int × (List (Int × Tree × Tree)) × Int × Int × Int × Int) =>
  some ((r896, o1, d3, d4, o2, r897, o4, o5, r898, r899, r900, r901)))
  else ((rq_bad_v6 (21 : Int) r460 d1 r461 d3 d4 d5 d6 r462 r463 o1 o2 o3 o4 o5).bind fun ((r904, r905) : Int × Int) =>
  some ((r461, o1, d3, d4, o2, o3, o4, o5, d5, d6, r904, r905))))))))))).bind fun ((v64, v65, v66, v67, v68, v69, v70, v71, v72, v73, v74, v75) : Int × (List (List UInt8)) × Int × Int × (List Int) × (List (Int × Tree × Tree)) × (List (List UInt8)) × (List Int) × Int × Int × Int × Int) => some (v64, v65, v66, v67, v68, v69, v70, v71, v72, v73, v74, v75)))
theorem rq_line_v3_ok (d1 : List UInt8) (d2 d3 d4 d5 d6 d7 d8 : Int) (o1 : List (List UInt8)) (o2 : List Int) (o3 : List (Int × Tree × Tree)) (o4 : List (List UInt8)) (o5 : List Int) (res : Int × (List (List UInt8)) × Int × Int × (List Int) × (List (Int × Tree × Tree)) × (List (List UInt8)) × (List Int) × Int × Int × Int × Int) (h : rq_line_v3 d1 d2 d3 d4 d5 d6 d7 d8 o1 o2 o3 o4 o5 = some res) :
    Owns Try.prog 27 [.adr 0 0 13 0] (ob61 d1 d2 d3 d4 d5 d6 d7 d8 o1 o2 o3 o4 o5) (.tup []) (ob77 d1 res.1 res.2.2.1 res.2.2.2.1 res.2.2.2.2.2.2.2.2.1 res.2.2.2.2.2.2.2.2.2.1 res.2.2.2.2.2.2.2.2.2.2.1 res.2.2.2.2.2.2.2.2.2.2.2 res.2.1 res.2.2.2.2.1 res.2.2.2.2.2.1 res.2.2.2.2.2.2.1 res.2.2.2.2.2.2.2.1) := by
  refine Owns.of_body tbok Try.func27 (by kernel_rfl) rfl (nl rfl) (fun Bw w0 => ?_)
  unfold rq_line_v3 at h
  obtain ⟨⟨r459, r460, r461, r462, r463⟩, q126, h⟩ := h_bind h
  have u_1 := (rq_word_v8_ok d1 d2 d3 d4 d5 d6 d7 d8 o1 o2 o3 o4 o5 _ q126)
  refine W_rs tbok ⟨[], [(1, ⟨.tup [.st r459, .i64 r460], [false], true, [true], [0, 1, 2, 3, 4, 5], (ob61 d1 r461 d3 d4 d5 d6 r462 r463 o1 o2 o3 o4 o5), none⟩)]⟩ [] [0, 1, 2, 3, 4, 5] [(0, .adr 0 0 13 0), (2, .st r459), (3, .i64 r460)] (ob61 d1 r461 d3 d4 d5 d6 r462 r463 o1 o2 o3 o4 o5) 6 6 (True :: (pO u_1) :: (Ts 5 [])) (by kernel_rfl) ⟨tt, u_1, (tr 5 tt)⟩ ?_
  refine W_rs tbok ⟨[], []⟩ [] [0, 1, 2, 3, 4, 5] [(0, .adr 0 0 13 0), (3, .i64 r460), (19, .st r459)] (ob61 d1 r461 d3 d4 d5 d6 r462 r463 o1 o2 o3 o4 o5) 6 6 [True] (by kernel_rfl) ⟨tt, tt⟩ ?_
  refine W_block ?_
  refine W_rs tbok ⟨[], []⟩ [] [0, 1, 2, 3, 4, 5] [(0, .adr 0 0 13 0), (3, .i64 r460), (19, .st r459), (23, .bo (r459 == ([99, 108, 97, 115, 115] : List UInt8)))] (ob61 d1 r461 d3 d4 d5 d6 r462 r463 o1 o2 o3 o4 o5) 6 6 [True, True] (by kernel_rfl) ⟨tt, tt, tt⟩ ?_
  obtain ⟨r906, hp46, h⟩ := h_bind h
  refine W.mono (Q := (postN Try.f27.ntmps (fun ((v64, v65, v66, v67, v68, v69, v70, v71, v72, v73, v74, v75) : Int × (List (List UInt8)) × Int × Int × (List Int) × (List (Int × Tree × Tree)) × (List (List UInt8)) × (List Int) × Int × Int × Int × Int) => mkSt [] (ob77 d1 v64 v66 v67 v72 v73 v74 v75 v65 v68 v69 v70 v71) 11 6)) r906) ?_ (fun e σ' hq => ?_)
  · replace h := hp46
    clear hp46
    refine W_cond (b := (r459 == ([99, 108, 97, 115, 115] : List UInt8))) (β := false) (by kernel_rfl) (fun hb121 => ?_) (fun hb121 => ?_)
    · replace h := h_if hb121 h
      refine W_block ?_
      obtain ⟨r793, hp44, h⟩ := h_bind h
      refine W.mono (Q := (postX Try.f27.ntmps 1 (fun ((v80, v81, v82, v83, v84, v85, v86) : Int × (List (List UInt8)) × (List Int) × (List (List UInt8)) × (List Int) × Int × Int) => mkSt [] (ob66 d1 v80 d3 d4 d5 d6 v85 v86 o3 v81 v82 v83 v84) 10 6)) r793) (W_iter (f := fun ((d116, d117, d118, d119, d120, d121, d122) : Int × (List (List UInt8)) × (List Int) × (List (List UInt8)) × (List Int) × Int × Int) => mkSt [(0, .adr 0 0 13 0)] (ob66 d1 d116 d3 d4 d5 d6 d121 d122 o3 d117 d118 d119 d120) 10 6) (Q := (postX Try.f27.ntmps 1 (fun ((v80, v81, v82, v83, v84, v85, v86) : Int × (List (List UInt8)) × (List Int) × (List (List UInt8)) × (List Int) × Int × Int) => mkSt [] (ob66 d1 v80 d3 d4 d5 d6 v85 v86 o3 v81 v82 v83 v84) 10 6))) hp44 (gl [] [0, 1, 2, 3, 4, 5, 1, 2, 4, 5] (by kernel_rfl)) (fun y o ho => ?_)) (fun e σ' hq => ?_)
      · obtain ⟨d116, d117, d118, d119, d120, d121, d122⟩ := y
        replace h := ho
        clear ho hp44
        unfold rq_line_v3_L1 at h
        refine W_seq ?_
        refine W_seq ?_
        obtain ⟨r769, hp41, h⟩ := h_bind h
        refine W.mono (Q := (postN Try.f27.ntmps (fun ((d123, d124, d125, v87) : Int × Int × Int × Bool) => mkSt [(0, .adr 0 0 13 0), (34, .bo v87)] (ob66 d1 d123 d3 d4 d5 d6 d124 d125 o3 d117 d118 d119 d120) 10 6)) r769) ?_ (fun e σ' hq => ?_)
        · replace h := hp41
          clear hp41
          rcases bb (d121 == (0 : Int)) with hb144 | hb144
          · replace h := h_if hb144 h
            obtain ⟨⟨r765, r766, r767, r768⟩, q212, h⟩ := h_bind h
            have u_1 := (rq_sign_v6_ok (59 : Int) d1 d116 d3 d4 d5 d6 d121 d122 d117 d118 o3 d119 d120 _ q212)
            refine W_r tbok ⟨[(5, true), (9, true)], [(7, ⟨.bo r765, [false, false], true, [true, true], [0, 6, 7, 3, 8, 9], (ob61 d1 r766 d3 d4 d5 d6 r767 r768 d117 d118 o3 d119 d120), none⟩)]⟩ [] [0, 1, 2, 3, 4, 5, 6, 7, 8, 9] [(0, .adr 0 0 13 0), (34, .bo (!r765))] (ob66 d1 r766 d3 d4 d5 d6 r767 r768 o3 d117 d118 d119 d120) 10 6 (Ts 6 [(d121 == (0 : Int)) = true ∧ True, (d121 == (0 : Int)) = true ∧ pO u_1, (d121 == (0 : Int)) = true ∧ True, (d121 == (0 : Int)) = true]) (by kernel_rfl) (tr 6 ⟨⟨hb144, tt⟩, ⟨hb144, u_1⟩, ⟨hb144, tt⟩, hb144, tt⟩) ?_
            obtain rfl := sI h
            exact postN_to (gl [] [0, 1, 2, 3, 4, 5, 6, 7, 8, 9] (by kernel_rfl))
          replace h := h_else hb144 h
          refine W_r tbok ⟨[(5, false), (9, false)], []⟩ [] [0, 1, 2, 3, 4, 5, 6, 7, 8, 9] [(0, .adr 0 0 13 0), (34, .bo false)] (ob66 d1 d116 d3 d4 d5 d6 d121 d122 o3 d117 d118 d119 d120) 10 6 (Ts 6 [(d121 == (0 : Int)) = false, (d121 == (0 : Int)) = false, (d121 == (0 : Int)) = false, (d121 == (0 : Int)) = false]) (by kernel_rfl) (tr 6 ⟨hb144, hb144, hb144, hb144, tt⟩) ?_
          obtain rfl := sI h
          exact postN_to (gl [] [0, 1, 2, 3, 4, 5, 6, 7, 8, 9] (by kernel_rfl))
        clear hp41
        obtain ⟨d123, d124, d125, v87⟩ := r769
        obtain ⟨rfl, hle⟩ := hq
        refine use_to ?_ hle
        refine to_then ?_
        refine W_cond (b := v87) (β := false) (by kernel_rfl) (fun hb145 => ?_) (fun hb145 => ?_)
        · replace h := h_if hb145 h
          refine W_skip_to ?_
          refine to_then ?_
          refine W_block ?_
          obtain ⟨⟨r775, r776, r777, r778, r779⟩, q214, h⟩ := h_bind h
          have u_1 := (rq_fresh_v5_ok d1 d123 d3 d4 d5 d6 d124 d125 d117 d118 o3 d119 d120 _ q214)
          refine W_rs tbok ⟨[], [(1, ⟨.tup [.st r775, .i64 r776], [false], true, [true], [0, 6, 7, 3, 8, 9], (ob61 d1 r777 d3 d4 d5 d6 r778 r779 d117 d118 o3 d119 d120), none⟩)]⟩ [] [0, 1, 2, 3, 4, 5, 6, 7, 8, 9] [(0, .adr 0 0 13 0), (4, .st r775), (5, .i64 r776)] (ob66 d1 r777 d3 d4 d5 d6 r778 r779 o3 d117 d118 d119 d120) 10 6 (True :: (pO u_1) :: (Ts 5 [])) (by kernel_rfl) ⟨tt, u_1, (tr 5 tt)⟩ ?_
          refine W_seq ?_
          refine W_seq ?_
          obtain ⟨v88, hp42, h⟩ := h_bind h
          refine W.mono (Q := (postN Try.f27.ntmps (fun (v88 : Bool) => mkSt [(0, .adr 0 0 13 0), (4, .st r775), (5, .i64 r776), (53, .bo v88)] (ob66 d1 r777 d3 d4 d5 d6 r778 r779 o3 d117 d118 d119 d120) 10 6)) v88) ?_ (fun e σ' hq => ?_)
          · replace h := hp42
            clear hp42
            rcases bb (r778 == (0 : Int)) with hb148 | hb148
            · replace h := h_if hb148 h
              refine W_r tbok ⟨[(5, true), (13, true)], []⟩ [] [0, 1, 2, 3, 4, 5, 6, 7, 8, 9] [(0, .adr 0 0 13 0), (4, .st r775), (5, .i64 r776), (53, .bo ((d117.length : Int) == (24 : Int)))] (ob66 d1 r777 d3 d4 d5 d6 r778 r779 o3 d117 d118 d119 d120) 10 6 (Ts 6 [(r778 == (0 : Int)) = true ∧ True, (r778 == (0 : Int)) = true ∧ True, (r778 == (0 : Int)) = true ∧ True, (r778 == (0 : Int)) = true ∧ True, (r778 == (0 : Int)) = true ∧ True, (r778 == (0 : Int)) = true ∧ True, (r778 == (0 : Int)) = true ∧ True, (r778 == (0 : Int)) = true]) (by kernel_rfl) (tr 6 ⟨⟨hb148, tt⟩, ⟨hb148, tt⟩, ⟨hb148, tt⟩, ⟨hb148, tt⟩, ⟨hb148, tt⟩, ⟨hb148, tt⟩, ⟨hb148, tt⟩, hb148, tt⟩) ?_
              obtain rfl := sI h
              exact postN_to (gl [] [0, 1, 2, 3, 4, 5, 6, 7, 8, 9] (by kernel_rfl))
            replace h := h_else hb148 h
            refine W_r tbok ⟨[(5, false), (13, false)], []⟩ [] [0, 1, 2, 3, 4, 5, 6, 7, 8, 9] [(0, .adr 0 0 13 0), (4, .st r775), (5, .i64 r776), (53, .bo false)] (ob66 d1 r777 d3 d4 d5 d6 r778 r779 o3 d117 d118 d119 d120) 10 6 (Ts 6 [(r778 == (0 : Int)) = false, (r778 == (0 : Int)) = false, (r778 == (0 : Int)) = false, (r778 == (0 : Int)) = false, (r778 == (0 : Int)) = false, (r778 == (0 : Int)) = false, (r778 == (0 : Int)) = false, (r778 == (0 : Int)) = false]) (by kernel_rfl) (tr 6 ⟨hb148, hb148, hb148, hb148, hb148, hb148, hb148, hb148, tt⟩) ?_
            obtain rfl := sI h
            exact postN_to (gl [] [0, 1, 2, 3, 4, 5, 6, 7, 8, 9] (by kernel_rfl))
          clear hp42
          obtain ⟨rfl, hle⟩ := hq
          refine use_to ?_ hle
          refine to_then ?_
          obtain ⟨r788, hp43, h⟩ := h_bind h
          refine W.mono (Q := (postN Try.f27.ntmps (fun ((d126, d127) : Int × Int) => mkSt [(0, .adr 0 0 13 0), (4, .st r775)] (ob66 d1 r777 d3 d4 d5 d6 d126 d127 o3 d117 d118 d119 d120) 10 6)) r788) ?_ (fun e σ' hq => ?_)
          · replace h := hp43
            clear hp43
            refine W_cond (b := v88) (β := false) (by kernel_rfl) (fun hb150 => ?_) (fun hb150 => ?_)
            · replace h := h_if hb150 h
              obtain ⟨⟨r786, r787⟩, q218, h⟩ := h_bind h
              have u_1 := (rq_bad_v6_ok (24 : Int) r776 d1 r777 d3 d4 d5 d6 r778 r779 d117 d118 o3 d119 d120 _ q218)
              refine W_r tbok ⟨[], [(2, ⟨.tup [], [false, false, false], true, [true, true, true], [0, 6, 7, 3, 8, 9], (ob61 d1 r777 d3 d4 d5 d6 r786 r787 d117 d118 o3 d119 d120), none⟩)]⟩ [] [0, 1, 2, 3, 4, 5, 6, 7, 8, 9] [(0, .adr 0 0 13 0), (4, .st r775)] (ob66 d1 r777 d3 d4 d5 d6 r786 r787 o3 d117 d118 d119 d120) 10 6 [True, True, pO u_1] (by kernel_rfl) ⟨tt, tt, u_1, tt⟩ ?_
              obtain rfl := sI h
              exact postN_to (gl [] [0, 1, 2, 3, 4, 5, 6, 7, 8, 9] (by kernel_rfl))
            replace h := h_else hb150 h
            refine W_skip_to ?_
            obtain rfl := sI h
            exact postN_to (gl [] [0, 1, 2, 3, 4, 5, 6, 7, 8, 9] (by kernel_rfl))
          clear hp43
          obtain ⟨d126, d127⟩ := r788
          obtain ⟨rfl, hle⟩ := hq
          refine use_to ?_ hle
          refine to_then ?_
          refine W_rs tbok ⟨[], []⟩ [] [0, 1, 2, 3, 4, 5, 6, 7, 8, 9] [(0, .adr 0 0 13 0), (4, .st r775), (61, .bo (d126 == (0 : Int)))] (ob66 d1 r777 d3 d4 d5 d6 d126 d127 o3 d117 d118 d119 d120) 10 6 (Ts 5 []) (by kernel_rfl) (tr 5 tt) ?_
          refine W_cond (b := (d126 == (0 : Int))) (β := false) (by kernel_rfl) (fun hb151 => ?_) (fun hb151 => ?_)
          · replace h := h_if hb151 h
            refine W_rs tbok ⟨[], []⟩ [] [0, 1, 2, 3, 4, 5, 6, 7, 8, 9] [(0, .adr 0 0 13 0), (4, .st r775), (6, .i64 (d117.length : Int))] (ob66 d1 r777 d3 d4 d5 d6 d126 d127 o3 d117 d118 d119 d120) 10 6 (Ts 7 []) (by kernel_rfl) (tr 7 tt) ?_
            refine W_seq ?_
            obtain ⟨c92, h⟩ := h_guard h
            obtain ⟨⟨r791, r792⟩, q220, h⟩ := h_bind h
            have u_1 := (rq_declare_v5_ok r775 (IntKind.u32.wrap ((1 : Int) * 2 ^ (min (d117.length : Int).toNat IntKind.u32.bits))) d1 r777 d3 d4 d5 d6 d126 d127 d117 d118 o3 d119 d120 _ q220)
            refine W_r tbok ⟨[], [(4, ⟨.tup [], [false, false, false], true, [true, true, true], [0, 6, 7, 3, 8, 9], (ob64 d1 r777 d3 d4 d5 d6 d126 d127 d117 d118 o3 r791 r792), none⟩)]⟩ [] [0, 1, 2, 3, 4, 5, 6, 7, 42, 43] [(0, .adr 0 0 13 0), (4, .st r775), (6, .i64 (d117.length : Int))] (ob66 d1 r777 d3 d4 d5 d6 d126 d127 o3 d117 d118 r791 r792) 10 6 (Ts 3 [0 ≤ (d117.length : Int), pO u_1]) (by kernel_rfl) (tr 3 ⟨c92, u_1, tt⟩) ?_
            refine to_then ?_
            refine W_seq ?_
            obtain ⟨c94, h⟩ := h_guard h
            refine W_r tbok ⟨[], []⟩ [] [0, 1, 2, 3, 4, 5, 74, 7, 8, 9] [(0, .adr 0 0 13 0), (6, .i64 (d117.length : Int))] (ob66 d1 r777 d3 d4 d5 d6 d126 d127 o3 (d117 ++ ([r775] : List (List UInt8))) d118 r791 r792) 10 6 (Ts 8 (((d117.length + ([r775] : List (List UInt8)).length) * 16 ≤ 140737488355328 ∧ d117.length + ([r775] : List (List UInt8)).length ≤ 9223372036854775807) :: (Ts 4 []))) (by kernel_rfl) (tr 8 ⟨c94, (tr 4 tt)⟩) ?_
            refine to_then ?_
            obtain ⟨c96, h⟩ := h_guard h
            refine W_r tbok ⟨[], []⟩ [] [0, 1, 2, 3, 4, 5, 6, 74, 8, 9] [(0, .adr 0 0 13 0)] (ob66 d1 r777 d3 d4 d5 d6 d126 d127 o3 (d117 ++ ([r775] : List (List UInt8))) (d118 ++ ([(d117.length : Int)] : List Int)) r791 r792) 10 6 (Ts 8 (((d118.length + ([(d117.length : Int)] : List Int).length) * 8 ≤ 140737488355328 ∧ d118.length + ([(d117.length : Int)] : List Int).length ≤ 9223372036854775807) :: (Ts 4 []))) (by kernel_rfl) (tr 8 ⟨c96, (tr 4 tt)⟩) ?_
            refine to_block ?_
            obtain rfl := sI h
            exact roundB (gl [] [0, 1, 2, 3, 4, 5, 6, 7, 8, 9] (by kernel_rfl))
          replace h := h_else hb151 h
          refine W_skip_to ?_
          refine to_block ?_
          obtain rfl := sI h
          exact roundB (gl [] [0, 1, 2, 3, 4, 5, 6, 7, 8, 9] (by kernel_rfl))
        replace h := h_else hb145 h
        refine W_exit_to ?_
        refine thenE ?_
        obtain rfl := sI h
        refine roundE ?_
        exact postX_to (gl [] [0, 1, 2, 3, 4, 5, 6, 7, 8, 9] (by kernel_rfl))
      clear hp44
      obtain ⟨v80, v81, v82, v83, v84, v85, v86⟩ := r793
      obtain ⟨rfl, hle⟩ := hq
      refine use_to ?_ hle
      refine blockE_eq ?_
      obtain rfl := sI h
      exact postN_to (gl [] [0, 1, 2, 3, 4, 5, 6, 7, 3, 8, 9] (by kernel_rfl))
    replace h := h_else hb121 h
    refine W_rs tbok ⟨[], []⟩ [] [0, 1, 2, 3, 4, 5] [(0, .adr 0 0 13 0), (3, .i64 r460), (19, .st r459), (97, .bo (r459 == ([115, 101, 116] : List UInt8)))] (ob61 d1 r461 d3 d4 d5 d6 r462 r463 o1 o2 o3 o4 o5) 6 6 [True, True] (by kernel_rfl) ⟨tt, tt, tt⟩ ?_
    refine W_cond (b := (r459 == ([115, 101, 116] : List UInt8))) (β := false) (by kernel_rfl) (fun hb152 => ?_) (fun hb152 => ?_)
    · replace h := h_if hb152 h
      obtain ⟨⟨r799, r800, r801, r802, r803⟩, q222, h⟩ := h_bind h
      have u_1 := (rq_fresh_v5_ok d1 r461 d3 d4 d5 d6 r462 r463 o1 o2 o3 o4 o5 _ q222)
      refine W_rs tbok ⟨[], [(1, ⟨.tup [.st r799, .i64 r800], [false], true, [true], [0, 1, 2, 3, 4, 5], (ob61 d1 r801 d3 d4 d5 d6 r802 r803 o1 o2 o3 o4 o5), none⟩)]⟩ [] [0, 1, 2, 3, 4, 5] [(0, .adr 0 0 13 0), (7, .st r799)] (ob61 d1 r801 d3 d4 d5 d6 r802 r803 o1 o2 o3 o4 o5) 6 6 (True :: (pO u_1) :: (Ts 5 [])) (by kernel_rfl) ⟨tt, u_1, (tr 5 tt)⟩ ?_
      obtain ⟨⟨r807, r808, r809⟩, q224, h⟩ := h_bind h
      have u_1 := (rq_want_v3_ok (61 : Int) d1 r801 d3 d4 d5 d6 r802 r803 o1 o2 o3 o4 o5 _ q224)
      refine W_rs tbok ⟨[], [(1, ⟨.tup [], [false, false], true, [true, true], [0, 1, 2, 3, 4, 5], (ob61 d1 r807 d3 d4 d5 d6 r808 r809 o1 o2 o3 o4 o5), none⟩)]⟩ [] [0, 1, 2, 3, 4, 5] [(0, .adr 0 0 13 0), (7, .st r799)] (ob61 d1 r807 d3 d4 d5 d6 r808 r809 o1 o2 o3 o4 o5) 6 6 [True, pO u_1] (by kernel_rfl) ⟨tt, u_1, tt⟩ ?_
      obtain ⟨⟨r814, r815, r816, r817⟩, q226, h⟩ := h_bind h
      have u_1 := (rq_list_v3_ok (59 : Int) d1 r807 d3 d4 d5 d6 r808 r809 o1 o2 o3 o4 o5 _ q226)
      refine W_rs tbok ⟨[], [(1, ⟨.u32 r814, [false, false], true, [true, true], [0, 1, 2, 3, 4, 5], (ob61 d1 r815 d3 d4 d5 d6 r816 r817 o1 o2 o3 o4 o5), none⟩)]⟩ [] [0, 1, 2, 3, 4, 5] [(0, .adr 0 0 13 0), (7, .st r799), (9, .u32 r814)] (ob61 d1 r815 d3 d4 d5 d6 r816 r817 o1 o2 o3 o4 o5) 6 6 [True, pO u_1, True] (by kernel_rfl) ⟨tt, u_1, tt, tt⟩ ?_
      refine W_rs tbok ⟨[], []⟩ [] [0, 1, 2, 3, 4, 5] [(0, .adr 0 0 13 0), (7, .st r799), (9, .u32 r814), (112, .bo (r816 == (0 : Int)))] (ob61 d1 r815 d3 d4 d5 d6 r816 r817 o1 o2 o3 o4 o5) 6 6 (Ts 5 []) (by kernel_rfl) (tr 5 tt) ?_
      refine W_cond (b := (r816 == (0 : Int))) (β := false) (by kernel_rfl) (fun hb153 => ?_) (fun hb153 => ?_)
      · replace h := h_if hb153 h
        obtain ⟨⟨r820, r821⟩, q228, h⟩ := h_bind h
        have u_1 := (rq_declare_v5_ok r799 r814 d1 r815 d3 d4 d5 d6 r816 r817 o1 o2 o3 o4 o5 _ q228)
        refine W_r tbok ⟨[], [(3, ⟨.tup [], [false, false, false], true, [true, true, true], [0, 1, 2, 3, 4, 5], (ob64 d1 r815 d3 d4 d5 d6 r816 r817 o1 o2 o3 r820 r821), none⟩)]⟩ [] [0, 1, 2, 3, 4, 5, 30, 31] [] (ob64 d1 r815 d3 d4 d5 d6 r816 r817 o1 o2 o3 r820 r821) 8 6 (Ts 3 [pO u_1]) (by kernel_rfl) (tr 3 ⟨u_1, tt⟩) ?_
        obtain rfl := sI h
        exact postN_to (gl [] [0, 1, 2, 3, 4, 5, 1, 2, 3, 6, 7] (by kernel_rfl))
      replace h := h_else hb153 h
      refine W_skip_to ?_
      obtain rfl := sI h
      exact postN_to (gl [] [0, 1, 2, 3, 4, 5, 1, 2, 3, 4, 5] (by kernel_rfl))
    replace h := h_else hb152 h
    refine W_rs tbok ⟨[], []⟩ [] [0, 1, 2, 3, 4, 5] [(0, .adr 0 0 13 0), (3, .i64 r460), (19, .st r459), (117, .bo (r459 == ([106, 111, 105, 110] : List UInt8)))] (ob61 d1 r461 d3 d4 d5 d6 r462 r463 o1 o2 o3 o4 o5) 6 6 [True, True] (by kernel_rfl) ⟨tt, tt, tt⟩ ?_
    refine W_cond (b := (r459 == ([106, 111, 105, 110] : List UInt8))) (β := false) (by kernel_rfl) (fun hb154 => ?_) (fun hb154 => ?_)
    · replace h := h_if hb154 h
      obtain ⟨⟨r826, r827, r828, r829⟩, q230, h⟩ := h_bind h
      have u_1 := (rq_list_v3_ok (47 : Int) d1 r461 d3 d4 d5 d6 r462 r463 o1 o2 o3 o4 o5 _ q230)
      refine W_rs tbok ⟨[], [(1, ⟨.u32 r826, [false, false], true, [true, true], [0, 1, 2, 3, 4, 5], (ob61 d1 r827 d3 d4 d5 d6 r828 r829 o1 o2 o3 o4 o5), none⟩)]⟩ [] [0, 1, 2, 3, 4, 5] [(0, .adr 0 0 13 0), (10, .u32 r826)] (ob61 d1 r827 d3 d4 d5 d6 r828 r829 o1 o2 o3 o4 o5) 6 6 [True, pO u_1, True] (by kernel_rfl) ⟨tt, u_1, tt, tt⟩ ?_
      refine W_rs tbok ⟨[], []⟩ [] [0, 1, 2, 3, 4, 5] [(0, .adr 0 0 13 0)] (ob61 d1 r827 (bitsOf .or .u32 d3 r826) d4 d5 d6 r828 r829 o1 o2 o3 o4 o5) 6 6 (Ts 12 []) (by kernel_rfl) (tr 12 tt) ?_
      obtain ⟨⟨r834, r835, r836, r837⟩, q232, h⟩ := h_bind h
      have u_1 := (rq_list_v3_ok (59 : Int) d1 r827 (bitsOf .or .u32 d3 r826) d4 d5 d6 r828 r829 o1 o2 o3 o4 o5 _ q232)
      refine W_rs tbok ⟨[], [(1, ⟨.u32 r834, [false, false], true, [true, true], [0, 1, 2, 3, 4, 5], (ob61 d1 r835 (bitsOf .or .u32 d3 r826) d4 d5 d6 r836 r837 o1 o2 o3 o4 o5), none⟩)]⟩ [] [0, 1, 2, 3, 4, 5] [(0, .adr 0 0 13 0), (11, .u32 r834)] (ob61 d1 r835 (bitsOf .or .u32 d3 r826) d4 d5 d6 r836 r837 o1 o2 o3 o4 o5) 6 6 [True, pO u_1, True] (by kernel_rfl) ⟨tt, u_1, tt, tt⟩ ?_
      refine W_r tbok ⟨[], []⟩ [] [0, 1, 2, 3, 4, 5] [] (ob61 d1 r835 (bitsOf .or .u32 d3 r826) (bitsOf .or .u32 d4 r834) d5 d6 r836 r837 o1 o2 o3 o4 o5) 6 6 (Ts 12 []) (by kernel_rfl) (tr 12 tt) ?_
      obtain rfl := sI h
      exact postN_to (gl [] [0, 1, 2, 3, 4, 5, 1, 2, 3, 4, 5] (by kernel_rfl))
    replace h := h_else hb154 h
    refine W_rs tbok ⟨[], []⟩ [] [0, 1, 2, 3, 4, 5] [(0, .adr 0 0 13 0), (3, .i64 r460), (19, .st r459), (145, .bo (r459 == ([116, 114, 101, 97, 116] : List UInt8)))] (ob61 d1 r461 d3 d4 d5 d6 r462 r463 o1 o2 o3 o4 o5) 6 6 [True, True] (by kernel_rfl) ⟨tt, tt, tt⟩ ?_
    refine W_cond (b := (r459 == ([116, 114, 101, 97, 116] : List UInt8))) (β := false) (by kernel_rfl) (fun hb155 => ?_) (fun hb155 => ?_)
    · replace h := h_if hb155 h
      obtain ⟨⟨r842, r843, r844, r845⟩, q234, h⟩ := h_bind h
      have u_1 := (rq_class_v3_ok d1 r461 d3 d4 d5 d6 r462 r463 o1 o2 o3 o4 o5 _ q234)
      refine W_rs tbok ⟨[], [(1, ⟨.i64 r842, [false], true, [true], [0, 1, 2, 3, 4, 5], (ob61 d1 r843 d3 d4 d5 d6 r844 r845 o1 o2 o3 o4 o5), none⟩)]⟩ [] [0, 1, 2, 3, 4, 5] [(0, .adr 0 0 13 0), (12, .i64 r842)] (ob61 d1 r843 d3 d4 d5 d6 r844 r845 o1 o2 o3 o4 o5) 6 6 [True, pO u_1, True] (by kernel_rfl) ⟨tt, u_1, tt, tt⟩ ?_
      obtain ⟨⟨r849, r850, r851⟩, q236, h⟩ := h_bind h
      have u_1 := (rq_want_v3_ok (61 : Int) d1 r843 d3 d4 d5 d6 r844 r845 o1 o2 o3 o4 o5 _ q236)
      refine W_rs tbok ⟨[], [(1, ⟨.tup [], [false, false], true, [true, true], [0, 1, 2, 3, 4, 5], (ob61 d1 r849 d3 d4 d5 d6 r850 r851 o1 o2 o3 o4 o5), none⟩)]⟩ [] [0, 1, 2, 3, 4, 5] [(0, .adr 0 0 13 0), (12, .i64 r842)] (ob61 d1 r849 d3 d4 d5 d6 r850 r851 o1 o2 o3 o4 o5) 6 6 [True, pO u_1] (by kernel_rfl) ⟨tt, u_1, tt⟩ ?_
      obtain ⟨⟨r856, r857, r858, r859⟩, q238, h⟩ := h_bind h
      have u_1 := (rq_class_v3_ok d1 r849 d3 d4 d5 d6 r850 r851 o1 o2 o3 o4 o5 _ q238)
      refine W_rs tbok ⟨[], [(1, ⟨.i64 r856, [false], true, [true], [0, 1, 2, 3, 4, 5], (ob61 d1 r857 d3 d4 d5 d6 r858 r859 o1 o2 o3 o4 o5), none⟩)]⟩ [] [0, 1, 2, 3, 4, 5] [(0, .adr 0 0 13 0), (12, .i64 r842), (13, .i64 r856)] (ob61 d1 r857 d3 d4 d5 d6 r858 r859 o1 o2 o3 o4 o5) 6 6 [True, pO u_1, True] (by kernel_rfl) ⟨tt, u_1, tt, tt⟩ ?_
      refine W_seq ?_
      refine W_rs tbok ⟨[], []⟩ [] [0, 1, 2, 3, 4, 5] [(0, .adr 0 0 13 0), (12, .i64 r842), (13, .i64 r856), (157, .bo (r858 == (0 : Int)))] (ob61 d1 r857 d3 d4 d5 d6 r858 r859 o1 o2 o3 o4 o5) 6 6 (Ts 5 []) (by kernel_rfl) (tr 5 tt) ?_
      obtain ⟨d128, hp45, h⟩ := h_bind h
      refine W.mono (Q := (postN Try.f27.ntmps (fun (d128 : List Int) => mkSt [(0, .adr 0 0 13 0)] (ob61 d1 r857 d3 d4 d5 d6 r858 r859 o1 d128 o3 o4 o5) 6 6)) d128) ?_ (fun e σ' hq => ?_)
      · replace h := hp45
        clear hp45
        refine W_cond (b := (r858 == (0 : Int))) (β := false) (by kernel_rfl) (fun hb157 => ?_) (fun hb157 => ?_)
        · replace h := h_if hb157 h
          obtain ⟨c103, h⟩ := h_guard h
          obtain ⟨c104, h⟩ := h_guard h
          refine W_r tbok ⟨[], []⟩ [] [0, 1, 2, 3, 4, 5] [(0, .adr 0 0 13 0)] (ob61 d1 r857 d3 d4 d5 d6 r858 r859 o1 (o2.set r842.toNat r856) o3 o4 o5) 6 6 (Ts 7 [0 ≤ r842 ∧ r842 < (o2.length : Int), r842.toNat < o2.length]) (by kernel_rfl) (tr 7 ⟨c103, c104, tt⟩) ?_
          obtain rfl := sI h
          exact postN_to (gl [] [0, 1, 2, 3, 4, 5] (by kernel_rfl))
        replace h := h_else hb157 h
        refine W_skip_to ?_
        obtain rfl := sI h
        exact postN_to (gl [] [0, 1, 2, 3, 4, 5] (by kernel_rfl))
      clear hp45
      obtain ⟨rfl, hle⟩ := hq
      refine use_to ?_ hle
      refine to_then ?_
      obtain ⟨⟨r863, r864, r865⟩, q240, h⟩ := h_bind h
      have u_1 := (rq_want_v3_ok (59 : Int) d1 r857 d3 d4 d5 d6 r858 r859 o1 d128 o3 o4 o5 _ q240)
      refine W_r tbok ⟨[], [(1, ⟨.tup [], [false, false], true, [true, true], [0, 1, 2, 3, 4, 5], (ob61 d1 r863 d3 d4 d5 d6 r864 r865 o1 d128 o3 o4 o5), none⟩)]⟩ [] [0, 1, 2, 3, 4, 5] [] (ob61 d1 r863 d3 d4 d5 d6 r864 r865 o1 d128 o3 o4 o5) 6 6 [True, pO u_1] (by kernel_rfl) ⟨tt, u_1, tt⟩ ?_
      obtain rfl := sI h
      exact postN_to (gl [] [0, 1, 2, 3, 4, 5, 1, 2, 3, 4, 5] (by kernel_rfl))
    replace h := h_else hb155 h
    refine W_rs tbok ⟨[], []⟩ [] [0, 1, 2, 3, 4, 5] [(0, .adr 0 0 13 0), (3, .i64 r460), (19, .st r459), (168, .bo (r459 == ([107, 101, 101, 112] : List UInt8)))] (ob61 d1 r461 d3 d4 d5 d6 r462 r463 o1 o2 o3 o4 o5) 6 6 [True, True] (by kernel_rfl) ⟨tt, tt, tt⟩ ?_
    refine W_cond (b := (r459 == ([107, 101, 101, 112] : List UInt8))) (β := false) (by kernel_rfl) (fun hb158 => ?_) (fun hb158 => ?_)
    · replace h := h_if hb158 h
      obtain ⟨⟨r872, r873, r874, r875, r876, r877⟩, q242, h⟩ := h_bind h
      have u_1 := (rq_rule_v3_ok (0 : Int) r460 d1 r461 d3 d4 d5 d6 r462 r463 o1 o2 o3 o4 o5 _ q242)
      refine W_r tbok ⟨[], [(2, ⟨.tup [], [false, false, false], true, [true, true, true], [0, 1, 2, 3, 4, 5], (ob76 d1 r872 d3 d4 r874 r875 r876 r877 o1 o2 o4 o5 r873), none⟩)]⟩ [] [0, 1, 2, 3, 4, 5, 22] [] (ob76 d1 r872 d3 d4 r874 r875 r876 r877 o1 o2 o4 o5 r873) 7 6 [True, True, pO u_1] (by kernel_rfl) ⟨tt, tt, u_1, tt⟩ ?_
      obtain rfl := sI h
      exact postN_to (gl [] [0, 1, 2, 3, 4, 5, 1, 2, 6, 4, 5] (by kernel_rfl))
    replace h := h_else hb158 h
    refine W_rs tbok ⟨[], []⟩ [] [0, 1, 2, 3, 4, 5] [(0, .adr 0 0 13 0), (3, .i64 r460), (19, .st r459), (173, .bo (r459 == ([109, 97, 121] : List UInt8)))] (ob61 d1 r461 d3 d4 d5 d6 r462 r463 o1 o2 o3 o4 o5) 6 6 [True, True] (by kernel_rfl) ⟨tt, tt, tt⟩ ?_
    refine W_cond (b := (r459 == ([109, 97, 121] : List UInt8))) (β := false) (by kernel_rfl) (fun hb159 => ?_) (fun hb159 => ?_)
    · replace h := h_if hb159 h
      obtain ⟨⟨r884, r885, r886, r887, r888, r889⟩, q244, h⟩ := h_bind h
      have u_1 := (rq_rule_v3_ok (1 : Int) r460 d1 r461 d3 d4 d5 d6 r462 r463 o1 o2 o3 o4 o5 _ q244)
      refine W_r tbok ⟨[], [(2, ⟨.tup [], [false, false, false], true, [true, true, true], [0, 1, 2, 3, 4, 5], (ob76 d1 r884 d3 d4 r886 r887 r888 r889 o1 o2 o4 o5 r885), none⟩)]⟩ [] [0, 1, 2, 3, 4, 5, 22] [] (ob76 d1 r884 d3 d4 r886 r887 r888 r889 o1 o2 o4 o5 r885) 7 6 [True, True, pO u_1] (by kernel_rfl) ⟨tt, tt, u_1, tt⟩ ?_
      obtain rfl := sI h
      exact postN_to (gl [] [0, 1, 2, 3, 4, 5, 1, 2, 6, 4, 5] (by kernel_rfl))
    replace h := h_else hb159 h
    refine W_rs tbok ⟨[], []⟩ [] [0, 1, 2, 3, 4, 5] [(0, .adr 0 0 13 0), (3, .i64 r460), (178, .bo (r459 == ([109, 117, 115, 116] : List UInt8)))] (ob61 d1 r461 d3 d4 d5 d6 r462 r463 o1 o2 o3 o4 o5) 6 6 [True, True] (by kernel_rfl) ⟨tt, tt, tt⟩ ?_
    refine W_cond (b := (r459 == ([109, 117, 115, 116] : List UInt8))) (β := false) (by kernel_rfl) (fun hb160 => ?_) (fun hb160 => ?_)
    · replace h := h_if hb160 h
      obtain ⟨⟨r896, r897, r898, r899, r900, r901⟩, q246, h⟩ := h_bind h
      have u_1 := (rq_rule_v3_ok (2 : Int) r460 d1 r461 d3 d4 d5 d6 r462 r463 o1 o2 o3 o4 o5 _ q246)
      refine W_r tbok ⟨[], [(2, ⟨.tup [], [false, false, false], true, [true, true, true], [0, 1, 2, 3, 4, 5], (ob76 d1 r896 d3 d4 r898 r899 r900 r901 o1 o2 o4 o5 r897), none⟩)]⟩ [] [0, 1, 2, 3, 4, 5, 22] [] (ob76 d1 r896 d3 d4 r898 r899 r900 r901 o1 o2 o4 o5 r897) 7 6 [True, True, pO u_1] (by kernel_rfl) ⟨tt, tt, u_1, tt⟩ ?_
      obtain rfl := sI h
      exact postN_to (gl [] [0, 1, 2, 3, 4, 5, 1, 2, 6, 4, 5] (by kernel_rfl))
    replace h := h_else hb160 h
    obtain ⟨⟨r904, r905⟩, q248, h⟩ := h_bind h
    have u_1 := (rq_bad_v6_ok (21 : Int) r460 d1 r461 d3 d4 d5 d6 r462 r463 o1 o2 o3 o4 o5 _ q248)
    refine W_r tbok ⟨[], [(2, ⟨.tup [], [false, false, false], true, [true, true, true], [0, 1, 2, 3, 4, 5], (ob61 d1 r461 d3 d4 d5 d6 r904 r905 o1 o2 o3 o4 o5), none⟩)]⟩ [] [0, 1, 2, 3, 4, 5] [] (ob61 d1 r461 d3 d4 d5 d6 r904 r905 o1 o2 o3 o4 o5) 6 6 [True, True, pO u_1] (by kernel_rfl) ⟨tt, tt, u_1, tt⟩ ?_
    obtain rfl := sI h
    exact postN_to (gl [] [0, 1, 2, 3, 4, 5, 1, 2, 3, 4, 5] (by kernel_rfl))
  clear hp46
  obtain ⟨v64, v65, v66, v67, v68, v69, v70, v71, v72, v73, v74, v75⟩ := r906
  obtain ⟨rfl, hle⟩ := hq
  refine use_to ?_ hle
  refine to_block ?_
  obtain rfl := sI h
  exact (RetO_intro [] [] [0, 1, 2, 3, 4, 5, 6, 7, 8, 9, 10] [] (ob77 d1 v64 v66 v67 v72 v73 v74 v75 v65 v68 v69 v70 v71) 11 6 (by kernel_rfl) (by kernel_rfl) (by kernel_rfl)).normal
def rr_Parse_L1 (t1 : List UInt8) : (Int × (List (List UInt8)) × Int × Int × (List Int) × (List (Int × Tree × Tree)) × (List (List UInt8)) × (List Int) × Int × Int × Int × Int) → Option ((Int × (List (List UInt8)) × Int × Int × (List Int) × (List (Int × Tree × Tree)) × (List (List UInt8)) × (List Int) × Int × Int × Int × Int) ⊕ (Int × (List (List UInt8)) × Int × Int × (List Int) × (List (Int × Tree × Tree)) × (List (List UInt8)) × (List Int) × Int × Int × Int × Int)) := fun ((p19, p20, p21, p22, p23, p24, p25, p26, p27, p28, p29, p30) : Int × (List (List UInt8)) × Int × Int × (List Int) × (List (Int × Tree × Tree)) × (List (List UInt8)) × (List Int) × Int × Int × Int × Int) =>
  ((((rq_here_v7 t1 p19 p21 p22 p27 p28 p29 p30 p20 p23 p24 p25 p26).bind fun ((r83, r84, r85, r86) : Int × Int × Int × Int) =>
  (if (r83 != (0 : Int)) = true then some ((r84, r85, r86, (r85 == (0 : Int))))
  else some ((r84, r85, r86, false))))).bind fun ((p43, p44, p45, v3) : Int × Int × Int × Bool) => (if v3 = true then ((rq_line_v3 t1 p43 p21 p22 p27 p28 p44 p45 p20 p23 p24 p25 p26).bind fun ((r100, r101, r102, r103, r104, r105, r106, r107, r108, r109, r110, r111) : Int × (List (List UInt8)) × Int × Int × (List Int) × (List (Int × Tree × Tree)) × (List (List UInt8)) × (List Int) × Int × Int × Int × Int) =>
  some (Sum.inl (r100, r101, r102, r103, r104, r105, r106, r107, r108, r109, r110, r111)))
  else some (Sum.inr (p43, p20, p21, p22, p23, p24, p25, p26, p27, p28, p44, p45))))
def rr_Parse (t1 : List UInt8) : Option (((List (List UInt8)) × Int × Int × (List Int) × List (Int × Tree × Tree)) × Int × Int) :=
  (if (decide ((t1.length : Int) > (4096 : Int))) = true then some ((([] : List (List UInt8)), ((0 : Int), ((0 : Int), (([] : List Int), ([] : List (Int × Tree × Tree)))))), (24 : Int), (4096 : Int))
  else ((iter (rr_Parse_L1 t1) ((0 : Int), ([] : List (List UInt8)), (0 : Int), (0 : Int), ([] : List Int), ([] : List (Int × Tree × Tree)), ([] : List (List UInt8)), ([] : List Int), (0 : Int), (0 : Int), (0 : Int), (0 : Int))).bind fun ((p31, p32, p33, p34, p35, p36, p37, p38, p39, p40, p41, p42) : Int × (List (List UInt8)) × Int × Int × (List Int) × (List (Int × Tree × Tree)) × (List (List UInt8)) × (List Int) × Int × Int × Int × Int) => (if (p41 != (0 : Int)) = true then some ((([] : List (List UInt8)), ((0 : Int), ((0 : Int), (([] : List Int), ([] : List (Int × Tree × Tree)))))), p41, p42)
  else some ((p32, (p33, (p34, (p35, p36)))), (0 : Int), (0 : Int)))))
theorem rr_Parse_ok (t1 : List UInt8) (res : ((List (List UInt8)) × Int × Int × (List Int) × List (Int × Tree × Tree)) × Int × Int) (h : rr_Parse t1 = some res) :
    Pure Try.prog 17 [.st t1] (wrapR (encs false [⟨Y4, res.1⟩, ⟨(.int .i64), res.2.1⟩, ⟨(.int .i64), res.2.2⟩])) := by
  refine Pure.of_body tbok Try.func17 (by kernel_rfl) rfl (nl rfl) (fun Bw w0 => ?_) rfl
  unfold rr_Parse at h
  refine W_rs tbok ⟨[], []⟩ [] [0] [(0, .st t1), (2, .adr 0 0 5 0)] [(0, .box [.nils, .u32 (0 : Int), .u32 (0 : Int), .nils, .nils])] 1 0 (Ts 3 []) (by kernel_rfl) (tr 3 tt) ?_
  refine W_seq ?_
  refine W_rs tbok ⟨[], []⟩ [] [0] [(0, .st t1), (2, .adr 0 0 5 0), (8, .bo (decide ((t1.length : Int) > (4096 : Int))))] [(0, .box [.nils, .u32 (0 : Int), .u32 (0 : Int), .nils, .nils])] 1 0 (Ts 3 []) (by kernel_rfl) (tr 3 tt) ?_
  refine W_cond (b := (decide ((t1.length : Int) > (4096 : Int)))) (β := false) (by kernel_rfl) (fun hb1 => ?_) (fun hb1 => ?_)
  · replace h := h_if hb1 h
    refine W_rs tbok ⟨[], []⟩ [] [0] [(2, .adr 0 0 5 0), (3, .i64 (24 : Int)), (4, .i64 (4096 : Int))] [(0, .box [.nils, .u32 (0 : Int), .u32 (0 : Int), .nils, .nils])] 1 0 (Ts 4 []) (by kernel_rfl) (tr 4 tt) ?_
    refine W_ret ?_
    refine thenQ_ret ?_
    obtain rfl := sI h
    exact Ret_intro [Y4, (.int .i64), (.int .i64)] (by kernel_rfl)
  replace h := h_else hb1 h
  refine W_skip_to ?_
  refine to_then ?_
  refine W_rs tbok ⟨[], []⟩ [] [0, 17] [(2, .adr 0 0 5 0), (5, .adr 1 0 13 0)] (ob43 (0 : Int) (0 : Int) t1 (0 : Int) (0 : Int) (0 : Int) (0 : Int) (0 : Int) (0 : Int) (0 : Int)) 2 0 (Ts 4 []) (by kernel_rfl) (tr 4 tt) ?_
  refine W_seq ?_
  refine W_block ?_
  obtain ⟨r112, hp4, h⟩ := h_bind h
  refine W.mono (Q := (postX Try.f17.ntmps 0 (fun ((p31, p32, p33, p34, p35, p36, p37, p38, p39, p40, p41, p42) : Int × (List (List UInt8)) × Int × Int × (List Int) × (List (Int × Tree × Tree)) × (List (List UInt8)) × (List Int) × Int × Int × Int × Int) => mkSt [(2, .adr 0 0 5 0), (5, .adr 1 0 13 0)] (ob62 (0 : Int) (0 : Int) t1 p31 p33 p34 p39 p40 p41 p42 p32 p35 p36 p37 p38) 7)) r112) (W_iter (f := fun ((p19, p20, p21, p22, p23, p24, p25, p26, p27, p28, p29, p30) : Int × (List (List UInt8)) × Int × Int × (List Int) × (List (Int × Tree × Tree)) × (List (List UInt8)) × (List Int) × Int × Int × Int × Int) => mkSt [(2, .adr 0 0 5 0), (5, .adr 1 0 13 0)] (ob62 (0 : Int) (0 : Int) t1 p19 p21 p22 p27 p28 p29 p30 p20 p23 p24 p25 p26) 7) (Q := (postX Try.f17.ntmps 0 (fun ((p31, p32, p33, p34, p35, p36, p37, p38, p39, p40, p41, p42) : Int × (List (List UInt8)) × Int × Int × (List Int) × (List (Int × Tree × Tree)) × (List (List UInt8)) × (List Int) × Int × Int × Int × Int) => mkSt [(2, .adr 0 0 5 0), (5, .adr 1 0 13 0)] (ob62 (0 : Int) (0 : Int) t1 p31 p33 p34 p39 p40 p41 p42 p32 p35 p36 p37 p38) 7))) hp4 (gl [.nilC 1 2 2 9 .str, .nilC 1 5 3 3 (.int .i64), .nilC 1 6 4 52 (.prod (.int .u8) Y1), .nilC 1 7 5 9 .str, .nilC 1 8 6 34 (.int .u32)] [0, 1, 2, 3, 4, 5, 6] (by kernel_rfl)) (fun y o ho => ?_)) (fun e σ' hq => ?_)
  · obtain ⟨p19, p20, p21, p22, p23, p24, p25, p26, p27, p28, p29, p30⟩ := y
    replace h := ho
    clear ho hp4
    unfold rr_Parse_L1 at h
    refine W_seq ?_
    refine W_seq ?_
    obtain ⟨r87, hp3, h⟩ := h_bind h
    refine W.mono (Q := (postN Try.f17.ntmps (fun ((p43, p44, p45, v3) : Int × Int × Int × Bool) => mkSt [(2, .adr 0 0 5 0), (5, .adr 1 0 13 0), (22, .bo v3)] (ob62 (0 : Int) (0 : Int) t1 p43 p21 p22 p27 p28 p44 p45 p20 p23 p24 p25 p26) 7)) r87) ?_ (fun e σ' hq => ?_)
    · replace h := hp3
      clear hp3
      obtain ⟨⟨r83, r84, r85, r86⟩, q13, h⟩ := h_bind h
      rcases bb (r83 != (0 : Int)) with hb12 | hb12
      · replace h := h_if hb12 h
        have u_1 := (rq_here_v7_ok t1 p19 p21 p22 p27 p28 p29 p30 p20 p23 p24 p25 p26 _ q13)
        refine W_r tbok ⟨[(3, true), (9, true)], [(1, ⟨.u8 r83, [false], true, [true], [1, 2, 3, 4, 5, 6], (ob61 t1 r84 p21 p22 p27 p28 r85 r86 p20 p23 p24 p25 p26), none⟩)]⟩ [] [0, 1, 2, 3, 4, 5, 6] [(2, .adr 0 0 5 0), (5, .adr 1 0 13 0), (22, .bo (r85 == (0 : Int)))] (ob62 (0 : Int) (0 : Int) t1 r84 p21 p22 p27 p28 r85 r86 p20 p23 p24 p25 p26) 7 0 [True, pO u_1, True, True, (r83 != (0 : Int)) = true ∧ True, (r83 != (0 : Int)) = true ∧ True, (r83 != (0 : Int)) = true ∧ True, (r83 != (0 : Int)) = true ∧ True, (r83 != (0 : Int)) = true ∧ True, (r83 != (0 : Int)) = true] (by kernel_rfl) ⟨tt, u_1, tt, tt, ⟨hb12, tt⟩, ⟨hb12, tt⟩, ⟨hb12, tt⟩, ⟨hb12, tt⟩, ⟨hb12, tt⟩, hb12, tt⟩ ?_
        obtain rfl := sI h
        exact postN_to (gl [] [0, 1, 2, 3, 4, 5, 6] (by kernel_rfl))
      replace h := h_else hb12 h
      have u_1 := (rq_here_v7_ok t1 p19 p21 p22 p27 p28 p29 p30 p20 p23 p24 p25 p26 _ q13)
      refine W_r tbok ⟨[(3, false), (9, false)], [(1, ⟨.u8 r83, [false], true, [true], [1, 2, 3, 4, 5, 6], (ob61 t1 r84 p21 p22 p27 p28 r85 r86 p20 p23 p24 p25 p26), none⟩)]⟩ [] [0, 1, 2, 3, 4, 5, 6] [(2, .adr 0 0 5 0), (5, .adr 1 0 13 0), (22, .bo false)] (ob62 (0 : Int) (0 : Int) t1 r84 p21 p22 p27 p28 r85 r86 p20 p23 p24 p25 p26) 7 0 [True, pO u_1, True, True, (r83 != (0 : Int)) = false, (r83 != (0 : Int)) = false, (r83 != (0 : Int)) = false, (r83 != (0 : Int)) = false, (r83 != (0 : Int)) = false, (r83 != (0 : Int)) = false] (by kernel_rfl) ⟨tt, u_1, tt, tt, hb12, hb12, hb12, hb12, hb12, hb12, tt⟩ ?_
      obtain rfl := sI h
      exact postN_to (gl [] [0, 1, 2, 3, 4, 5, 6] (by kernel_rfl))
    clear hp3
    obtain ⟨p43, p44, p45, v3⟩ := r87
    obtain ⟨rfl, hle⟩ := hq
    refine use_to ?_ hle
    refine to_then ?_
    refine W_cond (b := v3) (β := false) (by kernel_rfl) (fun hb13 => ?_) (fun hb13 => ?_)
    · replace h := h_if hb13 h
      refine W_skip_to ?_
      refine to_then ?_
      refine W_block ?_
      obtain ⟨⟨r100, r101, r102, r103, r104, r105, r106, r107, r108, r109, r110, r111⟩, q15, h⟩ := h_bind h
      have u_1 := (rq_line_v3_ok t1 p43 p21 p22 p27 p28 p44 p45 p20 p23 p24 p25 p26 _ q15)
      refine W_r tbok ⟨[], [(1, ⟨.tup [], [false], true, [true], [1, 2, 3, 4, 5, 6], (ob77 t1 r100 r102 r103 r108 r109 r110 r111 r101 r104 r105 r106 r107), none⟩)]⟩ [] [0, 1, 15, 16, 17, 18, 19] [(2, .adr 0 0 5 0), (5, .adr 1 0 13 0)] (ob62 (0 : Int) (0 : Int) t1 r100 r102 r103 r108 r109 r110 r111 r101 r104 r105 r106 r107) 7 0 [True, pO u_1] (by kernel_rfl) ⟨tt, u_1, tt⟩ ?_
      refine to_block ?_
      obtain rfl := sI h
      exact roundB (gl [] [0, 1, 2, 3, 4, 5, 6] (by kernel_rfl))
    replace h := h_else hb13 h
    refine W_exit_to ?_
    refine thenE ?_
    obtain rfl := sI h
    refine roundE ?_
    exact postX_to (gl [] [0, 1, 2, 3, 4, 5, 6] (by kernel_rfl))
  clear hp4
  obtain ⟨p31, p32, p33, p34, p35, p36, p37, p38, p39, p40, p41, p42⟩ := r112
  obtain ⟨rfl, hle⟩ := hq
  refine use_to ?_ hle
  refine blockE_eq ?_
  refine to_then ?_
  refine W_seq ?_
  refine W_rs tbok ⟨[], []⟩ [] [0, 1, 2, 3, 4, 5, 6] [(2, .adr 0 0 5 0), (5, .adr 1 0 13 0), (29, .bo (p41 != (0 : Int)))] (ob62 (0 : Int) (0 : Int) t1 p31 p33 p34 p39 p40 p41 p42 p32 p35 p36 p37 p38) 7 0 (Ts 5 []) (by kernel_rfl) (tr 5 tt) ?_
  refine W_cond (b := (p41 != (0 : Int))) (β := false) (by kernel_rfl) (fun hb14 => ?_) (fun hb14 => ?_)
  · replace h := h_if hb14 h
    refine W_rd tbok mixed ⟨[], []⟩ [] [0] [(2, .adr 0 0 5 0), (3, .i64 p41), (4, .i64 p42)] [(0, .box [.nils, .u32 (0 : Int), .u32 (0 : Int), .nils, .nils])] 1 0 (Ts 12 []) (by kernel_rfl) (tr 12 tt) ?_
    refine W_ret ?_
    refine thenQ_ret ?_
    obtain rfl := sI h
    exact Ret_intro [Y4, (.int .i64), (.int .i64)] (by kernel_rfl)
  replace h := h_else hb14 h
  refine W_skip_to ?_
  refine to_then ?_
  refine W_rs tbok ⟨[], []⟩ [] [0, 2, 3, 4] [(2, .adr 0 0 5 0), (3, .i64 (0 : Int)), (4, .i64 (0 : Int))] (ob78 p33 p34 p32 p35 p36) 4 0 (Ts 7 []) (by kernel_rfl) (tr 7 tt) ?_
  refine W_ret ?_
  obtain rfl := sI h
  exact Ret_intro [Y4, (.int .i64), (.int .i64)] (by kernel_rfl)
def lq_told (t1 : List UInt8) : Option (Bool) :=
  ((rules_Parse t1).bind fun ((r3, r4) : ((List (List UInt8)) × Int × Int × (List Int) × List (Int × Tree × Tree)) × Int × Int) =>
  ((rr_Parse t1).bind fun ((r8, r9, r10) : ((List (List UInt8)) × Int × Int × (List Int) × List (Int × Tree × Tree)) × Int × Int) =>
  (((if (r4.1 == r9) = true then (if (r4.2 == r10) = true then ((rr_SameRules r3.1 r3.2.1 r3.2.2.1 r3.2.2.2.1 r3.2.2.2.2 r8.1 r8.2.1 r8.2.2.1 r8.2.2.2.1 r8.2.2.2.2).bind fun (r13 : Bool) =>
  some (r13))
  else some (false))
  else some (false))).bind fun (v1 : Bool) => some v1)))
theorem lq_told_ok (t1 : List UInt8) (res : Bool) (h : lq_told t1 = some res) :
    Pure Try.prog 11 [.st t1] (wrapR (encs false [⟨.bool, res⟩])) := by
  refine Pure.of_body tbok Try.func11 (by kernel_rfl) rfl (nl rfl) (fun Bw w0 => ?_) rfl
  unfold lq_told at h
  refine W_rs tbok ⟨[], []⟩ [] [] [(0, .st t1)] [] 0 0 [True] (by kernel_rfl) ⟨tt, tt⟩ ?_
  obtain ⟨⟨r3, r4⟩, q2, h⟩ := h_bind h
  have u_1 := (rules_Parse_ok t1 _ q2)
  refine W_rs tbok ⟨[], [(1, ⟨.tup [.agg [.p false (.slice .str) r3.1, .u32 r3.2.1, .u32 r3.2.2.1, .p false (.slice (.int .i64)) r3.2.2.2.1, .p false (.slice (.prod (.int .u8) Y1)) r3.2.2.2.2], .agg [.i64 r4.1, .i64 r4.2]], [false], false, [true], [], [], none⟩)]⟩ [] [40, 48] [(0, .st t1), (3, .adr 0 0 5 0), (4, .adr 1 0 2 0)] (ob39 r3.1 r3.2.1 r3.2.2.1 r3.2.2.2.1 r3.2.2.2.2 r4.1 r4.2) 2 0 (True :: (pO u_1) :: (Ts 7 [])) (by kernel_rfl) ⟨tt, u_1, (tr 7 tt)⟩ ?_
  obtain ⟨⟨r8, r9, r10⟩, q4, h⟩ := h_bind h
  have u_1 := (rr_Parse_ok t1 _ q4)
  refine W_rs tbok ⟨[], [(1, ⟨.tup [.agg [.p false (.slice .str) r8.1, .u32 r8.2.1, .u32 r8.2.2.1, .p false (.slice (.int .i64)) r8.2.2.2.1, .p false (.slice (.prod (.int .u8) Y1)) r8.2.2.2.2], .i64 r9, .i64 r10], [false], false, [true], [], [], none⟩)]⟩ [] [0, 1, 50] [(3, .adr 0 0 5 0), (4, .adr 1 0 2 0), (5, .adr 2 0 5 0), (6, .i64 r9), (7, .i64 r10)] (ob79 r3.1 r3.2.1 r3.2.2.1 r3.2.2.2.1 r3.2.2.2.2 r4.1 r4.2 r8.1 r8.2.1 r8.2.2.1 r8.2.2.2.1 r8.2.2.2.2) 3 0 (True :: (pO u_1) :: (Ts 8 [])) (by kernel_rfl) ⟨tt, u_1, (tr 8 tt)⟩ ?_
  refine W_seq ?_
  obtain ⟨v1, hp1, h⟩ := h_bind h
  refine W.mono (Q := (postN Try.f11.ntmps (fun (v1 : Bool) => mkSt [(2, .bo v1)] [] 0)) v1) ?_ (fun e σ' hq => ?_)
  · replace h := hp1
    clear hp1
    rcases bb (r4.1 == r9) with hb5 | hb5
    · replace h := h_if hb5 h
      rcases bb (r4.2 == r10) with hb6 | hb6
      · replace h := h_if hb6 h
        obtain ⟨r13, q7, h⟩ := h_bind h
        have u_1 := (rr_SameRules_ok false false false false false false r3.1 r3.2.1 r3.2.2.1 r3.2.2.2.1 r3.2.2.2.2 r8.1 r8.2.1 r8.2.2.1 r8.2.2.2.1 r8.2.2.2.2 _ q7)
        refine W_r tbok ⟨[(4, true), (9, true), (10, true), (14, true)], [(13, ⟨.bo r13, [false, false], false, [true, true], [], [], none⟩)]⟩ [] [] [(2, .bo r13)] [] 0 0 (Ts 5 [(r4.1 == r9) = true ∧ True, (r4.1 == r9) = true ∧ True, (r4.1 == r9) = true ∧ True, (r4.1 == r9) = true ∧ True, (r4.1 == r9) = true, True, (r4.2 == r10) = true ∧ True, (r4.2 == r10) = true ∧ True, (r4.2 == r10) = true ∧ pO u_1, (r4.2 == r10) = true, True]) (by kernel_rfl) (tr 5 ⟨⟨hb5, tt⟩, ⟨hb5, tt⟩, ⟨hb5, tt⟩, ⟨hb5, tt⟩, hb5, tt, ⟨hb6, tt⟩, ⟨hb6, tt⟩, ⟨hb6, u_1⟩, hb6, tt, tt⟩) ?_
        obtain rfl := sI h
        exact postN_to (gl [] [] (by kernel_rfl))
      replace h := h_else hb6 h
      refine W_r tbok ⟨[(4, true), (9, true), (10, false), (14, false)], []⟩ [] [] [(2, .bo false)] [] 0 0 (Ts 5 [(r4.1 == r9) = true ∧ True, (r4.1 == r9) = true ∧ True, (r4.1 == r9) = true ∧ True, (r4.1 == r9) = true ∧ True, (r4.1 == r9) = true, True, (r4.2 == r10) = false, (r4.2 == r10) = false, (r4.2 == r10) = false, (r4.2 == r10) = false, True]) (by kernel_rfl) (tr 5 ⟨⟨hb5, tt⟩, ⟨hb5, tt⟩, ⟨hb5, tt⟩, ⟨hb5, tt⟩, hb5, tt, hb6, hb6, hb6, hb6, tt, tt⟩) ?_
      obtain rfl := sI h
      exact postN_to (gl [] [] (by kernel_rfl))
    replace h := h_else hb5 h
    refine W_r tbok ⟨[(4, false), (9, false), (10, false), (14, false)], []⟩ [] [] [(2, .bo false)] [] 0 0 (Ts 5 [(r4.1 == r9) = false, (r4.1 == r9) = false, (r4.1 == r9) = false, (r4.1 == r9) = false, (r4.1 == r9) = false, True, false = false, false = false, false = false, false = false, True]) (by kernel_rfl) (tr 5 ⟨hb5, hb5, hb5, hb5, hb5, tt, rfl, rfl, rfl, rfl, tt, tt⟩) ?_
    obtain rfl := sI h
    exact postN_to (gl [] [] (by kernel_rfl))
  clear hp1
  obtain ⟨rfl, hle⟩ := hq
  refine use_to ?_ hle
  refine to_then ?_
  refine W_ret ?_
  obtain rfl := sI h
  exact Ret_intro [.bool] (by kernel_rfl)
end
end Go.Proofs.Ytjfjigknkhgkdaa.T
