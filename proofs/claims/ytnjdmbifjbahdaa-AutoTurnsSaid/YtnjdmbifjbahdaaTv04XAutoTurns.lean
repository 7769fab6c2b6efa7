/- AutoTurns: called with any data that the statement reads, the given law answers true. Conditions: none beyond the statement. -/
import Derived.Test.YtnjdmbifjbahdaaTv04zm
import Derived.Test.YtnjdmbifjbahdaaTvUm
import Derived.Test.YtnjdmbifjbahdaaRows
import Derived.Test.YtnjdmbifjbahdaaProg
import Derived.WalkKit
import Derived.ProofKit
import Derived.OpenShut
import Derived.ShutString
import Derived.ChangeOld
import Derived.Below
import Derived.SizedLaws
namespace Go.Proofs.Ytnjdmbifjbahdaa.autoTurns
open Go Go.ChangeShapes Go.WideShapes Go.ChangeAt Go.RowKit Go.Tv Go.Proofs
theorem own : ownKnob Try.prog.godebug = none := by kernel_rfl
theorem laidOut : laidOutB Try.prog = true := by kernel_rfl
theorem pure (x : Tup T.autoTurns_Ts) (hx : WfT T.autoTurns_Ts x) : Pure Try.prog 5 (encT T.autoTurns_Ts x) (.p false .bool true) :=
  T.stanzalaw04_AutoTurns_ok false false (T.autoTurns_all x hx)
set_option maxRecDepth 100000 in
theorem lifted (os : Os) (started : os.Started) (H : Type) (en : TypeId × Value → H) :
    ReturnsInHanded {} Try.checked os 5 .any (Rows.autoTurnsSpec.pre6 en Try.prog Try.f5 Rows.autoTurnsRow.domain false) (Rows.autoTurnsSpec.post en Try.prog Try.f5 false true false false) := by
  refine returnsInHanded_of_change_sized (C := Try.checked) own started (by kernel_rfl) Try.func5
    (ChangeSpec.witness6 (enc := en) (C := Try.checked) false ⟨#[], #[.agg #[.int .u8 0, .int .u8 0, .int .u8 0, .slice none 0 0, .slice none 0 0], .slice none 0 0], []⟩ 8 (by kernel_rfl) (by kernel_rfl) (by kernel_rfl) (by kernel_rfl)) ?_
  intro W base args ds gs before hval0 hW hcnd hsz0 _
  have hval : ∀ (j : Nat) t v, Try.f5.params[j]? = some t → args[j]? = some v → Value.okWide Try.prog W .any base t v := hval0
  have hW' := hW
  obtain ⟨p, q, hA0, hV, rfl, hfz, hnd⟩ := hW
  have hA : DataW.TrodAll en Try.prog W 0 (fun _ => true) true Try.f5.params.toList args.toList ds p := hA0
  rw [Try.params5] at hA hval
  obtain ⟨x, hx, wx, hl⟩ := args_read (n := 8) (Ts := T.autoTurns_Ts) (by kernel_rfl) hA (fun j t v a b => hval j t v (by simpa using a) (by simpa using b))
  obtain ⟨rfl, rfl⟩ := trodVars_none hV
  clear hA0 hval0 hsz0
  refine ((pure x wx).calls _ W args (fun _ h => h.elim) hx).mono fun e W' ⟨v, he, bel, hv⟩ => ?_
  have hv' := V_bool hv
  subst he hv'
  have hb := args_stay laidOut bel (ts := [45, 36]) (by kernel_rfl) hA
  match ds, hl with
  | [d1, d2], _ =>
    exact ⟨_, rfl, _, _, _, [], _, [], hW', trodAll_mk1 (shut_bool Try.underlying4 _), hb, rfl, bel.frame _, fun h => by cases h⟩
theorem over : Rows.autoTurnsRow.holds Try.pinned (OpenSpec.ofChange Rows.autoTurnsSpec) :=
  OpenClaim.holds_of_wide 5 Try.f5 rfl rfl rfl rfl rfl rfl rfl ⟨rfl, rfl, rfl, rfl, rfl⟩ rfl rfl rfl rfl rfl (by kernel_rfl) Try.func5 (by kernel_rfl)
    (of_decide_eq_true (by kernel_rfl)) (by unfold Func.isWrapper; first | (rw [if_pos (by decide +kernel)]; kernel_rfl) | (rw [if_neg (by decide +kernel)]; exact ⟨rfl, rfl⟩))
    (fun os started H en _ => lifted os started H en)
theorem proved : Rows.AutoTurnsSaid := over
end Go.Proofs.Ytnjdmbifjbahdaa.autoTurns
