/- RulesSets: called with any data that the statement reads, the given law answers true. Conditions: none beyond the statement. -/
import Derived.Test.YtjfjigknkhgkdaaTv03y
import Derived.Test.YtjfjigknkhgkdaaTvV
import Derived.Test.YtjfjigknkhgkdaaRows
import Derived.Test.YtjfjigknkhgkdaaProg
import Derived.WalkKit
import Derived.ProofKit
import Derived.OpenShut
import Derived.ShutString
import Derived.ChangeOld
import Derived.Below
import Derived.SizedLaws
namespace Go.Proofs.Ytjfjigknkhgkdaa.rulesSets
open Go Go.ChangeShapes Go.WideShapes Go.ChangeAt Go.RowKit Go.Tv Go.Proofs
theorem own : ownKnob Try.prog.godebug = none := by kernel_rfl
theorem laidOut : laidOutB Try.prog = true := by kernel_rfl
theorem pure (x : Tup T.rulesSets_Ts) (hx : WfT T.rulesSets_Ts x) : Pure Try.prog 9 (encT T.rulesSets_Ts x) (.p false .bool true) :=
  T.lq_RulesSets_ok x.1 x.2.1 x.2.2.1 true (T.rulesSets_all x hx)
set_option maxRecDepth 100000 in
theorem lifted (os : Os) (started : os.Started) (H : Type) (en : TypeId × Value → H) :
    ReturnsInHanded {} Try.checked os 9 .any (Rows.rulesSetsSpec.pre6 en Try.prog Try.f9 Rows.rulesSetsRow.domain false) (Rows.rulesSetsSpec.post en Try.prog Try.f9 false true false false) := by
  refine returnsInHanded_of_change_sized (C := Try.checked) own started (by kernel_rfl) Try.func9
    (ChangeSpec.witness6 (enc := en) (C := Try.checked) false ⟨#[], #[.int .u8 0, .int .u8 0, .bool false], []⟩ 8 (by kernel_rfl) (by kernel_rfl) (by kernel_rfl) (by kernel_rfl)) ?_
  intro W base args ds gs before hval0 hW hcnd hsz0 _
  have hval : ∀ (j : Nat) t v, Try.f9.params[j]? = some t → args[j]? = some v → Value.okWide Try.prog W .any base t v := hval0
  have hW' := hW
  obtain ⟨p, q, hA0, hV, rfl, hfz, hnd⟩ := hW
  have hA : DataW.TrodAll en Try.prog W 0 (fun _ => true) true Try.f9.params.toList args.toList ds p := hA0
  rw [Try.params9] at hA hval
  obtain ⟨x, hx, wx, hl⟩ := args_read (n := 8) (Ts := T.rulesSets_Ts) (by kernel_rfl) hA (fun j t v a b => hval j t v (by simpa using a) (by simpa using b))
  obtain ⟨rfl, rfl⟩ := trodVars_none hV
  clear hA0 hval0 hsz0
  refine ((pure x wx).calls _ W args (fun _ h => h.elim) hx).mono fun e W' ⟨v, he, bel, hv⟩ => ?_
  have hv' := V_bool hv
  subst he hv'
  have hb := args_stay laidOut bel (ts := [5, 5, 4]) (by kernel_rfl) hA
  match ds, hl with
  | [d1, d2, d3], _ =>
    exact ⟨_, rfl, _, _, _, [], _, [], hW', trodAll_mk1 (shut_bool Try.underlying4 _), hb, rfl, bel.frame _, fun h => by cases h⟩
theorem over : Rows.rulesSetsRow.holds Try.pinned (OpenSpec.ofChange Rows.rulesSetsSpec) :=
  OpenClaim.holds_of_wide 9 Try.f9 rfl rfl rfl rfl rfl rfl rfl ⟨rfl, rfl, rfl, rfl, rfl⟩ rfl rfl rfl rfl rfl (by kernel_rfl) Try.func9 (by kernel_rfl)
    (of_decide_eq_true (by kernel_rfl)) (by unfold Func.isWrapper; first | (rw [if_pos (by decide +kernel)]; kernel_rfl) | (rw [if_neg (by decide +kernel)]; exact ⟨rfl, rfl⟩))
    (fun os started H en _ => lifted os started H en)
theorem proved : Rows.RulesSetsSaid := over
end Go.Proofs.Ytjfjigknkhgkdaa.rulesSets
