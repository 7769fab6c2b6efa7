/- RulesCuts: any beginning of a plan's text. -/
import Derived.Test.YtjfjigknkhgkdaaTv03n
import Derived.Test.YtjfjigknkhgkdaaTv03r
import Derived.Test.YtjfjigknkhgkdaaTvT03xRulesCuts
namespace Go.Proofs.Ytjfjigknkhgkdaa.T
open Go Go.Tv Go.Proofs
theorem cuts_in {len cut : Int} (h0 : 0 ≤ len) (h1 : len ≤ 100000) : ¬ IntKind.u64.wrap (IntKind.i64.wrap (len + 1)) = 0 ∧ 0 ≤ IntKind.i64.wrap (Int.tmod (IntKind.u64.wrap cut) (IntKind.u64.wrap (IntKind.i64.wrap (len + 1)))) ∧ IntKind.i64.wrap (Int.tmod (IntKind.u64.wrap cut) (IntKind.u64.wrap (IntKind.i64.wrap (len + 1)))) ≤ len := by
  rw [wrap_i64 (x := len + 1) (by omega) (by omega), wrap_u64 (x := len + 1) (by omega) (by omega)]
  have hu : 0 ≤ IntKind.u64.wrap cut := by rw [wrap_u64']; omega
  have h2 := Int.tmod_nonneg (len + 1) hu
  have h3 := Int.tmod_lt_of_pos (IntKind.u64.wrap cut) (show 0 < len + 1 by omega)
  rw [wrap_i64 (by omega) (by omega)]
  omega
abbrev rulesCuts_Ts : List Ty := [(.prod (.int .u8) Y8), (.int .i64)]
theorem rulesCuts_all (x : Tup rulesCuts_Ts) (hx : WfT rulesCuts_Ts x) : lq_RulesCuts x.1.1 x.1.2.1 x.1.2.2.1 x.1.2.2.2.1 x.1.2.2.2.2 x.2.1 = some true := by
  obtain ⟨⟨c, j, a, tr, l⟩, cut, u⟩ := x
  have hp : Pl c j a tr l := pl_wf hx.1
  have key : ∀ cut : Int, lq_RulesCuts c j a tr l cut = some true := fun cut => by
    unfold lq_RulesCuts
    rw [awake03]
    simp only [Option.bind_some, Bool.not_true, Bool.false_eq_true, if_false]
    rw [Text_eq hp]
    simp only [Option.bind_some]
    have hl := planT_len c j a tr l
    obtain ⟨k1, k2, k3⟩ := cuts_in (cut := cut) (len := (planT c j a tr l).length) (by omega) (by omega)
    rw [if_pos k1, if_pos ⟨Int.le_refl _, k2, k3⟩, told_all]
    rfl
  exact key cut
end Go.Proofs.Ytjfjigknkhgkdaa.T
