/- RulesTexts: any text. -/
import Derived.Test.YtjfjigknkhgkdaaTv03n
import Derived.Test.YtjfjigknkhgkdaaTvT03xRulesTexts
namespace Go.Proofs.Ytjfjigknkhgkdaa.T
open Go Go.Tv Go.Proofs
abbrev rulesTexts_Ts : List Ty := [.str]
theorem rulesTexts_all (x : Tup rulesTexts_Ts) (_ : WfT rulesTexts_Ts x) : lq_RulesTexts x.1 = some true := by
  unfold lq_RulesTexts
  rw [awake03]
  simp only [Option.bind_some, Bool.not_true, Bool.false_eq_true, if_false]
  split
  · rfl
  · rw [told_all]; rfl
end Go.Proofs.Ytjfjigknkhgkdaa.T
