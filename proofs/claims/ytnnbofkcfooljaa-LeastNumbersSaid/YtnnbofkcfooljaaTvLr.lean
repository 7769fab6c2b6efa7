/- LeastAlike, LeastCopies: for all data. -/
import Derived.Test.YtnnbofkcfooljaaTvLq
import Derived.Test.YtnnbofkcfooljaaTvV
namespace Go.Proofs.Ytnnbofkcfooljaa.T
open Go Go.Tv Go.Proofs

theorem lenOk {n : Nat} (h : n ≤ maxLen) : n ≤ 9223372036854775807 := Nat.le_trans h (by decide)
theorem wf_nonneg {d : List Int} (h : Wf (.slice (.int .u32)) d) : ∀ y ∈ d, 0 ≤ y := fun y hy => by
  obtain ⟨j, hj, rfl⟩ := List.getElem_of_mem hy
  exact (h.2 j hj).1

abbrev leastAlike_Ts : List Ty := [.slice (.int .u32), .slice (.int .i64), .int .u8, .slice (.int .i64)]
theorem leastAlike_all (x : Tup leastAlike_Ts) (hx : WfT leastAlike_Ts x) : stanzalaw05_LeastAlike x.1 x.2.1 x.2.2.1 x.2.2.2.1 = some true :=
  leastAlike_true (wf_nonneg hx.1) hx.2.2.1 (lenOk hx.2.1.1)
abbrev leastCopies_Ts : List Ty := [.slice (.int .u32), .slice (.int .i64), .int .u8, .slice (.int .i64)]
theorem leastCopies_all (x : Tup leastCopies_Ts) (hx : WfT leastCopies_Ts x) : stanzalaw05_LeastCopies x.1 x.2.1 x.2.2.1 x.2.2.2.1 = some true :=
  leastCopies_true (wf_nonneg hx.1) hx.2.2.1 (lenOk hx.2.1.1) (lenOk hx.2.2.2.1.1)
end Go.Proofs.Ytnnbofkcfooljaa.T
