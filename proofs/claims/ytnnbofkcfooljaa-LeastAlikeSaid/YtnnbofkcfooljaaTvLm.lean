/- Least: what Made makes is an automaton. -/
import Derived.Test.YtnnbofkcfooljaaTvLl
namespace Go.Proofs.Ytnnbofkcfooljaa.T
open Go Go.Tv Go.Proofs

theorem range_getL {f : Nat → List Int} {n s : Nat} (hs : s < n) : ((List.range n).map f).getD s [] = f s := by
  rw [List.getD_eq_getElem?_getD, List.getElem?_map, List.getElem?_range hs]
  rfl

theorem made_ok {d1 i1 : List Int} {c : Nat} (hd : 0 < d1.length) (hc4 : c ≤ 3) (h0 : ∀ x ∈ d1, 0 ≤ x) : OkA (madeN d1 i1 c (min d1.length 30)) (madeO d1 (min d1.length 30)) (min d1.length 30) c where
  hn := by simp [madeN]
  ho := by simp [madeO]
  pos := by omega
  small := by omega
  cs := by omega
  row s hs := by unfold madeN; rw [range_getL hs]; simp
  way s k hs hk := by
    unfold madeN
    rw [range_getL hs, range_get hk]
    have := wayM_in (i1 := i1) hd c s k
    omega
  out s hs := by
    unfold madeO
    rw [range_get hs]
    have hsl : s < d1.length := by omega
    have hx : 0 ≤ d1.getD s 0 := by
      rw [List.getD_eq_getElem?_getD, List.getElem?_eq_getElem hsl]
      exact h0 _ (List.getElem_mem hsl)
    rw [Int.tmod_eq_emod_of_nonneg hx]
    unfold In32
    omega
end Go.Proofs.Ytnnbofkcfooljaa.T
