/- AutoLimits: any number. -/
import Derived.Test.YtnjdmbifjbahdaaTv04b
import Derived.Test.YtnjdmbifjbahdaaTv04c
import Derived.Test.YtnjdmbifjbahdaaTv04d
import Derived.Test.YtnjdmbifjbahdaaTv04e
import Derived.Test.YtnjdmbifjbahdaaTvV
namespace Go.Proofs.Ytnjdmbifjbahdaa.T
open Go Go.Tv Go.Proofs
theorem limits_mod (n : Int) : stanzalaw04_AutoLimits n = stanzalaw04_AutoLimits (Int.tmod n 11) := by
  have e : Int.tmod (Int.tmod n 11) 11 = Int.tmod n 11 := by simp
  have hL : stanzalaw04_AutoLimits_L1 n = stanzalaw04_AutoLimits_L1 (Int.tmod n 11) := by
    unfold stanzalaw04_AutoLimits_L1
    rw [e]
  unfold stanzalaw04_AutoLimits
  rw [e, hL]

abbrev autoLimits_Ts : List Ty := [(.int .u8)]
theorem autoLimits_all (x : Tup autoLimits_Ts) (hx : WfT autoLimits_Ts x) : stanzalaw04_AutoLimits x.1 = some true := by
  obtain ⟨n, u⟩ := x
  have key : ∀ m : Int, (0 : Int) ≤ m → m ≤ 255 → 0 ≤ m ∧ m < 256 := fun m h1 h2 => ⟨h1, by omega⟩
  have h0 := key n hx.1.1 hx.1.2
  show stanzalaw04_AutoLimits n = some true
  rw [limits_mod]
  have h1 : Int.tmod n 11 = ((n.toNat % 11 : Nat) : Int) := by
    obtain ⟨m, rfl⟩ := Int.eq_ofNat_of_zero_le h0.1
    rfl
  rw [h1]
  have h2 : n.toNat % 11 < 11 := Nat.mod_lt _ (by decide)
  generalize n.toNat % 11 = k at h2
  match k, h2 with
  | 0, _ => exact lim0
  | 1, _ => exact lim1
  | 2, _ => exact lim2
  | 3, _ => exact lim3
  | 4, _ => exact lim4
  | 5, _ => exact lim5
  | 6, _ => exact lim6
  | 7, _ => exact lim7
  | 8, _ => exact lim8
  | 9, _ => exact lim9
  | 10, _ => exact lim10
end Go.Proofs.Ytnjdmbifjbahdaa.T
