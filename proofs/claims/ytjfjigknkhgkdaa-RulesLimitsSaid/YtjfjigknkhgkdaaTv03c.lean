/- RulesLimits: any numbers. -/
import Derived.Test.YtjfjigknkhgkdaaTv03b
import Derived.Test.YtjfjigknkhgkdaaTvV
namespace Go.Proofs.Ytjfjigknkhgkdaa.T
open Go Go.Tv Go.Proofs
theorem limits_mod (d i : Int) : stanzalaw03_RulesLimits d i = stanzalaw03_RulesLimits (Int.tmod d 4) (Int.tmod i 2) := by
  have e1 : Int.tmod (Int.tmod d 4) 4 = Int.tmod d 4 := by simp
  have e2 : Int.tmod (Int.tmod i 2) 2 = Int.tmod i 2 := by simp
  have h1 : stanzalaw03_RulesLimits_L1 i = stanzalaw03_RulesLimits_L1 (Int.tmod i 2) := by unfold stanzalaw03_RulesLimits_L1; rw [e2]
  have h2 : stanzalaw03_RulesLimits_L2 i = stanzalaw03_RulesLimits_L2 (Int.tmod i 2) := by unfold stanzalaw03_RulesLimits_L2; rw [e2]
  have h3 : stanzalaw03_RulesLimits_L3 i = stanzalaw03_RulesLimits_L3 (Int.tmod i 2) := by unfold stanzalaw03_RulesLimits_L3; rw [e2]
  have h4 : stanzalaw03_RulesLimits_L4 i = stanzalaw03_RulesLimits_L4 (Int.tmod i 2) := by unfold stanzalaw03_RulesLimits_L4; rw [e2]
  have h5 : stanzalaw03_RulesLimits_L5 i = stanzalaw03_RulesLimits_L5 (Int.tmod i 2) := by unfold stanzalaw03_RulesLimits_L5; rw [e2]
  unfold stanzalaw03_RulesLimits
  rw [e1, e2, h1, h2, h3, h4, h5]

abbrev rulesLimits_Ts : List Ty := [(.int .u8), (.int .u8)]
theorem rulesLimits_all (x : Tup rulesLimits_Ts) (hx : WfT rulesLimits_Ts x) : stanzalaw03_RulesLimits x.1 x.2.1 = some true := by
  obtain ⟨d, i, u⟩ := x
  have key : ∀ (m : Int) (k : Nat), (0 : Int) ≤ m → Int.tmod m k = ((m.toNat % k : Nat) : Int) := fun m k h => by
    obtain ⟨m, rfl⟩ := Int.eq_ofNat_of_zero_le h
    rfl
  have e1 := key d 4 hx.1.1
  have e2 := key i 2 hx.2.1.1
  show stanzalaw03_RulesLimits d i = some true
  rw [limits_mod]
  rw [show Int.tmod d 4 = ((d.toNat % 4 : Nat) : Int) from e1, show Int.tmod i 2 = ((i.toNat % 2 : Nat) : Int) from e2]
  have h1 : d.toNat % 4 < 4 := Nat.mod_lt _ (by decide)
  have h2 : i.toNat % 2 < 2 := Nat.mod_lt _ (by decide)
  generalize d.toNat % 4 = w at h1
  generalize i.toNat % 2 = m at h2
  match w, h1, m, h2 with
  | 0, _, 0, _ => exact lim00
  | 0, _, 1, _ => exact lim01
  | 1, _, 0, _ => exact lim10
  | 1, _, 1, _ => exact lim11
  | 2, _, 0, _ => exact lim20
  | 2, _, 1, _ => exact lim21
  | 3, _, 0, _ => exact lim30
  | 3, _, 1, _ => exact lim31
end Go.Proofs.Ytjfjigknkhgkdaa.T
