/- The contract of the reference's give. -/
import Derived.Test.YtdicoggpcobbpaaDoorNatTake
namespace Go.Proofs.YtdicoggpcobbpaaDoor
open Go.RowKit
set_option linter.unusedVariables false
set_option linter.unusedSimpArgs false

/-- what give leaves -/
def giveX (Z y j n : Nat) : Nat := lowHigh Z ((Z / BB ^ j + y) % BB ^ n) j
theorem giveX_start (Z y j n T : Nat) : mcells (giveX Z y j n) Z j T = dcells Z T := by
  refine mcells_eq fun p hp => ?_
  by_cases h : p < j
  · rw [mixd_low h]; exact lowHigh_dg_low _ _ h
  · exact mixd_high (by omega)
theorem giveX_end {Z y j n T : Nat} (hW : Z / BB ^ j < BB ^ n) : mcells (giveX Z y j n) Z (j + n) T = dcells (giveX Z y j n) T := by
  refine mcells_eq fun p hp => ?_
  by_cases h : p < j + n
  · exact mixd_low h
  · rw [mixd_high (by omega)]
    obtain ⟨k, rfl⟩ : ∃ k, p = j + k := ⟨p - j, by omega⟩
    unfold giveX
    rw [lowHigh_dg_high, ← dg_div, dg_zero_of_lt (lt_pow hW (by omega)), dg_zero_of_lt (lt_pow (Nat.mod_lt _ (BBp n)) (by omega))]
theorem giveX_dg {Z y j n i : Nat} (hi : i < n) : dg (giveX Z y j n) (j + i) = dg (Z / BB ^ j + y) i := by
  unfold giveX
  rw [lowHigh_dg_high, dg_mod hi]

def GiveP (base Z y j n g T cx : Nat) (w : World) (e : Ending) (w' : World) : Prop :=
  (∃ v, e = .returned v) ∧ Row base w' g T cx (dcells (giveX Z y j n) T) ∧ w.grownBy w' (some g)

end Go.Proofs.YtdicoggpcobbpaaDoor
