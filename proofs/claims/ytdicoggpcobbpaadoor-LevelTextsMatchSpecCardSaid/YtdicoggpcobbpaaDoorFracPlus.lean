/- The contract of the reference's Plus. -/
import Derived.Test.YtdicoggpcobbpaaDoorFracTimes
import Derived.Test.YtdicoggpcobbpaaDoorNatMinus
namespace Go.Proofs.YtdicoggpcobbpaaDoor
open Go.RowKit
set_option linter.unusedVariables false
set_option linter.unusedSimpArgs false

theorem sg_scale (s : Bool) (n d : Nat) : sg s n * (d : Int) = sg s (n * d) := by cases s <;> simp [sg, Int.neg_mul]
theorem sg_add (s : Bool) (n m : Nat) : sg s n + sg s m = sg s (n + m) := by cases s <;> simp [sg] <;> omega
theorem sg_sub (s : Bool) {n m : Nat} (h : m ≤ n) : sg s n + sg (!s) m = sg s (n - m) := by cases s <;> simp [sg] <;> omega
theorem sg_sub' (s : Bool) {n m : Nat} (h : n ≤ m) : sg s n + sg (!s) m = sg (!s) (m - n) := by cases s <;> simp [sg] <;> omega
theorem Fit.mul {n d : Nat} (h1 : n < BB ^ 6) (h2 : d < BB ^ 5) : Fit (n * d) := by
  have h : n * d ≤ BB ^ 6 * BB ^ 5 := Nat.mul_le_mul (Nat.le_of_lt h1) (Nat.le_of_lt h2)
  rw [← Nat.pow_add] at h
  exact Nat.lt_of_le_of_lt h (Nat.pow_lt_pow_right (by decide) (by omega))
theorem ordV_neg {n m : Nat} (h : n < m) : ordV n m = -1 := ordV_less h

end Go.Proofs.YtdicoggpcobbpaaDoor
