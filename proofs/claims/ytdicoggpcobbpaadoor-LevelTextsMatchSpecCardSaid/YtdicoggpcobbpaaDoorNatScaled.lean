/- The contracts of the reference's scaled and short. -/
import Derived.Test.YtdicoggpcobbpaaDoorNatTimes
namespace Go.Proofs.YtdicoggpcobbpaaDoor
open Go.RowKit
set_option linter.unusedVariables false
set_option linter.unusedSimpArgs false

def scC (a f k : Nat) : Nat := accC 0 a f k
theorem scC_zero (a f : Nat) : scC a f 0 = 0 := accC_zero _ _ _
theorem dg_nil (k : Nat) : dg 0 k = 0 := by simp [dg]
theorem sc_dg (a f k : Nat) : dg (f * a) k = (dg a k * f + scC a f k) % BB := by
  have := accC_dg 0 a f k
  rw [Nat.zero_add, dg_nil, Nat.zero_add, Nat.add_comm (accC 0 a f k), Nat.mul_comm f (dg a k)] at this
  exact this
theorem sc_succ (a f k : Nat) : scC a f (k + 1) = (dg a k * f + scC a f k) / BB := by
  have := accC_succ 0 a f k
  rw [dg_nil, Nat.zero_add, Nat.add_comm (accC 0 a f k), Nat.mul_comm f (dg a k)] at this
  exact this
theorem sc_le (a f k : Nat) : scC a f k ≤ f := accC_le _ _ _ _
theorem sc_all {a f k : Nat} (ha : a < BB ^ k) (h : scC a f k = 0) : f * a < BB ^ k := by
  have := acc_all (T := 0) (BBp k) ha h
  rwa [Nat.zero_add] at this
theorem prod_nat (x f : Nat) (hx : (x : Int) ≤ 999999999) (hf : (f : Int) ≤ 500000000) : ∃ p : Nat, x * f = p ∧ (x : Int) * (f : Int) = (p : Int) ∧ (p : Int) ≤ 999999999000000000 := by
  refine ⟨x * f, rfl, (Int.natCast_mul x f).symm, ?_⟩
  have h1 : x ≤ 999999999 := by omega
  have h2 : f ≤ 500000000 := by omega
  have := Nat.mul_le_mul h1 h2
  omega

end Go.Proofs.YtdicoggpcobbpaaDoor
