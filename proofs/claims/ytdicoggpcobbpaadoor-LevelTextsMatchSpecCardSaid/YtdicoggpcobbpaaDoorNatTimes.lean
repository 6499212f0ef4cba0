/- The contract of the reference's times. -/
import Derived.Test.YtdicoggpcobbpaaDoorNatMut
import Derived.Deep.QuietTactic
import Derived.BigQuiet
namespace Go.Proofs.YtdicoggpcobbpaaDoor
open Go.RowKit
set_option linter.unusedVariables false
set_option linter.unusedSimpArgs false

/-- what the outer loop has done behind i places -/
def timS (n m i : Nat) : Nat := n % BB ^ i * m
theorem timS_zero (n m : Nat) : timS n m 0 = 0 := by simp [timS, Nat.mod_one]
theorem timS_all {n m L : Nat} (h : n < BB ^ L) : timS n m L = n * m := by unfold timS; rw [Nat.mod_eq_of_lt h]
theorem timS_succ (n m i : Nat) : timS n m (i + 1) = timS n m i + dg n i * m * BB ^ i := row_next n m i
theorem timS_low {n m M i : Nat} (hm : m < BB ^ M) : timS n m i / BB ^ i < BB ^ M := low_lt hm
theorem timS_dg (n m i k : Nat) : dg (timS n m (i + 1)) (i + k) = (dg (timS n m i) (i + k) + accC (timS n m i / BB ^ i) m (dg n i) k + dg n i * dg m k) % BB := by
  rw [timS_succ, dg_add_at, accC_dg, dg_div]
theorem timS_carry (n m i k : Nat) : accC (timS n m i / BB ^ i) m (dg n i) (k + 1) = (dg (timS n m i) (i + k) + accC (timS n m i / BB ^ i) m (dg n i) k + dg n i * dg m k) / BB := by
  rw [accC_succ, dg_div]
/-- where the inner loop ends, the row is that of the next place -/
theorem timS_end {n m M i k T : Nat} (hm : m < BB ^ M) (hk : M ≤ k) (hc : accC (timS n m i / BB ^ i) m (dg n i) k = 0) : mcells (timS n m (i + 1)) (timS n m i) (i + k) T = dcells (timS n m (i + 1)) T := by
  refine mcells_eq fun p hp => ?_
  by_cases h : p < i + k
  · exact mixd_low h
  · rw [mixd_high (by omega)]
    have h1 : timS n m i / BB ^ i < BB ^ k := Nat.lt_of_lt_of_le (timS_low hm) (pow_mono hk)
    have h2 := acc_all h1 (Nat.lt_of_lt_of_le hm (pow_mono hk)) hc
    obtain ⟨q, rfl⟩ : ∃ q, p = i + q := ⟨p - i, by omega⟩
    rw [timS_succ, dg_add_at, dg_zero_of_lt (Nat.lt_of_lt_of_le h2 (pow_mono (by omega))), ← dg_div, dg_zero_of_lt (Nat.lt_of_lt_of_le h1 (pow_mono (by omega)))]
theorem timS_start {n m i T : Nat} : mcells (timS n m (i + 1)) (timS n m i) i T = dcells (timS n m i) T := by
  refine mcells_eq fun p hp => ?_
  by_cases h : p < i
  · rw [mixd_low h, timS_succ, dg_add_high _ _ _ _ h]
  · exact mixd_high (by omega)
theorem timS_lt {n m L M : Nat} (hn : n < BB ^ L) (hm : m < BB ^ M) : n * m < BB ^ (L + M + 1) := by
  have h1 : n * m ≤ BB ^ L * BB ^ M := Nat.mul_le_mul (Nat.le_of_lt hn) (Nat.le_of_lt hm)
  rw [← Nat.pow_add] at h1
  have h2 : BB ^ (L + M) < BB ^ (L + M + 1) := Nat.pow_lt_pow_right (by decide) (by omega)
  omega

theorem mul_le9 {x y : Nat} (hx : (x : Int) ≤ 999999999) (hy : (y : Int) ≤ 999999999) : x * y ≤ 999999998000000001 := by
  have h1 : x ≤ 999999999 := by omega
  have h2 : y ≤ 999999999 := by omega
  exact Nat.mul_le_mul h1 h2
theorem tim_sum {o c x y : Nat} (ho : (o : Int) ≤ 999999999) (hc : c ≤ x) (hx : (x : Int) ≤ 999999999) (hy : (y : Int) ≤ 999999999) : wrap64 ((o : Int) + (c : Int) + wrap64 ((x : Int) * (y : Int))) = ((o + c + x * y : Nat) : Int) := by
  have h := mul_le9 hx hy
  rw [← Int.natCast_mul]
  generalize x * y = p at *
  have h1 : wrap64 (p : Int) = (p : Int) := IntWalk.wrap64_in _ ⟨by omega, by omega⟩
  rw [h1, IntWalk.wrap64_in _ ⟨by omega, by omega⟩]
  omega
theorem dig_mod {S d : Nat} (h : d = S % BB) : Int.tmod (S : Int) 1000000000 = (d : Int) := by
  rw [h]
  unfold BB
  exact tmod_nat S 1000000000
theorem dig_div {S d : Nat} (h : d = S / BB) : Int.tdiv (S : Int) 1000000000 = (d : Int) := by
  rw [h]
  unfold BB
  exact tdiv_nat S 1000000000
theorem dig_emod {S d : Nat} (h : d = S % BB) : (S : Int) % 1000000000 = (d : Int) := by
  rw [h]
  unfold BB
  omega
theorem dig_ediv {S d : Nat} (h : d = S / BB) : (S : Int) / 1000000000 = (d : Int) := by
  rw [h]
  unfold BB
  omega
theorem carry_small {o c x y cn : Nat} (ho : (o : Int) ≤ 999999999) (hc : c ≤ x) (hx : (x : Int) ≤ 999999999) (hy : (y : Int) ≤ 999999999) (h : cn = (o + c + x * y) / BB) : wrap64 (cn : Int) = (cn : Int) := by
  have h2 := mul_le9 hx hy
  unfold BB at h
  exact IntWalk.wrap64_in _ ⟨by omega, by omega⟩

end Go.Proofs.YtdicoggpcobbpaaDoor
