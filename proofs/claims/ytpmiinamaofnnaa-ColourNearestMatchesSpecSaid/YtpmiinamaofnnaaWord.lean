/- Contracts of the small functions of package word and level: Floor, Round, First, When, levels. No conditions but those that each theorem states. -/
import Derived.Test.YtpmiinamaofnnaaProg
import Derived.Test.YtpmiinamaofnnaaLvPlain
import Derived.WalkKit
import Derived.WalkSpells
import Derived.WalkLawsBesides
import Derived.Lib.Hide
namespace Go.Proofs.Ytpmiinamaofnnaa
open Go.RowKit

/-- Go's Floor for a divisor above 0 is the quotient rounded down. -/
theorem tdiv_floor (n d : Int) (hd : 0 < d) : (if n.tmod d < 0 then n.tdiv d - 1 else n.tdiv d) = n / d := by
  have h1 := @Int.tmod_eq_emod n d
  have h2 := @Int.tdiv_eq_ediv n d
  have h3 := Int.emod_nonneg n (b := d) (by omega)
  have h4 := Int.emod_lt_of_pos n hd
  have h5 : d.sign = 1 := Int.sign_eq_one_of_pos hd
  by_cases hn : 0 ≤ n ∨ d ∣ n
  · rw [if_pos hn] at h1 h2
    rw [if_neg (by omega)]; omega
  · rw [if_neg hn] at h1 h2
    rw [h5] at h2
    have h6 : ((d.natAbs : Nat) : Int) = d := by omega
    rw [h6] at h1
    rw [if_pos (by omega)]; omega

theorem ediv_bounds (n d B : Int) (hd : 0 < d) (hB : 0 ≤ B) (h1 : -B ≤ n) (h2 : n ≤ B) : -B ≤ n / d ∧ n / d ≤ B := by
  refine ⟨?_, ?_⟩
  · rw [Int.le_ediv_iff_mul_le hd]
    have : B * 1 ≤ B * d := Int.mul_le_mul_of_nonneg_left (by omega) hB
    have e : -B * d = -(B * d) := by rw [Int.neg_mul]
    omega
  · refine Int.ediv_le_of_le_mul hd ?_
    have : B * 1 ≤ B * d := Int.mul_le_mul_of_nonneg_left (by omega) hB
    omega

set_option maxHeartbeats 400000 in
theorem within_yes (n lo hi : Int) (w : World) (h : lo ≤ n ∧ n ≤ hi) :
    Calls Try.prog 15 #[.int .i64 n, .int .i64 lo, .int .i64 hi] w fun e w' => e = .returned (.bool true) ∧ w = w' := by
  obtain ⟨h1, h2⟩ := h
  have e2 : decide (n ≤ hi) = true := by simpa using h2
  go_enter Try.func15, Try.ntmps15
  go_wp2
  go_ret
  exact ⟨rfl, rfl⟩

set_option maxHeartbeats 400000 in
theorem within_no (n lo hi : Int) (w : World) (h : n < lo ∨ hi < n) :
    Calls Try.prog 15 #[.int .i64 n, .int .i64 lo, .int .i64 hi] w fun e w' => e = .returned (.bool false) ∧ w = w' := by
  by_cases h1 : lo ≤ n
  · have e2 : decide (n ≤ hi) = false := by simp; omega
    have h2 : hi < n := by omega
    clear h
    go_enter Try.func15, Try.ntmps15
    go_wp2
    go_ret
    exact ⟨rfl, rfl⟩
  · have h2 : n < lo := by omega
    clear h
    go_enter Try.func15, Try.ntmps15
    go_wp2
    go_ret
    exact ⟨rfl, rfl⟩

end Go.Proofs.Ytpmiinamaofnnaa
