/- Contracts of the small functions of package word and level: Floor, Round, First, When, levels. No conditions but those that each theorem states. -/
import Derived.Test.YtfidbdegggalmaaGreatDoorProg
import Derived.Test.YtfidbdegggalmaaGreatDoorT66M03
import Derived.WalkKit
import Derived.WalkSpells
import Derived.WalkLawsBesides
import Derived.Lib.Hide

namespace Go.Proofs.YtfidbdegggalmaaGreatDoor
open Go.RowKit

/-- Go's Floor for a divisor above 0 is the quotient rounded down. -/
theorem tdiv_floor (n d : Int) (hd : 0 < d) : (if n.tmod d < 0 then n.tdiv d - 1 else n.tdiv d) = n / d := by
  have h1 := @Int.tmod_eq_emod n d
  have h2 := @Int.tdiv_eq_ediv n d
  have h3 := Int.emod_nonneg n (b := d) (by omega)
  have h4 := Int.emod_lt_of_pos n hd
  have h5 : d.sign = 1 := Int.sign_eq_one_of_pos hd
  by_cases hn : 0 ≤ n ∨ d ∣ n
  · rw [if_pos hn] at h1 h2
    rw [if_neg (by omega)]; omega
  · rw [if_neg hn] at h1 h2
    rw [h5] at h2
    have h6 : ((d.natAbs : Nat) : Int) = d := by omega
    rw [h6] at h1
    rw [if_pos (by omega)]; omega

theorem ediv_bounds (n d B : Int) (hd : 0 < d) (hB : 0 ≤ B) (h1 : -B ≤ n) (h2 : n ≤ B) : -B ≤ n / d ∧ n / d ≤ B := by
  refine ⟨?_, ?_⟩
  · rw [Int.le_ediv_iff_mul_le hd]
    have : B * 1 ≤ B * d := Int.mul_le_mul_of_nonneg_left (by omega) hB
    have e : -B * d = -(B * d) := by rw [Int.neg_mul]
    omega
  · refine Int.ediv_le_of_le_mul hd ?_
    have : B * 1 ≤ B * d := Int.mul_le_mul_of_nonneg_left (by omega) hB
    omega

set_option maxHeartbeats 400000 in
theorem floor_any (n d : Int) (w : World) (hd : 0 < d) (h1 : -9223372036854775807 ≤ n) (h2 : n ≤ 9223372036854775807) (h3 : d ≤ 9223372036854775807) :
    Calls Tryz.prog 50 #[.int .i64 n, .int .i64 d] w fun e w' => e = .returned (.int .i64 (n / d)) ∧ w = w' := by
  have hb := ediv_bounds n d 9223372036854775807 hd (by omega) (by omega) h2
  have hf := tdiv_floor n d hd
  by_cases hn : n.tmod d < 0
  · rw [if_pos hn] at hf
    have hw : wrap64 (n.tdiv d - 1) = n / d := by rw [hf]; exact IntWalk.wrap64_in _ ⟨by omega, by omega⟩
    have H := Lib.hid hw
    clear hw hf hb
    go_enter Tryz.func50, Tryz.ntmps50
    go_wp2
    go_ret
    exact ⟨by rw [H.out]; rfl, rfl⟩
  · rw [if_neg hn] at hf
    have H := Lib.hid hf
    clear hf hb
    go_enter Tryz.func50, Tryz.ntmps50
    go_wp2
    go_ret
    exact ⟨by rw [H.out]; rfl, rfl⟩

set_option maxHeartbeats 400000 in
theorem round_any (n d : Int) (w : World) (hd : 0 < d) (h1 : -2305843009213693952 ≤ n) (h2 : n ≤ 2305843009213693952) (h3 : d ≤ 2305843009213693952) :
    Calls Tryz.prog 38 #[.int .i64 n, .int .i64 d] w fun e w' => e = .returned (.int .i64 (rnd n d)) ∧ w = w' := by
  go_enter Tryz.func38, Tryz.ntmps38
  go_wp2_with (go_at_call 50; refine (floor_any _ _ _ (by omega) (by omega) (by omega) (by omega)).mono ?_; rintro e w' ⟨rfl, rfl⟩)
  go_ret
  exact ⟨rfl, rfl⟩

set_option maxHeartbeats 400000 in
theorem within_yes (n lo hi : Int) (w : World) (h : lo ≤ n ∧ n ≤ hi) :
    Calls Tryz.prog 26 #[.int .i64 n, .int .i64 lo, .int .i64 hi] w fun e w' => e = .returned (.bool true) ∧ w = w' := by
  obtain ⟨h1, h2⟩ := h
  have e2 : decide (n ≤ hi) = true := by simpa using h2
  go_enter Tryz.func26, Tryz.ntmps26
  go_wp2
  go_ret
  exact ⟨rfl, rfl⟩

set_option maxHeartbeats 400000 in
theorem within_no (n lo hi : Int) (w : World) (h : n < lo ∨ hi < n) :
    Calls Tryz.prog 26 #[.int .i64 n, .int .i64 lo, .int .i64 hi] w fun e w' => e = .returned (.bool false) ∧ w = w' := by
  by_cases h1 : lo ≤ n
  · have e2 : decide (n ≤ hi) = false := by simp; omega
    have h2 : hi < n := by omega
    clear h
    go_enter Tryz.func26, Tryz.ntmps26
    go_wp2
    go_ret
    exact ⟨rfl, rfl⟩
  · have h2 : n < lo := by omega
    clear h
    go_enter Tryz.func26, Tryz.ntmps26
    go_wp2
    go_ret
    exact ⟨rfl, rfl⟩

set_option maxHeartbeats 400000 in
theorem isLevel_yes (n : Int) (w : World) (h : 0 ≤ n ∧ n ≤ 65535) :
    Calls Tryz.prog 35 #[.int .i64 n] w fun e w' => e = .returned (.bool true) ∧ w = w' := by
  go_enter Tryz.func35, Tryz.ntmps35
  go_wp2_with (go_at_call 26; refine (within_yes _ _ _ _ h).mono ?_; rintro e w' ⟨rfl, rfl⟩)
  go_ret
  exact ⟨rfl, rfl⟩

set_option maxHeartbeats 400000 in
theorem isLevel_no (n : Int) (w : World) (h : n < 0 ∨ 65535 < n) :
    Calls Tryz.prog 35 #[.int .i64 n] w fun e w' => e = .returned (.bool false) ∧ w = w' := by
  go_enter Tryz.func35, Tryz.ntmps35
  go_wp2_with (go_at_call 26; refine (within_no _ _ _ _ h).mono ?_; rintro e w' ⟨rfl, rfl⟩)
  go_ret
  exact ⟨rfl, rfl⟩

end Go.Proofs.YtfidbdegggalmaaGreatDoor
