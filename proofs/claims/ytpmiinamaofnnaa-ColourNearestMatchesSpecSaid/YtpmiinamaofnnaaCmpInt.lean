/- cmp.Compare at ints. -/
import Derived.Test.YtpmiinamaofnnaaColour
namespace Go.Proofs.Ytpmiinamaofnnaa
open Go.RowKit
set_option linter.unusedVariables false
set_option linter.unusedSimpArgs false

theorem isNaN_any (x : Int) (w : World) : Calls Try.prog 32 #[.int .i64 x] w fun e w' => e = .returned (.bool false) ∧ w = w' := by
  go_enter Try.func32, Try.ntmps32
  go_wp2_with fail
  go_ret
  exact ⟨by simp, rfl⟩
set_option maxHeartbeats 1000000 in
theorem cmpInt_any (x y : Int) (w : World) : Calls Try.prog 19 #[.int .i64 x, .int .i64 y] w fun e w' => ∃ c : Int, e = .returned (.int .i64 c) ∧ (c < 0 ↔ x < y) ∧ w = w' := by
  rcases Int.lt_trichotomy x y with h | h | h
  · go_enter Try.func19, Try.ntmps19
    go_wp2_with (go_at_call 32; refine (isNaN_any _ _).mono ?_; rintro e w' ⟨rfl, rfl⟩)
    go_ret
    exact ⟨-1, rfl, by omega, rfl⟩
  · obtain rfl := h
    have h1 : ¬ x < x := by omega
    go_enter Try.func19, Try.ntmps19
    go_wp2_with (go_at_call 32; refine (isNaN_any _ _).mono ?_; rintro e w' ⟨rfl, rfl⟩)
    go_ret
    exact ⟨0, rfl, by omega, rfl⟩
  · have h1 : ¬ x < y := by omega
    go_enter Try.func19, Try.ntmps19
    go_wp2_with (go_at_call 32; refine (isNaN_any _ _).mono ?_; rintro e w' ⟨rfl, rfl⟩)
    go_ret
    exact ⟨1, rfl, by omega, rfl⟩
end Go.Proofs.Ytpmiinamaofnnaa
