/- The walk of cycloramalaw1.LevelOctetsComeBack: for every byte it returns true. -/
import Derived.Test.YthoiamaomhggiaaWord
namespace Go.Proofs.Ythoiamaomhggiaa.levelOctetsComeBack
open Go.RowKit

theorem back (a : Int) : rnd (a * 257 * 255) 65535 = a := by
  unfold rnd; omega

set_option maxHeartbeats 400000 in
theorem walk (a0 : Int) (w0 : (Lit.int .u8 a0).wf = true) (w : World) :
    Calls Try.prog 3 #[.int .u8 a0] w fun e w' => e = .returned (.bool true) ∧ Grown w w' := by
  have hb : 0 ≤ a0 ∧ a0 ≤ 255 := by
    simp [Lit.wf, IntKind.min, IntKind.max, IntKind.signed, IntKind.bits] at w0
    omega
  obtain ⟨hb0, hb1⟩ := hb
  clear w0
  go_enter Try.func3, Try.ntmps3
  go_wp2_with (first | (go_at_call 44; refine (isLevel_yes _ _ (by omega)).mono ?_; rintro e w' ⟨rfl, rfl⟩) | (go_at_call 45; refine (round_any _ _ _ (by omega) (by omega) (by omega) (by omega)).mono ?_; rintro e w' ⟨rfl, rfl⟩; rw [back a0]) | go_in)
  go_ret
  exact ⟨rfl, Grown.refl _⟩
end Go.Proofs.Ythoiamaomhggiaa.levelOctetsComeBack
