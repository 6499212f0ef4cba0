/- The reference's Show at any colour. (printed by wip/gen/gen_colref.py) -/
import Derived.Test.YtljgpiaihahneaaGreatDoorT65M19
import Derived.Test.YtljgpiaihahneaaGreatDoorT65M35

namespace Go.Proofs.YtljgpiaihahneaaGreatDoor
open Go.RowKit
set_option linter.unusedVariables false
set_option linter.unusedSimpArgs false

theorem rcshow_any (r g b : Int) (w : World) (hw : ColW w) :
    Calls Tryz.prog 16 #[.agg #[.int .i64 r, .int .i64 g, .int .i64 b]] w fun e w' => e = .returned (.tuple #[.string (colS r g b), .int .i64 (chkC r g b)]) ∧ Below w.heap.size w w' := by
  rcases chkC_cases r g b with ⟨h, ⟨h1, h2⟩, ⟨h3, h4⟩, h5, h6⟩ | h
  · unfold colS
    rw [if_pos h, h]
    obtain ⟨r, rfl⟩ := Int.eq_ofNat_of_zero_le h1
    obtain ⟨g, rfl⟩ := Int.eq_ofNat_of_zero_le h3
    obtain ⟨b, rfl⟩ := Int.eq_ofNat_of_zero_le h5
    simp only [Int.toNat_natCast]
    unfold colT
    by_cases hm : r % 257 = 0 ∧ g % 257 = 0 ∧ b % 257 = 0
    · rw [if_pos hm]
      exact rcshow_2 r g b w (by omega) (by omega) (by omega) hm hw
    · rw [if_neg hm]
      exact rcshow_4 r g b w (by omega) (by omega) (by omega) hm hw
  · unfold colS
    rw [if_neg (by rw [h]; decide), h]
    exact rcshow_no r g b w h
end Go.Proofs.YtljgpiaihahneaaGreatDoor
