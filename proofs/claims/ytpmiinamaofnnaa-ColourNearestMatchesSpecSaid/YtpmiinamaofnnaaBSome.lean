/- A text that is not empty is not the empty text. (lines of XDigits, for seats that have no texts) -/
import Derived.Test.YtpmiinamaofnnaaWide
namespace Go.Proofs.Ytpmiinamaofnnaa
open Go.RowKit
set_option linter.unusedVariables false

theorem bytes_some {s : ByteArray} (h : 0 < s.size) : ¬ s.toList = [] := by
  intro e
  rw [Lib.toList_data] at e
  have : s.data.size = 0 := by rw [← Array.length_toList, e]; rfl
  exact absurd h (by rw [show s.size = s.data.size from rfl, this]; decide)
theorem bytes_some' {s : ByteArray} (h : 0 < s.size) : s.toList.isEmpty = false := by
  have := bytes_some h
  cases hc : s.toList with
  | nil => exact absurd hc this
  | cons a t => rfl
theorem below_drewN' {B n : Nat} {a w : World} (h : Below B a w) : Below B a (w.drewN n) := ⟨h.os, h.tape, h.output, h.size, h.block⟩
end Go.Proofs.Ytpmiinamaofnnaa
