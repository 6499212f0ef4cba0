/- The walk of cycloramalaw9.WireSumsMatchSpec: for every row of bytes it returns true. -/
import Derived.Test.YtfipkljefmfhmaaBytes
namespace Go.Proofs.Ytfipkljefmfhmaa.wireSumsMatchSpec
open Go.RowKit

set_option maxHeartbeats 1000000 in
theorem walk (a0 : Value) (w : World) (w0 : ∃ l, BytesV w a0 l) :
    Calls Try.prog 3 #[a0] w fun e w' => e = .returned (.bool true) ∧ Below w.heap.size w w' := by
  obtain ⟨l, hl⟩ := w0
  have S1 := Lib.hid (sumV a0 l w hl)
  have S2 := Lib.hid (refSumV a0 l w hl)
  clear hl
  generalize ((crc l : Nat) : Int) = c at *
  go_enter Try.func3, Try.ntmps3
  go_wp2_with fail
  refine S1.out.mono ?_
  rintro e w1 ⟨rfl, rfl⟩
  go_wp2_with fail
  refine S2.out.mono ?_
  rintro e w1 ⟨rfl, rfl⟩
  go_wp2
  go_ret
  exact ⟨rfl, Below.refl _ _⟩
end Go.Proofs.Ytfipkljefmfhmaa.wireSumsMatchSpec
