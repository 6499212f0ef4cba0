/- strconv.Itoa where the table of powers is laid. -/
import Derived.Test.YtabalicembhjmaaDoorShelf
import Derived.Lib.LaidTab
import Derived.WalkSmall
import Derived.Lib.AppendIntMem
import Derived.Lib.ItoaLen

namespace Go.Proofs.YtabalicembhjmaaDoor
open Go.RowKit
set_option linter.unusedVariables false
set_option linter.unusedSimpArgs false

theorem gPow : Tryd.prog.globalNamed "internal/strconv.uint64pow10" = some 0 := by kernel_rfl
/-- what a world must hold for numbers' texts -/
structure TextW (w : World) : Prop where
  pow : Lib.TabIs Tryd.prog w "internal/strconv.uint64pow10" .u64 Lib.pow10Tab
  sz : 0 + 1 ≤ w.heap.size
theorem TextW.below {w W : World} (h : TextW w) (hb : Below w.heap.size w W) : TextW W :=
  ⟨var?_below hb gPow (by have := h.sz; omega) h.pow, Nat.le_trans h.sz hb.size⟩
/-- the numeral of a number -/
def itT (n : Int) : ByteArray := ⟨(Lib.itoa n).toArray⟩
theorem itT_le (n : Int) (h0 : -9223372036854775808 ≤ n) (h1 : n ≤ 9223372036854775807) : (itT n).size ≤ 21 := by
  have := Lib.itoa_length_le n h0 h1
  unfold itT
  rw [Lib.size_eq]
  simpa using this
theorem itoa_int (n : Int) (w : World) (h0 : -9223372036854775808 ≤ n) (h1 : n ≤ 9223372036854775807) (hT : TextW w) :
    Calls Tryd.prog 24 #[.int .i64 n] w fun e w' => e = .returned (.string (itT n)) ∧ Below w.heap.size w w' := by
  refine (Tryd.strconv_Itoa n h0 h1 w hT.pow).mono ?_
  rintro e w' ⟨rfl, k, os, rfl⟩
  exact ⟨rfl, Lib.below_grow _ w (Nat.le_refl _) k os⟩
end Go.Proofs.YtabalicembhjmaaDoor
