/- The walk of cycloramalaw3.ColourBooksComeBack: for every book it returns true. -/
import Derived.Test.YtljgpiaihahneaaDoorBookText
import Derived.Test.YtljgpiaihahneaaDoorBkRead
import Derived.Test.YtljgpiaihahneaaDoorBookBack
import Derived.Test.YtljgpiaihahneaaDoorGelEq
namespace Go.Proofs.YtljgpiaihahneaaDoor.colourBooksComeBack
open Go.RowKit
set_option linter.unusedVariables false
set_option linter.unusedSimpArgs false

set_option maxHeartbeats 8000000 in
set_option maxRecDepth 100000 in
theorem walk (a0 : Value) (w : World) (w0 : ∃ l, GelS w.heap.size w a0 l ∧ ∀ x ∈ l, GelFit x) (hT : TextW w ∧ ColW w) :
    Calls Tryd.prog 5 #[a0] w fun e w' => e = .returned (.bool true) ∧ Below w.heap.size w w' := by
  obtain ⟨l, hl, hf⟩ := w0
  obtain ⟨hT, hC⟩ := hT
  have CB := Lib.hid (bookText_any a0 l w hT hC hl hf)
  have HLW := Lib.hid hl
  by_cases hE : chkBook l = 0
  · obtain ⟨b1, b2, b3⟩ := book_back hE hf
    have hsz : (bookB l).size ≤ 9223372036854775807 := by
      have := bookB_le hE hf l.length (Nat.le_refl _)
      rw [List.take_length] at this
      have := (chkBook_ok hE).1
      omega
    rw [bookT_ok hE, hE] at CB
    have CR := Lib.hid (fun W (hb : Below w.heap.size w W) => readBook_any (bookB l) W (hT.below hb) hsz)
    unfold RbPost at CR
    rw [b1, b2, b3] at CR
    generalize bookB l = s at *
    obtain ⟨ao, cap, rfl, _⟩ := hl
    clear hT hC hE b1 b2 b3 hsz hf
    go_enter Tryd.func5, Tryd.ntmps5
    go_wp2_with fail
    refine CB.out.mono ?_
    rintro e w1 ⟨rfl, hb1⟩
    have HB1 := Lib.hid hb1
    clear hb1
    go_wp2_with fail
    refine (CR.out _ HB1.out).mono ?_
    rintro e w2 ⟨v, rfl, hg, hb2⟩
    have HB2 := Lib.hid (bt HB1.out hb2)
    have CQ := Lib.hid (gels_equal v (.slice ao l.length cap) l w2 hg ((HLW.out.below HB2.out).more HB2.out.size))
    clear hg hb2
    go_wp2_with fail
    refine CQ.out.mono ?_
    rintro e w3 ⟨rfl, hb3⟩
    have HB3 := Lib.hid (bt HB2.out hb3)
    clear hb3
    go_wp2
    go_ret
    exact ⟨rfl, HB3.out⟩
  · have hE2 : (chkBook l == 0) = false := by simpa using hE
    rw [bookT_bad hE] at CB
    generalize chkBook l = f at *
    obtain ⟨ao, cap, rfl, _⟩ := hl
    clear hT hC hf
    go_enter Tryd.func5, Tryd.ntmps5
    go_wp2_with fail
    refine CB.out.mono ?_
    rintro e w1 ⟨rfl, hb1⟩
    have HB1 := Lib.hid hb1
    clear hb1
    go_wp2
    go_ret
    exact ⟨rfl, HB1.out⟩
end Go.Proofs.YtljgpiaihahneaaDoor.colourBooksComeBack
