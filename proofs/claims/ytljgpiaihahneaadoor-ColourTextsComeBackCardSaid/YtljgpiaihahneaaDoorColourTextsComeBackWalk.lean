/- The walk of cycloramalaw3.ColourTextsComeBack: for every input it returns true. (printed by wip/gen/gen_coltext.py) -/
import Derived.Test.YtljgpiaihahneaaDoorColTextPlain
import Derived.Test.YtljgpiaihahneaaDoorColOpens
namespace Go.Proofs.YtljgpiaihahneaaDoor.colourTextsComeBack
open Go.RowKit
set_option linter.unusedVariables false
set_option linter.unusedSimpArgs false

set_option maxHeartbeats 8000000 in
set_option maxRecDepth 100000 in
theorem walk (a0 : Value) (w : World) (w0 : TriV a0) (hT : ColW w) :
    Calls Tryd.prog 3 #[a0] w fun e w' => e = .returned (.bool true) ∧ Below w.heap.size w w' := by
  obtain ⟨r, g, b, rfl, _, _, _⟩ := w0
  have HW : Hid (∀ W, Below w.heap.size w W → ColW W) := fun W h => hT.below h
  have CS := Lib.hid (fun W hW => cshow_any r g b W hW)
  clear hT
  rcases chkC_cases r g b with ⟨h, ⟨h1, h2⟩, ⟨h3, h4⟩, h5, h6⟩ | h
  · rw [show colS r g b = colT r.toNat g.toNat b.toNat from if_pos h, h] at CS
    obtain ⟨r, rfl⟩ := Int.eq_ofNat_of_zero_le h1
    obtain ⟨g, rfl⟩ := Int.eq_ofNat_of_zero_le h3
    obtain ⟨b, rfl⟩ := Int.eq_ofNat_of_zero_le h5
    simp only [Int.toNat_natCast] at CS
    have hr : r ≤ 65535 := by omega
    have hg : g ≤ 65535 := by omega
    have hb : b ≤ 65535 := by omega
    have HO := colT_ok r g b hr hg hb
    have hsz : (colT r g b).size ≤ 9223372036854775807 := by
      unfold colT
      split
      · exact (by decide : 7 ≤ 9223372036854775807)
      · exact (by decide : 13 ≤ 9223372036854775807)
    have CR := Lib.hid (fun W => cread_any (colT r g b) W hsz)
    rw [show colRd (colT r g b) = .agg #[.int .i64 r, .int .i64 g, .int .i64 b] by unfold colRd; rw [if_pos HO.1, HO.2.1, HO.2.2.1, HO.2.2.2], show colRf (colT r g b) = 0 from if_pos HO.1] at CR
    generalize colT r g b = s at *
    clear h h1 h2 h3 h4 h5 h6 HO hsz
    go_enter Tryd.func3, Tryd.ntmps3
    go_wp2_with fail
    refine (CS.out _ (HW.out _ ((Below.refl _ _).alloc (Nat.le_refl _) _))).mono ?_
    rintro e w1 ⟨rfl, hb1⟩
    have BX := (TBox.new w #[.int .i64 r, .int .i64 g, .int .i64 b] 23).below hb1
    have HB := Lib.hid (bt below1 hb1)
    clear hb1
    go_wp2_with fail
    refine (CR.out _).mono ?_
    rintro e w2 ⟨rfl, hb2⟩
    have BX2 := BX.below hb2
    have HB2 := Lib.hid (bt HB.out hb2)
    have hlt : w.heap.size < w2.heap.size := BX2.lt
    have q0 := BX2.cell (i := 0) rfl
    have q1 := BX2.cell (i := 1) rfl
    have q2 := BX2.cell (i := 2) rfl
    clear hb2 BX BX2 HB
    go_wp2
    go_ret
    exact ⟨rfl, HB2.out.alloc (Nat.le_of_lt hlt) _⟩
  · rw [show colS r g b = ⟨#[]⟩ from if_neg (by rw [h]; decide), h] at CS
    clear h
    go_enter Tryd.func3, Tryd.ntmps3
    go_wp2_with fail
    refine (CS.out _ (HW.out _ ((Below.refl _ _).alloc (Nat.le_refl _) _))).mono ?_
    rintro e w1 ⟨rfl, hb1⟩
    have HB := Lib.hid (bt below1 hb1)
    clear hb1
    go_wp2
    go_ret
    exact ⟨rfl, HB.out⟩
end Go.Proofs.YtljgpiaihahneaaDoor.colourTextsComeBack
