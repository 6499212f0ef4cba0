/- The walk of cycloramalaw3.ColourTextsMatchSpec: for every input it returns true. (printed by wip/gen/gen_colref.py) -/
import Derived.Test.YtljgpiaihahneaaDoorColTextPlain
import Derived.Test.YtljgpiaihahneaaDoorRColShow
import Derived.Test.YtljgpiaihahneaaDoorRColRead
import Derived.Test.YtljgpiaihahneaaDoorColOpens
namespace Go.Proofs.YtljgpiaihahneaaDoor.colourTextsMatchSpec
open Go.RowKit
set_option linter.unusedVariables false
set_option linter.unusedSimpArgs false

theorem rcshow_any (r g b : Int) (w : World) (hw : ColW w) :
    Calls Tryd.prog 8 #[.agg #[.int .i64 r, .int .i64 g, .int .i64 b]] w fun e w' => e = .returned (.tuple #[.string (colS r g b), .int .i64 (chkC r g b)]) ∧ Below w.heap.size w w' := by
  rcases chkC_cases r g b with ⟨h, ⟨h1, h2⟩, ⟨h3, h4⟩, h5, h6⟩ | h
  · unfold colS
    rw [if_pos h, h]
    obtain ⟨r, rfl⟩ := Int.eq_ofNat_of_zero_le h1
    obtain ⟨g, rfl⟩ := Int.eq_ofNat_of_zero_le h3
    obtain ⟨b, rfl⟩ := Int.eq_ofNat_of_zero_le h5
    simp only [Int.toNat_natCast]
    unfold colT
    by_cases hm : r % 257 = 0 ∧ g % 257 = 0 ∧ b % 257 = 0
    · rw [if_pos hm]
      exact rcshow_2 r g b w (by omega) (by omega) (by omega) hm hw
    · rw [if_neg hm]
      exact rcshow_4 r g b w (by omega) (by omega) (by omega) hm hw
  · unfold colS
    rw [if_neg (by rw [h]; decide), h]
    exact rcshow_no r g b w h
theorem colRd_shape (s : ByteArray) : ∃ x y z : Int, colRd s = .agg #[.int .i64 x, .int .i64 y, .int .i64 z] := by
  unfold colRd
  split
  · exact ⟨_, _, _, rfl⟩
  · exact ⟨_, _, _, rfl⟩

set_option maxHeartbeats 8000000 in
set_option maxRecDepth 100000 in
theorem walk (a0 : Value) (s : ByteArray) (w : World) (w0 : TriV a0) (w1 : s.size ≤ maxLen) (hT : ColW w) :
    Calls Tryd.prog 4 #[a0, .string s] w fun e w' => e = .returned (.bool true) ∧ Below w.heap.size w w' := by
  obtain ⟨r, g, b, rfl, _, _, _⟩ := w0
  have HW : Hid (∀ W, Below w.heap.size w W → ColW W) := fun W h => hT.below h
  have CS := Lib.hid (fun W hW => cshow_any r g b W hW)
  have RS := Lib.hid (fun W hW => rcshow_any r g b W hW)
  have CR := Lib.hid (fun W => cread_any s W (by unfold maxLen at w1; omega))
  have RR := Lib.hid (fun W => rcread_any s W)
  generalize colS r g b = t at *
  generalize chkC r g b = f at *
  obtain ⟨x, y, z, hx⟩ := colRd_shape s
  rw [hx] at CR RR
  generalize colRf s = q at *
  clear hT hx w1
  go_enter Tryd.func4, Tryd.ntmps4
  go_wp2_with fail
  refine (CS.out _ (HW.out _ ((Below.refl _ _).alloc (Nat.le_refl _) _))).mono ?_
  rintro e w1 ⟨rfl, hb1⟩
  have BX := (TBox.new w #[.int .i64 r, .int .i64 g, .int .i64 b] 23).below hb1
  have HB1 := Lib.hid (bt below1 hb1)
  have q0 := BX.cell (i := 0) rfl
  have q1 := BX.cell (i := 1) rfl
  have q2 := BX.cell (i := 2) rfl
  clear hb1
  go_wp2_with fail
  refine (RS.out _ (HW.out _ HB1.out)).mono ?_
  rintro e w2 ⟨rfl, hb2⟩
  have HB2 := Lib.hid (bt HB1.out hb2)
  clear hb2 q0 q1 q2 BX
  go_wp2_with fail
  refine (CR.out _).mono ?_
  rintro e w3 ⟨rfl, hb3⟩
  have HB3 := Lib.hid (bt HB2.out hb3)
  have hlt3 := HB3.out.size
  have hc3 := HB3.out.alloc hlt3 (.cells #[.int .i64 x, .int .i64 y, .int .i64 z] 23)
  have BY := TBox.new w3 #[.int .i64 x, .int .i64 y, .int .i64 z] 23
  have HB4 := Lib.hid hc3
  clear hb3 hc3
  go_wp2_with fail
  refine (RR.out _).mono ?_
  rintro e w4 ⟨rfl, hb4⟩
  have BY2 := BY.below hb4
  have HB5 := Lib.hid (HB4.out.trans (hb4.mono HB4.out.size))
  have hlt5 := HB5.out.size
  have e0 := BY2.cell (i := 0) rfl
  have e1 := BY2.cell (i := 1) rfl
  have e2 := BY2.cell (i := 2) rfl
  have hl := BY2.lt
  clear hb4 BY BY2
  go_wp2
  go_ret
  exact ⟨by simp, HB5.out.alloc hlt5 _⟩
end Go.Proofs.YtljgpiaihahneaaDoor.colourTextsMatchSpec
