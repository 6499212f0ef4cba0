/- Texts of times: that the time 1500 is read as it was written. -/
import Derived.Test.YtdicoggpcobbpaaDoorText
import Derived.Test.YtdicoggpcobbpaaDoorFadeFns
namespace Go.Proofs.YtdicoggpcobbpaaDoor
open Go.RowKit
set_option linter.unusedVariables false
set_option linter.unusedSimpArgs false

theorem itoa_1500 : Lib.itoa 1500 = [49, 53, 48, 48] := by decide +kernel
theorem dec_1 : Lib.decDigits 1 = [49] := by decide +kernel
theorem trim_500 : Lib.trimRightB [53, 48, 48] 48 = [53] := by decide

set_option maxHeartbeats 2000000 in
theorem thousandths_500 (w : World) (hw : TextW w) : Calls Tryd.prog 43 #[.int .i64 500] w fun e w' => e = .returned (.string ⟨#[46, 53]⟩) ∧ Below w.heap.size w w' := by
  have CI := Lib.hid (show Calls Tryd.prog 36 #[.int .i64 1500] w fun e w' => e = .returned (.string ⟨#[49, 53, 48, 48]⟩) ∧ Below w.heap.size w w' from by
    refine (Tryd.strconv_Itoa 1500 (by omega) (by omega) w hw.pow).mono ?_
    rintro e w' ⟨rfl, k, os, rfl⟩
    exact ⟨by rw [itoa_1500], Lib.below_grow _ w (Nat.le_refl _) k os⟩)
  have CT := Lib.hid (fun W => show Calls Tryd.prog 73 #[.string ⟨#[53, 48, 48]⟩, .string ⟨#[48]⟩] W fun e w' => e = .returned (.string ⟨#[53]⟩) ∧ W = w' from by
    refine (Tryd.strings_TrimRight_one ⟨#[53, 48, 48]⟩ 48 (by decide) W (by decide)).mono ?_
    rintro e w' ⟨rfl, rfl⟩
    exact ⟨by rw [show (⟨#[53, 48, 48]⟩ : ByteArray).data.toList = [53, 48, 48] from rfl, trim_500], rfl⟩)
  clear hw
  go_enter Tryd.func43, Tryd.ntmps43
  go_wp2_with fail
  refine CI.out.mono ?_
  rintro e w1 ⟨rfl, hb⟩
  have HB := Lib.hid hb
  clear hb
  go_wp2_with fail
  refine (CT.out _).mono ?_
  rintro e w' ⟨rfl, rfl⟩
  go_wp2
  go_ret
  exact ⟨rfl, HB.out⟩

set_option maxHeartbeats 2000000 in
theorem showTime_1500 (w : World) (hw : TextW w) : Calls Tryd.prog 14 #[.int .i64 1500] w fun e w' => e = .returned (.tuple #[.string ⟨#[49, 46, 53]⟩, .int .i64 0]) ∧ Below w.heap.size w w' := by
  have CT := Lib.hid (thousandths_500 w hw)
  have CI := Lib.hid (fun W => show Calls Tryd.prog 36 #[.int .i64 1] W fun e w' => e = .returned (.string ⟨#[49]⟩) ∧ W = w' from by
    refine (Tryd.strconv_Itoa_small 1 (by decide) W).mono ?_
    rintro e w' ⟨rfl, rfl⟩
    exact ⟨by rw [dec_1], rfl⟩)
  clear hw
  go_enter Tryd.func14, Tryd.ntmps14
  go_wp2_with fail
  refine (isTime_yes 1500 _ ⟨by decide, by decide⟩).mono ?_
  rintro e w' ⟨rfl, rfl⟩
  go_wp2_with fail
  refine CT.out.mono ?_
  rintro e w1 ⟨rfl, hb⟩
  have HB := Lib.hid hb
  clear hb
  go_wp2_with fail
  refine (CI.out _).mono ?_
  rintro e w' ⟨rfl, rfl⟩
  go_wp2
  go_ret2
  exact ⟨rfl, HB.out⟩

set_option maxHeartbeats 2000000 in
theorem timesAreRead_yes (w : World) (hw : TextW w) : Calls Tryd.prog 30 #[] w fun e w' => e = .returned (.bool true) ∧ Below w.heap.size w w' := by
  have CS := Lib.hid (showTime_1500 w hw)
  have CR := Lib.hid (fun W (hb : Below w.heap.size w W) => readTime_15 W (hw.below hb))
  clear hw
  go_enter Tryd.func30, Tryd.ntmps30
  go_wp2_with fail
  refine CS.out.mono ?_
  rintro e w1 ⟨rfl, hb1⟩
  have HB1 := Lib.hid hb1
  clear hb1
  go_wp2_with fail
  refine (CR.out _ HB1.out).mono ?_
  rintro e w2 ⟨rfl, hb2⟩
  have HB2 := Lib.hid (bt HB1.out hb2)
  clear hb2
  go_wp2
  go_ret
  exact ⟨rfl, HB2.out⟩
end Go.Proofs.YtdicoggpcobbpaaDoor
