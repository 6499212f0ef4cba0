/- The reference's Check of colours. (printed by wip/gen/gen_colref.py out of XTones) -/
import Derived.Test.YtpmiinamaofnnaaRLevel
import Derived.Test.YtpmiinamaofnnaaColour
namespace Go.Proofs.Ytpmiinamaofnnaa
open Go.RowKit
set_option linter.unusedVariables false
set_option linter.unusedSimpArgs false
theorem rlev_yes (n : Int) (w : World) (h : LvOkC n) : Calls Try.prog 34 #[.int .i64 n] w fun e w' => e = .returned (.bool true) ∧ w = w' := rIsLevel_yes n w h
theorem rlev_no (n : Int) (w : World) (h : ¬ LvOkC n) : Calls Try.prog 34 #[.int .i64 n] w fun e w' => e = .returned (.bool false) ∧ w = w' := rIsLevel_no n w (by unfold LvOkC at h; omega)
theorem chk_yes {r g b : Int} (h : LvOkC r ∧ LvOkC g ∧ LvOkC b) : chkC r g b = 0 := if_pos h
theorem chk_no {r g b : Int} (h : ¬ (LvOkC r ∧ LvOkC g ∧ LvOkC b)) : chkC r g b = 1 := if_neg h
theorem pcheck_any (r g b : Int) (w : World) : Calls Try.prog 13 #[.agg #[.int .i64 r, .int .i64 g, .int .i64 b]] w fun e w' => e = .returned (.int .i64 (chkC r g b)) ∧ Below w.heap.size w w' :=
  (check_any r g b w).mono fun e w' h => ⟨h.1, by rw [h.2]; exact (Below.refl _ _).alloc (Nat.le_refl _) _⟩

set_option maxHeartbeats 1000000 in
theorem rcheck_any (r g b : Int) (w : World) : Calls Try.prog 26 #[.agg #[.int .i64 r, .int .i64 g, .int .i64 b]] w fun e w' => e = .returned (.int .i64 (chkC r g b)) ∧ Below w.heap.size w w' := by
  have hw : Below w.heap.size w (w.alloc (.cells #[.int .i64 r, .int .i64 g, .int .i64 b] 24)) := (Below.refl _ _).alloc (Nat.le_refl _) _
  by_cases hr : LvOkC r
  · by_cases hg : LvOkC g
    · by_cases hb : LvOkC b
      · have HF := Lib.hid (show chkC r g b = 0 from chk_yes (⟨hr, hg, hb⟩))
        have Hr := Lib.hid hr
        have Hg := Lib.hid hg
        have Hb := Lib.hid hb
        clear hr hg hb
        have HW := Lib.hid hw
        clear hw
        go_enter Try.func26, Try.ntmps26
        go_wp2_with fail
        refine (rlev_yes _ _ Hr.out).mono ?_
        rintro e w' ⟨rfl, rfl⟩
        go_wp2_with fail
        refine (rlev_yes _ _ Hg.out).mono ?_
        rintro e w' ⟨rfl, rfl⟩
        go_wp2_with fail
        refine (rlev_yes _ _ Hb.out).mono ?_
        rintro e w' ⟨rfl, rfl⟩
        go_wp2
        go_ret
        exact ⟨by rw [HF.out]; rfl, HW.out⟩
      · have HF := Lib.hid (show chkC r g b = 1 from chk_no (fun h => hb h.2.2))
        have Hr := Lib.hid hr
        have Hg := Lib.hid hg
        have Hb := Lib.hid hb
        clear hr hg hb
        have HW := Lib.hid hw
        clear hw
        go_enter Try.func26, Try.ntmps26
        go_wp2_with fail
        refine (rlev_yes _ _ Hr.out).mono ?_
        rintro e w' ⟨rfl, rfl⟩
        go_wp2_with fail
        refine (rlev_yes _ _ Hg.out).mono ?_
        rintro e w' ⟨rfl, rfl⟩
        go_wp2_with fail
        refine (rlev_no _ _ Hb.out).mono ?_
        rintro e w' ⟨rfl, rfl⟩
        go_wp2
        go_ret
        exact ⟨by rw [HF.out]; rfl, HW.out⟩
    · have HF := Lib.hid (show chkC r g b = 1 from chk_no (fun h => hg h.2.1))
      have Hr := Lib.hid hr
      have Hg := Lib.hid hg
      clear hr hg
      have HW := Lib.hid hw
      clear hw
      go_enter Try.func26, Try.ntmps26
      go_wp2_with fail
      refine (rlev_yes _ _ Hr.out).mono ?_
      rintro e w' ⟨rfl, rfl⟩
      go_wp2_with fail
      refine (rlev_no _ _ Hg.out).mono ?_
      rintro e w' ⟨rfl, rfl⟩
      go_wp2
      go_ret
      exact ⟨by rw [HF.out]; rfl, HW.out⟩
  · have HF := Lib.hid (show chkC r g b = 1 from chk_no (fun h => hr h.1))
    have Hr := Lib.hid hr
    clear hr
    have HW := Lib.hid hw
    clear hw
    go_enter Try.func26, Try.ntmps26
    go_wp2_with fail
    refine (rlev_no _ _ Hr.out).mono ?_
    rintro e w' ⟨rfl, rfl⟩
    go_wp2
    go_ret
    exact ⟨by rw [HF.out]; rfl, HW.out⟩

end Go.Proofs.Ytpmiinamaofnnaa
