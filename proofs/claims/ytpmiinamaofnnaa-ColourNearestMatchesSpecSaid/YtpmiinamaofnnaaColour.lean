/- Colours as arguments; contracts of colour.isLevel, colour.Check, and of Between at both ends. -/
import Derived.Test.YtpmiinamaofnnaaLevels
import Derived.Test.YtpmiinamaofnnaaOpens
import Derived.Deep.RegionHeld3
import Derived.Deep.DeepCutAuto
namespace Go.Proofs.Ytpmiinamaofnnaa
open Go.RowKit

def LvOkC (a : Int) : Prop := 0 ≤ a ∧ a ≤ 65535
instance (t : Int) : Decidable (LvOkC t) := by unfold LvOkC; infer_instance

def inB (n lo hi : Int) : Bool := decide (lo ≤ n ∧ n ≤ hi)
def whenV (b : Bool) (f : Int) : Int := if b then f else 0
def chkC (r g b : Int) : Int := if LvOkC r ∧ LvOkC g ∧ LvOkC b then 0 else 1

theorem within_B (n lo hi : Int) (w : World) : Calls Try.prog 15 #[.int .i64 n, .int .i64 lo, .int .i64 hi] w fun e w' => e = .returned (.bool (inB n lo hi)) ∧ w = w' := by
  by_cases h : lo ≤ n ∧ n ≤ hi
  · have : inB n lo hi = true := decide_eq_true h
    rw [this]; exact within_yes n lo hi w h
  · have : inB n lo hi = false := decide_eq_false h
    rw [this]; exact within_no n lo hi w (by omega)
theorem when_B (b : Bool) (f : Int) (w : World) : Calls Try.prog 14 #[.bool b, .int .i64 f] w fun e w' => e = .returned (.int .i64 (whenV b f)) ∧ w = w' := by
  cases b
  · exact when_no f w
  · exact when_yes f w

set_option maxHeartbeats 400000 in
theorem cLevel_yes (n : Int) (w : World) (h : LvOkC n) : Calls Try.prog 30 #[.int .i64 n] w fun e w' => e = .returned (.bool true) ∧ w = w' := by
  go_enter Try.func30, Try.ntmps30
  go_wp2_with (go_at_call 15; refine (within_yes _ _ _ _ h).mono ?_; rintro e w' ⟨rfl, rfl⟩)
  go_ret
  exact ⟨rfl, rfl⟩
set_option maxHeartbeats 400000 in
theorem cLevel_no (n : Int) (w : World) (h : ¬ LvOkC n) : Calls Try.prog 30 #[.int .i64 n] w fun e w' => e = .returned (.bool false) ∧ w = w' := by
  have H := Lib.hid (show n < 0 ∨ 65535 < n by unfold LvOkC at h; omega)
  clear h
  go_enter Try.func30, Try.ntmps30
  go_wp2_with (go_at_call 15; refine (within_no _ _ _ _ H.out).mono ?_; rintro e w' ⟨rfl, rfl⟩)
  go_ret
  exact ⟨rfl, rfl⟩

set_option maxHeartbeats 1000000 in
theorem check_any (r g b : Int) (w : World) : Calls Try.prog 13 #[.agg #[.int .i64 r, .int .i64 g, .int .i64 b]] w fun e w' => e = .returned (.int .i64 (chkC r g b)) ∧ w' = w.alloc (.cells #[.int .i64 r, .int .i64 g, .int .i64 b] 24) := by
  by_cases hr : LvOkC r
  · by_cases hg : LvOkC g
    · by_cases hb : LvOkC b
      · have HF := Lib.hid (show chkC r g b = 0 from if_pos ⟨hr, hg, hb⟩)
        have HR := Lib.hid hr
        have HG := Lib.hid hg
        have HB := Lib.hid hb
        clear hr hg hb
        go_enter Try.func13, Try.ntmps13
        go_wp2_with fail
        refine (cLevel_yes _ _ HR.out).mono ?_; rintro e w' ⟨rfl, rfl⟩
        go_wp2_with fail
        refine (cLevel_yes _ _ HG.out).mono ?_; rintro e w' ⟨rfl, rfl⟩
        go_wp2_with fail
        refine (cLevel_yes _ _ HB.out).mono ?_; rintro e w' ⟨rfl, rfl⟩
        go_wp2_with (go_at_call 14; refine (when_no _ _).mono ?_; rintro e w' ⟨rfl, rfl⟩)
        go_ret
        exact ⟨by rw [HF.out]; rfl, rfl⟩
      · have HF := Lib.hid (show chkC r g b = 1 from if_neg fun k => hb k.2.2)
        have HR := Lib.hid hr
        have HG := Lib.hid hg
        have HB := Lib.hid hb
        clear hr hg hb
        go_enter Try.func13, Try.ntmps13
        go_wp2_with fail
        refine (cLevel_yes _ _ HR.out).mono ?_; rintro e w' ⟨rfl, rfl⟩
        go_wp2_with fail
        refine (cLevel_yes _ _ HG.out).mono ?_; rintro e w' ⟨rfl, rfl⟩
        go_wp2_with fail
        refine (cLevel_no _ _ HB.out).mono ?_; rintro e w' ⟨rfl, rfl⟩
        go_wp2_with (go_at_call 14; refine (when_yes _ _).mono ?_; rintro e w' ⟨rfl, rfl⟩)
        go_ret
        exact ⟨by rw [HF.out]; rfl, rfl⟩
    · have HF := Lib.hid (show chkC r g b = 1 from if_neg fun k => hg k.2.1)
      have HR := Lib.hid hr
      have HG := Lib.hid hg
      clear hr hg
      go_enter Try.func13, Try.ntmps13
      go_wp2_with fail
      refine (cLevel_yes _ _ HR.out).mono ?_; rintro e w' ⟨rfl, rfl⟩
      go_wp2_with fail
      refine (cLevel_no _ _ HG.out).mono ?_; rintro e w' ⟨rfl, rfl⟩
      go_wp2_with (go_at_call 14; refine (when_yes _ _).mono ?_; rintro e w' ⟨rfl, rfl⟩)
      go_ret
      exact ⟨by rw [HF.out]; rfl, rfl⟩
  · have HF := Lib.hid (show chkC r g b = 1 from if_neg fun k => hr k.1)
    have HR := Lib.hid hr
    clear hr
    go_enter Try.func13, Try.ntmps13
    go_wp2_with fail
    refine (cLevel_no _ _ HR.out).mono ?_; rintro e w' ⟨rfl, rfl⟩
    go_wp2_with (go_at_call 14; refine (when_yes _ _).mono ?_; rintro e w' ⟨rfl, rfl⟩)
    go_ret
    exact ⟨by rw [HF.out]; rfl, rfl⟩
end Go.Proofs.Ytpmiinamaofnnaa
