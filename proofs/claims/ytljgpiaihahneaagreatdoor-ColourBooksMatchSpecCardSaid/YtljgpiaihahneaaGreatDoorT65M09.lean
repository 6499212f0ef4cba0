/- Contracts of level.levels, word.First and word.When. levels and First take a slice: a row of cells in memory. Colours as arguments; contracts of colour.isLevel, colour.Check, and of Between at both ends. -/
import Derived.Test.YtljgpiaihahneaaGreatDoorT65M04
import Derived.Test.YtljgpiaihahneaaGreatDoorT65M01
import Derived.Deep.RegionHeld3
import Derived.Deep.DeepCutAuto

namespace Go.Proofs.YtljgpiaihahneaaGreatDoor
open Go.RowKit

/-- the cells of a row of numbers -/
def RowAt (k : IntKind) (w : World) (b off : Nat) (zs : List Int) : Prop := ∀ i (h : i < zs.length), w.cell? ⟨b, off + i, none⟩ = some (.int k zs[i])
def Levels (zs : List Int) : Prop := ∀ i (h : i < zs.length), 0 ≤ zs[i] ∧ zs[i] ≤ 65535

/-- either all are levels, or there is a first one that is none -/
theorem levels_cases (zs : List Int) : Levels zs ∨ ∃ j, ∃ h : j < zs.length, (∀ i (h : i < zs.length), i < j → 0 ≤ zs[i] ∧ zs[i] ≤ 65535) ∧ (zs[j] < 0 ∨ 65535 < zs[j]) := by
  induction zs with
  | nil => left; intro i h; simp at h
  | cons z zs ih =>
    by_cases hz : 0 ≤ z ∧ z ≤ 65535
    · rcases ih with ih | ⟨j, hj, h1, h2⟩
      · left
        intro i h
        match i with
        | 0 => simpa using hz
        | i + 1 => simpa using ih i (by simpa using h)
      · right
        refine ⟨j + 1, by simpa using hj, ?_, by simpa using h2⟩
        intro i h hij
        match i with
        | 0 => simpa using hz
        | i + 1 => simpa using h1 i (by simpa using h) (by omega)
    · right
      exact ⟨0, by simp, fun i h hi => by omega, by simp; omega⟩

/-- First: the first fault that is not 0. -/
def firstF : List Int → Int
  | [] => 0
  | e :: l => if e = 0 then firstF l else e

theorem firstF_drop (l : List Int) (k : Nat) (h : k < l.length) : firstF (l.drop k) = if l[k] = 0 then firstF (l.drop (k + 1)) else l[k] := by
  rw [List.drop_eq_getElem_cons h]; rfl

set_option maxHeartbeats 400000 in
theorem when_yes (f : Int) (w : World) : Calls Tryz.prog 34 #[.bool true, .int .i64 f] w fun e w' => e = .returned (.int .i64 f) ∧ w = w' := by
  go_enter Tryz.func34, Tryz.ntmps34
  go_wp2
  go_ret
  exact ⟨rfl, rfl⟩
set_option maxHeartbeats 400000 in
theorem when_no (f : Int) (w : World) : Calls Tryz.prog 34 #[.bool false, .int .i64 f] w fun e w' => e = .returned (.int .i64 0) ∧ w = w' := by
  go_enter Tryz.func34, Tryz.ntmps34
  go_wp2
  go_ret
  exact ⟨rfl, rfl⟩
end Go.Proofs.YtljgpiaihahneaaGreatDoor

namespace Go.Proofs.YtljgpiaihahneaaGreatDoor
open Go.RowKit

def LvOkC (a : Int) : Prop := 0 ≤ a ∧ a ≤ 65535
instance (t : Int) : Decidable (LvOkC t) := by unfold LvOkC; infer_instance

def inB (n lo hi : Int) : Bool := decide (lo ≤ n ∧ n ≤ hi)
def whenV (b : Bool) (f : Int) : Int := if b then f else 0
def chkC (r g b : Int) : Int := if LvOkC r ∧ LvOkC g ∧ LvOkC b then 0 else 1

theorem within_B (n lo hi : Int) (w : World) : Calls Tryz.prog 17 #[.int .i64 n, .int .i64 lo, .int .i64 hi] w fun e w' => e = .returned (.bool (inB n lo hi)) ∧ w = w' := by
  by_cases h : lo ≤ n ∧ n ≤ hi
  · have : inB n lo hi = true := decide_eq_true h
    rw [this]; exact within_yes n lo hi w h
  · have : inB n lo hi = false := decide_eq_false h
    rw [this]; exact within_no n lo hi w (by omega)
theorem when_B (b : Bool) (f : Int) (w : World) : Calls Tryz.prog 34 #[.bool b, .int .i64 f] w fun e w' => e = .returned (.int .i64 (whenV b f)) ∧ w = w' := by
  cases b
  · exact when_no f w
  · exact when_yes f w

set_option maxHeartbeats 400000 in
theorem cLevel_yes (n : Int) (w : World) (h : LvOkC n) : Calls Tryz.prog 35 #[.int .i64 n] w fun e w' => e = .returned (.bool true) ∧ w = w' := by
  go_enter Tryz.func35, Tryz.ntmps35
  go_wp2_with (go_at_call 17; refine (within_yes _ _ _ _ h).mono ?_; rintro e w' ⟨rfl, rfl⟩)
  go_ret
  exact ⟨rfl, rfl⟩
set_option maxHeartbeats 400000 in
theorem cLevel_no (n : Int) (w : World) (h : ¬ LvOkC n) : Calls Tryz.prog 35 #[.int .i64 n] w fun e w' => e = .returned (.bool false) ∧ w = w' := by
  have H := Lib.hid (show n < 0 ∨ 65535 < n by unfold LvOkC at h; omega)
  clear h
  go_enter Tryz.func35, Tryz.ntmps35
  go_wp2_with (go_at_call 17; refine (within_no _ _ _ _ H.out).mono ?_; rintro e w' ⟨rfl, rfl⟩)
  go_ret
  exact ⟨rfl, rfl⟩

set_option maxHeartbeats 1000000 in
theorem check_any (r g b : Int) (w : World) : Calls Tryz.prog 19 #[.agg #[.int .i64 r, .int .i64 g, .int .i64 b]] w fun e w' => e = .returned (.int .i64 (chkC r g b)) ∧ w' = w.alloc (.cells #[.int .i64 r, .int .i64 g, .int .i64 b] 31) := by
  by_cases hr : LvOkC r
  · by_cases hg : LvOkC g
    · by_cases hb : LvOkC b
      · have HF := Lib.hid (show chkC r g b = 0 from if_pos ⟨hr, hg, hb⟩)
        have HR := Lib.hid hr
        have HG := Lib.hid hg
        have HB := Lib.hid hb
        clear hr hg hb
        go_enter Tryz.func19, Tryz.ntmps19
        go_wp2_with fail
        refine (cLevel_yes _ _ HR.out).mono ?_; rintro e w' ⟨rfl, rfl⟩
        go_wp2_with fail
        refine (cLevel_yes _ _ HG.out).mono ?_; rintro e w' ⟨rfl, rfl⟩
        go_wp2_with fail
        refine (cLevel_yes _ _ HB.out).mono ?_; rintro e w' ⟨rfl, rfl⟩
        go_wp2_with (go_at_call 34; refine (when_no _ _).mono ?_; rintro e w' ⟨rfl, rfl⟩)
        go_ret
        exact ⟨by rw [HF.out]; rfl, rfl⟩
      · have HF := Lib.hid (show chkC r g b = 1 from if_neg fun k => hb k.2.2)
        have HR := Lib.hid hr
        have HG := Lib.hid hg
        have HB := Lib.hid hb
        clear hr hg hb
        go_enter Tryz.func19, Tryz.ntmps19
        go_wp2_with fail
        refine (cLevel_yes _ _ HR.out).mono ?_; rintro e w' ⟨rfl, rfl⟩
        go_wp2_with fail
        refine (cLevel_yes _ _ HG.out).mono ?_; rintro e w' ⟨rfl, rfl⟩
        go_wp2_with fail
        refine (cLevel_no _ _ HB.out).mono ?_; rintro e w' ⟨rfl, rfl⟩
        go_wp2_with (go_at_call 34; refine (when_yes _ _).mono ?_; rintro e w' ⟨rfl, rfl⟩)
        go_ret
        exact ⟨by rw [HF.out]; rfl, rfl⟩
    · have HF := Lib.hid (show chkC r g b = 1 from if_neg fun k => hg k.2.1)
      have HR := Lib.hid hr
      have HG := Lib.hid hg
      clear hr hg
      go_enter Tryz.func19, Tryz.ntmps19
      go_wp2_with fail
      refine (cLevel_yes _ _ HR.out).mono ?_; rintro e w' ⟨rfl, rfl⟩
      go_wp2_with fail
      refine (cLevel_no _ _ HG.out).mono ?_; rintro e w' ⟨rfl, rfl⟩
      go_wp2_with (go_at_call 34; refine (when_yes _ _).mono ?_; rintro e w' ⟨rfl, rfl⟩)
      go_ret
      exact ⟨by rw [HF.out]; rfl, rfl⟩
  · have HF := Lib.hid (show chkC r g b = 1 from if_neg fun k => hr k.1)
    have HR := Lib.hid hr
    clear hr
    go_enter Tryz.func19, Tryz.ntmps19
    go_wp2_with fail
    refine (cLevel_no _ _ HR.out).mono ?_; rintro e w' ⟨rfl, rfl⟩
    go_wp2_with (go_at_call 34; refine (when_yes _ _).mono ?_; rintro e w' ⟨rfl, rfl⟩)
    go_ret
    exact ⟨by rw [HF.out]; rfl, rfl⟩
end Go.Proofs.YtljgpiaihahneaaGreatDoor
