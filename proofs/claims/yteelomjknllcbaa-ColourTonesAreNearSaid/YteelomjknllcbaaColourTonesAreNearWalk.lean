/- The walk of cycloramalaw3.ColourTonesAreNear: for every input it returns true. -/
import Derived.Test.YteelomjknllcbaaTones
import Derived.Test.YteelomjknllcbaaColOpens
import Derived.Test.YteelomjknllcbaaNearPlain
namespace Go.Proofs.Yteelomjknllcbaa.colourTonesAreNear
open Go.RowKit
set_option linter.unusedVariables false
set_option linter.unusedSimpArgs false

set_option maxHeartbeats 400000 in
theorem near_yes (a b : Int) (w : World) (ha : LvOkC a) (hb : LvOkC b) (h : Near a b) :
    Calls Try.prog 17 #[.int .i64 a, .int .i64 b] w fun e w' => e = .returned (.bool true) ∧ w = w' := by
  unfold LvOkC at ha hb
  obtain ⟨h1, h2⟩ := h
  obtain ⟨a1, a2⟩ := ha
  obtain ⟨b1, b2⟩ := hb
  go_enter Try.func17, Try.ntmps17
  go_wp2
  go_ret
  exact ⟨by simp <;> omega, rfl⟩

theorem top_cases (a b c : Int) : (a < b ∧ b < c) ∨ (a < b ∧ ¬ b < c) ∨ (¬ a < b ∧ a < c) ∨ (¬ a < b ∧ ¬ a < c) := by omega

set_option maxHeartbeats 8000000 in
set_option maxRecDepth 100000 in
theorem walk (a0 : Value) (w : World) (w0 : TriV a0) :
    Calls Try.prog 4 #[a0] w fun e w' => e = .returned (.bool true) ∧ Below w.heap.size w w' := by
  obtain ⟨r, g, b, rfl, _, _, _⟩ := w0
  have C1 := Lib.hid (fun W => ToneOf_any r g b W)
  by_cases hc : LvOkC r ∧ LvOkC g ∧ LvOkC b
  · have hk : chkC r g b = 0 := chk_yes hc
    have e1 : tvH r g b = toneH r g b := if_pos hk
    have e2 : tvS r g b = toneS r g b := if_pos hk
    have e3 : tvV r g b = topV r g b := if_pos hk
    have hn := near_all r g b hc.1 hc.2.1 hc.2.2
    have hin : InTone (toneH r g b) (toneS r g b) (topV r g b) := tone_range hc.1 hc.2.1 hc.2.2
    have hfr := frT_range (h := toneH r g b) hin.2.1 hin.2.2
    have hft : ftC (toneH r g b) (toneS r g b) (topV r g b) = frT (toneH r g b) (toneS r g b) (topV r g b) := if_pos hin
    have hfe : ftE (toneH r g b) (toneS r g b) (topV r g b) = 0 := if_pos hin
    have C3 := Lib.hid (fun W => FromTone_any (toneH r g b) (toneS r g b) (topV r g b) W)
    rw [hk, e1, e2, e3] at C1
    rw [hft, hfe] at C3
    generalize toneH r g b = x1 at *
    generalize toneS r g b = x2 at *
    have HTV : Hid (topV r g b = if (if r < g then g else r) < b then b else if r < g then g else r) := rfl
    generalize htv : topV r g b = x3 at *
    generalize frT x1 x2 x3 = y at *
    obtain ⟨y1, y2, y3⟩ := y
    unfold NearC at hn
    rw [htv] at hn
    simp only at C3 hn hfr
    obtain ⟨n1, n2, n3, n4⟩ := hn
    have N1 := Lib.hid (fun W => near_yes r y1 W hc.1 hfr.1 n1)
    have N2 := Lib.hid (fun W => near_yes g y2 W hc.2.1 hfr.2.1 n2)
    have N3 := Lib.hid (fun W => near_yes b y3 W hc.2.2 hfr.2.2 n3)
    have HM := Lib.hid (show topV r g b = topV y1 y2 y3 from htv.trans n4)
    clear hk e1 e2 e3 hin hft hfe htv n1 n2 n3 n4 hc hfr HTV
    go_enter Try.func4, Try.ntmps4
    go_wp2_with fail
    refine (C1.out _).mono ?_
    rintro e w1 ⟨rfl, hb1⟩
    have s1 := hb1.size
    simp at s1
    have HA1 := Lib.hid ((box_new w (.int .i64 r) (.int .i64 g) (.int .i64 b) 23).below hb1 (by simp))
    have HW1 := Lib.hid (((Below.refl _ w).alloc (Nat.le_refl _) _).trans (hb1.mono (by simp)))
    clear hb1
    go_wp2_with fail
    refine (C3.out _).mono ?_
    rintro e w2 ⟨rfl, hb2⟩
    have s2 := hb2.size
    simp at s2
    have z0 : w.heap.size < w2.heap.size := by omega
    obtain ⟨p0, p1, p2, _, _, _⟩ := (HA1.out.alloc (by omega) _).below hb2 (by simp <;> omega)
    have HW2 := Lib.hid ((HW1.out.alloc (by omega) _).trans (hb2.mono (by simp <;> omega)))
    clear hb2
    have HW3 := Lib.hid (HW2.out.alloc (by omega) (.cells #[.int .i64 y1, .int .i64 y2, .int .i64 y3] 23))
    go_upto_region 6 with fail
    have c1 := top_cases r g b
    have c2 := top_cases y1 y2 y3
    rcases c1 with ⟨c1, c1'⟩ | ⟨c1, c1'⟩ | ⟨c1, c1'⟩ | ⟨c1, c1'⟩ <;> rcases c2 with ⟨c2, c2'⟩ | ⟨c2, c2'⟩ | ⟨c2, c2'⟩ | ⟨c2, c2'⟩
    all_goals
      go_wp2_with (first
        | (go_at_call 17; ((with_reducible refine (N1.out _).mono ?_); rintro e w' ⟨rfl, rfl⟩))
        | (go_at_call 17; ((with_reducible refine (N2.out _).mono ?_); rintro e w' ⟨rfl, rfl⟩))
        | (go_at_call 17; ((with_reducible refine (N3.out _).mono ?_); rintro e w' ⟨rfl, rfl⟩)))
      go_ret
      exact ⟨by have hm := HM.out; unfold topV at hm; simp [c1, c1', c2, c2'] at hm ⊢ <;> omega, HW3.out⟩
  · have hk : chkC r g b = 1 := chk_no hc
    have e1 : tvH r g b = 0 := if_neg (by omega)
    have e2 : tvS r g b = 0 := if_neg (by omega)
    have e3 : tvV r g b = 0 := if_neg (by omega)
    rw [hk, e1, e2, e3] at C1
    clear hk e1 e2 e3 hc
    go_enter Try.func4, Try.ntmps4
    go_wp2_with fail
    refine (C1.out _).mono ?_
    rintro e w1 ⟨rfl, hb1⟩
    have s1 := hb1.size
    simp at s1
    have HW1 := Lib.hid (((Below.refl _ w).alloc (Nat.le_refl _) _).trans (hb1.mono (by simp)))
    clear hb1
    go_wp2
    go_ret
    exact ⟨by simp, HW1.out.alloc (by omega) _⟩
end Go.Proofs.Yteelomjknllcbaa.colourTonesAreNear
