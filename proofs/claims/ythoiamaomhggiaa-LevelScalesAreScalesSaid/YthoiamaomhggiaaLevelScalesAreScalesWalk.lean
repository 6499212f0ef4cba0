/- The walk of cycloramalaw1.LevelScalesAreScales: for every a, b, c it returns true. -/
import Derived.Test.YthoiamaomhggiaaScale
namespace Go.Proofs.Ythoiamaomhggiaa.levelScalesAreScales
open Go.RowKit

theorem comm (a b : Int) : scaleV a b = scaleV b a := by
  unfold scaleV; rw [Int.mul_comm a b]
  by_cases h : IsLv a ∧ IsLv b
  · rw [if_pos h, if_pos ⟨h.2, h.1⟩]
  · rw [if_neg h, if_neg fun k => h ⟨k.2, k.1⟩]
theorem commF (a b : Int) : scaleF a b = scaleF b a := by
  unfold scaleF
  by_cases h : IsLv a ∧ IsLv b
  · rw [if_pos h, if_pos ⟨h.2, h.1⟩]
  · rw [if_neg h, if_neg fun k => h ⟨k.2, k.1⟩]
theorem full (a : Int) (h : IsLv a) : scaleV a 65535 = a := by
  unfold scaleV
  have h2 : IsLv 65535 := by unfold IsLv; omega
  rw [if_pos ⟨h, h2⟩]
  unfold rnd; omega
theorem mono (a b c : Int) (ha : IsLv a) (hb : IsLv b) (hc : IsLv c) (h : c ≤ b) : scaleV a c ≤ scaleV a b := by
  unfold scaleV
  rw [if_pos ⟨ha, hc⟩, if_pos ⟨ha, hb⟩]
  have := Int.mul_le_mul_of_nonneg_left h ha.1
  unfold rnd; omega

set_option maxHeartbeats 1600000 in
theorem walk (a0 : Int) (a1 : Int) (a2 : Int) (w : World) (_w0 : (Lit.int .i64 a0).wf = true) (_w1 : (Lit.int .i64 a1).wf = true) (_w2 : (Lit.int .i64 a2).wf = true) :
    Calls Try.prog 4 #[.int .i64 a0, .int .i64 a1, .int .i64 a2] w fun e w' => e = .returned (.bool true) ∧ Below w.heap.size w w' := by
  have C : ∀ (a b : Int) (W : World), Below w.heap.size w W → Calls Try.prog 16 #[.int .i64 a, .int .i64 b] W fun e w' => e = .returned (.tuple #[.int .i64 (scaleV a b), .int .i64 (scaleF a b)]) ∧ Below w.heap.size w w' :=
    fun a b W hW => (scale_any a b W).mono fun e w' ⟨he, hb⟩ => ⟨he, hW.trans (hb.mono hW.size)⟩
  by_cases h : IsLv a0 ∧ IsLv a1
  · have f1 : scaleF a0 a1 = 0 := if_pos h
    have f2 : scaleF a1 a0 = 0 := by rw [commF]; exact f1
    have v2 : scaleV a1 a0 = scaleV a0 a1 := comm _ _
    have f3 : scaleF a0 65535 = 0 := if_pos ⟨h.1, by unfold IsLv; omega⟩
    have v3 : scaleV a0 65535 = a0 := full a0 h.1
    by_cases hc : IsLv a2
    · have f4 : scaleF a0 a2 = 0 := if_pos ⟨h.1, hc⟩
      have m1 := mono a0 a1 a2 h.1 h.2 hc
      have m2 := mono a0 a2 a1 h.1 hc h.2
      generalize hx : scaleV a0 a1 = x at *
      generalize hz : scaleV a0 a2 = z at *
      have HX := Lib.hid hx
      have HZ := Lib.hid hz
      have HC := Lib.hid C
      have M1 := Lib.hid m1
      have M2 := Lib.hid m2
      have F1 := Lib.hid f1
      have F2 := Lib.hid f2
      have F3 := Lib.hid f3
      have F4 := Lib.hid f4
      have V2 := Lib.hid v2
      have V3 := Lib.hid v3
      clear C h hc hx hz m1 m2 f1 f2 f3 f4 v2 v3
      rcases Int.lt_trichotomy a2 a1 with hlt | heq | hgt
      · have hm : z ≤ x := M1.out (by omega)
        have hn : ¬ a1 < a2 := by omega
        go_enter Try.func4, Try.ntmps4
        go_wp2_with fail
        refine (HC.out a0 a1 w (Below.refl _ _)).mono ?_
        rintro e w1 ⟨rfl, hb1⟩
        rw [F1.out, HX.out]
        go_wp2_with fail
        refine (HC.out a1 a0 w1 hb1).mono ?_
        rintro e w2 ⟨rfl, hb2⟩
        rw [F2.out, V2.out]
        go_wp2_with fail
        refine (HC.out a0 65535 w2 hb2).mono ?_
        rintro e w3 ⟨rfl, hb3⟩
        rw [F3.out, V3.out]
        go_wp2_with fail
        refine (HC.out a0 a2 w3 hb3).mono ?_
        rintro e w4 ⟨rfl, hb4⟩
        rw [F4.out, HZ.out]
        go_wp2
        go_ret
        exact ⟨rfl, hb4⟩
      · subst heq
        have hm1 : z ≤ x := M1.out (by omega)
        have hm2 : x ≤ z := M2.out (by omega)
        go_enter Try.func4, Try.ntmps4
        go_wp2_with fail
        refine (HC.out a0 a2 w (Below.refl _ _)).mono ?_
        rintro e w1 ⟨rfl, hb1⟩
        rw [F1.out, HX.out]
        go_wp2_with fail
        refine (HC.out a2 a0 w1 hb1).mono ?_
        rintro e w2 ⟨rfl, hb2⟩
        rw [F2.out, V2.out]
        go_wp2_with fail
        refine (HC.out a0 65535 w2 hb2).mono ?_
        rintro e w3 ⟨rfl, hb3⟩
        rw [F3.out, V3.out]
        go_wp2_with fail
        refine (HC.out a0 a2 w3 hb3).mono ?_
        rintro e w4 ⟨rfl, hb4⟩
        rw [F4.out, HX.out]
        go_wp2
        go_ret
        exact ⟨rfl, hb4⟩
      · have hm : x ≤ z := M2.out (by omega)
        have hn : ¬ a2 < a1 := by omega
        go_enter Try.func4, Try.ntmps4
        go_wp2_with fail
        refine (HC.out a0 a1 w (Below.refl _ _)).mono ?_
        rintro e w1 ⟨rfl, hb1⟩
        rw [F1.out, HX.out]
        go_wp2_with fail
        refine (HC.out a1 a0 w1 hb1).mono ?_
        rintro e w2 ⟨rfl, hb2⟩
        rw [F2.out, V2.out]
        go_wp2_with fail
        refine (HC.out a0 65535 w2 hb2).mono ?_
        rintro e w3 ⟨rfl, hb3⟩
        rw [F3.out, V3.out]
        go_wp2_with fail
        refine (HC.out a0 a2 w3 hb3).mono ?_
        rintro e w4 ⟨rfl, hb4⟩
        rw [F4.out, HZ.out]
        go_wp2
        go_ret
        exact ⟨rfl, hb4⟩
    · have f4 : scaleF a0 a2 = 1 := if_neg fun k => hc k.2
      generalize hx : scaleV a0 a1 = x at *
      generalize hz : scaleV a0 a2 = z at *
      have HX := Lib.hid hx
      have HZ := Lib.hid hz
      have HC := Lib.hid C
      have F1 := Lib.hid f1
      have F2 := Lib.hid f2
      have F3 := Lib.hid f3
      have F4 := Lib.hid f4
      have V2 := Lib.hid v2
      have V3 := Lib.hid v3
      clear C h hc hx hz f1 f2 f3 f4 v2 v3
      go_enter Try.func4, Try.ntmps4
      go_wp2_with fail
      refine (HC.out a0 a1 w (Below.refl _ _)).mono ?_
      rintro e w1 ⟨rfl, hb1⟩
      rw [F1.out, HX.out]
      go_wp2_with fail
      refine (HC.out a1 a0 w1 hb1).mono ?_
      rintro e w2 ⟨rfl, hb2⟩
      rw [F2.out, V2.out]
      go_wp2_with fail
      refine (HC.out a0 65535 w2 hb2).mono ?_
      rintro e w3 ⟨rfl, hb3⟩
      rw [F3.out, V3.out]
      go_wp2_with fail
      refine (HC.out a0 a2 w3 hb3).mono ?_
      rintro e w4 ⟨rfl, hb4⟩
      rw [F4.out, HZ.out]
      go_wp2
      go_ret
      exact ⟨rfl, hb4⟩
  · have f1 : scaleF a0 a1 = 1 := if_neg h
    have v1 : scaleV a0 a1 = 0 := if_neg h
    have f2 : scaleF a1 a0 = 1 := by rw [commF]; exact f1
    have v2 : scaleV a1 a0 = 0 := by rw [comm]; exact v1
    have HC := Lib.hid C
    clear C h
    go_enter Try.func4, Try.ntmps4
    go_wp2_with fail
    refine (HC.out a0 a1 w (Below.refl _ _)).mono ?_
    rintro e w1 ⟨rfl, hb1⟩
    rw [f1, v1]
    go_wp2_with fail
    refine (HC.out a1 a0 w1 hb1).mono ?_
    rintro e w2 ⟨rfl, hb2⟩
    rw [f2, v2]
    go_wp2
    go_ret
    exact ⟨rfl, hb2⟩
end Go.Proofs.Ythoiamaomhggiaa.levelScalesAreScales
