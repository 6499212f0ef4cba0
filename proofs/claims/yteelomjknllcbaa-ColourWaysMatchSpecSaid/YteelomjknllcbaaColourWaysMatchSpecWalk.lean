/- The walk of cycloramalaw3.ColourWaysMatchSpec: for any two colours, way, part and whole it returns true. (printed by wip/gen/gen_filter.py) -/
import Derived.Test.YteelomjknllcbaaFilter
import Derived.Test.YteelomjknllcbaaBtw
import Derived.Test.YteelomjknllcbaaBtwBad
import Derived.Test.YteelomjknllcbaaColOpens
namespace Go.Proofs.Yteelomjknllcbaa
open Go.RowKit
set_option linter.unusedVariables false
set_option linter.unusedSimpArgs false

/-- Between of both sides gives the same -/
theorem btw_both (r1 g1 b1 r2 g2 b2 way p q : Int) : ∃ (x y z f : Int),
    (∀ w, Calls Try.prog 25 #[.agg #[.int .i64 r1, .int .i64 g1, .int .i64 b1], .agg #[.int .i64 r2, .int .i64 g2, .int .i64 b2], .int .i64 way, .int .i64 p, .int .i64 q] w fun e w' => e = .returned (.tuple #[.agg #[.int .i64 x, .int .i64 y, .int .i64 z], .int .i64 f]) ∧ Below w.heap.size w w') ∧
    (∀ w, Calls Try.prog 28 #[.agg #[.int .i64 r1, .int .i64 g1, .int .i64 b1], .agg #[.int .i64 r2, .int .i64 g2, .int .i64 b2], .int .i64 way, .int .i64 p, .int .i64 q] w fun e w' => e = .returned (.tuple #[.agg #[.int .i64 x, .int .i64 y, .int .i64 z], .int .i64 f]) ∧ Below w.heap.size w w') := by
  by_cases hok : PartOk p q
  · have h1 := fun w => between_ok r1 g1 b1 r2 g2 b2 way p q w hok
    by_cases hE : btwE r1 g1 b1 r2 g2 b2 way p q = 0
    · have h2 := fun w => rbetween_ok r1 g1 b1 r2 g2 b2 way p q w hok hE
      unfold btwR at h1
      rw [if_pos hE, hE] at h1
      exact ⟨_, _, _, _, h1, h2⟩
    · have h2 := fun w => rbetween_bad r1 g1 b1 r2 g2 b2 way p q w hE
      unfold btwR at h1
      rw [if_neg hE] at h1
      exact ⟨_, _, _, _, h1, h2⟩
  · have hE : btwE r1 g1 b1 r2 g2 b2 way p q ≠ 0 := by rw [btwE_no hok]; exact firstF_one' _ _ _
    exact ⟨_, _, _, _, fun w => between_bad r1 g1 b1 r2 g2 b2 way p q w hok, fun w => rbetween_bad r1 g1 b1 r2 g2 b2 way p q w hE⟩
theorem flt_both (r1 g1 b1 r2 g2 b2 : Int) : ∃ (x y z f : Int),
    (∀ w, Calls Try.prog 26 #[.agg #[.int .i64 r1, .int .i64 g1, .int .i64 b1], .agg #[.int .i64 r2, .int .i64 g2, .int .i64 b2]] w fun e w' => e = .returned (.tuple #[.agg #[.int .i64 x, .int .i64 y, .int .i64 z], .int .i64 f]) ∧ Below w.heap.size w w') ∧
    (∀ w, Calls Try.prog 27 #[.agg #[.int .i64 r1, .int .i64 g1, .int .i64 b1], .agg #[.int .i64 r2, .int .i64 g2, .int .i64 b2]] w fun e w' => e = .returned (.tuple #[.agg #[.int .i64 x, .int .i64 y, .int .i64 z], .int .i64 f]) ∧ Below w.heap.size w w') :=
  ⟨_, _, _, _, fun w => filter_any r1 g1 b1 r2 g2 b2 w, fun w => rfilter_any r1 g1 b1 r2 g2 b2 w⟩
end Go.Proofs.Yteelomjknllcbaa
namespace Go.Proofs.Yteelomjknllcbaa.colourWaysMatchSpec
open Go.RowKit
set_option linter.unusedVariables false
set_option linter.unusedSimpArgs false

set_option maxHeartbeats 4000000 in
theorem walk (a0 a1 : Value) (a2 a3 a4 : Int) (w : World) (w0 : TriV a0) (w1 : TriV a1) (_w2 : (Lit.int .i64 a2).wf = true) (_w3 : (Lit.int .i64 a3).wf = true) (_w4 : (Lit.int .i64 a4).wf = true) :
    Calls Try.prog 8 #[a0, a1, .int .i64 a2, .int .i64 a3, .int .i64 a4] w fun e w' => e = .returned (.bool true) ∧ Below w.heap.size w w' := by
  obtain ⟨r1, g1, b1, rfl, _, _, _⟩ := w0
  obtain ⟨r2, g2, b2, rfl, _, _, _⟩ := w1
  clear _w2 _w3 _w4
  obtain ⟨x, y, z, f, hf1, hf2⟩ := flt_both r1 g1 b1 r2 g2 b2
  obtain ⟨u, v, t, k, hk1, hk2⟩ := btw_both r1 g1 b1 r2 g2 b2 a2 a3 a4
  have F1 := Lib.hid hf1
  have F2 := Lib.hid hf2
  have K1 := Lib.hid hk1
  have K2 := Lib.hid hk2
  clear hf1 hf2 hk1 hk2
  go_enter Try.func8, Try.ntmps8
  go_wp2_with fail
  refine (F1.out _).mono ?_
  rintro e wA ⟨rfl, hbA⟩
  have hz := hbA.size
  simp at hz
  have z0 : w.heap.size < wA.heap.size := by omega
  have z1 : w.heap.size + 1 < wA.heap.size := by omega
  have a0 := fun i => hbA.cell (p := ⟨w.heap.size, i, none⟩) (by simp; omega)
  have d0 := fun i => hbA.cell (p := ⟨w.heap.size + 1, i, none⟩) (by simp)
  have aa : wA.cell? ⟨w.heap.size, 0, none⟩ = some (.int .i64 r1) ∧ wA.cell? ⟨w.heap.size, 1, none⟩ = some (.int .i64 g1) ∧ wA.cell? ⟨w.heap.size, 2, none⟩ = some (.int .i64 b1) := ⟨(a0 0).trans (by simp [go_sem, World.cell?_alloc_past]), (a0 1).trans (by simp [go_sem, World.cell?_alloc_past]), (a0 2).trans (by simp [go_sem, World.cell?_alloc_past])⟩
  have dd : wA.cell? ⟨w.heap.size + 1, 0, none⟩ = some (.int .i64 r2) ∧ wA.cell? ⟨w.heap.size + 1, 1, none⟩ = some (.int .i64 g2) ∧ wA.cell? ⟨w.heap.size + 1, 2, none⟩ = some (.int .i64 b2) := ⟨(d0 0).trans (by simp [go_sem]), (d0 1).trans (by simp [go_sem]), (d0 2).trans (by simp [go_sem])⟩
  have HB1 := Lib.hid (show Below w.heap.size w wA from (((Below.refl _ _).alloc (Nat.le_refl _) _).alloc (by simp) _).trans (hbA.mono (by simp <;> omega)))
  have HA := Lib.hid aa
  have HD := Lib.hid dd
  obtain ⟨a0, a1, a2⟩ := aa
  obtain ⟨d0, d1, d2⟩ := dd
  clear hbA hz
  go_wp2_with fail
  refine (F2.out _).mono ?_
  rintro e wB ⟨rfl, hbB⟩
  have hz := hbB.size
  simp at hz
  have l0 : w.heap.size < wB.heap.size := by omega
  have l1 : w.heap.size + 1 < wB.heap.size := by omega
  have l2 : wA.heap.size < wB.heap.size := by omega
  have HAB := Lib.hid (show ∀ g i u, g < wA.heap.size → wA.cell? ⟨g, i, none⟩ = some u → wB.cell? ⟨g, i, none⟩ = some u from fun g i u hg h => (hbB.cell (p := ⟨g, i, none⟩) (by simp; omega)).trans ((World.cell?_alloc_lt wA _ _ hg).trans h))
  have X1 := Lib.hid (bx_below hbB (by simp) (bx_new (g := wA.heap.size) rfl))
  have HB2 := Lib.hid (show Below w.heap.size w wB from (HB1.out.alloc (by omega) _).trans (hbB.mono (by simp; omega)))
  have a0 := HAB.out _ 0 _ z0 HA.out.1
  have a1 := HAB.out _ 1 _ z0 HA.out.2.1
  have a2 := HAB.out _ 2 _ z0 HA.out.2.2
  have d0 := HAB.out _ 0 _ z1 HD.out.1
  have d1 := HAB.out _ 1 _ z1 HD.out.2.1
  have d2 := HAB.out _ 2 _ z1 HD.out.2.2
  have HA := Lib.hid (show wB.cell? ⟨w.heap.size, 0, none⟩ = some (.int .i64 r1) ∧ wB.cell? ⟨w.heap.size, 1, none⟩ = some (.int .i64 g1) ∧ wB.cell? ⟨w.heap.size, 2, none⟩ = some (.int .i64 b1) from ⟨a0, a1, a2⟩)
  have HD := Lib.hid (show wB.cell? ⟨w.heap.size + 1, 0, none⟩ = some (.int .i64 r2) ∧ wB.cell? ⟨w.heap.size + 1, 1, none⟩ = some (.int .i64 g2) ∧ wB.cell? ⟨w.heap.size + 1, 2, none⟩ = some (.int .i64 b2) from ⟨d0, d1, d2⟩)
  obtain ⟨x0, x1, x2, x3, x4, x5⟩ := X1.out
  clear hbB hz HAB
  go_wp2_with fail
  refine (K1.out _).mono ?_
  rintro e wC ⟨rfl, hbC⟩
  have hz := hbC.size
  simp at hz
  have m0 : w.heap.size < wC.heap.size := by omega
  have m1 : w.heap.size + 1 < wC.heap.size := by omega
  have m2 : wA.heap.size < wC.heap.size := by omega
  have m3 : wB.heap.size < wC.heap.size := by omega
  have HBC := Lib.hid (show ∀ g i u, g < wB.heap.size → wB.cell? ⟨g, i, none⟩ = some u → wC.cell? ⟨g, i, none⟩ = some u from fun g i u hg h => (hbC.cell (p := ⟨g, i, none⟩) (by simp; omega)).trans ((World.cell?_alloc_lt wB _ _ hg).trans h))
  have X2 := Lib.hid (bx_below hbC (by simp) (bx_new (g := wB.heap.size) rfl))
  have X3 := Lib.hid (bx_below hbC (by simp; omega) (bx_alloc l2 X1.out))
  have HB3 := Lib.hid (show Below w.heap.size w wC from (HB2.out.alloc (by omega) _).trans (hbC.mono (by simp; omega)))
  have a0 := HBC.out _ 0 _ l0 HA.out.1
  have a1 := HBC.out _ 1 _ l0 HA.out.2.1
  have a2 := HBC.out _ 2 _ l0 HA.out.2.2
  have d0 := HBC.out _ 0 _ l1 HD.out.1
  have d1 := HBC.out _ 1 _ l1 HD.out.2.1
  have d2 := HBC.out _ 2 _ l1 HD.out.2.2
  have HA := Lib.hid (show wC.cell? ⟨w.heap.size, 0, none⟩ = some (.int .i64 r1) ∧ wC.cell? ⟨w.heap.size, 1, none⟩ = some (.int .i64 g1) ∧ wC.cell? ⟨w.heap.size, 2, none⟩ = some (.int .i64 b1) from ⟨a0, a1, a2⟩)
  have HD := Lib.hid (show wC.cell? ⟨w.heap.size + 1, 0, none⟩ = some (.int .i64 r2) ∧ wC.cell? ⟨w.heap.size + 1, 1, none⟩ = some (.int .i64 g2) ∧ wC.cell? ⟨w.heap.size + 1, 2, none⟩ = some (.int .i64 b2) from ⟨d0, d1, d2⟩)
  clear x0 x1 x2 x3 x4 x5 hbC hz HBC
  obtain ⟨x0, x1, x2, x3, x4, x5⟩ := X3.out
  obtain ⟨y0, y1, y2, y3, y4, y5⟩ := X2.out
  have n0 : w.heap.size ≠ wA.heap.size := by omega
  have n1 : w.heap.size + 1 ≠ wA.heap.size := by omega
  go_wp2_with fail
  refine (K2.out _).mono ?_
  rintro e wD ⟨rfl, hbD⟩
  have hz := hbD.size
  simp at hz
  have X4 := Lib.hid (bx_below hbD (by first | (simp; omega) | simp) (bx_put (g := wA.heap.size) (u0 := .int .i64 u) (u1 := .int .i64 v) (u2 := .int .i64 t) rfl (has_of X3.out)))
  have X5 := Lib.hid (bx_below hbD (by first | (simp; omega) | simp) (bx_other (by omega) X2.out))
  have HB4 := Lib.hid (show Below w.heap.size w wD from (below_set3 HB3.out (by omega)).trans (hbD.mono (by simp; omega)))
  have q0 : wA.heap.size < wD.heap.size := by omega
  have q1 : wB.heap.size < wD.heap.size := by omega
  have n2 : wA.heap.size ≠ wB.heap.size := by omega
  have n3 : wB.heap.size ≠ wA.heap.size := by omega
  clear x0 x1 x2 x3 x4 x5 y0 y1 y2 y3 y4 y5 hbD hz a0 a1 a2 d0 d1 d2
  obtain ⟨x0, x1, x2, x3, x4, x5⟩ := X4.out
  obtain ⟨y0, y1, y2, y3, y4, y5⟩ := X5.out
  go_wp2_with fail
  all_goals go_ret
  all_goals exact ⟨by simp, below_set3 HB4.out (by omega)⟩
end Go.Proofs.Yteelomjknllcbaa.colourWaysMatchSpec
