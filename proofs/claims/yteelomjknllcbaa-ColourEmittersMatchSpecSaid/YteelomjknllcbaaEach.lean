/- colour.each over the function values that the program hands to it. (printed by wip/gen/gen_each.py) -/
import Derived.Test.YteelomjknllcbaaTones
namespace Go.Proofs.Yteelomjknllcbaa
open Go.RowKit
set_option linter.unusedVariables false
set_option linter.unusedSimpArgs false

theorem cell_set3' {W : World} {g g' i : Nat} {u0 u1 u2 : Value} (hg : g ≠ g') : (((W.setCell ⟨g', 0, none⟩ u0).setCell ⟨g', 1, none⟩ u1).setCell ⟨g', 2, none⟩ u2).cell? ⟨g, i, none⟩ = W.cell? ⟨g, i, none⟩ := by
  have hb : (((W.setCell ⟨g', 0, none⟩ u0).setCell ⟨g', 1, none⟩ u1).setCell ⟨g', 2, none⟩ u2).heap[g]? = W.heap[g]? := by
    rw [heap_setCell_other _ _ _ _ (by simpa using hg), heap_setCell_other _ _ _ _ (by simpa using hg), heap_setCell_other _ _ _ _ (by simpa using hg)]
  exact World.cell?_of_block (a := ⟨g, i, none⟩) hb

set_option maxHeartbeats 4000000 in
set_option maxRecDepth 100000 in
theorem each_filter (r1 g1 b1 r2 g2 b2 x y z : Int) (w : World)
    (C1 : ∀ W, Below w.heap.size w W → Calls Try.prog 59 #[.int .i64 r1, .int .i64 r2] W fun e w' => e = .returned (.int .i64 x) ∧ Below W.heap.size W w')
    (C2 : ∀ W, Below w.heap.size w W → Calls Try.prog 59 #[.int .i64 g1, .int .i64 g2] W fun e w' => e = .returned (.int .i64 y) ∧ Below W.heap.size W w')
    (C3 : ∀ W, Below w.heap.size w W → Calls Try.prog 59 #[.int .i64 b1, .int .i64 b2] W fun e w' => e = .returned (.int .i64 z) ∧ Below W.heap.size W w') :
    Calls Try.prog 56 #[.agg #[.int .i64 r1, .int .i64 g1, .int .i64 b1], .agg #[.int .i64 r2, .int .i64 g2, .int .i64 b2], .func (.func 59) #[] #[]] w fun e w' => e = .returned (.agg #[.int .i64 x, .int .i64 y, .int .i64 z]) ∧ Below w.heap.size w w' := by
  have H1 := Lib.hid C1
  have H2 := Lib.hid C2
  have H3 := Lib.hid C3
  clear C1 C2 C3
  have KB := Lib.hid (show ∀ W, Below (w.heap.size + 1 + 1 + 1) (((w.alloc (.cells #[.int .i64 r1, .int .i64 g1, .int .i64 b1] 23)).alloc (.cells #[.int .i64 r2, .int .i64 g2, .int .i64 b2] 23)).alloc (.cells #[.int .i64 0, .int .i64 0, .int .i64 0] 23)) W → Below w.heap.size w W from fun W hW => ((((Below.refl _ _).alloc (Nat.le_refl _) _).alloc (by simp) _).alloc (by simp <;> omega) _).trans (hW.mono (by omega)))
  have KT := Lib.hid (show ∀ W W1, Below (w.heap.size + 1 + 1 + 1) (((w.alloc (.cells #[.int .i64 r1, .int .i64 g1, .int .i64 b1] 23)).alloc (.cells #[.int .i64 r2, .int .i64 g2, .int .i64 b2] 23)).alloc (.cells #[.int .i64 0, .int .i64 0, .int .i64 0] 23)) W → Below W.heap.size W W1 → Below (w.heap.size + 1 + 1 + 1) (((w.alloc (.cells #[.int .i64 r1, .int .i64 g1, .int .i64 b1] 23)).alloc (.cells #[.int .i64 r2, .int .i64 g2, .int .i64 b2] 23)).alloc (.cells #[.int .i64 0, .int .i64 0, .int .i64 0] 23)) W1 from fun W W1 h1 h2 => h1.trans (h2.mono (by have := h1.size; simp at this; omega)))
  have KP := Lib.hid (show ∀ W, Below (w.heap.size + 1 + 1 + 1) (((w.alloc (.cells #[.int .i64 r1, .int .i64 g1, .int .i64 b1] 23)).alloc (.cells #[.int .i64 r2, .int .i64 g2, .int .i64 b2] 23)).alloc (.cells #[.int .i64 0, .int .i64 0, .int .i64 0] 23)) W → (W.cell? ⟨w.heap.size, 0, none⟩ = some (.int .i64 r1) ∧ W.cell? ⟨w.heap.size, 1, none⟩ = some (.int .i64 g1) ∧ W.cell? ⟨w.heap.size, 2, none⟩ = some (.int .i64 b1) ∧ W.cell? ⟨w.heap.size + 1, 0, none⟩ = some (.int .i64 r2) ∧ W.cell? ⟨w.heap.size + 1, 1, none⟩ = some (.int .i64 g2) ∧ W.cell? ⟨w.heap.size + 1, 2, none⟩ = some (.int .i64 b2)) from fun W hW => by
    refine ⟨(hW.cell (p := ⟨w.heap.size, 0, none⟩) (by simp; omega)).trans ?_, (hW.cell (p := ⟨w.heap.size, 1, none⟩) (by simp; omega)).trans ?_, (hW.cell (p := ⟨w.heap.size, 2, none⟩) (by simp; omega)).trans ?_, (hW.cell (p := ⟨w.heap.size + 1, 0, none⟩) (by simp)).trans ?_, (hW.cell (p := ⟨w.heap.size + 1, 1, none⟩) (by simp)).trans ?_, (hW.cell (p := ⟨w.heap.size + 1, 2, none⟩) (by simp)).trans ?_⟩ <;> simp [go_sem, World.cell?_alloc_past])
  have KR := Lib.hid (show ∀ W, Below (w.heap.size + 1 + 1 + 1) (((w.alloc (.cells #[.int .i64 r1, .int .i64 g1, .int .i64 b1] 23)).alloc (.cells #[.int .i64 r2, .int .i64 g2, .int .i64 b2] 23)).alloc (.cells #[.int .i64 0, .int .i64 0, .int .i64 0] 23)) W → Box3 W (w.heap.size + 1 + 1) (.int .i64 0) (.int .i64 0) (.int .i64 0) from fun W hW => by
    have c := (box_new ((w.alloc (.cells #[.int .i64 r1, .int .i64 g1, .int .i64 b1] 23)).alloc (.cells #[.int .i64 r2, .int .i64 g2, .int .i64 b2] 23)) (.int .i64 0) (.int .i64 0) (.int .i64 0) 23).below hW (by simp)
    simpa using c)
  have KS := Lib.hid (show ∀ W (u0 u1 u2 : Value), Below (w.heap.size + 1 + 1 + 1) (((w.alloc (.cells #[.int .i64 r1, .int .i64 g1, .int .i64 b1] 23)).alloc (.cells #[.int .i64 r2, .int .i64 g2, .int .i64 b2] 23)).alloc (.cells #[.int .i64 0, .int .i64 0, .int .i64 0] 23)) W → ((((W.setCell ⟨w.heap.size + 1 + 1, 0, none⟩ u0).setCell ⟨w.heap.size + 1 + 1, 1, none⟩ u1).setCell ⟨w.heap.size + 1 + 1, 2, none⟩ u2).cell? ⟨w.heap.size, 0, none⟩ = some (.int .i64 r1) ∧ (((W.setCell ⟨w.heap.size + 1 + 1, 0, none⟩ u0).setCell ⟨w.heap.size + 1 + 1, 1, none⟩ u1).setCell ⟨w.heap.size + 1 + 1, 2, none⟩ u2).cell? ⟨w.heap.size, 1, none⟩ = some (.int .i64 g1) ∧ (((W.setCell ⟨w.heap.size + 1 + 1, 0, none⟩ u0).setCell ⟨w.heap.size + 1 + 1, 1, none⟩ u1).setCell ⟨w.heap.size + 1 + 1, 2, none⟩ u2).cell? ⟨w.heap.size, 2, none⟩ = some (.int .i64 b1) ∧ (((W.setCell ⟨w.heap.size + 1 + 1, 0, none⟩ u0).setCell ⟨w.heap.size + 1 + 1, 1, none⟩ u1).setCell ⟨w.heap.size + 1 + 1, 2, none⟩ u2).cell? ⟨w.heap.size + 1, 0, none⟩ = some (.int .i64 r2) ∧ (((W.setCell ⟨w.heap.size + 1 + 1, 0, none⟩ u0).setCell ⟨w.heap.size + 1 + 1, 1, none⟩ u1).setCell ⟨w.heap.size + 1 + 1, 2, none⟩ u2).cell? ⟨w.heap.size + 1, 1, none⟩ = some (.int .i64 g2) ∧ (((W.setCell ⟨w.heap.size + 1 + 1, 0, none⟩ u0).setCell ⟨w.heap.size + 1 + 1, 1, none⟩ u1).setCell ⟨w.heap.size + 1 + 1, 2, none⟩ u2).cell? ⟨w.heap.size + 1, 2, none⟩ = some (.int .i64 b2)) from fun W u0 u1 u2 hW => by
    obtain ⟨k1, k2, k3, k4, k5, k6⟩ := KP.out W hW
    exact ⟨(cell_set3' (by omega)).trans k1, (cell_set3' (by omega)).trans k2, (cell_set3' (by omega)).trans k3, (cell_set3' (by omega)).trans k4, (cell_set3' (by omega)).trans k5, (cell_set3' (by omega)).trans k6⟩)
  go_enter Try.func56, Try.ntmps56
  go_upto_region 1 with fail
  have hw0 : Below (w.heap.size + 1 + 1 + 1) (((w.alloc (.cells #[.int .i64 r1, .int .i64 g1, .int .i64 b1] 23)).alloc (.cells #[.int .i64 r2, .int .i64 g2, .int .i64 b2] 23)).alloc (.cells #[.int .i64 0, .int .i64 0, .int .i64 0] 23)) (World.drew (((w.alloc (.cells #[.int .i64 r1, .int .i64 g1, .int .i64 b1] 23)).alloc (.cells #[.int .i64 r2, .int .i64 g2, .int .i64 b2] 23)).alloc (.cells #[.int .i64 0, .int .i64 0, .int .i64 0] 23))) := (Below.refl _ _).drew
  go_region_held3 (fun W => W.cell? ⟨w.heap.size, 0, none⟩ = some (.int .i64 r1) ∧ W.cell? ⟨w.heap.size, 1, none⟩ = some (.int .i64 g1) ∧ W.cell? ⟨w.heap.size, 2, none⟩ = some (.int .i64 b1) ∧ W.cell? ⟨w.heap.size + 1, 0, none⟩ = some (.int .i64 r2) ∧ W.cell? ⟨w.heap.size + 1, 1, none⟩ = some (.int .i64 g2) ∧ W.cell? ⟨w.heap.size + 1, 2, none⟩ = some (.int .i64 b2))
    (with_reducible first | exact KP.out _ (by assumption) | exact KS.out _ _ _ _ (by assumption))
    (first
      | (go_at_call 59; ((with_reducible refine (H1.out _ (KB.out _ (by assumption))).mono ?_); rintro e WA ⟨rfl, hba⟩; have hwa := KT.out _ _ (by assumption) hba; obtain ⟨s0, s1, s2, s3, s4, s5⟩ := KR.out _ hwa; clear hba))
      | (go_at_call 59; ((with_reducible refine (H2.out _ (KB.out _ (by assumption))).mono ?_); rintro e WB ⟨rfl, hbb⟩; have hwb := KT.out _ _ (by assumption) hbb; obtain ⟨s0, s1, s2, s3, s4, s5⟩ := KR.out _ hwb; clear hbb))
      | (go_at_call 59; ((with_reducible refine (H3.out _ (KB.out _ (by assumption))).mono ?_); rintro e WC ⟨rfl, hbc⟩; have hwc := KT.out _ _ (by assumption) hbc; obtain ⟨s0, s1, s2, s3, s4, s5⟩ := KR.out _ hwc; clear hbc))
      | fail)
  all_goals
    go_wp2
    refine bodyPost_ret (v := .agg #[.int .i64 x, .int .i64 y, .int .i64 z]) (by simp [results, Try.results56, go_sem, *]) rfl ⟨rfl, below_set3 (KB.out _ (by assumption)) (by omega)⟩

set_option maxHeartbeats 4000000 in
set_option maxRecDepth 100000 in
theorem each_between (r1 g1 b1 r2 g2 b2 x y z : Int) (c1 c2 : Value) (w : World)
    (C1 : ∀ W, Below w.heap.size w W → Calls Try.prog 54 #[.int .i64 r1, .int .i64 r2, c1, c2] W fun e w' => e = .returned (.int .i64 x) ∧ Below W.heap.size W w')
    (C2 : ∀ W, Below w.heap.size w W → Calls Try.prog 54 #[.int .i64 g1, .int .i64 g2, c1, c2] W fun e w' => e = .returned (.int .i64 y) ∧ Below W.heap.size W w')
    (C3 : ∀ W, Below w.heap.size w W → Calls Try.prog 54 #[.int .i64 b1, .int .i64 b2, c1, c2] W fun e w' => e = .returned (.int .i64 z) ∧ Below W.heap.size W w') :
    Calls Try.prog 56 #[.agg #[.int .i64 r1, .int .i64 g1, .int .i64 b1], .agg #[.int .i64 r2, .int .i64 g2, .int .i64 b2], .func (.func 54) #[] #[c1, c2]] w fun e w' => e = .returned (.agg #[.int .i64 x, .int .i64 y, .int .i64 z]) ∧ Below w.heap.size w w' := by
  have H1 := Lib.hid C1
  have H2 := Lib.hid C2
  have H3 := Lib.hid C3
  clear C1 C2 C3
  have KB := Lib.hid (show ∀ W, Below (w.heap.size + 1 + 1 + 1) (((w.alloc (.cells #[.int .i64 r1, .int .i64 g1, .int .i64 b1] 23)).alloc (.cells #[.int .i64 r2, .int .i64 g2, .int .i64 b2] 23)).alloc (.cells #[.int .i64 0, .int .i64 0, .int .i64 0] 23)) W → Below w.heap.size w W from fun W hW => ((((Below.refl _ _).alloc (Nat.le_refl _) _).alloc (by simp) _).alloc (by simp <;> omega) _).trans (hW.mono (by omega)))
  have KT := Lib.hid (show ∀ W W1, Below (w.heap.size + 1 + 1 + 1) (((w.alloc (.cells #[.int .i64 r1, .int .i64 g1, .int .i64 b1] 23)).alloc (.cells #[.int .i64 r2, .int .i64 g2, .int .i64 b2] 23)).alloc (.cells #[.int .i64 0, .int .i64 0, .int .i64 0] 23)) W → Below W.heap.size W W1 → Below (w.heap.size + 1 + 1 + 1) (((w.alloc (.cells #[.int .i64 r1, .int .i64 g1, .int .i64 b1] 23)).alloc (.cells #[.int .i64 r2, .int .i64 g2, .int .i64 b2] 23)).alloc (.cells #[.int .i64 0, .int .i64 0, .int .i64 0] 23)) W1 from fun W W1 h1 h2 => h1.trans (h2.mono (by have := h1.size; simp at this; omega)))
  have KP := Lib.hid (show ∀ W, Below (w.heap.size + 1 + 1 + 1) (((w.alloc (.cells #[.int .i64 r1, .int .i64 g1, .int .i64 b1] 23)).alloc (.cells #[.int .i64 r2, .int .i64 g2, .int .i64 b2] 23)).alloc (.cells #[.int .i64 0, .int .i64 0, .int .i64 0] 23)) W → (W.cell? ⟨w.heap.size, 0, none⟩ = some (.int .i64 r1) ∧ W.cell? ⟨w.heap.size, 1, none⟩ = some (.int .i64 g1) ∧ W.cell? ⟨w.heap.size, 2, none⟩ = some (.int .i64 b1) ∧ W.cell? ⟨w.heap.size + 1, 0, none⟩ = some (.int .i64 r2) ∧ W.cell? ⟨w.heap.size + 1, 1, none⟩ = some (.int .i64 g2) ∧ W.cell? ⟨w.heap.size + 1, 2, none⟩ = some (.int .i64 b2)) from fun W hW => by
    refine ⟨(hW.cell (p := ⟨w.heap.size, 0, none⟩) (by simp; omega)).trans ?_, (hW.cell (p := ⟨w.heap.size, 1, none⟩) (by simp; omega)).trans ?_, (hW.cell (p := ⟨w.heap.size, 2, none⟩) (by simp; omega)).trans ?_, (hW.cell (p := ⟨w.heap.size + 1, 0, none⟩) (by simp)).trans ?_, (hW.cell (p := ⟨w.heap.size + 1, 1, none⟩) (by simp)).trans ?_, (hW.cell (p := ⟨w.heap.size + 1, 2, none⟩) (by simp)).trans ?_⟩ <;> simp [go_sem, World.cell?_alloc_past])
  have KR := Lib.hid (show ∀ W, Below (w.heap.size + 1 + 1 + 1) (((w.alloc (.cells #[.int .i64 r1, .int .i64 g1, .int .i64 b1] 23)).alloc (.cells #[.int .i64 r2, .int .i64 g2, .int .i64 b2] 23)).alloc (.cells #[.int .i64 0, .int .i64 0, .int .i64 0] 23)) W → Box3 W (w.heap.size + 1 + 1) (.int .i64 0) (.int .i64 0) (.int .i64 0) from fun W hW => by
    have c := (box_new ((w.alloc (.cells #[.int .i64 r1, .int .i64 g1, .int .i64 b1] 23)).alloc (.cells #[.int .i64 r2, .int .i64 g2, .int .i64 b2] 23)) (.int .i64 0) (.int .i64 0) (.int .i64 0) 23).below hW (by simp)
    simpa using c)
  have KS := Lib.hid (show ∀ W (u0 u1 u2 : Value), Below (w.heap.size + 1 + 1 + 1) (((w.alloc (.cells #[.int .i64 r1, .int .i64 g1, .int .i64 b1] 23)).alloc (.cells #[.int .i64 r2, .int .i64 g2, .int .i64 b2] 23)).alloc (.cells #[.int .i64 0, .int .i64 0, .int .i64 0] 23)) W → ((((W.setCell ⟨w.heap.size + 1 + 1, 0, none⟩ u0).setCell ⟨w.heap.size + 1 + 1, 1, none⟩ u1).setCell ⟨w.heap.size + 1 + 1, 2, none⟩ u2).cell? ⟨w.heap.size, 0, none⟩ = some (.int .i64 r1) ∧ (((W.setCell ⟨w.heap.size + 1 + 1, 0, none⟩ u0).setCell ⟨w.heap.size + 1 + 1, 1, none⟩ u1).setCell ⟨w.heap.size + 1 + 1, 2, none⟩ u2).cell? ⟨w.heap.size, 1, none⟩ = some (.int .i64 g1) ∧ (((W.setCell ⟨w.heap.size + 1 + 1, 0, none⟩ u0).setCell ⟨w.heap.size + 1 + 1, 1, none⟩ u1).setCell ⟨w.heap.size + 1 + 1, 2, none⟩ u2).cell? ⟨w.heap.size, 2, none⟩ = some (.int .i64 b1) ∧ (((W.setCell ⟨w.heap.size + 1 + 1, 0, none⟩ u0).setCell ⟨w.heap.size + 1 + 1, 1, none⟩ u1).setCell ⟨w.heap.size + 1 + 1, 2, none⟩ u2).cell? ⟨w.heap.size + 1, 0, none⟩ = some (.int .i64 r2) ∧ (((W.setCell ⟨w.heap.size + 1 + 1, 0, none⟩ u0).setCell ⟨w.heap.size + 1 + 1, 1, none⟩ u1).setCell ⟨w.heap.size + 1 + 1, 2, none⟩ u2).cell? ⟨w.heap.size + 1, 1, none⟩ = some (.int .i64 g2) ∧ (((W.setCell ⟨w.heap.size + 1 + 1, 0, none⟩ u0).setCell ⟨w.heap.size + 1 + 1, 1, none⟩ u1).setCell ⟨w.heap.size + 1 + 1, 2, none⟩ u2).cell? ⟨w.heap.size + 1, 2, none⟩ = some (.int .i64 b2)) from fun W u0 u1 u2 hW => by
    obtain ⟨k1, k2, k3, k4, k5, k6⟩ := KP.out W hW
    exact ⟨(cell_set3' (by omega)).trans k1, (cell_set3' (by omega)).trans k2, (cell_set3' (by omega)).trans k3, (cell_set3' (by omega)).trans k4, (cell_set3' (by omega)).trans k5, (cell_set3' (by omega)).trans k6⟩)
  go_enter Try.func56, Try.ntmps56
  go_upto_region 1 with fail
  have hw0 : Below (w.heap.size + 1 + 1 + 1) (((w.alloc (.cells #[.int .i64 r1, .int .i64 g1, .int .i64 b1] 23)).alloc (.cells #[.int .i64 r2, .int .i64 g2, .int .i64 b2] 23)).alloc (.cells #[.int .i64 0, .int .i64 0, .int .i64 0] 23)) (World.drew (((w.alloc (.cells #[.int .i64 r1, .int .i64 g1, .int .i64 b1] 23)).alloc (.cells #[.int .i64 r2, .int .i64 g2, .int .i64 b2] 23)).alloc (.cells #[.int .i64 0, .int .i64 0, .int .i64 0] 23))) := (Below.refl _ _).drew
  go_region_held3 (fun W => W.cell? ⟨w.heap.size, 0, none⟩ = some (.int .i64 r1) ∧ W.cell? ⟨w.heap.size, 1, none⟩ = some (.int .i64 g1) ∧ W.cell? ⟨w.heap.size, 2, none⟩ = some (.int .i64 b1) ∧ W.cell? ⟨w.heap.size + 1, 0, none⟩ = some (.int .i64 r2) ∧ W.cell? ⟨w.heap.size + 1, 1, none⟩ = some (.int .i64 g2) ∧ W.cell? ⟨w.heap.size + 1, 2, none⟩ = some (.int .i64 b2))
    (with_reducible first | exact KP.out _ (by assumption) | exact KS.out _ _ _ _ (by assumption))
    (first
      | (go_at_call 54; ((with_reducible refine (H1.out _ (KB.out _ (by assumption))).mono ?_); rintro e WA ⟨rfl, hba⟩; have hwa := KT.out _ _ (by assumption) hba; obtain ⟨s0, s1, s2, s3, s4, s5⟩ := KR.out _ hwa; clear hba))
      | (go_at_call 54; ((with_reducible refine (H2.out _ (KB.out _ (by assumption))).mono ?_); rintro e WB ⟨rfl, hbb⟩; have hwb := KT.out _ _ (by assumption) hbb; obtain ⟨s0, s1, s2, s3, s4, s5⟩ := KR.out _ hwb; clear hbb))
      | (go_at_call 54; ((with_reducible refine (H3.out _ (KB.out _ (by assumption))).mono ?_); rintro e WC ⟨rfl, hbc⟩; have hwc := KT.out _ _ (by assumption) hbc; obtain ⟨s0, s1, s2, s3, s4, s5⟩ := KR.out _ hwc; clear hbc))
      | fail)
  all_goals
    go_wp2
    refine bodyPost_ret (v := .agg #[.int .i64 x, .int .i64 y, .int .i64 z]) (by simp [results, Try.results56, go_sem, *]) rfl ⟨rfl, below_set3 (KB.out _ (by assumption)) (by omega)⟩

set_option maxHeartbeats 4000000 in
set_option maxRecDepth 100000 in
theorem each_sum (r1 g1 b1 r2 g2 b2 x y z : Int) (c1 c2 : Value) (w : World)
    (C1 : ∀ W, Below w.heap.size w W → Calls Try.prog 82 #[.int .i64 r1, .int .i64 r2, c1, c2] W fun e w' => e = .returned (.int .i64 x) ∧ Below W.heap.size W w')
    (C2 : ∀ W, Below w.heap.size w W → Calls Try.prog 82 #[.int .i64 g1, .int .i64 g2, c1, c2] W fun e w' => e = .returned (.int .i64 y) ∧ Below W.heap.size W w')
    (C3 : ∀ W, Below w.heap.size w W → Calls Try.prog 82 #[.int .i64 b1, .int .i64 b2, c1, c2] W fun e w' => e = .returned (.int .i64 z) ∧ Below W.heap.size W w') :
    Calls Try.prog 56 #[.agg #[.int .i64 r1, .int .i64 g1, .int .i64 b1], .agg #[.int .i64 r2, .int .i64 g2, .int .i64 b2], .func (.func 82) #[] #[c1, c2]] w fun e w' => e = .returned (.agg #[.int .i64 x, .int .i64 y, .int .i64 z]) ∧ Below w.heap.size w w' := by
  have H1 := Lib.hid C1
  have H2 := Lib.hid C2
  have H3 := Lib.hid C3
  clear C1 C2 C3
  have KB := Lib.hid (show ∀ W, Below (w.heap.size + 1 + 1 + 1) (((w.alloc (.cells #[.int .i64 r1, .int .i64 g1, .int .i64 b1] 23)).alloc (.cells #[.int .i64 r2, .int .i64 g2, .int .i64 b2] 23)).alloc (.cells #[.int .i64 0, .int .i64 0, .int .i64 0] 23)) W → Below w.heap.size w W from fun W hW => ((((Below.refl _ _).alloc (Nat.le_refl _) _).alloc (by simp) _).alloc (by simp <;> omega) _).trans (hW.mono (by omega)))
  have KT := Lib.hid (show ∀ W W1, Below (w.heap.size + 1 + 1 + 1) (((w.alloc (.cells #[.int .i64 r1, .int .i64 g1, .int .i64 b1] 23)).alloc (.cells #[.int .i64 r2, .int .i64 g2, .int .i64 b2] 23)).alloc (.cells #[.int .i64 0, .int .i64 0, .int .i64 0] 23)) W → Below W.heap.size W W1 → Below (w.heap.size + 1 + 1 + 1) (((w.alloc (.cells #[.int .i64 r1, .int .i64 g1, .int .i64 b1] 23)).alloc (.cells #[.int .i64 r2, .int .i64 g2, .int .i64 b2] 23)).alloc (.cells #[.int .i64 0, .int .i64 0, .int .i64 0] 23)) W1 from fun W W1 h1 h2 => h1.trans (h2.mono (by have := h1.size; simp at this; omega)))
  have KP := Lib.hid (show ∀ W, Below (w.heap.size + 1 + 1 + 1) (((w.alloc (.cells #[.int .i64 r1, .int .i64 g1, .int .i64 b1] 23)).alloc (.cells #[.int .i64 r2, .int .i64 g2, .int .i64 b2] 23)).alloc (.cells #[.int .i64 0, .int .i64 0, .int .i64 0] 23)) W → (W.cell? ⟨w.heap.size, 0, none⟩ = some (.int .i64 r1) ∧ W.cell? ⟨w.heap.size, 1, none⟩ = some (.int .i64 g1) ∧ W.cell? ⟨w.heap.size, 2, none⟩ = some (.int .i64 b1) ∧ W.cell? ⟨w.heap.size + 1, 0, none⟩ = some (.int .i64 r2) ∧ W.cell? ⟨w.heap.size + 1, 1, none⟩ = some (.int .i64 g2) ∧ W.cell? ⟨w.heap.size + 1, 2, none⟩ = some (.int .i64 b2)) from fun W hW => by
    refine ⟨(hW.cell (p := ⟨w.heap.size, 0, none⟩) (by simp; omega)).trans ?_, (hW.cell (p := ⟨w.heap.size, 1, none⟩) (by simp; omega)).trans ?_, (hW.cell (p := ⟨w.heap.size, 2, none⟩) (by simp; omega)).trans ?_, (hW.cell (p := ⟨w.heap.size + 1, 0, none⟩) (by simp)).trans ?_, (hW.cell (p := ⟨w.heap.size + 1, 1, none⟩) (by simp)).trans ?_, (hW.cell (p := ⟨w.heap.size + 1, 2, none⟩) (by simp)).trans ?_⟩ <;> simp [go_sem, World.cell?_alloc_past])
  have KR := Lib.hid (show ∀ W, Below (w.heap.size + 1 + 1 + 1) (((w.alloc (.cells #[.int .i64 r1, .int .i64 g1, .int .i64 b1] 23)).alloc (.cells #[.int .i64 r2, .int .i64 g2, .int .i64 b2] 23)).alloc (.cells #[.int .i64 0, .int .i64 0, .int .i64 0] 23)) W → Box3 W (w.heap.size + 1 + 1) (.int .i64 0) (.int .i64 0) (.int .i64 0) from fun W hW => by
    have c := (box_new ((w.alloc (.cells #[.int .i64 r1, .int .i64 g1, .int .i64 b1] 23)).alloc (.cells #[.int .i64 r2, .int .i64 g2, .int .i64 b2] 23)) (.int .i64 0) (.int .i64 0) (.int .i64 0) 23).below hW (by simp)
    simpa using c)
  have KS := Lib.hid (show ∀ W (u0 u1 u2 : Value), Below (w.heap.size + 1 + 1 + 1) (((w.alloc (.cells #[.int .i64 r1, .int .i64 g1, .int .i64 b1] 23)).alloc (.cells #[.int .i64 r2, .int .i64 g2, .int .i64 b2] 23)).alloc (.cells #[.int .i64 0, .int .i64 0, .int .i64 0] 23)) W → ((((W.setCell ⟨w.heap.size + 1 + 1, 0, none⟩ u0).setCell ⟨w.heap.size + 1 + 1, 1, none⟩ u1).setCell ⟨w.heap.size + 1 + 1, 2, none⟩ u2).cell? ⟨w.heap.size, 0, none⟩ = some (.int .i64 r1) ∧ (((W.setCell ⟨w.heap.size + 1 + 1, 0, none⟩ u0).setCell ⟨w.heap.size + 1 + 1, 1, none⟩ u1).setCell ⟨w.heap.size + 1 + 1, 2, none⟩ u2).cell? ⟨w.heap.size, 1, none⟩ = some (.int .i64 g1) ∧ (((W.setCell ⟨w.heap.size + 1 + 1, 0, none⟩ u0).setCell ⟨w.heap.size + 1 + 1, 1, none⟩ u1).setCell ⟨w.heap.size + 1 + 1, 2, none⟩ u2).cell? ⟨w.heap.size, 2, none⟩ = some (.int .i64 b1) ∧ (((W.setCell ⟨w.heap.size + 1 + 1, 0, none⟩ u0).setCell ⟨w.heap.size + 1 + 1, 1, none⟩ u1).setCell ⟨w.heap.size + 1 + 1, 2, none⟩ u2).cell? ⟨w.heap.size + 1, 0, none⟩ = some (.int .i64 r2) ∧ (((W.setCell ⟨w.heap.size + 1 + 1, 0, none⟩ u0).setCell ⟨w.heap.size + 1 + 1, 1, none⟩ u1).setCell ⟨w.heap.size + 1 + 1, 2, none⟩ u2).cell? ⟨w.heap.size + 1, 1, none⟩ = some (.int .i64 g2) ∧ (((W.setCell ⟨w.heap.size + 1 + 1, 0, none⟩ u0).setCell ⟨w.heap.size + 1 + 1, 1, none⟩ u1).setCell ⟨w.heap.size + 1 + 1, 2, none⟩ u2).cell? ⟨w.heap.size + 1, 2, none⟩ = some (.int .i64 b2)) from fun W u0 u1 u2 hW => by
    obtain ⟨k1, k2, k3, k4, k5, k6⟩ := KP.out W hW
    exact ⟨(cell_set3' (by omega)).trans k1, (cell_set3' (by omega)).trans k2, (cell_set3' (by omega)).trans k3, (cell_set3' (by omega)).trans k4, (cell_set3' (by omega)).trans k5, (cell_set3' (by omega)).trans k6⟩)
  go_enter Try.func56, Try.ntmps56
  go_upto_region 1 with fail
  have hw0 : Below (w.heap.size + 1 + 1 + 1) (((w.alloc (.cells #[.int .i64 r1, .int .i64 g1, .int .i64 b1] 23)).alloc (.cells #[.int .i64 r2, .int .i64 g2, .int .i64 b2] 23)).alloc (.cells #[.int .i64 0, .int .i64 0, .int .i64 0] 23)) (World.drew (((w.alloc (.cells #[.int .i64 r1, .int .i64 g1, .int .i64 b1] 23)).alloc (.cells #[.int .i64 r2, .int .i64 g2, .int .i64 b2] 23)).alloc (.cells #[.int .i64 0, .int .i64 0, .int .i64 0] 23))) := (Below.refl _ _).drew
  go_region_held3 (fun W => W.cell? ⟨w.heap.size, 0, none⟩ = some (.int .i64 r1) ∧ W.cell? ⟨w.heap.size, 1, none⟩ = some (.int .i64 g1) ∧ W.cell? ⟨w.heap.size, 2, none⟩ = some (.int .i64 b1) ∧ W.cell? ⟨w.heap.size + 1, 0, none⟩ = some (.int .i64 r2) ∧ W.cell? ⟨w.heap.size + 1, 1, none⟩ = some (.int .i64 g2) ∧ W.cell? ⟨w.heap.size + 1, 2, none⟩ = some (.int .i64 b2))
    (with_reducible first | exact KP.out _ (by assumption) | exact KS.out _ _ _ _ (by assumption))
    (first
      | (go_at_call 82; ((with_reducible refine (H1.out _ (KB.out _ (by assumption))).mono ?_); rintro e WA ⟨rfl, hba⟩; have hwa := KT.out _ _ (by assumption) hba; obtain ⟨s0, s1, s2, s3, s4, s5⟩ := KR.out _ hwa; clear hba))
      | (go_at_call 82; ((with_reducible refine (H2.out _ (KB.out _ (by assumption))).mono ?_); rintro e WB ⟨rfl, hbb⟩; have hwb := KT.out _ _ (by assumption) hbb; obtain ⟨s0, s1, s2, s3, s4, s5⟩ := KR.out _ hwb; clear hbb))
      | (go_at_call 82; ((with_reducible refine (H3.out _ (KB.out _ (by assumption))).mono ?_); rintro e WC ⟨rfl, hbc⟩; have hwc := KT.out _ _ (by assumption) hbc; obtain ⟨s0, s1, s2, s3, s4, s5⟩ := KR.out _ hwc; clear hbc))
      | fail)
  all_goals
    go_wp2
    refine bodyPost_ret (v := .agg #[.int .i64 x, .int .i64 y, .int .i64 z]) (by simp [results, Try.results56, go_sem, *]) rfl ⟨rfl, below_set3 (KB.out _ (by assumption)) (by omega)⟩

set_option maxHeartbeats 4000000 in
set_option maxRecDepth 100000 in
theorem each_end (r1 g1 b1 r2 g2 b2 x y z : Int) (w : World)
    (C1 : ∀ W, Below w.heap.size w W → Calls Try.prog 83 #[.int .i64 r1, .int .i64 r2] W fun e w' => e = .returned (.int .i64 x) ∧ Below W.heap.size W w')
    (C2 : ∀ W, Below w.heap.size w W → Calls Try.prog 83 #[.int .i64 g1, .int .i64 g2] W fun e w' => e = .returned (.int .i64 y) ∧ Below W.heap.size W w')
    (C3 : ∀ W, Below w.heap.size w W → Calls Try.prog 83 #[.int .i64 b1, .int .i64 b2] W fun e w' => e = .returned (.int .i64 z) ∧ Below W.heap.size W w') :
    Calls Try.prog 56 #[.agg #[.int .i64 r1, .int .i64 g1, .int .i64 b1], .agg #[.int .i64 r2, .int .i64 g2, .int .i64 b2], .func (.func 83) #[] #[]] w fun e w' => e = .returned (.agg #[.int .i64 x, .int .i64 y, .int .i64 z]) ∧ Below w.heap.size w w' := by
  have H1 := Lib.hid C1
  have H2 := Lib.hid C2
  have H3 := Lib.hid C3
  clear C1 C2 C3
  have KB := Lib.hid (show ∀ W, Below (w.heap.size + 1 + 1 + 1) (((w.alloc (.cells #[.int .i64 r1, .int .i64 g1, .int .i64 b1] 23)).alloc (.cells #[.int .i64 r2, .int .i64 g2, .int .i64 b2] 23)).alloc (.cells #[.int .i64 0, .int .i64 0, .int .i64 0] 23)) W → Below w.heap.size w W from fun W hW => ((((Below.refl _ _).alloc (Nat.le_refl _) _).alloc (by simp) _).alloc (by simp <;> omega) _).trans (hW.mono (by omega)))
  have KT := Lib.hid (show ∀ W W1, Below (w.heap.size + 1 + 1 + 1) (((w.alloc (.cells #[.int .i64 r1, .int .i64 g1, .int .i64 b1] 23)).alloc (.cells #[.int .i64 r2, .int .i64 g2, .int .i64 b2] 23)).alloc (.cells #[.int .i64 0, .int .i64 0, .int .i64 0] 23)) W → Below W.heap.size W W1 → Below (w.heap.size + 1 + 1 + 1) (((w.alloc (.cells #[.int .i64 r1, .int .i64 g1, .int .i64 b1] 23)).alloc (.cells #[.int .i64 r2, .int .i64 g2, .int .i64 b2] 23)).alloc (.cells #[.int .i64 0, .int .i64 0, .int .i64 0] 23)) W1 from fun W W1 h1 h2 => h1.trans (h2.mono (by have := h1.size; simp at this; omega)))
  have KP := Lib.hid (show ∀ W, Below (w.heap.size + 1 + 1 + 1) (((w.alloc (.cells #[.int .i64 r1, .int .i64 g1, .int .i64 b1] 23)).alloc (.cells #[.int .i64 r2, .int .i64 g2, .int .i64 b2] 23)).alloc (.cells #[.int .i64 0, .int .i64 0, .int .i64 0] 23)) W → (W.cell? ⟨w.heap.size, 0, none⟩ = some (.int .i64 r1) ∧ W.cell? ⟨w.heap.size, 1, none⟩ = some (.int .i64 g1) ∧ W.cell? ⟨w.heap.size, 2, none⟩ = some (.int .i64 b1) ∧ W.cell? ⟨w.heap.size + 1, 0, none⟩ = some (.int .i64 r2) ∧ W.cell? ⟨w.heap.size + 1, 1, none⟩ = some (.int .i64 g2) ∧ W.cell? ⟨w.heap.size + 1, 2, none⟩ = some (.int .i64 b2)) from fun W hW => by
    refine ⟨(hW.cell (p := ⟨w.heap.size, 0, none⟩) (by simp; omega)).trans ?_, (hW.cell (p := ⟨w.heap.size, 1, none⟩) (by simp; omega)).trans ?_, (hW.cell (p := ⟨w.heap.size, 2, none⟩) (by simp; omega)).trans ?_, (hW.cell (p := ⟨w.heap.size + 1, 0, none⟩) (by simp)).trans ?_, (hW.cell (p := ⟨w.heap.size + 1, 1, none⟩) (by simp)).trans ?_, (hW.cell (p := ⟨w.heap.size + 1, 2, none⟩) (by simp)).trans ?_⟩ <;> simp [go_sem, World.cell?_alloc_past])
  have KR := Lib.hid (show ∀ W, Below (w.heap.size + 1 + 1 + 1) (((w.alloc (.cells #[.int .i64 r1, .int .i64 g1, .int .i64 b1] 23)).alloc (.cells #[.int .i64 r2, .int .i64 g2, .int .i64 b2] 23)).alloc (.cells #[.int .i64 0, .int .i64 0, .int .i64 0] 23)) W → Box3 W (w.heap.size + 1 + 1) (.int .i64 0) (.int .i64 0) (.int .i64 0) from fun W hW => by
    have c := (box_new ((w.alloc (.cells #[.int .i64 r1, .int .i64 g1, .int .i64 b1] 23)).alloc (.cells #[.int .i64 r2, .int .i64 g2, .int .i64 b2] 23)) (.int .i64 0) (.int .i64 0) (.int .i64 0) 23).below hW (by simp)
    simpa using c)
  have KS := Lib.hid (show ∀ W (u0 u1 u2 : Value), Below (w.heap.size + 1 + 1 + 1) (((w.alloc (.cells #[.int .i64 r1, .int .i64 g1, .int .i64 b1] 23)).alloc (.cells #[.int .i64 r2, .int .i64 g2, .int .i64 b2] 23)).alloc (.cells #[.int .i64 0, .int .i64 0, .int .i64 0] 23)) W → ((((W.setCell ⟨w.heap.size + 1 + 1, 0, none⟩ u0).setCell ⟨w.heap.size + 1 + 1, 1, none⟩ u1).setCell ⟨w.heap.size + 1 + 1, 2, none⟩ u2).cell? ⟨w.heap.size, 0, none⟩ = some (.int .i64 r1) ∧ (((W.setCell ⟨w.heap.size + 1 + 1, 0, none⟩ u0).setCell ⟨w.heap.size + 1 + 1, 1, none⟩ u1).setCell ⟨w.heap.size + 1 + 1, 2, none⟩ u2).cell? ⟨w.heap.size, 1, none⟩ = some (.int .i64 g1) ∧ (((W.setCell ⟨w.heap.size + 1 + 1, 0, none⟩ u0).setCell ⟨w.heap.size + 1 + 1, 1, none⟩ u1).setCell ⟨w.heap.size + 1 + 1, 2, none⟩ u2).cell? ⟨w.heap.size, 2, none⟩ = some (.int .i64 b1) ∧ (((W.setCell ⟨w.heap.size + 1 + 1, 0, none⟩ u0).setCell ⟨w.heap.size + 1 + 1, 1, none⟩ u1).setCell ⟨w.heap.size + 1 + 1, 2, none⟩ u2).cell? ⟨w.heap.size + 1, 0, none⟩ = some (.int .i64 r2) ∧ (((W.setCell ⟨w.heap.size + 1 + 1, 0, none⟩ u0).setCell ⟨w.heap.size + 1 + 1, 1, none⟩ u1).setCell ⟨w.heap.size + 1 + 1, 2, none⟩ u2).cell? ⟨w.heap.size + 1, 1, none⟩ = some (.int .i64 g2) ∧ (((W.setCell ⟨w.heap.size + 1 + 1, 0, none⟩ u0).setCell ⟨w.heap.size + 1 + 1, 1, none⟩ u1).setCell ⟨w.heap.size + 1 + 1, 2, none⟩ u2).cell? ⟨w.heap.size + 1, 2, none⟩ = some (.int .i64 b2)) from fun W u0 u1 u2 hW => by
    obtain ⟨k1, k2, k3, k4, k5, k6⟩ := KP.out W hW
    exact ⟨(cell_set3' (by omega)).trans k1, (cell_set3' (by omega)).trans k2, (cell_set3' (by omega)).trans k3, (cell_set3' (by omega)).trans k4, (cell_set3' (by omega)).trans k5, (cell_set3' (by omega)).trans k6⟩)
  go_enter Try.func56, Try.ntmps56
  go_upto_region 1 with fail
  have hw0 : Below (w.heap.size + 1 + 1 + 1) (((w.alloc (.cells #[.int .i64 r1, .int .i64 g1, .int .i64 b1] 23)).alloc (.cells #[.int .i64 r2, .int .i64 g2, .int .i64 b2] 23)).alloc (.cells #[.int .i64 0, .int .i64 0, .int .i64 0] 23)) (World.drew (((w.alloc (.cells #[.int .i64 r1, .int .i64 g1, .int .i64 b1] 23)).alloc (.cells #[.int .i64 r2, .int .i64 g2, .int .i64 b2] 23)).alloc (.cells #[.int .i64 0, .int .i64 0, .int .i64 0] 23))) := (Below.refl _ _).drew
  go_region_held3 (fun W => W.cell? ⟨w.heap.size, 0, none⟩ = some (.int .i64 r1) ∧ W.cell? ⟨w.heap.size, 1, none⟩ = some (.int .i64 g1) ∧ W.cell? ⟨w.heap.size, 2, none⟩ = some (.int .i64 b1) ∧ W.cell? ⟨w.heap.size + 1, 0, none⟩ = some (.int .i64 r2) ∧ W.cell? ⟨w.heap.size + 1, 1, none⟩ = some (.int .i64 g2) ∧ W.cell? ⟨w.heap.size + 1, 2, none⟩ = some (.int .i64 b2))
    (with_reducible first | exact KP.out _ (by assumption) | exact KS.out _ _ _ _ (by assumption))
    (first
      | (go_at_call 83; ((with_reducible refine (H1.out _ (KB.out _ (by assumption))).mono ?_); rintro e WA ⟨rfl, hba⟩; have hwa := KT.out _ _ (by assumption) hba; obtain ⟨s0, s1, s2, s3, s4, s5⟩ := KR.out _ hwa; clear hba))
      | (go_at_call 83; ((with_reducible refine (H2.out _ (KB.out _ (by assumption))).mono ?_); rintro e WB ⟨rfl, hbb⟩; have hwb := KT.out _ _ (by assumption) hbb; obtain ⟨s0, s1, s2, s3, s4, s5⟩ := KR.out _ hwb; clear hbb))
      | (go_at_call 83; ((with_reducible refine (H3.out _ (KB.out _ (by assumption))).mono ?_); rintro e WC ⟨rfl, hbc⟩; have hwc := KT.out _ _ (by assumption) hbc; obtain ⟨s0, s1, s2, s3, s4, s5⟩ := KR.out _ hwc; clear hbc))
      | fail)
  all_goals
    go_wp2
    refine bodyPost_ret (v := .agg #[.int .i64 x, .int .i64 y, .int .i64 z]) (by simp [results, Try.results56, go_sem, *]) rfl ⟨rfl, below_set3 (KB.out _ (by assumption)) (by omega)⟩
end Go.Proofs.Yteelomjknllcbaa
