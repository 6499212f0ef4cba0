/- Boxes of three cells through the ways a world grows. (printed by wip/gen/gen_between.py) -/
import Derived.Test.YteelomjknllcbaaTones
namespace Go.Proofs.Yteelomjknllcbaa
open Go.RowKit
set_option linter.unusedVariables false
set_option linter.unusedSimpArgs false

theorem bx_new {w : World} {g : Nat} {c0 c1 c2 : Value} {T : TypeId} (hg : g = w.heap.size) : Box3 (w.alloc (.cells #[c0, c1, c2] T)) g c0 c1 c2 := by subst hg; exact box_new w c0 c1 c2 T
theorem bx_alloc {w : World} {g : Nat} {c0 c1 c2 : Value} {o : Obj} (hg : g < w.heap.size) (h : Box3 w g c0 c1 c2) : Box3 (w.alloc o) g c0 c1 c2 := h.alloc hg o
theorem bx_drew {w : World} {g : Nat} {c0 c1 c2 : Value} (h : Box3 w g c0 c1 c2) : Box3 w.drew g c0 c1 c2 := ⟨h.c0, h.c1, h.c2, h.f0, h.f1, h.f2⟩
/-- there is a box of three cells -/
def Has3 (W : World) (g : Nat) : Prop := ∃ c0 c1 c2, Box3 W g c0 c1 c2
theorem has_of {W : World} {g : Nat} {c0 c1 c2 : Value} (h : Box3 W g c0 c1 c2) : Has3 W g := ⟨_, _, _, h⟩
theorem bx_put {W : World} {g g' : Nat} {u0 u1 u2 : Value} (hg : g = g') (h : Has3 W g) : Box3 (((W.setCell ⟨g', 0, none⟩ u0).setCell ⟨g', 1, none⟩ u1).setCell ⟨g', 2, none⟩ u2) g u0 u1 u2 := by
  subst hg
  obtain ⟨_, _, _, h⟩ := h
  exact set3_box h
theorem bx_other {W : World} {g g' : Nat} {c0 c1 c2 u0 u1 u2 : Value} (hg : g ≠ g') (h : Box3 W g c0 c1 c2) : Box3 (((W.setCell ⟨g', 0, none⟩ u0).setCell ⟨g', 1, none⟩ u1).setCell ⟨g', 2, none⟩ u2) g c0 c1 c2 := by
  have hb : (((W.setCell ⟨g', 0, none⟩ u0).setCell ⟨g', 1, none⟩ u1).setCell ⟨g', 2, none⟩ u2).heap[g]? = W.heap[g]? := by
    rw [heap_setCell_other _ _ _ _ (by simpa using hg), heap_setCell_other _ _ _ _ (by simpa using hg), heap_setCell_other _ _ _ _ (by simpa using hg)]
  have hc : ∀ i, (((W.setCell ⟨g', 0, none⟩ u0).setCell ⟨g', 1, none⟩ u1).setCell ⟨g', 2, none⟩ u2).cell? ⟨g, i, none⟩ = W.cell? ⟨g, i, none⟩ := fun i => World.cell?_of_block (a := ⟨g, i, none⟩) hb
  have hf : ∀ i, (((W.setCell ⟨g', 0, none⟩ u0).setCell ⟨g', 1, none⟩ u1).setCell ⟨g', 2, none⟩ u2).frozen? ⟨g, i, none⟩ = W.frozen? ⟨g, i, none⟩ := fun i => World.frozen?_of_block (a := ⟨g, i, none⟩) hb
  exact ⟨(hc 0).trans h.c0, (hc 1).trans h.c1, (hc 2).trans h.c2, (hf 0).trans h.f0, (hf 1).trans h.f1, (hf 2).trans h.f2⟩
theorem has_other {W : World} {g g' : Nat} {u0 u1 u2 : Value} (hg : g ≠ g') (h : Has3 W g) : Has3 (((W.setCell ⟨g', 0, none⟩ u0).setCell ⟨g', 1, none⟩ u1).setCell ⟨g', 2, none⟩ u2) g := by
  obtain ⟨_, _, _, h⟩ := h
  exact has_of (bx_other hg h)
theorem has_alloc {w : World} {g : Nat} {o : Obj} (hg : g < w.heap.size) (h : Has3 w g) : Has3 (w.alloc o) g := by
  obtain ⟨_, _, _, h⟩ := h
  exact has_of (bx_alloc hg h)
theorem bx_below {w W : World} {B g : Nat} {c0 c1 c2 : Value} (hb : Below B w W) (hg : g < B) (h : Box3 w g c0 c1 c2) : Box3 W g c0 c1 c2 := h.below hb hg
theorem bl_alloc {B : Nat} {w W : World} {o : Obj} (hB : B ≤ W.heap.size) (h : Below B w W) : Below B w (W.alloc o) := h.alloc hB o
theorem bl_set3 {B g : Nat} {w W : World} {u0 u1 u2 : Value} (hg : B ≤ g) (h : Below B w W) : Below B w (((W.setCell ⟨g, 0, none⟩ u0).setCell ⟨g, 1, none⟩ u1).setCell ⟨g, 2, none⟩ u2) := below_set3 h hg
theorem pre1 {W W1 : World} {c0 c1 c2 : Value} {T : TypeId} (hb : Below (W.alloc (.cells #[c0, c1, c2] T)).heap.size (W.alloc (.cells #[c0, c1, c2] T)) W1) : Box3 W1 W.heap.size c0 c1 c2 ∧ W.heap.size < W1.heap.size := by
  have h := hb.size
  simp at h
  exact ⟨bx_below hb (by simp) (bx_new rfl), by omega⟩
theorem pre2 {W W1 : World} {c0 c1 c2 d0 d1 d2 : Value} {T U : TypeId} (hb : Below ((W.alloc (.cells #[c0, c1, c2] T)).alloc (.cells #[d0, d1, d2] U)).heap.size ((W.alloc (.cells #[c0, c1, c2] T)).alloc (.cells #[d0, d1, d2] U)) W1) :
    Box3 W1 W.heap.size c0 c1 c2 ∧ Box3 W1 (W.heap.size + 1) d0 d1 d2 ∧ W.heap.size < W1.heap.size ∧ W.heap.size + 1 < W1.heap.size := by
  have h := hb.size
  simp at h
  exact ⟨bx_below hb (by simp <;> omega) (bx_alloc (by simp) (bx_new rfl)), bx_below hb (by simp) (bx_new (by simp)), by omega, by omega⟩
theorem bx_set0 {W : World} {g : Nat} {c0 c1 c2 u : Value} (h : Box3 W g c0 c1 c2) : Box3 (W.setCell ⟨g, 0, none⟩ u) g u c1 c2 := by
  obtain ⟨a0, a1, a2, f0, f1, f2⟩ := h
  exact ⟨by simp [go_sem, a0, a1, a2], by simp [go_sem, a0, a1, a2], by simp [go_sem, a0, a1, a2], by simp [go_sem, f0, f1, f2], by simp [go_sem, f0, f1, f2], by simp [go_sem, f0, f1, f2]⟩
theorem bx_set1 {W : World} {g g' i : Nat} {c0 c1 c2 u : Value} (hg : g ≠ g') (h : Box3 W g c0 c1 c2) : Box3 (W.setCell ⟨g', i, none⟩ u) g c0 c1 c2 := by
  have hb : (W.setCell ⟨g', i, none⟩ u).heap[g]? = W.heap[g]? := heap_setCell_other _ _ _ _ (by simpa using hg)
  have hc : ∀ i', (W.setCell ⟨g', i, none⟩ u).cell? ⟨g, i', none⟩ = W.cell? ⟨g, i', none⟩ := fun i' => World.cell?_of_block (a := ⟨g, i', none⟩) hb
  have hf : ∀ i', (W.setCell ⟨g', i, none⟩ u).frozen? ⟨g, i', none⟩ = W.frozen? ⟨g, i', none⟩ := fun i' => World.frozen?_of_block (a := ⟨g, i', none⟩) hb
  exact ⟨(hc 0).trans h.c0, (hc 1).trans h.c1, (hc 2).trans h.c2, (hf 0).trans h.f0, (hf 1).trans h.f1, (hf 2).trans h.f2⟩
theorem undrew {B : Nat} {W W1 : World} (hb : Below B W.drew W1) : Below B W W1 := ⟨hb.os, hb.tape, hb.output, hb.size, hb.block⟩
theorem pre1d {W W1 : World} {c0 c1 c2 : Value} {T : TypeId} (hb : Below (W.alloc (.cells #[c0, c1, c2] T)).drew.heap.size (W.alloc (.cells #[c0, c1, c2] T)).drew W1) : Box3 W1 W.heap.size c0 c1 c2 ∧ W.heap.size < W1.heap.size := pre1 (undrew hb)
theorem pre2d {W W1 : World} {c0 c1 c2 d0 d1 d2 : Value} {T U : TypeId} (hb : Below ((W.alloc (.cells #[c0, c1, c2] T)).alloc (.cells #[d0, d1, d2] U)).drew.heap.size ((W.alloc (.cells #[c0, c1, c2] T)).alloc (.cells #[d0, d1, d2] U)).drew W1) :
    Box3 W1 W.heap.size c0 c1 c2 ∧ Box3 W1 (W.heap.size + 1) d0 d1 d2 ∧ W.heap.size < W1.heap.size ∧ W.heap.size + 1 < W1.heap.size := pre2 (undrew hb)
theorem pre2e {W W1 : World} {c0 c1 c2 d0 d1 d2 : Value} {T U : TypeId} (hb : Below ((W.alloc (.cells #[c0, c1, c2] T)).drew.alloc (.cells #[d0, d1, d2] U)).heap.size ((W.alloc (.cells #[c0, c1, c2] T)).drew.alloc (.cells #[d0, d1, d2] U)) W1) :
    Box3 W1 W.heap.size c0 c1 c2 ∧ Box3 W1 (W.heap.size + 1) d0 d1 d2 ∧ W.heap.size < W1.heap.size ∧ W.heap.size + 1 < W1.heap.size := by
  have h := hb.size
  simp at h
  exact ⟨bx_below hb (by simp <;> omega) (bx_alloc (by simp) (bx_drew (bx_new rfl))), bx_below hb (by simp) (bx_new (by simp)), by omega, by omega⟩
theorem bl_below {B : Nat} {w W W1 : World} (hB : B ≤ W.heap.size) (hb : Below W.heap.size W W1) (h : Below B w W) : Below B w W1 := h.trans (hb.mono hB)
end Go.Proofs.Yteelomjknllcbaa
