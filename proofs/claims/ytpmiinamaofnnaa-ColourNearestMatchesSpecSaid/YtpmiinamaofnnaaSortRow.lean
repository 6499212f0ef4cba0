/- A row of gels told by places. (printed by wip/gen/gen_sort.py) -/
import Derived.Test.YtpmiinamaofnnaaStable2
import Derived.Test.YtpmiinamaofnnaaGelOwn
import Derived.Test.YtpmiinamaofnnaaRowMut
namespace Go.Proofs.Ytpmiinamaofnnaa
open Go.RowKit
set_option linter.unusedVariables false
set_option linter.unusedSimpArgs false

/-- block g holds these gels, one behind the other, the first N of them told by D -/
def RowF (W : World) (g N : Nat) (D : Nat → Gel) : Prop := ∃ cur : Array Value, W.heap[g]? = some (.cells cur 29) ∧ N * 5 ≤ cur.size ∧ ∀ i, i < N → ∀ j, j < 5 → cur[i * 5 + j]? = (gelC (D i))[j]?
theorem RowF.lt {W : World} {g N : Nat} {D : Nat → Gel} (h : RowF W g N D) : g < W.heap.size := by
  obtain ⟨cur, h1, _⟩ := h
  exact (Array.getElem?_eq_some_iff.1 h1).1
theorem RowF.below {W W' : World} {g N : Nat} {D : Nat → Gel} (h : RowF W g N D) (hb : Below W.heap.size W W') : RowF W' g N D := by
  have hl := h.lt
  obtain ⟨cur, h1, h2⟩ := h
  exact ⟨cur, (hb.block g hl).trans h1, h2⟩
theorem RowF.drew {W : World} {g N : Nat} {D : Nat → Gel} (h : RowF W g N D) : RowF W.drew g N D := h
theorem RowF.cast {W : World} {g N : Nat} {D E : Nat → Gel} (h : RowF W g N D) (he : ∀ i, i < N → E i = D i) : RowF W g N E := by
  obtain ⟨cur, h1, h2, h3⟩ := h
  exact ⟨cur, h1, h2, fun i hi j hj => by rw [he i hi]; exact h3 i hi j hj⟩
theorem RowF.cell {W : World} {g N : Nat} {D : Nat → Gel} (h : RowF W g N D) {i : Nat} (hi : i < N) {j : Nat} {u : Value} (hj : j < 5) (hu : (gelC (D i))[j]? = some u) : W.cell? ⟨g, i * 5 + j, none⟩ = some u := by
  obtain ⟨cur, h1, h2, h3⟩ := h
  rw [row_cell2 h1, h3 i hi j hj, hu]
theorem RowF.frozen {W : World} {g N : Nat} {D : Nat → Gel} (h : RowF W g N D) (i : Nat) : W.frozen? ⟨g, i, none⟩ = false := by
  obtain ⟨cur, h1, _⟩ := h
  exact frozen_of_row W g i cur _ h1
/-- the cells of an element -/
structure ElemAt (W : World) (g i : Nat) (x : Gel) : Prop where
  c0 : W.cell? ⟨g, i * 5, none⟩ = some (.int .i64 x.n)
  f0 : W.frozen? ⟨g, i * 5, none⟩ = false
  c1 : W.cell? ⟨g, i * 5 + 1, none⟩ = some (.string x.name)
  f1 : W.frozen? ⟨g, i * 5 + 1, none⟩ = false
  c2 : W.cell? ⟨g, i * 5 + 2, none⟩ = some (.int .i64 x.r)
  f2 : W.frozen? ⟨g, i * 5 + 2, none⟩ = false
  c3 : W.cell? ⟨g, i * 5 + 3, none⟩ = some (.int .i64 x.g)
  f3 : W.frozen? ⟨g, i * 5 + 3, none⟩ = false
  c4 : W.cell? ⟨g, i * 5 + 4, none⟩ = some (.int .i64 x.b)
  f4 : W.frozen? ⟨g, i * 5 + 4, none⟩ = false
theorem RowF.elem {W : World} {g N : Nat} {D : Nat → Gel} (h : RowF W g N D) {i : Nat} (hi : i < N) : ElemAt W g i (D i) :=
  ⟨h.cell hi (j := 0) (by omega) rfl, h.frozen _, h.cell hi (j := 1) (by omega) rfl, h.frozen _, h.cell hi (j := 2) (by omega) rfl, h.frozen _, h.cell hi (j := 3) (by omega) rfl, h.frozen _, h.cell hi (j := 4) (by omega) rfl, h.frozen _⟩
theorem RowF.put {W : World} {g N : Nat} {D : Nat → Gel} (h : RowF W g N D) {i : Nat} (hi : i < N) (y : Gel) : RowF (W.setCells g (i * 5) (gelC y)) g N (upd D i y) := by
  obtain ⟨cur, h1, h2, h3⟩ := h
  have hl : i * 5 + (gelC y).length ≤ cur.size := by
    show i * 5 + 5 ≤ _
    have : (i + 1) * 5 ≤ N * 5 := Nat.mul_le_mul_right _ hi
    omega
  obtain ⟨cur', g1, g2⟩ := setCells_row g _ (gelC y) (i * 5) W cur h1 hl
  have hL : (gelC y).length = 5 := rfl
  have hs : cur'.size = cur.size := by
    have := congrArg List.length g2
    simp only [List.length_append, List.length_take, List.length_drop, Array.length_toList] at this
    omega
  refine ⟨cur', g1, by omega, fun n hn j hj => ?_⟩
  have hb : n * 5 + j < cur.size := by
    have : (n + 1) * 5 ≤ N * 5 := Nat.mul_le_mul_right _ hn
    omega
  rw [← Array.getElem?_toList, g2]
  have hz : ∀ x : Gel, (if n = i then gelC y else gelC (D n)) = gelC (upd D i y n) := fun _ => by unfold upd; split <;> rfl
  rw [← hz y]
  generalize gelC y = Z at *
  have ht : (cur.toList.take (i * 5)).length = i * 5 := by rw [List.length_take, Array.length_toList]; omega
  by_cases c : n = i
  · subst c
    clear h3 hz g2 g1 h1
    rw [if_pos rfl, List.append_assoc, List.getElem?_append_right (by omega), ht, List.getElem?_append_left (by omega), show n * 5 + j - n * 5 = j by omega]
  · rw [if_neg c, ← h3 n hn j hj, ← Array.getElem?_toList]
    clear h3 hz g2 g1 h1
    rcases Nat.lt_or_gt_of_ne c with c | c
    · have : (n + 1) * 5 ≤ i * 5 := Nat.mul_le_mul_right _ c
      rw [List.append_assoc, List.getElem?_append_left (by omega), List.getElem?_take, if_pos (by omega)]
    · have : (i + 1) * 5 ≤ n * 5 := Nat.mul_le_mul_right _ c
      rw [List.getElem?_append_right (by rw [List.length_append]; omega), List.length_append, ht, hL, List.getElem?_drop]
      congr 1
      omega
theorem RowF.put1 {W : World} {g N : Nat} {D : Nat → Gel} (h : RowF W g N D) {i : Nat} (hi : i < N) (y : Gel) : RowF (((((W.setCell ⟨g, i * 5, none⟩ (.int .i64 y.n)).setCell ⟨g, i * 5 + 1, none⟩ (.string y.name)).setCell ⟨g, i * 5 + 2, none⟩ (.int .i64 y.r)).setCell ⟨g, i * 5 + 3, none⟩ (.int .i64 y.g)).setCell ⟨g, i * 5 + 4, none⟩ (.int .i64 y.b)) g N (upd D i y) := h.put hi y
theorem RowF.two {W : World} {g N : Nat} {D : Nat → Gel} (h : RowF W g N D) {i j : Nat} (hi : i < N) (hj : j < N) : RowF ((((((((((W.setCell ⟨g, i * 5, none⟩ (.int .i64 (D j).n)).setCell ⟨g, i * 5 + 1, none⟩ (.string (D j).name)).setCell ⟨g, i * 5 + 2, none⟩ (.int .i64 (D j).r)).setCell ⟨g, i * 5 + 3, none⟩ (.int .i64 (D j).g)).setCell ⟨g, i * 5 + 4, none⟩ (.int .i64 (D j).b)).setCell ⟨g, j * 5, none⟩ (.int .i64 (D i).n)).setCell ⟨g, j * 5 + 1, none⟩ (.string (D i).name)).setCell ⟨g, j * 5 + 2, none⟩ (.int .i64 (D i).r)).setCell ⟨g, j * 5 + 3, none⟩ (.int .i64 (D i).g)).setCell ⟨g, j * 5 + 4, none⟩ (.int .i64 (D i).b)) g N (swp2 D i j) := (h.put1 hi (D j)).put1 hj (D i)
theorem grown_two (W : World) (g i j : Nat) (x y : Gel) : W.grownBy ((((((((((W.setCell ⟨g, i * 5, none⟩ (.int .i64 x.n)).setCell ⟨g, i * 5 + 1, none⟩ (.string x.name)).setCell ⟨g, i * 5 + 2, none⟩ (.int .i64 x.r)).setCell ⟨g, i * 5 + 3, none⟩ (.int .i64 x.g)).setCell ⟨g, i * 5 + 4, none⟩ (.int .i64 x.b)).setCell ⟨g, j * 5, none⟩ (.int .i64 y.n)).setCell ⟨g, j * 5 + 1, none⟩ (.string y.name)).setCell ⟨g, j * 5 + 2, none⟩ (.int .i64 y.r)).setCell ⟨g, j * 5 + 3, none⟩ (.int .i64 y.g)).setCell ⟨g, j * 5 + 4, none⟩ (.int .i64 y.b)) (some g) :=
  grown_trans (setCells_grown2 g (gelC x) (i * 5) W) (setCells_grown2 g (gelC y) (j * 5) _)
end Go.Proofs.Ytpmiinamaofnnaa
