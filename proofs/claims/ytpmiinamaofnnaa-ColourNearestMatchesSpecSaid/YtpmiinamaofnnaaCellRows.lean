/- Slices as rows of cells, whatever their elements. No program in it. -/
import Derived.Below
import Derived.Laws.AppendOwn
import Derived.WalkKit
import Derived.ProofKit
namespace Go.Proofs.Ytpmiinamaofnnaa
open Go.RowKit
set_option linter.unusedVariables false
set_option linter.unusedSimpArgs false

/-- a slice value of n elements whose cells are xs, below block B -/
def CellsS (B : Nat) (w : World) (v : Value) (n : Nat) (xs : List Value) : Prop :=
  ∃ ao cap, v = .slice ao n cap ∧ n ≤ cap ∧ cap ≤ maxLen ∧ (0 < n → ∃ b off, ao = some ⟨b, off, none⟩ ∧ b < B ∧ ∀ j u, xs[j]? = some u → w.cell? ⟨b, off + j, none⟩ = some u)
theorem CellsS.below {B : Nat} {w w' : World} {v : Value} {n : Nat} {xs : List Value} (h : CellsS B w v n xs) (hb : Below B w w') : CellsS B w' v n xs := by
  obtain ⟨ao, cap, rfl, h1, h2, h3⟩ := h
  refine ⟨ao, cap, rfl, h1, h2, fun hl => ?_⟩
  obtain ⟨b, off, rfl, h4, h5⟩ := h3 hl
  exact ⟨b, off, rfl, h4, fun j u hu => (hb.cell (p := ⟨b, off + j, none⟩) h4).trans (h5 j u hu)⟩
theorem CellsS.more {B B' : Nat} {w : World} {v : Value} {n : Nat} {xs : List Value} (h : CellsS B w v n xs) (hB : B ≤ B') : CellsS B' w v n xs := by
  obtain ⟨ao, cap, rfl, h1, h2, h3⟩ := h
  refine ⟨ao, cap, rfl, h1, h2, fun hl => ?_⟩
  obtain ⟨b, off, rfl, h4, h5⟩ := h3 hl
  exact ⟨b, off, rfl, Nat.lt_of_lt_of_le h4 hB, h5⟩
theorem CellsS.nil (B : Nat) (w : World) : CellsS B w (.slice none 0 0) 0 [] := ⟨none, 0, rfl, Nat.le_refl _, Nat.zero_le _, fun h => absurd h (Nat.lt_irrefl _)⟩
theorem CellsS.cast {B : Nat} {w w' : World} {v : Value} {n : Nat} {xs : List Value} (h : CellsS B w v n xs) (hc : ∀ b off, b < B → w'.cell? ⟨b, off, none⟩ = w.cell? ⟨b, off, none⟩) : CellsS B w' v n xs := by
  obtain ⟨ao, cap, rfl, h1, h2, h3⟩ := h
  refine ⟨ao, cap, rfl, h1, h2, fun hl => ?_⟩
  obtain ⟨b, off, rfl, h4, h5⟩ := h3 hl
  exact ⟨b, off, rfl, h4, fun j u hu => (hc b _ h4).trans (h5 j u hu)⟩
theorem addr_plus (b off j : Nat) : (⟨b, off, none⟩ : Addr).add j = ⟨b, off + j, none⟩ := by unfold Addr.add; split <;> simp_all
theorem CellsS.of_own {base : Nat} {w : World} {T : TypeId} {size : Nat} {v : Value} {n : Nat} {xs : List Value} (h : w.ownsRow base T size v n xs) : CellsS w.heap.size w v n xs := by
  rcases h.2 with ⟨rfl, h0⟩ | ⟨g, cap, cur, rfl, hb, hg, h1, h2, h3, h4⟩
  · subst h0
    exact ⟨none, 0, rfl, Nat.le_refl _, Nat.zero_le _, fun h => absurd h (Nat.lt_irrefl _)⟩
  · refine ⟨some ⟨g, 0, none⟩, cap, rfl, h1, h2, fun _ => ⟨g, 0, rfl, (Array.getElem?_eq_some_iff.1 hg).1, fun j u hu => ?_⟩⟩
    have := h.cells (g := g) rfl j u hu
    rw [addr_plus] at this
    exact this
/-- cells of elements of two cells -/
def cells2 {α : Type} (f g : α → Value) (l : List α) : List Value := l.flatMap fun y => [f y, g y]
theorem cells2_length {α : Type} (f g : α → Value) (l : List α) : (cells2 f g l).length = l.length * 2 := by
  induction l with
  | nil => rfl
  | cons a l ih => simp [cells2] at *; omega
theorem cells2_snoc {α : Type} (f g : α → Value) (l : List α) (y : α) : cells2 f g (l ++ [y]) = cells2 f g l ++ [f y, g y] := by simp [cells2]
theorem cells2_take {α : Type} (f g : α → Value) (l : List α) (k : Nat) : (cells2 f g l).take (k * 2) = cells2 f g (l.take k) := by
  induction l generalizing k with
  | nil => simp [cells2]
  | cons a l ih =>
    match k with
    | 0 => simp [cells2]
    | k + 1 =>
      have := ih k
      rw [show (k + 1) * 2 = k * 2 + 2 by omega]
      simp [cells2] at *
      exact this
theorem cells2_get {α : Type} (f g : α → Value) (l : List α) (i : Nat) (h : i < l.length) : (cells2 f g l)[i * 2]? = some (f l[i]) ∧ (cells2 f g l)[i * 2 + 1]? = some (g l[i]) := by
  induction l generalizing i with
  | nil => simp at h
  | cons a l ih =>
    match i with
    | 0 => simp [cells2]
    | i + 1 =>
      have := ih i (by simpa using h)
      have e1 : (i + 1) * 2 = i * 2 + 2 := by omega
      rw [e1, show i * 2 + 2 + 1 = i * 2 + 1 + 2 by omega]
      simp only [cells2, List.flatMap_cons, List.cons_append, List.nil_append, List.getElem?_cons_succ, List.getElem_cons_succ] at *
      exact this
theorem cells2_one {α : Type} (f g : α → Value) (l : List α) (hf : ∀ x, (f x).oneCell' = true) (hg : ∀ x, (g x).oneCell' = true) : ∀ u ∈ cells2 f g l, u.oneCell' = true := by
  intro u hu
  simp only [cells2, List.mem_flatMap] at hu
  obtain ⟨y, _, hy⟩ := hu
  simp at hy
  rcases hy with rfl | rfl
  · exact hf y
  · exact hg y
/-- the cells of an element of a row -/
theorem CellsS.get2 {α : Type} {f g : α → Value} {B : Nat} {w : World} {v : Value} {l : List α} (h : CellsS B w v l.length (cells2 f g l)) (hl : l ≠ []) :
    ∃ b off cap, v = .slice (some ⟨b, off, none⟩) l.length cap ∧ b < B ∧ l.length ≤ maxLen ∧ ∀ i (hi : i < l.length), w.cell? ⟨b, off + i * 2, none⟩ = some (f l[i]) ∧ w.cell? ⟨b, off + i * 2 + 1, none⟩ = some (g l[i]) := by
  obtain ⟨ao, cap, rfl, h1, h2, h3⟩ := h
  obtain ⟨b, off, rfl, h4, h5⟩ := h3 (List.length_pos_iff.2 hl)
  exact ⟨b, off, cap, rfl, h4, Nat.le_trans h1 h2, fun i hi => ⟨h5 _ _ (cells2_get f g l i hi).1, h5 (i * 2 + 1) _ (cells2_get f g l i hi).2⟩⟩
/-- cells of elements of three cells -/
def cells3 {α : Type} (f g k : α → Value) (l : List α) : List Value := l.flatMap fun y => [f y, g y, k y]
theorem cells3_length {α : Type} (f g k : α → Value) (l : List α) : (cells3 f g k l).length = l.length * 3 := by
  induction l with
  | nil => rfl
  | cons a l ih => simp [cells3] at *; omega
theorem cells3_get {α : Type} (f g k : α → Value) (l : List α) (i : Nat) (h : i < l.length) : (cells3 f g k l)[i * 3]? = some (f l[i]) ∧ (cells3 f g k l)[i * 3 + 1]? = some (g l[i]) ∧ (cells3 f g k l)[i * 3 + 2]? = some (k l[i]) := by
  induction l generalizing i with
  | nil => simp at h
  | cons a l ih =>
    match i with
    | 0 => simp [cells3]
    | i + 1 =>
      have := ih i (by simpa using h)
      have e1 : (i + 1) * 3 = i * 3 + 3 := by omega
      rw [e1, show i * 3 + 3 + 1 = i * 3 + 1 + 3 by omega, show i * 3 + 3 + 2 = i * 3 + 2 + 3 by omega]
      simp only [cells3, List.flatMap_cons, List.cons_append, List.nil_append, List.getElem?_cons_succ, List.getElem_cons_succ] at *
      exact this
theorem cells3_one {α : Type} (f g k : α → Value) (l : List α) (hf : ∀ x, (f x).oneCell' = true) (hg : ∀ x, (g x).oneCell' = true) (hk : ∀ x, (k x).oneCell' = true) : ∀ u ∈ cells3 f g k l, u.oneCell' = true := by
  intro u hu
  simp only [cells3, List.mem_flatMap] at hu
  obtain ⟨y, _, hy⟩ := hu
  simp at hy
  rcases hy with rfl | rfl | rfl
  · exact hf y
  · exact hg y
  · exact hk y
theorem cells3_at {α : Type} {f g k : α → Value} {w : World} {b off : Nat} {l : List α} (h : ∀ i (hi : i < l.length), w.cell? ⟨b, off + i * 3, none⟩ = some (f l[i]) ∧ w.cell? ⟨b, off + i * 3 + 1, none⟩ = some (g l[i]) ∧ w.cell? ⟨b, off + i * 3 + 2, none⟩ = some (k l[i]))
    (j : Nat) (u : Value) (hu : (cells3 f g k l)[j]? = some u) : w.cell? ⟨b, off + j, none⟩ = some u := by
  have hj : j < (cells3 f g k l).length := (List.getElem?_eq_some_iff.1 hu).1
  rw [cells3_length] at hj
  have hi : j / 3 < l.length := by omega
  obtain ⟨g1, g2, g3⟩ := cells3_get f g k l (j / 3) hi
  obtain ⟨c1, c2, c3⟩ := h (j / 3) hi
  have hm : j % 3 = 0 ∨ j % 3 = 1 ∨ j % 3 = 2 := by omega
  rcases hm with e | e | e
  · have : j = j / 3 * 3 := by omega
    rw [this] at hu ⊢
    rw [g1] at hu
    obtain rfl := Option.some.inj hu
    exact c1
  · have : j = j / 3 * 3 + 1 := by omega
    rw [this] at hu ⊢
    rw [g2] at hu
    obtain rfl := Option.some.inj hu
    exact c2
  · have : j = j / 3 * 3 + 2 := by omega
    rw [this] at hu ⊢
    rw [g3] at hu
    obtain rfl := Option.some.inj hu
    exact c3
end Go.Proofs.Ytpmiinamaofnnaa
