/- Rows of digits that are written place by place, as cells of an own row; rows of the naturals that come as arguments, read at a later world. -/
import Derived.Test.YteelomjknllcbaaNatPlus
import Derived.Test.YteelomjknllcbaaNatOrder
namespace Go.Proofs.Yteelomjknllcbaa
open Go.RowKit
set_option linter.unusedVariables false
set_option linter.unusedSimpArgs false

/-- the cells of digits of A below place j, of B from there on -/
def mcells (A B j L : Nat) : List Value := (List.range L).map fun i => .int .i64 (mixd A B j i : Nat)
theorem mcells_len (A B j L : Nat) : (mcells A B j L).length = L := by simp [mcells]
theorem mcells_at {A B j L i : Nat} (h : i < L) : (mcells A B j L)[i]? = some (.int .i64 (mixd A B j i : Nat)) := by simp [mcells, h]
theorem mcells_up {A B j L : Nat} (h : j < L) : (mcells A B j L).set j (.int .i64 (dg A j : Nat)) = mcells A B (j + 1) L := by
  apply List.ext_getElem?
  intro i
  rw [List.getElem?_set]
  by_cases hi : i < L
  · rw [mcells_at hi, mcells_len]
    by_cases e : j = i
    · subst e
      rw [if_pos rfl, if_pos hi, mcells_at hi, mixd_low (by omega)]
    · rw [if_neg e, mcells_at hi]
      unfold mixd
      by_cases h2 : i < j
      · rw [if_pos h2, if_pos (by omega)]
      · rw [if_neg h2, if_neg (by omega)]
  · have h1 : ∀ j, (mcells A B j L)[i]? = none := fun j => List.getElem?_eq_none (by rw [mcells_len]; omega)
    rw [h1, h1]
    rw [if_neg (by omega)]
theorem mcells_down {A B j L : Nat} (h : j < L) : (mcells A B (j + 1) L).set j (.int .i64 (dg B j : Nat)) = mcells A B j L := by
  apply List.ext_getElem?
  intro i
  rw [List.getElem?_set]
  by_cases hi : i < L
  · rw [mcells_at hi, mcells_len]
    by_cases e : j = i
    · subst e
      rw [if_pos rfl, if_pos hi, mcells_at hi, mixd_high (by omega)]
    · rw [if_neg e, mcells_at hi]
      unfold mixd
      by_cases h2 : i < j
      · rw [if_pos h2, if_pos (by omega)]
      · rw [if_neg h2, if_neg (by omega)]
  · have h1 : ∀ j, (mcells A B j L)[i]? = none := fun j => List.getElem?_eq_none (by rw [mcells_len]; omega)
    rw [h1, h1]
    rw [if_neg (by omega)]
theorem mcells_eq {A B j L C : Nat} (h : ∀ i, i < L → mixd A B j i = dg C i) : mcells A B j L = dcells C L := by
  unfold mcells dcells
  exact List.map_congr_left fun i hi => by rw [h i (List.mem_range.1 hi)]
theorem dcells_eq {A C L : Nat} (h : ∀ i, i < L → dg A i = dg C i) : dcells A L = dcells C L := by
  unfold dcells
  exact List.map_congr_left fun i hi => by rw [h i (List.mem_range.1 hi)]
theorem mcells_all {A B j L : Nat} (h : L ≤ j) : mcells A B j L = dcells A L := mcells_eq fun i hi => mixd_low (by omega)
theorem mcells_none {A B L : Nat} : mcells A B 0 L = dcells B L := mcells_eq fun i hi => mixd_high (by omega)
theorem mcells_cong {A B A' B' j j' L : Nat} (h : ∀ i, i < L → mixd A B j i = mixd A' B' j' i) : mcells A B j L = mcells A' B' j' L := by
  unfold mcells
  exact List.map_congr_left fun i hi => by rw [h i (List.mem_range.1 hi)]
theorem dcells_at {A L i : Nat} (h : i < L) : (dcells A L)[i]? = some (.int .i64 (dg A i : Nat)) := by simp [dcells, h]
/-- an own row of T places, at its block's head -/
def Row (base : Nat) (w : World) (g T cap : Nat) (xs : List Value) : Prop := w.ownsRow base 3 1 (.slice (some ⟨g, 0, none⟩) T cap) T xs
theorem Row.at {base g T cap A B j i : Nat} {w : World} (h : Row base w g T cap (mcells A B j T)) (hi : i < T) : w.cell? ⟨g, i, none⟩ = some (.int .i64 (mixd A B j i : Nat)) :=
  (World.ownsRow.cellAt h i (by omega)).trans (mcells_at hi)
theorem Row.atD {base g T cap A i : Nat} {w : World} (h : Row base w g T cap (dcells A T)) (hi : i < T) : w.cell? ⟨g, i, none⟩ = some (.int .i64 (dg A i : Nat)) :=
  (World.ownsRow.cellAt h i (by omega)).trans (dcells_at hi)
theorem Row.free {base g T cap : Nat} {w : World} {xs : List Value} (h : Row base w g T cap xs) (i : Nat) : w.frozen? ⟨g, i, none⟩ = false := World.ownsRow.frozenAt h i
theorem Row.up {base g T cap A B j : Nat} {w : World} (h : Row base w g T cap (mcells A B j T)) (hj : j < T) : Row base (w.setCell ⟨g, j, none⟩ (.int .i64 (dg A j : Nat))) g T cap (mcells A B (j + 1) T) := by
  have := (World.ownsRow.stored h j (.int .i64 (dg A j : Nat))).1
  rwa [mcells_up hj] at this
theorem Row.down {base g T cap A B j : Nat} {w : World} (h : Row base w g T cap (mcells A B (j + 1) T)) (hj : j < T) : Row base (w.setCell ⟨g, j, none⟩ (.int .i64 (dg B j : Nat))) g T cap (mcells A B j T) := by
  have := (World.ownsRow.stored h j (.int .i64 (dg B j : Nat))).1
  rwa [mcells_down hj] at this
theorem Row.block {base g T cap : Nat} {w : World} {xs : List Value} (h : Row base w g T cap xs) : base ≤ g ∧ g < w.heap.size := World.ownsRow.lt h g rfl
theorem Row.drawn {base g T cap n : Nat} {w : World} {xs : List Value} (h : Row base w g T cap xs) : Row base (w.drewN n) g T cap xs := h
theorem dcells_zero (T : Nat) : List.replicate T (Value.int .i64 0) = dcells 0 T := by
  apply List.ext_getElem?
  intro i
  by_cases hi : i < T
  · rw [dcells_at hi]
    simp [hi, dg]
  · rw [List.getElem?_eq_none (by simp; omega), List.getElem?_eq_none (by rw [dcells_len]; omega)]
theorem below_drewN {B n : Nat} {a w : World} (h : Below B a w) : Below B a (w.drewN n) := ⟨h.os, h.tape, h.output, h.size, h.block⟩
theorem grown_set1 (w : World) (g i : Nat) (u : Value) : w.grownBy (w.setCell ⟨g, i, none⟩ u) (some g) :=
  ⟨rfl, rfl, rfl, by simp, fun k _ hk => heap_setCell_other w ⟨g, i, none⟩ k u (fun e => hk (by simp [e]))⟩
theorem grown_trans1 {w w1 w2 : World} {r : Option Nat} (h : w.grownBy w1 r) (k : w1.grownBy w2 r) : w.grownBy w2 r :=
  ⟨k.os.trans h.os, k.tape.trans h.tape, k.output.trans h.output, Nat.le_trans h.size k.size, fun j hj hn => (k.block j (Nat.lt_of_lt_of_le hj h.size) hn).trans (h.block j hj hn)⟩
theorem grown_cell {w w' : World} {r : Option Nat} (h : w.grownBy w' r) {b o : Nat} (hb : b < w.heap.size) (hn : some b ≠ r) : w'.cell? ⟨b, o, none⟩ = w.cell? ⟨b, o, none⟩ := World.cell?_of_block (a := ⟨b, o, none⟩) (h.block b hb hn)
theorem grown_drewN {w w' : World} {r : Option Nat} {n : Nat} (h : w.grownBy w' r) : w.grownBy (w'.drewN n) r := ⟨h.os, h.tape, h.output, h.size, h.block⟩
theorem grown_drewN' {w w' : World} {r : Option Nat} {n : Nat} (h : (w.drewN n).grownBy w' r) : w.grownBy w' r := ⟨h.os, h.tape, h.output, h.size, h.block⟩
end Go.Proofs.Yteelomjknllcbaa
