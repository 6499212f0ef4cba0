/- The index of the first element that passes a test. No program in it. -/
import Derived.Test.YtabalicembhjmaaFixPlain
namespace Go.Proofs.Ytabalicembhjmaa
open Go.RowKit
set_option linter.unusedVariables false
set_option linter.unusedSimpArgs false

/-- the index, counted from i; -1: there is none -/
def idxF {α : Type} (t : α → Bool) : List α → Nat → Int
  | [], _ => -1
  | x :: l, i => if t x then (i : Int) else idxF t l (i + 1)
theorem idxF_step {α : Type} (t : α → Bool) (l : List α) (k : Nat) (h : k < l.length) : idxF t (l.drop k) k = if t l[k] then (k : Int) else idxF t (l.drop (k + 1)) (k + 1) := by
  rw [List.drop_eq_getElem_cons h]; rfl
theorem idxF_yes {α : Type} (t : α → Bool) (l : List α) (k : Nat) (h : k < l.length) (ht : t l[k] = true) : idxF t (l.drop k) k = (k : Int) := by rw [idxF_step t l k h, ht]; rfl
theorem idxF_no {α : Type} (t : α → Bool) (l : List α) (k : Nat) (h : k < l.length) (ht : t l[k] = false) : idxF t (l.drop k) k = idxF t (l.drop (k + 1)) (k + 1) := by rw [idxF_step t l k h, ht]; rfl
theorem idxF_end {α : Type} (t : α → Bool) (l : List α) (k : Nat) (h : l.length ≤ k) : idxF t (l.drop k) k = -1 := by rw [List.drop_of_length_le h]; rfl
theorem idxF_from {α : Type} (t : α → Bool) (l : List α) : ∀ i : Nat, (idxF t l i = -1 ∧ l.find? t = none) ∨ ∃ (k : Nat) (h : k < l.length), idxF t l i = ((i + k : Nat) : Int) ∧ l.find? t = some l[k] := by
  induction l with
  | nil => intro i; exact .inl ⟨rfl, rfl⟩
  | cons x l ih =>
    intro i
    cases hx : t x
    · rcases ih (i + 1) with ⟨h1, h2⟩ | ⟨k, hk, h1, h2⟩
      · exact .inl ⟨by simp only [idxF, hx]; simpa using h1, by rw [List.find?_cons, hx]; exact h2⟩
      · refine .inr ⟨k + 1, by simpa using hk, ?_, by rw [List.find?_cons, hx]; simpa using h2⟩
        simp only [idxF, hx]
        rw [show i + (k + 1) = i + 1 + k by omega]
        simpa using h1
    · exact .inr ⟨0, by simp, by simp [idxF, hx], by simp [hx]⟩
theorem idxF_spec {α : Type} (t : α → Bool) (l : List α) : (idxF t l 0 = -1 ∧ l.find? t = none) ∨ ∃ (k : Nat) (h : k < l.length), idxF t l 0 = (k : Int) ∧ l.find? t = some l[k] := by
  rcases idxF_from t l 0 with h | ⟨k, hk, h1, h2⟩
  · exact .inl h
  · exact .inr ⟨k, hk, by simpa using h1, h2⟩
end Go.Proofs.Ytabalicembhjmaa
