/- What a book's text says. No walk in it. (printed by wip/gen/gen_bkread.py) -/
import Derived.Test.YtljgpiaihahneaaDoorSplit3
import Derived.Test.YtljgpiaihahneaaDoorColRead
import Derived.Test.YtljgpiaihahneaaDoorBookPlain
namespace Go.Proofs.YtljgpiaihahneaaDoor
open Go.RowKit
set_option linter.unusedVariables false
set_option linter.unusedSimpArgs false

/-- the line of a gel -/
structure LineOk (s : ByteArray) : Prop where
  c1 : 0 ≤ cutI s 32
  c2 : 0 ≤ cutI (cutB s 32) 32
  pos : 0 < (cutB (cutB s 32) 32).size
  num : NumS (cutA s 32) 9
  col : ColOk (cutA (cutB s 32) 32)
def gelV (s : ByteArray) : Gel := ⟨valS (cutA s 32), cutB (cutB s 32) 32, colP (hsT (cutA (cutB s 32) 32)) 0, colP (hsT (cutA (cutB s 32) 32)) 1, colP (hsT (cutA (cutB s 32) 32)) 2⟩
/-- whether line k is wrong -/
def Bad (wh : Bool) (L : List ByteArray) (k : Nat) : Prop := (∃ h : k < L.length, ¬ LineOk L[k]) ∨ (wh = false ∧ k + 1 = L.length)
open Classical in
noncomputable def rbB (s : ByteArray) : Option Nat := (List.range (linesL s).length).find? fun k => decide (Bad (linesW s) (linesL s) k)
noncomputable def rbN (s : ByteArray) : Int := if 60000 < s.size then 0 else match rbB s with | some k => (k : Int) + 1 | none => 0
noncomputable def rbF (s : ByteArray) : Int := if 60000 < s.size then 2 else match rbB s with | some _ => 9 | none => chkBook ((linesL s).map gelV)
noncomputable def rbL (s : ByteArray) : List Gel := if 60000 < s.size then [] else match rbB s with | some _ => [] | none => if chkBook ((linesL s).map gelV) = 0 then (linesL s).map gelV else []
theorem find_range (p : Nat → Bool) : ∀ (n k : Nat), k < n → (∀ j, j < k → p j = false) → p k = true → (List.range n).find? p = some k := by
  intro n k hk h1 h2
  rw [List.find?_range_eq_some]
  refine ⟨h2, by simpa using hk, fun j hj => ?_⟩
  simp [h1 j hj]
theorem find_none (p : Nat → Bool) (n : Nat) (h : ∀ j, j < n → p j = false) : (List.range n).find? p = none := by
  rw [List.find?_eq_none]
  intro x hx
  rw [h x (List.mem_range.1 hx)]
  decide
theorem rb_large {s : ByteArray} (h : 60000 < s.size) : rbN s = 0 ∧ rbF s = 2 ∧ rbL s = [] := ⟨if_pos h, if_pos h, if_pos h⟩
open Classical in
theorem rb_bad {s : ByteArray} (h : ¬ 60000 < s.size) {k : Nat} (hk : k < (linesL s).length) (h1 : ∀ j, j < k → ¬ Bad (linesW s) (linesL s) j) (h2 : Bad (linesW s) (linesL s) k) : rbN s = (k : Int) + 1 ∧ rbF s = 9 ∧ rbL s = [] := by
  have e : rbB s = some k := find_range _ _ k hk (fun j hj => decide_eq_false (h1 j hj)) (decide_eq_true h2)
  unfold rbN rbF rbL
  rw [if_neg h, if_neg h, if_neg h, e]
  exact ⟨rfl, rfl, rfl⟩
open Classical in
theorem rb_good {s : ByteArray} (h : ¬ 60000 < s.size) (h1 : ∀ j, j < (linesL s).length → ¬ Bad (linesW s) (linesL s) j) : rbN s = 0 ∧ rbF s = chkBook ((linesL s).map gelV) ∧ rbL s = if chkBook ((linesL s).map gelV) = 0 then (linesL s).map gelV else [] := by
  have e : rbB s = none := find_none _ _ (fun j hj => decide_eq_false (h1 j hj))
  unfold rbN rbF rbL
  rw [if_neg h, if_neg h, if_neg h, e]
  exact ⟨rfl, rfl, rfl⟩
/-- what ReadBook hands back -/
def RbPost (w : World) (s : ByteArray) (e : Ending) (w' : World) : Prop :=
  ∃ v, e = .returned (.tuple #[v, .int .i64 (rbN s), .int .i64 (rbF s)]) ∧ GelS w'.heap.size w' v (rbL s) ∧ Below w.heap.size w w'
theorem sp3_none {s : ByteArray} (h : ¬ 0 ≤ cutI s 32) : sp3 s = [s] := if_neg h
theorem sp3_one {s : ByteArray} (h : 0 ≤ cutI s 32) (h2 : ¬ 0 ≤ cutI (cutB s 32) 32) : sp3 s = [cutA s 32, cutB s 32] := by unfold sp3; rw [if_pos h, if_neg h2]
theorem sp3_two {s : ByteArray} (h : 0 ≤ cutI s 32) (h2 : 0 ≤ cutI (cutB s 32) 32) : sp3 s = [cutA s 32, cutA (cutB s 32) 32, cutB (cutB s 32) 32] := by unfold sp3; rw [if_pos h, if_pos h2]
theorem gelV_name (s : ByteArray) : (gelV s).name.size ≤ s.size := by
  have := cutB_le (cutB s 32) 32
  have := cutB_le s 32
  show (cutB (cutB s 32) 32).size ≤ _
  omega
theorem map_take {α β : Type} (f : α → β) (l : List α) (k : Nat) (h : k < l.length) : (l.take (k + 1)).map f = (l.take k).map f ++ [f l[k]] := by
  rw [List.take_succ_eq_append_getElem h, List.map_append]
  rfl
end Go.Proofs.YtljgpiaihahneaaDoor
