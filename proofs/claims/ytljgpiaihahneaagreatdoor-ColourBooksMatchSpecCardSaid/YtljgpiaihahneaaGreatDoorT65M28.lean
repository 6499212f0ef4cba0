/- strings.SplitN at one mark, three pieces at the most. What a book's text says. No walk in it. (printed by wip/gen/gen_bkread.py) -/
import Derived.Test.YtljgpiaihahneaaGreatDoorT65M27
import Derived.Test.YtljgpiaihahneaaGreatDoorT65M16
import Derived.Test.YtljgpiaihahneaaGreatDoorT65M10

namespace Go.Proofs.YtljgpiaihahneaaGreatDoor
open Go.RowKit Go.Lib
set_option linter.unusedVariables false
set_option linter.unusedSimpArgs false

/-- three pieces of a text at the most -/
def sp3 (s : ByteArray) : List ByteArray :=
  if 0 ≤ cutI s 32 then (if 0 ≤ cutI (cutB s 32) 32 then [cutA s 32, cutA (cutB s 32) 32, cutB (cutB s 32) 32] else [cutA s 32, cutB s 32]) else [s]
theorem cut_hit {s : ByteArray} (h : 0 ≤ cutI s 32) (k : Nat) : splitB ⟨#[32]⟩ 0 (k + 1) s = cutA s 32 :: splitB ⟨#[32]⟩ 0 k (cutB s 32) := by
  have e : indexB s ⟨#[32]⟩ = ((cutI s 32).toNat : Int) := by rw [indexB_one]; unfold cutI at *; omega
  rw [splitB_hit _ _ _ _ _ e]
  unfold cutA cutB
  rw [if_pos h, if_pos h]
  rfl
theorem cut_miss {s : ByteArray} (h : ¬ 0 ≤ cutI s 32) (k : Nat) : splitB ⟨#[32]⟩ 0 k s = [s] := by
  refine splitB_miss _ _ _ _ ?_
  rw [indexB_one]
  have := cutI_lt s 32
  unfold cutI at *
  omega
theorem cut_size {s : ByteArray} (h : 0 ≤ cutI s 32) : cutI s 32 < s.size := by
  have := cutI_lt s 32
  omega
theorem cut_nil {s : ByteArray} (h : s.size = 0) : ¬ 0 ≤ cutI s 32 := fun h2 => by
  have := cut_size h2
  omega
theorem sp3_eq (s : ByteArray) : splitB ⟨#[32]⟩ 0 (min 3 (s.size + 1) - 1) s = sp3 s := by
  unfold sp3
  by_cases h : 0 ≤ cutI s 32
  · rw [if_pos h]
    have hs := cut_size h
    obtain ⟨k, hk⟩ : ∃ k, min 3 (s.size + 1) - 1 = k + 1 := ⟨min 3 (s.size + 1) - 2, by omega⟩
    rw [hk, cut_hit h]
    by_cases h2 : 0 ≤ cutI (cutB s 32) 32
    · rw [if_pos h2]
      have hs2 := cut_size h2
      have hb : (cutB s 32).size + 1 ≤ s.size := by
        unfold cutB
        rw [if_pos h]
        simp
        omega
      obtain rfl : k = 1 := by omega
      rw [cut_hit h2]
      rfl
    · rw [if_neg h2, cut_miss h2]
  · rw [if_neg h, cut_miss h]
theorem sp3_size (s : ByteArray) : ∀ x ∈ sp3 s, x.size ≤ s.size := by
  intro x hx
  have a1 := cutA_le s 32
  have b1 := cutB_le s 32
  have a2 := cutA_le (cutB s 32) 32
  have b2 := cutB_le (cutB s 32) 32
  unfold sp3 at hx
  split at hx
  · split at hx
    · simp at hx
      rcases hx with rfl | rfl | rfl <;> omega
    · simp at hx
      rcases hx with rfl | rfl <;> omega
  · simp at hx
    rw [hx]
    exact Nat.le_refl _
/-- what SplitN hands back -/
def Split3Post (w : World) (s : ByteArray) (e : Ending) (w' : World) : Prop :=
  ∃ cap, e = .returned (.slice (some ⟨w.heap.size, 0, none⟩) (sp3 s).length cap) ∧ RowS w' w.heap.size 0 (sp3 s) ∧ Below w.heap.size w w' ∧ w.heap.size < w'.heap.size
theorem split3_any (s : ByteArray) (w : World) (hT : TextW w) (hs : s.size < 4294967281) :
    Calls Tryz.prog 24 #[.string s, .string ⟨#[32]⟩, .int .i64 3] w (Split3Post w s) := by
  obtain ⟨m, hm⟩ := hT.len
  refine (Tryz.strings_SplitN s ⟨#[32]⟩ 3 m w hs hm (Nat.le_refl 1) (by decide) (by decide)).mono ?_
  rintro e w' ⟨rfl, rfl⟩
  refine ⟨min 3 (s.size + 1), by rw [sp3_eq], ?_, (Below.refl _ _).alloc (Nat.le_refl _) _, by simp⟩
  intro j hj
  have := World.cell?_alloc_new w (cellsOf (splitB ⟨#[32]⟩ 0 (min 3 (s.size + 1) - 1) s) (min 3 (s.size + 1))) 9 j
  rw [Nat.zero_add, this, sp3_eq]
  unfold cellsOf
  rw [List.getElem?_toArray, List.getElem?_append_left (by simpa using hj), List.getElem?_map, List.getElem?_eq_getElem hj]
  rfl
end Go.Proofs.YtljgpiaihahneaaGreatDoor

namespace Go.Proofs.YtljgpiaihahneaaGreatDoor
open Go.RowKit
set_option linter.unusedVariables false
set_option linter.unusedSimpArgs false

/-- the line of a gel -/
structure LineOk (s : ByteArray) : Prop where
  c1 : 0 ≤ cutI s 32
  c2 : 0 ≤ cutI (cutB s 32) 32
  pos : 0 < (cutB (cutB s 32) 32).size
  num : NumS (cutA s 32) 9
  col : ColOk (cutA (cutB s 32) 32)
def gelV (s : ByteArray) : Gel := ⟨valS (cutA s 32), cutB (cutB s 32) 32, colP (hsT (cutA (cutB s 32) 32)) 0, colP (hsT (cutA (cutB s 32) 32)) 1, colP (hsT (cutA (cutB s 32) 32)) 2⟩
/-- whether line k is wrong -/
def Bad (wh : Bool) (L : List ByteArray) (k : Nat) : Prop := (∃ h : k < L.length, ¬ LineOk L[k]) ∨ (wh = false ∧ k + 1 = L.length)
open Classical in
noncomputable def rbB (s : ByteArray) : Option Nat := (List.range (linesL s).length).find? fun k => decide (Bad (linesW s) (linesL s) k)
noncomputable def rbN (s : ByteArray) : Int := if 60000 < s.size then 0 else match rbB s with | some k => (k : Int) + 1 | none => 0
noncomputable def rbF (s : ByteArray) : Int := if 60000 < s.size then 2 else match rbB s with | some _ => 9 | none => chkBook ((linesL s).map gelV)
noncomputable def rbL (s : ByteArray) : List Gel := if 60000 < s.size then [] else match rbB s with | some _ => [] | none => if chkBook ((linesL s).map gelV) = 0 then (linesL s).map gelV else []
theorem find_range (p : Nat → Bool) : ∀ (n k : Nat), k < n → (∀ j, j < k → p j = false) → p k = true → (List.range n).find? p = some k := by
  intro n k hk h1 h2
  rw [List.find?_range_eq_some]
  refine ⟨h2, by simpa using hk, fun j hj => ?_⟩
  simp [h1 j hj]
theorem find_none (p : Nat → Bool) (n : Nat) (h : ∀ j, j < n → p j = false) : (List.range n).find? p = none := by
  rw [List.find?_eq_none]
  intro x hx
  rw [h x (List.mem_range.1 hx)]
  decide
theorem rb_large {s : ByteArray} (h : 60000 < s.size) : rbN s = 0 ∧ rbF s = 2 ∧ rbL s = [] := ⟨if_pos h, if_pos h, if_pos h⟩
open Classical in
theorem rb_bad {s : ByteArray} (h : ¬ 60000 < s.size) {k : Nat} (hk : k < (linesL s).length) (h1 : ∀ j, j < k → ¬ Bad (linesW s) (linesL s) j) (h2 : Bad (linesW s) (linesL s) k) : rbN s = (k : Int) + 1 ∧ rbF s = 9 ∧ rbL s = [] := by
  have e : rbB s = some k := find_range _ _ k hk (fun j hj => decide_eq_false (h1 j hj)) (decide_eq_true h2)
  unfold rbN rbF rbL
  rw [if_neg h, if_neg h, if_neg h, e]
  exact ⟨rfl, rfl, rfl⟩
open Classical in
theorem rb_good {s : ByteArray} (h : ¬ 60000 < s.size) (h1 : ∀ j, j < (linesL s).length → ¬ Bad (linesW s) (linesL s) j) : rbN s = 0 ∧ rbF s = chkBook ((linesL s).map gelV) ∧ rbL s = if chkBook ((linesL s).map gelV) = 0 then (linesL s).map gelV else [] := by
  have e : rbB s = none := find_none _ _ (fun j hj => decide_eq_false (h1 j hj))
  unfold rbN rbF rbL
  rw [if_neg h, if_neg h, if_neg h, e]
  exact ⟨rfl, rfl, rfl⟩
/-- what ReadBook hands back -/
def RbPost (w : World) (s : ByteArray) (e : Ending) (w' : World) : Prop :=
  ∃ v, e = .returned (.tuple #[v, .int .i64 (rbN s), .int .i64 (rbF s)]) ∧ GelS w'.heap.size w' v (rbL s) ∧ Below w.heap.size w w'
theorem sp3_none {s : ByteArray} (h : ¬ 0 ≤ cutI s 32) : sp3 s = [s] := if_neg h
theorem sp3_one {s : ByteArray} (h : 0 ≤ cutI s 32) (h2 : ¬ 0 ≤ cutI (cutB s 32) 32) : sp3 s = [cutA s 32, cutB s 32] := by unfold sp3; rw [if_pos h, if_neg h2]
theorem sp3_two {s : ByteArray} (h : 0 ≤ cutI s 32) (h2 : 0 ≤ cutI (cutB s 32) 32) : sp3 s = [cutA s 32, cutA (cutB s 32) 32, cutB (cutB s 32) 32] := by unfold sp3; rw [if_pos h, if_pos h2]
theorem gelV_name (s : ByteArray) : (gelV s).name.size ≤ s.size := by
  have := cutB_le (cutB s 32) 32
  have := cutB_le s 32
  show (cutB (cutB s 32) 32).size ≤ _
  omega
theorem map_take {α β : Type} (f : α → β) (l : List α) (k : Nat) (h : k < l.length) : (l.take (k + 1)).map f = (l.take k).map f ++ [f l[k]] := by
  rw [List.take_succ_eq_append_getElem h, List.map_append]
  rfl
end Go.Proofs.YtljgpiaihahneaaGreatDoor
