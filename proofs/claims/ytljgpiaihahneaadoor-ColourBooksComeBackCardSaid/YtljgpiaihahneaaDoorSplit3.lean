/- strings.SplitN at one mark, three pieces at the most. -/
import Derived.Test.YtljgpiaihahneaaDoorLines
namespace Go.Proofs.YtljgpiaihahneaaDoor
open Go.RowKit Go.Lib
set_option linter.unusedVariables false
set_option linter.unusedSimpArgs false

/-- three pieces of a text at the most -/
def sp3 (s : ByteArray) : List ByteArray :=
  if 0 ≤ cutI s 32 then (if 0 ≤ cutI (cutB s 32) 32 then [cutA s 32, cutA (cutB s 32) 32, cutB (cutB s 32) 32] else [cutA s 32, cutB s 32]) else [s]
theorem cut_hit {s : ByteArray} (h : 0 ≤ cutI s 32) (k : Nat) : splitB ⟨#[32]⟩ 0 (k + 1) s = cutA s 32 :: splitB ⟨#[32]⟩ 0 k (cutB s 32) := by
  have e : indexB s ⟨#[32]⟩ = ((cutI s 32).toNat : Int) := by rw [indexB_one]; unfold cutI at *; omega
  rw [splitB_hit _ _ _ _ _ e]
  unfold cutA cutB
  rw [if_pos h, if_pos h]
  rfl
theorem cut_miss {s : ByteArray} (h : ¬ 0 ≤ cutI s 32) (k : Nat) : splitB ⟨#[32]⟩ 0 k s = [s] := by
  refine splitB_miss _ _ _ _ ?_
  rw [indexB_one]
  have := cutI_lt s 32
  unfold cutI at *
  omega
theorem cut_size {s : ByteArray} (h : 0 ≤ cutI s 32) : cutI s 32 < s.size := by
  have := cutI_lt s 32
  omega
theorem cut_nil {s : ByteArray} (h : s.size = 0) : ¬ 0 ≤ cutI s 32 := fun h2 => by
  have := cut_size h2
  omega
theorem sp3_eq (s : ByteArray) : splitB ⟨#[32]⟩ 0 (min 3 (s.size + 1) - 1) s = sp3 s := by
  unfold sp3
  by_cases h : 0 ≤ cutI s 32
  · rw [if_pos h]
    have hs := cut_size h
    obtain ⟨k, hk⟩ : ∃ k, min 3 (s.size + 1) - 1 = k + 1 := ⟨min 3 (s.size + 1) - 2, by omega⟩
    rw [hk, cut_hit h]
    by_cases h2 : 0 ≤ cutI (cutB s 32) 32
    · rw [if_pos h2]
      have hs2 := cut_size h2
      have hb : (cutB s 32).size + 1 ≤ s.size := by
        unfold cutB
        rw [if_pos h]
        simp
        omega
      obtain rfl : k = 1 := by omega
      rw [cut_hit h2]
      rfl
    · rw [if_neg h2, cut_miss h2]
  · rw [if_neg h, cut_miss h]
theorem sp3_size (s : ByteArray) : ∀ x ∈ sp3 s, x.size ≤ s.size := by
  intro x hx
  have a1 := cutA_le s 32
  have b1 := cutB_le s 32
  have a2 := cutA_le (cutB s 32) 32
  have b2 := cutB_le (cutB s 32) 32
  unfold sp3 at hx
  split at hx
  · split at hx
    · simp at hx
      rcases hx with rfl | rfl | rfl <;> omega
    · simp at hx
      rcases hx with rfl | rfl <;> omega
  · simp at hx
    rw [hx]
    exact Nat.le_refl _
/-- what SplitN hands back -/
def Split3Post (w : World) (s : ByteArray) (e : Ending) (w' : World) : Prop :=
  ∃ cap, e = .returned (.slice (some ⟨w.heap.size, 0, none⟩) (sp3 s).length cap) ∧ RowS w' w.heap.size 0 (sp3 s) ∧ Below w.heap.size w w' ∧ w.heap.size < w'.heap.size
theorem split3_any (s : ByteArray) (w : World) (hT : TextW w) (hs : s.size < 4294967281) :
    Calls Tryd.prog 28 #[.string s, .string ⟨#[32]⟩, .int .i64 3] w (Split3Post w s) := by
  obtain ⟨m, hm⟩ := hT.len
  refine (Tryd.strings_SplitN s ⟨#[32]⟩ 3 m w hs hm (Nat.le_refl 1) (by decide) (by decide)).mono ?_
  rintro e w' ⟨rfl, rfl⟩
  refine ⟨min 3 (s.size + 1), by rw [sp3_eq], ?_, (Below.refl _ _).alloc (Nat.le_refl _) _, by simp⟩
  intro j hj
  have := World.cell?_alloc_new w (cellsOf (splitB ⟨#[32]⟩ 0 (min 3 (s.size + 1) - 1) s) (min 3 (s.size + 1))) 9 j
  rw [Nat.zero_add, this, sp3_eq]
  unfold cellsOf
  rw [List.getElem?_toArray, List.getElem?_append_left (by simpa using hj), List.getElem?_map, List.getElem?_eq_getElem hj]
  rfl
end Go.Proofs.YtljgpiaihahneaaDoor
