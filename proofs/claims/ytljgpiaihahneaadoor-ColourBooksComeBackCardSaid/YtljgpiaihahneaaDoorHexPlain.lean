/- Hex digits in plain Lean: which bytes they are, what they are worth. -/
import Derived.Test.YtljgpiaihahneaaDoorLevels
namespace Go.Proofs.YtljgpiaihahneaaDoor
open Go.Lib
set_option linter.unusedVariables false

def hexs : List UInt8 := [48, 49, 50, 51, 52, 53, 54, 55, 56, 57, 97, 98, 99, 100, 101, 102, 65, 66, 67, 68, 69, 70]
def IsHex (c : UInt8) : Prop := (48 ≤ c.toNat ∧ c.toNat ≤ 57) ∨ (97 ≤ c.toNat ∧ c.toNat ≤ 102) ∨ (65 ≤ c.toNat ∧ c.toNat ≤ 70)
instance (c : UInt8) : Decidable (IsHex c) := by unfold IsHex; infer_instance
/-- what a hex digit is worth -/
def hexV (c : UInt8) : Nat := if c.toNat ≤ 57 then c.toNat - 48 else if c.toNat ≤ 70 then c.toNat - 55 else c.toNat - 87
theorem hexV_lt {c : UInt8} (h : IsHex c) : hexV c < 16 := by
  unfold IsHex at h
  unfold hexV
  split
  · omega
  · split <;> omega
theorem hexs_iff (c : UInt8) : hexs.contains c = true ↔ IsHex c := by
  unfold IsHex
  rw [List.contains_iff_mem]
  constructor
  · intro h
    simp only [hexs, List.mem_cons, List.not_mem_nil, or_false] at h
    rcases h with rfl | rfl | rfl | rfl | rfl | rfl | rfl | rfl | rfl | rfl | rfl | rfl | rfl | rfl | rfl | rfl | rfl | rfl | rfl | rfl | rfl | rfl <;> decide
  · intro hx
    have e : c = UInt8.ofNat c.toNat := by simp
    have : c.toNat = 48 ∨ c.toNat = 49 ∨ c.toNat = 50 ∨ c.toNat = 51 ∨ c.toNat = 52 ∨ c.toNat = 53 ∨ c.toNat = 54 ∨ c.toNat = 55 ∨ c.toNat = 56 ∨ c.toNat = 57 ∨ c.toNat = 97 ∨ c.toNat = 98 ∨ c.toNat = 99 ∨ c.toNat = 100 ∨ c.toNat = 101 ∨ c.toNat = 102 ∨ c.toNat = 65 ∨ c.toNat = 66 ∨ c.toNat = 67 ∨ c.toNat = 68 ∨ c.toNat = 69 ∨ c.toNat = 70 := by omega
    rcases this with h | h | h | h | h | h | h | h | h | h | h | h | h | h | h | h | h | h | h | h | h | h <;> rw [e, h] <;> decide
def AllHex (s : ByteArray) : Prop := ∀ i (h : i < s.size), IsHex s[i]
instance (s : ByteArray) : Decidable (AllHex s) := by unfold AllHex; infer_instance
theorem allHex_cut {s : ByteArray} (h : AllHex s) (k : Nat) : AllHex (s.extract 0 k) := by
  intro i hi
  have : (s.extract 0 k)[i] = s[i]'(by simp at hi; omega) := by simp [ByteArray.getElem_extract]
  rw [this]
  exact h i _
theorem allHex_iff_cut {s : ByteArray} (h0 : 0 < s.size) (hd : IsHex s[s.size - 1]) : AllHex (s.extract 0 (s.size - 1)) ↔ AllHex s := by
  constructor
  · intro h i hi
    by_cases he : i = s.size - 1
    · subst he; exact hd
    · have hi' : i < (s.extract 0 (s.size - 1)).size := by simp; omega
      have := h i hi'
      rwa [show (s.extract 0 (s.size - 1))[i] = s[i] by simp [ByteArray.getElem_extract]] at this
  · intro h; exact allHex_cut h _
theorem allHex_iff_tail {s : ByteArray} (h0 : 0 < s.size) (hd : IsHex s[0]) : AllHex (s.extract 1 s.size) ↔ AllHex s := by
  constructor
  · intro h i hi
    by_cases he : i = 0
    · subst he; exact hd
    · have hi' : i - 1 < (s.extract 1 s.size).size := by simp; omega
      have := h (i - 1) hi'
      rwa [show (s.extract 1 s.size)[i - 1] = s[i] by simp [ByteArray.getElem_extract, show 1 + (i - 1) = i by omega]] at this
  · intro h i hi
    have hi' : i + 1 < s.size := by simp at hi; omega
    rw [show (s.extract 1 s.size)[i] = s[1 + i]'(by omega) by simp [ByteArray.getElem_extract]]
    exact h _ _
end Go.Proofs.YtljgpiaihahneaaDoor
