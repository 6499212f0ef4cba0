/- Numerals of any digits in plain Lean: their value and its bounds. -/
import Derived.Test.YtppbagllhmeenaaGreatDoorT68M04

namespace Go.Proofs.YtppbagllhmeenaaGreatDoor
open Go.Lib

theorem ten_iff (c : UInt8) : ten.contains c = true ↔ IsDig c := by
  unfold IsDig
  rw [List.contains_iff_mem]
  constructor
  · intro h
    simp only [ten, List.mem_cons, List.not_mem_nil, or_false] at h
    rcases h with rfl | rfl | rfl | rfl | rfl | rfl | rfl | rfl | rfl | rfl <;> decide
  · rintro ⟨h1, h2⟩
    have e : c = UInt8.ofNat c.toNat := by simp
    have : c.toNat = 48 ∨ c.toNat = 49 ∨ c.toNat = 50 ∨ c.toNat = 51 ∨ c.toNat = 52 ∨ c.toNat = 53 ∨ c.toNat = 54 ∨ c.toNat = 55 ∨ c.toNat = 56 ∨ c.toNat = 57 := by omega
    rcases this with h | h | h | h | h | h | h | h | h | h <;> rw [e, h] <;> decide
theorem from_all : ∀ (l : List UInt8) (acc : Nat), (∀ b ∈ l, IsDig b) → ∃ n, decFrom acc l = some n ∧ acc * 10 ^ l.length ≤ n ∧ n < (acc + 1) * 10 ^ l.length := by
  intro l
  induction l with
  | nil => intro acc _; exact ⟨acc, rfl, by simp, by simp⟩
  | cons b t ih =>
    intro acc h
    have hb := h b (by simp)
    unfold IsDig at hb
    obtain ⟨n, e, h1, h2⟩ := ih (acc * 10 + (b.toNat - 48)) (fun x hx => h x (by simp [hx]))
    refine ⟨n, ?_, ?_, ?_⟩
    · simp only [decFrom, digitVal, if_pos hb]
      exact e
    · rw [List.length_cons, Nat.pow_succ]
      refine Nat.le_trans ?_ h1
      rw [Nat.mul_comm (10 ^ t.length) 10, ← Nat.mul_assoc]
      exact Nat.mul_le_mul_right _ (by omega)
    · rw [List.length_cons, Nat.pow_succ]
      refine Nat.lt_of_lt_of_le h2 ?_
      rw [Nat.mul_comm (10 ^ t.length) 10, ← Nat.mul_assoc]
      exact Nat.mul_le_mul_right _ (by omega)
/-- the value of a row of digits -/
def valL (l : List UInt8) : Nat := (decFrom 0 l).getD 0
theorem val_all (l : List UInt8) (h0 : l ≠ []) (h : ∀ b ∈ l, IsDig b) : atoi l = some (valL l : Int) ∧ valL l < 10 ^ l.length ∧ (l.head? ≠ some 48 → 10 ^ (l.length - 1) ≤ valL l) := by
  cases l with
  | nil => exact absurd rfl h0
  | cons b t =>
    have hb := h b (by simp)
    obtain ⟨n, e, h1, h2⟩ := from_all (b :: t) 0 h
    have hv : valL (b :: t) = n := by unfold valL; rw [e]; rfl
    have n1 : (b == 45) = false := by
      rw [beq_eq_false_iff_ne]
      exact dig_ne hb 45 (.inl (by decide))
    have n2 : (b == 43) = false := by
      rw [beq_eq_false_iff_ne]
      exact dig_ne hb 43 (.inl (by decide))
    refine ⟨?_, by rw [hv]; simpa using h2, ?_⟩
    · rw [hv]
      simp only [atoi, n1, n2, Bool.false_eq_true, if_false, decNat, List.isEmpty_cons]
      rw [e]
      rfl
    · intro hne
      have hb8 : b ≠ 48 := fun e => hne (by rw [e]; rfl)
      unfold IsDig at hb
      have hn : b.toNat ≠ 48 := fun e => hb8 (by
        have : b = UInt8.ofNat 48 := by rw [← e]; simp
        exact this)
      obtain ⟨m, e2, k1, _⟩ := from_all t (0 * 10 + (b.toNat - 48)) (fun x hx => h x (by simp [hx]))
      have : decFrom 0 (b :: t) = some m := by
        simp only [decFrom, digitVal, if_pos hb]
        exact e2
      rw [this] at e
      obtain rfl := Option.some.inj e
      rw [hv]
      refine Nat.le_trans ?_ k1
      show 10 ^ t.length ≤ _
      exact Nat.le_trans (by omega : 10 ^ t.length ≤ 1 * 10 ^ t.length) (Nat.mul_le_mul_right _ (by omega))
/-- a number of at most m digits without a needless 0 -/
structure NumS (s : ByteArray) (m : Nat) : Prop where
  pos : 0 < s.size
  short : s.size ≤ m
  dig : AllDig s
  head : s.size ≤ 1 ∨ ∀ (h : 0 < s.size), s[0] ≠ 48
def valS (s : ByteArray) : Nat := valL s.data.toList
theorem NumS.atoi {s : ByteArray} {m : Nat} (h : NumS s m) : Lib.atoi s.data.toList = some (valS s : Int) :=
  (val_all _ (by
    intro e
    have := h.pos
    rw [Lib.size_eq, e] at this
    exact absurd this (by decide)) (allDig_mem h.dig)).1
theorem NumS.lt {s : ByteArray} {m : Nat} (h : NumS s m) : valS s < 10 ^ s.size := by
  have := (val_all s.data.toList (by
    intro e
    have := h.pos
    rw [Lib.size_eq, e] at this
    exact absurd this (by decide)) (allDig_mem h.dig)).2.1
  rwa [← Lib.size_eq] at this
theorem NumS.ge {s : ByteArray} {m : Nat} (h : NumS s m) (h2 : 2 ≤ s.size) : 10 ^ (s.size - 1) ≤ valS s := by
  have := (val_all s.data.toList (by
    intro e
    have := h.pos
    rw [Lib.size_eq, e] at this
    exact absurd this (by decide)) (allDig_mem h.dig)).2.2 (by
      intro e
      rcases h.head with h1 | h1
      · omega
      · refine h1 (by omega) ?_
        have e2 : s.data[0]? = some 48 := by
          rw [← e, List.head?_eq_getElem?]
          simp
        rw [Array.getElem?_eq_getElem (by show 0 < s.size; omega)] at e2
        exact Option.some.inj e2)
  rwa [← Lib.size_eq] at this
theorem allDig_iff_cut {s : ByteArray} (h0 : 0 < s.size) (hd : IsDig s[s.size - 1]) : AllDig (s.extract 0 (s.size - 1)) ↔ AllDig s := by
  constructor
  · intro h i hi
    by_cases he : i = s.size - 1
    · subst he; exact hd
    · have hi' : i < (s.extract 0 (s.size - 1)).size := by simp; omega
      have := h i hi'
      rwa [show (s.extract 0 (s.size - 1))[i] = s[i] by simp [ByteArray.getElem_extract]] at this
  · intro h; exact allDig_cut h _
theorem allDig_iff_tail {s : ByteArray} (h0 : 0 < s.size) (hd : IsDig s[0]) : AllDig (s.extract 1 s.size) ↔ AllDig s := by
  constructor
  · intro h i hi
    by_cases he : i = 0
    · subst he; exact hd
    · have hi' : i - 1 < (s.extract 1 s.size).size := by simp; omega
      have := h (i - 1) hi'
      rwa [show (s.extract 1 s.size)[i - 1] = s[i] by simp [ByteArray.getElem_extract, show 1 + (i - 1) = i by omega]] at this
  · intro h i hi
    have hi' : i + 1 < s.size := by simp at hi; omega
    rw [show (s.extract 1 s.size)[i] = s[1 + i]'(by omega) by simp [ByteArray.getElem_extract]]
    exact h _ _
end Go.Proofs.YtppbagllhmeenaaGreatDoor
