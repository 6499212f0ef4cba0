/- A numeral without a needless 0 is the decimal numeral of its value; thousandths; texts of times: plain Lean. -/
import Derived.Test.YtppbagllhmeenaaGreatDoorT64M26

namespace Go.Proofs.YtppbagllhmeenaaGreatDoor
open Go.Lib

theorem dig_eq {c : UInt8} (h : IsDig c) : UInt8.ofNat (48 + (c.toNat - 48)) = c := by
  unfold IsDig at h
  rw [show 48 + (c.toNat - 48) = c.toNat by omega]
  simp
theorem val_snoc (l : List UInt8) (c : UInt8) (h : ∀ b ∈ l, IsDig b) (hc : IsDig c) : valL (l ++ [c]) = valL l * 10 + (c.toNat - 48) := by
  obtain ⟨n, e, _, _⟩ := from_all l 0 h
  have hd : digitVal c = some (c.toNat - 48) := by
    unfold IsDig at hc
    unfold digitVal
    rw [if_pos hc]
  have e2 := from_snoc l 0 n c _ e hd
  unfold valL
  rw [e2, e]
  rfl
theorem canonL : ∀ (k : Nat) (l : List UInt8), l.length = k → l ≠ [] → (∀ b ∈ l, IsDig b) → (l.length ≤ 1 ∨ l.head? ≠ some 48) → decDigits (valL l) = l := by
  intro k
  induction k with
  | zero =>
    intro l hl h0
    exact absurd (List.length_eq_zero_iff.1 hl) h0
  | succ k ih =>
    intro l hl h0 hd hh
    have hs := List.dropLast_concat_getLast h0
    generalize hc : l.getLast h0 = c at hs
    generalize hm : l.dropLast = m at hs
    subst hs
    have hdm : ∀ b ∈ m, IsDig b := fun b hb => hd b (by simp [hb])
    have hdc : IsDig c := hd c (by simp)
    have hcd := hdc
    unfold IsDig at hcd
    rw [val_snoc m c hdm hdc]
    by_cases hm0 : m = []
    · subst hm0
      rw [show valL [] = 0 from rfl, dd_eq, if_pos (by omega)]
      rw [show 48 + (0 * 10 + (c.toNat - 48)) = 48 + (c.toNat - 48) by omega, dig_eq hdc]
      rfl
    · have hlen : 1 ≤ m.length := by
        rcases Nat.eq_zero_or_pos m.length with h | h
        · exact absurd (List.length_eq_zero_iff.1 h) hm0
        · exact h
      have hml : (m ++ [c]).length = m.length + 1 := by simp
      have hh2 : m.head? ≠ some 48 := by
        rcases hh with h | h
        · omega
        · cases m with
          | nil => exact absurd rfl hm0
          | cons a t => exact h
      have hv := (val_all m hm0 hdm).2.2 hh2
      have hp : 1 ≤ 10 ^ (m.length - 1) := Nat.one_le_pow _ _ (by omega)
      have i1 := ih m (by omega) hm0 hdm (.inr hh2)
      rw [dd_eq, if_neg (by omega), show (valL m * 10 + (c.toNat - 48)) / 10 = valL m by omega, i1, show (valL m * 10 + (c.toNat - 48)) % 10 = c.toNat - 48 by omega, dig_eq hdc]
theorem NumS.canon {s : ByteArray} {m : Nat} (h : NumS s m) : s.data.toList = decDigits (valS s) := by
  have hne : s.data.toList ≠ [] := by
    intro e
    have := h.pos
    rw [size_eq, e] at this
    exact absurd this (by decide)
  refine (canonL _ _ rfl hne (allDig_mem h.dig) ?_).symm
  rcases h.head with h1 | h1
  · exact .inl (by rw [← size_eq]; exact h1)
  · refine .inr (fun e => h1 h.pos ?_)
    have e2 : s.data[0]? = some 48 := by
      rw [← e, List.head?_eq_getElem?]
      simp
    rw [Array.getElem?_eq_getElem (show 0 < s.data.size from h.pos)] at e2
    exact Option.some.inj e2
theorem allDig_of {s : ByteArray} (h : ∀ b ∈ s.data.toList, IsDig b) : AllDig s := by
  intro i hi
  refine h _ ?_
  show s.data[i] ∈ _
  rw [Array.mem_toList_iff]
  exact Array.getElem_mem _
theorem head_of {s : ByteArray} {b : UInt8} {r : List UInt8} (e : s.data.toList = b :: r) (h : 0 < s.size) : s[0] = b := by
  show s.data[0]'h = b
  have e2 : s.data[0]? = some b := by
    rw [← Array.getElem?_toList, e]; rfl
  rw [Array.getElem?_eq_getElem (show 0 < s.data.size from h)] at e2
  exact Option.some.inj e2
theorem nums_dd (s : ByteArray) (p k : Nat) (e : s.data.toList = decDigits p) (h : p < 10 ^ (k + 1)) : NumS s (k + 1) ∧ valS s = p := by
  have hl := dd_len k p h
  refine ⟨⟨by rw [size_eq, e]; omega, by rw [size_eq, e]; omega, allDig_of (by rw [e]; exact dd_digits p), ?_⟩, by unfold valS valL; rw [e, dd_val]; rfl⟩
  by_cases hp : 1 ≤ p
  · obtain ⟨b, r, e2, hb⟩ := dd_head p hp
    exact .inr (fun h0 => by rw [head_of (e.trans e2) h0]; exact hb)
  · left
    rw [size_eq, e, show p = 0 by omega, dd_eq]
    exact Nat.le_refl _
end Go.Proofs.YtppbagllhmeenaaGreatDoor
