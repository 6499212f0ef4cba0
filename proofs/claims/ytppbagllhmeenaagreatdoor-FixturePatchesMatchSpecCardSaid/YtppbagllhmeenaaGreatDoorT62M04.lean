/- Decimal numerals in plain Lean: their bytes are digits, they are short, they begin with no 0, and their value is the number. -/
import Derived.Lib.Atoi
import Derived.Lib.ItoaNum
import Derived.Lib.IndexMore
import Derived.Lib.IndexBytes

namespace Go.Proofs.YtppbagllhmeenaaGreatDoor
open Go.Lib

def IsDig (b : UInt8) : Prop := 48 ≤ b.toNat ∧ b.toNat ≤ 57
theorem dig_of (k : Nat) (h : k < 10) : (UInt8.ofNat (48 + k)).toNat = 48 + k := by
  rw [UInt8.toNat_ofNat']
  omega
theorem dd_eq (u : Nat) : decDigits u = if u < 10 then [UInt8.ofNat (48 + u)] else decDigits (u / 10) ++ [UInt8.ofNat (48 + u % 10)] := by
  rw [decDigits]
  split <;> rfl
theorem dd_digits (u : Nat) : ∀ b ∈ decDigits u, IsDig b := by
  induction u using Nat.strongRecOn with
  | _ u ih =>
    intro b hb
    rw [dd_eq] at hb
    by_cases h : u < 10
    · rw [if_pos h] at hb
      rw [List.mem_singleton] at hb
      subst hb
      unfold IsDig
      rw [dig_of u h]
      omega
    · rw [if_neg h, List.mem_append] at hb
      rcases hb with hb | hb
      · exact ih (u / 10) (by omega) b hb
      · rw [List.mem_singleton] at hb
        subst hb
        unfold IsDig
        rw [dig_of (u % 10) (by omega)]
        omega
theorem dd_len (k : Nat) : ∀ u, u < 10 ^ (k + 1) → 1 ≤ (decDigits u).length ∧ (decDigits u).length ≤ k + 1 := by
  induction k with
  | zero =>
    intro u h
    rw [dd_eq, if_pos (by omega)]
    simp
  | succ k ih =>
    intro u h
    rw [dd_eq]
    by_cases h1 : u < 10
    · rw [if_pos h1]; simp
    · rw [if_neg h1]
      have e : 10 ^ (k + 1 + 1) = 10 ^ (k + 1) * 10 := Nat.pow_succ _ _
      have := ih (u / 10) (by omega)
      simp
      omega
theorem dd_head (u : Nat) (h1 : 1 ≤ u) : ∃ b r, decDigits u = b :: r ∧ b ≠ 48 := by
  induction u using Nat.strongRecOn with
  | _ u ih =>
    rw [dd_eq]
    by_cases h : u < 10
    · rw [if_pos h]
      refine ⟨_, [], rfl, fun e => ?_⟩
      have := congrArg UInt8.toNat e
      rw [dig_of u h] at this
      have : 48 + u = 48 := this
      omega
    · rw [if_neg h]
      obtain ⟨b, r, e, hb⟩ := ih (u / 10) (by omega) (by omega)
      rw [e]
      exact ⟨b, r ++ [_], rfl, hb⟩
theorem dd_dval (k : Nat) (h : k < 10) : digitVal (UInt8.ofNat (48 + k)) = some k := by
  unfold digitVal
  rw [dig_of k h, if_pos (by omega)]
  congr 1
  omega
theorem from_snoc (l : List UInt8) : ∀ acc n b d, decFrom acc l = some n → digitVal b = some d → decFrom acc (l ++ [b]) = some (n * 10 + d) := by
  induction l with
  | nil =>
    intro acc n b d h hd
    obtain rfl := Option.some.inj h
    simp [decFrom, hd]
  | cons a t ih =>
    intro acc n b d h hd
    simp only [List.cons_append, decFrom] at h ⊢
    cases ha : digitVal a with
    | none => rw [ha] at h; cases h
    | some x =>
      rw [ha] at h
      exact ih _ n b d h hd
theorem dd_val (u : Nat) : decFrom 0 (decDigits u) = some u := by
  induction u using Nat.strongRecOn with
  | _ u ih =>
    rw [dd_eq]
    by_cases h : u < 10
    · rw [if_pos h]
      simp only [decFrom, dd_dval u h]
      congr 1
      omega
    · rw [if_neg h, from_snoc _ 0 (u / 10) _ (u % 10) (ih (u / 10) (by omega)) (dd_dval _ (by omega))]
      congr 1
      omega
theorem dd_atoi (u : Nat) (h1 : 1 ≤ u) : atoi (decDigits u) = some (u : Int) := by
  obtain ⟨b, r, e, _⟩ := dd_head u h1
  have hd := dd_digits u b (by rw [e]; simp)
  have hv := dd_val u
  unfold IsDig at hd
  rw [e] at hv ⊢
  have n1 : (b == 45) = false := by
    rw [beq_eq_false_iff_ne]
    intro e1; subst e1; revert hd; decide
  have n2 : (b == 43) = false := by
    rw [beq_eq_false_iff_ne]
    intro e1; subst e1; revert hd; decide
  simp only [atoi, n1, n2, Bool.false_eq_true, if_false, decNat, List.isEmpty_cons]
  rw [hv]
  rfl
theorem byte_none (c : UInt8) : ∀ l : List UInt8, (∀ b ∈ l, b ≠ c) → indexByte l c = -1 := by
  intro l
  induction l with
  | nil => intro _; rfl
  | cons b t ih =>
    intro h
    have h1 : (b == c) = false := by rw [beq_eq_false_iff_ne]; exact h b (by simp)
    simp only [indexByte, h1, ih (fun x hx => h x (by simp [hx]))]
    rfl
theorem cut_none (c : UInt8) (l : List UInt8) (h : ∀ b ∈ l, b ≠ c) : cut l [c] = (l, [], false) := by
  unfold cut
  rw [index_one, byte_none c l h]
  rfl
theorem dig_ne {b : UInt8} (h : IsDig b) (c : UInt8) (hc : c.toNat < 48 ∨ 57 < c.toNat) : b ≠ c := by
  intro e
  subst e
  unfold IsDig at h
  omega
end Go.Proofs.YtppbagllhmeenaaGreatDoor
