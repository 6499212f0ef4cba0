/- The reference's fractions: Order, Floor, Round. -/
import Derived.Test.YtdicoggpcobbpaaDoorFracMore
namespace Go.Proofs.YtdicoggpcobbpaaDoor
open Go.RowKit
set_option linter.unusedVariables false
set_option linter.unusedSimpArgs false

/-- the sign of a number -/
def ordI (p : Int) : Int := if p = 0 then 0 else if p < 0 then -1 else 1
theorem isQ_shape {B d : Nat} {p : Int} {w : World} {v : Value} (h : IsQ B w v p d) : ∃ s ao L cap bo M cap2, v = .agg #[.bool s, .slice ao L cap, .slice bo M cap2] := by
  obtain ⟨s, x, y, rfl, n, h1, h2, h3⟩ := h
  obtain ⟨ao, L, cap, rfl, _⟩ := isN_len h1
  obtain ⟨bo, M, cap2, rfl, _⟩ := isN_len h2
  exact ⟨_, _, _, _, _, _, _, rfl⟩
theorem isQ_sign {B d : Nat} {p : Int} {w : World} {s : Bool} {x y : Value} (h : IsQ B w (.agg #[.bool s, x, y]) p d) (hp : p ≠ 0) : (s = true ∧ p < 0) ∨ (s = false ∧ 0 < p) := by
  obtain ⟨s', x', y', e, n, h1, h2, h3⟩ := h
  cases e
  cases s
  · right; simp only [sg] at h3; exact ⟨rfl, by omega⟩
  · left; simp only [sg] at h3; exact ⟨rfl, by omega⟩
theorem two_alloc {w W : World} {o1 o2 : Obj} (h : Below ((w.alloc o1).alloc o2).heap.size ((w.alloc o1).alloc o2) W) : Below w.heap.size w W ∧ w.heap.size + 1 + 1 ≤ W.heap.size := by
  have h1 := h.size
  simp at h1
  exact ⟨(((Below.refl _ _).alloc (Nat.le_refl _) o1).alloc (by simp) o2).trans (h.mono (by simp <;> omega)), by omega⟩

/-- the floor of a fraction below 0 -/
theorem neg_floor {n d : Nat} (hd : 0 < d) : (-(n : Int)) / (d : Int) = -((n / d : Nat) : Int) - (if 0 < n % d then 1 else 0) := by
  have h1 := Nat.div_add_mod n d
  have h2 := Nat.mod_lt n hd
  have e : -(n : Int) = -((n % d : Nat) : Int) + (d : Int) * (-((n / d : Nat) : Int)) := by
    have : (n : Int) = (d : Int) * ((n / d : Nat) : Int) + ((n % d : Nat) : Int) := by exact_mod_cast h1.symm
    rw [Int.mul_neg]; omega
  rw [e, Int.add_mul_ediv_left _ _ (by omega)]
  generalize n % d = r at *
  by_cases h0 : 0 < r
  · rw [if_pos h0]
    have : (-(r : Int)) / (d : Int) = -1 := by
      rw [show -(r : Int) = ((d : Int) - r) + (d : Int) * (-1) by omega, Int.add_mul_ediv_left _ _ (by omega), Int.ediv_eq_zero_of_lt (by omega) (by omega)]
      omega
    omega
  · obtain rfl : r = 0 := by omega
    rw [if_neg (by omega)]
    simp

/-- the nearest whole number -/
def rndQ (p : Int) (d : Nat) : Int := (p * 2 + d) / ((d * 2 : Nat) : Int)
end Go.Proofs.YtdicoggpcobbpaaDoor
