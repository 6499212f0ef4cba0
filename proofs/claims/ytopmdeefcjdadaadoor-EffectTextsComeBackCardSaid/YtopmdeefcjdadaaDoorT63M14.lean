/- The contracts of the reference's Times and Over. The contract of the reference's minus. The contract of the reference's Plus. The reference's fractions by value: Plus, Times, Over, Minus, Zero, Order, Floor, Round. The reference's fractions: Order, Floor, Round. The reference's Within, IsLevel, IsTime, mix. -/
import Derived.Test.YtopmdeefcjdadaaDoorT63M13
import Derived.Test.YtopmdeefcjdadaaDoorT63M10
import Derived.Test.YtopmdeefcjdadaaDoorT63M02

namespace Go.Proofs.YtopmdeefcjdadaaDoor
open Go.RowKit
set_option linter.unusedVariables false
set_option linter.unusedSimpArgs false

theorem sg_mul (s t : Bool) (n m : Nat) : sg (s != t) (n * m) = sg s n * sg t m := by
  cases s <;> cases t <;> simp [sg, Int.neg_mul, Int.mul_neg]
theorem Fit.of6 {n : Nat} (h : n < BB ^ 6) : Fit n := lt_pow h (by omega)
theorem Fit.of5 {n : Nat} (h : n < BB ^ 5) : Fit n := lt_pow h (by omega)
theorem box_new' (w : World) (c0 c1 c2 : Value) (T : TypeId) : Box3 (w.alloc (.cells #[c0, c1, c2] T)) w.heap.size c0 c1 c2 := box_new w c0 c1 c2 T
theorem Box3.alloc {w : World} {g : Nat} {c0 c1 c2 : Value} (h : Box3 w g c0 c1 c2) (hg : g < w.heap.size) (o : Obj) : Box3 (w.alloc o) g c0 c1 c2 :=
  h.below ((Below.refl _ _).alloc (Nat.le_refl _) o) hg
/-- a new number whose row lies off block g -/
def NewT (g n : Nat) (w : World) (e : Ending) (w' : World) : Prop := ∃ ao L cap, e = .returned (.slice ao L cap) ∧ IsN w'.heap.size w' (.slice ao L cap) n ∧ Off g (.slice ao L cap) ∧ Below w.heap.size w w'
theorem newT_of {g n : Nat} {w w' : World} {e : Ending} (h : NewO w.heap.size n w e w') (hg : g < w.heap.size) : NewT g n w e w' := by
  obtain ⟨v, L, rfl, h2, h3, h4⟩ := h
  obtain ⟨ao, cap, rfl⟩ := own_shape1 h3
  exact ⟨ao, L, cap, rfl, isN_own h3 h2, off_own h3 hg, h4⟩
theorem isN_up {n : Nat} {w w' : World} {v : Value} (h : IsN w.heap.size w v n) (hb : Below w.heap.size w w') : IsN w'.heap.size w' v n := (h.below hb).more hb.size


end Go.Proofs.YtopmdeefcjdadaaDoor

namespace Go.Proofs.YtopmdeefcjdadaaDoor
open Go.RowKit
set_option linter.unusedVariables false
set_option linter.unusedSimpArgs false

theorem borrowM_le (a b i : Nat) : borrowM a b i ≤ 1 := by unfold borrowM; split <;> omega
theorem borrowM_zero (a b : Nat) : borrowM a b 0 = 0 := by simp [borrowM, Nat.mod_one]
/-- what a round computes out of s -/
theorem minus_pos {d c : Nat} {s x : Int} (h : (d : Int) = s + (if s < 0 then 1000000000 else 0) ∧ c = (if s < 0 then 1 else 0)) (hx : x = s) (h0 : ¬ s < 0) : Value.int .i64 x = Value.int .i64 (d : Nat) ∧ c = 0 := by
  obtain ⟨h1, h2⟩ := h
  rw [if_neg h0] at h1 h2
  exact ⟨by rw [h1, hx, Int.add_zero], h2⟩
theorem minus_neg {d c : Nat} {s x : Int} (h : (d : Int) = s + (if s < 0 then 1000000000 else 0) ∧ c = (if s < 0 then 1 else 0)) (hx : x = s) (h0 : s < 0) : Value.int .i64 (x + 1000000000) = Value.int .i64 (d : Nat) ∧ c = 1 := by
  obtain ⟨h1, h2⟩ := h
  rw [if_pos h0] at h1 h2
  exact ⟨by rw [h1, hx], h2⟩

end Go.Proofs.YtopmdeefcjdadaaDoor

namespace Go.Proofs.YtopmdeefcjdadaaDoor
open Go.RowKit
set_option linter.unusedVariables false
set_option linter.unusedSimpArgs false

theorem sg_scale (s : Bool) (n d : Nat) : sg s n * (d : Int) = sg s (n * d) := by cases s <;> simp [sg, Int.neg_mul]
theorem sg_add (s : Bool) (n m : Nat) : sg s n + sg s m = sg s (n + m) := by cases s <;> simp [sg] <;> omega
theorem sg_sub (s : Bool) {n m : Nat} (h : m ≤ n) : sg s n + sg (!s) m = sg s (n - m) := by cases s <;> simp [sg] <;> omega
theorem sg_sub' (s : Bool) {n m : Nat} (h : n ≤ m) : sg s n + sg (!s) m = sg (!s) (m - n) := by cases s <;> simp [sg] <;> omega
theorem Fit.mul {n d : Nat} (h1 : n < BB ^ 6) (h2 : d < BB ^ 5) : Fit (n * d) := by
  have h : n * d ≤ BB ^ 6 * BB ^ 5 := Nat.mul_le_mul (Nat.le_of_lt h1) (Nat.le_of_lt h2)
  rw [← Nat.pow_add] at h
  exact Nat.lt_of_le_of_lt h (Nat.pow_lt_pow_right (by decide) (by omega))
theorem ordV_neg {n m : Nat} (h : n < m) : ordV n m = -1 := ordV_less h

end Go.Proofs.YtopmdeefcjdadaaDoor

namespace Go.Proofs.YtopmdeefcjdadaaDoor
open Go.RowKit
set_option linter.unusedVariables false
set_option linter.unusedSimpArgs false

theorem sm_sg {s : Bool} {n d : Nat} (h : Sm (sg s n) d) : n < BB ^ 6 ∧ d < BB ^ 5 := ⟨by have := h.1; rwa [sg_abs] at this, h.2⟩
def zB (p : Int) : Bool := decide (p = 0)
theorem zB_yes {p : Int} (h : p = 0) : zB p = true := decide_eq_true h
theorem zB_no {p : Int} (h : p ≠ 0) : zB p = false := decide_eq_false h
end Go.Proofs.YtopmdeefcjdadaaDoor

namespace Go.Proofs.YtopmdeefcjdadaaDoor
open Go.RowKit
set_option linter.unusedVariables false
set_option linter.unusedSimpArgs false

/-- the sign of a number -/
def ordI (p : Int) : Int := if p = 0 then 0 else if p < 0 then -1 else 1
theorem isQ_shape {B d : Nat} {p : Int} {w : World} {v : Value} (h : IsQ B w v p d) : ∃ s ao L cap bo M cap2, v = .agg #[.bool s, .slice ao L cap, .slice bo M cap2] := by
  obtain ⟨s, x, y, rfl, n, h1, h2, h3⟩ := h
  obtain ⟨ao, L, cap, rfl, _⟩ := isN_len h1
  obtain ⟨bo, M, cap2, rfl, _⟩ := isN_len h2
  exact ⟨_, _, _, _, _, _, _, rfl⟩
theorem isQ_sign {B d : Nat} {p : Int} {w : World} {s : Bool} {x y : Value} (h : IsQ B w (.agg #[.bool s, x, y]) p d) (hp : p ≠ 0) : (s = true ∧ p < 0) ∨ (s = false ∧ 0 < p) := by
  obtain ⟨s', x', y', e, n, h1, h2, h3⟩ := h
  cases e
  cases s
  · right; simp only [sg] at h3; exact ⟨rfl, by omega⟩
  · left; simp only [sg] at h3; exact ⟨rfl, by omega⟩
theorem two_alloc {w W : World} {o1 o2 : Obj} (h : Below ((w.alloc o1).alloc o2).heap.size ((w.alloc o1).alloc o2) W) : Below w.heap.size w W ∧ w.heap.size + 1 + 1 ≤ W.heap.size := by
  have h1 := h.size
  simp at h1
  exact ⟨(((Below.refl _ _).alloc (Nat.le_refl _) o1).alloc (by simp) o2).trans (h.mono (by simp <;> omega)), by omega⟩

/-- the floor of a fraction below 0 -/
theorem neg_floor {n d : Nat} (hd : 0 < d) : (-(n : Int)) / (d : Int) = -((n / d : Nat) : Int) - (if 0 < n % d then 1 else 0) := by
  have h1 := Nat.div_add_mod n d
  have h2 := Nat.mod_lt n hd
  have e : -(n : Int) = -((n % d : Nat) : Int) + (d : Int) * (-((n / d : Nat) : Int)) := by
    have : (n : Int) = (d : Int) * ((n / d : Nat) : Int) + ((n % d : Nat) : Int) := by exact_mod_cast h1.symm
    rw [Int.mul_neg]; omega
  rw [e, Int.add_mul_ediv_left _ _ (by omega)]
  generalize n % d = r at *
  by_cases h0 : 0 < r
  · rw [if_pos h0]
    have : (-(r : Int)) / (d : Int) = -1 := by
      rw [show -(r : Int) = ((d : Int) - r) + (d : Int) * (-1) by omega, Int.add_mul_ediv_left _ _ (by omega), Int.ediv_eq_zero_of_lt (by omega) (by omega)]
      omega
    omega
  · obtain rfl : r = 0 := by omega
    rw [if_neg (by omega)]
    simp

/-- the nearest whole number -/
def rndQ (p : Int) (d : Nat) : Int := (p * 2 + d) / ((d * 2 : Nat) : Int)
end Go.Proofs.YtopmdeefcjdadaaDoor

namespace Go.Proofs.YtopmdeefcjdadaaDoor
open Go.RowKit
set_option linter.unusedVariables false
set_option linter.unusedSimpArgs false

set_option maxHeartbeats 400000 in
theorem r1within_yes (n lo hi : Int) (w : World) (h : lo ≤ n ∧ n ≤ hi) :
    Calls Tryd.prog 24 #[.int .i64 n, .int .i64 lo, .int .i64 hi] w fun e w' => e = .returned (.bool true) ∧ w = w' := by
  obtain ⟨h1, h2⟩ := h
  have e2 : decide (n ≤ hi) = true := by simpa using h2
  go_enter Tryd.func24, Tryd.ntmps24
  go_wp2
  go_ret
  exact ⟨rfl, rfl⟩
set_option maxHeartbeats 400000 in
theorem r1within_no (n lo hi : Int) (w : World) (h : n < lo ∨ hi < n) :
    Calls Tryd.prog 24 #[.int .i64 n, .int .i64 lo, .int .i64 hi] w fun e w' => e = .returned (.bool false) ∧ w = w' := by
  by_cases h1 : lo ≤ n
  · have e2 : decide (n ≤ hi) = false := by simp; omega
    have h2 : hi < n := by omega
    clear h
    go_enter Tryd.func24, Tryd.ntmps24
    go_wp2
    go_ret
    exact ⟨rfl, rfl⟩
  · have h2 : n < lo := by omega
    clear h
    go_enter Tryd.func24, Tryd.ntmps24
    go_wp2
    go_ret
    exact ⟨rfl, rfl⟩
set_option maxHeartbeats 400000 in
theorem rIsLevel_yes (n : Int) (w : World) (h : 0 ≤ n ∧ n ≤ 65535) :
    Calls Tryd.prog 25 #[.int .i64 n] w fun e w' => e = .returned (.bool true) ∧ w = w' := by
  go_enter Tryd.func25, Tryd.ntmps25
  go_wp2_with (go_at_call 24; refine (r1within_yes _ _ _ _ h).mono ?_; rintro e w' ⟨rfl, rfl⟩)
  go_ret
  exact ⟨rfl, rfl⟩
set_option maxHeartbeats 400000 in
theorem rIsLevel_no (n : Int) (w : World) (h : n < 0 ∨ 65535 < n) :
    Calls Tryd.prog 25 #[.int .i64 n] w fun e w' => e = .returned (.bool false) ∧ w = w' := by
  go_enter Tryd.func25, Tryd.ntmps25
  go_wp2_with (go_at_call 24; refine (r1within_no _ _ _ _ h).mono ?_; rintro e w' ⟨rfl, rfl⟩)
  go_ret
  exact ⟨rfl, rfl⟩

theorem rndQ_rnd (p : Int) (d : Nat) : rndQ p d = rnd p (d : Int) := by
  unfold rndQ rnd
  rw [Int.natCast_mul, Int.mul_comm p 2, Int.mul_comm (d : Int)]
  rfl
/-- a part of a whole, in numbers that are not too long -/
structure Unit1 (p : Int) (d : Nat) : Prop where
  p0 : 0 ≤ p
  pd : p ≤ (d : Int)
  d0 : 0 < d
  dB : d < BB ^ 4
theorem BB5_eq : BB ^ 5 = BB ^ 4 * BB := Nat.pow_succ BB 4
theorem BB6_eq : BB ^ 6 = BB ^ 5 * BB := Nat.pow_succ BB 5
theorem BB4_5 {d : Nat} (h : d < BB ^ 4) : d * 131072 < BB ^ 5 := by
  have h1 : d * 131072 ≤ d * BB := Nat.mul_le_mul_left _ (by decide)
  have h2 : d * BB < BB ^ 4 * BB := Nat.mul_lt_mul_of_pos_right h BB_pos
  rw [← BB5_eq] at h2
  exact Nat.lt_of_le_of_lt h1 h2
theorem sm_of {p : Int} {d e : Nat} (h1 : p.natAbs ≤ d * 131072) (h2 : d ≤ e * 2) (h3 : e < BB ^ 4) : Sm p d := by
  have h5 : e * 2 ≤ e * 131072 := Nat.mul_le_mul_left _ (by decide)
  have h6 : d * 131072 ≤ e * 2 * 131072 := Nat.mul_le_mul_right _ h2
  have h7 : e * 2 * 131072 ≤ e * 131072 * BB := by
    rw [Nat.mul_right_comm]
    exact Nat.mul_le_mul_left _ (by decide)
  have h8 : e * 131072 * BB < BB ^ 5 * BB := Nat.mul_lt_mul_of_pos_right (BB4_5 h3) BB_pos
  rw [← BB6_eq] at h8
  exact ⟨Nat.lt_of_le_of_lt (Nat.le_trans h1 (Nat.le_trans h6 h7)) h8, Nat.lt_of_le_of_lt (Nat.le_trans h2 h5) (BB4_5 h3)⟩
theorem Unit1.sm {p : Int} {d : Nat} (h : Unit1 p d) : Sm p d := sm_of (e := d) (by have := h.p0; have := h.pd; omega) (by omega) h.dB
theorem sm_small {p : Int} (h : p.natAbs ≤ 131072) : Sm p 1 := sm_of (e := 1) (by omega) (by omega) (by decide)
theorem nat_wide {n d : Nat} (h : n ≤ d * 65535) : n ≤ d * 131072 := Nat.le_trans h (Nat.mul_le_mul_left d (by decide))
theorem mixS (a b p : Int) (d : Nat) (ha : 0 ≤ a ∧ a ≤ 65535) (hb : 0 ≤ b ∧ b ≤ 65535) (h : Unit1 p d) :
    0 ≤ a * (d : Int) + (b - a) * p ∧ a * (d : Int) + (b - a) * p ≤ 65535 * (d : Int) ∧ ((b - a) * p).natAbs ≤ d * 65535 := by
  have h0 := h.p0
  have h1 := h.pd
  have e : a * (d : Int) + (b - a) * p = a * ((d : Int) - p) + b * p := by grind
  have a1 : 0 ≤ a * ((d : Int) - p) := Int.mul_nonneg ha.1 (by omega)
  have a2 : a * ((d : Int) - p) ≤ 65535 * ((d : Int) - p) := Int.mul_le_mul_of_nonneg_right ha.2 (by omega)
  have a3 : 0 ≤ b * p := Int.mul_nonneg hb.1 h0
  have a4 : b * p ≤ 65535 * p := Int.mul_le_mul_of_nonneg_right hb.2 h0
  have a5 : 0 ≤ a * p := Int.mul_nonneg ha.1 h0
  have a6 : a * p ≤ 65535 * p := Int.mul_le_mul_of_nonneg_right ha.2 h0
  have e2 : (b - a) * p = b * p - a * p := by grind
  have e3 : 65535 * ((d : Int) - p) = 65535 * (d : Int) - 65535 * p := by grind
  refine ⟨by omega, by omega, by omega⟩

/-- what mix gives -/
def mixV (a b p : Int) (d : Int) : Int := rnd (a * d + (b - a) * p) d
theorem isQ_up {d : Nat} {p : Int} {w w' : World} {v : Value} (h : IsQ w.heap.size w v p d) (hb : Below w.heap.size w w') : IsQ w'.heap.size w' v p d := (h.below hb).more hb.size
theorem isQ_to {d d' B : Nat} {p p' : Int} {w : World} {v : Value} (h : IsQ B w v p d) (hp : p = p') (hd : d = d') : IsQ B w v p' d' := by subst hp hd; exact h

end Go.Proofs.YtopmdeefcjdadaaDoor
