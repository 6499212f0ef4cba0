/- The reference's Within, IsLevel, IsTime, mix. -/
import Derived.Test.YtdicoggpcobbpaaDoorFracEnd
import Derived.Test.YtdicoggpcobbpaaDoorLvPlain
namespace Go.Proofs.YtdicoggpcobbpaaDoor
open Go.RowKit
set_option linter.unusedVariables false
set_option linter.unusedSimpArgs false

set_option maxHeartbeats 400000 in
theorem r1within_yes (n lo hi : Int) (w : World) (h : lo ≤ n ∧ n ≤ hi) :
    Calls Tryd.prog 37 #[.int .i64 n, .int .i64 lo, .int .i64 hi] w fun e w' => e = .returned (.bool true) ∧ w = w' := by
  obtain ⟨h1, h2⟩ := h
  have e2 : decide (n ≤ hi) = true := by simpa using h2
  go_enter Tryd.func37, Tryd.ntmps37
  go_wp2
  go_ret
  exact ⟨rfl, rfl⟩
set_option maxHeartbeats 400000 in
theorem r1within_no (n lo hi : Int) (w : World) (h : n < lo ∨ hi < n) :
    Calls Tryd.prog 37 #[.int .i64 n, .int .i64 lo, .int .i64 hi] w fun e w' => e = .returned (.bool false) ∧ w = w' := by
  by_cases h1 : lo ≤ n
  · have e2 : decide (n ≤ hi) = false := by simp; omega
    have h2 : hi < n := by omega
    clear h
    go_enter Tryd.func37, Tryd.ntmps37
    go_wp2
    go_ret
    exact ⟨rfl, rfl⟩
  · have h2 : n < lo := by omega
    clear h
    go_enter Tryd.func37, Tryd.ntmps37
    go_wp2
    go_ret
    exact ⟨rfl, rfl⟩
set_option maxHeartbeats 400000 in
theorem rIsLevel_yes (n : Int) (w : World) (h : 0 ≤ n ∧ n ≤ 65535) :
    Calls Tryd.prog 12 #[.int .i64 n] w fun e w' => e = .returned (.bool true) ∧ w = w' := by
  go_enter Tryd.func12, Tryd.ntmps12
  go_wp2_with (go_at_call 37; refine (r1within_yes _ _ _ _ h).mono ?_; rintro e w' ⟨rfl, rfl⟩)
  go_ret
  exact ⟨rfl, rfl⟩
set_option maxHeartbeats 400000 in
theorem rIsLevel_no (n : Int) (w : World) (h : n < 0 ∨ 65535 < n) :
    Calls Tryd.prog 12 #[.int .i64 n] w fun e w' => e = .returned (.bool false) ∧ w = w' := by
  go_enter Tryd.func12, Tryd.ntmps12
  go_wp2_with (go_at_call 37; refine (r1within_no _ _ _ _ h).mono ?_; rintro e w' ⟨rfl, rfl⟩)
  go_ret
  exact ⟨rfl, rfl⟩

theorem rndQ_rnd (p : Int) (d : Nat) : rndQ p d = rnd p (d : Int) := by
  unfold rndQ rnd
  rw [Int.natCast_mul, Int.mul_comm p 2, Int.mul_comm (d : Int)]
  rfl
/-- a part of a whole, in numbers that are not too long -/
structure Unit1 (p : Int) (d : Nat) : Prop where
  p0 : 0 ≤ p
  pd : p ≤ (d : Int)
  d0 : 0 < d
  dB : d < BB ^ 4
theorem BB5_eq : BB ^ 5 = BB ^ 4 * BB := Nat.pow_succ BB 4
theorem BB6_eq : BB ^ 6 = BB ^ 5 * BB := Nat.pow_succ BB 5
theorem BB4_5 {d : Nat} (h : d < BB ^ 4) : d * 131072 < BB ^ 5 := by
  have h1 : d * 131072 ≤ d * BB := Nat.mul_le_mul_left _ (by decide)
  have h2 : d * BB < BB ^ 4 * BB := Nat.mul_lt_mul_of_pos_right h BB_pos
  rw [← BB5_eq] at h2
  exact Nat.lt_of_le_of_lt h1 h2
theorem sm_of {p : Int} {d e : Nat} (h1 : p.natAbs ≤ d * 131072) (h2 : d ≤ e * 2) (h3 : e < BB ^ 4) : Sm p d := by
  have h5 : e * 2 ≤ e * 131072 := Nat.mul_le_mul_left _ (by decide)
  have h6 : d * 131072 ≤ e * 2 * 131072 := Nat.mul_le_mul_right _ h2
  have h7 : e * 2 * 131072 ≤ e * 131072 * BB := by
    rw [Nat.mul_right_comm]
    exact Nat.mul_le_mul_left _ (by decide)
  have h8 : e * 131072 * BB < BB ^ 5 * BB := Nat.mul_lt_mul_of_pos_right (BB4_5 h3) BB_pos
  rw [← BB6_eq] at h8
  exact ⟨Nat.lt_of_le_of_lt (Nat.le_trans h1 (Nat.le_trans h6 h7)) h8, Nat.lt_of_le_of_lt (Nat.le_trans h2 h5) (BB4_5 h3)⟩
theorem Unit1.sm {p : Int} {d : Nat} (h : Unit1 p d) : Sm p d := sm_of (e := d) (by have := h.p0; have := h.pd; omega) (by omega) h.dB
theorem sm_small {p : Int} (h : p.natAbs ≤ 131072) : Sm p 1 := sm_of (e := 1) (by omega) (by omega) (by decide)
theorem nat_wide {n d : Nat} (h : n ≤ d * 65535) : n ≤ d * 131072 := Nat.le_trans h (Nat.mul_le_mul_left d (by decide))
theorem mixS (a b p : Int) (d : Nat) (ha : 0 ≤ a ∧ a ≤ 65535) (hb : 0 ≤ b ∧ b ≤ 65535) (h : Unit1 p d) :
    0 ≤ a * (d : Int) + (b - a) * p ∧ a * (d : Int) + (b - a) * p ≤ 65535 * (d : Int) ∧ ((b - a) * p).natAbs ≤ d * 65535 := by
  have h0 := h.p0
  have h1 := h.pd
  have e : a * (d : Int) + (b - a) * p = a * ((d : Int) - p) + b * p := by grind
  have a1 : 0 ≤ a * ((d : Int) - p) := Int.mul_nonneg ha.1 (by omega)
  have a2 : a * ((d : Int) - p) ≤ 65535 * ((d : Int) - p) := Int.mul_le_mul_of_nonneg_right ha.2 (by omega)
  have a3 : 0 ≤ b * p := Int.mul_nonneg hb.1 h0
  have a4 : b * p ≤ 65535 * p := Int.mul_le_mul_of_nonneg_right hb.2 h0
  have a5 : 0 ≤ a * p := Int.mul_nonneg ha.1 h0
  have a6 : a * p ≤ 65535 * p := Int.mul_le_mul_of_nonneg_right ha.2 h0
  have e2 : (b - a) * p = b * p - a * p := by grind
  have e3 : 65535 * ((d : Int) - p) = 65535 * (d : Int) - 65535 * p := by grind
  refine ⟨by omega, by omega, by omega⟩

/-- what mix gives -/
def mixV (a b p : Int) (d : Int) : Int := rnd (a * d + (b - a) * p) d
theorem isQ_up {d : Nat} {p : Int} {w w' : World} {v : Value} (h : IsQ w.heap.size w v p d) (hb : Below w.heap.size w w') : IsQ w'.heap.size w' v p d := (h.below hb).more hb.size
theorem isQ_to {d d' B : Nat} {p p' : Int} {w : World} {v : Value} (h : IsQ B w v p d) (hp : p = p') (hd : d = d') : IsQ B w v p' d' := by subst hp hd; exact h

end Go.Proofs.YtdicoggpcobbpaaDoor
