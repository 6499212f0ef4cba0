/- Contracts of level's numbers of 128 bits: of, times, plus, less. The reference's Within and IsLevel (cut out of XRMix, for seats without fractions). -/
import Derived.Test.YtopmdeefcjdadaaT29M04
import Derived.Test.YtopmdeefcjdadaaShelf
import Derived.Shelf.Spec.BitsCarry
import Derived.Deep.RegionHeld3
import Derived.Test.YtopmdeefcjdadaaT29M03

namespace Go.Proofs.Ytopmdeefcjdadaa
open Go.RowKit

/-- the two words of a number -/
def hiW (x : Int) : Int := x / 18446744073709551616
def loW (x : Int) : Int := x % 18446744073709551616
def FitW (x : Int) : Prop := 0 ≤ x ∧ x < 340282366920938463463374607431768211456
def OneW (x : Int) : Prop := 0 ≤ x ∧ x < 18446744073709551616

theorem one_lo (x : Int) : OneW (loW x) := by unfold OneW loW; omega
theorem one_hi (x : Int) (h : FitW x) : OneW (hiW x) := by unfold OneW hiW; unfold FitW at h; omega
theorem hi_small (x : Int) (h : OneW x) : hiW x = 0 := by unfold hiW; unfold OneW at h; omega
theorem lo_small (x : Int) (h : OneW x) : loW x = x := by unfold loW; unfold OneW at h; omega

theorem mul64 (x y : Int) (hx : OneW x) (hy : OneW y) (w : World) :
    Calls Try.prog 76 #[.int .u64 x, .int .u64 y] w fun e w' => e = .returned (.tuple #[.int .u64 (hiW (x * y)), .int .u64 (loW (x * y))]) ∧ w = w' := by
  obtain ⟨hx0, hx1⟩ := hx
  obtain ⟨hy0, hy1⟩ := hy
  obtain ⟨a, rfl⟩ := Int.eq_ofNat_of_zero_le hx0
  obtain ⟨b, rfl⟩ := Int.eq_ofNat_of_zero_le hy0
  refine (Try.bits_Mul64 a b (by omega) (by omega) w).mono ?_
  rintro e w' ⟨rfl, rfl⟩
  refine ⟨?_, rfl⟩
  unfold hiW loW
  congr 5 <;> simp

theorem add64 (x y c : Int) (hx : OneW x) (hy : OneW y) (hc0 : 0 ≤ c) (hc1 : c ≤ 1) (w : World) :
    (callFunc 77 #[.int .u64 x, .int .u64 y, .int .u64 c]).run Try.prog w = .ok (.value (.tuple #[.int .u64 (loW (x + y + c)), .int .u64 (hiW (x + y + c))])) w := by
  obtain ⟨hx0, hx1⟩ := hx
  obtain ⟨hy0, hy1⟩ := hy
  obtain ⟨a, rfl⟩ := Int.eq_ofNat_of_zero_le hx0
  obtain ⟨b, rfl⟩ := Int.eq_ofNat_of_zero_le hy0
  obtain ⟨d, rfl⟩ := Int.eq_ofNat_of_zero_le hc0
  rw [run_callFunc_extern Try.func77 (by kernel_rfl) (by kernel_rfl) (by kernel_rfl) (e := add64Entry) (by kernel_rfl), run_add64 a b d (by omega) (by omega) (by omega) (by omega)]
  simp only [Result.andThen]
  unfold hiW loW
  congr 5 <;> omega

theorem add64_0 (x y : Int) (hx : OneW x) (hy : OneW y) (w : World) :
    (callFunc 77 #[.int .u64 x, .int .u64 y, .int .u64 0]).run Try.prog w = .ok (.value (.tuple #[.int .u64 (loW (x + y)), .int .u64 (hiW (x + y))])) w := by
  simpa using add64 x y 0 hx hy (Int.le_refl 0) (by decide) w

theorem times_hi (x n : Int) (hx : FitW x) (hn : 0 ≤ n) (h : FitW (x * n)) : IntKind.u64.wrap (IntKind.u64.wrap (hiW x * n) + hiW (loW x * n)) = hiW (x * n) := by
  have e : x = hiW x * 18446744073709551616 + loW x := by unfold hiW loW; omega
  have e2 : x * n = (hiW x * n) * 18446744073709551616 + loW x * n := by
    have : x * n = (hiW x * 18446744073709551616 + loW x) * n := by rw [← e]
    rw [this]; grind
  unfold FitW at h
  rw [e2] at h ⊢
  have : 0 ≤ hiW x * n := Int.mul_nonneg (one_hi x hx).1 hn
  have : 0 ≤ loW x * n := Int.mul_nonneg (one_lo x).1 hn
  generalize hiW x * n = a at *
  generalize loW x * n = b at *
  simp only [IntKind.wrap_u64]
  unfold hiW
  omega
theorem times_lo (x n : Int) : loW (loW x * n) = loW (x * n) := by
  unfold loW
  rw [Int.mul_emod (x % 18446744073709551616) n, Int.emod_emod_of_dvd _ (Int.dvd_refl _), ← Int.mul_emod]

theorem plus_hi (x y : Int) (_hx : FitW x) (_hy : FitW y) (h : FitW (x + y)) : loW (hiW x + hiW y + hiW (loW x + loW y)) = hiW (x + y) := by
  unfold FitW at *
  unfold hiW loW
  omega
theorem plus_lo (x y : Int) : loW (loW x + loW y) = loW (x + y) := by unfold loW; omega
theorem carry (x y : Int) : 0 ≤ hiW (loW x + loW y) ∧ hiW (loW x + loW y) ≤ 1 := by unfold hiW loW; omega

theorem less_iff (x y : Int) : x < y ↔ hiW x < hiW y ∨ (hiW x = hiW y ∧ loW x < loW y) := by
  unfold hiW loW; omega

theorem below1 {w : World} {o : Obj} : Below w.heap.size w (w.alloc o) := (Below.refl _ _).alloc (Nat.le_refl _) _
theorem bt {a b c : World} (h : Below a.heap.size a b) (k : Below b.heap.size b c) : Below a.heap.size a c := h.trans (k.mono h.size)
theorem below2 {w : World} {o p : Obj} : Below w.heap.size w ((w.alloc o).alloc p) := bt below1 below1
theorem below3 {w : World} {o p q : Obj} : Below w.heap.size w (((w.alloc o).alloc p).alloc q) := bt below2 below1
end Go.Proofs.Ytopmdeefcjdadaa

namespace Go.Proofs.Ytopmdeefcjdadaa
open Go.RowKit
set_option linter.unusedVariables false
set_option linter.unusedSimpArgs false

theorem below_drewN {B n : Nat} {a w : World} (h : Below B a w) : Below B a (w.drewN n) := ⟨h.os, h.tape, h.output, h.size, h.block⟩

set_option maxHeartbeats 400000 in
theorem r1within_yes (n lo hi : Int) (w : World) (h : lo ≤ n ∧ n ≤ hi) :
    Calls Try.prog 38 #[.int .i64 n, .int .i64 lo, .int .i64 hi] w fun e w' => e = .returned (.bool true) ∧ w = w' := by
  obtain ⟨h1, h2⟩ := h
  have e2 : decide (n ≤ hi) = true := by simpa using h2
  go_enter Try.func38, Try.ntmps38
  go_wp2
  go_ret
  exact ⟨rfl, rfl⟩
set_option maxHeartbeats 400000 in
theorem r1within_no (n lo hi : Int) (w : World) (h : n < lo ∨ hi < n) :
    Calls Try.prog 38 #[.int .i64 n, .int .i64 lo, .int .i64 hi] w fun e w' => e = .returned (.bool false) ∧ w = w' := by
  by_cases h1 : lo ≤ n
  · have e2 : decide (n ≤ hi) = false := by simp; omega
    have h2 : hi < n := by omega
    clear h
    go_enter Try.func38, Try.ntmps38
    go_wp2
    go_ret
    exact ⟨rfl, rfl⟩
  · have h2 : n < lo := by omega
    clear h
    go_enter Try.func38, Try.ntmps38
    go_wp2
    go_ret
    exact ⟨rfl, rfl⟩
set_option maxHeartbeats 400000 in
theorem rIsLevel_yes (n : Int) (w : World) (h : 0 ≤ n ∧ n ≤ 65535) :
    Calls Try.prog 78 #[.int .i64 n] w fun e w' => e = .returned (.bool true) ∧ w = w' := by
  go_enter Try.func78, Try.ntmps78
  go_wp2_with (go_at_call 38; refine (r1within_yes _ _ _ _ h).mono ?_; rintro e w' ⟨rfl, rfl⟩)
  go_ret
  exact ⟨rfl, rfl⟩
set_option maxHeartbeats 400000 in
theorem rIsLevel_no (n : Int) (w : World) (h : n < 0 ∨ 65535 < n) :
    Calls Try.prog 78 #[.int .i64 n] w fun e w' => e = .returned (.bool false) ∧ w = w' := by
  go_enter Try.func78, Try.ntmps78
  go_wp2_with (go_at_call 38; refine (r1within_no _ _ _ _ h).mono ?_; rintro e w' ⟨rfl, rfl⟩)
  go_ret
  exact ⟨rfl, rfl⟩
end Go.Proofs.Ytopmdeefcjdadaa
