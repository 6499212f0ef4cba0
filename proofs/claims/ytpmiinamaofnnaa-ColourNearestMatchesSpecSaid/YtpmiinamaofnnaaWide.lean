/- Contracts of level's numbers of 128 bits: of, times, plus, less. -/
import Derived.Test.YtpmiinamaofnnaaWord
import Derived.Test.YtpmiinamaofnnaaShelf
import Derived.Shelf.Spec.BitsCarry
import Derived.Deep.RegionHeld3
namespace Go.Proofs.Ytpmiinamaofnnaa
open Go.RowKit

/-- the two words of a number -/
def hiW (x : Int) : Int := x / 18446744073709551616
def loW (x : Int) : Int := x % 18446744073709551616
def FitW (x : Int) : Prop := 0 ≤ x ∧ x < 340282366920938463463374607431768211456
def OneW (x : Int) : Prop := 0 ≤ x ∧ x < 18446744073709551616

theorem one_lo (x : Int) : OneW (loW x) := by unfold OneW loW; omega
theorem one_hi (x : Int) (h : FitW x) : OneW (hiW x) := by unfold OneW hiW; unfold FitW at h; omega
theorem hi_small (x : Int) (h : OneW x) : hiW x = 0 := by unfold hiW; unfold OneW at h; omega
theorem lo_small (x : Int) (h : OneW x) : loW x = x := by unfold loW; unfold OneW at h; omega

theorem times_hi (x n : Int) (hx : FitW x) (hn : 0 ≤ n) (h : FitW (x * n)) : IntKind.u64.wrap (IntKind.u64.wrap (hiW x * n) + hiW (loW x * n)) = hiW (x * n) := by
  have e : x = hiW x * 18446744073709551616 + loW x := by unfold hiW loW; omega
  have e2 : x * n = (hiW x * n) * 18446744073709551616 + loW x * n := by
    have : x * n = (hiW x * 18446744073709551616 + loW x) * n := by rw [← e]
    rw [this]; grind
  unfold FitW at h
  rw [e2] at h ⊢
  have : 0 ≤ hiW x * n := Int.mul_nonneg (one_hi x hx).1 hn
  have : 0 ≤ loW x * n := Int.mul_nonneg (one_lo x).1 hn
  generalize hiW x * n = a at *
  generalize loW x * n = b at *
  simp only [IntKind.wrap_u64]
  unfold hiW
  omega
theorem times_lo (x n : Int) : loW (loW x * n) = loW (x * n) := by
  unfold loW
  rw [Int.mul_emod (x % 18446744073709551616) n, Int.emod_emod_of_dvd _ (Int.dvd_refl _), ← Int.mul_emod]

theorem plus_hi (x y : Int) (_hx : FitW x) (_hy : FitW y) (h : FitW (x + y)) : loW (hiW x + hiW y + hiW (loW x + loW y)) = hiW (x + y) := by
  unfold FitW at *
  unfold hiW loW
  omega
theorem plus_lo (x y : Int) : loW (loW x + loW y) = loW (x + y) := by unfold loW; omega
theorem carry (x y : Int) : 0 ≤ hiW (loW x + loW y) ∧ hiW (loW x + loW y) ≤ 1 := by unfold hiW loW; omega

theorem less_iff (x y : Int) : x < y ↔ hiW x < hiW y ∨ (hiW x = hiW y ∧ loW x < loW y) := by
  unfold hiW loW; omega

theorem below1 {w : World} {o : Obj} : Below w.heap.size w (w.alloc o) := (Below.refl _ _).alloc (Nat.le_refl _) _
theorem bt {a b c : World} (h : Below a.heap.size a b) (k : Below b.heap.size b c) : Below a.heap.size a c := h.trans (k.mono h.size)
theorem below2 {w : World} {o p : Obj} : Below w.heap.size w ((w.alloc o).alloc p) := bt below1 below1
theorem below3 {w : World} {o p q : Obj} : Below w.heap.size w (((w.alloc o).alloc p).alloc q) := bt below2 below1
end Go.Proofs.Ytpmiinamaofnnaa
