/- Contracts of level's numbers of 128 bits: of, times, plus, less. The reference's Within and IsLevel (cut out of XRMix, for seats without fractions). Contracts of level.levels, word.First and word.When. levels and First take a slice: a row of cells in memory. Tests of bounds as one Bool, of both sides; When. (cut out of XEfWords) -/
import Derived.Test.YtfidbdegggalmaaGreatDoorT66M04
import Derived.Test.YtfidbdegggalmaaGreatDoorShelf
import Derived.Shelf.Spec.BitsCarry
import Derived.Deep.RegionHeld3
import Derived.Test.YtfidbdegggalmaaGreatDoorT66M03

namespace Go.Proofs.YtfidbdegggalmaaGreatDoor
open Go.RowKit

/-- the two words of a number -/
def hiW (x : Int) : Int := x / 18446744073709551616
def loW (x : Int) : Int := x % 18446744073709551616
def FitW (x : Int) : Prop := 0 ≤ x ∧ x < 340282366920938463463374607431768211456
def OneW (x : Int) : Prop := 0 ≤ x ∧ x < 18446744073709551616

theorem one_lo (x : Int) : OneW (loW x) := by unfold OneW loW; omega
theorem one_hi (x : Int) (h : FitW x) : OneW (hiW x) := by unfold OneW hiW; unfold FitW at h; omega
theorem hi_small (x : Int) (h : OneW x) : hiW x = 0 := by unfold hiW; unfold OneW at h; omega
theorem lo_small (x : Int) (h : OneW x) : loW x = x := by unfold loW; unfold OneW at h; omega

theorem mul64 (x y : Int) (hx : OneW x) (hy : OneW y) (w : World) :
    Calls Tryz.prog 88 #[.int .u64 x, .int .u64 y] w fun e w' => e = .returned (.tuple #[.int .u64 (hiW (x * y)), .int .u64 (loW (x * y))]) ∧ w = w' := by
  obtain ⟨hx0, hx1⟩ := hx
  obtain ⟨hy0, hy1⟩ := hy
  obtain ⟨a, rfl⟩ := Int.eq_ofNat_of_zero_le hx0
  obtain ⟨b, rfl⟩ := Int.eq_ofNat_of_zero_le hy0
  refine (Tryz.bits_Mul64 a b (by omega) (by omega) w).mono ?_
  rintro e w' ⟨rfl, rfl⟩
  refine ⟨?_, rfl⟩
  unfold hiW loW
  congr 5 <;> simp

theorem times_hi (x n : Int) (hx : FitW x) (hn : 0 ≤ n) (h : FitW (x * n)) : IntKind.u64.wrap (IntKind.u64.wrap (hiW x * n) + hiW (loW x * n)) = hiW (x * n) := by
  have e : x = hiW x * 18446744073709551616 + loW x := by unfold hiW loW; omega
  have e2 : x * n = (hiW x * n) * 18446744073709551616 + loW x * n := by
    have : x * n = (hiW x * 18446744073709551616 + loW x) * n := by rw [← e]
    rw [this]; grind
  unfold FitW at h
  rw [e2] at h ⊢
  have : 0 ≤ hiW x * n := Int.mul_nonneg (one_hi x hx).1 hn
  have : 0 ≤ loW x * n := Int.mul_nonneg (one_lo x).1 hn
  generalize hiW x * n = a at *
  generalize loW x * n = b at *
  simp only [IntKind.wrap_u64]
  unfold hiW
  omega
theorem times_lo (x n : Int) : loW (loW x * n) = loW (x * n) := by
  unfold loW
  rw [Int.mul_emod (x % 18446744073709551616) n, Int.emod_emod_of_dvd _ (Int.dvd_refl _), ← Int.mul_emod]

theorem plus_hi (x y : Int) (_hx : FitW x) (_hy : FitW y) (h : FitW (x + y)) : loW (hiW x + hiW y + hiW (loW x + loW y)) = hiW (x + y) := by
  unfold FitW at *
  unfold hiW loW
  omega
theorem plus_lo (x y : Int) : loW (loW x + loW y) = loW (x + y) := by unfold loW; omega
theorem carry (x y : Int) : 0 ≤ hiW (loW x + loW y) ∧ hiW (loW x + loW y) ≤ 1 := by unfold hiW loW; omega

theorem less_iff (x y : Int) : x < y ↔ hiW x < hiW y ∨ (hiW x = hiW y ∧ loW x < loW y) := by
  unfold hiW loW; omega

theorem below1 {w : World} {o : Obj} : Below w.heap.size w (w.alloc o) := (Below.refl _ _).alloc (Nat.le_refl _) _
theorem bt {a b c : World} (h : Below a.heap.size a b) (k : Below b.heap.size b c) : Below a.heap.size a c := h.trans (k.mono h.size)
theorem below2 {w : World} {o p : Obj} : Below w.heap.size w ((w.alloc o).alloc p) := bt below1 below1
theorem below3 {w : World} {o p q : Obj} : Below w.heap.size w (((w.alloc o).alloc p).alloc q) := bt below2 below1
end Go.Proofs.YtfidbdegggalmaaGreatDoor

namespace Go.Proofs.YtfidbdegggalmaaGreatDoor
open Go.RowKit
set_option linter.unusedVariables false
set_option linter.unusedSimpArgs false

theorem below_drewR {B n : Nat} {a w : World} (h : Below B a w) : Below B a (w.drewN n) := ⟨h.os, h.tape, h.output, h.size, h.block⟩

set_option maxHeartbeats 400000 in
theorem r1within_yes (n lo hi : Int) (w : World) (h : lo ≤ n ∧ n ≤ hi) :
    Calls Tryz.prog 32 #[.int .i64 n, .int .i64 lo, .int .i64 hi] w fun e w' => e = .returned (.bool true) ∧ w = w' := by
  obtain ⟨h1, h2⟩ := h
  have e2 : decide (n ≤ hi) = true := by simpa using h2
  go_enter Tryz.func32, Tryz.ntmps32
  go_wp2
  go_ret
  exact ⟨rfl, rfl⟩
set_option maxHeartbeats 400000 in
theorem r1within_no (n lo hi : Int) (w : World) (h : n < lo ∨ hi < n) :
    Calls Tryz.prog 32 #[.int .i64 n, .int .i64 lo, .int .i64 hi] w fun e w' => e = .returned (.bool false) ∧ w = w' := by
  by_cases h1 : lo ≤ n
  · have e2 : decide (n ≤ hi) = false := by simp; omega
    have h2 : hi < n := by omega
    clear h
    go_enter Tryz.func32, Tryz.ntmps32
    go_wp2
    go_ret
    exact ⟨rfl, rfl⟩
  · have h2 : n < lo := by omega
    clear h
    go_enter Tryz.func32, Tryz.ntmps32
    go_wp2
    go_ret
    exact ⟨rfl, rfl⟩
set_option maxHeartbeats 400000 in
theorem rIsLevel_yes (n : Int) (w : World) (h : 0 ≤ n ∧ n ≤ 65535) :
    Calls Tryz.prog 33 #[.int .i64 n] w fun e w' => e = .returned (.bool true) ∧ w = w' := by
  go_enter Tryz.func33, Tryz.ntmps33
  go_wp2_with (go_at_call 32; refine (r1within_yes _ _ _ _ h).mono ?_; rintro e w' ⟨rfl, rfl⟩)
  go_ret
  exact ⟨rfl, rfl⟩
set_option maxHeartbeats 400000 in
theorem rIsLevel_no (n : Int) (w : World) (h : n < 0 ∨ 65535 < n) :
    Calls Tryz.prog 33 #[.int .i64 n] w fun e w' => e = .returned (.bool false) ∧ w = w' := by
  go_enter Tryz.func33, Tryz.ntmps33
  go_wp2_with (go_at_call 32; refine (r1within_no _ _ _ _ h).mono ?_; rintro e w' ⟨rfl, rfl⟩)
  go_ret
  exact ⟨rfl, rfl⟩
end Go.Proofs.YtfidbdegggalmaaGreatDoor

namespace Go.Proofs.YtfidbdegggalmaaGreatDoor
open Go.RowKit

/-- the cells of a row of numbers -/
def RowAt (k : IntKind) (w : World) (b off : Nat) (zs : List Int) : Prop := ∀ i (h : i < zs.length), w.cell? ⟨b, off + i, none⟩ = some (.int k zs[i])
def Levels (zs : List Int) : Prop := ∀ i (h : i < zs.length), 0 ≤ zs[i] ∧ zs[i] ≤ 65535

/-- either all are levels, or there is a first one that is none -/
theorem levels_cases (zs : List Int) : Levels zs ∨ ∃ j, ∃ h : j < zs.length, (∀ i (h : i < zs.length), i < j → 0 ≤ zs[i] ∧ zs[i] ≤ 65535) ∧ (zs[j] < 0 ∨ 65535 < zs[j]) := by
  induction zs with
  | nil => left; intro i h; simp at h
  | cons z zs ih =>
    by_cases hz : 0 ≤ z ∧ z ≤ 65535
    · rcases ih with ih | ⟨j, hj, h1, h2⟩
      · left
        intro i h
        match i with
        | 0 => simpa using hz
        | i + 1 => simpa using ih i (by simpa using h)
      · right
        refine ⟨j + 1, by simpa using hj, ?_, by simpa using h2⟩
        intro i h hij
        match i with
        | 0 => simpa using hz
        | i + 1 => simpa using h1 i (by simpa using h) (by omega)
    · right
      exact ⟨0, by simp, fun i h hi => by omega, by simp; omega⟩

/-- First: the first fault that is not 0. -/
def firstF : List Int → Int
  | [] => 0
  | e :: l => if e = 0 then firstF l else e

theorem firstF_drop (l : List Int) (k : Nat) (h : k < l.length) : firstF (l.drop k) = if l[k] = 0 then firstF (l.drop (k + 1)) else l[k] := by
  rw [List.drop_eq_getElem_cons h]; rfl

set_option maxHeartbeats 400000 in
theorem when_yes (f : Int) (w : World) : Calls Tryz.prog 28 #[.bool true, .int .i64 f] w fun e w' => e = .returned (.int .i64 f) ∧ w = w' := by
  go_enter Tryz.func28, Tryz.ntmps28
  go_wp2
  go_ret
  exact ⟨rfl, rfl⟩
set_option maxHeartbeats 400000 in
theorem when_no (f : Int) (w : World) : Calls Tryz.prog 28 #[.bool false, .int .i64 f] w fun e w' => e = .returned (.int .i64 0) ∧ w = w' := by
  go_enter Tryz.func28, Tryz.ntmps28
  go_wp2
  go_ret
  exact ⟨rfl, rfl⟩
end Go.Proofs.YtfidbdegggalmaaGreatDoor

namespace Go.Proofs.YtfidbdegggalmaaGreatDoor
open Go.RowKit
set_option linter.unusedVariables false
set_option linter.unusedSimpArgs false

def inR (n lo hi : Int) : Bool := decide (lo ≤ n ∧ n ≤ hi)
def whenW (b : Bool) (f : Int) : Int := if b then f else 0
theorem within_R (n lo hi : Int) (w : World) : Calls Tryz.prog 26 #[.int .i64 n, .int .i64 lo, .int .i64 hi] w fun e w' => e = .returned (.bool (inR n lo hi)) ∧ w = w' := by
  by_cases h : lo ≤ n ∧ n ≤ hi
  · have : inR n lo hi = true := decide_eq_true h
    rw [this]; exact within_yes n lo hi w h
  · have : inR n lo hi = false := decide_eq_false h
    rw [this]; exact within_no n lo hi w (by omega)
theorem when_R (b : Bool) (f : Int) (w : World) : Calls Tryz.prog 28 #[.bool b, .int .i64 f] w fun e w' => e = .returned (.int .i64 (whenW b f)) ∧ w = w' := by
  cases b
  · exact when_no f w
  · exact when_yes f w
theorem rwithin_R (n lo hi : Int) (w : World) : Calls Tryz.prog 32 #[.int .i64 n, .int .i64 lo, .int .i64 hi] w fun e w' => e = .returned (.bool (inR n lo hi)) ∧ w = w' := by
  by_cases h : lo ≤ n ∧ n ≤ hi
  · have : inR n lo hi = true := decide_eq_true h
    rw [this]; exact r1within_yes n lo hi w h
  · have : inR n lo hi = false := decide_eq_false h
    rw [this]; exact r1within_no n lo hi w (by omega)
set_option maxHeartbeats 400000 in
theorem rLevel_R (n : Int) (w : World) : Calls Tryz.prog 33 #[.int .i64 n] w fun e w' => e = .returned (.bool (inR n 0 65535)) ∧ w = w' := by
  go_enter Tryz.func33, Tryz.ntmps33
  go_wp2_with (go_at_call 32; refine (rwithin_R _ _ _ _).mono ?_; rintro e w' ⟨rfl, rfl⟩)
  go_ret
  exact ⟨rfl, rfl⟩
end Go.Proofs.YtfidbdegggalmaaGreatDoor
