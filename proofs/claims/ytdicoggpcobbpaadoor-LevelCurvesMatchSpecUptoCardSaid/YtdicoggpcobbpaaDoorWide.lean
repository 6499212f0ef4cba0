/- Contracts of level's numbers of 128 bits: of, times, plus, less. -/
import Derived.Test.YtdicoggpcobbpaaDoorWord
import Derived.Test.YtdicoggpcobbpaaDoorShelf
import Derived.Shelf.Spec.BitsCarry
import Derived.Deep.RegionHeld3
namespace Go.Proofs.YtdicoggpcobbpaaDoor
open Go.RowKit

/-- the two words of a number -/
def hiW (x : Int) : Int := x / 18446744073709551616
def loW (x : Int) : Int := x % 18446744073709551616
def FitW (x : Int) : Prop := 0 ≤ x ∧ x < 340282366920938463463374607431768211456
def OneW (x : Int) : Prop := 0 ≤ x ∧ x < 18446744073709551616

theorem one_lo (x : Int) : OneW (loW x) := by unfold OneW loW; omega
theorem one_hi (x : Int) (h : FitW x) : OneW (hiW x) := by unfold OneW hiW; unfold FitW at h; omega
theorem hi_small (x : Int) (h : OneW x) : hiW x = 0 := by unfold hiW; unfold OneW at h; omega
theorem lo_small (x : Int) (h : OneW x) : loW x = x := by unfold loW; unfold OneW at h; omega

theorem mul64 (x y : Int) (hx : OneW x) (hy : OneW y) (w : World) :
    Calls Tryd.prog 128 #[.int .u64 x, .int .u64 y] w fun e w' => e = .returned (.tuple #[.int .u64 (hiW (x * y)), .int .u64 (loW (x * y))]) ∧ w = w' := by
  obtain ⟨hx0, hx1⟩ := hx
  obtain ⟨hy0, hy1⟩ := hy
  obtain ⟨a, rfl⟩ := Int.eq_ofNat_of_zero_le hx0
  obtain ⟨b, rfl⟩ := Int.eq_ofNat_of_zero_le hy0
  refine (Tryd.bits_Mul64 a b (by omega) (by omega) w).mono ?_
  rintro e w' ⟨rfl, rfl⟩
  refine ⟨?_, rfl⟩
  unfold hiW loW
  congr 5 <;> simp

theorem add64 (x y c : Int) (hx : OneW x) (hy : OneW y) (hc0 : 0 ≤ c) (hc1 : c ≤ 1) (w : World) :
    (callFunc 131 #[.int .u64 x, .int .u64 y, .int .u64 c]).run Tryd.prog w = .ok (.value (.tuple #[.int .u64 (loW (x + y + c)), .int .u64 (hiW (x + y + c))])) w := by
  obtain ⟨hx0, hx1⟩ := hx
  obtain ⟨hy0, hy1⟩ := hy
  obtain ⟨a, rfl⟩ := Int.eq_ofNat_of_zero_le hx0
  obtain ⟨b, rfl⟩ := Int.eq_ofNat_of_zero_le hy0
  obtain ⟨d, rfl⟩ := Int.eq_ofNat_of_zero_le hc0
  rw [run_callFunc_extern Tryd.func131 (by kernel_rfl) (by kernel_rfl) (by kernel_rfl) (e := add64Entry) (by kernel_rfl), run_add64 a b d (by omega) (by omega) (by omega) (by omega)]
  simp only [Result.andThen]
  unfold hiW loW
  congr 5 <;> omega

theorem add64_0 (x y : Int) (hx : OneW x) (hy : OneW y) (w : World) :
    (callFunc 131 #[.int .u64 x, .int .u64 y, .int .u64 0]).run Tryd.prog w = .ok (.value (.tuple #[.int .u64 (loW (x + y)), .int .u64 (hiW (x + y))])) w := by
  simpa using add64 x y 0 hx hy (Int.le_refl 0) (by decide) w

set_option maxHeartbeats 400000 in
theorem of_any (n : Int) (h0 : 0 ≤ n) (h1 : n ≤ 9223372036854775807) (w : World) :
    Calls Tryd.prog 104 #[.int .i64 n] w fun e w' => e = .returned (.agg #[.int .u64 (hiW n), .int .u64 (loW n)]) ∧ ∃ c1 : Array Value, w' = w.alloc (.cells c1 91) := by
  have hl := Lib.hid (lo_small n ⟨h0, by omega⟩)
  have hh := Lib.hid (hi_small n ⟨h0, by omega⟩)
  go_enter Tryd.func104, Tryd.ntmps104
  go_wp2
  exact bodyPost_ret (v := .agg #[.int .u64 0, .int .u64 n]) (by simp [results, Tryd.results104, go_sem]) rfl ⟨by rw [hl.out, hh.out], _, rfl⟩

theorem times_hi (x n : Int) (hx : FitW x) (hn : 0 ≤ n) (h : FitW (x * n)) : IntKind.u64.wrap (IntKind.u64.wrap (hiW x * n) + hiW (loW x * n)) = hiW (x * n) := by
  have e : x = hiW x * 18446744073709551616 + loW x := by unfold hiW loW; omega
  have e2 : x * n = (hiW x * n) * 18446744073709551616 + loW x * n := by
    have : x * n = (hiW x * 18446744073709551616 + loW x) * n := by rw [← e]
    rw [this]; grind
  unfold FitW at h
  rw [e2] at h ⊢
  have : 0 ≤ hiW x * n := Int.mul_nonneg (one_hi x hx).1 hn
  have : 0 ≤ loW x * n := Int.mul_nonneg (one_lo x).1 hn
  generalize hiW x * n = a at *
  generalize loW x * n = b at *
  simp only [IntKind.wrap_u64]
  unfold hiW
  omega
theorem times_lo (x n : Int) : loW (loW x * n) = loW (x * n) := by
  unfold loW
  rw [Int.mul_emod (x % 18446744073709551616) n, Int.emod_emod_of_dvd _ (Int.dvd_refl _), ← Int.mul_emod]

set_option maxHeartbeats 1000000 in
theorem times_any (x n : Int) (hx : FitW x) (h0 : 0 ≤ n) (h1 : n ≤ 9223372036854775807) (h : FitW (x * n)) (w : World) :
    Calls Tryd.prog 105 #[.agg #[.int .u64 (hiW x), .int .u64 (loW x)], .int .i64 n] w fun e w' => e = .returned (.agg #[.int .u64 (hiW (x * n)), .int .u64 (loW (x * n))]) ∧ ∃ c1 c2 : Array Value, w' = (w.alloc (.cells c1 91)).alloc (.cells c2 91) := by
  have HL := Lib.hid (times_lo x n)
  have HH := Lib.hid (times_hi x n hx h0 h)
  have HO := Lib.hid (one_lo x)
  have HN := Lib.hid (show OneW n from ⟨h0, by omega⟩)
  clear hx h
  generalize hiW x = a at *
  generalize loW x = b at *
  go_enter Tryd.func105, Tryd.ntmps105
  go_wp2_with (first | (go_at_call 128; refine (mul64 _ _ HO.out HN.out _).mono ?_; rintro e w' ⟨rfl, rfl⟩))
  refine bodyPost_ret (v := .agg #[.int .u64 (IntKind.u64.wrap (IntKind.u64.wrap (a * n) + hiW (b * n))), .int .u64 (loW (b * n))]) (by simp [results, Tryd.results105, go_sem]) rfl ⟨by rw [HL.out, HH.out], _, _, rfl⟩

theorem plus_hi (x y : Int) (_hx : FitW x) (_hy : FitW y) (h : FitW (x + y)) : loW (hiW x + hiW y + hiW (loW x + loW y)) = hiW (x + y) := by
  unfold FitW at *
  unfold hiW loW
  omega
theorem plus_lo (x y : Int) : loW (loW x + loW y) = loW (x + y) := by unfold loW; omega
theorem carry (x y : Int) : 0 ≤ hiW (loW x + loW y) ∧ hiW (loW x + loW y) ≤ 1 := by unfold hiW loW; omega

set_option maxHeartbeats 1000000 in
theorem plus_any (x y : Int) (hx : FitW x) (hy : FitW y) (h : FitW (x + y)) (w : World) :
    Calls Tryd.prog 106 #[.agg #[.int .u64 (hiW x), .int .u64 (loW x)], .agg #[.int .u64 (hiW y), .int .u64 (loW y)]] w fun e w' => e = .returned (.agg #[.int .u64 (hiW (x + y)), .int .u64 (loW (x + y))]) ∧ ∃ c1 c2 c3 : Array Value, w' = ((w.alloc (.cells c1 91)).alloc (.cells c2 91)).alloc (.cells c3 91) := by
  have HL := Lib.hid (plus_lo x y)
  have HH := Lib.hid (plus_hi x y hx hy h)
  have O1 := Lib.hid (one_lo x)
  have O2 := Lib.hid (one_lo y)
  have O3 := Lib.hid (one_hi x hx)
  have O4 := Lib.hid (one_hi y hy)
  obtain ⟨c0, c1⟩ := carry x y
  clear hx hy h
  generalize hiW x = a at *
  generalize loW x = b at *
  generalize hiW y = c at *
  generalize loW y = d at *
  go_enter Tryd.func106, Tryd.ntmps106
  go_wp2_with (first | simp only [add64_0 b d O1.out O2.out] | simp only [add64 a c _ O3.out O4.out c0 c1])
  refine bodyPost_ret (v := .agg #[.int .u64 (loW (a + c + hiW (b + d))), .int .u64 (loW (b + d))]) (by simp [results, Tryd.results106, go_sem]) rfl ⟨by rw [HL.out, HH.out], _, _, _, rfl⟩

theorem less_iff (x y : Int) : x < y ↔ hiW x < hiW y ∨ (hiW x = hiW y ∧ loW x < loW y) := by
  unfold hiW loW; omega

set_option maxHeartbeats 1000000 in
theorem less_any (x y : Int) (w : World) :
    Calls Tryd.prog 107 #[.agg #[.int .u64 (hiW x), .int .u64 (loW x)], .agg #[.int .u64 (hiW y), .int .u64 (loW y)]] w fun e w' => e = .returned (.bool (decide (x < y))) ∧ ∃ c1 c2 : Array Value, w' = (w.alloc (.cells c1 91)).alloc (.cells c2 91) := by
  have HI := Lib.hid (less_iff x y)
  have fin : ∀ (P : Prop) [Decidable P], (P ↔ x < y) → decide (x < y) = decide P := by
    intro P _ h
    by_cases hp : P
    · have := h.1 hp; simp [hp, this]
    · have : ¬ x < y := fun k => hp (h.2 k); simp [hp]; omega
  have FIN := Lib.hid fin
  clear fin
  generalize hiW x = a at *
  generalize loW x = b at *
  generalize hiW y = c at *
  generalize loW y = d at *
  rcases Int.lt_trichotomy a c with h | h | h
  · have e := Lib.hid (show decide (x < y) = true by simp; exact HI.out.2 (.inl h))
    go_enter Tryd.func107, Tryd.ntmps107
    go_wp2
    go_ret
    exact ⟨by rw [e.out]; rfl, _, _, rfl⟩
  · subst h
    by_cases h : b < d
    · have e := Lib.hid (show decide (x < y) = true by simp; exact HI.out.2 (.inr ⟨rfl, h⟩))
      go_enter Tryd.func107, Tryd.ntmps107
      go_wp2
      go_ret
      exact ⟨by rw [e.out]; rfl, _, _, rfl⟩
    · have e := Lib.hid (show decide (x < y) = false by simp; exact Int.not_lt.1 fun k => by have := HI.out.1 k; omega)
      have hd : decide (b < d) = false := by simpa using h
      go_enter Tryd.func107, Tryd.ntmps107
      go_wp2
      go_ret
      exact ⟨by rw [e.out]; rfl, _, _, rfl⟩
  · have e := Lib.hid (show decide (x < y) = false by simp; exact Int.not_lt.1 fun k => by have := HI.out.1 k; omega)
    have hd : decide (a < c) = false := by simp; omega
    have hd2 : (a == c) = false := by simp; omega
    go_enter Tryd.func107, Tryd.ntmps107
    go_wp2
    go_ret
    exact ⟨by rw [e.out]; rfl, _, _, rfl⟩
theorem below1 {w : World} {o : Obj} : Below w.heap.size w (w.alloc o) := (Below.refl _ _).alloc (Nat.le_refl _) _
theorem bt {a b c : World} (h : Below a.heap.size a b) (k : Below b.heap.size b c) : Below a.heap.size a c := h.trans (k.mono h.size)
theorem below2 {w : World} {o p : Obj} : Below w.heap.size w ((w.alloc o).alloc p) := bt below1 below1
theorem below3 {w : World} {o p q : Obj} : Below w.heap.size w (((w.alloc o).alloc p).alloc q) := bt below2 below1
end Go.Proofs.YtdicoggpcobbpaaDoor
