/- Contracts of the small functions of package word and level: Floor, Round, First, When, levels. No conditions but those that each theorem states. Contracts of level's numbers of 128 bits: of, times, plus, less. Numbers of six words of 64 bits: what times, plus, minus, less, mul do to the words, and what the words are worth. No program in it. -/
import Derived.Test.YtopmdeefcjdadaaProg
import Derived.Test.YtopmdeefcjdadaaT28M16
import Derived.WalkKit
import Derived.WalkSpells
import Derived.WalkLawsBesides
import Derived.Lib.Hide
import Derived.Test.YtopmdeefcjdadaaShelf
import Derived.Shelf.Spec.BitsCarry
import Derived.Deep.RegionHeld3

namespace Go.Proofs.Ytopmdeefcjdadaa
open Go.RowKit

/-- Go's Floor for a divisor above 0 is the quotient rounded down. -/
theorem tdiv_floor (n d : Int) (hd : 0 < d) : (if n.tmod d < 0 then n.tdiv d - 1 else n.tdiv d) = n / d := by
  have h1 := @Int.tmod_eq_emod n d
  have h2 := @Int.tdiv_eq_ediv n d
  have h3 := Int.emod_nonneg n (b := d) (by omega)
  have h4 := Int.emod_lt_of_pos n hd
  have h5 : d.sign = 1 := Int.sign_eq_one_of_pos hd
  by_cases hn : 0 ≤ n ∨ d ∣ n
  · rw [if_pos hn] at h1 h2
    rw [if_neg (by omega)]; omega
  · rw [if_neg hn] at h1 h2
    rw [h5] at h2
    have h6 : ((d.natAbs : Nat) : Int) = d := by omega
    rw [h6] at h1
    rw [if_pos (by omega)]; omega

theorem ediv_bounds (n d B : Int) (hd : 0 < d) (hB : 0 ≤ B) (h1 : -B ≤ n) (h2 : n ≤ B) : -B ≤ n / d ∧ n / d ≤ B := by
  refine ⟨?_, ?_⟩
  · rw [Int.le_ediv_iff_mul_le hd]
    have : B * 1 ≤ B * d := Int.mul_le_mul_of_nonneg_left (by omega) hB
    have e : -B * d = -(B * d) := by rw [Int.neg_mul]
    omega
  · refine Int.ediv_le_of_le_mul hd ?_
    have : B * 1 ≤ B * d := Int.mul_le_mul_of_nonneg_left (by omega) hB
    omega

set_option maxHeartbeats 400000 in
theorem floor_any (n d : Int) (w : World) (hd : 0 < d) (h1 : -9223372036854775807 ≤ n) (h2 : n ≤ 9223372036854775807) (h3 : d ≤ 9223372036854775807) :
    Calls Try.prog 101 #[.int .i64 n, .int .i64 d] w fun e w' => e = .returned (.int .i64 (n / d)) ∧ w = w' := by
  have hb := ediv_bounds n d 9223372036854775807 hd (by omega) (by omega) h2
  have hf := tdiv_floor n d hd
  by_cases hn : n.tmod d < 0
  · rw [if_pos hn] at hf
    have hw : wrap64 (n.tdiv d - 1) = n / d := by rw [hf]; exact IntWalk.wrap64_in _ ⟨by omega, by omega⟩
    have H := Lib.hid hw
    clear hw hf hb
    go_enter Try.func101, Try.ntmps101
    go_wp2
    go_ret
    exact ⟨by rw [H.out]; rfl, rfl⟩
  · rw [if_neg hn] at hf
    have H := Lib.hid hf
    clear hf hb
    go_enter Try.func101, Try.ntmps101
    go_wp2
    go_ret
    exact ⟨by rw [H.out]; rfl, rfl⟩

set_option maxHeartbeats 400000 in
theorem within_yes (n lo hi : Int) (w : World) (h : lo ≤ n ∧ n ≤ hi) :
    Calls Try.prog 30 #[.int .i64 n, .int .i64 lo, .int .i64 hi] w fun e w' => e = .returned (.bool true) ∧ w = w' := by
  obtain ⟨h1, h2⟩ := h
  have e2 : decide (n ≤ hi) = true := by simpa using h2
  go_enter Try.func30, Try.ntmps30
  go_wp2
  go_ret
  exact ⟨rfl, rfl⟩

set_option maxHeartbeats 400000 in
theorem within_no (n lo hi : Int) (w : World) (h : n < lo ∨ hi < n) :
    Calls Try.prog 30 #[.int .i64 n, .int .i64 lo, .int .i64 hi] w fun e w' => e = .returned (.bool false) ∧ w = w' := by
  by_cases h1 : lo ≤ n
  · have e2 : decide (n ≤ hi) = false := by simp; omega
    have h2 : hi < n := by omega
    clear h
    go_enter Try.func30, Try.ntmps30
    go_wp2
    go_ret
    exact ⟨rfl, rfl⟩
  · have h2 : n < lo := by omega
    clear h
    go_enter Try.func30, Try.ntmps30
    go_wp2
    go_ret
    exact ⟨rfl, rfl⟩

end Go.Proofs.Ytopmdeefcjdadaa

namespace Go.Proofs.Ytopmdeefcjdadaa
open Go.RowKit

/-- the two words of a number -/
def hiW (x : Int) : Int := x / 18446744073709551616
def loW (x : Int) : Int := x % 18446744073709551616
def FitW (x : Int) : Prop := 0 ≤ x ∧ x < 340282366920938463463374607431768211456
def OneW (x : Int) : Prop := 0 ≤ x ∧ x < 18446744073709551616

theorem one_lo (x : Int) : OneW (loW x) := by unfold OneW loW; omega
theorem one_hi (x : Int) (h : FitW x) : OneW (hiW x) := by unfold OneW hiW; unfold FitW at h; omega
theorem hi_small (x : Int) (h : OneW x) : hiW x = 0 := by unfold hiW; unfold OneW at h; omega
theorem lo_small (x : Int) (h : OneW x) : loW x = x := by unfold loW; unfold OneW at h; omega

theorem mul64 (x y : Int) (hx : OneW x) (hy : OneW y) (w : World) :
    Calls Try.prog 76 #[.int .u64 x, .int .u64 y] w fun e w' => e = .returned (.tuple #[.int .u64 (hiW (x * y)), .int .u64 (loW (x * y))]) ∧ w = w' := by
  obtain ⟨hx0, hx1⟩ := hx
  obtain ⟨hy0, hy1⟩ := hy
  obtain ⟨a, rfl⟩ := Int.eq_ofNat_of_zero_le hx0
  obtain ⟨b, rfl⟩ := Int.eq_ofNat_of_zero_le hy0
  refine (Try.bits_Mul64 a b (by omega) (by omega) w).mono ?_
  rintro e w' ⟨rfl, rfl⟩
  refine ⟨?_, rfl⟩
  unfold hiW loW
  congr 5 <;> simp

theorem add64 (x y c : Int) (hx : OneW x) (hy : OneW y) (hc0 : 0 ≤ c) (hc1 : c ≤ 1) (w : World) :
    (callFunc 77 #[.int .u64 x, .int .u64 y, .int .u64 c]).run Try.prog w = .ok (.value (.tuple #[.int .u64 (loW (x + y + c)), .int .u64 (hiW (x + y + c))])) w := by
  obtain ⟨hx0, hx1⟩ := hx
  obtain ⟨hy0, hy1⟩ := hy
  obtain ⟨a, rfl⟩ := Int.eq_ofNat_of_zero_le hx0
  obtain ⟨b, rfl⟩ := Int.eq_ofNat_of_zero_le hy0
  obtain ⟨d, rfl⟩ := Int.eq_ofNat_of_zero_le hc0
  rw [run_callFunc_extern Try.func77 (by kernel_rfl) (by kernel_rfl) (by kernel_rfl) (e := add64Entry) (by kernel_rfl), run_add64 a b d (by omega) (by omega) (by omega) (by omega)]
  simp only [Result.andThen]
  unfold hiW loW
  congr 5 <;> omega

theorem add64_0 (x y : Int) (hx : OneW x) (hy : OneW y) (w : World) :
    (callFunc 77 #[.int .u64 x, .int .u64 y, .int .u64 0]).run Try.prog w = .ok (.value (.tuple #[.int .u64 (loW (x + y)), .int .u64 (hiW (x + y))])) w := by
  simpa using add64 x y 0 hx hy (Int.le_refl 0) (by decide) w

theorem times_hi (x n : Int) (hx : FitW x) (hn : 0 ≤ n) (h : FitW (x * n)) : IntKind.u64.wrap (IntKind.u64.wrap (hiW x * n) + hiW (loW x * n)) = hiW (x * n) := by
  have e : x = hiW x * 18446744073709551616 + loW x := by unfold hiW loW; omega
  have e2 : x * n = (hiW x * n) * 18446744073709551616 + loW x * n := by
    have : x * n = (hiW x * 18446744073709551616 + loW x) * n := by rw [← e]
    rw [this]; grind
  unfold FitW at h
  rw [e2] at h ⊢
  have : 0 ≤ hiW x * n := Int.mul_nonneg (one_hi x hx).1 hn
  have : 0 ≤ loW x * n := Int.mul_nonneg (one_lo x).1 hn
  generalize hiW x * n = a at *
  generalize loW x * n = b at *
  simp only [IntKind.wrap_u64]
  unfold hiW
  omega
theorem times_lo (x n : Int) : loW (loW x * n) = loW (x * n) := by
  unfold loW
  rw [Int.mul_emod (x % 18446744073709551616) n, Int.emod_emod_of_dvd _ (Int.dvd_refl _), ← Int.mul_emod]

theorem plus_hi (x y : Int) (_hx : FitW x) (_hy : FitW y) (h : FitW (x + y)) : loW (hiW x + hiW y + hiW (loW x + loW y)) = hiW (x + y) := by
  unfold FitW at *
  unfold hiW loW
  omega
theorem plus_lo (x y : Int) : loW (loW x + loW y) = loW (x + y) := by unfold loW; omega
theorem carry (x y : Int) : 0 ≤ hiW (loW x + loW y) ∧ hiW (loW x + loW y) ≤ 1 := by unfold hiW loW; omega

theorem less_iff (x y : Int) : x < y ↔ hiW x < hiW y ∨ (hiW x = hiW y ∧ loW x < loW y) := by
  unfold hiW loW; omega

theorem below1 {w : World} {o : Obj} : Below w.heap.size w (w.alloc o) := (Below.refl _ _).alloc (Nat.le_refl _) _
theorem bt {a b c : World} (h : Below a.heap.size a b) (k : Below b.heap.size b c) : Below a.heap.size a c := h.trans (k.mono h.size)
theorem below2 {w : World} {o p : Obj} : Below w.heap.size w ((w.alloc o).alloc p) := bt below1 below1
theorem below3 {w : World} {o p q : Obj} : Below w.heap.size w (((w.alloc o).alloc p).alloc q) := bt below2 below1
end Go.Proofs.Ytopmdeefcjdadaa

namespace Go.Proofs.Ytopmdeefcjdadaa
set_option linter.unusedVariables false
set_option linter.unusedSimpArgs false

def W64 : Int := 18446744073709551616
theorem w64_pos : 0 < W64 := by unfold W64; decide
theorem split_W (x : Int) : loW x + W64 * hiW x = x := by unfold loW hiW W64; omega
theorem lo_range (x : Int) : 0 ≤ loW x ∧ loW x < W64 := by unfold loW W64; omega
theorem hi_nonneg {x : Int} (h : 0 ≤ x) : 0 ≤ hiW x := by unfold hiW; omega
theorem oneW_iff (x : Int) : OneW x ↔ 0 ≤ x ∧ x < W64 := Iff.rfl
/-- what words are worth, the lowest one first -/
def valH : List Int → Int
  | [] => 0
  | a :: l => a + W64 * valH l
def powW : Nat → Int
  | 0 => 1
  | n + 1 => W64 * powW n
theorem powW_pos : ∀ n, 0 < powW n
  | 0 => by decide
  | n + 1 => Int.mul_pos w64_pos (powW_pos n)
def Words (l : List Int) : Prop := ∀ x ∈ l, OneW x
theorem Words.head {x : Int} {l : List Int} (h : Words (x :: l)) : OneW x := h x (by simp)
theorem Words.tail {x : Int} {l : List Int} (h : Words (x :: l)) : Words l := fun y hy => h y (by simp [hy])
theorem words_cons {x : Int} {l : List Int} (h : OneW x) (k : Words l) : Words (x :: l) := fun y hy => by
  rcases List.mem_cons.1 hy with rfl | hy
  · exact h
  · exact k y hy
theorem valH_bound : ∀ l : List Int, Words l → 0 ≤ valH l ∧ valH l < powW l.length
  | [], _ => by simp [valH, powW]
  | x :: l, h => by
    obtain ⟨h1, h2⟩ := valH_bound l h.tail
    obtain ⟨x0, x1⟩ := (oneW_iff x).1 h.head
    simp only [valH, powW, List.length_cons]
    have a1 : 0 ≤ W64 * valH l := Int.mul_nonneg (Int.le_of_lt w64_pos) h1
    have a2 : W64 * (valH l + 1) ≤ W64 * powW l.length := Int.mul_le_mul_of_nonneg_left (by omega) (Int.le_of_lt w64_pos)
    rw [Int.mul_add, Int.mul_one] at a2
    omega
theorem le_of_W {a p : Int} (h : W64 * a < W64 * p) : a < p := Int.lt_of_mul_lt_mul_left h (Int.le_of_lt w64_pos)
/-! ### times -/
def timesL (n : Int) : List Int → Int → List Int
  | [], _ => []
  | x :: l, c => loW (x * n + c) :: timesL n l (hiW (x * n + c))
theorem timesL_len (n : Int) : ∀ l c, (timesL n l c).length = l.length
  | [], _ => rfl
  | x :: l, c => by simp [timesL, timesL_len n l]
theorem timesL_words (n : Int) : ∀ l c, Words (timesL n l c)
  | [], _ => by simp [timesL, Words]
  | x :: l, c => words_cons (lo_range _) (timesL_words n l _)
theorem timesL_val {n : Int} (hn : 0 ≤ n) : ∀ l c, 0 ≤ c → Words l → valH l * n + c < powW l.length → valH (timesL n l c) = valH l * n + c
  | [], c, hc, _, h => by simp [valH, powW, timesL] at *; omega
  | x :: l, c, hc, hw, h => by
    have hs : 0 ≤ x * n + c := Int.add_nonneg (Int.mul_nonneg hw.head.1 hn) hc
    have e : valH (x :: l) * n + c = loW (x * n + c) + W64 * (valH l * n + hiW (x * n + c)) := by
      have := split_W (x * n + c)
      simp only [valH]
      have e1 : (x + W64 * valH l) * n = x * n + W64 * (valH l * n) := by rw [Int.add_mul, Int.mul_assoc]
      rw [e1, Int.mul_add]
      omega
    rw [e] at h ⊢
    simp only [List.length_cons, powW] at h
    have := (lo_range (x * n + c)).1
    have h2 : valH l * n + hiW (x * n + c) < powW l.length := le_of_W (by omega)
    rw [timesL, valH, timesL_val hn l _ (hi_nonneg hs) hw.tail h2]
/-- a carry stays a word -/
theorem carry_word {x y c : Int} (hx : OneW x) (hy : OneW y) (hc : OneW c) : OneW (hiW (x * y + c)) := by
  rw [oneW_iff] at *
  have hp : 0 ≤ x * y := Int.mul_nonneg hx.1 hy.1
  refine ⟨hi_nonneg (by omega), ?_⟩
  have h1 : x * y ≤ (W64 - 1) * (W64 - 1) := Int.le_trans (Int.mul_le_mul_of_nonneg_right (by omega) hy.1) (Int.mul_le_mul_of_nonneg_left (by omega) (by omega))
  have h2 : (W64 - 1) * (W64 - 1) + (W64 - 1) = W64 * (W64 - 1) := by have := Int.sub_mul W64 1 (W64 - 1); omega
  have h3 := split_W (x * y + c)
  have h4 := (lo_range (x * y + c)).1
  have h5 : W64 * hiW (x * y + c) < W64 * W64 := by have h6 := Int.mul_sub W64 W64 1; have := w64_pos; omega
  exact le_of_W h5
theorem carry_word2 {o x y c : Int} (ho : OneW o) (hx : OneW x) (hy : OneW y) (hc : OneW c) : OneW (hiW (o + x * y + c)) := by
  rw [oneW_iff] at *
  have hp : 0 ≤ x * y := Int.mul_nonneg hx.1 hy.1
  refine ⟨hi_nonneg (by omega), ?_⟩
  have h1 : x * y ≤ (W64 - 1) * (W64 - 1) := Int.le_trans (Int.mul_le_mul_of_nonneg_right (by omega) hy.1) (Int.mul_le_mul_of_nonneg_left (by omega) (by omega))
  have h2 : (W64 - 1) + (W64 - 1) * (W64 - 1) + (W64 - 1) = W64 * W64 - 1 := by have := Int.sub_mul W64 1 (W64 - 1); have := Int.mul_sub W64 W64 1; omega
  have h3 := split_W (o + x * y + c)
  have h4 := (lo_range (o + x * y + c)).1
  exact le_of_W (by omega)
/-! ### plus and minus -/
def plusL : List Int → List Int → Int → List Int
  | x :: l, y :: m, c => loW (x + y + c) :: plusL l m (hiW (x + y + c))
  | _, _, _ => []
theorem plusL_words : ∀ l m c, Words (plusL l m c)
  | x :: l, y :: m, c => words_cons (lo_range _) (plusL_words l m _)
  | [], _, _ => by simp [plusL, Words]
  | _ :: _, [], _ => by simp [plusL, Words]
theorem plusL_len : ∀ l m c, l.length = m.length → (plusL l m c).length = l.length
  | x :: l, y :: m, c, h => by simp [plusL, plusL_len l m _ (by simpa using h)]
  | [], _, _, _ => by simp [plusL]
  | _ :: _, [], _, h => by simp at h
theorem plusL_val : ∀ l m c, l.length = m.length → 0 ≤ c → Words l → Words m → valH l + valH m + c < powW l.length → valH (plusL l m c) = valH l + valH m + c
  | [], [], c, _, hc, _, _, h => by simp [valH, powW, plusL] at *; omega
  | x :: l, y :: m, c, hlm, hc, hw, hv, h => by
    have hs : 0 ≤ x + y + c := by have := hw.head.1; have := hv.head.1; omega
    have e : valH (x :: l) + valH (y :: m) + c = loW (x + y + c) + W64 * (valH l + valH m + hiW (x + y + c)) := by
      have := split_W (x + y + c)
      simp only [valH]
      rw [Int.mul_add, Int.mul_add]
      omega
    rw [e] at h ⊢
    simp only [List.length_cons, powW] at h
    have := (lo_range (x + y + c)).1
    have h2 : valH l + valH m + hiW (x + y + c) < powW l.length := le_of_W (by omega)
    rw [plusL, valH, plusL_val l m _ (by simpa using hlm) (hi_nonneg hs) hw.tail hv.tail h2]
  | [], _ :: _, _, h, _, _, _, _ => by simp at h
  | _ :: _, [], _, h, _, _, _, _ => by simp at h
/-- the words of a difference; c: what is borrowed, 0 or 1 -/
def minusL : List Int → List Int → Int → List Int
  | x :: l, y :: m, c => loW (x - y - c) :: minusL l m (-hiW (x - y - c))
  | _, _, _ => []
theorem minusL_words : ∀ l m c, Words (minusL l m c)
  | x :: l, y :: m, c => words_cons (lo_range _) (minusL_words l m _)
  | [], _, _ => by simp [minusL, Words]
  | _ :: _, [], _ => by simp [minusL, Words]
theorem minusL_len : ∀ l m c, l.length = m.length → (minusL l m c).length = l.length
  | x :: l, y :: m, c, h => by simp [minusL, minusL_len l m _ (by simpa using h)]
  | [], _, _, _ => by simp [minusL]
  | _ :: _, [], _, h => by simp at h
theorem minusL_val : ∀ l m c, l.length = m.length → Words l → Words m → 0 ≤ valH l - valH m - c → valH l - valH m - c < powW l.length → valH (minusL l m c) = valH l - valH m - c
  | [], [], c, _, _, _, h, h' => by simp [valH, minusL, powW] at *; omega
  | x :: l, y :: m, c, hlm, hw, hv, h, h' => by
    have e : valH (x :: l) - valH (y :: m) - c = loW (x - y - c) + W64 * (valH l - valH m - -hiW (x - y - c)) := by
      have := split_W (x - y - c)
      simp only [valH]
      rw [Int.mul_sub, Int.mul_sub, Int.mul_neg]
      omega
    rw [e] at h h' ⊢
    simp only [List.length_cons, powW] at h'
    have := lo_range (x - y - c)
    have h2 : 0 ≤ valH l - valH m - -hiW (x - y - c) := by
      by_cases k : 0 ≤ valH l - valH m - -hiW (x - y - c)
      · exact k
      · have h3 : W64 * (valH l - valH m - -hiW (x - y - c)) ≤ W64 * (-1) := Int.mul_le_mul_of_nonneg_left (by omega) (Int.le_of_lt w64_pos)
        omega
    have h4 : valH l - valH m - -hiW (x - y - c) < powW l.length := le_of_W (by omega)
    rw [minusL, valH, minusL_val l m _ (by simpa using hlm) hw.tail hv.tail h2 h4]
  | [], _ :: _, _, h, _, _, _, _ => by simp at h
  | _ :: _, [], _, h, _, _, _, _ => by simp at h
/-! ### less -/
theorem less_head {x y : Int} {l m : List Int} (hx : OneW x) (hy : OneW y) (hl : Words l) (hm : Words m) : valH (x :: l) < valH (y :: m) ↔ valH l < valH m ∨ (valH l = valH m ∧ x < y) := by
  simp only [valH]
  obtain ⟨x0, x1⟩ := (oneW_iff x).1 hx
  obtain ⟨y0, y1⟩ := (oneW_iff y).1 hy
  constructor
  · intro h
    rcases Int.lt_trichotomy (valH l) (valH m) with c | c | c
    · exact .inl c
    · exact .inr ⟨c, by rw [c] at h; omega⟩
    · have := Int.mul_le_mul_of_nonneg_left (show valH m + 1 ≤ valH l by omega) (Int.le_of_lt w64_pos)
      rw [Int.mul_add, Int.mul_one] at this
      omega
  · rintro (c | ⟨c, h⟩)
    · have := Int.mul_le_mul_of_nonneg_left (show valH l + 1 ≤ valH m by omega) (Int.le_of_lt w64_pos)
      rw [Int.mul_add, Int.mul_one] at this
      omega
    · rw [c]; omega
theorem less_same {l m s : List Int} (hlm : l.length = m.length) : valH (l ++ s) < valH (m ++ s) ↔ valH l < valH m := by
  induction l generalizing m with
  | nil =>
    obtain rfl : m = [] := List.eq_nil_of_length_eq_zero (by simpa using hlm.symm)
    simp
  | cons x l ih =>
    match m, hlm with
    | y :: m, h =>
      have key : ∀ l m : List Int, l.length = m.length → valH (l ++ s) - valH (m ++ s) = valH l - valH m := by
        intro l
        induction l with
        | nil =>
          intro m h
          obtain rfl : m = [] := List.eq_nil_of_length_eq_zero (by simpa using h.symm)
          simp [valH]
        | cons x l ih =>
          intro m h
          match m, h with
          | y :: m, h =>
            have := ih m (by simpa using h)
            simp only [List.cons_append, valH]
            have e1 : W64 * valH (l ++ s) - W64 * valH (m ++ s) = W64 * valH l - W64 * valH m := by rw [← Int.mul_sub, ← Int.mul_sub, this]
            omega
      have := key (x :: l) (y :: m) h
      omega
/-- two rows that differ at a word, and not above it -/
theorem less_at {l m s : List Int} {x y : Int} (hlm : l.length = m.length) (hl : Words l) (hm : Words m) (hxy : x ≠ y) : (valH (l ++ x :: s) < valH (m ++ y :: s)) ↔ x < y := by
  have e1 : l ++ x :: s = (l ++ [x]) ++ s := by simp
  have e2 : m ++ y :: s = (m ++ [y]) ++ s := by simp
  rw [e1, e2, less_same (by simp [hlm])]
  clear e1 e2
  have key : ∀ l m : List Int, l.length = m.length → Words l → Words m → (valH (l ++ [x]) < valH (m ++ [y]) ↔ x < y) := by
    intro l
    induction l with
    | nil =>
      intro m h _ _
      obtain rfl : m = [] := List.eq_nil_of_length_eq_zero (by simpa using h.symm)
      simp [valH]
    | cons a l ih =>
      intro m h hl hm
      match m, h, hm with
      | b :: m, h, hm =>
        have := ih m (by simpa using h) hl.tail hm.tail
        obtain ⟨x0, x1⟩ := (oneW_iff a).1 hl.head
        obtain ⟨y0, y1⟩ := (oneW_iff b).1 hm.head
        simp only [List.cons_append, valH]
        rw [← this]
        constructor
        · intro hq
          by_cases c : valH (l ++ [x]) < valH (m ++ [y])
          · exact c
          · exfalso
            by_cases d : valH (l ++ [x]) = valH (m ++ [y])
            · have key2 : ∀ l m : List Int, l.length = m.length → Words l → Words m → valH (l ++ [x]) = valH (m ++ [y]) → x = y := by
                intro l
                induction l with
                | nil =>
                  intro m h _ _ e
                  obtain rfl : m = [] := List.eq_nil_of_length_eq_zero (by simpa using h.symm)
                  simpa [valH] using e
                | cons a l ih =>
                  intro m h hl hm e
                  match m, h, hm with
                  | b :: m, h, hm =>
                    obtain ⟨x0, x1⟩ := (oneW_iff a).1 hl.head
                    obtain ⟨y0, y1⟩ := (oneW_iff b).1 hm.head
                    simp only [List.cons_append, valH] at e
                    refine ih m (by simpa using h) hl.tail hm.tail ?_
                    rcases Int.lt_trichotomy (valH (l ++ [x])) (valH (m ++ [y])) with c | c | c
                    · have := Int.mul_le_mul_of_nonneg_left (show valH (l ++ [x]) + 1 ≤ valH (m ++ [y]) by omega) (Int.le_of_lt w64_pos)
                      rw [Int.mul_add, Int.mul_one] at this
                      omega
                    · exact c
                    · have := Int.mul_le_mul_of_nonneg_left (show valH (m ++ [y]) + 1 ≤ valH (l ++ [x]) by omega) (Int.le_of_lt w64_pos)
                      rw [Int.mul_add, Int.mul_one] at this
                      omega
              exact hxy (key2 l m (by simpa using h) hl.tail hm.tail d)
            · have := Int.mul_le_mul_of_nonneg_left (show valH (m ++ [y]) + 1 ≤ valH (l ++ [x]) by omega) (Int.le_of_lt w64_pos)
              rw [Int.mul_add, Int.mul_one] at this
              omega
        · intro c
          have := Int.mul_le_mul_of_nonneg_left (show valH (l ++ [x]) + 1 ≤ valH (m ++ [y]) by omega) (Int.le_of_lt w64_pos)
          rw [Int.mul_add, Int.mul_one] at this
          omega
  exact key l m hlm hl hm
/-! ### mul -/
/-- a row of a product on what stands there; what has no room is dropped -/
def rowL (y : Int) : List Int → List Int → Int → List Int
  | o :: os, x :: l, c => loW (o + x * y + c) :: rowL y os l (hiW (o + x * y + c))
  | os, _, _ => os
theorem rowL_words (y : Int) : ∀ os l c, Words os → Words (rowL y os l c)
  | o :: os, x :: l, c, h => words_cons (lo_range _) (rowL_words y os l _ h.tail)
  | [], _, _, h => by simp [rowL, Words]
  | _ :: _, [], _, h => by simpa [rowL] using h
theorem rowL_len (y : Int) : ∀ os l c, (rowL y os l c).length = os.length
  | o :: os, x :: l, c => by simp [rowL, rowL_len y os l]
  | [], _, _ => by simp [rowL]
  | _ :: _, [], _ => by simp [rowL]
theorem rowL_val {y : Int} (hy : 0 ≤ y) : ∀ os l c, os.length ≤ l.length → 0 ≤ c → Words os → Words l → valH os + valH l * y + c < powW os.length → valH (rowL y os l c) = valH os + valH l * y + c
  | [], l, c, _, hc, _, hl, h => by
    have := Int.mul_nonneg (valH_bound l hl).1 hy
    have e : valH (rowL y [] l c) = 0 := by cases l <;> simp [rowL, valH]
    rw [e]
    simp only [valH, powW, List.length_nil] at h ⊢
    omega
  | o :: os, x :: l, c, hlm, hc, hw, hv, h => by
    have hs : 0 ≤ o + x * y + c := by have := hw.head.1; have := Int.mul_nonneg hv.head.1 hy; omega
    have e : valH (o :: os) + valH (x :: l) * y + c = loW (o + x * y + c) + W64 * (valH os + valH l * y + hiW (o + x * y + c)) := by
      have := split_W (o + x * y + c)
      simp only [valH]
      have e1 : (x + W64 * valH l) * y = x * y + W64 * (valH l * y) := by rw [Int.add_mul, Int.mul_assoc]
      rw [e1, Int.mul_add, Int.mul_add]
      omega
    rw [e] at h ⊢
    simp only [List.length_cons, powW] at h
    have := (lo_range (o + x * y + c)).1
    have h2 : valH os + valH l * y + hiW (o + x * y + c) < powW os.length := le_of_W (by omega)
    rw [rowL, valH, rowL_val hy os l _ (by simpa using hlm) (hi_nonneg hs) hw.tail hv.tail h2]
  | _ :: _, [], _, h, _, _, _, _ => by simp at h
/-- the rows of a product, one behind the other, each one word further -/
def mulL (l : List Int) : List Int → List Int → List Int
  | [], out => out
  | y :: m, out => match rowL y out l 0 with
    | [] => []
    | o :: os => o :: mulL l m os
theorem mulL_words (l : List Int) : ∀ m out, Words out → Words (mulL l m out)
  | [], out, h => h
  | y :: m, out, h => by
    have h1 := rowL_words y out l 0 h
    unfold mulL
    cases hr : rowL y out l 0 with
    | nil => simp [Words]
    | cons o os =>
      rw [hr] at h1
      exact words_cons h1.head (mulL_words l m os h1.tail)
theorem mulL_len (l : List Int) : ∀ m out, (mulL l m out).length = out.length
  | [], out => rfl
  | y :: m, out => by
    have h1 := rowL_len y out l 0
    unfold mulL
    cases hr : rowL y out l 0 with
    | nil => rw [hr] at h1; simpa using h1
    | cons o os =>
      rw [hr] at h1
      simp only [List.length_cons, mulL_len l m os]
      simpa using h1
theorem mulL_val {l : List Int} (hl : Words l) : ∀ m out, out.length = m.length → m.length ≤ l.length → Words m → Words out → valH out + valH l * valH m < powW out.length → valH (mulL l m out) = valH out + valH l * valH m
  | [], out, h0, _, _, _, h => by
    obtain rfl : out = [] := List.eq_nil_of_length_eq_zero (by simpa using h0)
    simp [mulL, valH]
  | y :: m, out, h0, h1, hm, ho, h => by
    have hy := hm.head.1
    have a0 := (valH_bound l hl).1
    have a1 := (valH_bound m hm.tail).1
    have e : valH l * valH (y :: m) = valH l * y + W64 * (valH l * valH m) := by
      simp only [valH]
      rw [Int.mul_add, ← Int.mul_assoc, ← Int.mul_assoc, Int.mul_comm W64]
    have a2 : 0 ≤ valH l * valH m := Int.mul_nonneg a0 a1
    have a3 : 0 ≤ W64 * (valH l * valH m) := Int.mul_nonneg (Int.le_of_lt w64_pos) a2
    have hr := rowL_val hy out l 0 (by rw [h0]; exact h1) (Int.le_refl _) ho hl (by rw [e] at h; omega)
    have hrl := rowL_len y out l 0
    have hrw := rowL_words y out l 0 ho
    unfold mulL
    cases hc : rowL y out l 0 with
    | nil => rw [hc, h0] at hrl; simp at hrl
    | cons o os =>
      rw [hc] at hr hrl hrw
      rw [e]
      simp only [valH, Int.add_zero] at hr ⊢
      have hol : os.length = m.length := by simp at hrl h0; omega
      have hb : valH os + valH l * valH m < powW os.length := by
        rw [e] at h
        have e2 : powW out.length = W64 * powW os.length := by rw [← hrl]; rfl
        rw [e2] at h
        refine le_of_W ?_
        rw [Int.mul_add]
        have := hrw.head.1
        omega
      rw [mulL_val hl m os hol (by simp at h1; omega) hm.tail hrw.tail hb, Int.mul_add]
      omega
end Go.Proofs.Ytopmdeefcjdadaa
