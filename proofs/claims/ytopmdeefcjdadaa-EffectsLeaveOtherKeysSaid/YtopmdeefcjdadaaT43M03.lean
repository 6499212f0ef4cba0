/- Contracts of the small functions of package word and level: Floor, Round, First, When, levels. No conditions but those that each theorem states. Contracts of level's numbers of 128 bits: of, times, plus, less. The reference's Within and IsLevel (cut out of XRMix, for seats without fractions). Contracts of level.levels, word.First and word.When. levels and First take a slice: a row of cells in memory. Tests of bounds as one Bool, of both sides; When. (cut out of XEfWords) Names: word.Row, word.Name and IsWord, IsName of the reference. Arguments of struct types, opened to cells: for any program. The faults of ranges, parameters, profiles, libraries, units, rigs as plain functions. No walk in it. -/
import Derived.Test.YtopmdeefcjdadaaProg
import Derived.Test.YtopmdeefcjdadaaT43M02
import Derived.WalkKit
import Derived.WalkSpells
import Derived.WalkLawsBesides
import Derived.Lib.Hide
import Derived.Test.YtopmdeefcjdadaaShelf
import Derived.Shelf.Spec.BitsCarry
import Derived.Deep.RegionHeld3
import Derived.ProofKit
import Derived.OpenShut
import Derived.Deep.Slices
import Derived.Deep.Fields
import Derived.Test.YtopmdeefcjdadaaT43M01

namespace Go.Proofs.Ytopmdeefcjdadaa
open Go.RowKit

/-- Go's Floor for a divisor above 0 is the quotient rounded down. -/
theorem tdiv_floor (n d : Int) (hd : 0 < d) : (if n.tmod d < 0 then n.tdiv d - 1 else n.tdiv d) = n / d := by
  have h1 := @Int.tmod_eq_emod n d
  have h2 := @Int.tdiv_eq_ediv n d
  have h3 := Int.emod_nonneg n (b := d) (by omega)
  have h4 := Int.emod_lt_of_pos n hd
  have h5 : d.sign = 1 := Int.sign_eq_one_of_pos hd
  by_cases hn : 0 ≤ n ∨ d ∣ n
  · rw [if_pos hn] at h1 h2
    rw [if_neg (by omega)]; omega
  · rw [if_neg hn] at h1 h2
    rw [h5] at h2
    have h6 : ((d.natAbs : Nat) : Int) = d := by omega
    rw [h6] at h1
    rw [if_pos (by omega)]; omega

theorem ediv_bounds (n d B : Int) (hd : 0 < d) (hB : 0 ≤ B) (h1 : -B ≤ n) (h2 : n ≤ B) : -B ≤ n / d ∧ n / d ≤ B := by
  refine ⟨?_, ?_⟩
  · rw [Int.le_ediv_iff_mul_le hd]
    have : B * 1 ≤ B * d := Int.mul_le_mul_of_nonneg_left (by omega) hB
    have e : -B * d = -(B * d) := by rw [Int.neg_mul]
    omega
  · refine Int.ediv_le_of_le_mul hd ?_
    have : B * 1 ≤ B * d := Int.mul_le_mul_of_nonneg_left (by omega) hB
    omega

set_option maxHeartbeats 400000 in
theorem floor_any (n d : Int) (w : World) (hd : 0 < d) (h1 : -9223372036854775807 ≤ n) (h2 : n ≤ 9223372036854775807) (h3 : d ≤ 9223372036854775807) :
    Calls Try.prog 101 #[.int .i64 n, .int .i64 d] w fun e w' => e = .returned (.int .i64 (n / d)) ∧ w = w' := by
  have hb := ediv_bounds n d 9223372036854775807 hd (by omega) (by omega) h2
  have hf := tdiv_floor n d hd
  by_cases hn : n.tmod d < 0
  · rw [if_pos hn] at hf
    have hw : wrap64 (n.tdiv d - 1) = n / d := by rw [hf]; exact IntWalk.wrap64_in _ ⟨by omega, by omega⟩
    have H := Lib.hid hw
    clear hw hf hb
    go_enter Try.func101, Try.ntmps101
    go_wp2
    go_ret
    exact ⟨by rw [H.out]; rfl, rfl⟩
  · rw [if_neg hn] at hf
    have H := Lib.hid hf
    clear hf hb
    go_enter Try.func101, Try.ntmps101
    go_wp2
    go_ret
    exact ⟨by rw [H.out]; rfl, rfl⟩

set_option maxHeartbeats 400000 in
theorem within_yes (n lo hi : Int) (w : World) (h : lo ≤ n ∧ n ≤ hi) :
    Calls Try.prog 30 #[.int .i64 n, .int .i64 lo, .int .i64 hi] w fun e w' => e = .returned (.bool true) ∧ w = w' := by
  obtain ⟨h1, h2⟩ := h
  have e2 : decide (n ≤ hi) = true := by simpa using h2
  go_enter Try.func30, Try.ntmps30
  go_wp2
  go_ret
  exact ⟨rfl, rfl⟩

set_option maxHeartbeats 400000 in
theorem within_no (n lo hi : Int) (w : World) (h : n < lo ∨ hi < n) :
    Calls Try.prog 30 #[.int .i64 n, .int .i64 lo, .int .i64 hi] w fun e w' => e = .returned (.bool false) ∧ w = w' := by
  by_cases h1 : lo ≤ n
  · have e2 : decide (n ≤ hi) = false := by simp; omega
    have h2 : hi < n := by omega
    clear h
    go_enter Try.func30, Try.ntmps30
    go_wp2
    go_ret
    exact ⟨rfl, rfl⟩
  · have h2 : n < lo := by omega
    clear h
    go_enter Try.func30, Try.ntmps30
    go_wp2
    go_ret
    exact ⟨rfl, rfl⟩

end Go.Proofs.Ytopmdeefcjdadaa

namespace Go.Proofs.Ytopmdeefcjdadaa
open Go.RowKit

/-- the two words of a number -/
def hiW (x : Int) : Int := x / 18446744073709551616
def loW (x : Int) : Int := x % 18446744073709551616
def FitW (x : Int) : Prop := 0 ≤ x ∧ x < 340282366920938463463374607431768211456
def OneW (x : Int) : Prop := 0 ≤ x ∧ x < 18446744073709551616

theorem one_lo (x : Int) : OneW (loW x) := by unfold OneW loW; omega
theorem one_hi (x : Int) (h : FitW x) : OneW (hiW x) := by unfold OneW hiW; unfold FitW at h; omega
theorem hi_small (x : Int) (h : OneW x) : hiW x = 0 := by unfold hiW; unfold OneW at h; omega
theorem lo_small (x : Int) (h : OneW x) : loW x = x := by unfold loW; unfold OneW at h; omega

theorem mul64 (x y : Int) (hx : OneW x) (hy : OneW y) (w : World) :
    Calls Try.prog 76 #[.int .u64 x, .int .u64 y] w fun e w' => e = .returned (.tuple #[.int .u64 (hiW (x * y)), .int .u64 (loW (x * y))]) ∧ w = w' := by
  obtain ⟨hx0, hx1⟩ := hx
  obtain ⟨hy0, hy1⟩ := hy
  obtain ⟨a, rfl⟩ := Int.eq_ofNat_of_zero_le hx0
  obtain ⟨b, rfl⟩ := Int.eq_ofNat_of_zero_le hy0
  refine (Try.bits_Mul64 a b (by omega) (by omega) w).mono ?_
  rintro e w' ⟨rfl, rfl⟩
  refine ⟨?_, rfl⟩
  unfold hiW loW
  congr 5 <;> simp

theorem add64 (x y c : Int) (hx : OneW x) (hy : OneW y) (hc0 : 0 ≤ c) (hc1 : c ≤ 1) (w : World) :
    (callFunc 77 #[.int .u64 x, .int .u64 y, .int .u64 c]).run Try.prog w = .ok (.value (.tuple #[.int .u64 (loW (x + y + c)), .int .u64 (hiW (x + y + c))])) w := by
  obtain ⟨hx0, hx1⟩ := hx
  obtain ⟨hy0, hy1⟩ := hy
  obtain ⟨a, rfl⟩ := Int.eq_ofNat_of_zero_le hx0
  obtain ⟨b, rfl⟩ := Int.eq_ofNat_of_zero_le hy0
  obtain ⟨d, rfl⟩ := Int.eq_ofNat_of_zero_le hc0
  rw [run_callFunc_extern Try.func77 (by kernel_rfl) (by kernel_rfl) (by kernel_rfl) (e := add64Entry) (by kernel_rfl), run_add64 a b d (by omega) (by omega) (by omega) (by omega)]
  simp only [Result.andThen]
  unfold hiW loW
  congr 5 <;> omega

theorem add64_0 (x y : Int) (hx : OneW x) (hy : OneW y) (w : World) :
    (callFunc 77 #[.int .u64 x, .int .u64 y, .int .u64 0]).run Try.prog w = .ok (.value (.tuple #[.int .u64 (loW (x + y)), .int .u64 (hiW (x + y))])) w := by
  simpa using add64 x y 0 hx hy (Int.le_refl 0) (by decide) w

theorem times_hi (x n : Int) (hx : FitW x) (hn : 0 ≤ n) (h : FitW (x * n)) : IntKind.u64.wrap (IntKind.u64.wrap (hiW x * n) + hiW (loW x * n)) = hiW (x * n) := by
  have e : x = hiW x * 18446744073709551616 + loW x := by unfold hiW loW; omega
  have e2 : x * n = (hiW x * n) * 18446744073709551616 + loW x * n := by
    have : x * n = (hiW x * 18446744073709551616 + loW x) * n := by rw [← e]
    rw [this]; grind
  unfold FitW at h
  rw [e2] at h ⊢
  have : 0 ≤ hiW x * n := Int.mul_nonneg (one_hi x hx).1 hn
  have : 0 ≤ loW x * n := Int.mul_nonneg (one_lo x).1 hn
  generalize hiW x * n = a at *
  generalize loW x * n = b at *
  simp only [IntKind.wrap_u64]
  unfold hiW
  omega
theorem times_lo (x n : Int) : loW (loW x * n) = loW (x * n) := by
  unfold loW
  rw [Int.mul_emod (x % 18446744073709551616) n, Int.emod_emod_of_dvd _ (Int.dvd_refl _), ← Int.mul_emod]

theorem plus_hi (x y : Int) (_hx : FitW x) (_hy : FitW y) (h : FitW (x + y)) : loW (hiW x + hiW y + hiW (loW x + loW y)) = hiW (x + y) := by
  unfold FitW at *
  unfold hiW loW
  omega
theorem plus_lo (x y : Int) : loW (loW x + loW y) = loW (x + y) := by unfold loW; omega
theorem carry (x y : Int) : 0 ≤ hiW (loW x + loW y) ∧ hiW (loW x + loW y) ≤ 1 := by unfold hiW loW; omega

theorem less_iff (x y : Int) : x < y ↔ hiW x < hiW y ∨ (hiW x = hiW y ∧ loW x < loW y) := by
  unfold hiW loW; omega

theorem below1 {w : World} {o : Obj} : Below w.heap.size w (w.alloc o) := (Below.refl _ _).alloc (Nat.le_refl _) _
theorem bt {a b c : World} (h : Below a.heap.size a b) (k : Below b.heap.size b c) : Below a.heap.size a c := h.trans (k.mono h.size)
theorem below2 {w : World} {o p : Obj} : Below w.heap.size w ((w.alloc o).alloc p) := bt below1 below1
theorem below3 {w : World} {o p q : Obj} : Below w.heap.size w (((w.alloc o).alloc p).alloc q) := bt below2 below1
end Go.Proofs.Ytopmdeefcjdadaa

namespace Go.Proofs.Ytopmdeefcjdadaa
open Go.RowKit
set_option linter.unusedVariables false
set_option linter.unusedSimpArgs false

theorem below_drewR {B n : Nat} {a w : World} (h : Below B a w) : Below B a (w.drewN n) := ⟨h.os, h.tape, h.output, h.size, h.block⟩

set_option maxHeartbeats 400000 in
theorem r1within_yes (n lo hi : Int) (w : World) (h : lo ≤ n ∧ n ≤ hi) :
    Calls Try.prog 38 #[.int .i64 n, .int .i64 lo, .int .i64 hi] w fun e w' => e = .returned (.bool true) ∧ w = w' := by
  obtain ⟨h1, h2⟩ := h
  have e2 : decide (n ≤ hi) = true := by simpa using h2
  go_enter Try.func38, Try.ntmps38
  go_wp2
  go_ret
  exact ⟨rfl, rfl⟩
set_option maxHeartbeats 400000 in
theorem r1within_no (n lo hi : Int) (w : World) (h : n < lo ∨ hi < n) :
    Calls Try.prog 38 #[.int .i64 n, .int .i64 lo, .int .i64 hi] w fun e w' => e = .returned (.bool false) ∧ w = w' := by
  by_cases h1 : lo ≤ n
  · have e2 : decide (n ≤ hi) = false := by simp; omega
    have h2 : hi < n := by omega
    clear h
    go_enter Try.func38, Try.ntmps38
    go_wp2
    go_ret
    exact ⟨rfl, rfl⟩
  · have h2 : n < lo := by omega
    clear h
    go_enter Try.func38, Try.ntmps38
    go_wp2
    go_ret
    exact ⟨rfl, rfl⟩
set_option maxHeartbeats 400000 in
theorem rIsLevel_yes (n : Int) (w : World) (h : 0 ≤ n ∧ n ≤ 65535) :
    Calls Try.prog 78 #[.int .i64 n] w fun e w' => e = .returned (.bool true) ∧ w = w' := by
  go_enter Try.func78, Try.ntmps78
  go_wp2_with (go_at_call 38; refine (r1within_yes _ _ _ _ h).mono ?_; rintro e w' ⟨rfl, rfl⟩)
  go_ret
  exact ⟨rfl, rfl⟩
set_option maxHeartbeats 400000 in
theorem rIsLevel_no (n : Int) (w : World) (h : n < 0 ∨ 65535 < n) :
    Calls Try.prog 78 #[.int .i64 n] w fun e w' => e = .returned (.bool false) ∧ w = w' := by
  go_enter Try.func78, Try.ntmps78
  go_wp2_with (go_at_call 38; refine (r1within_no _ _ _ _ h).mono ?_; rintro e w' ⟨rfl, rfl⟩)
  go_ret
  exact ⟨rfl, rfl⟩
end Go.Proofs.Ytopmdeefcjdadaa

namespace Go.Proofs.Ytopmdeefcjdadaa
open Go.RowKit

/-- the cells of a row of numbers -/
def RowAt (k : IntKind) (w : World) (b off : Nat) (zs : List Int) : Prop := ∀ i (h : i < zs.length), w.cell? ⟨b, off + i, none⟩ = some (.int k zs[i])
def Levels (zs : List Int) : Prop := ∀ i (h : i < zs.length), 0 ≤ zs[i] ∧ zs[i] ≤ 65535

/-- either all are levels, or there is a first one that is none -/
theorem levels_cases (zs : List Int) : Levels zs ∨ ∃ j, ∃ h : j < zs.length, (∀ i (h : i < zs.length), i < j → 0 ≤ zs[i] ∧ zs[i] ≤ 65535) ∧ (zs[j] < 0 ∨ 65535 < zs[j]) := by
  induction zs with
  | nil => left; intro i h; simp at h
  | cons z zs ih =>
    by_cases hz : 0 ≤ z ∧ z ≤ 65535
    · rcases ih with ih | ⟨j, hj, h1, h2⟩
      · left
        intro i h
        match i with
        | 0 => simpa using hz
        | i + 1 => simpa using ih i (by simpa using h)
      · right
        refine ⟨j + 1, by simpa using hj, ?_, by simpa using h2⟩
        intro i h hij
        match i with
        | 0 => simpa using hz
        | i + 1 => simpa using h1 i (by simpa using h) (by omega)
    · right
      exact ⟨0, by simp, fun i h hi => by omega, by simp; omega⟩

/-- First: the first fault that is not 0. -/
def firstF : List Int → Int
  | [] => 0
  | e :: l => if e = 0 then firstF l else e

theorem firstF_drop (l : List Int) (k : Nat) (h : k < l.length) : firstF (l.drop k) = if l[k] = 0 then firstF (l.drop (k + 1)) else l[k] := by
  rw [List.drop_eq_getElem_cons h]; rfl

set_option maxHeartbeats 400000 in
theorem first_any (b off cap : Nat) (zs : List Int) (w : World) (hm : zs.length ≤ 9223372036854775807)
    (hc : RowAt .i64 w b off zs) :
    Calls Try.prog 26 #[.slice (some ⟨b, off, none⟩) zs.length cap] w fun e w' => e = .returned (.int .i64 (firstF zs)) ∧ w = w' := by
  go_enter Try.func26, Try.ntmps26
  go_wp2
  go_loop [7] (fun i => ∃ k : Nat, k ≤ zs.length ∧ i = .int .i64 k ∧ firstF zs = firstF (zs.drop k)) (fun i => zs.length - (intOf i).toNat)
  case atStart => exact ⟨0, Nat.zero_le _, rfl, rfl⟩
  case round =>
    obtain ⟨k, hk, rfl, he⟩ := hrel
    have HE := Lib.hid he
    clear he
    by_cases hlt : k < zs.length
    · have hcell := hc k hlt
      have HD := Lib.hid (firstF_drop zs k hlt)
      by_cases h0 : (zs[k] != 0) = true
      · go_wp2
        go_ret
        exact ⟨by rw [HE.out, HD.out, if_neg (by simpa using h0)]; rfl, rfl⟩
      · have h1 : (zs[k] != 0) = false := by simpa using h0
        clear h0
        go_wp2
        go_round
        case rel => exact ⟨k + 1, by omega, by go_num, by rw [HE.out, HD.out, if_pos (by simpa using h1)]⟩
        case measure => simp [intOf]; omega
    · have HD : Hid (firstF (zs.drop k) = 0) := by
        rw [List.drop_eq_nil_of_le (by omega)]; exact rfl
      go_wp2
      go_ret
      exact ⟨by rw [HE.out, HD.out]; rfl, rfl⟩

set_option maxHeartbeats 400000 in
theorem when_yes (f : Int) (w : World) : Calls Try.prog 28 #[.bool true, .int .i64 f] w fun e w' => e = .returned (.int .i64 f) ∧ w = w' := by
  go_enter Try.func28, Try.ntmps28
  go_wp2
  go_ret
  exact ⟨rfl, rfl⟩
set_option maxHeartbeats 400000 in
theorem when_no (f : Int) (w : World) : Calls Try.prog 28 #[.bool false, .int .i64 f] w fun e w' => e = .returned (.int .i64 0) ∧ w = w' := by
  go_enter Try.func28, Try.ntmps28
  go_wp2
  go_ret
  exact ⟨rfl, rfl⟩
end Go.Proofs.Ytopmdeefcjdadaa

namespace Go.Proofs.Ytopmdeefcjdadaa
open Go.RowKit
set_option linter.unusedVariables false
set_option linter.unusedSimpArgs false

def inR (n lo hi : Int) : Bool := decide (lo ≤ n ∧ n ≤ hi)
def whenW (b : Bool) (f : Int) : Int := if b then f else 0
theorem within_R (n lo hi : Int) (w : World) : Calls Try.prog 30 #[.int .i64 n, .int .i64 lo, .int .i64 hi] w fun e w' => e = .returned (.bool (inR n lo hi)) ∧ w = w' := by
  by_cases h : lo ≤ n ∧ n ≤ hi
  · have : inR n lo hi = true := decide_eq_true h
    rw [this]; exact within_yes n lo hi w h
  · have : inR n lo hi = false := decide_eq_false h
    rw [this]; exact within_no n lo hi w (by omega)
theorem when_R (b : Bool) (f : Int) (w : World) : Calls Try.prog 28 #[.bool b, .int .i64 f] w fun e w' => e = .returned (.int .i64 (whenW b f)) ∧ w = w' := by
  cases b
  · exact when_no f w
  · exact when_yes f w
theorem rwithin_R (n lo hi : Int) (w : World) : Calls Try.prog 38 #[.int .i64 n, .int .i64 lo, .int .i64 hi] w fun e w' => e = .returned (.bool (inR n lo hi)) ∧ w = w' := by
  by_cases h : lo ≤ n ∧ n ≤ hi
  · have : inR n lo hi = true := decide_eq_true h
    rw [this]; exact r1within_yes n lo hi w h
  · have : inR n lo hi = false := decide_eq_false h
    rw [this]; exact r1within_no n lo hi w (by omega)
set_option maxHeartbeats 400000 in
theorem rLevel_R (n : Int) (w : World) : Calls Try.prog 78 #[.int .i64 n] w fun e w' => e = .returned (.bool (inR n 0 65535)) ∧ w = w' := by
  go_enter Try.func78, Try.ntmps78
  go_wp2_with (go_at_call 38; refine (rwithin_R _ _ _ _).mono ?_; rintro e w' ⟨rfl, rfl⟩)
  go_ret
  exact ⟨rfl, rfl⟩
end Go.Proofs.Ytopmdeefcjdadaa

namespace Go.Proofs.Ytopmdeefcjdadaa
open Go.RowKit
set_option linter.unusedVariables false
set_option linter.unusedSimpArgs false

/-- a byte of a name -/
def okC (x : Nat) : Bool := decide (97 ≤ x ∧ x ≤ 122) || decide (48 ≤ x ∧ x ≤ 57) || decide (x = 45)
def rowB (l : List UInt8) : Bool := l.all (fun c => okC c.toNat) && !l.isEmpty
def nameB (l : List UInt8) : Bool := rowB l && decide (l.length ≤ 20) && decide (97 ≤ (l.getD 0 0).toNat) && decide ((l.getD 0 0).toNat ≤ 122)

theorem okC_cases (x : Nat) (hx : x < 256) : (okC x = true ∧ ((97 ≤ x ∧ x ≤ 122) ∨ (48 ≤ x ∧ x ≤ 57) ∨ x = 45)) ∨ (okC x = false ∧ (122 < x ∨ (57 < x ∧ x < 97) ∨ (45 < x ∧ x < 48) ∨ x < 45)) := by
  unfold okC
  by_cases h1 : 97 ≤ x ∧ x ≤ 122
  · exact .inl ⟨by simp [h1], .inl h1⟩
  · by_cases h2 : 48 ≤ x ∧ x ≤ 57
    · exact .inl ⟨by simp [h2], .inr (.inl h2)⟩
    · by_cases h3 : x = 45
      · exact .inl ⟨by simp [h3], .inr (.inr h3)⟩
      · exact .inr ⟨by simp [h1, h2, h3], by omega⟩

theorem all_take (s : List UInt8) (k : Nat) (h : k < s.length) : (s.take (k + 1)).all (fun c => okC c.toNat) = ((s.take k).all (fun c => okC c.toNat) && okC s[k].toNat) := by
  rw [List.take_succ_eq_append_getElem h, List.all_append]; simp
theorem all_of_bad (s : List UInt8) (k : Nat) (h : k < s.length) (hb : okC s[k].toNat = false) : s.all (fun c => okC c.toNat) = false := by
  rw [List.all_eq_false]
  exact ⟨s[k], List.getElem_mem h, by simp [hb]⟩

set_option maxHeartbeats 2000000 in
theorem row_any (s : ByteArray) (w : World) (hs : s.size ≤ maxLen) :
    Calls Try.prog 131 #[.string s] w fun e w' => e = .returned (.bool (rowB s.data.toList)) ∧ w = w' := by
  unfold maxLen at hs
  go_enter Try.func131, Try.ntmps131
  go_wp2
  go_loop [7] (fun i => ∃ k : Nat, k ≤ s.size ∧ i = .int .i64 k ∧ Hid ((s.data.toList.take k).all (fun c => okC c.toNat) = true)) (fun i => s.size - (intOf i).toNat)
  case atStart => exact ⟨0, Nat.zero_le _, rfl, Lib.hid (by simp)⟩
  case round =>
    obtain ⟨k, hk, rfl, hA⟩ := hrel
    by_cases hlt : k < s.size
    · have hkl : k < s.data.toList.length := by simpa using hlt
      have hT := Lib.hid (all_take s.data.toList k hkl)
      have hBad := all_of_bad s.data.toList k hkl
      have hb : s[k].toNat < 256 := s[k].toNat_lt
      have he : s.data.toList[k] = s[k] := rfl
      rw [he] at hT hBad
      have hcs := okC_cases s[k].toNat hb
      have HBad := Lib.hid hBad
      clear hBad he
      rcases hcs with ⟨h1, h2⟩ | ⟨h1, h2⟩
      · have HO := Lib.hid h1
        clear h1
        rcases h2 with h2 | h2 | h2
        · have d : ((s[k].toNat : Int) == 45) = false := by rw [beq_eq_false_iff_ne]; omega
          obtain ⟨h3, h4⟩ := h2
          go_wp2
          go_round
          case rel => exact ⟨k + 1, by omega, by go_num, Lib.hid (by rw [hT.out, hA.out, HO.out]; rfl)⟩
          case measure => simp [intOf]; omega
        · have d : ((s[k].toNat : Int) == 45) = false := by rw [beq_eq_false_iff_ne]; omega
          obtain ⟨h3, h4⟩ := h2
          go_wp2
          go_round
          case rel => exact ⟨k + 1, by omega, by go_num, Lib.hid (by rw [hT.out, hA.out, HO.out]; rfl)⟩
          case measure => simp [intOf]; omega
        · have d : ((s[k].toNat : Int) == 45) = true := by rw [beq_iff_eq]; omega
          have h3 : s[k].toNat ≤ 45 := by omega
          clear h2
          go_wp2
          go_round
          case rel => exact ⟨k + 1, by omega, by go_num, Lib.hid (by rw [hT.out, hA.out, HO.out]; rfl)⟩
          case measure => simp [intOf]; omega
      · have HO := Lib.hid (show rowB s.data.toList = false by unfold rowB; rw [HBad.out h1]; rfl)
        clear h1 HBad
        have d : ((s[k].toNat : Int) == 45) = false := by rw [beq_eq_false_iff_ne]; omega
        rcases h2 with h2 | h2 | h2 | h2
        · have d2 : decide ((s[k].toNat : Int) ≤ 122) = false := by simp; omega
          have d3 : decide ((s[k].toNat : Int) ≤ 57) = false := by simp; omega
          go_wp2
          go_ret
          exact ⟨by rw [HO.out]; rfl, rfl⟩
        · obtain ⟨h3, h4⟩ := h2
          have d3 : decide ((s[k].toNat : Int) ≤ 57) = false := by simp; omega
          go_wp2
          go_ret
          exact ⟨by rw [HO.out]; rfl, rfl⟩
        · obtain ⟨h3, h4⟩ := h2
          go_wp2
          go_ret
          exact ⟨by rw [HO.out]; rfl, rfl⟩
        · go_wp2
          go_ret
          exact ⟨by rw [HO.out]; rfl, rfl⟩
    · have hkk : k = s.size := by omega
      have HR := Lib.hid (show rowB s.data.toList = !s.data.toList.isEmpty by
        have h2 := hA.out
        rw [List.take_of_length_le (by simp; omega)] at h2
        unfold rowB; rw [h2]; rfl)
      clear hkk
      go_wp2
      go_ret
      exact ⟨by rw [HR.out, ← ByteArray.toList_eq]; rfl, rfl⟩
set_option maxHeartbeats 1000000 in
theorem name_any (s : ByteArray) (w : World) (hs : s.size ≤ maxLen) :
    Calls Try.prog 127 #[.string s] w fun e w' => e = .returned (.bool (nameB s.data.toList)) ∧ w = w' := by
  have RW := Lib.hid (row_any s w hs)
  have hz : s.data.toList.length = s.size := by simp
  unfold maxLen at hs
  by_cases hr : rowB s.data.toList = true
  · rw [hr] at RW
    have hne : s.data.toList ≠ [] := by
      intro h; rw [h] at hr; simp [rowB] at hr
    have h0 : 0 < s.size := by have := List.length_pos_iff.2 hne; omega
    have he : (s.data.toList.getD 0 0) = s[0] := by
      rw [List.getD_eq_getElem?_getD, List.getElem?_eq_getElem (by omega)]; rfl
    have HN := Lib.hid (show nameB s.data.toList = (decide (s.size ≤ 20) && decide (97 ≤ s[0].toNat) && decide (s[0].toNat ≤ 122)) by unfold nameB; rw [hr, he, hz]; rfl)
    clear hr hne he hz
    have hb : s[0].toNat < 256 := s[0].toNat_lt
    generalize hx : s[0].toNat = x at *
    by_cases h20 : s.size ≤ 20
    · by_cases h97 : 97 ≤ x
      · have d1 : decide ((s.size : Int) ≤ 20) = true := by simp; omega
        have d2 : decide ((97 : Int) ≤ (x : Int)) = true := by simp; omega
        have HN2 := Lib.hid (show nameB s.data.toList = decide ((x : Int) ≤ 122) by
          rw [HN.out, decide_eq_true h20, decide_eq_true h97]
          simp
          omega)
        have HXX := Lib.hid hx
        go_enter Try.func127, Try.ntmps127
        go_wp2_with fail
        refine RW.out.mono ?_; rintro e w' ⟨rfl, rfl⟩
        go_wp2
        go_ret
        exact ⟨by rw [HN2.out]; rfl, rfl⟩
      · have d1 : decide ((s.size : Int) ≤ 20) = true := by simp; omega
        have d2 : decide ((97 : Int) ≤ (x : Int)) = false := by simp; omega
        have HN2 := Lib.hid (show nameB s.data.toList = false by rw [HN.out, decide_eq_false h97]; simp)
        clear h97
        go_enter Try.func127, Try.ntmps127
        go_wp2_with fail
        refine RW.out.mono ?_; rintro e w' ⟨rfl, rfl⟩
        go_wp2
        go_ret
        exact ⟨by rw [HN2.out]; rfl, rfl⟩
    · have d1 : decide ((s.size : Int) ≤ 20) = false := by simp; omega
      have HN2 := Lib.hid (show nameB s.data.toList = false by rw [HN.out, decide_eq_false h20]; simp)
      clear h20
      go_enter Try.func127, Try.ntmps127
      go_wp2_with fail
      refine RW.out.mono ?_; rintro e w' ⟨rfl, rfl⟩
      go_wp2
      go_ret
      exact ⟨by rw [HN2.out]; rfl, rfl⟩
  · have hr' : rowB s.data.toList = false := by simpa using hr
    rw [hr'] at RW
    have HN := Lib.hid (show nameB s.data.toList = false by unfold nameB; rw [hr']; rfl)
    clear hr hr'
    go_enter Try.func127, Try.ntmps127
    go_wp2_with fail
    refine RW.out.mono ?_; rintro e w' ⟨rfl, rfl⟩
    go_wp2
    go_ret
    exact ⟨by rw [HN.out]; rfl, rfl⟩

end Go.Proofs.Ytopmdeefcjdadaa

namespace Go.Proofs.Ytopmdeefcjdadaa
open Go.ChangeShapes Go.WideShapes Go.RowKit Go.Deep

section
variable {H : Type} {enc : TypeId × Value → H} {P : Program} {w : World} {base : Nat} {spare : Nat → Bool} {held : Bool}

/-- a struct that came in by value: its cells, and each field's own reading -/
theorem open_struct {r : Reach} {b0 : Nat} {t : TypeId} {fs : Array Field} {v : Value} {d : DataW H} {p : List MemPlace} (hs : P.underlying t = some (.struct fs))
    (hv : Value.okWide P w r b0 t v) (h : DataW.Trod enc P w base spare held t v d p) :
    ∃ (cs : List Value) (n : Nat), v = .agg cs.toArray ∧ cs.length = P.cellsOf t ∧ ∀ (i : Nat) (f : Field), fs[i]? = some f → ∃ y, DataW.trod enc P w base spare held n f.type ((cs.drop f.offset).take (P.cellsOf f.type)) = some y := by
  obtain ⟨cs, rfl, hsz⟩ := okWide_struct hs hv
  obtain ⟨fuel, hf⟩ := h
  obtain ⟨xs, n, _, _, hlen, hl, hg⟩ := DataW.trod_struct hs hf
  have hc : (Value.agg cs).cells = cs := by simp [Value.cells]
  rw [hc] at hg
  refine ⟨cs.toList, n, by simp, by simpa using hsz, fun i f hf => ?_⟩
  have hi : i < xs.length := by rw [hl]; exact (Array.getElem?_eq_some_iff.1 hf).1
  exact ⟨xs[i], by rw [hg i f hf, List.getElem?_eq_getElem hi]⟩

theorem take1_drop {α : Type} (l : List α) (i : Nat) (h : i < l.length) : (l.drop i).take 1 = [l[i]] := by
  rw [List.drop_eq_getElem_cons h]; rfl

/-- .. where each field is one cell -/
theorem open_struct1 {r : Reach} {b0 : Nat} {t : TypeId} {fs : Array Field} {v : Value} {d : DataW H} {p : List MemPlace} (hs : P.underlying t = some (.struct fs)) (hone : oneCellFields P fs = true) (hC : P.cellsOf t = fs.size)
    (hv : Value.okWide P w r b0 t v) (h : DataW.Trod enc P w base spare held t v d p) :
    ∃ (cs : List Value) (n : Nat), v = .agg cs.toArray ∧ cs.length = fs.size ∧ ∀ (i : Nat) (f : Field), fs[i]? = some f → ∃ u y, cs[i]? = some u ∧ DataW.trod enc P w base spare held n f.type [u] = some y := by
  obtain ⟨cs, n, hv, hl, hf⟩ := open_struct hs hv h
  refine ⟨cs, n, hv, hl.trans hC, fun i f hif => ?_⟩
  obtain ⟨o, c⟩ := hone_of hone i f hif
  obtain ⟨y, hy⟩ := hf i f hif
  have hi : i < cs.length := by rw [hl, hC]; exact (Array.getElem?_eq_some_iff.1 hif).1
  rw [o, c, take1_drop cs i hi] at hy
  exact ⟨_, y, List.getElem?_eq_getElem hi, hy⟩

/-- a struct among cells: each field's own reading -/
theorem open_fields {t : TypeId} {fs : Array Field} {fuel : Nat} {cs : List Value} {x : DataW H × List MemPlace} (hs : P.underlying t = some (.struct fs)) (h : DataW.trod enc P w base spare held fuel t cs = some x) :
    cs.length = P.cellsOf t ∧ ∃ n : Nat, ∀ (i : Nat) (f : Field), fs[i]? = some f → ∃ y, DataW.trod enc P w base spare held n f.type ((cs.drop f.offset).take (P.cellsOf f.type)) = some y := by
  obtain ⟨xs, n, _, _, hlen, hl, hg⟩ := DataW.trod_struct hs h
  refine ⟨hlen, n, fun i f hf => ?_⟩
  have hi : i < xs.length := by rw [hl]; exact (Array.getElem?_eq_some_iff.1 hf).1
  exact ⟨xs[i], by rw [hg i f hf, List.getElem?_eq_getElem hi]⟩

theorem open_fields1 {t : TypeId} {fs : Array Field} {fuel : Nat} {cs : List Value} {x : DataW H × List MemPlace} (hs : P.underlying t = some (.struct fs)) (hone : oneCellFields P fs = true) (hC : P.cellsOf t = fs.size)
    (h : DataW.trod enc P w base spare held fuel t cs = some x) :
    cs.length = fs.size ∧ ∃ n : Nat, ∀ (i : Nat) (f : Field), fs[i]? = some f → ∃ u y, cs[i]? = some u ∧ DataW.trod enc P w base spare held n f.type [u] = some y := by
  obtain ⟨hl, n, hf⟩ := open_fields hs h
  refine ⟨hl.trans hC, n, fun i f hif => ?_⟩
  obtain ⟨o, c⟩ := hone_of hone i f hif
  obtain ⟨y, hy⟩ := hf i f hif
  have hi : i < cs.length := by rw [hl, hC]; exact (Array.getElem?_eq_some_iff.1 hif).1
  rw [o, c, take1_drop cs i hi] at hy
  exact ⟨_, y, List.getElem?_eq_getElem hi, hy⟩

theorem field_int {fuel : Nat} {t : TypeId} {k : IntKind} {u : Value} {y : DataW H × List MemPlace} (ht : P.underlying t = some (.int k)) (h : DataW.trod enc P w base spare held fuel t [u] = some y) : ∃ a, u = .int k a ∧ (Lit.int k a).wf = true := by
  obtain ⟨a, e, _, hw⟩ := DataW.trod_int ht h
  simp at e
  exact ⟨a, e, hw⟩
end

theorem list2 {α : Type} {l : List α} (h : l.length = 2) : ∃ a b, l = [a, b] := by
  match l, h with
  | [a, b], _ => exact ⟨a, b, rfl⟩

/-- integers that fit -/
def I64 (a : Int) : Prop := -9223372036854775808 ≤ a ∧ a ≤ 9223372036854775807

theorem i64_of_wf {a : Int} (h : (Lit.int .i64 a).wf = true) : I64 a := by
  simp [Lit.wf, IntKind.min, IntKind.max, IntKind.signed, IntKind.bits] at h
  unfold I64; omega

theorem list3 {α : Type} {l : List α} (h : l.length = 3) : ∃ a b c, l = [a, b, c] := by
  match l, h with
  | [a, b, c], _ => exact ⟨a, b, c, rfl⟩
end Go.Proofs.Ytopmdeefcjdadaa

namespace Go.Proofs.Ytopmdeefcjdadaa
open Go.RowKit
set_option linter.unusedVariables false
set_option linter.unusedSimpArgs false

def Rng.nm (r : Rng) : List UInt8 := r.name.data.toList
def Par.nm (r : Par) : List UInt8 := r.name.data.toList
def Prf.nm (r : Prf) : List UInt8 := r.name.data.toList
def Unt.nm (r : Unt) : List UInt8 := r.prof.data.toList
/-- a range behind others -/
def rngBad (r : Rng) : Bool := !inR r.low 0 65535 || !inR r.high 0 65535 || decide (r.high < r.low)
def rngLow (pre : List Rng) (r : Rng) : Bool := pre.getLast?.any (fun q => decide (r.low ≤ q.high))
def rngF (pre : List Rng) (r : Rng) : Int :=
  if rngBad r then 1 else if rngLow pre r then 7 else if !nameB r.nm then 5 else if r.nm ∈ pre.map Rng.nm then 6 else 0
def chkRngs (l : List Rng) : Int := if 30 < l.length then 2 else scanF rngF l 0
/-- the slots of a parameter -/
def slotsP (p : Par) : List Int := if 0 < p.fine then [p.sl, p.fine] else [p.sl]
def usedS (pre : List Par) : List Int := pre.flatMap slotsP
def parBad (size : Int) (x : Par) : Bool := !inR x.sl 1 size || !inR x.fine 0 size || !inR x.dflt 0 65535
def parClash (pre : List Par) (x : Par) : Bool := decide (x.sl = x.fine) || decide (x.sl ∈ usedS pre) || (decide (0 < x.fine) && decide (x.fine ∈ usedS pre))
/-- a parameter behind others -/
def parF (size : Int) (pre : List Par) (x : Par) : Int :=
  if !nameB x.nm then 5 else if x.nm ∈ pre.map Par.nm then 6 else if !inR x.grp 1 4 then 4 else if parBad size x then 1 else if parClash pre x then 12 else chkRngs x.rngs
/-- the fault of a profile -/
def chkPrf (p : Prf) : Int :=
  if !nameB p.nm then 5 else if !inR p.size 1 512 then 1 else if p.pars.length = 0 then 8 else if 40 < p.pars.length then 2 else scanF (parF p.size) p.pars 0
def prfF (pre : List Prf) (p : Prf) : Int := if chkPrf p ≠ 0 then chkPrf p else if p.nm ∈ pre.map Prf.nm then 6 else 0
/-- the fault of a library -/
def chkLib (l : List Prf) : Int := if 60 < l.length then 2 else scanF prfF l 0
/-- the profile with a name -/
def profOf (lib : List Prf) (n : List UInt8) : Option Prf := lib.find? (fun p => decide (p.nm = n))
def sizeOf' (lib : List Prf) (u : Unt) : Int := ((profOf lib u.nm).map Prf.size).getD 0
def lastOf (lib : List Prf) (u : Unt) : Int := u.addr + sizeOf' lib u - 1
/-- two units at one place -/
def clashU (lib : List Prf) (u x : Unt) : Bool := decide (x.univ = u.univ) && decide (x.addr ≤ lastOf lib u) && decide (u.addr ≤ lastOf lib x)
def untBad (u : Unt) (size : Int) : Bool := !inR u.univ 1 64 || !inR u.addr 1 512 || decide (512 < u.addr + size - 1)
def untLow (pre : List Unt) (u : Unt) : Bool := pre.getLast?.any (fun q => decide (u.num ≤ q.num))
/-- a unit behind others -/
def untF (lib : List Prf) (pre : List Unt) (u : Unt) : Int :=
  if !inR u.num 1 9999 then 1 else if untLow pre u then 7 else if (profOf lib u.nm).isNone then 5 else if untBad u (sizeOf' lib u) then 1 else if pre.any (clashU lib u) then 12 else 0
/-- the fault of a rig -/
def chkRig (r : Rig) : Int := if chkLib r.lib ≠ 0 then chkLib r.lib else if 400 < r.units.length then 2 else scanF (untF r.lib) r.units 0

/-! ### what fits into memory -/
def RngFit (r : Rng) : Prop := I64 r.low ∧ I64 r.high ∧ r.name.size ≤ maxLen
def ParFit (p : Par) : Prop := I64 p.grp ∧ I64 p.sl ∧ I64 p.fine ∧ I64 p.dflt ∧ p.name.size ≤ maxLen ∧ ∀ r ∈ p.rngs, RngFit r
def PrfFit (p : Prf) : Prop := I64 p.size ∧ p.name.size ≤ maxLen ∧ ∀ x ∈ p.pars, ParFit x
def UntFit (u : Unt) : Prop := I64 u.num ∧ I64 u.univ ∧ I64 u.addr ∧ u.prof.size ≤ maxLen
def RigFit (r : Rig) : Prop := (∀ p ∈ r.lib, PrfFit p) ∧ ∀ u ∈ r.units, UntFit u

/-! ### what a right one has -/
theorem last_take {α : Type} (l : List α) (k : Nat) (h : k < l.length) (h0 : 0 < k) : (l.take k).getLast? = some (l[k - 1]'(by omega)) := by
  rw [List.getLast?_eq_getElem?, List.length_take, Nat.min_eq_left (by omega), List.getElem?_take_of_lt (by omega), List.getElem?_eq_getElem (by omega)]
theorem last_take0 {α : Type} (l : List α) : (l.take 0).getLast? = none := by simp
theorem inR_true {n lo hi : Int} (h : inR n lo hi = true) : lo ≤ n ∧ n ≤ hi := of_decide_eq_true h
theorem inR_false {n lo hi : Int} (h : inR n lo hi = false) : n < lo ∨ hi < n := by
  have := of_decide_eq_false h
  omega
theorem parBad_false {size : Int} {x : Par} (h : parBad size x = false) : (1 ≤ x.sl ∧ x.sl ≤ size) ∧ (0 ≤ x.fine ∧ x.fine ≤ size) ∧ 0 ≤ x.dflt ∧ x.dflt ≤ 65535 := by
  simp only [parBad, Bool.or_eq_false_iff, Bool.not_eq_false'] at h
  exact ⟨inR_true h.1.1, inR_true h.1.2, inR_true h.2⟩
theorem parF_zero {size : Int} {pre : List Par} {x : Par} (h : parF size pre x = 0) : nameB x.nm = true ∧ x.nm ∉ pre.map Par.nm ∧ (1 ≤ x.grp ∧ x.grp ≤ 4) ∧ parBad size x = false ∧ parClash pre x = false ∧ chkRngs x.rngs = 0 := by
  unfold parF at h
  cases h1 : nameB x.nm
  · simp [h1] at h
  by_cases h2 : x.nm ∈ pre.map Par.nm
  · rw [h1, if_pos h2] at h; simp at h
  cases h3 : inR x.grp 1 4
  · rw [h1, if_neg h2, h3] at h; simp at h
  cases h4 : parBad size x
  · cases h5 : parClash pre x
    · rw [h1, if_neg h2, h3, h4, h5] at h
      simp at h
      exact ⟨rfl, h2, inR_true h3, rfl, rfl, h⟩
    · rw [h1, if_neg h2, h3, h4, h5] at h; simp at h
  · rw [h1, if_neg h2, h3, h4] at h; simp at h
theorem chkPrf_zero {p : Prf} (h : chkPrf p = 0) : nameB p.nm = true ∧ (1 ≤ p.size ∧ p.size ≤ 512) ∧ 0 < p.pars.length ∧ p.pars.length ≤ 40 ∧ scanF (parF p.size) p.pars 0 = 0 := by
  unfold chkPrf at h
  cases h1 : nameB p.nm
  · simp [h1] at h
  cases h2 : inR p.size 1 512
  · simp [h1, h2] at h
  by_cases h3 : p.pars.length = 0
  · rw [h1, h2, if_pos h3] at h; simp at h
  by_cases h4 : 40 < p.pars.length
  · rw [h1, h2, if_neg h3, if_pos h4] at h; simp at h
  rw [h1, h2, if_neg h3, if_neg h4] at h
  simp at h
  exact ⟨rfl, inR_true h2, by omega, by omega, h⟩
theorem prfF_zero {pre : List Prf} {p : Prf} (h : prfF pre p = 0) : chkPrf p = 0 ∧ p.nm ∉ pre.map Prf.nm := by
  unfold prfF at h
  by_cases h1 : chkPrf p = 0
  · rw [if_neg (by simpa using h1)] at h
    by_cases h2 : p.nm ∈ pre.map Prf.nm
    · rw [if_pos h2] at h; simp at h
    · exact ⟨h1, h2⟩
  · rw [if_pos h1] at h; exact absurd h h1
theorem scanF_zero {α : Type} (f : List α → α → Int) (l : List α) (h : scanF f l 0 = 0) (k : Nat) (hk : k < l.length) : f (l.take k) l[k] = 0 := scan_zero f l (by rw [← scanF_start]; exact h) k hk
theorem chkLib_zero {l : List Prf} (h : chkLib l = 0) : l.length ≤ 60 ∧ scanF prfF l 0 = 0 := by
  unfold chkLib at h
  by_cases h1 : 60 < l.length
  · rw [if_pos h1] at h; simp at h
  · rw [if_neg h1] at h; exact ⟨by omega, h⟩
theorem chkLib_prf {l : List Prf} (h : chkLib l = 0) {p : Prf} (hp : p ∈ l) : chkPrf p = 0 := by
  obtain ⟨k, hk, rfl⟩ := List.getElem_of_mem hp
  exact (prfF_zero (scanF_zero _ _ (chkLib_zero h).2 k hk)).1
theorem chkRig_zero {r : Rig} (h : chkRig r = 0) : chkLib r.lib = 0 ∧ r.units.length ≤ 400 ∧ scanF (untF r.lib) r.units 0 = 0 := by
  unfold chkRig at h
  by_cases h1 : chkLib r.lib = 0
  · rw [if_neg (by simpa using h1)] at h
    by_cases h2 : 400 < r.units.length
    · rw [if_pos h2] at h; simp at h
    · rw [if_neg h2] at h; exact ⟨h1, by omega, h⟩
  · rw [if_pos h1] at h; exact absurd h h1
theorem profOf_some {lib : List Prf} {n : List UInt8} {p : Prf} (h : profOf lib n = some p) : p ∈ lib ∧ p.nm = n :=
  by
  unfold profOf at h
  exact ⟨List.mem_of_find?_eq_some h, by simpa using List.find?_some h⟩
theorem untF_zero {lib : List Prf} {pre : List Unt} {u : Unt} (h : untF lib pre u = 0) : (1 ≤ u.num ∧ u.num ≤ 9999) ∧ untLow pre u = false ∧ (∃ p, profOf lib u.nm = some p ∧ untBad u p.size = false) ∧ pre.any (clashU lib u) = false := by
  unfold untF at h
  cases h1 : inR u.num 1 9999
  · simp [h1] at h
  cases h2 : untLow pre u
  rotate_left
  · simp [h1, h2] at h
  cases h3 : profOf lib u.nm with
  | none => simp [h1, h2, h3] at h
  | some p =>
    have hs : sizeOf' lib u = p.size := by simp [sizeOf', h3]
    rw [h1, h2, h3, hs] at h
    cases h4 : untBad u p.size
    · cases h5 : pre.any (clashU lib u)
      · exact ⟨inR_true h1, rfl, ⟨p, rfl, h4⟩, rfl⟩
      · simp [h4, h5] at h
    · simp [h4] at h
theorem untBad_false {u : Unt} {size : Int} (h : untBad u size = false) : (1 ≤ u.univ ∧ u.univ ≤ 64) ∧ (1 ≤ u.addr ∧ u.addr ≤ 512) ∧ u.addr + size - 1 ≤ 512 := by
  simp only [untBad, Bool.or_eq_false_iff, Bool.not_eq_false', decide_eq_false_iff_not] at h
  exact ⟨inR_true h.1.1, inR_true h.1.2, by omega⟩
end Go.Proofs.Ytopmdeefcjdadaa
