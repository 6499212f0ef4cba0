/- What colour.Filter and colour.Between stand on: their function values, and turn of the reference. -/
import Derived.Test.YteelomjknllcbaaEach
import Derived.Test.YteelomjknllcbaaCSums
import Derived.Test.YteelomjknllcbaaNearPlain
namespace Go.Proofs.Yteelomjknllcbaa
open Go.RowKit
set_option linter.unusedVariables false
set_option linter.unusedSimpArgs false

set_option maxHeartbeats 400000 in
theorem cf_filter (x y : Int) (w : World) (hx : LvOkC x) (hy : LvOkC y) :
    Calls Try.prog 59 #[.int .i64 x, .int .i64 y] w fun e w' => e = .returned (.int .i64 (rnd (x * y) 65535)) ∧ Below w.heap.size w w' := by
  obtain ⟨m0, m1⟩ := mul_lv (a := x) (b := y) hx hy
  have HR := Lib.hid (fun W => round_any (x * y) 65535 W (by omega) (by omega) (by omega) (by omega))
  go_enter Try.func59, Try.ntmps59
  go_wp2_with (go_at_call 58; refine (HR.out _).mono ?_; rintro e w' ⟨rfl, rfl⟩)
  go_ret
  exact ⟨rfl, Below.refl _ _⟩

set_option maxHeartbeats 400000 in
theorem cf_between (x y p q : Int) (g h : Nat) (w : World) (hm : MixOk x y p q) (hg : w.cell? ⟨g, 0, none⟩ = some (.int .i64 p)) (hh : w.cell? ⟨h, 0, none⟩ = some (.int .i64 q)) :
    Calls Try.prog 54 #[.int .i64 x, .int .i64 y, .pointer (some ⟨g, 0, none⟩), .pointer (some ⟨h, 0, none⟩)] w fun e w' => e = .returned (.int .i64 (mixV x y p q)) ∧ Below w.heap.size w w' := by
  have HM := Lib.hid (Mix_any x y p q)
  rw [show mixR x y p q = mixV x y p q from if_pos hm, show mixE x y p q = 0 from if_pos hm] at HM
  clear hm
  go_enter Try.func54, Try.ntmps54
  go_wp2_with fail
  refine (HM.out _).mono ?_
  rintro e w1 ⟨rfl, hb⟩
  have HB := Lib.hid hb
  clear hb
  go_wp2
  go_ret
  exact ⟨rfl, HB.out⟩

/-- by how much a hue goes on -/
def turnV (a b way : Int) : Int :=
  if way = 3 then (if 196605 < (b - a) % 393210 ∨ (b - a) % 393210 = 0 then (b - a) % 393210 else (b - a) % 393210 - 393210)
  else (if (b - a) % 393210 ≤ 196605 then (b - a) % 393210 else (b - a) % 393210 - 393210)
theorem turn_cases (a b way : Int) :
    (way = 3 ∧ 196605 < (b - a) % 393210 ∧ turnV a b way = (b - a) % 393210) ∨ (way = 3 ∧ (b - a) % 393210 = 0 ∧ turnV a b way = 0) ∨ (way = 3 ∧ (b - a) % 393210 ≤ 196605 ∧ ((b - a) % 393210 == 0) = false ∧ turnV a b way = (b - a) % 393210 - 393210) ∨
    (way ≠ 3 ∧ (b - a) % 393210 ≤ 196605 ∧ turnV a b way = (b - a) % 393210) ∨ (way ≠ 3 ∧ 196605 < (b - a) % 393210 ∧ turnV a b way = (b - a) % 393210 - 393210) := by
  unfold turnV
  by_cases hw : way = 3
  · by_cases h1 : 196605 < (b - a) % 393210
    · exact .inl ⟨hw, h1, by rw [if_pos hw, if_pos (.inl h1)]⟩
    · by_cases h2 : (b - a) % 393210 = 0
      · exact .inr (.inl ⟨hw, h2, by rw [if_pos hw, if_pos (.inr h2), h2]⟩)
      · exact .inr (.inr (.inl ⟨hw, by omega, by simpa using h2, by rw [if_pos hw, if_neg (by omega)]⟩))
  · by_cases h1 : (b - a) % 393210 ≤ 196605
    · exact .inr (.inr (.inr (.inl ⟨hw, h1, by rw [if_neg hw, if_pos h1]⟩)))
    · exact .inr (.inr (.inr (.inr ⟨hw, by omega, by rw [if_neg hw, if_neg h1]⟩)))
theorem turn_bounds (a b way : Int) : -393210 ≤ turnV a b way ∧ turnV a b way ≤ 393210 := by
  rcases turn_cases a b way with ⟨_, _, h⟩ | ⟨_, _, h⟩ | ⟨_, _, _, h⟩ | ⟨_, _, h⟩ | ⟨_, _, h⟩ <;> omega

set_option maxHeartbeats 1000000 in
theorem rturn_any (a b way : Int) (w : World) (ha : 0 ≤ a ∧ a ≤ 393209) (hb : 0 ≤ b ∧ b ≤ 393209) :
    Calls Try.prog 65 #[.int .i64 a, .int .i64 b, .int .i64 way] w fun e w' => e = .returned (.int .i64 (turnV a b way)) ∧ w = w' := by
  have HC := turn_cases a b way
  have HM := Lib.hid (rmod_any (b - a))
  have d0 : 0 ≤ (b - a) % 393210 := Int.emod_nonneg _ (by decide)
  have d1 : (b - a) % 393210 < 393210 := Int.emod_lt_of_pos _ (by decide)
  generalize (b - a) % 393210 = d at *
  rcases HC with ⟨h1, h2, h3⟩ | ⟨h1, h2, h3⟩ | ⟨h1, h2, h4, h3⟩ | ⟨h1, h2, h3⟩ | ⟨h1, h2, h3⟩
  all_goals
    have HV := Lib.hid h3
    clear h3
    first
      | subst h1
      | have w3 : (way == 3) = false := by simp [h1]
    (try subst h2)
    go_enter Try.func65, Try.ntmps65
    go_wp2_with (go_at_call 69; refine (HM.out _).mono ?_; rintro e w' ⟨rfl, rfl⟩)
    all_goals go_ret
    all_goals exact ⟨by rw [HV.out]; first | rfl | (simp; omega), rfl⟩

/-- the hues of two tones: one without saturation takes that of the other -/
def huA (S1 H1 H2 : Int) : Int := if S1 = 0 then H2 else H1
def huB (S1 S2 H1 H2 : Int) : Int := if S1 = 0 then H2 else if S2 = 0 then H1 else H2
def btwH (a b way p q : Int) : Int := rnd (a * q + turnV a b way * p) q % 393210
def toneC (H1 S1 V1 H2 S2 V2 way p q : Int) : Int × Int × Int :=
  frT (btwH (huA S1 H1 H2) (huB S1 S2 H1 H2) way p q) (mixV S1 S2 p q) (mixV V1 V2 p q)
def midC (r1 g1 b1 r2 g2 b2 way p q : Int) : Int × Int × Int :=
  toneC (toneH r1 g1 b1) (toneS r1 g1 b1) (topV r1 g1 b1) (toneH r2 g2 b2) (toneS r2 g2 b2) (topV r2 g2 b2) way p q
def btwC (r1 g1 b1 r2 g2 b2 way p q : Int) : Int × Int × Int :=
  if p = 0 then (r1, g1, b1) else if p = q then (r2, g2, b2) else if way = 1 then (mixV r1 r2 p q, mixV g1 g2 p q, mixV b1 b2 p q) else midC r1 g1 b1 r2 g2 b2 way p q
def btwE (r1 g1 b1 r2 g2 b2 way p q : Int) : Int := firstF [chkC r1 g1 b1, chkC r2 g2 b2, whenV (!inB way 1 3) 4, whenV (!(inB q 1 36000000 && inB p 0 q)) 1]

theorem mixV_lv {x y p q : Int} (h : MixOk x y p q) : LvOkC (mixV x y p q) := by
  obtain ⟨⟨hx, hy⟩, ⟨hq1, hq2⟩, hp1, hp2⟩ := h
  unfold IsLv at hx hy
  have e : x * q + (y - x) * p = x * (q - p) + y * p := by grind
  have a1 : 0 ≤ x * (q - p) := Int.mul_nonneg hx.1 (by omega)
  have a2 : x * (q - p) ≤ 65535 * (q - p) := Int.mul_le_mul_of_nonneg_right hx.2 (by omega)
  have a3 : 0 ≤ y * p := Int.mul_nonneg hy.1 hp1
  have a4 : y * p ≤ 65535 * p := Int.mul_le_mul_of_nonneg_right hy.2 hp1
  have e3 : 65535 * (q - p) = 65535 * q - 65535 * p := by grind
  unfold LvOkC mixV rnd
  generalize x * q + (y - x) * p = n at *
  generalize x * (q - p) = m at *
  generalize y * p = k at *
  have h0 : 0 ≤ (2 * n + q) / (2 * q) := Int.ediv_nonneg (by omega) (by omega)
  have h1 : (2 * n + q) / (2 * q) < 65536 := Int.ediv_lt_of_lt_mul (by omega) (by omega)
  omega
theorem btwH_in (a b way p q : Int) : 0 ≤ btwH a b way p q ∧ btwH a b way p q ≤ 393209 := by
  unfold btwH
  have d0 := Int.emod_nonneg (rnd (a * q + turnV a b way * p) q) (show (393210 : Int) ≠ 0 by decide)
  have d1 := Int.emod_lt_of_pos (rnd (a * q + turnV a b way * p) q) (show (0 : Int) < 393210 by decide)
  omega
/-- the numbers on the way of a hue -/
theorem hue_bounds {a t p q : Int} (ha : 0 ≤ a ∧ a ≤ 393209) (ht : -393210 ≤ t ∧ t ≤ 393210) (h : PartOk p q) :
    (0 ≤ a * q ∧ a * q ≤ 14155524000000) ∧ (-14155560000000 ≤ t * p ∧ t * p ≤ 14155560000000) ∧ -100000000000000 ≤ rnd (a * q + t * p) q ∧ rnd (a * q + t * p) q ≤ 100000000000000 := by
  obtain ⟨⟨q1, q2⟩, p1, p2⟩ := h
  have a1 : 0 ≤ a * q := Int.mul_nonneg ha.1 (by omega)
  have a2 : a * q ≤ 393209 * 36000000 := Int.mul_le_mul ha.2 q2 (by omega) (by omega)
  have t1 : t * p ≤ 393210 * p := Int.mul_le_mul_of_nonneg_right ht.2 p1
  have t2 : -393210 * p ≤ t * p := Int.mul_le_mul_of_nonneg_right ht.1 p1
  refine ⟨⟨a1, by omega⟩, ⟨by omega, by omega⟩, ?_⟩
  unfold rnd
  generalize a * q = m at *
  generalize t * p = k at *
  have h0 : -100000000000000 ≤ (2 * (m + k) + q) / (2 * q) := Int.le_ediv_of_mul_le (by omega) (by omega)
  have h1 : (2 * (m + k) + q) / (2 * q) < 100000000000001 := Int.ediv_lt_of_lt_mul (by omega) (by omega)
  omega
end Go.Proofs.Yteelomjknllcbaa
