/- The contract of the reference's guess: a digit of the quotient, at most one too great. The contracts of the reference's take and give. -/
import Derived.Test.YtopmdeefcjdadaaDoorT63M11

namespace Go.Proofs.YtopmdeefcjdadaaDoor
open Go.RowKit
set_option linter.unusedVariables false
set_option linter.unusedSimpArgs false

theorem top_two {y M : Nat} (h : y < BB ^ (M + 2)) : y / BB ^ M = dg y (M + 1) * BB + dg y M := by
  have h1 := qN_step y M
  have h2 := qN_step y (M + 1)
  have h3 : qN y (M + 1 + 1) = 0 := qN_top h
  rw [h3, Nat.mul_zero, Nat.zero_add] at h2
  have : y / BB ^ M = qN y M := rfl
  rw [this, h1, h2, Nat.mul_comm]
theorem top_three {W M : Nat} (h : W < BB ^ (M + 3)) : W / BB ^ M = (dg W (M + 2) * BB + dg W (M + 1)) * BB + dg W M := by
  have h1 := qN_step W M
  have h2 := qN_step W (M + 1)
  have h3 := qN_step W (M + 2)
  have h4 : qN W (M + 2 + 1) = 0 := qN_top h
  rw [h4, Nat.mul_zero, Nat.zero_add] at h3
  have : W / BB ^ M = qN W M := rfl
  have e : qN W (M + 1 + 1) = qN W (M + 2) := rfl
  rw [this, h1, h2, e, h3, Nat.mul_comm BB (BB * _ + _), Nat.mul_comm BB (dg W (M + 2))]
theorem guess_top {W y P v1 v2 top x3 : Nat} (hP : 0 < P) (hv : y / P = v1 * BB + v2) (hv2 : v2 < BB) (hw : W / P = top * BB + x3) (hx : x3 < BB) (hW : W < y * BB) : top < v1 * BB + BB := by
  have a1 := Nat.div_add_mod y P
  have a3 := Nat.mod_lt y hP
  have c1 : y < (v1 * BB + v2 + 1) * P := by
    rw [Nat.add_mul (v1 * BB + v2) 1, Nat.one_mul, ← hv, Nat.mul_comm (y / P) P]; omega
  have c2 : y * BB < (v1 * BB + v2 + 1) * BB * P := by
    rw [Nat.mul_right_comm]; exact Nat.mul_lt_mul_of_pos_right c1 BB_pos
  have c3 : W / P < (v1 * BB + v2 + 1) * BB := (Nat.div_lt_iff_lt_mul hP).2 (by omega)
  rw [hw] at c3
  have c4 : top * BB < (v1 * BB + BB) * BB := by
    have : (v1 * BB + v2 + 1) * BB ≤ (v1 * BB + BB) * BB := Nat.mul_le_mul_right _ (by omega)
    omega
  exact Nat.lt_of_mul_lt_mul_right c4

/-- what the loop of the guess keeps -/
structure GS (W y v1 v2 top x3 q r : Nat) : Prop where
  eq : top = q * v1 + r
  low : W / y ≤ q
  high : q ≤ 2000000000
  rest : r < 1000000000
/-- what is known of the numbers -/
structure GK (W y P v1 v2 top x3 : Nat) : Prop where
  hP : 0 < P
  hv : y / P = v1 * BB + v2
  hw : W / P = top * BB + x3
  hy : 0 < y
  hW : W < y * BB
  hv1 : 0 < v1
  hv1b : v1 < BB
  hv2 : v2 < BB
  hx : x3 < BB
theorem GK.start {W y P v1 v2 top x3 : Nat} (k : GK W y P v1 v2 top x3) : GS W y v1 v2 top x3 (top / v1) (top % v1) := by
  obtain ⟨h1, h2⟩ := guess_start W y P v1 v2 top x3 (W / y) k.hP k.hv k.hv2 k.hw k.hx k.hv1 rfl k.hW
  have h3 := Nat.mod_lt top k.hv1
  have h4 := k.hv1b
  unfold BB at h2 h4
  exact ⟨by rw [Nat.mul_comm]; exact (Nat.div_add_mod top v1).symm, h1, by omega, by omega⟩
/-- the test says 'too great' -/
theorem GK.down {W y P v1 v2 top x3 q r : Nat} (k : GK W y P v1 v2 top x3) (s : GS W y v1 v2 top x3 q r) (h : 1000000000 ≤ q ∨ r * 1000000000 + x3 < q * v2) :
    1 ≤ q ∧ (r + v1 < 1000000000 → GS W y v1 v2 top x3 (q - 1) (r + v1)) ∧ (1000000000 ≤ r + v1 → W / y ≤ q - 1 ∧ q - 1 ≤ W / y + 1) := by
  have hd := guess_down W y P v1 v2 top x3 (W / y) q r k.hP k.hv k.hw k.hy rfl k.hW s.eq h
  have e : top = (q - 1) * v1 + (r + v1) := by
    obtain ⟨p, rfl⟩ : ∃ p, q = p + 1 := ⟨q - 1, (Nat.sub_add_cancel (Nat.le_trans (Nat.le_add_left 1 _) hd)).symm⟩
    have := s.eq
    rw [Nat.add_mul, Nat.one_mul] at this
    rw [Nat.add_sub_cancel]
    omega
  refine ⟨Nat.le_trans (Nat.le_add_left 1 _) hd, fun hr => ⟨e, Nat.le_sub_one_of_lt hd, by have := s.high; omega, hr⟩, fun hr => ⟨Nat.le_sub_one_of_lt hd, ?_⟩⟩
  refine guess_break W y P v1 v2 top x3 (W / y) (q - 1) (r + v1) k.hP k.hv k.hw k.hy rfl k.hv1 k.hv2 e ?_ hr
  have ht := guess_top k.hP k.hv k.hv2 k.hw k.hx k.hW
  rw [e] at ht
  have : (q - 1) * v1 < BB * v1 := by
    have hr' : BB ≤ r + v1 := hr
    rw [Nat.mul_comm BB]
    omega
  exact Nat.le_of_lt (Nat.lt_of_mul_lt_mul_right this)
theorem GK.stop {W y P v1 v2 top x3 q r : Nat} (k : GK W y P v1 v2 top x3) (s : GS W y v1 v2 top x3 q r) (h1 : q < 1000000000) (h2 : q * v2 ≤ r * 1000000000 + x3) : W / y ≤ q ∧ q ≤ W / y + 1 :=
  ⟨s.low, guess_stop W y P v1 v2 top x3 (W / y) q r k.hP k.hv k.hw k.hy rfl k.hv1 s.eq h1 h2⟩
theorem GK.mk' {X y j M : Nat} (hy : LenOf y (M + 2)) (hX : X / BB ^ j < y * BB) : GK (X / BB ^ j) y (BB ^ M) (dg y (M + 1)) (dg y M) (dg X (j + (M + 2)) * BB + dg X (j + (M + 1))) (dg X (j + M)) := by
  have h0 : 0 < y := Nat.lt_of_lt_of_le (BBp _) (hy.2 (by omega))
  have h1 : X / BB ^ j < BB ^ (M + 3) := by
    have : y * BB < BB ^ (M + 2) * BB := Nat.mul_lt_mul_of_pos_right hy.1 BB_pos
    rw [← Nat.pow_succ] at this
    exact Nat.lt_trans hX this
  refine ⟨BBp M, top_two hy.1, ?_, h0, hX, ?_, dg_lt _ _, dg_lt _ _, dg_lt _ _⟩
  · rw [top_three h1]
    simp only [dg_div]
  · exact dg_top hy (by omega)
theorem GS.prod {W y v1 v2 top x3 q r : Nat} (s : GS W y v1 v2 top x3 q r) (hv2 : (v2 : Int) ≤ 999999999) : ∃ p : Nat, q * v2 = p ∧ (q : Int) * (v2 : Int) = (p : Int) ∧ (p : Int) ≤ 1999999998000000000 := by
  refine ⟨q * v2, rfl, (Int.natCast_mul q v2).symm, ?_⟩
  have h1 := s.high
  have h2 : v2 ≤ 999999999 := by omega
  have := Nat.mul_le_mul h1 h2
  omega

def GuessP (qt : Nat) (w : World) (e : Ending) (w' : World) : Prop := (∃ q : Nat, e = .returned (.int .i64 q) ∧ qt ≤ q ∧ q ≤ qt + 1) ∧ ∃ n, w' = w.drewN n

end Go.Proofs.YtopmdeefcjdadaaDoor

namespace Go.Proofs.YtopmdeefcjdadaaDoor
open Go.RowKit
set_option linter.unusedVariables false
set_option linter.unusedSimpArgs false

/-- what take borrows at place i -/
def borT (W y q i : Nat) : Nat := (-cryT W y q i).toNat
theorem borT_int (W y q i : Nat) : ((borT W y q i : Nat) : Int) = -cryT W y q i := by
  unfold borT
  have := cryT_le W y q i
  omega
theorem borT_zero (W y q : Nat) : borT W y q 0 = 0 := by unfold borT; rw [cryT_zero]; rfl
theorem borT_le (W y q i : Nat) : borT W y q i ≤ q := by
  have := cryT_ge W y q i
  have := borT_int W y q i
  omega
/-- is q times y more than the window? -/
def overB (W y q : Nat) : Bool := decide (W < q * y)
theorem overB_yes {W y q : Nat} (h : W < q * y) : overB W y q = true := decide_eq_true h
theorem overB_no {W y q : Nat} (h : q * y ≤ W) : overB W y q = false := decide_eq_false (by omega)
theorem borT_end {W y q n : Nat} (hW : W < BB ^ n) (hy : y < BB ^ n) (hq : q * y ≤ W + y) : decide (0 < borT W y q n) = overB W y q := by
  obtain ⟨_, _, h⟩ := takeV_dg hW hy hq
  have h2 := borT_int W y q n
  rw [h] at h2
  by_cases hc : q * y ≤ W
  · rw [if_pos hc] at h2
    rw [overB_no hc, show borT W y q n = 0 by omega]
    rfl
  · rw [if_neg hc] at h2
    rw [overB_yes (by omega), show borT W y q n = 1 by omega]
    rfl
/-- a round of take -/
theorem take_pos {W y q n i : Nat} {s : Int} (hW : W < BB ^ n) (hy : y < BB ^ n) (hq : q * y ≤ W + y) (hi : i < n) (hs : s = (dg W i : Int) - (borT W y q i : Int) - ((q * dg y i : Nat) : Int)) (h0 : 0 ≤ s) :
    s = (dg (takeV W y q n) i : Nat) ∧ borT W y q (i + 1) = 0 := by
  obtain ⟨_, h, _⟩ := takeV_dg hW hy hq
  have h1 := h i hi
  unfold dgT at h1
  have h2 := borT_int W y q i
  have h3 := borT_int W y q (i + 1)
  rw [cryT_succ] at h3
  have h4 := dg_lt W i
  rw [Int.natCast_mul] at hs
  have hs' : (dg W i : Int) + cryT W y q i - (q : Int) * (dg y i : Int) = s := by omega
  rw [hs'] at h1 h3
  have h5 : (0 : Int) ≤ (q : Int) * (dg y i : Int) := Int.mul_nonneg (by omega) (by omega)
  have hb : s < (BB : Int) := by omega
  rw [Int.emod_eq_of_lt h0 hb] at h1
  rw [Int.ediv_eq_zero_of_lt h0 hb] at h3
  exact ⟨h1, by omega⟩
theorem take_neg {W y q n i s : Nat} (hW : W < BB ^ n) (hy : y < BB ^ n) (hq : q * y ≤ W + y) (hi : i < n) (hs : -(s : Int) = (dg W i : Int) - (borT W y q i : Int) - ((q * dg y i : Nat) : Int)) (h0 : 0 < s) :
    borT W y q (i + 1) = (s + 999999999) / 1000000000 ∧ -(s : Int) + (borT W y q (i + 1) : Int) * 1000000000 = (dg (takeV W y q n) i : Nat) := by
  obtain ⟨_, h, _⟩ := takeV_dg hW hy hq
  have h1 := h i hi
  unfold dgT at h1
  have h2 := borT_int W y q i
  have h3 := borT_int W y q (i + 1)
  rw [cryT_succ] at h3
  rw [Int.natCast_mul] at hs
  have hs' : (dg W i : Int) + cryT W y q i - (q : Int) * (dg y i : Int) = -(s : Int) := by omega
  rw [hs'] at h1 h3
  have e : (BB : Int) = 1000000000 := rfl
  rw [e] at h1 h3
  clear hs hs' h e
  constructor
  · omega
  · omega
/-- what take leaves -/
def takeX (X y q j n : Nat) : Nat := lowHigh X (takeV (X / BB ^ j) y q n) j
theorem takeX_start (X y q j n T : Nat) : mcells (takeX X y q j n) X j T = dcells X T := by
  refine mcells_eq fun p hp => ?_
  by_cases h : p < j
  · rw [mixd_low h]; exact lowHigh_dg_low _ _ h
  · exact mixd_high (by omega)
theorem takeX_end {X y q j n T : Nat} (hW : X / BB ^ j < BB ^ n) (hy : y < BB ^ n) (hq : q * y ≤ X / BB ^ j + y) : mcells (takeX X y q j n) X (j + n) T = dcells (takeX X y q j n) T := by
  refine mcells_eq fun p hp => ?_
  by_cases h : p < j + n
  · exact mixd_low h
  · rw [mixd_high (by omega)]
    obtain ⟨k, rfl⟩ : ∃ k, p = j + k := ⟨p - j, by omega⟩
    unfold takeX
    rw [lowHigh_dg_high, ← dg_div, dg_zero_of_lt (lt_pow hW (by omega)), dg_zero_of_lt (lt_pow (takeV_dg hW hy hq).1 (by omega))]
theorem takeX_dg (X y q j n i : Nat) : dg (takeX X y q j n) (j + i) = dg (takeV (X / BB ^ j) y q n) i := lowHigh_dg_high _ _ _ _
theorem prod_q (q d : Nat) (hq : (q : Int) ≤ 1000000000) (hd : (d : Int) ≤ 999999999) : ∃ p : Nat, q * d = p ∧ (q : Int) * (d : Int) = (p : Int) ∧ (p : Int) ≤ 1000000000000000000 := by
  refine ⟨q * d, rfl, (Int.natCast_mul q d).symm, ?_⟩
  have h1 : q ≤ 1000000000 := by omega
  have h2 : d ≤ 999999999 := by omega
  have := Nat.mul_le_mul h1 h2
  omega

def NTakeP (base X y q j n g T cx : Nat) (w : World) (e : Ending) (w' : World) : Prop :=
  e = .returned (.bool (overB (X / BB ^ j) y q)) ∧ Row base w' g T cx (dcells (takeX X y q j n) T) ∧ w.grownBy w' (some g)

end Go.Proofs.YtopmdeefcjdadaaDoor
