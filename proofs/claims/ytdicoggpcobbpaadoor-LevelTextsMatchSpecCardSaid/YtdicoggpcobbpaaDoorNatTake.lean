/- The contracts of the reference's take and give. -/
import Derived.Test.YtdicoggpcobbpaaDoorNatGuess
namespace Go.Proofs.YtdicoggpcobbpaaDoor
open Go.RowKit
set_option linter.unusedVariables false
set_option linter.unusedSimpArgs false

/-- what take borrows at place i -/
def borT (W y q i : Nat) : Nat := (-cryT W y q i).toNat
theorem borT_int (W y q i : Nat) : ((borT W y q i : Nat) : Int) = -cryT W y q i := by
  unfold borT
  have := cryT_le W y q i
  omega
theorem borT_zero (W y q : Nat) : borT W y q 0 = 0 := by unfold borT; rw [cryT_zero]; rfl
theorem borT_le (W y q i : Nat) : borT W y q i ≤ q := by
  have := cryT_ge W y q i
  have := borT_int W y q i
  omega
/-- is q times y more than the window? -/
def overB (W y q : Nat) : Bool := decide (W < q * y)
theorem overB_yes {W y q : Nat} (h : W < q * y) : overB W y q = true := decide_eq_true h
theorem overB_no {W y q : Nat} (h : q * y ≤ W) : overB W y q = false := decide_eq_false (by omega)
theorem borT_end {W y q n : Nat} (hW : W < BB ^ n) (hy : y < BB ^ n) (hq : q * y ≤ W + y) : decide (0 < borT W y q n) = overB W y q := by
  obtain ⟨_, _, h⟩ := takeV_dg hW hy hq
  have h2 := borT_int W y q n
  rw [h] at h2
  by_cases hc : q * y ≤ W
  · rw [if_pos hc] at h2
    rw [overB_no hc, show borT W y q n = 0 by omega]
    rfl
  · rw [if_neg hc] at h2
    rw [overB_yes (by omega), show borT W y q n = 1 by omega]
    rfl
/-- a round of take -/
theorem take_pos {W y q n i : Nat} {s : Int} (hW : W < BB ^ n) (hy : y < BB ^ n) (hq : q * y ≤ W + y) (hi : i < n) (hs : s = (dg W i : Int) - (borT W y q i : Int) - ((q * dg y i : Nat) : Int)) (h0 : 0 ≤ s) :
    s = (dg (takeV W y q n) i : Nat) ∧ borT W y q (i + 1) = 0 := by
  obtain ⟨_, h, _⟩ := takeV_dg hW hy hq
  have h1 := h i hi
  unfold dgT at h1
  have h2 := borT_int W y q i
  have h3 := borT_int W y q (i + 1)
  rw [cryT_succ] at h3
  have h4 := dg_lt W i
  rw [Int.natCast_mul] at hs
  have hs' : (dg W i : Int) + cryT W y q i - (q : Int) * (dg y i : Int) = s := by omega
  rw [hs'] at h1 h3
  have h5 : (0 : Int) ≤ (q : Int) * (dg y i : Int) := Int.mul_nonneg (by omega) (by omega)
  have hb : s < (BB : Int) := by omega
  rw [Int.emod_eq_of_lt h0 hb] at h1
  rw [Int.ediv_eq_zero_of_lt h0 hb] at h3
  exact ⟨h1, by omega⟩
theorem take_neg {W y q n i s : Nat} (hW : W < BB ^ n) (hy : y < BB ^ n) (hq : q * y ≤ W + y) (hi : i < n) (hs : -(s : Int) = (dg W i : Int) - (borT W y q i : Int) - ((q * dg y i : Nat) : Int)) (h0 : 0 < s) :
    borT W y q (i + 1) = (s + 999999999) / 1000000000 ∧ -(s : Int) + (borT W y q (i + 1) : Int) * 1000000000 = (dg (takeV W y q n) i : Nat) := by
  obtain ⟨_, h, _⟩ := takeV_dg hW hy hq
  have h1 := h i hi
  unfold dgT at h1
  have h2 := borT_int W y q i
  have h3 := borT_int W y q (i + 1)
  rw [cryT_succ] at h3
  rw [Int.natCast_mul] at hs
  have hs' : (dg W i : Int) + cryT W y q i - (q : Int) * (dg y i : Int) = -(s : Int) := by omega
  rw [hs'] at h1 h3
  have e : (BB : Int) = 1000000000 := rfl
  rw [e] at h1 h3
  clear hs hs' h e
  constructor
  · omega
  · omega
/-- what take leaves -/
def takeX (X y q j n : Nat) : Nat := lowHigh X (takeV (X / BB ^ j) y q n) j
theorem takeX_start (X y q j n T : Nat) : mcells (takeX X y q j n) X j T = dcells X T := by
  refine mcells_eq fun p hp => ?_
  by_cases h : p < j
  · rw [mixd_low h]; exact lowHigh_dg_low _ _ h
  · exact mixd_high (by omega)
theorem takeX_end {X y q j n T : Nat} (hW : X / BB ^ j < BB ^ n) (hy : y < BB ^ n) (hq : q * y ≤ X / BB ^ j + y) : mcells (takeX X y q j n) X (j + n) T = dcells (takeX X y q j n) T := by
  refine mcells_eq fun p hp => ?_
  by_cases h : p < j + n
  · exact mixd_low h
  · rw [mixd_high (by omega)]
    obtain ⟨k, rfl⟩ : ∃ k, p = j + k := ⟨p - j, by omega⟩
    unfold takeX
    rw [lowHigh_dg_high, ← dg_div, dg_zero_of_lt (lt_pow hW (by omega)), dg_zero_of_lt (lt_pow (takeV_dg hW hy hq).1 (by omega))]
theorem takeX_dg (X y q j n i : Nat) : dg (takeX X y q j n) (j + i) = dg (takeV (X / BB ^ j) y q n) i := lowHigh_dg_high _ _ _ _
theorem prod_q (q d : Nat) (hq : (q : Int) ≤ 1000000000) (hd : (d : Int) ≤ 999999999) : ∃ p : Nat, q * d = p ∧ (q : Int) * (d : Int) = (p : Int) ∧ (p : Int) ≤ 1000000000000000000 := by
  refine ⟨q * d, rfl, (Int.natCast_mul q d).symm, ?_⟩
  have h1 : q ≤ 1000000000 := by omega
  have h2 : d ≤ 999999999 := by omega
  have := Nat.mul_le_mul h1 h2
  omega

def NTakeP (base X y q j n g T cx : Nat) (w : World) (e : Ending) (w' : World) : Prop :=
  e = .returned (.bool (overB (X / BB ^ j) y q)) ∧ Row base w' g T cx (dcells (takeX X y q j n) T) ∧ w.grownBy w' (some g)

end Go.Proofs.YtdicoggpcobbpaaDoor
