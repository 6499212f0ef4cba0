/- Plain laws of the reference's naturals: rows of digits that are written place by place, products, quotients by long division. -/
import Derived.Test.YtopmdeefcjdadaaDoorT63M08

namespace Go.Proofs.YtopmdeefcjdadaaDoor

/-- what is left of n behind k digits -/
def qN (n k : Nat) : Nat := n / BB ^ k
theorem qN_zero (n : Nat) : qN n 0 = n := by unfold qN; simp
theorem qN_div (n k : Nat) : qN n k / 1000000000 = qN n (k + 1) := by
  unfold qN
  rw [Nat.div_div_eq_div_mul, Nat.pow_succ]; rfl
theorem qN_lt {n k : Nat} (h : qN n k = 0) : n < BB ^ k := (Nat.div_eq_zero_iff_lt (BBp k)).1 h
theorem qN_le (n k : Nat) : qN n k ≤ n := Nat.div_le_self _ _
theorem qN_top {n L : Nat} (h : n < BB ^ L) : qN n L = 0 := Nat.div_eq_of_lt h
theorem qN_step (n i : Nat) : qN n i = BB * qN n (i + 1) + dg n i := by
  have h := qN_div n i
  have h2 : dg n i = qN n i % BB := rfl
  rw [h2, ← h]
  exact (Nat.div_add_mod _ BB).symm

/-! ### products -/
/-- what is carried at place k of T + d m -/
def accC (T m d k : Nat) : Nat := (T % BB ^ k + d * (m % BB ^ k)) / BB ^ k
theorem accC_zero (T m d : Nat) : accC T m d 0 = 0 := by simp [accC, Nat.mod_one]
theorem acc_div (T m d k : Nat) : (T + d * m) / BB ^ k = T / BB ^ k + d * (m / BB ^ k) + accC T m d k := by
  unfold accC
  have h1 := Nat.div_add_mod T (BB ^ k)
  have h2 := Nat.div_add_mod m (BB ^ k)
  have h3 : T + d * m = (T % BB ^ k + d * (m % BB ^ k)) + BB ^ k * (T / BB ^ k + d * (m / BB ^ k)) := by
    have : d * m = d * (BB ^ k * (m / BB ^ k)) + d * (m % BB ^ k) := by rw [← Nat.mul_add, h2]
    rw [this, Nat.mul_add, ← Nat.mul_assoc (BB ^ k) d, Nat.mul_comm (BB ^ k) d, Nat.mul_assoc d]
    omega
  rw [h3, Nat.add_mul_div_left _ _ (BBp k)]
  omega
theorem accC_dg (T m d k : Nat) : dg (T + d * m) k = (dg T k + accC T m d k + d * dg m k) % BB := by
  unfold dg
  rw [acc_div]
  generalize T / BB ^ k = x
  generalize m / BB ^ k = y
  generalize accC T m d k = c
  have hx := Nat.div_add_mod x BB
  have hy := Nat.div_add_mod y BB
  have h3 : x + d * y + c = (x % BB + c + d * (y % BB)) + BB * (x / BB + d * (y / BB)) := by
    have : d * y = d * (BB * (y / BB)) + d * (y % BB) := by rw [← Nat.mul_add, hy]
    rw [this, Nat.mul_add, ← Nat.mul_assoc BB d, Nat.mul_comm BB d, Nat.mul_assoc d]
    omega
  rw [h3, Nat.add_mul_mod_self_left]
theorem accC_succ (T m d k : Nat) : accC T m d (k + 1) = (dg T k + accC T m d k + d * dg m k) / BB := by
  have h1 := acc_div T m d (k + 1)
  have h2 := acc_div T m d k
  have e : ∀ x : Nat, x / BB ^ (k + 1) = x / BB ^ k / BB := fun x => by rw [Nat.pow_succ, Nat.div_div_eq_div_mul]
  rw [e, e T, e m, h2] at h1
  unfold dg
  generalize T / BB ^ k = x at *
  generalize m / BB ^ k = y at *
  generalize accC T m d k = c at *
  have hx := Nat.div_add_mod x BB
  have hy := Nat.div_add_mod y BB
  have h3 : x + d * y + c = (x % BB + c + d * (y % BB)) + BB * (x / BB + d * (y / BB)) := by
    have : d * y = d * (BB * (y / BB)) + d * (y % BB) := by rw [← Nat.mul_add, hy]
    rw [this, Nat.mul_add, ← Nat.mul_assoc BB d, Nat.mul_comm BB d, Nat.mul_assoc d]
    omega
  rw [h3, Nat.add_mul_div_left _ _ BB_pos] at h1
  omega
theorem accC_le (T m d k : Nat) : accC T m d k ≤ d := by
  unfold accC
  have h1 := Nat.mod_lt T (BBp k)
  have h2 := Nat.mod_lt m (BBp k)
  refine Nat.le_of_lt_succ ((Nat.div_lt_iff_lt_mul (BBp k)).2 ?_)
  have : d * (m % BB ^ k) ≤ d * BB ^ k := Nat.mul_le_mul_left _ (Nat.le_of_lt h2)
  rw [Nat.succ_mul]
  omega
theorem acc_all {T m d k : Nat} (hT : T < BB ^ k) (hm : m < BB ^ k) (h : accC T m d k = 0) : T + d * m < BB ^ k := by
  have := acc_div T m d k
  rw [h, Nat.div_eq_of_lt hT, Nat.div_eq_of_lt hm, Nat.mul_zero] at this
  exact (Nat.div_eq_zero_iff_lt (BBp k)).1 (by omega)
theorem pow_mono {a b : Nat} (h : a ≤ b) : BB ^ a ≤ BB ^ b := Nat.pow_le_pow_right BB_pos h
theorem accC_end {T m d M : Nat} (hT : T < BB ^ M) (hm : m < BB ^ M) (hd : d < BB) : accC T m d (M + 1) = 0 := by
  rw [accC_succ, dg_zero_of_lt hT, dg_zero_of_lt hm, Nat.mul_zero]
  have := accC_le T m d M
  exact Nat.div_eq_of_lt (by omega)
theorem row_next (n m i : Nat) : n % BB ^ (i + 1) * m = n % BB ^ i * m + dg n i * m * BB ^ i := by
  rw [mod_succ, Nat.add_mul, Nat.mul_comm (BB ^ i) (dg n i), Nat.mul_assoc, Nat.mul_assoc, Nat.mul_comm (BB ^ i) m]
theorem dg_add_high (S z i j : Nat) (h : j < i) : dg (S + z * BB ^ i) j = dg S j := by
  unfold dg
  have e : z * BB ^ i = BB ^ j * (z * BB ^ (i - j)) := by
    rw [← Nat.mul_assoc, Nat.mul_comm (BB ^ j) z, Nat.mul_assoc, ← Nat.pow_add]; congr 2; omega
  rw [e, Nat.add_mul_div_left _ _ (BBp j)]
  have e2 : z * BB ^ (i - j) = BB * (z * BB ^ (i - j - 1)) := by
    rw [← Nat.mul_assoc, Nat.mul_comm BB z, Nat.mul_assoc, ← Nat.pow_succ']; congr 2; omega
  rw [e2, Nat.add_mul_mod_self_left]
theorem dg_add_at (S z i k : Nat) : dg (S + z * BB ^ i) (i + k) = dg (S / BB ^ i + z) k := by
  rw [← dg_div, Nat.add_mul_div_right _ _ (BBp i)]
theorem low_lt {n m M i : Nat} (hm : m < BB ^ M) : n % BB ^ i * m / BB ^ i < BB ^ M := by
  have h1 := Nat.mod_lt n (BBp i)
  rw [Nat.div_lt_iff_lt_mul (BBp i)]
  rcases Nat.eq_zero_or_pos m with h0 | h0
  · rw [h0, Nat.mul_zero]; exact Nat.mul_pos (BBp M) (BBp i)
  · have h2 : n % BB ^ i * m < BB ^ i * m := Nat.mul_lt_mul_of_pos_right h1 h0
    have h3 : BB ^ i * m ≤ BB ^ i * BB ^ M := Nat.mul_le_mul_left _ (Nat.le_of_lt hm)
    rw [Nat.mul_comm (BB ^ M)]
    omega

/-! ### long division, place by place -/
/-- the rest in front of place i -/
def restQ (a d i : Nat) : Nat := qN a i % d
theorem long_step (a d i : Nat) (hd : 0 < d) : (restQ a d (i + 1) * BB + dg a i) / d = dg (a / d) i ∧ (restQ a d (i + 1) * BB + dg a i) % d = restQ a d i ∧ restQ a d (i + 1) * BB + dg a i < d * BB := by
  unfold restQ
  have h1 := qN_step a i
  have hr := Nat.mod_lt (qN a (i + 1)) hd
  have hg := dg_lt a i
  have hq := Nat.div_add_mod (qN a (i + 1)) d
  have hlt : qN a (i + 1) % d * BB + dg a i < d * BB := by
    have : (qN a (i + 1) % d + 1) * BB ≤ d * BB := Nat.mul_le_mul_right _ hr
    rw [Nat.add_mul, Nat.one_mul] at this
    omega
  have h2 : qN a i = (qN a (i + 1) % d * BB + dg a i) + d * (BB * (qN a (i + 1) / d)) := by
    have e : BB * qN a (i + 1) = BB * (d * (qN a (i + 1) / d)) + BB * (qN a (i + 1) % d) := by rw [← Nat.mul_add, hq]
    rw [h1, e, ← Nat.mul_assoc BB d, Nat.mul_comm BB d, Nat.mul_assoc d, Nat.mul_comm BB (qN a (i + 1) % d)]
    omega
  refine ⟨?_, ?_, hlt⟩
  · have h3 : dg (a / d) i = qN a i / d % BB := by
      unfold dg qN
      rw [Nat.div_div_eq_div_mul, Nat.mul_comm d, ← Nat.div_div_eq_div_mul]
    rw [h3, h2, Nat.add_mul_div_left _ _ hd, Nat.add_mul_mod_self_left]
    exact (Nat.mod_eq_of_lt ((Nat.div_lt_iff_lt_mul hd).2 (by have := hlt; rw [Nat.mul_comm d BB] at this; exact this))).symm
  · rw [h2, Nat.add_mul_mod_self_left]
theorem restQ_top {a d L : Nat} (h : a < BB ^ L) : restQ a d L = 0 := by unfold restQ; rw [qN_top h, Nat.zero_mod]
theorem restQ_zero (a d : Nat) : restQ a d 0 = a % d := by unfold restQ; rw [qN_zero]
theorem restQ_lt (a i : Nat) {d : Nat} (h : 0 < d) : restQ a d i < d := Nat.mod_lt _ h

/-- what is left to divide in front of place i -/
def remX (a d i : Nat) : Nat := restQ a d i * BB ^ i + a % BB ^ i
theorem remX_zero (a d : Nat) : remX a d 0 = a % d := by unfold remX; rw [restQ_zero]; simp [Nat.mod_one]
theorem remX_top {a d i : Nat} (h : qN a i < d) : remX a d i = a := by
  unfold remX restQ
  rw [Nat.mod_eq_of_lt h]
  unfold qN
  rw [Nat.mul_comm]
  exact Nat.div_add_mod a (BB ^ i)
theorem remX_win (a d i : Nat) : remX a d (i + 1) / BB ^ i = restQ a d (i + 1) * BB + dg a i ∧ remX a d (i + 1) % BB ^ i = a % BB ^ i := by
  have e : remX a d (i + 1) = a % BB ^ i + BB ^ i * (restQ a d (i + 1) * BB + dg a i) := by
    unfold remX
    rw [mod_succ, Nat.pow_succ, Nat.mul_add, Nat.mul_comm (BB ^ i) BB, ← Nat.mul_assoc, Nat.mul_comm (BB ^ i) (restQ a d (i + 1) * BB)]
    omega
  rw [e]
  exact ⟨by rw [Nat.add_mul_div_left _ _ (BBp i), Nat.div_eq_of_lt (Nat.mod_lt _ (BBp i)), Nat.zero_add], by rw [Nat.add_mul_mod_self_left, Nat.mod_mod]⟩
/-- the step of the rest -/
theorem remX_step (a d i : Nat) (hd : 0 < d) : remX a d i = (restQ a d (i + 1) * BB + dg a i - dg (a / d) i * d) * BB ^ i + a % BB ^ i := by
  obtain ⟨h1, h2, _⟩ := long_step a d i hd
  have h3 := Nat.div_add_mod (restQ a d (i + 1) * BB + dg a i) d
  rw [h1, h2] at h3
  unfold remX
  congr 2
  rw [Nat.mul_comm (dg (a / d) i) d]
  omega

/-! ### rows that are written place by place -/
/-- digits of A below place j, of B from there on -/
def mixd (A B j i : Nat) : Nat := if i < j then dg A i else dg B i
theorem mixd_lt (A B j i : Nat) : mixd A B j i < BB := by unfold mixd; split <;> exact dg_lt _ _
theorem mixd_low {A B j i : Nat} (h : i < j) : mixd A B j i = dg A i := if_pos h
theorem mixd_high {A B j i : Nat} (h : j ≤ i) : mixd A B j i = dg B i := if_neg (by omega)
/-- a number given by its low part and what stands from place j on -/
def lowHigh (X V j : Nat) : Nat := X % BB ^ j + V * BB ^ j
theorem lowHigh_div (X V j : Nat) : lowHigh X V j / BB ^ j = V := by
  unfold lowHigh
  rw [Nat.add_mul_div_right _ _ (BBp j), Nat.div_eq_of_lt (Nat.mod_lt _ (BBp j)), Nat.zero_add]
theorem lowHigh_mod (X V j : Nat) : lowHigh X V j % BB ^ j = X % BB ^ j := by
  unfold lowHigh
  rw [Nat.add_mul_mod_self_right, Nat.mod_mod]
theorem dg_mod {X j k : Nat} (h : k < j) : dg (X % BB ^ j) k = dg X k := by
  have h1 := mod_succ (X % BB ^ j) k
  have h2 := mod_succ X k
  have e : ∀ t, t ≤ j → X % BB ^ j % BB ^ t = X % BB ^ t := fun t ht => Nat.mod_mod_of_dvd _ (Nat.pow_dvd_pow _ ht)
  rw [e (k + 1) (by omega), e k (by omega), h2] at h1
  have : BB ^ k * dg X k = BB ^ k * dg (X % BB ^ j) k := by omega
  exact (Nat.eq_of_mul_eq_mul_left (BBp k) this).symm
theorem lowHigh_dg_low (X V : Nat) {j k : Nat} (h : k < j) : dg (lowHigh X V j) k = dg X k := by
  rw [← dg_mod (X := lowHigh X V j) h, lowHigh_mod, dg_mod h]
theorem lowHigh_dg_high (X V j k : Nat) : dg (lowHigh X V j) (j + k) = dg V k := by
  rw [← dg_div, lowHigh_div]
theorem lowHigh_lt {X V j n : Nat} (h : V < BB ^ n) : lowHigh X V j < BB ^ (j + n) := by
  unfold lowHigh
  have h1 := Nat.mod_lt X (BBp j)
  have h2 : (V + 1) * BB ^ j ≤ BB ^ n * BB ^ j := Nat.mul_le_mul_right _ h
  rw [Nat.add_mul, Nat.one_mul] at h2
  rw [Nat.pow_add, Nat.mul_comm (BB ^ j)]
  omega
theorem lowHigh_self (X j : Nat) : lowHigh X (X / BB ^ j) j = X := by
  unfold lowHigh
  rw [Nat.mul_comm]
  have := Nat.div_add_mod X (BB ^ j)
  omega

/-! ### the division of a by b, both longer than one digit -/
/-- the factor -/
theorem factor_ok {b N f : Nat} (hb : LenOf b N) (hN : 0 < N) (hf : f = BB / (dg b (N - 1) + 1)) : 0 < f ∧ f * b < BB ^ N ∧ 2 * f ≤ BB ∧ LenOf (f * b) N := by
  have ht := dg_top hb hN
  have hl := dg_lt b (N - 1)
  have h0 : 0 < f := by subst hf; exact Nat.div_pos (by omega) (by omega)
  have h1 : f * (dg b (N - 1) + 1) ≤ BB := by subst hf; exact Nat.div_mul_le_self _ _
  have h2 : b < (dg b (N - 1) + 1) * BB ^ (N - 1) := by
    have := mod_succ b (N - 1)
    rw [show N - 1 + 1 = N by omega, Nat.mod_eq_of_lt hb.1] at this
    have h3 := Nat.mod_lt b (BBp (N - 1))
    rw [Nat.add_mul, Nat.one_mul, Nat.mul_comm (dg b (N - 1))]
    omega
  have h3 : f * b < BB ^ N := by
    have a1 : f * b < f * ((dg b (N - 1) + 1) * BB ^ (N - 1)) := Nat.mul_lt_mul_of_pos_left h2 h0
    have a2 : f * ((dg b (N - 1) + 1) * BB ^ (N - 1)) ≤ BB * BB ^ (N - 1) := by rw [← Nat.mul_assoc]; exact Nat.mul_le_mul_right _ h1
    have a3 : BB * BB ^ (N - 1) = BB ^ N := by rw [← Nat.pow_succ']; congr 1; omega
    omega
  refine ⟨h0, h3, ?_, h3, fun _ => ?_⟩
  · have : f * 2 ≤ f * (dg b (N - 1) + 1) := Nat.mul_le_mul_left _ (by omega)
    omega
  · exact Nat.le_trans (hb.2 hN) (Nat.le_mul_of_pos_left _ h0)
theorem scaled_lt {a f L : Nat} (ha : a < BB ^ L) (hf : 0 < f) (h : f ≤ BB) : f * a < BB ^ (L + 1) := by
  have h1 : f * a < f * BB ^ L := Nat.mul_lt_mul_of_pos_left ha hf
  have h2 : f * BB ^ L ≤ BB * BB ^ L := Nat.mul_le_mul_right _ h
  rw [Nat.pow_succ']
  omega
/-- no digit of the quotient stands above -/
theorem quot_start {a b f La N : Nat} (ha : LenOf a La) (hb : LenOf b N) (hN : 0 < N) (h : N ≤ La) (hf : 0 < f) : qN (f * a) (La + 1 - N) < f * b := by
  unfold qN
  rw [Nat.div_lt_iff_lt_mul (BBp _)]
  rw [Nat.mul_assoc]
  refine Nat.mul_lt_mul_of_pos_left ?_ hf
  have h1 := hb.2 hN
  have h2 : BB ^ (N - 1) * BB ^ (La + 1 - N) ≤ b * BB ^ (La + 1 - N) := Nat.mul_le_mul_right _ h1
  rw [← Nat.pow_add, show N - 1 + (La + 1 - N) = La by omega] at h2
  have := ha.1
  omega
theorem quot_end {a b f : Nat} (hf : 0 < f) : f * a / (f * b) = a / b ∧ f * a % (f * b) / f = a % b := by
  refine ⟨Nat.mul_div_mul_left _ _ hf, ?_⟩
  rw [Nat.mul_mod_mul_left, Nat.mul_div_cancel_left _ hf]
/-- what a window becomes when q times y is taken -/
def takeV (W y q n : Nat) : Nat := if q * y ≤ W then W - q * y else BB ^ n + W - q * y
theorem takeV_dg {W y q n : Nat} (hW : W < BB ^ n) (hy : y < BB ^ n) (hq : q * y ≤ W + y) : takeV W y q n < BB ^ n ∧ (∀ i, i < n → dgT W y q i = (dg (takeV W y q n) i : Int)) ∧ (cryT W y q n = if q * y ≤ W then 0 else -1) := by
  unfold takeV
  by_cases h : q * y ≤ W
  · obtain ⟨h1, h2⟩ := takeT_ok W y q n hW hy h
    simp only [if_pos h]
    exact ⟨by omega, h2, h1⟩
  · obtain ⟨h1, h2⟩ := takeT_over W y q n hW hy (by omega) hq
    simp only [if_neg h]
    exact ⟨by omega, h2, h1⟩
theorem giveV {W y q n : Nat} (hy : y < BB ^ n) (hq : q * y ≤ W + y) (h : ¬ q * y ≤ W) : (takeV W y q n + y) % BB ^ n = W - (q - 1) * y := by
  unfold takeV
  rw [if_neg h]
  have h0 : q ≠ 0 := by
    rintro rfl
    omega
  obtain ⟨p, rfl⟩ : ∃ p, q = p + 1 := ⟨q - 1, by omega⟩
  rw [Nat.add_mul, Nat.one_mul] at *
  rw [show BB ^ n + W - (p * y + y) + y = (W - p * y) + BB ^ n by omega, Nat.add_mod_right, Nat.add_sub_cancel]
  exact Nat.mod_eq_of_lt (by omega)
end Go.Proofs.YtopmdeefcjdadaaDoor
