/- Plain laws of the reference's naturals: rows of digits that are written place by place, products, quotients by long division. The reference's naturals: what a slice of digits says; the contracts of trim, small. The contracts of small and number. -/
import Derived.Test.YtabalicembhjmaaT45M31
import Derived.Test.YtabalicembhjmaaProg
import Derived.WalkKit
import Derived.WalkSpells
import Derived.WalkLawsBesides
import Derived.OwnWalk
import Derived.Laws.AppendOwn
import Derived.Laws.OwnMore
import Derived.Lib.Hide
import Derived.Handy

namespace Go.Proofs.Ytabalicembhjmaa

/-- what is left of n behind k digits -/
def qN (n k : Nat) : Nat := n / BB ^ k
theorem qN_zero (n : Nat) : qN n 0 = n := by unfold qN; simp
theorem qN_div (n k : Nat) : qN n k / 1000000000 = qN n (k + 1) := by
  unfold qN
  rw [Nat.div_div_eq_div_mul, Nat.pow_succ]; rfl
theorem qN_lt {n k : Nat} (h : qN n k = 0) : n < BB ^ k := (Nat.div_eq_zero_iff_lt (BBp k)).1 h
theorem qN_le (n k : Nat) : qN n k ≤ n := Nat.div_le_self _ _
theorem qN_top {n L : Nat} (h : n < BB ^ L) : qN n L = 0 := Nat.div_eq_of_lt h
theorem qN_step (n i : Nat) : qN n i = BB * qN n (i + 1) + dg n i := by
  have h := qN_div n i
  have h2 : dg n i = qN n i % BB := rfl
  rw [h2, ← h]
  exact (Nat.div_add_mod _ BB).symm

/-! ### products -/
/-- what is carried at place k of T + d m -/
def accC (T m d k : Nat) : Nat := (T % BB ^ k + d * (m % BB ^ k)) / BB ^ k
theorem accC_zero (T m d : Nat) : accC T m d 0 = 0 := by simp [accC, Nat.mod_one]
theorem acc_div (T m d k : Nat) : (T + d * m) / BB ^ k = T / BB ^ k + d * (m / BB ^ k) + accC T m d k := by
  unfold accC
  have h1 := Nat.div_add_mod T (BB ^ k)
  have h2 := Nat.div_add_mod m (BB ^ k)
  have h3 : T + d * m = (T % BB ^ k + d * (m % BB ^ k)) + BB ^ k * (T / BB ^ k + d * (m / BB ^ k)) := by
    have : d * m = d * (BB ^ k * (m / BB ^ k)) + d * (m % BB ^ k) := by rw [← Nat.mul_add, h2]
    rw [this, Nat.mul_add, ← Nat.mul_assoc (BB ^ k) d, Nat.mul_comm (BB ^ k) d, Nat.mul_assoc d]
    omega
  rw [h3, Nat.add_mul_div_left _ _ (BBp k)]
  omega
theorem accC_dg (T m d k : Nat) : dg (T + d * m) k = (dg T k + accC T m d k + d * dg m k) % BB := by
  unfold dg
  rw [acc_div]
  generalize T / BB ^ k = x
  generalize m / BB ^ k = y
  generalize accC T m d k = c
  have hx := Nat.div_add_mod x BB
  have hy := Nat.div_add_mod y BB
  have h3 : x + d * y + c = (x % BB + c + d * (y % BB)) + BB * (x / BB + d * (y / BB)) := by
    have : d * y = d * (BB * (y / BB)) + d * (y % BB) := by rw [← Nat.mul_add, hy]
    rw [this, Nat.mul_add, ← Nat.mul_assoc BB d, Nat.mul_comm BB d, Nat.mul_assoc d]
    omega
  rw [h3, Nat.add_mul_mod_self_left]
theorem accC_succ (T m d k : Nat) : accC T m d (k + 1) = (dg T k + accC T m d k + d * dg m k) / BB := by
  have h1 := acc_div T m d (k + 1)
  have h2 := acc_div T m d k
  have e : ∀ x : Nat, x / BB ^ (k + 1) = x / BB ^ k / BB := fun x => by rw [Nat.pow_succ, Nat.div_div_eq_div_mul]
  rw [e, e T, e m, h2] at h1
  unfold dg
  generalize T / BB ^ k = x at *
  generalize m / BB ^ k = y at *
  generalize accC T m d k = c at *
  have hx := Nat.div_add_mod x BB
  have hy := Nat.div_add_mod y BB
  have h3 : x + d * y + c = (x % BB + c + d * (y % BB)) + BB * (x / BB + d * (y / BB)) := by
    have : d * y = d * (BB * (y / BB)) + d * (y % BB) := by rw [← Nat.mul_add, hy]
    rw [this, Nat.mul_add, ← Nat.mul_assoc BB d, Nat.mul_comm BB d, Nat.mul_assoc d]
    omega
  rw [h3, Nat.add_mul_div_left _ _ BB_pos] at h1
  omega
theorem accC_le (T m d k : Nat) : accC T m d k ≤ d := by
  unfold accC
  have h1 := Nat.mod_lt T (BBp k)
  have h2 := Nat.mod_lt m (BBp k)
  refine Nat.le_of_lt_succ ((Nat.div_lt_iff_lt_mul (BBp k)).2 ?_)
  have : d * (m % BB ^ k) ≤ d * BB ^ k := Nat.mul_le_mul_left _ (Nat.le_of_lt h2)
  rw [Nat.succ_mul]
  omega
theorem acc_all {T m d k : Nat} (hT : T < BB ^ k) (hm : m < BB ^ k) (h : accC T m d k = 0) : T + d * m < BB ^ k := by
  have := acc_div T m d k
  rw [h, Nat.div_eq_of_lt hT, Nat.div_eq_of_lt hm, Nat.mul_zero] at this
  exact (Nat.div_eq_zero_iff_lt (BBp k)).1 (by omega)
theorem pow_mono {a b : Nat} (h : a ≤ b) : BB ^ a ≤ BB ^ b := Nat.pow_le_pow_right BB_pos h
theorem accC_end {T m d M : Nat} (hT : T < BB ^ M) (hm : m < BB ^ M) (hd : d < BB) : accC T m d (M + 1) = 0 := by
  rw [accC_succ, dg_zero_of_lt hT, dg_zero_of_lt hm, Nat.mul_zero]
  have := accC_le T m d M
  exact Nat.div_eq_of_lt (by omega)
theorem row_next (n m i : Nat) : n % BB ^ (i + 1) * m = n % BB ^ i * m + dg n i * m * BB ^ i := by
  rw [mod_succ, Nat.add_mul, Nat.mul_comm (BB ^ i) (dg n i), Nat.mul_assoc, Nat.mul_assoc, Nat.mul_comm (BB ^ i) m]
theorem dg_add_high (S z i j : Nat) (h : j < i) : dg (S + z * BB ^ i) j = dg S j := by
  unfold dg
  have e : z * BB ^ i = BB ^ j * (z * BB ^ (i - j)) := by
    rw [← Nat.mul_assoc, Nat.mul_comm (BB ^ j) z, Nat.mul_assoc, ← Nat.pow_add]; congr 2; omega
  rw [e, Nat.add_mul_div_left _ _ (BBp j)]
  have e2 : z * BB ^ (i - j) = BB * (z * BB ^ (i - j - 1)) := by
    rw [← Nat.mul_assoc, Nat.mul_comm BB z, Nat.mul_assoc, ← Nat.pow_succ']; congr 2; omega
  rw [e2, Nat.add_mul_mod_self_left]
theorem dg_add_at (S z i k : Nat) : dg (S + z * BB ^ i) (i + k) = dg (S / BB ^ i + z) k := by
  rw [← dg_div, Nat.add_mul_div_right _ _ (BBp i)]
theorem low_lt {n m M i : Nat} (hm : m < BB ^ M) : n % BB ^ i * m / BB ^ i < BB ^ M := by
  have h1 := Nat.mod_lt n (BBp i)
  rw [Nat.div_lt_iff_lt_mul (BBp i)]
  rcases Nat.eq_zero_or_pos m with h0 | h0
  · rw [h0, Nat.mul_zero]; exact Nat.mul_pos (BBp M) (BBp i)
  · have h2 : n % BB ^ i * m < BB ^ i * m := Nat.mul_lt_mul_of_pos_right h1 h0
    have h3 : BB ^ i * m ≤ BB ^ i * BB ^ M := Nat.mul_le_mul_left _ (Nat.le_of_lt hm)
    rw [Nat.mul_comm (BB ^ M)]
    omega

/-! ### long division, place by place -/
/-- the rest in front of place i -/
def restQ (a d i : Nat) : Nat := qN a i % d
theorem long_step (a d i : Nat) (hd : 0 < d) : (restQ a d (i + 1) * BB + dg a i) / d = dg (a / d) i ∧ (restQ a d (i + 1) * BB + dg a i) % d = restQ a d i ∧ restQ a d (i + 1) * BB + dg a i < d * BB := by
  unfold restQ
  have h1 := qN_step a i
  have hr := Nat.mod_lt (qN a (i + 1)) hd
  have hg := dg_lt a i
  have hq := Nat.div_add_mod (qN a (i + 1)) d
  have hlt : qN a (i + 1) % d * BB + dg a i < d * BB := by
    have : (qN a (i + 1) % d + 1) * BB ≤ d * BB := Nat.mul_le_mul_right _ hr
    rw [Nat.add_mul, Nat.one_mul] at this
    omega
  have h2 : qN a i = (qN a (i + 1) % d * BB + dg a i) + d * (BB * (qN a (i + 1) / d)) := by
    have e : BB * qN a (i + 1) = BB * (d * (qN a (i + 1) / d)) + BB * (qN a (i + 1) % d) := by rw [← Nat.mul_add, hq]
    rw [h1, e, ← Nat.mul_assoc BB d, Nat.mul_comm BB d, Nat.mul_assoc d, Nat.mul_comm BB (qN a (i + 1) % d)]
    omega
  refine ⟨?_, ?_, hlt⟩
  · have h3 : dg (a / d) i = qN a i / d % BB := by
      unfold dg qN
      rw [Nat.div_div_eq_div_mul, Nat.mul_comm d, ← Nat.div_div_eq_div_mul]
    rw [h3, h2, Nat.add_mul_div_left _ _ hd, Nat.add_mul_mod_self_left]
    exact (Nat.mod_eq_of_lt ((Nat.div_lt_iff_lt_mul hd).2 (by have := hlt; rw [Nat.mul_comm d BB] at this; exact this))).symm
  · rw [h2, Nat.add_mul_mod_self_left]
theorem restQ_top {a d L : Nat} (h : a < BB ^ L) : restQ a d L = 0 := by unfold restQ; rw [qN_top h, Nat.zero_mod]
theorem restQ_zero (a d : Nat) : restQ a d 0 = a % d := by unfold restQ; rw [qN_zero]
theorem restQ_lt (a i : Nat) {d : Nat} (h : 0 < d) : restQ a d i < d := Nat.mod_lt _ h

/-- what is left to divide in front of place i -/
def remX (a d i : Nat) : Nat := restQ a d i * BB ^ i + a % BB ^ i
theorem remX_zero (a d : Nat) : remX a d 0 = a % d := by unfold remX; rw [restQ_zero]; simp [Nat.mod_one]
theorem remX_top {a d i : Nat} (h : qN a i < d) : remX a d i = a := by
  unfold remX restQ
  rw [Nat.mod_eq_of_lt h]
  unfold qN
  rw [Nat.mul_comm]
  exact Nat.div_add_mod a (BB ^ i)
theorem remX_win (a d i : Nat) : remX a d (i + 1) / BB ^ i = restQ a d (i + 1) * BB + dg a i ∧ remX a d (i + 1) % BB ^ i = a % BB ^ i := by
  have e : remX a d (i + 1) = a % BB ^ i + BB ^ i * (restQ a d (i + 1) * BB + dg a i) := by
    unfold remX
    rw [mod_succ, Nat.pow_succ, Nat.mul_add, Nat.mul_comm (BB ^ i) BB, ← Nat.mul_assoc, Nat.mul_comm (BB ^ i) (restQ a d (i + 1) * BB)]
    omega
  rw [e]
  exact ⟨by rw [Nat.add_mul_div_left _ _ (BBp i), Nat.div_eq_of_lt (Nat.mod_lt _ (BBp i)), Nat.zero_add], by rw [Nat.add_mul_mod_self_left, Nat.mod_mod]⟩
/-- the step of the rest -/
theorem remX_step (a d i : Nat) (hd : 0 < d) : remX a d i = (restQ a d (i + 1) * BB + dg a i - dg (a / d) i * d) * BB ^ i + a % BB ^ i := by
  obtain ⟨h1, h2, _⟩ := long_step a d i hd
  have h3 := Nat.div_add_mod (restQ a d (i + 1) * BB + dg a i) d
  rw [h1, h2] at h3
  unfold remX
  congr 2
  rw [Nat.mul_comm (dg (a / d) i) d]
  omega

/-! ### rows that are written place by place -/
/-- digits of A below place j, of B from there on -/
def mixd (A B j i : Nat) : Nat := if i < j then dg A i else dg B i
theorem mixd_lt (A B j i : Nat) : mixd A B j i < BB := by unfold mixd; split <;> exact dg_lt _ _
theorem mixd_low {A B j i : Nat} (h : i < j) : mixd A B j i = dg A i := if_pos h
theorem mixd_high {A B j i : Nat} (h : j ≤ i) : mixd A B j i = dg B i := if_neg (by omega)
/-- a number given by its low part and what stands from place j on -/
def lowHigh (X V j : Nat) : Nat := X % BB ^ j + V * BB ^ j
theorem lowHigh_div (X V j : Nat) : lowHigh X V j / BB ^ j = V := by
  unfold lowHigh
  rw [Nat.add_mul_div_right _ _ (BBp j), Nat.div_eq_of_lt (Nat.mod_lt _ (BBp j)), Nat.zero_add]
theorem lowHigh_mod (X V j : Nat) : lowHigh X V j % BB ^ j = X % BB ^ j := by
  unfold lowHigh
  rw [Nat.add_mul_mod_self_right, Nat.mod_mod]
theorem dg_mod {X j k : Nat} (h : k < j) : dg (X % BB ^ j) k = dg X k := by
  have h1 := mod_succ (X % BB ^ j) k
  have h2 := mod_succ X k
  have e : ∀ t, t ≤ j → X % BB ^ j % BB ^ t = X % BB ^ t := fun t ht => Nat.mod_mod_of_dvd _ (Nat.pow_dvd_pow _ ht)
  rw [e (k + 1) (by omega), e k (by omega), h2] at h1
  have : BB ^ k * dg X k = BB ^ k * dg (X % BB ^ j) k := by omega
  exact (Nat.eq_of_mul_eq_mul_left (BBp k) this).symm
theorem lowHigh_dg_low (X V : Nat) {j k : Nat} (h : k < j) : dg (lowHigh X V j) k = dg X k := by
  rw [← dg_mod (X := lowHigh X V j) h, lowHigh_mod, dg_mod h]
theorem lowHigh_dg_high (X V j k : Nat) : dg (lowHigh X V j) (j + k) = dg V k := by
  rw [← dg_div, lowHigh_div]
theorem lowHigh_lt {X V j n : Nat} (h : V < BB ^ n) : lowHigh X V j < BB ^ (j + n) := by
  unfold lowHigh
  have h1 := Nat.mod_lt X (BBp j)
  have h2 : (V + 1) * BB ^ j ≤ BB ^ n * BB ^ j := Nat.mul_le_mul_right _ h
  rw [Nat.add_mul, Nat.one_mul] at h2
  rw [Nat.pow_add, Nat.mul_comm (BB ^ j)]
  omega
theorem lowHigh_self (X j : Nat) : lowHigh X (X / BB ^ j) j = X := by
  unfold lowHigh
  rw [Nat.mul_comm]
  have := Nat.div_add_mod X (BB ^ j)
  omega

/-! ### the division of a by b, both longer than one digit -/
/-- the factor -/
theorem factor_ok {b N f : Nat} (hb : LenOf b N) (hN : 0 < N) (hf : f = BB / (dg b (N - 1) + 1)) : 0 < f ∧ f * b < BB ^ N ∧ 2 * f ≤ BB ∧ LenOf (f * b) N := by
  have ht := dg_top hb hN
  have hl := dg_lt b (N - 1)
  have h0 : 0 < f := by subst hf; exact Nat.div_pos (by omega) (by omega)
  have h1 : f * (dg b (N - 1) + 1) ≤ BB := by subst hf; exact Nat.div_mul_le_self _ _
  have h2 : b < (dg b (N - 1) + 1) * BB ^ (N - 1) := by
    have := mod_succ b (N - 1)
    rw [show N - 1 + 1 = N by omega, Nat.mod_eq_of_lt hb.1] at this
    have h3 := Nat.mod_lt b (BBp (N - 1))
    rw [Nat.add_mul, Nat.one_mul, Nat.mul_comm (dg b (N - 1))]
    omega
  have h3 : f * b < BB ^ N := by
    have a1 : f * b < f * ((dg b (N - 1) + 1) * BB ^ (N - 1)) := Nat.mul_lt_mul_of_pos_left h2 h0
    have a2 : f * ((dg b (N - 1) + 1) * BB ^ (N - 1)) ≤ BB * BB ^ (N - 1) := by rw [← Nat.mul_assoc]; exact Nat.mul_le_mul_right _ h1
    have a3 : BB * BB ^ (N - 1) = BB ^ N := by rw [← Nat.pow_succ']; congr 1; omega
    omega
  refine ⟨h0, h3, ?_, h3, fun _ => ?_⟩
  · have : f * 2 ≤ f * (dg b (N - 1) + 1) := Nat.mul_le_mul_left _ (by omega)
    omega
  · exact Nat.le_trans (hb.2 hN) (Nat.le_mul_of_pos_left _ h0)
theorem scaled_lt {a f L : Nat} (ha : a < BB ^ L) (hf : 0 < f) (h : f ≤ BB) : f * a < BB ^ (L + 1) := by
  have h1 : f * a < f * BB ^ L := Nat.mul_lt_mul_of_pos_left ha hf
  have h2 : f * BB ^ L ≤ BB * BB ^ L := Nat.mul_le_mul_right _ h
  rw [Nat.pow_succ']
  omega
/-- no digit of the quotient stands above -/
theorem quot_start {a b f La N : Nat} (ha : LenOf a La) (hb : LenOf b N) (hN : 0 < N) (h : N ≤ La) (hf : 0 < f) : qN (f * a) (La + 1 - N) < f * b := by
  unfold qN
  rw [Nat.div_lt_iff_lt_mul (BBp _)]
  rw [Nat.mul_assoc]
  refine Nat.mul_lt_mul_of_pos_left ?_ hf
  have h1 := hb.2 hN
  have h2 : BB ^ (N - 1) * BB ^ (La + 1 - N) ≤ b * BB ^ (La + 1 - N) := Nat.mul_le_mul_right _ h1
  rw [← Nat.pow_add, show N - 1 + (La + 1 - N) = La by omega] at h2
  have := ha.1
  omega
theorem quot_end {a b f : Nat} (hf : 0 < f) : f * a / (f * b) = a / b ∧ f * a % (f * b) / f = a % b := by
  refine ⟨Nat.mul_div_mul_left _ _ hf, ?_⟩
  rw [Nat.mul_mod_mul_left, Nat.mul_div_cancel_left _ hf]
/-- what a window becomes when q times y is taken -/
def takeV (W y q n : Nat) : Nat := if q * y ≤ W then W - q * y else BB ^ n + W - q * y
theorem takeV_dg {W y q n : Nat} (hW : W < BB ^ n) (hy : y < BB ^ n) (hq : q * y ≤ W + y) : takeV W y q n < BB ^ n ∧ (∀ i, i < n → dgT W y q i = (dg (takeV W y q n) i : Int)) ∧ (cryT W y q n = if q * y ≤ W then 0 else -1) := by
  unfold takeV
  by_cases h : q * y ≤ W
  · obtain ⟨h1, h2⟩ := takeT_ok W y q n hW hy h
    simp only [if_pos h]
    exact ⟨by omega, h2, h1⟩
  · obtain ⟨h1, h2⟩ := takeT_over W y q n hW hy (by omega) hq
    simp only [if_neg h]
    exact ⟨by omega, h2, h1⟩
theorem giveV {W y q n : Nat} (hy : y < BB ^ n) (hq : q * y ≤ W + y) (h : ¬ q * y ≤ W) : (takeV W y q n + y) % BB ^ n = W - (q - 1) * y := by
  unfold takeV
  rw [if_neg h]
  have h0 : q ≠ 0 := by
    rintro rfl
    omega
  obtain ⟨p, rfl⟩ : ∃ p, q = p + 1 := ⟨q - 1, by omega⟩
  rw [Nat.add_mul, Nat.one_mul] at *
  rw [show BB ^ n + W - (p * y + y) + y = (W - p * y) + BB ^ n by omega, Nat.add_mod_right, Nat.add_sub_cancel]
  exact Nat.mod_eq_of_lt (by omega)
end Go.Proofs.Ytabalicembhjmaa

namespace Go.Proofs.Ytabalicembhjmaa
open Go.RowKit
set_option linter.unusedVariables false
set_option linter.unusedSimpArgs false

/-- a slice of L digits of n, n below the base to the power of L; its cells lie below block B -/
def RowN (B : Nat) (w : World) (v : Value) (n L : Nat) : Prop :=
  ∃ ao cap, v = .slice ao L cap ∧ L ≤ cap ∧ cap ≤ 9223372036854775807 ∧ n < BB ^ L ∧ (0 < L → ∃ b off, ao = some ⟨b, off, none⟩ ∧ b < B ∧ ∀ i, i < L → w.cell? ⟨b, off + i, none⟩ = some (.int .i64 (dg n i : Nat)))
/-- without needless zeros -/
def IsN (B : Nat) (w : World) (v : Value) (n : Nat) : Prop := ∃ L, LenOf n L ∧ RowN B w v n L

theorem RowN.keep {B L n : Nat} {w w' : World} {v : Value} (h : RowN B w v n L) (hk : ∀ b o, b < B → w'.cell? ⟨b, o, none⟩ = w.cell? ⟨b, o, none⟩) : RowN B w' v n L := by
  obtain ⟨ao, cap, e, h1, h2, h3, h4⟩ := h
  refine ⟨ao, cap, e, h1, h2, h3, fun hl => ?_⟩
  obtain ⟨b, off, e2, hb, hc⟩ := h4 hl
  exact ⟨b, off, e2, hb, fun i hi => (hk _ _ hb).trans (hc i hi)⟩
theorem RowN.below {B L n : Nat} {w w' : World} {v : Value} (h : RowN B w v n L) (hb : Below B w w') : RowN B w' v n L := h.keep fun _ _ hp => hb.cell hp
theorem RowN.more {B B' L n : Nat} {w : World} {v : Value} (h : RowN B w v n L) (hB : B ≤ B') : RowN B' w v n L := by
  obtain ⟨ao, cap, e, h1, h2, h3, h4⟩ := h
  refine ⟨ao, cap, e, h1, h2, h3, fun hl => ?_⟩
  obtain ⟨b, off, e2, hb, hc⟩ := h4 hl
  exact ⟨b, off, e2, by omega, hc⟩
theorem IsN.below {B n : Nat} {w w' : World} {v : Value} (h : IsN B w v n) (hb : Below B w w') : IsN B w' v n := by obtain ⟨L, h1, h2⟩ := h; exact ⟨L, h1, h2.below hb⟩
theorem IsN.more {B B' n : Nat} {w : World} {v : Value} (h : IsN B w v n) (hB : B ≤ B') : IsN B' w v n := by obtain ⟨L, h1, h2⟩ := h; exact ⟨L, h1, h2.more hB⟩

/-- the cells of L digits -/
def dcells (n L : Nat) : List Value := (List.range L).map fun i => .int .i64 (dg n i : Nat)
theorem dcells_len (n L : Nat) : (dcells n L).length = L := by simp [dcells]
theorem dcells_succ (n L : Nat) : dcells n (L + 1) = dcells n L ++ [.int .i64 (dg n L : Nat)] := by simp [dcells, List.range_succ]
theorem RowN.of_own {w : World} {base e : Nat} {v : Value} {n L : Nat} (h : w.ownsRow base e 1 v L (dcells n L)) (hn : n < BB ^ L) : RowN w.heap.size w v n L := by
  rcases h.2 with ⟨rfl, rfl⟩ | ⟨g, cap, cur, rfl, hb, hg, h1, h2, h3, h4⟩
  · exact ⟨none, 0, rfl, Nat.le_refl _, by omega, hn, fun h => absurd h (Nat.lt_irrefl _)⟩
  · refine ⟨some ⟨g, 0, none⟩, cap, rfl, by omega, by unfold maxLen at h2; omega, hn, fun _ => ⟨g, 0, rfl, ?_, fun i hi => ?_⟩⟩
    · exact (Array.getElem?_eq_some_iff.1 hg).1
    · have := h.cells (g := g) rfl i (.int .i64 (dg n i : Nat)) (by simp [dcells, hi])
      have e : (⟨g, 0, none⟩ : Addr).add i = ⟨g, 0 + i, none⟩ := by unfold Addr.add; split <;> simp_all
      rw [e] at this
      exact this

theorem int_info : (Try.prog.info? 3).map (fun i => (i.zero, i.size, i.bytes)) = some (some (.int .i64 0), 1, 8) := by kernel_rfl

theorem lenOf_of_top {n k : Nat} (h1 : n < BB ^ k) (h2 : k = 0 ∨ dg n (k - 1) ≠ 0) : LenOf n k := by
  refine ⟨h1, fun hk => ?_⟩
  rcases h2 with h2 | h2
  · omega
  · by_cases hlt : n < BB ^ (k - 1)
    · exact absurd (dg_zero_of_lt hlt) h2
    · omega
theorem lt_of_top {n k : Nat} (h1 : n < BB ^ (k + 1)) (h2 : dg n k = 0) : n < BB ^ k := by
  have := mod_succ n k
  rw [h2, Nat.mul_zero, Nat.add_zero, Nat.mod_eq_of_lt h1] at this
  rw [this]
  exact Nat.mod_lt _ (BBp k)

def TrimP (n : Nat) (ao : Option Addr) (L cap : Nat) (w : World) (e : Ending) (w' : World) : Prop := (∃ k, k ≤ L ∧ e = .returned (.slice ao k cap) ∧ LenOf n k) ∧ w = w'
theorem RowN.front {B n L k : Nat} {w : World} {ao : Option Addr} {cap : Nat} (h : RowN B w (.slice ao L cap) n L) (hk : k ≤ L) (hn : n < BB ^ k) : RowN B w (.slice ao k cap) n k := by
  obtain ⟨ao', cap', e, h1, h2, h3, h4⟩ := h
  injection e with e1 e2 e3
  subst e1 e3
  exact ⟨_, _, rfl, by omega, h2, hn, fun h0 => by
    obtain ⟨b, off, e2, hb, hc⟩ := h4 (by omega)
    exact ⟨b, off, e2, hb, fun i hi => hc i (by omega)⟩⟩

set_option maxHeartbeats 2000000 in
theorem trim_any (B n L cap : Nat) (ao : Option Addr) (w : World) (h : RowN B w (.slice ao L cap) n L) : Calls Try.prog 114 #[.slice ao L cap] w (TrimP n ao L cap w) := by
  obtain ⟨ao', cap', he, c1, c2, hn, hx⟩ := id h
  injection he with he1 he2 he3
  subst he1 he3
  have HX := Lib.hid hx
  have HN := Lib.hid hn
  clear h hx hn
  go_enter Try.func114, Try.ntmps114
  go_wp2
  go_loop [3] (fun c => ∃ k : Nat, k ≤ L ∧ c = .int .i64 k ∧ Hid (n < BB ^ k)) (fun c => (intOf c).toNat)
  case atStart => exact ⟨L, Nat.le_refl _, rfl, HN⟩
  case round =>
    obtain ⟨k, hk, rfl, hnk⟩ := hrel
    by_cases h0 : k = 0
    · subst h0
      go_wp2
      go_ret
      exact ⟨⟨0, Nat.zero_le _, rfl, lenOf_of_top hnk.out (.inl rfl)⟩, rfl⟩
    · obtain ⟨b, off, rfl, hb, hc⟩ := HX.out (by omega)
      obtain ⟨k, rfl⟩ : ∃ j, k = j + 1 := ⟨k - 1, by omega⟩
      have hc0 := hc k (by omega)
      have e1 : ((k + 1 : Nat) : Int) - 1 = (k : Nat) := by omega
      have hcst : 0 < ((k + 1 : Nat) : Int) := by omega
      have HT := Lib.hid (fun h => lt_of_top (k := k) hnk.out h)
      have HU := Lib.hid (fun (h : dg n k ≠ 0) => lenOf_of_top (k := k + 1) hnk.out (.inr h))
      clear hc h0
      generalize dg n k = d at *
      by_cases hd : d = 0
      · subst hd
        go_wp2
        go_round
        case rel => exact ⟨k, by omega, by go_num, Lib.hid (HT.out rfl)⟩
        case measure => simp [intOf]
      · go_wp2
        go_ret
        exact ⟨⟨k + 1, hk, rfl, HU.out hd⟩, rfl⟩

theorem dcells_take {n L k : Nat} (h : k ≤ L) : (dcells n L).take k = dcells n k := by
  unfold dcells
  rw [← List.map_take, List.take_range, Nat.min_eq_left h]
theorem own_front {w : World} {base e : Nat} {ao : Option Addr} {n k cap : Nat} {xs : List Value} (h : w.ownsRow base e 1 (.slice ao n cap) n xs) (hk : k ≤ n) : w.ownsRow base e 1 (.slice ao k cap) k (xs.take k) := by
  have hl := h.1
  rcases h.2 with ⟨h', rfl⟩ | ⟨g, cap', cur, h', hb, hg, h1, h2, h3, h4⟩
  · injection h' with h1 h2 h3
    subst h1 h3
    obtain rfl : k = 0 := by omega
    exact ⟨by simp, .inl ⟨rfl, by simp⟩⟩
  · injection h' with e1 e2 e3
    subst e1 e3
    refine ⟨by simp at hl ⊢; omega, .inr ⟨g, _, cur, rfl, hb, hg, by omega, h2, h3, ?_⟩⟩
    rw [← h4, List.take_take]
    congr 1
    omega
/-- a new number in a row of the call's own -/
def NewO (base n : Nat) (w : World) (e : Ending) (w' : World) : Prop := ∃ v L, e = .returned v ∧ LenOf n L ∧ w'.ownsRow base 3 1 v L (dcells n L) ∧ Below base w w'
def TrimO (base n : Nat) (w : World) (e : Ending) (w' : World) : Prop := (∃ v L, e = .returned v ∧ LenOf n L ∧ w.ownsRow base 3 1 v L (dcells n L)) ∧ w = w'
theorem own_shape1 {w : World} {base : Nat} {e : TypeId} {size : Nat} {v : Value} {n : Nat} {xs : List Value} (h : w.ownsRow base e size v n xs) : ∃ ao cap, v = .slice ao n cap := by
  rcases h.2 with ⟨rfl, rfl⟩ | ⟨g, cap, cur, rfl, _⟩
  · exact ⟨_, _, rfl⟩
  · exact ⟨_, _, rfl⟩
theorem trim_own (base n L : Nat) (v : Value) (w : World) (h : w.ownsRow base 3 1 v L (dcells n L)) (hn : n < BB ^ L) : Calls Try.prog 114 #[v] w (TrimO base n w) := by
  obtain ⟨ao, cap, rfl⟩ := own_shape1 h
  refine (trim_any w.heap.size n L cap ao w (RowN.of_own h hn)).mono ?_
  rintro e w' ⟨⟨k, hk, rfl, hl⟩, rfl⟩
  refine ⟨⟨_, k, rfl, hl, ?_⟩, rfl⟩
  have := own_front h hk
  rwa [dcells_take hk] at this
end Go.Proofs.Ytabalicembhjmaa

namespace Go.Proofs.Ytabalicembhjmaa
open Go.RowKit
set_option linter.unusedVariables false
set_option linter.unusedSimpArgs false

theorem tmod_nat (m d : Nat) : Int.tmod (m : Int) (d : Int) = ((m % d : Nat) : Int) := (Int.ofNat_tmod m d).symm
theorem tdiv_nat (m d : Nat) : Int.tdiv (m : Int) (d : Int) = ((m / d : Nat) : Int) := (Int.ofNat_tdiv m d).symm
/-- a new number -/
def NewN (n : Nat) (w : World) (e : Ending) (w' : World) : Prop := ∃ v, e = .returned v ∧ IsN w'.heap.size w' v n ∧ Below w.heap.size w w'
theorem one_int (w : World) (x : Int) (T : TypeId) (fz : Nat × Nat) (j : Nat) (u : Value) (h : [Value.int .i64 x][j]? = some u) : (w.alloc (.cells #[.int .i64 x] T fz)).cell? ((⟨w.heap.size, 0, none⟩ : Addr).add j) = some u := by
  match j, h with
  | 0, h =>
    simp at h
    subst h
    exact World.cell?_alloc_mark w _ T fz 0
theorem int_one (x : Int) : ∀ u ∈ [Value.int .i64 x], u.oneCell' = true := by
  intro u hu
  simp at hu
  subst hu
  rfl
theorem below_own1 {w wr w2 : World} {v : Value} {e n : Nat} {xs : List Value} {o : Obj} (hb : Below w.heap.size w wr) (ho : wr.ownsRow w.heap.size e 1 v n xs) (hg : (wr.alloc o).grownBy w2 v.ownBlock) (hs : w.heap.size ≤ wr.heap.size) : Below w.heap.size w w2 :=
  (hb.alloc hs o).grown hg (by simp; omega) fun k hk => (ho.lt k hk).1
theorem qN_dg (n k : Nat) : dcells n (k + 1) = dcells n k ++ [.int .i64 ((qN n k % 1000000000 : Nat) : Int)] := dcells_succ n k
theorem BB20 : 9223372036854775807 < BB ^ 20 := by unfold BB; decide
theorem qN_20 {n : Nat} (h : n ≤ 9223372036854775807) : qN n 20 = 0 := Nat.div_eq_of_lt (Nat.lt_of_le_of_lt h BB20)
theorem lenOf_of_div {n k : Nat} (h : qN n k = 0) (hz : k = 0 ∨ qN n (k - 1) ≠ 0) : LenOf n k := by
  refine ⟨qN_lt h, fun hk0 => ?_⟩
  rcases hz with h | h
  · omega
  · by_cases hlt : n < BB ^ (k - 1)
    · exact absurd (Nat.div_eq_of_lt hlt) h
    · omega
theorem small_val {m m2 : Nat} (h : wrap64 ((m : Int) / 1000000000) = (m : Int) / 1000000000) (hv : m / 1000000000 = m2) :
    Value.int .i64 (wrap64 ((m : Int) / 1000000000)) = Value.int .i64 (m2 : Int) := by
  rw [h, ← hv]
  exact congrArg _ (by omega)
theorem small_less {m m2 : Nat} (h : wrap64 ((m : Int) / 1000000000) = (m : Int) / 1000000000) (hv : m / 1000000000 = m2) (hm : m ≠ 0) :
    (intOf (Value.int .i64 (wrap64 ((m : Int) / 1000000000)))).toNat < (intOf (Value.int .i64 (m : Int))).toNat := by
  rw [h]
  simp only [intOf]
  omega
theorem div_wrap {m : Nat} (h : m ≤ 9223372036854775807) : wrap64 ((m : Int) / 1000000000) = (m : Int) / 1000000000 := IntWalk.wrap64_in _ ⟨by omega, by omega⟩
theorem mod_val (m : Nat) : (m : Int) % 1000000000 = ((m % 1000000000 : Nat) : Int) := by omega

set_option maxHeartbeats 2000000 in
set_option maxRecDepth 100000 in
theorem small_any (n : Nat) (w : World) (h : n ≤ 9223372036854775807) : Calls Try.prog 98 #[.int .i64 n] w (NewO w.heap.size n w) := by
  have H := Lib.hid h
  clear h
  obtain ⟨i0, hi, hz0, hz1, hz2⟩ := info_parts int_info
  have Hi := Lib.hid hi
  have Hz0 := Lib.hid hz0
  have Hz1 := Lib.hid hz1
  have Hz2 := Lib.hid hz2
  clear hi hz0 hz1 hz2
  go_enter Try.func98, Try.ntmps98
  go_wp2
  go_loopw [0, 3] (fun x v wr => ∃ k : Nat, k ≤ 20 ∧ x = .int .i64 (qN n k : Nat) ∧ Hid (k = 0 ∨ qN n (k - 1) ≠ 0) ∧ wr.ownsRow w.heap.size 3 1 v k (dcells n k) ∧ Below w.heap.size w wr) (fun x _ _ => (intOf x).toNat)
  case atStart => exact ⟨0, by omega, by rw [qN_zero], Lib.hid (.inl rfl), by simpa [dcells] using World.ownsRow_nil _ _ _ _, Below.refl _ _⟩
  case round =>
    rename_i wr
    obtain ⟨k, hk, rfl, hnz, hown, hb⟩ := hrel
    have HO := Lib.hid hown
    have HB := Lib.hid hb
    have hsz := hb.size
    have HM := Lib.hid (qN_dg n k)
    have HV := Lib.hid (qN_div n k)
    have HZ := Lib.hid (fun h : qN n k = 0 => lenOf_of_div h hnz.out)
    have HK := Lib.hid (fun e : k = 20 => (show qN n k = 0 by rw [e]; exact qN_20 H.out))
    have HW := Lib.hid True.intro
    have HB9 := Lib.hid (Nat.le_trans (qN_le n k) H.out)
    obtain ⟨ao, cap, rfl⟩ := own_shape1 hown
    have HNZ := Lib.hid (fun h : qN n k ≠ 0 => (show k + 1 = 0 ∨ qN n (k + 1 - 1) ≠ 0 from .inr h))
    clear hown hb hnz
    generalize hm2 : qN n (k + 1) = m2 at *
    generalize hm : qN n k = m at *
    have HM2 := Lib.hid hm2
    clear hm2 hm
    by_cases h0 : m = 0
    · have HL := Lib.hid (HZ.out h0)
      subst h0
      clear HZ HW HNZ HK HM HV
      go_wp2
      go_ret
      exact ⟨_, k, rfl, HL.out, HO.out, HB.out⟩
    · have hpos : 0 < (m : Int) := by omega
      have hk20 : k < 20 := by
        by_cases he : k = 20
        · exact absurd (HK.out he) h0
        · omega
      have HNZ2 := Lib.hid (HNZ.out h0)
      have ht : Int.tmod (m : Int) 1000000000 = ((m % 1000000000 : Nat) : Int) := tmod_nat m 1000000000
      have hq : Int.tdiv (m : Int) 1000000000 = (m2 : Int) := by
        have := tdiv_nat m 1000000000
        rw [HV.out] at this
        exact this
      have H0 := Lib.hid h0
      clear HNZ HK HZ HW
      go_wp2_with (at_builtin; refine wpList_append_own _ rfl _ _ 126 rfl w.heap.size 3 i0 (.int .i64 0) 1 8 Try.underlying126 Hi.out Hz0.out Hz1.out Hz2.out rfl (by decide) _ _ _ rfl (HO.out.alloc _) ⟨wr.heap.size, 0, none⟩ 1 1 [.int .i64 ((m % 1000000000 : Nat) : Int)] rfl rfl ?c1 (int_one _) ?c3 ?c4 ?c5 ?_)
      case c1 => rw [← mod_val m]; exact one_int wr _ _ _
      case c3 => unfold maxLen; omega
      case c4 => omega
      case c5 => simp; omega
      intro v' w2 hown2 hgrow _
      rw [mod_val m, ← HM.out] at hown2
      obtain ⟨ao2, vc2, hv2⟩ := own_shape1 hown2
      have HB2 := Lib.hid (below_own1 HB.out HO.out hgrow hsz)
      rw [hv2] at hown2 ⊢
      have HO2 := Lib.hid hown2
      clear hv2 hown2 hgrow HM HO ht hq
      go_wp2
      go_roundw
      case rel => exact ⟨k + 1, by omega, by rw [HM2.out]; exact small_val (div_wrap HB9.out) HV.out, HNZ2, HO2.out, HB2.out⟩
      case measure => exact small_less (div_wrap HB9.out) HV.out H0.out
end Go.Proofs.Ytabalicembhjmaa
