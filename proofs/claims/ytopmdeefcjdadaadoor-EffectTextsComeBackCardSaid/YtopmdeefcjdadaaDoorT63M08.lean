/- NatPlain -/

namespace Go.Proofs.YtopmdeefcjdadaaDoor

/-- the base of the numbers -/
def BB : Nat := 1000000000
theorem BB_pos : 0 < BB := by decide
theorem BBp (i : Nat) : 0 < BB ^ i := Nat.pow_pos BB_pos
/-- a digit of a number -/
def dg (n i : Nat) : Nat := n / BB ^ i % BB

theorem dg_lt (n i : Nat) : dg n i < BB := Nat.mod_lt _ BB_pos
theorem mod_succ (n i : Nat) : n % BB ^ (i + 1) = n % BB ^ i + BB ^ i * dg n i := by
  unfold dg; rw [Nat.pow_succ, Nat.mod_mul]

/-- n has L digits, the highest one not 0 -/
def LenOf (n L : Nat) : Prop := n < BB ^ L ∧ (0 < L → BB ^ (L - 1) ≤ n)

theorem lenOf_zero : LenOf 0 0 := ⟨by decide, by omega⟩
theorem lenOf_unique {n L M : Nat} (h : LenOf n L) (k : LenOf n M) : L = M := by
  have key : ∀ {L M : Nat}, LenOf n L → LenOf n M → ¬ L < M := by
    intro L M h k hlt
    have h1 := k.2 (by omega)
    have h2 : BB ^ L ≤ BB ^ (M - 1) := Nat.pow_le_pow_right BB_pos (by omega)
    have := h.1
    omega
  rcases Nat.lt_trichotomy L M with e | e | e
  · exact absurd e (key h k)
  · exact e
  · exact absurd e (key k h)
theorem lenOf_zero_iff {n L : Nat} (h : LenOf n L) : n = 0 ↔ L = 0 := by
  constructor
  · rintro rfl; exact lenOf_unique h lenOf_zero
  · rintro rfl
    have := h.1
    simp at this; exact this
theorem lenOf_exists (n : Nat) : ∃ L, LenOf n L := by
  have : ∀ M, n < BB ^ M → ∃ L, L ≤ M ∧ LenOf n L := by
    intro M
    induction M with
    | zero => intro h; exact ⟨0, Nat.le_refl _, h, by omega⟩
    | succ M ih =>
      intro h
      by_cases h2 : n < BB ^ M
      · obtain ⟨L, hL, k⟩ := ih h2
        exact ⟨L, by omega, k⟩
      · exact ⟨M + 1, Nat.le_refl _, h, fun _ => by simpa using h2⟩
  obtain ⟨L, _, h⟩ := this n (by
    have : n < 2 ^ n := Nat.lt_two_pow_self
    exact Nat.lt_of_lt_of_le this (Nat.pow_le_pow_left (by decide) n))
  exact ⟨L, h⟩
theorem lenOf_le {n L M : Nat} (h : LenOf n L) (k : n < BB ^ M) : L ≤ M := by
  rcases Nat.lt_or_ge M L with e | e
  · have h1 := h.2 (by omega)
    have h2 : BB ^ M ≤ BB ^ (L - 1) := Nat.pow_le_pow_right BB_pos (by omega)
    omega
  · exact e
theorem dg_top {n L : Nat} (h : LenOf n L) (hL : 0 < L) : 0 < dg n (L - 1) := by
  unfold dg
  have h1 := h.2 hL
  have h2 := h.1
  obtain ⟨M, rfl⟩ : ∃ M, L = M + 1 := ⟨L - 1, by omega⟩
  simp only [Nat.add_sub_cancel] at *
  have h3 : n / BB ^ M < BB := (Nat.div_lt_iff_lt_mul (BBp M)).2 (by rw [Nat.pow_succ, Nat.mul_comm] at h2; exact h2)
  rw [Nat.mod_eq_of_lt h3]
  exact Nat.div_pos h1 (BBp M)
theorem dg_zero_of_lt {n i : Nat} (h : n < BB ^ i) : dg n i = 0 := by
  unfold dg; rw [Nat.div_eq_of_lt h]; rfl

/-- numbers with the same digits -/
theorem eq_of_dg {L : Nat} : ∀ {a b : Nat}, a < BB ^ L → b < BB ^ L → (∀ i, i < L → dg a i = dg b i) → a = b := by
  intro a b ha hb h
  have : ∀ i, i ≤ L → a % BB ^ i = b % BB ^ i := by
    intro i
    induction i with
    | zero => intro _; simp [Nat.mod_one]
    | succ i ih => intro hi; rw [mod_succ, mod_succ, ih (by omega), h i (by omega)]
  have := this L (Nat.le_refl _)
  rwa [Nat.mod_eq_of_lt ha, Nat.mod_eq_of_lt hb] at this

/-- the value of a row of digits -/
def rowV (f : Nat → Nat) : Nat → Nat
  | 0 => 0
  | L + 1 => rowV f L + f L * BB ^ L
theorem rowV_lt (f : Nat → Nat) (L : Nat) (h : ∀ i, i < L → f i < BB) : rowV f L < BB ^ L := by
  induction L with
  | zero => simp [rowV]
  | succ L ih =>
    have h1 := ih fun i hi => h i (by omega)
    have h2 := h L (by omega)
    have h3 : (f L + 1) * BB ^ L ≤ BB * BB ^ L := Nat.mul_le_mul_right _ h2
    rw [rowV, Nat.pow_succ, Nat.mul_comm (BB ^ L) BB]
    have : (f L + 1) * BB ^ L = f L * BB ^ L + BB ^ L := by rw [Nat.add_mul, Nat.one_mul]
    omega
theorem rowV_mod (f : Nat → Nat) (L i : Nat) (h : ∀ i, i < L → f i < BB) (hi : i ≤ L) : rowV f L % BB ^ i = rowV f i := by
  induction L with
  | zero => obtain rfl : i = 0 := by omega
            simp [rowV]
  | succ L ih =>
    by_cases e : i = L + 1
    · subst e; exact Nat.mod_eq_of_lt (rowV_lt f _ h)
    · rw [rowV]
      have : BB ^ L = BB ^ i * BB ^ (L - i) := by rw [← Nat.pow_add]; congr 1; omega
      rw [this, ← Nat.mul_assoc, Nat.mul_comm (f L), Nat.mul_assoc, Nat.add_mul_mod_self_left]
      exact ih (fun i hi => h i (by omega)) (by omega)
theorem dg_rowV (f : Nat → Nat) (L i : Nat) (h : ∀ i, i < L → f i < BB) (hi : i < L) : dg (rowV f L) i = f i := by
  have h1 := rowV_mod f L (i + 1) h (by omega)
  have h2 := rowV_mod f L i h (by omega)
  rw [mod_succ, h2, rowV] at h1
  have h3 : BB ^ i * dg (rowV f L) i = BB ^ i * f i := by rw [Nat.mul_comm (BB ^ i) (f i)]; omega
  exact Nat.eq_of_mul_eq_mul_left (BBp i) h3
theorem rowV_dg (n L : Nat) : rowV (dg n) L = n % BB ^ L := by
  induction L with
  | zero => simp [rowV, Nat.mod_one]
  | succ L ih => rw [rowV, ih, mod_succ, Nat.mul_comm]
theorem rowV_congr {f g : Nat → Nat} {L : Nat} (h : ∀ i, i < L → f i = g i) : rowV f L = rowV g L := by
  induction L with
  | zero => rfl
  | succ L ih => rw [rowV, rowV, ih fun i hi => h i (by omega), h L (by omega)]

/-! ### addition -/
def carryP (a b i : Nat) : Nat := (a % BB ^ i + b % BB ^ i) / BB ^ i
theorem carryP_le (a b i : Nat) : carryP a b i ≤ 1 := by
  unfold carryP
  have h1 := Nat.mod_lt a (BBp i)
  have h2 := Nat.mod_lt b (BBp i)
  exact Nat.le_of_lt_succ ((Nat.div_lt_iff_lt_mul (BBp i)).2 (by omega))
theorem plus_div (a b i : Nat) : (a + b) / BB ^ i = a / BB ^ i + b / BB ^ i + carryP a b i := by
  unfold carryP
  have h1 := Nat.div_add_mod a (BB ^ i)
  have h2 := Nat.div_add_mod b (BB ^ i)
  have h3 : a + b = (a % BB ^ i + b % BB ^ i) + BB ^ i * (a / BB ^ i + b / BB ^ i) := by rw [Nat.mul_add]; omega
  rw [h3, Nat.add_mul_div_left _ _ (BBp i)]
  omega
theorem plus_dg (a b i : Nat) : dg (a + b) i = (carryP a b i + dg a i + dg b i) % BB := by
  unfold dg
  rw [plus_div]
  generalize a / BB ^ i = x
  generalize b / BB ^ i = y
  generalize carryP a b i = c
  unfold BB
  omega
theorem plus_carry (a b i : Nat) : carryP a b (i + 1) = (carryP a b i + dg a i + dg b i) / BB := by
  have h1 := plus_div a b (i + 1)
  have h2 := plus_div a b i
  have e : ∀ x : Nat, x / BB ^ (i + 1) = x / BB ^ i / BB := fun x => by rw [Nat.pow_succ, Nat.div_div_eq_div_mul]
  rw [e, e a, e b, h2] at h1
  unfold dg
  generalize a / BB ^ i = x at *
  generalize b / BB ^ i = y at *
  generalize carryP a b i = c at *
  unfold BB at *
  omega
theorem carryP_zero (a b : Nat) : carryP a b 0 = 0 := by simp [carryP, Nat.mod_one]

/-! ### subtraction -/
def borrowM (a b i : Nat) : Nat := if a % BB ^ i < b % BB ^ i then 1 else 0
theorem minus_dg (a b i : Nat) (h : b ≤ a) : (dg (a - b) i : Int) = ((dg a i : Int) - borrowM a b i - dg b i) + (if (dg a i : Int) - borrowM a b i - dg b i < 0 then 1000000000 else 0) ∧
    borrowM a b (i + 1) = (if (dg a i : Int) - borrowM a b i - dg b i < 0 then 1 else 0) := by
  obtain ⟨c, rfl⟩ : ∃ c, a = c + b := ⟨a - b, by omega⟩
  have h1 := plus_dg c b i
  have h3 : borrowM (c + b) b i = carryP c b i := by
    unfold borrowM carryP
    have h1 := Nat.mod_lt c (BBp i)
    have h2 := Nat.mod_lt b (BBp i)
    rw [Nat.add_mod]
    generalize BB ^ i = P at *
    by_cases e : c % P + b % P < P
    · rw [Nat.mod_eq_of_lt e, Nat.div_eq_of_lt e, if_neg (by omega)]
    · have e2 : (c % P + b % P) % P = c % P + b % P - P := by rw [Nat.mod_eq_sub_mod (by omega), Nat.mod_eq_of_lt (by omega)]
      have e3 : (c % P + b % P) / P = 1 := by rw [Nat.div_eq_iff (by omega)]; omega
      rw [e2, e3, if_pos (by omega)]
  have h4 : borrowM (c + b) b (i + 1) = carryP c b (i + 1) := by
    unfold borrowM carryP
    have h1 := Nat.mod_lt c (BBp (i + 1))
    have h2 := Nat.mod_lt b (BBp (i + 1))
    rw [Nat.add_mod]
    generalize BB ^ (i + 1) = P at *
    by_cases e : c % P + b % P < P
    · rw [Nat.mod_eq_of_lt e, Nat.div_eq_of_lt e, if_neg (by omega)]
    · have e2 : (c % P + b % P) % P = c % P + b % P - P := by rw [Nat.mod_eq_sub_mod (by omega), Nat.mod_eq_of_lt (by omega)]
      have e3 : (c % P + b % P) / P = 1 := by rw [Nat.div_eq_iff (by omega)]; omega
      rw [e2, e3, if_pos (by omega)]
  have h5 := plus_carry c b i
  have hc := carryP_le c b i
  have d1 := dg_lt c i
  have d2 := dg_lt b i
  rw [h3, h4, Nat.add_sub_cancel]
  generalize dg (c + b) i = x at *
  generalize dg c i = y at *
  generalize dg b i = z at *
  generalize carryP c b (i + 1) = u at *
  generalize carryP c b i = v at *
  unfold BB at *
  constructor
  · split <;> omega
  · split <;> omega
end Go.Proofs.YtopmdeefcjdadaaDoor
namespace Go.Proofs.YtopmdeefcjdadaaDoor
/-! ### a digit of the quotient -/
/-- W: the window of x, y the divisor, n + 2 its digits; the guess is never too small and at most one too great -/
theorem guess_big (W y P q Y2 W2 qt : Nat) (hP : 0 < P) (hY : Y2 = y / P) (hW : W2 = W / P) (hy : 0 < y) (hqt : qt = W / y) (h : W2 < q * Y2) : qt + 1 ≤ q := by
  subst hY hW hqt
  have h1 : W < q * y := by
    have a1 := Nat.div_add_mod y P
    have a2 := Nat.div_add_mod W P
    have a3 := Nat.mod_lt W hP
    have a4 : (W / P + 1) * P ≤ q * (y / P) * P := Nat.mul_le_mul_right P h
    have a5 : q * (y / P) * P ≤ q * y := by rw [Nat.mul_assoc]; apply Nat.mul_le_mul_left; rw [Nat.mul_comm]; omega
    rw [Nat.add_mul, Nat.one_mul, Nat.mul_comm (W / P) P] at a4
    omega
  exact (Nat.div_lt_iff_lt_mul hy).2 h1

theorem guess_near (W y P q Y2 W2 qt : Nat) (hP : 0 < P) (hY : Y2 = y / P) (hW : W2 = W / P) (hy : 0 < y) (hqt : qt = W / y) (h : q * Y2 ≤ W2) (hq : q ≤ Y2 + 1) : q ≤ qt + 1 := by
  subst hY hW hqt
  rcases Nat.eq_zero_or_pos q with h0 | h0
  · rw [h0]; exact Nat.zero_le _
  · obtain ⟨p, rfl⟩ : ∃ p, q = p + 1 := ⟨q - 1, by omega⟩
    have h1 : p * y ≤ W := by
      have a1 := Nat.div_add_mod y P
      have a2 := Nat.div_add_mod W P
      have a3 := Nat.mod_lt y hP
      have a4 : (p * (y / P) + p) * P ≤ W / P * P := Nat.mul_le_mul_right P (by rw [Nat.add_mul, Nat.one_mul] at h; omega)
      have a5 : p * y ≤ (p * (y / P) + p) * P := by
        rw [show p * (y / P) + p = p * (y / P + 1) by rw [Nat.mul_add, Nat.mul_one], Nat.mul_assoc]
        apply Nat.mul_le_mul_left
        rw [Nat.add_mul, Nat.one_mul, Nat.mul_comm (y / P) P]; omega
      rw [Nat.mul_comm (W / P) P] at a4
      omega
    have := (Nat.le_div_iff_mul_le hy).2 h1
    omega

/-- what the loop of the guess keeps: top is q v1 + r, and q is not too small -/
theorem guess_start (W y P v1 v2 top x3 qt : Nat) (hP : 0 < P) (hv : y / P = v1 * BB + v2) (hv2 : v2 < BB) (hw : W / P = top * BB + x3) (hx : x3 < BB) (hv1 : 0 < v1) (hqt : qt = W / y) (hW : W < y * BB) :
    qt ≤ top / v1 ∧ top / v1 ≤ BB + BB := by
  subst hqt
  have hy : 0 < y := by
    rcases Nat.eq_zero_or_pos y with h | h
    · subst h; omega
    · exact h
  constructor
  · rw [Nat.le_div_iff_mul_le hv1]
    have a1 := Nat.div_add_mod y P
    have a2 := Nat.div_add_mod W P
    have a3 := Nat.mod_lt W hP
    have a4 : W / y * y ≤ W := Nat.div_mul_le_self W y
    -- (W / y) v1 BB P ≤ W < (top BB + x3 + 1) P ≤ (top + 1) BB P
    have b1 : v1 * BB * P ≤ y := by
      have : v1 * BB * P ≤ (v1 * BB + v2) * P := Nat.mul_le_mul_right _ (by omega)
      rw [← hv, Nat.mul_comm (y / P) P] at this; omega
    have b2 : W / y * (v1 * BB * P) ≤ W := Nat.le_trans (Nat.mul_le_mul_left _ b1) a4
    have b3 : W < (top + 1) * BB * P := by
      have : (W / P + 1) * P ≤ (top + 1) * BB * P := Nat.mul_le_mul_right _ (by rw [hw, Nat.add_mul, Nat.one_mul]; omega)
      rw [Nat.add_mul, Nat.one_mul, Nat.mul_comm (W / P) P] at this
      omega
    have b4 : W / y * v1 * (BB * P) < (top + 1) * (BB * P) := by
      rw [Nat.mul_assoc (W / y), ← Nat.mul_assoc v1, ← Nat.mul_assoc (top + 1)]
      omega
    have := Nat.lt_of_mul_lt_mul_right b4
    omega
  · -- W < y BB < (v1 BB + v2 + 1) P BB
    have a1 := Nat.div_add_mod y P
    have a3 := Nat.mod_lt y hP
    have c1 : y < (v1 * BB + v2 + 1) * P := by
      rw [Nat.add_mul (v1 * BB + v2) 1, Nat.one_mul, ← hv, Nat.mul_comm (y / P) P]; omega
    have c2 : y * BB < (v1 * BB + v2 + 1) * BB * P := by
      rw [Nat.mul_right_comm]; exact Nat.mul_lt_mul_of_pos_right c1 BB_pos
    have c3 : W / P < (v1 * BB + v2 + 1) * BB := (Nat.div_lt_iff_lt_mul hP).2 (by omega)
    rw [hw] at c3
    have c4 : top * BB < (v1 * BB + BB) * BB := by
      have : (v1 * BB + v2 + 1) * BB ≤ (v1 * BB + BB) * BB := Nat.mul_le_mul_right _ (by omega)
      omega
    have c5 : top < v1 * BB + BB := Nat.lt_of_mul_lt_mul_right c4
    have c6 : top < (BB + BB) * v1 + v1 := by
      have : BB ≤ BB * v1 := Nat.le_mul_of_pos_right _ hv1
      rw [Nat.add_mul, Nat.mul_comm BB v1] at *
      omega
    have := (Nat.div_lt_iff_lt_mul hv1 (x := top) (y := BB + BB + 1)).2 (by rw [Nat.add_mul, Nat.one_mul]; exact c6)
    omega

/-- the test says 'too great' -/
theorem guess_down (W y P v1 v2 top x3 qt q r : Nat) (hP : 0 < P) (hv : y / P = v1 * BB + v2) (hw : W / P = top * BB + x3) (hy : 0 < y) (hqt : qt = W / y) (hW : W < y * BB)
    (hr : top = q * v1 + r) (h : BB ≤ q ∨ r * BB + x3 < q * v2) : qt + 1 ≤ q := by
  rcases h with h | h
  · subst hqt
    have := (Nat.div_lt_iff_lt_mul hy (x := W) (y := BB)).2 (by rw [Nat.mul_comm]; exact hW)
    omega
  · refine guess_big W y P q (v1 * BB + v2) (top * BB + x3) qt hP hv.symm hw.symm hy hqt ?_
    subst hr
    rw [Nat.add_mul, Nat.mul_add, Nat.mul_assoc]
    omega
/-- the test says 'not too great' -/
theorem guess_stop (W y P v1 v2 top x3 qt q r : Nat) (hP : 0 < P) (hv : y / P = v1 * BB + v2) (hw : W / P = top * BB + x3) (hy : 0 < y) (hqt : qt = W / y) (hv1 : 0 < v1)
    (hr : top = q * v1 + r) (h1 : q < BB) (h2 : q * v2 ≤ r * BB + x3) : q ≤ qt + 1 := by
  refine guess_near W y P q (v1 * BB + v2) (top * BB + x3) qt hP hv.symm hw.symm hy hqt ?_ ?_
  · subst hr
    rw [Nat.add_mul, Nat.mul_add, Nat.mul_assoc]
    omega
  · have : BB ≤ v1 * BB := Nat.le_mul_of_pos_left _ hv1
    omega
/-- the rest is no digit any more -/
theorem guess_break (W y P v1 v2 top x3 qt q r : Nat) (hP : 0 < P) (hv : y / P = v1 * BB + v2) (hw : W / P = top * BB + x3) (hy : 0 < y) (hqt : qt = W / y) (hv1 : 0 < v1) (hv2 : v2 < BB)
    (hr : top = q * v1 + r) (h1 : q ≤ BB) (h2 : BB ≤ r) : q ≤ qt + 1 := by
  refine guess_near W y P q (v1 * BB + v2) (top * BB + x3) qt hP hv.symm hw.symm hy hqt ?_ ?_
  · subst hr
    rw [Nat.add_mul, Nat.mul_add, Nat.mul_assoc]
    have a1 : q * v2 ≤ BB * BB := Nat.mul_le_mul h1 (Nat.le_of_lt hv2)
    have a2 : BB * BB ≤ r * BB := Nat.mul_le_mul_right _ h2
    omega
  · have : BB ≤ v1 * BB := Nat.le_mul_of_pos_left _ hv1
    omega
end Go.Proofs.YtopmdeefcjdadaaDoor

namespace Go.Proofs.YtopmdeefcjdadaaDoor
/-! ### q times y from a window: digits of a difference that may be less than 0 -/
/-- what is carried at place i of W - q y -/
def cryT (W y q i : Nat) : Int := (((W % BB ^ i : Nat) : Int) - (q : Int) * ((y % BB ^ i : Nat) : Int)) / ((BB ^ i : Nat) : Int)
/-- the digit at place i of W - q y -/
def dgT (W y q i : Nat) : Int := ((dg W i : Int) + cryT W y q i - (q : Int) * (dg y i : Int)) % (BB : Int)
theorem cryT_zero (W y q : Nat) : cryT W y q 0 = 0 := by simp [cryT, Nat.mod_one]
theorem cryT_succ (W y q i : Nat) : cryT W y q (i + 1) = ((dg W i : Int) + cryT W y q i - (q : Int) * (dg y i : Int)) / (BB : Int) := by
  unfold cryT
  rw [mod_succ W, mod_succ y, Nat.pow_succ]
  have hp : (0 : Int) < ((BB ^ i : Nat) : Int) := by have := BBp i; omega
  generalize BB ^ i = P at *
  have e : (((W % P + P * dg W i : Nat) : Int) - (q : Int) * ((y % P + P * dg y i : Nat) : Int)) = (((W % P : Nat) : Int) - (q : Int) * ((y % P : Nat) : Int)) + ((dg W i : Int) - (q : Int) * (dg y i : Int)) * (P : Int) := by
    simp only [Int.natCast_add, Int.natCast_mul, Int.mul_add, Int.sub_mul]
    rw [Int.mul_comm (P : Int) (dg W i : Int), Int.mul_comm (P : Int) (dg y i : Int), ← Int.mul_assoc]
    omega
  rw [e, Int.natCast_mul, ← Int.ediv_ediv_of_nonneg (by omega), Int.add_mul_ediv_right _ _ (by omega)]
  congr 1
  omega
theorem cryT_le (W y q i : Nat) : cryT W y q i ≤ 0 := by
  induction i with
  | zero => rw [cryT_zero]; omega
  | succ i ih =>
    rw [cryT_succ]
    have h1 := dg_lt W i
    have h2 : (0 : Int) ≤ (q : Int) * (dg y i : Int) := Int.mul_nonneg (by omega) (by omega)
    generalize (q : Int) * (dg y i : Int) = z at *
    generalize cryT W y q i = c at *
    unfold BB at *
    omega
theorem cryT_ge (W y q i : Nat) : -(q : Int) ≤ cryT W y q i := by
  induction i with
  | zero => rw [cryT_zero]; omega
  | succ i ih =>
    rw [cryT_succ]
    have h1 := dg_lt W i
    have h2 := dg_lt y i
    have h3 : (q : Int) * (dg y i : Int) ≤ (q : Int) * ((BB : Int) - 1) := Int.mul_le_mul_of_nonneg_left (by omega) (by omega)
    rw [Int.mul_sub, Int.mul_one] at h3
    generalize (q : Int) * (dg y i : Int) = z at *
    generalize cryT W y q i = c at *
    have hz : z ≤ (q : Int) * BB - q := h3
    unfold BB at *
    omega
/-- the whole: what stands in the window behind it -/
theorem rowT (W y q : Nat) (i : Nat) : ((rowV (fun k => (dgT W y q k).toNat) i : Nat) : Int) = (((W % BB ^ i : Nat) : Int) - (q : Int) * ((y % BB ^ i : Nat) : Int)) - cryT W y q i * ((BB ^ i : Nat) : Int) := by
  induction i with
  | zero => simp [rowV, cryT_zero, Nat.mod_one]
  | succ i ih =>
    rw [rowV, cryT_succ, mod_succ W, mod_succ y, Nat.pow_succ]
    have hd : (((dgT W y q i).toNat : Nat) : Int) = dgT W y q i := by
      have : 0 ≤ dgT W y q i := Int.emod_nonneg _ (by unfold BB; omega)
      omega
    simp only [Int.natCast_add, Int.natCast_mul]
    rw [ih, hd]
    unfold dgT
    have e := Int.mul_ediv_add_emod ((dg W i : Int) + cryT W y q i - (q : Int) * (dg y i : Int)) (BB : Int)
    generalize ((BB ^ i : Nat) : Int) = P at *
    generalize ((dg W i : Int) + cryT W y q i - (q : Int) * (dg y i : Int)) % (BB : Int) = m at *
    generalize ((dg W i : Int) + cryT W y q i - (q : Int) * (dg y i : Int)) / (BB : Int) = d at *
    generalize cryT W y q i = c at *
    generalize (dg W i : Int) = a at *
    generalize (dg y i : Int) = b at *
    generalize ((W % BB ^ i : Nat) : Int) = u at *
    generalize ((y % BB ^ i : Nat) : Int) = v at *
    have hm : m = a + c - (q : Int) * b - (BB : Int) * d := by omega
    subst hm
    generalize (BB : Int) = z at *
    generalize (q : Int) = p at *
    simp only [Int.mul_add, Int.sub_mul, Int.add_mul]
    rw [Int.mul_comm P a, ← Int.mul_assoc p P b, Int.mul_comm p P, Int.mul_assoc P p b, Int.mul_comm P (p * b), ← Int.mul_assoc d P z, Int.mul_comm (d * P) z, ← Int.mul_assoc z d P]
    omega
end Go.Proofs.YtopmdeefcjdadaaDoor
namespace Go.Proofs.YtopmdeefcjdadaaDoor
theorem dgT_lt (W y q i : Nat) : 0 ≤ dgT W y q i ∧ dgT W y q i < BB := by
  unfold dgT
  exact ⟨Int.emod_nonneg _ (by unfold BB; omega), Int.emod_lt_of_pos _ (by unfold BB; omega)⟩
theorem takeT_ok (W y q L : Nat) (hW : W < BB ^ L) (hy : y < BB ^ L) (h : q * y ≤ W) : cryT W y q L = 0 ∧ ∀ i, i < L → dgT W y q i = (dg (W - q * y) i : Int) := by
  have hc : cryT W y q L = 0 := by
    unfold cryT
    rw [Nat.mod_eq_of_lt hW, Nat.mod_eq_of_lt hy]
    apply Int.ediv_eq_zero_of_lt
    · have : ((q * y : Nat) : Int) ≤ (W : Int) := by exact_mod_cast h
      rw [Int.natCast_mul] at this; omega
    · have : (0 : Int) ≤ ((q * y : Nat) : Int) := by omega
      rw [Int.natCast_mul] at this; omega
  refine ⟨hc, fun i hi => ?_⟩
  have hr := rowT W y q L
  rw [hc, Nat.mod_eq_of_lt hW, Nat.mod_eq_of_lt hy] at hr
  have e : rowV (fun k => (dgT W y q k).toNat) L = W - q * y := by
    have : ((W - q * y : Nat) : Int) = (W : Int) - (q : Int) * (y : Int) := by rw [Int.natCast_sub h, Int.natCast_mul]
    omega
  have h1 := dg_rowV (fun k => (dgT W y q k).toNat) L i (fun k _ => by have := dgT_lt W y q k; omega) hi
  rw [e] at h1
  have := dgT_lt W y q i
  omega
theorem takeT_over (W y q L : Nat) (hW : W < BB ^ L) (hy : y < BB ^ L) (h : W < q * y) (hq : q * y ≤ W + y) : cryT W y q L = -1 ∧ ∀ i, i < L → dgT W y q i = (dg (BB ^ L + W - q * y) i : Int) := by
  have a1 : ((q * y : Nat) : Int) ≤ (W : Int) + (y : Int) := by exact_mod_cast hq
  have a2 : (W : Int) < ((q * y : Nat) : Int) := by exact_mod_cast h
  have hc : cryT W y q L = -1 := by
    unfold cryT
    rw [Nat.mod_eq_of_lt hW, Nat.mod_eq_of_lt hy]
    rw [Int.natCast_mul] at a1 a2
    rw [show ((W : Int) - (q : Int) * (y : Int)) = ((W : Int) - (q : Int) * (y : Int) + ((BB ^ L : Nat) : Int)) + (-1) * ((BB ^ L : Nat) : Int) by omega, Int.add_mul_ediv_right _ _ (by have := BBp L; omega), Int.ediv_eq_zero_of_lt (by omega) (by omega)]
    rfl
  refine ⟨hc, fun i hi => ?_⟩
  have hr := rowT W y q L
  rw [hc, Nat.mod_eq_of_lt hW, Nat.mod_eq_of_lt hy] at hr
  have e : rowV (fun k => (dgT W y q k).toNat) L = BB ^ L + W - q * y := by
    have h2 : q * y ≤ BB ^ L + W := by omega
    have : ((BB ^ L + W - q * y : Nat) : Int) = ((BB ^ L : Nat) : Int) + (W : Int) - (q : Int) * (y : Int) := by rw [Int.natCast_sub h2, Int.natCast_mul, Int.natCast_add]
    omega
  have h1 := dg_rowV (fun k => (dgT W y q k).toNat) L i (fun k _ => by have := dgT_lt W y q k; omega) hi
  rw [e] at h1
  have := dgT_lt W y q i
  omega
theorem dg_add_pow (L n i : Nat) (hi : i < L) : dg (BB ^ L + n) i = dg n i := by
  unfold dg
  have e : BB ^ L = BB ^ i * (BB * BB ^ (L - i - 1)) := by
    rw [← Nat.mul_assoc, ← Nat.pow_succ, ← Nat.pow_add]; congr 1; omega
  rw [e, Nat.mul_add_div (BBp i), Nat.mul_add_mod]
/-- y given back -/
theorem giveT (W y q L : Nat) (h : W < q * y) (hq : q * y ≤ W + y) (hy : y < BB ^ L) (i : Nat) (hi : i < L) : dg (BB ^ L + W - q * y + y) i = dg (W - (q - 1) * y) i := by
  have h0 : q ≠ 0 := by
    rintro rfl
    omega
  obtain ⟨p, rfl⟩ : ∃ p, q = p + 1 := ⟨q - 1, by omega⟩
  rw [Nat.add_mul, Nat.one_mul] at *
  rw [show BB ^ L + W - (p * y + y) + y = BB ^ L + (W - p * y) by omega, dg_add_pow L _ i hi, Nat.add_sub_cancel]

/-- the digits of a number whose window from j on is another one -/
theorem dg_div (X j i : Nat) : dg (X / BB ^ j) i = dg X (j + i) := by
  unfold dg; rw [Nat.div_div_eq_div_mul, ← Nat.pow_add]
theorem dg_sub_low (X j z k : Nat) (h : z * BB ^ j ≤ X) (hk : k < j) : dg (X - z * BB ^ j) k = dg X k := by
  have e : BB ^ j = BB ^ k * (BB * BB ^ (j - k - 1)) := by
    rw [← Nat.mul_assoc, ← Nat.pow_succ, ← Nat.pow_add]; congr 1; omega
  have h2 : X = (X - z * BB ^ j) + BB ^ k * (BB * (BB ^ (j - k - 1) * z)) := by
    rw [← Nat.mul_assoc BB, ← Nat.mul_assoc, ← e, Nat.mul_comm (BB ^ j) z]; omega
  generalize hA : X - z * BB ^ j = A at *
  unfold dg
  rw [h2, Nat.add_mul_div_left _ _ (BBp k), Nat.add_mul_mod_self_left]
theorem dg_sub_high (X j z i : Nat) : dg (X - z * BB ^ j) (j + i) = dg (X / BB ^ j - z) i := by
  rw [← dg_div]
  congr 1
  rw [Nat.mul_comm z, Nat.sub_mul_div]
end Go.Proofs.YtopmdeefcjdadaaDoor
