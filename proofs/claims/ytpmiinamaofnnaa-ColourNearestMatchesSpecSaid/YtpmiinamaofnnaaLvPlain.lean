/- Plain laws of level: rounding, ways of curves, fades. No program in sight. -/
namespace Go.Proofs.Ytpmiinamaofnnaa

/-- Round: the whole number nearest to n / d, of two the greater one. -/
def rnd (n d : Int) : Int := (2 * n + d) / (2 * d)

/-- rnd n d is the k with (2 k - 1) d <= 2 n < (2 k + 1) d. -/
theorem rnd_iff {n d k : Int} (hd : 0 < d) : rnd n d = k ↔ (2 * k - 1) * d ≤ 2 * n ∧ 2 * n < (2 * k + 1) * d := by
  unfold rnd
  have e1 : (2 * k - 1) * d = 2 * (k * d) - d := by grind
  have e2 : (2 * k + 1) * d = 2 * (k * d) + d := by grind
  rw [e1, e2]
  constructor
  · rintro rfl
    have h1 := Int.mul_ediv_self_le (x := 2 * n + d) (k := 2 * d) (by omega)
    have h2 := Int.lt_mul_ediv_self_add (x := 2 * n + d) (k := 2 * d) (by omega)
    have e3 : 2 * d * ((2 * n + d) / (2 * d)) = 2 * ((2 * n + d) / (2 * d) * d) := by grind
    omega
  · rintro ⟨h1, h2⟩
    have h3 : k ≤ (2 * n + d) / (2 * d) := (Int.le_ediv_iff_mul_le (by omega)).2 (by
      have e3 : k * (2 * d) = 2 * (k * d) := by grind
      omega)
    have h4 : (2 * n + d) / (2 * d) < k + 1 := (Int.ediv_lt_iff_lt_mul (by omega)).2 (by
      have e3 : (k + 1) * (2 * d) = 2 * (k * d) + 2 * d := by grind
      omega)
    omega

theorem rnd_lo {n d : Int} (hd : 0 < d) : (2 * rnd n d - 1) * d ≤ 2 * n := ((rnd_iff hd).1 rfl).1
theorem rnd_hi {n d : Int} (hd : 0 < d) : 2 * n < (2 * rnd n d + 1) * d := ((rnd_iff hd).1 rfl).2

theorem lt_of_mul_lt {a b c : Int} (hc : 0 < c) (h : a * c < b * c) : a < b := by
  rcases Int.lt_or_le a b with h1 | h1
  · exact h1
  · have := Int.mul_le_mul_of_nonneg_right h1 (Int.le_of_lt hc)
    omega
theorem le_of_mul_le {a b c : Int} (hc : 0 < c) (h : a * c ≤ b * c) : a ≤ b := by
  rcases Int.lt_or_le b a with h1 | h1
  · have := Int.mul_lt_mul_of_pos_right h1 hc
    omega
  · exact h1

/-- the rounding of equal fractions -/
theorem rnd_congr {a b c e : Int} (hb : 0 < b) (he : 0 < e) (h : a * e = c * b) : rnd a b = rnd c e := by
  rw [rnd_iff hb]
  have h1 := rnd_lo (n := c) he
  have h2 := rnd_hi (n := c) he
  generalize rnd c e = k at *
  constructor
  · refine le_of_mul_le he ?_
    have := Int.mul_le_mul_of_nonneg_right h1 (Int.le_of_lt hb)
    grind
  · refine lt_of_mul_lt he ?_
    have := Int.mul_lt_mul_of_pos_right h2 hb
    grind

/-- rounding grows with the fraction -/
theorem rnd_mono {a b c e : Int} (hb : 0 < b) (he : 0 < e) (h : a * e ≤ c * b) : rnd a b ≤ rnd c e := by
  have h1 := rnd_lo (n := a) hb
  have h2 := rnd_hi (n := c) he
  generalize rnd a b = j at *
  generalize rnd c e = k at *
  have h3 := Int.mul_le_mul_of_nonneg_right h1 (Int.le_of_lt he)
  have h4 := Int.mul_lt_mul_of_pos_right h2 hb
  have hbe : 0 < b * e := Int.mul_pos hb he
  have h5 : (2 * j - 1) * (b * e) < (2 * k + 1) * (b * e) := by grind
  have := lt_of_mul_lt hbe h5
  omega

theorem rnd_whole (k d : Int) (hd : 0 < d) : rnd (k * d) d = k := by
  rw [rnd_iff hd]
  have e1 : (2 * k - 1) * d = 2 * (k * d) - d := by grind
  have e2 : (2 * k + 1) * d = 2 * (k * d) + d := by grind
  omega
theorem rnd_zero (d : Int) (hd : 0 < d) : rnd 0 d = 0 := by simpa using rnd_whole 0 d hd

theorem rnd_add (k n d : Int) (hd : 0 < d) : rnd (k * d + n) d = k + rnd n d := by
  rw [rnd_iff hd]
  have h1 := rnd_lo (n := n) hd
  have h2 := rnd_hi (n := n) hd
  generalize rnd n d = j at *
  constructor <;> grind

/-- a part of m, from n / d and from 1 - n / d: together m, or one more -/
theorem rnd_two (m n d : Int) (hd : 0 < d) : rnd (m * n) d + rnd (m * (d - n)) d = m ∨ rnd (m * n) d + rnd (m * (d - n)) d = m + 1 := by
  have h1 := rnd_lo (n := m * n) hd
  have h2 := rnd_hi (n := m * n) hd
  have h3 := rnd_lo (n := m * (d - n)) hd
  have h4 := rnd_hi (n := m * (d - n)) hd
  generalize rnd (m * n) d = j at *
  generalize rnd (m * (d - n)) d = k at *
  have h5 : (2 * (j + k) - 2) * d ≤ (2 * m) * d := by grind
  have h6 : (2 * m) * d < (2 * (j + k) + 2) * d := by grind
  have h7 := le_of_mul_le hd h5
  have h8 := lt_of_mul_lt hd h6
  omega

theorem rnd_range (m n d : Int) (hd : 0 < d) (hm : 0 ≤ m) (h0 : 0 ≤ n) (h1 : n ≤ d) : 0 ≤ rnd (m * n) d ∧ rnd (m * n) d ≤ m := by
  constructor
  · have := rnd_mono (a := 0) (b := d) (c := m * n) (e := d) hd hd (by
      have := Int.mul_nonneg hm h0
      have := Int.mul_nonneg this (Int.le_of_lt hd)
      omega)
    rwa [rnd_zero d hd] at this
  · have := rnd_mono (a := m * n) (b := d) (c := m * d) (e := d) hd hd (Int.mul_le_mul_of_nonneg_right (Int.mul_le_mul_of_nonneg_left h1 hm) (Int.le_of_lt hd))
    rwa [rnd_whole m d hd] at this


/-- k is at most the rounded part -/
theorem rnd_ge_iff {n d k : Int} (hd : 0 < d) : k ≤ rnd n d ↔ k * (2 * d) ≤ 2 * n + d := by
  unfold rnd; exact Int.le_ediv_iff_mul_le (by omega)

/-- up: the bound is below 2 k d just where k is beyond the rounded part -/
theorem up_iff {m n d k : Int} (hd : 0 < d) : n * (2 * m) + d < d * (2 * k) ↔ rnd (m * n) d < k := by
  have h := rnd_ge_iff (n := m * n) (k := k) hd
  have e1 : k * (2 * d) = d * (2 * k) := by grind
  have e2 : 2 * (m * n) = n * (2 * m) := by grind
  rw [e1, e2] at h
  omega

/-- down -/
theorem down_iff {m n d k : Int} (hd : 0 < d) : d * (2 * k + 1) < n * (2 * m) ↔ k < - rnd (-m * n) d := by
  have h := rnd_ge_iff (n := -m * n) (k := -k) hd
  have e1 : -k * (2 * d) = -(d * (2 * k)) := by grind
  have e2 : 2 * (-m * n) = -(n * (2 * m)) := by grind
  have e3 : d * (2 * k + 1) = d * (2 * k) + d := by grind
  rw [e1, e2] at h
  rw [e3]
  omega

/-! ### ways -/
/-- a curve: its kind and its points -/
structure Cv where
  kind : Int
  pts : List (Int × Int)

/-- the part of the table from one point to another, at p / q: over 1000 q times the length -/
def segN (a b : Int × Int) (p q : Int) : Int := a.2 * (b.1 - a.1) * q + (b.2 - a.2) * (1000 * p - a.1 * q)
def segD (a b : Int × Int) (q : Int) : Int := 1000 * (b.1 - a.1) * q

/-- the segment of a table: i is the number of the first point, of l the rest from there on -/
def seg (p q : Int) : List (Int × Int) → (Int × Int) × (Int × Int)
  | a :: b :: c :: l => if b.1 * q ≤ 1000 * p then seg p q (b :: c :: l) else (a, b)
  | [a, b] => (a, b)
  | _ => ((0, 0), (1000, 1000))

def wayN (c : Cv) (p q : Int) : Int :=
  if c.kind = 2 then p * p else if c.kind = 3 then p * (2 * q - p) else if c.kind = 4 then p * p * (3 * q - 2 * p)
  else if c.kind = 5 then (if p < q then 0 else 1) else if c.kind = 6 then segN (seg p q c.pts).1 (seg p q c.pts).2 p q else p
def wayD (c : Cv) (p q : Int) : Int :=
  if c.kind = 2 then q * q else if c.kind = 3 then q * q else if c.kind = 4 then q * q * q
  else if c.kind = 5 then 1 else if c.kind = 6 then segD (seg p q c.pts).1 (seg p q c.pts).2 q else q

/-- points of a table: in order -/
def Steps : List (Int × Int) → Prop
  | a :: b :: l => a.1 < b.1 ∧ a.2 ≤ b.2 ∧ Steps (b :: l)
  | _ => True

/-- a right curve -/
def RightC (c : Cv) : Prop :=
  1 ≤ c.kind ∧ c.kind ≤ 6 ∧ (c.kind ≠ 6 → c.pts = []) ∧
  (c.kind = 6 → 2 ≤ c.pts.length ∧ c.pts.length ≤ 20 ∧ (∀ x ∈ c.pts, 0 ≤ x.1 ∧ x.1 ≤ 1000 ∧ 0 ≤ x.2 ∧ x.2 ≤ 1000) ∧ c.pts.head? = some (0, 0) ∧ c.pts.getLast? = some (1000, 1000) ∧ Steps c.pts)

/-- where p / q lies in the segment that 'seg' takes -/
theorem seg_in (p q : Int) (hq : 0 < q) : ∀ (l : List (Int × Int)), 2 ≤ l.length → Steps l → (∀ a, l.head? = some a → a.1 * q ≤ 1000 * p) → (∀ b, l.getLast? = some b → 1000 * p ≤ b.1 * q) →
    (seg p q l).1.1 * q ≤ 1000 * p ∧ 1000 * p ≤ (seg p q l).2.1 * q ∧ (seg p q l).1.1 < (seg p q l).2.1 ∧ (seg p q l).1.2 ≤ (seg p q l).2.2 ∧ (seg p q l).1 ∈ l ∧ (seg p q l).2 ∈ l
  | [], h, _, _, _ => by simp at h
  | [_], h, _, _, _ => by simp at h
  | [a, b], _, hs, h1, h2 => by
    simp only [seg]
    exact ⟨h1 a rfl, h2 b rfl, hs.1, hs.2.1, by simp, by simp⟩
  | a :: b :: c :: l, _, hs, h1, h2 => by
    simp only [seg]
    by_cases h : b.1 * q ≤ 1000 * p
    · rw [if_pos h]
      have := seg_in p q hq (b :: c :: l) (by simp) hs.2.2 (fun x hx => by simp at hx; subst hx; exact h) (fun x hx => h2 x (by simpa using hx))
      exact ⟨this.1, this.2.1, this.2.2.1, this.2.2.2.1, List.mem_cons_of_mem _ this.2.2.2.2.1, List.mem_cons_of_mem _ this.2.2.2.2.2⟩
    · rw [if_neg h]
      exact ⟨h1 a rfl, by show 1000 * p ≤ b.1 * q; omega, hs.1, hs.2.1, by simp, by simp⟩

/-- the way of a segment lies between those of its ends -/
theorem seg_bounds (a b : Int × Int) (p q : Int) (h1 : a.1 * q ≤ 1000 * p) (h2 : 1000 * p ≤ b.1 * q) (h4 : a.2 ≤ b.2) :
    a.2 * segD a b q ≤ 1000 * segN a b p q ∧ 1000 * segN a b p q ≤ b.2 * segD a b q := by
  unfold segN segD
  have k1 : 0 ≤ (b.2 - a.2) * (1000 * p - a.1 * q) := Int.mul_nonneg (by omega) (by omega)
  have k2 : 0 ≤ (b.2 - a.2) * (b.1 * q - 1000 * p) := Int.mul_nonneg (by omega) (by omega)
  constructor <;> grind

theorem segD_pos (a b : Int × Int) (q : Int) (hq : 0 < q) (h : a.1 < b.1) : 0 < segD a b q := by
  unfold segD
  exact Int.mul_pos (by omega) hq

theorem steps_mem {a : Int × Int} {l : List (Int × Int)} (hs : Steps (a :: l)) : ∀ x ∈ l, a.1 < x.1 ∧ a.2 ≤ x.2 := by
  induction l generalizing a with
  | nil => intro x hx; simp at hx
  | cons b l ih =>
    intro x hx
    rcases List.mem_cons.1 hx with rfl | hx
    · exact ⟨hs.1, hs.2.1⟩
    · have := ih hs.2.2 x hx
      have h1 := hs.1
      have h2 := hs.2.1
      omega

/-- two places, one behind the other: in one segment, or in two that follow -/
theorem seg_two (p p' q : Int) (hpp : p ≤ p') : ∀ (l : List (Int × Int)), 2 ≤ l.length → Steps l →
    seg p q l = seg p' q l ∨ (seg p q l).2.2 ≤ (seg p' q l).1.2
  | [], h, _ => by simp at h
  | [_], h, _ => by simp at h
  | [a, b], _, _ => by simp [seg]
  | a :: b :: c :: l, _, hs => by
    simp only [seg]
    by_cases h : b.1 * q ≤ 1000 * p
    · rw [if_pos h, if_pos (by omega)]
      exact seg_two p p' q hpp (b :: c :: l) (by simp) hs.2.2
    · rw [if_neg h]
      by_cases h' : b.1 * q ≤ 1000 * p'
      · rw [if_pos h']
        right
        have hm : (seg p' q (b :: c :: l)).1 ∈ b :: c :: l := seg_mem p' q (b :: c :: l) (by simp)
        show b.2 ≤ _
        rcases List.mem_cons.1 hm with h1 | h1
        · rw [h1]; exact Int.le_refl _
        · exact (steps_mem hs.2.2 _ h1).2
      · rw [if_neg h']; exact .inl rfl
where
  seg_mem (p q : Int) : ∀ (l : List (Int × Int)), 2 ≤ l.length → (seg p q l).1 ∈ l
  | [], h => by simp at h
  | [_], h => by simp at h
  | [a, b], _ => by simp [seg]
  | a :: b :: c :: l, _ => by
    simp only [seg]
    split
    · exact List.mem_cons_of_mem _ (seg_mem p q (b :: c :: l) (by simp))
    · simp

/-- in one segment the way grows -/
theorem seg_grows (a b : Int × Int) (p p' q : Int) (hpp : p ≤ p') (hq : 0 < q) (h3 : a.1 < b.1) (h4 : a.2 ≤ b.2) : segN a b p q * segD a b q ≤ segN a b p' q * segD a b q := by
  refine Int.mul_le_mul_of_nonneg_right ?_ (Int.le_of_lt (segD_pos a b q hq h3))
  unfold segN
  have := Int.mul_le_mul_of_nonneg_left (show 1000 * p - a.1 * q ≤ 1000 * p' - a.1 * q by omega) (show 0 ≤ b.2 - a.2 by omega)
  omega

/-- the facts of a way at p / q: D above 0, and N from 0 to D -/
theorem way_range (c : Cv) (hc : RightC c) (p q : Int) (hq : 0 < q) (h0 : 0 ≤ p) (h1 : p ≤ q) : 0 < wayD c p q ∧ 0 ≤ wayN c p q ∧ wayN c p q ≤ wayD c p q := by
  obtain ⟨k1, k2, k3, k4⟩ := hc
  have hqq : 0 < q * q := Int.mul_pos hq hq
  unfold wayN wayD
  by_cases e2 : c.kind = 2
  · simp only [if_pos e2]
    exact ⟨hqq, Int.mul_nonneg h0 h0, Int.mul_le_mul h1 h1 h0 (by omega)⟩
  · simp only [if_neg e2]
    by_cases e3 : c.kind = 3
    · simp only [if_pos e3]
      refine ⟨hqq, Int.mul_nonneg h0 (by omega), ?_⟩
      have := Int.mul_nonneg (show 0 ≤ q - p by omega) (show 0 ≤ q - p by omega)
      grind
    · simp only [if_neg e3]
      by_cases e4 : c.kind = 4
      · simp only [if_pos e4]
        refine ⟨Int.mul_pos hqq hq, Int.mul_nonneg (Int.mul_nonneg h0 h0) (by omega), ?_⟩
        have k5 := Int.mul_nonneg (Int.mul_nonneg (show 0 ≤ q - p by omega) (show 0 ≤ q - p by omega)) (show 0 ≤ q + 2 * p by omega)
        grind
      · simp only [if_neg e4]
        by_cases e5 : c.kind = 5
        · simp only [if_pos e5]
          split <;> omega
        · simp only [if_neg e5]
          by_cases e6 : c.kind = 6
          · simp only [if_pos e6]
            obtain ⟨l2, _, lr, lh, ll, ls⟩ := k4 e6
            have hin := seg_in p q hq c.pts l2 ls (fun a ha => by rw [lh] at ha; simp at ha; subst ha; simp; omega) (fun b hb => by rw [ll] at hb; simp at hb; subst hb; show _ ≤ 1000 * q; omega)
            obtain ⟨i1, i2, i3, i4, i5, i6⟩ := hin
            generalize (seg p q c.pts).1 = a at *
            generalize (seg p q c.pts).2 = b at *
            have hD := segD_pos a b q hq i3
            have hb := seg_bounds a b p q i1 i2 i4
            have ra := lr a i5
            have rb := lr b i6
            have m1 := Int.mul_nonneg ra.2.2.1 (Int.le_of_lt hD)
            have m2 := Int.mul_le_mul_of_nonneg_right rb.2.2.2 (Int.le_of_lt hD)
            refine ⟨hD, by omega, by omega⟩
          · simp only [if_neg e6]; omega

/-- a way grows -/
theorem way_mono (c : Cv) (hc : RightC c) (p p' q : Int) (hq : 0 < q) (h0 : 0 ≤ p) (hpp : p ≤ p') (h1 : p' ≤ q) : wayN c p q * wayD c p' q ≤ wayN c p' q * wayD c p q := by
  have hqq : 0 < q * q := Int.mul_pos hq hq
  obtain ⟨k1, k2, k3, k4⟩ := hc
  unfold wayN wayD
  by_cases e2 : c.kind = 2
  · simp only [if_pos e2]
    exact Int.mul_le_mul_of_nonneg_right (Int.mul_le_mul hpp hpp h0 (by omega)) (Int.le_of_lt hqq)
  · simp only [if_neg e2]
    by_cases e3 : c.kind = 3
    · simp only [if_pos e3]
      refine Int.mul_le_mul_of_nonneg_right ?_ (Int.le_of_lt hqq)
      have := Int.mul_nonneg (show 0 ≤ p' - p by omega) (show 0 ≤ 2 * q - p - p' by omega)
      grind
    · simp only [if_neg e3]
      by_cases e4 : c.kind = 4
      · simp only [if_pos e4]
        refine Int.mul_le_mul_of_nonneg_right ?_ (Int.le_of_lt (Int.mul_pos hqq hq))
        have m1 := Int.mul_nonneg (show 0 ≤ p' - p by omega) (Int.mul_nonneg (show 0 ≤ q - p' by omega) (show 0 ≤ p + p' by omega))
        have m2 := Int.mul_nonneg (show 0 ≤ p' - p by omega) (Int.mul_nonneg (show 0 ≤ p' - p by omega) (show 0 ≤ p' + 2 * p by omega))
        grind
      · simp only [if_neg e4]
        by_cases e5 : c.kind = 5
        · simp only [if_pos e5]
          split <;> split <;> omega
        · simp only [if_neg e5]
          by_cases e6 : c.kind = 6
          · simp only [if_pos e6]
            obtain ⟨l2, _, lr, lh, ll, ls⟩ := k4 e6
            have H : ∀ p, 0 ≤ p → p ≤ q → _ := fun p h0 h1 => seg_in p q hq c.pts l2 ls (fun a ha => by rw [lh] at ha; simp at ha; subst ha; simp; omega) (fun b hb => by rw [ll] at hb; simp at hb; subst hb; show _ ≤ 1000 * q; omega)
            have g := seg_two p p' q hpp c.pts l2 ls
            obtain ⟨i1, i2, i3, i4, i5, i6⟩ := H p h0 (by omega)
            obtain ⟨j1, j2, j3, j4, j5, j6⟩ := H p' (by omega) h1
            rcases g with g | g
            · rw [← g]
              rw [← g] at j1 j2
              exact seg_grows _ _ p p' q hpp hq i3 i4
            · generalize (seg p q c.pts).1 = a at *
              generalize (seg p q c.pts).2 = b at *
              generalize (seg p' q c.pts).1 = a' at *
              generalize (seg p' q c.pts).2 = b' at *
              have hD := segD_pos a b q hq i3
              have hD' := segD_pos a' b' q hq j3
              have s1 := (seg_bounds a b p q i1 i2 i4).2
              have s2 := (seg_bounds a' b' p' q j1 j2 j4).1
              have t1 := Int.mul_le_mul_of_nonneg_right s1 (Int.le_of_lt hD')
              have t2 := Int.mul_le_mul_of_nonneg_right s2 (Int.le_of_lt hD)
              have t3 := Int.mul_le_mul_of_nonneg_right (Int.mul_le_mul_of_nonneg_right g (Int.le_of_lt hD)) (Int.le_of_lt hD')
              have e1 : b.2 * segD a b q * segD a' b' q ≤ a'.2 * segD a' b' q * segD a b q := by
                have : a'.2 * segD a b q * segD a' b' q = a'.2 * segD a' b' q * segD a b q := by grind
                omega
              have e2 : 1000 * (segN a b p q * segD a' b' q) ≤ 1000 * (segN a' b' p' q * segD a b q) := by
                have f1 : 1000 * segN a b p q * segD a' b' q = 1000 * (segN a b p q * segD a' b' q) := by grind
                have f2 : 1000 * segN a' b' p' q * segD a b q = 1000 * (segN a' b' p' q * segD a b q) := by grind
                omega
              omega
          · simp only [if_neg e6]
            exact Int.mul_le_mul_of_nonneg_right hpp (Int.le_of_lt hq)


/-! ### the table's way, by whatever segment -/
theorem steps_lt : ∀ {l : List (Int × Int)}, Steps l → ∀ (i j : Nat) (a b : Int × Int), i < j → l[i]? = some a → l[j]? = some b → a.1 < b.1 ∧ a.2 ≤ b.2
  | [], _, i, j, a, b, _, h, _ => by simp at h
  | x :: l, hs, i, j, a, b, hij, h1, h2 => by
    match j, hij with
    | j + 1, hij =>
      have hs' : Steps l := by
        cases l with
        | nil => trivial
        | cons y l => exact hs.2.2
      simp at h2
      match i with
      | 0 =>
        simp at h1; subst h1
        exact steps_mem hs b (List.mem_of_getElem? h2)
      | i + 1 =>
        simp at h1
        exact steps_lt hs' i j a b (by omega) h1 h2

theorem steps_of : ∀ {l : List (Int × Int)}, (∀ (i : Nat) (a b : Int × Int), l[i]? = some a → l[i + 1]? = some b → a.1 < b.1 ∧ a.2 ≤ b.2) → Steps l
  | [], _ => trivial
  | [_], _ => trivial
  | a :: b :: l, h => ⟨(h 0 a b rfl rfl).1, (h 0 a b rfl rfl).2, steps_of fun i x y h1 h2 => h (i + 1) x y (by simpa using h1) (by simpa using h2)⟩

theorem seg_adj (p q : Int) : ∀ (l : List (Int × Int)), 2 ≤ l.length → ∃ i : Nat, l[i]? = some (seg p q l).1 ∧ l[i + 1]? = some (seg p q l).2
  | [], h => by simp at h
  | [_], h => by simp at h
  | [a, b], _ => ⟨0, by simp [seg]⟩
  | a :: b :: c :: l, _ => by
    simp only [seg]
    split
    · obtain ⟨i, h1, h2⟩ := seg_adj p q (b :: c :: l) (by simp)
      exact ⟨i + 1, by simpa using h1, by simpa using h2⟩
    · exact ⟨0, by simp⟩

/-- whichever segment holds the place: the same way -/
theorem seg_unique {l : List (Int × Int)} (hs : Steps l) {i j : Nat} {a b c d : Int × Int} (p q : Int) (hq : 0 < q)
    (ha : l[i]? = some a) (hb : l[i + 1]? = some b) (hc : l[j]? = some c) (hd : l[j + 1]? = some d)
    (h1 : a.1 * q ≤ 1000 * p) (h2 : 1000 * p ≤ b.1 * q) (h3 : c.1 * q ≤ 1000 * p) (h4 : 1000 * p ≤ d.1 * q) :
    segN a b p q * segD c d q = segN c d p q * segD a b q := by
  have key : ∀ {i j : Nat} {a b c d : Int × Int}, l[i]? = some a → l[i + 1]? = some b → l[j]? = some c → l[j + 1]? = some d →
      1000 * p ≤ b.1 * q → c.1 * q ≤ 1000 * p → i < j → segN a b p q * segD c d q = segN c d p q * segD a b q := by
    intro i j a b c d ha hb hc hd h2 h3 hij
    by_cases e : i + 1 = j
    · subst e
      rw [hb] at hc
      simp at hc; subst hc
      have e3 : 1000 * p = b.1 * q := by omega
      unfold segN segD
      rw [e3]
      grind
    · have := (steps_lt hs (i + 1) j b c (by omega) hb hc).1
      have := Int.mul_lt_mul_of_pos_right this hq
      omega
  rcases Nat.lt_trichotomy i j with h | h | h
  · exact key ha hb hc hd h2 h3 h
  · subst h
    rw [ha] at hc; rw [hb] at hd
    simp at hc hd; subst hc; subst hd; rfl
  · exact (key hc hd ha hb h4 h1 h).symm

/-- the points of the curve that goes back -/
def flip (x : Int × Int) : Int × Int := (1000 - x.1, 1000 - x.2)
def invPts (l : List (Int × Int)) : List (Int × Int) := (l.map flip).reverse

def invC (c : Cv) : Cv := ⟨if c.kind = 2 then 3 else if c.kind = 3 then 2 else c.kind, invPts c.pts⟩

theorem invPts_length (l : List (Int × Int)) : (invPts l).length = l.length := by simp [invPts]

theorem invPts_get (l : List (Int × Int)) (i : Nat) (h : i < l.length) : (invPts l)[i]? = (l[l.length - 1 - i]?).map flip := by
  unfold invPts
  rw [List.getElem?_reverse (by simpa using h)]
  simp

theorem right_inv (c : Cv) (hc : RightC c) (_h5 : c.kind ≠ 5) : RightC (invC c) := by
  obtain ⟨k1, k2, k3, k4⟩ := hc
  unfold invC RightC
  simp only
  refine ⟨by (repeat' split) <;> omega, by (repeat' split) <;> omega, ?_, ?_⟩
  · intro h
    have : c.kind ≠ 6 := by
      rintro h6; apply h; rw [if_neg (by omega), if_neg (by omega)]; exact h6
    rw [k3 this]; rfl
  · intro h
    have h6 : c.kind = 6 := by
      by_cases e2 : c.kind = 2
      · rw [if_pos e2] at h; omega
      · rw [if_neg e2] at h
        by_cases e3 : c.kind = 3
        · rw [if_pos e3] at h; omega
        · rwa [if_neg e3] at h
    obtain ⟨l2, l20, lr, lh, ll, ls⟩ := k4 h6
    refine ⟨by rw [invPts_length]; exact l2, by rw [invPts_length]; exact l20, ?_, ?_, ?_, ?_⟩
    · intro x hx
      simp [invPts] at hx
      obtain ⟨a, b, hx, rfl⟩ := hx
      have := lr _ hx
      simp [flip] at *
      omega
    · unfold invPts; rw [List.head?_reverse, List.getLast?_map, ll]; rfl
    · unfold invPts; rw [List.getLast?_reverse, List.head?_map, lh]; rfl
    · refine steps_of fun i a b h1 h2 => ?_
      have hi2 : i + 1 < (invPts c.pts).length := by
        have := List.getElem?_eq_some_iff.1 h2
        exact this.1
      rw [invPts_length] at hi2
      rw [invPts_get _ _ (by omega)] at h1 h2
      simp only [Option.map_eq_some_iff] at h1 h2
      obtain ⟨a', ha, rfl⟩ := h1
      obtain ⟨b', hb, rfl⟩ := h2
      have := steps_lt ls _ _ _ _ (by omega) hb ha
      simp [flip]; omega

/-- THE WAY BACK: 1 less the way -/
theorem inv_way (c : Cv) (hc : RightC c) (h5 : c.kind ≠ 5) (p q : Int) (hq : 0 < q) (h0 : 0 ≤ p) (h1 : p ≤ q) :
    wayN (invC c) (q - p) q * wayD c p q = (wayD c p q - wayN c p q) * wayD (invC c) (q - p) q := by
  have hri := right_inv c hc h5
  obtain ⟨k1, k2, k3, k4⟩ := hc
  by_cases e2 : c.kind = 2
  · simp [invC, wayN, wayD, e2]; grind
  · by_cases e3 : c.kind = 3
    · simp [invC, wayN, wayD, e3]; grind
    · by_cases e4 : c.kind = 4
      · simp [invC, wayN, wayD, e4]; grind
      · by_cases e6 : c.kind = 6
        · obtain ⟨_, _, _, j4⟩ := hri
          have ek : (invC c).kind = 6 := by simp [invC, e6]
          obtain ⟨l2, l20, lr, lh, ll, ls⟩ := k4 e6
          obtain ⟨m2, m20, mr, mh, ml, ms⟩ := j4 ek
          have a1 := seg_in p q hq c.pts l2 ls (fun a ha => by rw [lh] at ha; simp at ha; subst ha; simp; omega) (fun b hb => by rw [ll] at hb; simp at hb; subst hb; show _ ≤ 1000 * q; omega)
          have b1 := seg_in (q - p) q hq (invC c).pts m2 ms (fun a ha => by rw [mh] at ha; simp at ha; subst ha; simp; omega) (fun b hb => by rw [ml] at hb; simp at hb; subst hb; show _ ≤ 1000 * q; omega)
          obtain ⟨i, ai, bi⟩ := seg_adj p q c.pts l2
          obtain ⟨j, aj, bj⟩ := seg_adj (q - p) q (invC c).pts m2
          unfold wayN wayD
          simp only [e6, ek, if_neg (show ¬ (6 : Int) = 2 by decide), if_neg (show ¬ (6 : Int) = 3 by decide), if_neg (show ¬ (6 : Int) = 4 by decide), if_neg (show ¬ (6 : Int) = 5 by decide), if_true]
          generalize (seg p q c.pts).1 = a at *
          generalize (seg p q c.pts).2 = b at *
          generalize (seg (q - p) q (invC c).pts).1 = a' at *
          generalize (seg (q - p) q (invC c).pts).2 = b' at *
          have hj : j + 1 < (invPts c.pts).length := (List.getElem?_eq_some_iff.1 bj).1
          rw [invPts_length] at hj
          have ej : (invC c).pts = invPts c.pts := rfl
          rw [ej, invPts_get _ _ (by omega)] at aj bj
          simp only [Option.map_eq_some_iff] at aj bj
          obtain ⟨x, hx, rfl⟩ := aj
          obtain ⟨y, hy, rfl⟩ := bj
          have e1 : c.pts.length - 1 - j = (c.pts.length - 1 - (j + 1)) + 1 := by omega
          rw [e1] at hx
          have f1 : (flip x).1 = 1000 - x.1 := rfl
          have f2 : (flip y).1 = 1000 - y.1 := rfl
          have f3 : (flip x).2 = 1000 - x.2 := rfl
          have f4 : (flip y).2 = 1000 - y.2 := rfl
          rw [f1, f2, f3, f4] at b1
          have g1 : (1000 - x.1) * q = 1000 * q - x.1 * q := by grind
          have g2 : (1000 - y.1) * q = 1000 * q - y.1 * q := by grind
          have u := seg_unique ls p q hq hy hx ai bi (by omega) (by omega) a1.1 a1.2.1
          have v : segD (flip x) (flip y) q = segD y x q := by unfold segD; rw [f1, f2]; grind
          have w : segN (flip x) (flip y) (q - p) q = segD y x q - segN y x p q := by unfold segD segN; rw [f1, f2, f3, f4]; grind
          rw [v, w]
          grind
        · have e5 : c.kind = 1 := by omega
          simp [invC, wayN, wayD, e5]


structure Fd where
  fr : Int
  to : Int
  start : Int
  delay : Int
  time : Int
  curve : Cv

def IsTm (t : Int) : Prop := 0 ≤ t ∧ t ≤ 36000000
def LvOk (a : Int) : Prop := 0 ≤ a ∧ a ≤ 65535

def RightF (f : Fd) : Prop := LvOk f.fr ∧ LvOk f.to ∧ IsTm f.start ∧ IsTm f.delay ∧ IsTm f.time ∧ IsTm (f.start + f.delay + f.time) ∧ RightC f.curve

/-- the level of a right fade at a time -/
def atV (f : Fd) (t : Int) : Int :=
  if f.start + f.delay + f.time ≤ t then f.to else if t ≤ f.start + f.delay then f.fr
  else f.fr + rnd ((f.to - f.fr) * wayN f.curve (t - (f.start + f.delay)) f.time) (wayD f.curve (t - (f.start + f.delay)) f.time)

theorem rnd_neg_range (m n d : Int) (hd : 0 < d) (hm : m ≤ 0) (h0 : 0 ≤ n) (h1 : n ≤ d) : m ≤ rnd (m * n) d ∧ rnd (m * n) d ≤ 0 := by
  constructor
  · have := rnd_mono (a := m * d) (b := d) (c := m * n) (e := d) hd hd (Int.mul_le_mul_of_nonneg_right (Int.mul_le_mul_of_nonpos_left hm h1) (Int.le_of_lt hd))
    rwa [rnd_whole m d hd] at this
  · have := rnd_mono (a := m * n) (b := d) (c := 0) (e := d) hd hd (by
      have := Int.mul_le_mul_of_nonpos_left hm h0
      have := Int.mul_le_mul_of_nonneg_right this (Int.le_of_lt hd)
      omega)
    rwa [rnd_zero d hd] at this

/-- the two ways of a fade: the level lies between From and To -/
theorem at_range (f : Fd) (hf : RightF f) (t : Int) : (f.fr ≤ f.to → f.fr ≤ atV f t ∧ atV f t ≤ f.to) ∧ (f.to ≤ f.fr → f.to ≤ atV f t ∧ atV f t ≤ f.fr) := by
  obtain ⟨_, _, _, _, _, _, hc⟩ := hf
  unfold atV
  by_cases h1 : f.start + f.delay + f.time ≤ t
  · rw [if_pos h1]; omega
  · rw [if_neg h1]
    by_cases h2 : t ≤ f.start + f.delay
    · rw [if_pos h2]; omega
    · rw [if_neg h2]
      have hr := way_range f.curve hc (t - (f.start + f.delay)) f.time (by omega) (by omega) (by omega)
      refine ⟨fun h => ?_, fun h => ?_⟩
      · have := rnd_range (f.to - f.fr) _ _ hr.1 (by omega) hr.2.1 hr.2.2
        omega
      · have := rnd_neg_range (f.to - f.fr) _ _ hr.1 (by omega) hr.2.1 hr.2.2
        omega

/-- a fade goes one way -/
theorem at_mono (f : Fd) (hf : RightF f) (t u : Int) (htu : t ≤ u) : (f.fr ≤ f.to → atV f t ≤ atV f u) ∧ (f.to ≤ f.fr → atV f u ≤ atV f t) := by
  have r1 := at_range f hf t
  have r2 := at_range f hf u
  obtain ⟨_, _, _, _, _, _, hc⟩ := hf
  by_cases h1 : f.start + f.delay + f.time ≤ u
  · have e : atV f u = f.to := if_pos h1
    rw [e]
    exact ⟨fun h => (r1.1 h).2, fun h => (r1.2 h).1⟩
  · by_cases h2 : t ≤ f.start + f.delay
    · have e : atV f t = f.fr := by unfold atV; rw [if_neg (by omega), if_pos h2]
      rw [e]
      exact ⟨fun h => (r2.1 h).1, fun h => (r2.2 h).2⟩
    · unfold atV
      rw [if_neg h1, if_neg (by omega), if_neg h2, if_neg (by omega)]
      have hr := way_range f.curve hc (t - (f.start + f.delay)) f.time (by omega) (by omega) (by omega)
      have hs := way_range f.curve hc (u - (f.start + f.delay)) f.time (by omega) (by omega) (by omega)
      have hm := way_mono f.curve hc (t - (f.start + f.delay)) (u - (f.start + f.delay)) f.time (by omega) (by omega) (by omega) (by omega)
      generalize wayN f.curve (t - (f.start + f.delay)) f.time = n at *
      generalize wayD f.curve (t - (f.start + f.delay)) f.time = d at *
      generalize wayN f.curve (u - (f.start + f.delay)) f.time = n' at *
      generalize wayD f.curve (u - (f.start + f.delay)) f.time = d' at *
      refine ⟨fun h => ?_, fun h => ?_⟩
      · have := rnd_mono (a := (f.to - f.fr) * n) (b := d) (c := (f.to - f.fr) * n') (e := d') hr.1 hs.1 (by
          have := Int.mul_le_mul_of_nonneg_left hm (show 0 ≤ f.to - f.fr by omega)
          rw [Int.mul_assoc, Int.mul_assoc]; exact this)
        omega
      · have := rnd_mono (a := (f.to - f.fr) * n') (b := d') (c := (f.to - f.fr) * n) (e := d) hs.1 hr.1 (by
          have := Int.mul_le_mul_of_nonpos_left (show f.to - f.fr ≤ 0 by omega) hm
          rw [Int.mul_assoc, Int.mul_assoc]; exact this)
        omega

end Go.Proofs.Ytpmiinamaofnnaa
