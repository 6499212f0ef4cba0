/- The colour of the tone of a colour is near to it: plain arithmetic. -/
import Derived.Test.YteelomjknllcbaaFromTone
namespace Go.Proofs.Yteelomjknllcbaa

/-- what rounding says: 2 n - d <= 2 d (rnd n d) <= 2 n + d -/
theorem rnd_pm {n d : Int} (hd : 0 < d) : 2 * n - d < 2 * (rnd n d * d) ∧ 2 * (rnd n d * d) ≤ 2 * n + d := by
  have h := (rnd_iff (n := n) (d := d) (k := rnd n d) hd).1 rfl
  have e1 : (2 * rnd n d - 1) * d = 2 * (rnd n d * d) - d := by grind
  have e2 : (2 * rnd n d + 1) * d = 2 * (rnd n d * d) + d := by grind
  omega

section
variable {d m S : Int}

/-- p is near to the least component -/
theorem near_p (m9 : m ≤ 65535) (a1 : -m ≤ 2 * (S * m - d * 65535)) (a2 : 2 * (S * m - d * 65535) ≤ m) :
    -1 ≤ rnd (m * (65535 - S)) 65535 - (m - d) ∧ rnd (m * (65535 - S)) 65535 - (m - d) ≤ 1 := by
  have h := rnd_pm (n := m * (65535 - S)) (d := 65535) (by omega)
  have e : m * (65535 - S) = 65535 * m - S * m := by grind
  rw [e] at h
  rw [e]
  omega

/-- u is near to the least component and x more, where f says x / d -/
theorem near_u {x f : Int} (d0 : 0 < d) (dm : d ≤ m) (m9 : m ≤ 65535) (a1 : -m ≤ 2 * (S * m - d * 65535)) (a2 : 2 * (S * m - d * 65535) ≤ m)
    (f0 : 0 ≤ f) (f9 : f ≤ 65535) (b1 : -d ≤ 2 * (f * d - x * 65535)) (b2 : 2 * (f * d - x * 65535) ≤ d) :
    -1 ≤ rnd (m * (4294836225 - S * (65535 - f))) 4294836225 - (m - d + x) ∧ rnd (m * (4294836225 - S * (65535 - f))) 4294836225 - (m - d + x) ≤ 1 := by
  have h := rnd_pm (n := m * (4294836225 - S * (65535 - f))) (d := 4294836225) (by omega)
  have hx : ∃ a, a = 2 * (S * m - d * 65535) := ⟨_, rfl⟩
  obtain ⟨a, ha⟩ := hx
  have hy : ∃ b, b = 2 * (f * d - x * 65535) := ⟨_, rfl⟩
  obtain ⟨b, hb⟩ := hy
  rw [← ha] at a1 a2
  rw [← hb] at b1 b2
  have hg : ∃ g, g = 65535 - f := ⟨_, rfl⟩
  obtain ⟨g, hg⟩ := hg
  rw [← hg] at h ⊢
  have e : 2 * (m * (4294836225 - S * g)) = 2 * 4294836225 * (m - d + x) + 65535 * b - a * g := by subst ha hb hg; grind
  have g1 : a * g ≤ m * 65535 := by
    have := Int.mul_le_mul_of_nonneg_right a2 (show 0 ≤ g by omega)
    have := Int.mul_le_mul_of_nonneg_left (show g ≤ 65535 by omega) (show 0 ≤ m by omega)
    omega
  have g2 : -(m * 65535) ≤ a * g := by
    have := Int.mul_le_mul_of_nonneg_right a1 (show 0 ≤ g by omega)
    have := Int.mul_le_mul_of_nonneg_left (show g ≤ 65535 by omega) (show 0 ≤ m by omega)
    have e : -m * g = -(m * g) := by grind
    omega
  generalize a * g = ag at *
  generalize hn : m * (4294836225 - S * g) = n at *
  generalize rnd n 4294836225 = r at *
  clear ha hb hg hn a1 a2
  omega

/-- q is near to the greatest component less x -/
theorem near_q {x f : Int} (d0 : 0 < d) (dm : d ≤ m) (m9 : m ≤ 65535) (a1 : -m ≤ 2 * (S * m - d * 65535)) (a2 : 2 * (S * m - d * 65535) ≤ m)
    (f0 : 0 ≤ f) (f9 : f ≤ 65535) (b1 : -d ≤ 2 * (f * d - x * 65535)) (b2 : 2 * (f * d - x * 65535) ≤ d) :
    -1 ≤ rnd (m * (4294836225 - S * f)) 4294836225 - (m - x) ∧ rnd (m * (4294836225 - S * f)) 4294836225 - (m - x) ≤ 1 := by
  have h := near_u (x := d - x) (f := 65535 - f) d0 dm m9 a1 a2 (by omega) (by omega) (by
    have e : (65535 - f) * d - (d - x) * 65535 = -(f * d - x * 65535) := by grind
    rw [e]; omega) (by
    have e : (65535 - f) * d - (d - x) * 65535 = -(f * d - x * 65535) := by grind
    rw [e]; omega)
  have e : 65535 - (65535 - f) = f := by omega
  rw [e] at h
  omega
end

/-- rounded components lie from 0 to the value -/
theorem fr_range {s v f : Int} (hs : LvOkC s) (hv : LvOkC v) (f0 : 0 ≤ f) (f9 : f ≤ 65535) :
    (0 ≤ frP s v ∧ frP s v ≤ v) ∧ (0 ≤ frQ f s v ∧ frQ f s v ≤ v) ∧ (0 ≤ frU f s v ∧ frU f s v ≤ v) := by
  unfold LvOkC at *
  have k : ∀ (D n : Int), 0 < D → 0 ≤ n → n ≤ D → 0 ≤ rnd (v * n) D ∧ rnd (v * n) D ≤ v := fun D n h0 h1 h2 => by
    have h := rnd_pm (n := v * n) (d := D) h0
    have p1 : 0 ≤ v * n := Int.mul_nonneg hv.1 h1
    have p2 : v * n ≤ v * D := Int.mul_le_mul_of_nonneg_left h2 hv.1
    constructor
    · have : (-1) * D < rnd (v * n) D * D := by omega
      have := Int.lt_of_mul_lt_mul_right this (by omega)
      omega
    · have e : (v + 1) * D = v * D + D := by grind
      have : rnd (v * n) D * D < (v + 1) * D := by omega
      have := Int.lt_of_mul_lt_mul_right this (by omega)
      omega
  have m : ∀ a b A B : Int, 0 ≤ a → a ≤ A → 0 ≤ b → b ≤ B → 0 ≤ a * b ∧ a * b ≤ A * B := fun a b A B h1 h2 h3 h4 => ⟨Int.mul_nonneg h1 h3, Int.mul_le_mul h2 h4 h3 (by omega)⟩
  have a2 := m s f 65535 65535 hs.1 hs.2 f0 f9
  have a3 := m s (65535 - f) 65535 65535 hs.1 hs.2 (by omega) (by omega)
  exact ⟨k _ _ (by omega) (by omega) (by omega), k _ _ (by omega) (by omega) (by omega), k _ _ (by omega) (by omega) (by omega)⟩

def Near (a b : Int) : Prop := a - b ≤ 2 ∧ b - a ≤ 2
def NearC (r g b : Int) (x : Int × Int × Int) : Prop := Near r x.1 ∧ Near g x.2.1 ∧ Near b x.2.2 ∧ topV r g b = topV x.1 x.2.1 x.2.2
/-- a hue of sector n: what the rounded angle says -/
theorem hue_at (n x d : Int) (hd : 0 < d) (x0 : -d ≤ x) (x9 : x ≤ d) (hn : n = rnd (x * 65535) d) :
    (-d ≤ 2 * (n * d - x * 65535) ∧ 2 * (n * d - x * 65535) ≤ d) ∧ -65535 ≤ n ∧ n ≤ 65535 := by
  have h := rnd_pm (n := x * 65535) (d := d) hd
  rw [← hn] at h
  refine ⟨by omega, ?_, ?_⟩
  · have : (-65536) * d < n * d := by omega
    have := Int.lt_of_mul_lt_mul_right this (by omega)
    omega
  · have : n * d < 65536 * d := by omega
    have := Int.lt_of_mul_lt_mul_right this (by omega)
    omega
theorem hue_full {n x d : Int} (hd : 0 < d) (d9 : d ≤ 65535) (x9 : x ≤ d) (b1 : -d ≤ 2 * (n * d - x * 65535)) (b2 : 2 * (n * d - x * 65535) ≤ d) (h : n = 65535) : x = d := by
  subst h
  omega
theorem hue_zero {n x d : Int} (hd : 0 < d) (d9 : d ≤ 65535) (b1 : -d ≤ 2 * (n * d - x * 65535)) (b2 : 2 * (n * d - x * 65535) ≤ d) (h : n = 0) : x = 0 := by
  subst h
  omega

/-- one sector: a colour whose greatest component is m, its least one m - d, the angle x -/
theorem sector {m d x n : Int} (d0 : 0 < d) (dm : d ≤ m) (m9 : m ≤ 65535) (x0 : -d ≤ x) (x9 : x ≤ d) (hn : n = rnd (x * 65535) d) :
    ∀ S, S = rnd (d * 65535) m → (0 ≤ S ∧ S ≤ 65535) ∧
      (-1 ≤ frP S m - (m - d) ∧ frP S m - (m - d) ≤ 1) ∧
      (0 ≤ x → 0 ≤ n ∧ (n ≤ 65535) ∧ (n = 65535 → x = d) ∧ (-1 ≤ frU n S m - (m - d + x) ∧ frU n S m - (m - d + x) ≤ 1)) ∧
      (x < 0 → -65535 ≤ n ∧ n < 0 ∧ (-1 ≤ frQ (65535 + n) S m - (m - (d + x)) ∧ frQ (65535 + n) S m - (m - (d + x)) ≤ 1)) := by
  intro S hS
  obtain ⟨⟨b1, b2⟩, n1, n2⟩ := hue_at n x d d0 x0 x9 hn
  have hs := rnd_pm (n := d * 65535) (d := m) (by omega)
  rw [← hS] at hs
  have a1 : -m ≤ 2 * (S * m - d * 65535) := by omega
  have a2 : 2 * (S * m - d * 65535) ≤ m := by omega
  have s0 : 0 ≤ S := by
    have : (-1) * m < S * m := by omega
    have := Int.lt_of_mul_lt_mul_right this (by omega)
    omega
  have s9 : S ≤ 65535 := by
    have : S * m < 65536 * m := by omega
    have := Int.lt_of_mul_lt_mul_right this (by omega)
    omega
  refine ⟨⟨s0, s9⟩, near_p m9 a1 a2, fun hx => ?_, fun hx => ?_⟩
  · have n0 : 0 ≤ n := by
      have : (-1) * d < n * d := by omega
      have := Int.lt_of_mul_lt_mul_right this (by omega)
      omega
    exact ⟨n0, n2, fun h => hue_full d0 (by omega) x9 b1 b2 h, near_u d0 dm m9 a1 a2 n0 n2 b1 b2⟩
  · have nn : n < 0 := by
      by_cases h : n < 0
      · exact h
      · have : n ≤ 0 := by
          have : n * d < 1 * d := by omega
          have := Int.lt_of_mul_lt_mul_right this (by omega)
          omega
        have := hue_zero d0 (by omega) b1 b2 (show n = 0 by omega)
        omega
    refine ⟨n1, nn, near_q d0 dm m9 a1 a2 (by omega) (by omega) ?_ ?_⟩
    · have e : (65535 + n) * d - (d + x) * 65535 = n * d - x * 65535 := by grind
      rw [e]; exact b1
    · have e : (65535 + n) * d - (d + x) * 65535 = n * d - x * 65535 := by grind
      rw [e]; exact b2

theorem frQ_zero (S m : Int) : frQ 0 S m = m := by
  unfold frQ
  rw [Int.mul_zero, Int.sub_zero]
  exact rnd_whole m _ (by omega)
theorem top_eq (r g b m : Int) (h1 : r ≤ m) (h2 : g ≤ m) (h3 : b ≤ m) (h : r = m ∨ g = m ∨ b = m) : topV r g b = m := by
  unfold topV
  omega

theorem near_all (r g b : Int) (hr : LvOkC r) (hg : LvOkC g) (hb : LvOkC b) : NearC r g b (frT (toneH r g b) (toneS r g b) (topV r g b)) := by
  have ht := top_is r g b
  have hl := low_is r g b
  have htl := top_low hr hg hb
  unfold LvOkC at hr hg hb
  by_cases he : topV r g b = lowV r g b
  · have e1 : toneH r g b = 0 := if_pos he
    have e2 : toneS r g b = 0 := if_pos he
    rw [e1, e2]
    have er : r = topV r g b := by omega
    have eg : g = topV r g b := by omega
    have eb : b = topV r g b := by omega
    have hp : frP 0 (topV r g b) = topV r g b := rnd_whole _ _ (by omega)
    have hu : frU 0 0 (topV r g b) = topV r g b := by unfold frU; rw [Int.zero_mul]; exact rnd_whole _ _ (by omega)
    have e : frT 0 0 (topV r g b) = (topV r g b, topV r g b, topV r g b) := by
      unfold frT frK
      rw [if_pos (by decide), show (0 : Int) % 65535 = 0 from rfl, hp, hu]
    rw [e]
    simp only [NearC, Near]
    exact ⟨by omega, by omega, by omega, (top_eq _ _ _ _ (Int.le_refl _) (Int.le_refl _) (Int.le_refl _) (.inl rfl)).symm⟩
  · have e1 : toneH r g b = (rnd (hueN r g b) (topV r g b - lowV r g b) + hueO r g b) % 393210 := if_neg he
    have e2 : toneS r g b = rnd ((topV r g b - lowV r g b) * 65535) (topV r g b) := if_neg he
    have HN : hueN r g b = if r = topV r g b then (g - b) * 65535 else if g = topV r g b then (b - r) * 65535 else (r - g) * 65535 := rfl
    have HO : hueO r g b = if r = topV r g b then 0 else if g = topV r g b then 131070 else 262140 := rfl
    unfold NearC
    rw [e1, e2]
    generalize hm : topV r g b = m at *
    generalize hlo : lowV r g b = l at *
    generalize hueN r g b = hn at *
    generalize hueO r g b = ho at *
    obtain ⟨d, hd⟩ : ∃ d, d = m - l := ⟨_, rfl⟩
    rw [← hd]
    have fin : ∀ (x : Int) (k v p q u : Int), frK k v p q u = if k = 0 then (v, u, p) else if k = 1 then (q, v, p) else if k = 2 then (p, v, u) else if k = 3 then (p, q, v) else if k = 4 then (u, p, v) else (v, p, q) := fun _ _ _ _ _ _ => rfl
    obtain ⟨S, hS⟩ : ∃ S, S = rnd (d * 65535) m := ⟨_, rfl⟩
    rw [← hS]
    have go : ∀ (x n o : Int), (x = g - b ∧ o = 0 ∧ r = m) ∨ (x = b - r ∧ o = 131070 ∧ g = m ∧ r ≠ m) ∨ (x = r - g ∧ o = 262140 ∧ b = m ∧ r ≠ m ∧ g ≠ m) → n = rnd (x * 65535) d →
        (Near r (frT ((n + o) % 393210) S m).1 ∧ Near g (frT ((n + o) % 393210) S m).2.1 ∧ Near b (frT ((n + o) % 393210) S m).2.2 ∧ m = topV (frT ((n + o) % 393210) S m).1 (frT ((n + o) % 393210) S m).2.1 (frT ((n + o) % 393210) S m).2.2) := by
      intro x n o hx hn
      obtain ⟨⟨s0, s9⟩, hp, hu, hq⟩ := sector (m := m) (d := d) (x := x) (n := n) (by omega) (by omega) (by omega) (by omega) (by omega) hn S hS
      have hsL : LvOkC S := ⟨s0, s9⟩
      have hmL : LvOkC m := ⟨by omega, by omega⟩
      have main : ∀ (k f : Int), k = (n + o) % 393210 / 65535 → f = (n + o) % 393210 % 65535 →
          (frT ((n + o) % 393210) S m) = frK k m (frP S m) (frQ f S m) (frU f S m) := by
        intro k f e1 e2; subst e1 e2; rfl
      by_cases h0 : 0 ≤ x
      · obtain ⟨n0, n9, nf, hu1, hu2⟩ := hu h0
        clear hq
        by_cases hf : n = 65535
        · have hxd := nf hf
          have r2 := fr_range hsL hmL (f := 0) (by omega) (by omega)
          rcases hx with ⟨ex, eo, em⟩ | ⟨ex, eo, em, em2⟩ | ⟨ex, eo, em, em2, em3⟩
          · rw [main 1 0 (by omega) (by omega), frQ_zero]
            have e : frK 1 m (frP S m) m (frU 0 S m) = (m, m, frP S m) := rfl
            rw [e]
            simp only [Near]
            exact ⟨by omega, by omega, by omega, (top_eq _ _ _ _ (by omega) (by omega) (by omega) (by omega)).symm⟩
          · rw [main 3 0 (by omega) (by omega), frQ_zero]
            have e : frK 3 m (frP S m) m (frU 0 S m) = (frP S m, m, m) := rfl
            rw [e]
            simp only [Near]
            exact ⟨by omega, by omega, by omega, (top_eq _ _ _ _ (by omega) (by omega) (by omega) (by omega)).symm⟩
          · omega
        · have r2 := fr_range hsL hmL (f := n) n0 n9
          rcases hx with ⟨ex, eo, em⟩ | ⟨ex, eo, em, em2⟩ | ⟨ex, eo, em, em2, em3⟩
          · rw [main 0 n (by omega) (by omega)]
            have e : frK 0 m (frP S m) (frQ n S m) (frU n S m) = (m, frU n S m, frP S m) := rfl
            rw [e]
            simp only [Near]
            exact ⟨by omega, by omega, by omega, (top_eq _ _ _ _ (by omega) (by omega) (by omega) (by omega)).symm⟩
          · rw [main 2 n (by omega) (by omega)]
            have e : frK 2 m (frP S m) (frQ n S m) (frU n S m) = (frP S m, m, frU n S m) := rfl
            rw [e]
            simp only [Near]
            exact ⟨by omega, by omega, by omega, (top_eq _ _ _ _ (by omega) (by omega) (by omega) (by omega)).symm⟩
          · rw [main 4 n (by omega) (by omega)]
            have e : frK 4 m (frP S m) (frQ n S m) (frU n S m) = (frU n S m, frP S m, m) := rfl
            rw [e]
            simp only [Near]
            exact ⟨by omega, by omega, by omega, (top_eq _ _ _ _ (by omega) (by omega) (by omega) (by omega)).symm⟩
      · obtain ⟨n1, nn, hq1, hq2⟩ := hq (by omega)
        clear hu
        have r2 := fr_range hsL hmL (f := 65535 + n) (by omega) (by omega)
        rcases hx with ⟨ex, eo, em⟩ | ⟨ex, eo, em, em2⟩ | ⟨ex, eo, em, em2, em3⟩
        · rw [main 5 (65535 + n) (by omega) (by omega)]
          have e : frK 5 m (frP S m) (frQ (65535 + n) S m) (frU (65535 + n) S m) = (m, frP S m, frQ (65535 + n) S m) := rfl
          rw [e]
          simp only [Near]
          exact ⟨by omega, by omega, by omega, (top_eq _ _ _ _ (by omega) (by omega) (by omega) (by omega)).symm⟩
        · rw [main 1 (65535 + n) (by omega) (by omega)]
          have e : frK 1 m (frP S m) (frQ (65535 + n) S m) (frU (65535 + n) S m) = (frQ (65535 + n) S m, m, frP S m) := rfl
          rw [e]
          simp only [Near]
          exact ⟨by omega, by omega, by omega, (top_eq _ _ _ _ (by omega) (by omega) (by omega) (by omega)).symm⟩
        · rw [main 3 (65535 + n) (by omega) (by omega)]
          have e : frK 3 m (frP S m) (frQ (65535 + n) S m) (frU (65535 + n) S m) = (frP S m, frQ (65535 + n) S m, m) := rfl
          rw [e]
          simp only [Near]
          exact ⟨by omega, by omega, by omega, (top_eq _ _ _ _ (by omega) (by omega) (by omega) (by omega)).symm⟩
    by_cases h1 : r = m
    · rw [if_pos h1] at HN HO
      rw [HN, HO]
      exact go (g - b) _ 0 (.inl ⟨rfl, rfl, h1⟩) rfl
    · rw [if_neg h1] at HN HO
      by_cases h2 : g = m
      · rw [if_pos h2] at HN HO
        rw [HN, HO]
        exact go (b - r) _ _ (.inr (.inl ⟨rfl, rfl, h2, h1⟩)) rfl
      · rw [if_neg h2] at HN HO
        rw [HN, HO]
        exact go (r - g) _ _ (.inr (.inr ⟨rfl, rfl, by omega, h1, h2⟩)) rfl
theorem frT_range {h s v : Int} (hs : LvOkC s) (hv : LvOkC v) : LvOkC (frT h s v).1 ∧ LvOkC (frT h s v).2.1 ∧ LvOkC (frT h s v).2.2 := by
  obtain ⟨p, q, u⟩ := fr_range hs hv (f := h % 65535) (by omega) (by omega)
  unfold LvOkC at *
  unfold frT
  generalize frP s v = P at *
  generalize frQ (h % 65535) s v = Q at *
  generalize frU (h % 65535) s v = U at *
  unfold frK
  repeat' split
  all_goals (simp only; omega)
theorem tone_range {r g b : Int} (hr : LvOkC r) (hg : LvOkC g) (hb : LvOkC b) : (0 ≤ toneH r g b ∧ toneH r g b ≤ 393209) ∧ LvOkC (toneS r g b) ∧ LvOkC (topV r g b) := by
  have htl := top_low hr hg hb
  refine ⟨?_, ?_, by unfold LvOkC; omega⟩
  · unfold toneH
    split <;> omega
  · unfold toneS
    split
    · unfold LvOkC; omega
    · rename_i h
      generalize topV r g b = m at *
      generalize lowV r g b = l at *
      have hs := rnd_pm (n := (m - l) * 65535) (d := m) (by omega)
      generalize rnd ((m - l) * 65535) m = S at *
      constructor
      · have : (-1) * m < S * m := by omega
        have := Int.lt_of_mul_lt_mul_right this (by omega)
        omega
      · have : S * m < 65536 * m := by omega
        have := Int.lt_of_mul_lt_mul_right this (by omega)
        omega
end Go.Proofs.Yteelomjknllcbaa
