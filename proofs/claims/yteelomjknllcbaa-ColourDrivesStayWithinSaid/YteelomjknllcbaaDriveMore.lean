/- Drive stays within: plain arithmetic. -/
import Derived.Test.YteelomjknllcbaaDrivePlain
namespace Go.Proofs.Yteelomjknllcbaa
set_option linter.unusedVariables false

theorem mn_cases (n p r : Int) : mn n p r = n ∨ (0 < p ∧ mn n p r = r / p) := by
  unfold mn
  by_cases h : 0 < p
  · rw [if_pos h]
    by_cases h2 : r / p < n
    · rw [if_pos h2]; exact .inr ⟨h, rfl⟩
    · rw [if_neg h2]; exact .inl rfl
  · rw [if_neg h]; exact .inl rfl
theorem div_tight {p r : Int} (hp : 0 < p) : r - r / p * p < p := by
  have h := Int.emod_lt_of_pos r hp
  have h2 := Int.emod_add_mul_ediv r p
  rw [Int.mul_comm] at h2
  omega
/-- a level below the greatest leaves less of one component than the emitter has of it -/
theorem drv_tight {x : Emi} {t : Int × Int × Int} (h : drvN x t < 65535) : t.1 - drvN x t * x.r < x.r ∨ t.2.1 - drvN x t * x.g < x.g ∨ t.2.2 - drvN x t * x.b < x.b := by
  rcases mn_cases (mn (mn 65535 x.r t.1) x.g t.2.1) x.b t.2.2 with e | ⟨hp, e⟩
  · rcases mn_cases (mn 65535 x.r t.1) x.g t.2.1 with e2 | ⟨hp, e2⟩
    · rcases mn_cases 65535 x.r t.1 with e3 | ⟨hp, e3⟩
      · exfalso
        have : drvN x t = 65535 := by unfold drvN; rw [e, e2, e3]
        omega
      · have : drvN x t = t.1 / x.r := by unfold drvN; rw [e, e2, e3]
        rw [this]
        exact .inl (div_tight hp)
    · have : drvN x t = t.2.1 / x.g := by unfold drvN; rw [e, e2]
      rw [this]
      exact .inr (.inl (div_tight hp))
  · have : drvN x t = t.2.2 / x.b := e
    rw [this]
    exact .inr (.inr (div_tight hp))
theorem end_le (s c : Int) (hc' : LvOkC c) (h0 : 0 ≤ s) (h : s ≤ c * 65535) : endV s ≤ c := by
  unfold LvOkC at hc'
  unfold endV rnd
  split <;> omega
section
variable (l : List Emi) (r g b : Int) (hc : LvOkC r ∧ LvOkC g ∧ LvOkC b) (hl : ∀ k, k < l.length → LvOkC (l.getD k default).r ∧ LvOkC (l.getD k default).g ∧ LvOkC (l.getD k default).b)
include hc hl
/-- what is left never grows -/
theorem drvR_mono : ∀ n k, k + n ≤ l.length → (drvR l r g b (k + n)).1 ≤ (drvR l r g b k).1 ∧ (drvR l r g b (k + n)).2.1 ≤ (drvR l r g b k).2.1 ∧ (drvR l r g b (k + n)).2.2 ≤ (drvR l r g b k).2.2 := by
  intro n
  induction n with
  | zero => intro k _; exact ⟨Int.le_refl _, Int.le_refl _, Int.le_refl _⟩
  | succ n ih =>
    intro k hk
    have h1 := ih k (by omega)
    obtain ⟨i1, i2, i3⟩ := drvR_in l r g b hc hl (k + n) (by omega)
    obtain ⟨l1, l2, l3⟩ := hl (k + n) (by omega)
    have hn := drvN_ge (x := l.getD (k + n) default) (t := drvR l r g b (k + n)) ⟨i1.1, i2.1, i3.1⟩
    have p1 := Int.mul_nonneg hn l1.1
    have p2 := Int.mul_nonneg hn l2.1
    have p3 := Int.mul_nonneg hn l3.1
    have e : drvR l r g b (k + (n + 1)) = drvT (l.getD (k + n) default) (drvR l r g b (k + n)) := rfl
    rw [e]
    simp only [drvT]
    omega
/-- the sums of what is given -/
theorem drv_sums : gsum Emi.r l (drvL l r g b l.length) l.length = r * 65535 - (drvR l r g b l.length).1 ∧ gsum Emi.g l (drvL l r g b l.length) l.length = g * 65535 - (drvR l r g b l.length).2.1 ∧ gsum Emi.b l (drvL l r g b l.length) l.length = b * 65535 - (drvR l r g b l.length).2.2 :=
  ⟨drv_sum Emi.r (fun t => t.1) l r g b _ rfl (fun _ _ => rfl) hc hl l.length (Nat.le_refl _), drv_sum Emi.g (fun t => t.2.1) l r g b _ rfl (fun _ _ => rfl) hc hl l.length (Nat.le_refl _), drv_sum Emi.b (fun t => t.2.2) l r g b _ rfl (fun _ _ => rfl) hc hl l.length (Nat.le_refl _)⟩
/-- no emitter could give more by itself -/
theorem no_more (k : Nat) (hk : k < l.length) (h : (drvL l r g b l.length).getD k 0 < 65535) :
    ¬ (gsum Emi.r l (drvL l r g b l.length) l.length + (l.getD k default).r ≤ r * 65535 ∧ gsum Emi.g l (drvL l r g b l.length) l.length + (l.getD k default).g ≤ g * 65535 ∧ gsum Emi.b l (drvL l r g b l.length) l.length + (l.getD k default).b ≤ b * 65535) := by
  obtain ⟨s1, s2, s3⟩ := drv_sums l r g b hc hl
  rw [s1, s2, s3]
  rw [(drvL_lev l r g b hc hl l.length (Nat.le_refl _) k hk).1] at h
  have ht := drv_tight h
  obtain ⟨n, hn⟩ : ∃ n, l.length = k + 1 + n := ⟨l.length - (k + 1), by omega⟩
  have hm := drvR_mono l r g b hc hl n (k + 1) (by omega)
  rw [← hn] at hm
  have e : drvR l r g b (k + 1) = drvT (l.getD k default) (drvR l r g b k) := rfl
  rw [e] at hm
  simp only [drvT] at hm
  rintro ⟨a1, a2, a3⟩
  omega
theorem drive_within : endV (gsum Emi.r l (drvL l r g b l.length) l.length) ≤ r ∧ endV (gsum Emi.g l (drvL l r g b l.length) l.length) ≤ g ∧ endV (gsum Emi.b l (drvL l r g b l.length) l.length) ≤ b := by
  obtain ⟨s1, s2, s3⟩ := drv_sums l r g b hc hl
  obtain ⟨i1, i2, i3⟩ := drvR_in l r g b hc hl l.length (Nat.le_refl _)
  rw [s1, s2, s3]
  exact ⟨end_le _ r hc.1 (by omega) (by omega), end_le _ g hc.2.1 (by omega) (by omega), end_le _ b hc.2.2 (by omega) (by omega)⟩
end
end Go.Proofs.Yteelomjknllcbaa
