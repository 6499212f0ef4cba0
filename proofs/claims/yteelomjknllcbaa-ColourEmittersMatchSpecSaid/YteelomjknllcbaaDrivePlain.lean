/- What Drive gives: plain arithmetic. -/
import Derived.Test.YteelomjknllcbaaGiven
namespace Go.Proofs.Yteelomjknllcbaa
set_option linter.unusedVariables false

/-- the lesser of n and the part r / p, where there is a part -/
def mn (n p r : Int) : Int := if 0 < p then (if r / p < n then r / p else n) else n
/-- the level of an emitter, where this much is left -/
def drvN (x : Emi) (t : Int × Int × Int) : Int := mn (mn (mn 65535 x.r t.1) x.g t.2.1) x.b t.2.2
def drvT (x : Emi) (t : Int × Int × Int) : Int × Int × Int := (t.1 - drvN x t * x.r, t.2.1 - drvN x t * x.g, t.2.2 - drvN x t * x.b)
/-- what is left, and the levels, behind k emitters -/
def drvR (l : List Emi) (r g b : Int) : Nat → Int × Int × Int
  | 0 => (r * 65535, g * 65535, b * 65535)
  | k + 1 => drvT (l.getD k default) (drvR l r g b k)
def drvL (l : List Emi) (r g b : Int) : Nat → List Int
  | 0 => []
  | k + 1 => drvL l r g b k ++ [drvN (l.getD k default) (drvR l r g b k)]
theorem drvL_len (l : List Emi) (r g b : Int) (k : Nat) : (drvL l r g b k).length = k := by
  induction k with
  | zero => rfl
  | succ k ih => simp [drvL, ih]
theorem mn_le (n p r : Int) : mn n p r ≤ n := by unfold mn; split <;> (try split) <;> omega
theorem mn_ge {n p r : Int} (hn : 0 ≤ n) (hr : 0 ≤ r) : 0 ≤ mn n p r := by
  unfold mn
  split
  · split
    · exact Int.ediv_nonneg hr (by omega)
    · exact hn
  · exact hn
theorem mn_div {n p r : Int} (hp : 0 < p) : mn n p r ≤ r / p := by
  unfold mn
  rw [if_pos hp]
  split <;> omega
/-- a level takes no more than there is -/
theorem drv_fit {m p r : Int} (hm : m ≤ r / p) (hp : 0 < p) : m * p ≤ r := by
  have h1 : r / p * p ≤ r := Int.ediv_mul_le r (by omega)
  have h2 : m * p ≤ r / p * p := Int.mul_le_mul_of_nonneg_right hm (by omega)
  omega
theorem drvN_le (x : Emi) (t : Int × Int × Int) : drvN x t ≤ 65535 := Int.le_trans (mn_le _ _ _) (Int.le_trans (mn_le _ _ _) (mn_le _ _ _))
theorem drvN_ge {x : Emi} {t : Int × Int × Int} (h : 0 ≤ t.1 ∧ 0 ≤ t.2.1 ∧ 0 ≤ t.2.2) : 0 ≤ drvN x t := mn_ge (mn_ge (mn_ge (by omega) h.1) h.2.1) h.2.2
theorem drvN_fit {x : Emi} {t : Int × Int × Int} (h : 0 ≤ t.1 ∧ 0 ≤ t.2.1 ∧ 0 ≤ t.2.2) (hr : 0 ≤ x.r) (hg : 0 ≤ x.g) (hb : 0 ≤ x.b) :
    drvN x t * x.r ≤ t.1 ∧ drvN x t * x.g ≤ t.2.1 ∧ drvN x t * x.b ≤ t.2.2 := by
  have a1 : ∀ p, 0 < p → p = x.r → drvN x t ≤ t.1 / x.r := fun p hp e => Int.le_trans (mn_le _ _ _) (Int.le_trans (mn_le _ _ _) (mn_div (by omega)))
  have a2 : 0 < x.g → drvN x t ≤ t.2.1 / x.g := fun hp => Int.le_trans (mn_le _ _ _) (mn_div hp)
  have a3 : 0 < x.b → drvN x t ≤ t.2.2 / x.b := fun hp => mn_div hp
  refine ⟨?_, ?_, ?_⟩
  · by_cases c : 0 < x.r
    · exact drv_fit (a1 _ c rfl) c
    · have : x.r = 0 := by omega
      rw [this]; omega
  · by_cases c : 0 < x.g
    · exact drv_fit (a2 c) c
    · have : x.g = 0 := by omega
      rw [this]; omega
  · by_cases c : 0 < x.b
    · exact drv_fit (a3 c) c
    · have : x.b = 0 := by omega
      rw [this]; omega
/-- what is left stays within its bounds -/
theorem drvR_in (l : List Emi) (r g b : Int) (hc : LvOkC r ∧ LvOkC g ∧ LvOkC b) (hl : ∀ k, k < l.length → LvOkC (l.getD k default).r ∧ LvOkC (l.getD k default).g ∧ LvOkC (l.getD k default).b) :
    ∀ k, k ≤ l.length → (0 ≤ (drvR l r g b k).1 ∧ (drvR l r g b k).1 ≤ r * 65535) ∧ (0 ≤ (drvR l r g b k).2.1 ∧ (drvR l r g b k).2.1 ≤ g * 65535) ∧ (0 ≤ (drvR l r g b k).2.2 ∧ (drvR l r g b k).2.2 ≤ b * 65535) := by
  unfold LvOkC at hc
  intro k
  induction k with
  | zero => intro _; simp only [drvR]; omega
  | succ k ih =>
    intro hk
    obtain ⟨h1, h2, h3⟩ := ih (by omega)
    obtain ⟨l1, l2, l3⟩ := hl k (by omega)
    have hn := drvN_ge (x := l.getD k default) (t := drvR l r g b k) ⟨h1.1, h2.1, h3.1⟩
    have hf := drvN_fit (x := l.getD k default) (t := drvR l r g b k) ⟨h1.1, h2.1, h3.1⟩ l1.1 l2.1 l3.1
    have p1 := Int.mul_nonneg hn l1.1
    have p2 := Int.mul_nonneg hn l2.1
    have p3 := Int.mul_nonneg hn l3.1
    simp only [drvR, drvT]
    omega
/-- the levels are levels -/
theorem drvL_lev (l : List Emi) (r g b : Int) (hc : LvOkC r ∧ LvOkC g ∧ LvOkC b) (hl : ∀ k, k < l.length → LvOkC (l.getD k default).r ∧ LvOkC (l.getD k default).g ∧ LvOkC (l.getD k default).b) :
    ∀ m, m ≤ l.length → ∀ k, k < m → (drvL l r g b m).getD k 0 = drvN (l.getD k default) (drvR l r g b k) ∧ LvOkC (drvN (l.getD k default) (drvR l r g b k)) := by
  intro m
  induction m with
  | zero => intro _ k hk; omega
  | succ m ih =>
    intro hm k hk
    by_cases e : k < m
    · obtain ⟨h1, h2⟩ := ih (by omega) k e
      refine ⟨?_, h2⟩
      simp only [drvL]
      rw [List.getD_eq_getElem?_getD, List.getElem?_append_left (by rw [drvL_len]; exact e), ← List.getD_eq_getElem?_getD]
      exact h1
    · have : k = m := by omega
      subst this
      obtain ⟨h1, h2, h3⟩ := drvR_in l r g b hc hl k (by omega)
      refine ⟨?_, drvN_ge ⟨h1.1, h2.1, h3.1⟩, drvN_le _ _⟩
      simp only [drvL]
      rw [List.getD_eq_getElem?_getD, List.getElem?_append_right (by rw [drvL_len]; omega), drvL_len]
      simp
theorem drv_ok (l : List Emi) (r g b : Int) (h12 : l.length ≤ 12) (hc : LvOkC r ∧ LvOkC g ∧ LvOkC b) (hl : ∀ k, k < l.length → LvOkC (l.getD k default).r ∧ LvOkC (l.getD k default).g ∧ LvOkC (l.getD k default).b) : GvOk l (drvL l r g b l.length) :=
  ⟨drvL_len _ _ _ _ _, h12, hl, fun k hk => by rw [(drvL_lev l r g b hc hl l.length (Nat.le_refl _) k hk).1]; exact (drvL_lev l r g b hc hl l.length (Nat.le_refl _) k hk).2⟩
/-- the sums of what is given, and what is left -/
theorem drv_sum (f : Emi → Int) (p : Int × Int × Int → Int) (l : List Emi) (r g b s : Int) (hs : p (drvR l r g b 0) = s) (hp : ∀ x t, p (drvT x t) = p t - drvN x t * f x)
    (hc : LvOkC r ∧ LvOkC g ∧ LvOkC b) (hl : ∀ k, k < l.length → LvOkC (l.getD k default).r ∧ LvOkC (l.getD k default).g ∧ LvOkC (l.getD k default).b) :
    ∀ k, k ≤ l.length → gsum f l (drvL l r g b l.length) k = s - p (drvR l r g b k) := by
  intro k
  induction k with
  | zero => intro _; simp only [gsum]; omega
  | succ k ih =>
    intro hk
    have h1 := ih (by omega)
    have h2 := (drvL_lev l r g b hc hl l.length (Nat.le_refl _) k (by omega)).1
    simp only [gsum, drvR]
    rw [h1, h2, hp, Int.mul_comm (f _)]
    omega
/-- no fault: the emitters are right -/
theorem emFrom_all {l : List Emi} : ∀ n k, l.length - k = n → emFrom l k = 0 → ∀ i (hi : i < l.length), k ≤ i → emiF l i l[i] = 0 := by
  intro n
  induction n with
  | zero => intro k hk h i hi hki; omega
  | succ n ih =>
    intro k hk h i hi hki
    have hlt : k < l.length := by omega
    by_cases h0 : emiF l k l[k] = 0
    · rw [emFrom_next hlt h0] at h
      by_cases e : i = k
      · subst e; exact h0
      · exact ih (k + 1) (by omega) h i hi (by omega)
    · rw [emFrom_bad hlt h0] at h
      exact absurd h h0
theorem chkEm_zero {l : List Emi} (h : chkEm l = 0) : 0 < l.length ∧ l.length ≤ 12 ∧ (∀ k, k < l.length → LvOkC (l.getD k default).r ∧ LvOkC (l.getD k default).g ∧ LvOkC (l.getD k default).b) ∧
    ∀ k, k < l.length → ¬ ((l.getD k default).r = 0 ∧ (l.getD k default).g = 0 ∧ (l.getD k default).b = 0) := by
  unfold chkEm at h
  by_cases h0 : l.length = 0
  · rw [if_pos h0] at h; omega
  rw [if_neg h0] at h
  by_cases h1 : 12 < l.length
  · rw [if_pos h1] at h; omega
  rw [if_neg h1] at h
  have hall := emFrom_all _ 0 rfl h
  have key : ∀ k, k < l.length → (LvOkC (l.getD k default).r ∧ LvOkC (l.getD k default).g ∧ LvOkC (l.getD k default).b) ∧ ¬ ((l.getD k default).r = 0 ∧ (l.getD k default).g = 0 ∧ (l.getD k default).b = 0) := by
    intro k hk
    have h2 := hall k hk (Nat.zero_le _)
    rw [List.getD_eq_getElem?_getD, List.getElem?_eq_getElem hk]
    simp only [Option.getD_some]
    unfold emiF at h2
    split at h2
    · omega
    · split at h2
      · omega
      · split at h2
        · rename_i h3; exact absurd h2 h3
        · rename_i h3
          split at h2
          · omega
          · rename_i h4
            refine ⟨?_, h4⟩
            unfold chkC at h3
            by_cases c : LvOkC l[k].r ∧ LvOkC l[k].g ∧ LvOkC l[k].b
            · exact c
            · rw [if_neg c] at h3
              exact absurd (by decide) h3
  exact ⟨by omega, by omega, fun k hk => (key k hk).1, fun k hk => (key k hk).2⟩
end Go.Proofs.Yteelomjknllcbaa
