/- Plain facts on Faster's results. -/
import Derived.Test.YtopmdeefcjdadaaFaster
import Derived.Test.YtopmdeefcjdadaaClockTop
namespace Go.Proofs.Ytopmdeefcjdadaa
open Go.RowKit
set_option linter.unusedVariables false
set_option linter.unusedSimpArgs false

theorem fastE_zero {x : Run} {t p : Int} (h : fastE x t p = 0) : chkRun x = 0 ∧ (0 ≤ t ∧ t ≤ 36000000) ∧ (0 ≤ p ∧ p ≤ 1000) ∧ x.start ≤ t ∧ ¬ 50 < (fasterR x.rates t p).length ∧ fastR x t p = ⟨x.ef, x.keys, x.start, fasterR x.rates t p, x.tin, x.tend, x.tout⟩ := by
  have hr : fastR x t p = _ := if_pos h
  unfold fastE at h
  by_cases h1 : fastF x t p = 0
  · rw [if_neg (by simpa using h1)] at h
    obtain ⟨h2, h3, h4⟩ := fi3_zero h1
    have h5 : inR t 0 36000000 = true := by simpa using whenW_zero h3
    have h6 := whenW_zero h4
    simp only [Bool.or_eq_false_iff] at h6
    have h7 : inR p 0 1000 = true := by simpa using h6.1
    refine ⟨h2, (inR_iff _ _ _).1 h5, (inR_iff _ _ _).1 h7, by simpa using h6.2, ?_, hr⟩
    intro h8
    rw [if_pos h8] at h
    omega
  · rw [if_pos h1] at h
    exact absurd h h1
theorem fastR_bad {x : Run} {t p : Int} (h : fastE x t p ≠ 0) : fastR x t p = zRun := if_neg h
theorem chk_fastR {x : Run} {t p : Int} (h : fastE x t p = 0) : chkRun (fastR x t p) = 0 := by
  obtain ⟨h1, h2, h3, h4, h5, h6⟩ := fastE_zero h
  rw [h6]
  obtain ⟨_, _, _, _, _, _, _, _, k9⟩ := chkRun_zero h1
  have hk := (ratesOk_iff _ _).2 (ratesOk_faster x.start t p x.rates k9 h4 h2.2 h3.1 h3.2)
  obtain ⟨_, _, _, k4, _, k6, k7, _, _⟩ := chkRun_zero h1
  have hky : ¬ chkKy (chkEf x.ef) x.keys ≠ 0 := by
    intro hk2
    unfold chkRun at h1
    rw [if_pos hk2] at h1
    exact hk2 h1
  unfold chkRun
  rw [if_neg hky, if_neg (by simpa using k4)]
  unfold chkTm
  simp only
  rw [k6, k7, if_neg (by simp), if_neg (by simp), if_neg h5]
  exact hk
theorem fit_fastR {x : Run} {t p : Int} (h : fastE x t p = 0) (hf : RunFit x) : RunFit (fastR x t p) := by
  obtain ⟨h1, h2, h3, h4, h5, h6⟩ := fastE_zero h
  rw [h6]
  obtain ⟨f1, f2, f3, f4⟩ := hf
  refine ⟨f1, f2, ?_, f4⟩
  intro k hk
  unfold fasterR at hk
  rcases List.mem_append.1 hk with hk | hk
  · exact f3 k (List.mem_filter.1 hk).1
  · simp at hk
    subst hk
    unfold RateFit I64
    omega
end Go.Proofs.Ytopmdeefcjdadaa
