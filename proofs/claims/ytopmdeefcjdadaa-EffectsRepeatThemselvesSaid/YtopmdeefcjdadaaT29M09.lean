/- What an effect without a fault has (cut out of XEfShow). (printed by wip/gen/gen_waytop.py) -/
import Derived.Test.YtopmdeefcjdadaaT29M07

namespace Go.Proofs.Ytopmdeefcjdadaa
open Go.RowKit
set_option linter.unusedVariables false
set_option linter.unusedSimpArgs false
theorem chkE_zero {form low high cycle width spread : Int} {l : List Stp} (h : chkF form low high cycle width spread l = 0) :
    (1 ≤ form ∧ form ≤ 7) ∧ (0 ≤ low ∧ low ≤ 65535) ∧ (0 ≤ high ∧ high ≤ 65535) ∧ low ≤ high ∧ (0 ≤ cycle ∧ cycle ≤ 3600000) ∧ (0 ≤ width ∧ width ≤ 1000) ∧ (-10000 ≤ spread ∧ spread ≤ 10000) ∧ l.length ≤ 50 ∧ l.all stpB = true ∧ (form ≠ 7 → l.length = 0) ∧ (form = 7 → cycle = 0) := by
  have e0 : 1 ≤ form ∧ form ≤ 7 := by
    by_cases c : inR form 1 7 = true
    · simpa [inR] using c
    · simp [chkF, chkB, c] at h
  by_cases f7 : form = 7
  · subst f7
    simp only [chkF, chkB] at h
    have fb : inR 7 1 7 = true := by decide
    rw [fb] at h
    simp only [Bool.not_true, Bool.false_eq_true, if_false, beq_self_eq_true, Bool.true_and, Bool.not_false, Bool.false_and, Bool.or_false] at h
    split at h
    · omega
    · rename_i h1
      split at h
      · omega
      · rename_i h2
        split at h
        · omega
        · rename_i h3
          split at h
          · omega
          · split at h
            · omega
            · rename_i h5
              split at h
              · omega
              · rename_i h6
                simp [inR] at h1 h2 h3 h5 h6
                have hc : cycle = 0 := by omega
                refine ⟨e0, by omega, by omega, by omega, by omega, by omega, by omega, by omega, by simpa using h6, by omega, fun _ => hc⟩
  · simp only [chkF, chkB] at h
    have fb : inR form 1 7 = true := by simpa [inR] using e0
    have g7 : (form == 7) = false := by simpa using f7
    rw [fb, g7] at h
    simp only [Bool.not_true, Bool.false_eq_true, if_false, Bool.false_and, Bool.or_false, Bool.not_false, Bool.true_and] at h
    split at h
    · omega
    · rename_i h1
      split at h
      · omega
      · rename_i h2
        split at h
        · omega
        · rename_i h3
          simp [inR] at h1 h2 h3
          have hl : l.length = 0 := by
            have := h1.2
            simpa using this
          have hn : l = [] := List.length_eq_zero_iff.1 hl
          refine ⟨e0, by omega, by omega, by omega, by omega, by omega, by omega, by omega, by rw [hn]; rfl, fun _ => hl, fun h => absurd h f7⟩
end Go.Proofs.Ytopmdeefcjdadaa
