/- The contract of level.CheckCurve. -/
import Derived.Test.YtdicoggpcobbpaaDoorCurve
namespace Go.Proofs.YtdicoggpcobbpaaDoor
open Go.RowKit

def inMil (x : Int × Int) : Prop := (0 ≤ x.1 ∧ x.1 ≤ 1000) ∧ 0 ≤ x.2 ∧ x.2 ≤ 1000
open Classical in
noncomputable def checkC (c : Cv) : Int :=
  if ¬ (1 ≤ c.kind ∧ c.kind ≤ 6) then 4
  else if c.kind ≠ 6 then (if 0 < c.pts.length then 3 else 0)
  else if c.pts.length < 2 then 8
  else if 20 < c.pts.length then 2
  else if ¬ ∀ x ∈ c.pts, inMil x then 1
  else if c.pts.head? ≠ some (0, 0) ∨ c.pts.getLast? ≠ some (1000, 1000) then 3
  else if ¬ Steps c.pts then 7 else 0

theorem checkC_right (c : Cv) : checkC c = 0 ↔ RightC c := by
  unfold checkC RightC
  constructor
  · intro h
    by_cases h1 : 1 ≤ c.kind ∧ c.kind ≤ 6
    · rw [if_neg (by simpa using h1)] at h
      by_cases h2 : c.kind = 6
      · rw [if_neg (by simpa using h2)] at h
        by_cases h3 : c.pts.length < 2
        · rw [if_pos h3] at h; omega
        · rw [if_neg h3] at h
          by_cases h4 : 20 < c.pts.length
          · rw [if_pos h4] at h; omega
          · rw [if_neg h4] at h
            by_cases h5 : ∀ x ∈ c.pts, inMil x
            · rw [if_neg (by simpa using h5)] at h
              by_cases h6 : c.pts.head? ≠ some (0, 0) ∨ c.pts.getLast? ≠ some (1000, 1000)
              · rw [if_pos h6] at h; omega
              · rw [if_neg h6] at h
                by_cases h7 : Steps c.pts
                · refine ⟨h1.1, h1.2, fun k => absurd h2 k, fun _ => ⟨by omega, by omega, fun x hx => ?_, ?_, ?_, h7⟩⟩
                  · have := h5 x hx
                    unfold inMil at this; omega
                  · exact Classical.byContradiction fun k => h6 (.inl k)
                  · exact Classical.byContradiction fun k => h6 (.inr k)
                · rw [if_pos (by simpa using h7)] at h; omega
            · rw [if_pos h5] at h; omega
      · rw [if_pos (by simpa using h2)] at h
        by_cases h3 : 0 < c.pts.length
        · rw [if_pos h3] at h; omega
        · exact ⟨h1.1, h1.2, fun _ => List.length_eq_zero_iff.1 (by omega), fun k => absurd k h2⟩
    · rw [if_pos (by simpa using h1)] at h; omega
  · rintro ⟨h1, h2, h3, h4⟩
    rw [if_neg (by simp; omega)]
    by_cases h5 : c.kind = 6
    · obtain ⟨a, b, r, hh, hl, hs⟩ := h4 h5
      rw [if_neg (by simpa using h5), if_neg (by omega), if_neg (by omega), if_neg (by
        intro k; apply k; intro x hx
        have := r x hx
        unfold inMil; omega), if_neg (fun k => k.elim (fun k => k hh) (fun k => k hl)), if_neg (by simpa using hs)]
    · rw [if_pos (by simpa using h5), if_neg (by rw [h3 h5]; simp)]

theorem all_or_first (P : Nat → Prop) (n : Nat) : (∀ i, i < n → P i) ∨ ∃ j, j < n ∧ ¬ P j ∧ ∀ i, i < j → P i := by
  induction n with
  | zero => left; intro i h; omega
  | succ n ih =>
    rcases ih with ih | ⟨j, h1, h2, h3⟩
    · by_cases h : P n
      · left; intro i hi
        by_cases e : i = n
        · subst e; exact h
        · exact ih i (by omega)
      · right; exact ⟨n, by omega, h, ih⟩
    · right; exact ⟨j, by omega, h2, h3⟩

set_option maxHeartbeats 1000000 in
theorem checkCurve_kind (v : Value) (c : Cv) (w : World) (hv : CvV w v c) (h : ¬ (1 ≤ c.kind ∧ c.kind ≤ 6)) :
    Calls Tryd.prog 21 #[v] w fun e w' => e = .returned (.int .i64 (checkC c)) ∧ Below w.heap.size w w' := by
  have hF : checkC c = 4 := if_pos h
  have HF := Lib.hid hF
  obtain ⟨p, rfl, _⟩ := hv
  have hn : c.kind < 1 ∨ 6 < c.kind := by omega
  have HN := Lib.hid hn
  clear hF hn h
  go_enter Tryd.func21, Tryd.ntmps21
  go_wp2_with (first | (go_at_call 54; refine (within_no _ _ _ _ HN.out).mono ?_; rintro e w' ⟨rfl, rfl⟩))
  go_ret
  exact ⟨by rw [HF.out]; rfl, (Below.refl _ _).alloc (Nat.le_refl _) _⟩

set_option maxHeartbeats 1000000 in
theorem checkCurve_plain (v : Value) (c : Cv) (w : World) (hv : CvV w v c) (h : 1 ≤ c.kind ∧ c.kind ≤ 6) (h6 : c.kind ≠ 6) :
    Calls Tryd.prog 21 #[v] w fun e w' => e = .returned (.int .i64 (checkC c)) ∧ Below w.heap.size w w' := by
  have hF : checkC c = if 0 < c.pts.length then 3 else 0 := by unfold checkC; rw [if_neg (by simpa using h), if_pos h6]
  obtain ⟨p, rfl, hp⟩ := hv
  have hne : (c.kind != 6) = true := by simpa using h6
  have HH := Lib.hid h
  have hl : ∃ ao cap, p = .slice ao c.pts.length cap := by
    rcases hp with ⟨h, ao, cap, rfl⟩ | ⟨_, _, b, off, cap, rfl, _⟩
    · exact ⟨ao, cap, by rw [h]; rfl⟩
    · exact ⟨_, cap, rfl⟩
  obtain ⟨ao, cap, rfl⟩ := hl
  clear hp h
  by_cases hz : 0 < c.pts.length
  · rw [if_pos hz] at hF
    have HF := Lib.hid hF
    have hd : decide (0 < c.pts.length) = true := by simpa using hz
    clear hF
    go_enter Tryd.func21, Tryd.ntmps21
    go_wp2_with (first | (go_at_call 54; refine (within_yes _ _ _ _ HH.out).mono ?_; rintro e w' ⟨rfl, rfl⟩) | (go_at_call 55; refine (when_yes _ _).mono ?_; rintro e w' ⟨rfl, rfl⟩))
    go_ret
    exact ⟨by rw [HF.out]; rfl, (Below.refl _ _).alloc (Nat.le_refl _) _⟩
  · rw [if_neg hz] at hF
    have HF := Lib.hid hF
    have hz0 : c.pts.length = 0 := by omega
    rw [hz0]
    clear hF hz hz0
    go_enter Tryd.func21, Tryd.ntmps21
    go_wp2_with (first | (go_at_call 54; refine (within_yes _ _ _ _ HH.out).mono ?_; rintro e w' ⟨rfl, rfl⟩) | (go_at_call 55; refine (when_no _ _).mono ?_; rintro e w' ⟨rfl, rfl⟩))
    go_ret
    exact ⟨by rw [HF.out]; rfl, (Below.refl _ _).alloc (Nat.le_refl _) _⟩
end Go.Proofs.YtdicoggpcobbpaaDoor
