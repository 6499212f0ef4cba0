/- The contract of the reference's minus. -/
import Derived.Test.YtdicoggpcobbpaaDoorNatPlus
import Derived.Test.YtdicoggpcobbpaaDoorNatOrder
namespace Go.Proofs.YtdicoggpcobbpaaDoor
open Go.RowKit
set_option linter.unusedVariables false
set_option linter.unusedSimpArgs false

theorem borrowM_le (a b i : Nat) : borrowM a b i ≤ 1 := by unfold borrowM; split <;> omega
theorem borrowM_zero (a b : Nat) : borrowM a b 0 = 0 := by simp [borrowM, Nat.mod_one]
/-- what a round computes out of s -/
theorem minus_pos {d c : Nat} {s x : Int} (h : (d : Int) = s + (if s < 0 then 1000000000 else 0) ∧ c = (if s < 0 then 1 else 0)) (hx : x = s) (h0 : ¬ s < 0) : Value.int .i64 x = Value.int .i64 (d : Nat) ∧ c = 0 := by
  obtain ⟨h1, h2⟩ := h
  rw [if_neg h0] at h1 h2
  exact ⟨by rw [h1, hx, Int.add_zero], h2⟩
theorem minus_neg {d c : Nat} {s x : Int} (h : (d : Int) = s + (if s < 0 then 1000000000 else 0) ∧ c = (if s < 0 then 1 else 0)) (hx : x = s) (h0 : s < 0) : Value.int .i64 (x + 1000000000) = Value.int .i64 (d : Nat) ∧ c = 1 := by
  obtain ⟨h1, h2⟩ := h
  rw [if_pos h0] at h1 h2
  exact ⟨by rw [h1, hx], h2⟩

end Go.Proofs.YtdicoggpcobbpaaDoor
