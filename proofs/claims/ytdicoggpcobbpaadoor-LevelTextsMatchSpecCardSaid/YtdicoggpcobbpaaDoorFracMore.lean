/- The reference's fractions by value: Plus, Times, Over, Minus, Zero, Order, Floor, Round. -/
import Derived.Test.YtdicoggpcobbpaaDoorFracPlus
namespace Go.Proofs.YtdicoggpcobbpaaDoor
open Go.RowKit
set_option linter.unusedVariables false
set_option linter.unusedSimpArgs false

theorem sm_sg {s : Bool} {n d : Nat} (h : Sm (sg s n) d) : n < BB ^ 6 ∧ d < BB ^ 5 := ⟨by have := h.1; rwa [sg_abs] at this, h.2⟩
def zB (p : Int) : Bool := decide (p = 0)
theorem zB_yes {p : Int} (h : p = 0) : zB p = true := decide_eq_true h
theorem zB_no {p : Int} (h : p ≠ 0) : zB p = false := decide_eq_false h
end Go.Proofs.YtdicoggpcobbpaaDoor
