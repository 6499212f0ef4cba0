/- The contract of order: the plain laws first. -/
import Derived.Test.YtdicoggpcobbpaaDoorNatSmall
namespace Go.Proofs.YtdicoggpcobbpaaDoor
open Go.RowKit
set_option linter.unusedVariables false
set_option linter.unusedSimpArgs false

/-- what order answers -/
def ordV (n m : Nat) : Int := if n < m then -1 else if m < n then 1 else 0
theorem len_less {n m L M : Nat} (h : LenOf n L) (k : LenOf m M) (hl : L < M) : n < m := by
  have h1 := k.2 (by omega)
  have h2 : BB ^ L ≤ BB ^ (M - 1) := Nat.pow_le_pow_right BB_pos (by omega)
  have := h.1
  omega
theorem ordV_less {n m : Nat} (h : n < m) : ordV n m = -1 := if_pos h
theorem ordV_more {n m : Nat} (h : m < n) : ordV n m = 1 := by unfold ordV; rw [if_neg (by omega), if_pos h]
theorem ordV_same (n : Nat) : ordV n n = 0 := by unfold ordV; rw [if_neg (by omega), if_neg (by omega)]
theorem qN_lt_of {n m i : Nat} (h : qN n i < qN m i) : n < m := by
  unfold qN at h
  by_cases hlt : n < m
  · exact hlt
  · have := Nat.div_le_div_right (c := BB ^ i) (Nat.le_of_not_lt hlt)
    omega
theorem ord_less {n m i : Nat} (h : qN n (i + 1) = qN m (i + 1)) (hd : dg n i < dg m i) : n < m := by
  have h1 := qN_step n i
  have h2 := qN_step m i
  rw [h] at h1
  exact qN_lt_of (i := i) (by omega)
theorem ord_same {n m i : Nat} (h : qN n (i + 1) = qN m (i + 1)) (hd : dg n i = dg m i) : qN n i = qN m i := by
  rw [qN_step n i, qN_step m i, h, hd]
theorem ord_end {n m : Nat} (h : qN n 0 = qN m 0) : n = m := by rwa [qN_zero, qN_zero] at h

def OrdP (n m : Nat) (w : World) (e : Ending) (w' : World) : Prop := e = .returned (.int .i64 (ordV n m)) ∧ Below w.heap.size w w'
end Go.Proofs.YtdicoggpcobbpaaDoor
