/- The contract of the reference's divide by a number of two digits or more: long division. -/
import Derived.Test.YtdicoggpcobbpaaDoorNatDivide
namespace Go.Proofs.YtdicoggpcobbpaaDoor
open Go.RowKit
set_option linter.unusedVariables false
set_option linter.unusedSimpArgs false

/-- what is known of a window -/
theorem long_win (a y j : Nat) (hy : 0 < y) : remX a y (j + 1) / BB ^ j / y = dg (a / y) j ∧ remX a y (j + 1) / BB ^ j < y * BB := by
  obtain ⟨h1, h2, h3⟩ := long_step a y j hy
  rw [(remX_win a y j).1]
  exact ⟨h1, h3⟩
theorem win_mul {W y q : Nat} (h : q ≤ W / y + 1) : q * y ≤ W + y := by
  have h1 : q * y ≤ (W / y + 1) * y := Nat.mul_le_mul_right _ h
  have h2 := Nat.div_mul_le_self W y
  rw [Nat.add_mul, Nat.one_mul] at h1
  omega
theorem win_pow {W y N : Nat} (h : W < y * BB) (hy : y < BB ^ N) : W < BB ^ (N + 1) := by
  have : y * BB < BB ^ N * BB := Nat.mul_lt_mul_of_pos_right hy BB_pos
  rw [← Nat.pow_succ] at this
  exact Nat.lt_trans h this
theorem long_no {a y j q n : Nat} (hy : 0 < y) (h1 : dg (a / y) j ≤ q) (h : q * y ≤ remX a y (j + 1) / BB ^ j) : q = dg (a / y) j ∧ takeX (remX a y (j + 1)) y q j n = remX a y j := by
  have hq : q = dg (a / y) j := by
    have := (Nat.le_div_iff_mul_le hy).2 h
    rw [(long_win a y j hy).1] at this
    omega
  refine ⟨hq, ?_⟩
  unfold takeX takeV lowHigh
  rw [if_pos h, remX_step a y j hy, (remX_win a y j).1, (remX_win a y j).2, ← hq, Nat.add_comm]
theorem long_over {a y j q N : Nat} (hy : 0 < y) (hyN : y < BB ^ N) (h1 : q ≤ dg (a / y) j + 1) (h : remX a y (j + 1) / BB ^ j < q * y) :
    q = dg (a / y) j + 1 ∧ giveX (takeX (remX a y (j + 1)) y q j (N + 1)) y j (N + 1) = remX a y j ∧ takeX (remX a y (j + 1)) y q j (N + 1) / BB ^ j < BB ^ (N + 1) := by
  obtain ⟨w1, w2⟩ := long_win a y j hy
  have hq : q = dg (a / y) j + 1 := by
    have := (Nat.div_lt_iff_lt_mul hy).2 h
    rw [w1] at this
    omega
  have hW := win_pow w2 hyN
  have hy' : y < BB ^ (N + 1) := lt_pow hyN (by omega)
  have hm : q * y ≤ remX a y (j + 1) / BB ^ j + y := win_mul (by rw [w1]; exact h1)
  have hg := giveV hy' hm (by omega)
  refine ⟨hq, ?_, ?_⟩
  · unfold giveX takeX
    rw [lowHigh_div, hg]
    unfold lowHigh
    rw [Nat.add_mul_mod_self_right, Nat.mod_mod, remX_step a y j hy, (remX_win a y j).1, (remX_win a y j).2, hq, Nat.add_sub_cancel, Nat.add_comm]
  · unfold takeX
    rw [lowHigh_div]
    exact (takeV_dg hW hy' hm).1
theorem quo_fact1 {d q : Nat} (h : BB / d = q) : Int.tdiv 1000000000 (d : Int) = (q : Int) ∧ (1000000000 : Int) / (d : Int) = (q : Int) := quo_facts (s := 1000000000) h

/-- what stays of y -/
def YC (w : World) (g y N : Nat) : Prop := g < w.heap.size ∧ ∀ i, i < N → w.cell? ⟨g, i, none⟩ = some (.int .i64 (dg y i : Nat))
theorem YC.grown {w w' : World} {g y N : Nat} {r : Option Nat} (h : YC w g y N) (hg : w.grownBy w' r) (hn : some g ≠ r) : YC w' g y N :=
  ⟨Nat.lt_of_lt_of_le h.1 hg.size, fun i hi => (grown_cell hg h.1 hn).trans (h.2 i hi)⟩
theorem YC.below {w w' : World} {g y N : Nat} (h : YC w g y N) (hb : Below w.heap.size w w') : YC w' g y N :=
  ⟨Nat.lt_of_lt_of_le h.1 hb.size, fun i hi => (hb.cell (p := ⟨g, i, none⟩) h.1).trans (h.2 i hi)⟩
theorem YC.of_own {w : World} {base g y N c : Nat} (h : w.ownsRow base 3 1 (.slice (some ⟨g, 0, none⟩) N c) N (dcells y N)) : YC w g y N :=
  ⟨(h.lt g rfl).2, fun i hi => (World.ownsRow.cellAt h i (by omega)).trans (dcells_at hi)⟩
theorem Row.grown {base g T cap : Nat} {w w' : World} {xs : List Value} {r : Option Nat} (h : Row base w g T cap xs) (hg : w.grownBy w' r) (hn : some g ≠ r) : Row base w' g T cap xs := own_grown h hg (.inr hn)
theorem some_ne {a b : Nat} (h : a ≠ b) : some a ≠ some b := fun e => h (by injection e)
theorem size_set (w : World) (a : Addr) (u : Value) : (w.setCell a u).heap.size = w.heap.size := by simp
theorem below_grown1 {B g : Nat} {w wr w2 : World} (hb : Below B w wr) (hg : wr.grownBy w2 (some g)) (h1 : B ≤ g) (hs : B ≤ wr.heap.size) : Below B w w2 := hb.grown hg hs (fun k hk => by injection hk with hk; omega)

end Go.Proofs.YtdicoggpcobbpaaDoor
