/- The wave of steps as numbers; what stays in memory. No walk in it. (printed by wip/gen/gen_wavesteps.py) -/
import Derived.Test.YtopmdeefcjdadaaT29M25
import Derived.Test.YtopmdeefcjdadaaT29M07

namespace Go.Proofs.Ytopmdeefcjdadaa
open Go.RowKit
set_option linter.unusedVariables false
set_option linter.unusedSimpArgs false

def stAt (L : List Stp) (j : Nat) : Stp := L.getD j ⟨0, 0, 0⟩
/-- how far the way of steps is done: two numbers; c rounds left from step j, which begins at b -/
def stW (L : List Stp) (p d : Int) : Nat → Nat → Int → Int × Int
  | 0, _, _ => (0, 1)
  | c + 1, j, b =>
    if p < d * (b + (stAt L j).hold) then ((stAt L j).lv, 65535)
    else if p < d * (b + (stAt L j).hold + (stAt L j).fade) then
      ((d * (stAt L j).fade - (p - d * (b + (stAt L j).hold))) * (stAt L j).lv + (p - d * (b + (stAt L j).hold)) * (stAt L ((j + 1) % L.length)).lv, d * (stAt L j).fade * 65535)
    else stW L p d c (j + 1) (b + (stAt L j).hold + (stAt L j).fade)
theorem stW_first {L : List Stp} {p d : Int} {c j : Nat} {b : Int} (h : p < d * (b + (stAt L j).hold)) : stW L p d (c + 1) j b = ((stAt L j).lv, 65535) := by unfold stW; rw [if_pos h]
theorem stW_mid {L : List Stp} {p d : Int} {c j : Nat} {b : Int} (h : ¬ p < d * (b + (stAt L j).hold)) (h2 : p < d * (b + (stAt L j).hold + (stAt L j).fade)) :
    stW L p d (c + 1) j b = ((d * (stAt L j).fade - (p - d * (b + (stAt L j).hold))) * (stAt L j).lv + (p - d * (b + (stAt L j).hold)) * (stAt L ((j + 1) % L.length)).lv, d * (stAt L j).fade * 65535) := by unfold stW; rw [if_neg h, if_pos h2]
theorem stW_next {L : List Stp} {p d : Int} {c j : Nat} {b : Int} (h : ¬ p < d * (b + (stAt L j).hold)) (h2 : ¬ p < d * (b + (stAt L j).hold + (stAt L j).fade)) :
    stW L p d (c + 1) j b = stW L p d c (j + 1) (b + (stAt L j).hold + (stAt L j).fade) := by rw [stW, if_neg h, if_neg h2]
theorem stAt_get {L : List Stp} {j : Nat} (h : j < L.length) : stAt L j = L[j] := by unfold stAt; rw [List.getD_eq_getElem?_getD, List.getElem?_eq_getElem h]; rfl
/-- the boxes of the wave of steps: the steps, the place, the results, the place in the cycle -/
def StK (w : World) (lo : Option Addr) (cap : Nat) (L : List Stp) (cyc n d k i : Int) (pb : Nat) (p : Int) (W : World) : Prop :=
  (TBox W w.heap.size 161 #[.slice lo L.length cap, .int .i64 cyc] ∧ TBox W (w.heap.size + 1) 119 #[.int .i64 n, .int .i64 d, .int .i64 k, .int .i64 i]) ∧ (TBox W (w.heap.size + 2) 77 #[.int .u64 0, .int .u64 0, .int .u64 0, .int .u64 0, .int .u64 0, .int .u64 0] ∧ TBox W (w.heap.size + 3) 77 #[.int .u64 0, .int .u64 0, .int .u64 0, .int .u64 0, .int .u64 0, .int .u64 0]) ∧ TBox W pb 77 #[.int .u64 (hw 0 p), .int .u64 (hw 1 p), .int .u64 (hw 2 p), .int .u64 (hw 3 p), .int .u64 (hw 4 p), .int .u64 (hw 5 p)] ∧ w.heap.size + 4 ≤ pb ∧ Below w.heap.size w W
section
variable {w : World} {lo : Option Addr} {cap : Nat} {L : List Stp} {cyc n d k i : Int} {pb : Nat} {p : Int} {W W' : World}
theorem StK.below (h : StK w lo cap L cyc n d k i pb p W) (hb : Below W.heap.size W W') : StK w lo cap L cyc n d k i pb p W' := by
  obtain ⟨⟨a, b⟩, ⟨c, e⟩, f, g, j⟩ := h
  exact ⟨⟨a.below hb, b.below hb⟩, ⟨c.below hb, e.below hb⟩, f.below hb, g, j.trans (hb.mono j.size)⟩
theorem StK.gro {g : Nat} (h : StK w lo cap L cyc n d k i pb p W) (hg : W.grownBy W' (some g)) (h1 : w.heap.size + 4 ≤ g) (h2 : g ≠ pb) : StK w lo cap L cyc n d k i pb p W' := by
  obtain ⟨⟨a, b⟩, ⟨c, e⟩, f, g', j⟩ := h
  exact ⟨⟨a.gro hg (by omega), b.gro hg (by omega)⟩, ⟨c.gro hg (by omega), e.gro hg (by omega)⟩, f.gro hg (Ne.symm h2), g', below_gro j hg j.size (by omega)⟩
theorem StK.size (h : StK w lo cap L cyc n d k i pb p W) : w.heap.size + 4 ≤ W.heap.size ∧ pb < W.heap.size := by
  obtain ⟨_, ⟨_, e⟩, f, g, j⟩ := h
  have := f.lt
  omega
theorem StK.pc (h : StK w lo cap L cyc n d k i pb p W) : W.cell? ⟨w.heap.size + 1, 0, none⟩ = some (.int .i64 n) ∧ W.cell? ⟨w.heap.size + 1, 1, none⟩ = some (.int .i64 d) := ⟨h.1.2.cell (i := 0) rfl, h.1.2.cell (i := 1) rfl⟩
theorem StK.sc (h : StK w lo cap L cyc n d k i pb p W) : W.cell? ⟨w.heap.size, 0, none⟩ = some (.slice lo L.length cap) ∧ W.cell? ⟨w.heap.size, 1, none⟩ = some (.int .i64 cyc) := ⟨h.1.1.cell (i := 0) rfl, h.1.1.cell (i := 1) rfl⟩
theorem StK.bel (h : StK w lo cap L cyc n d k i pb p W) : Below w.heap.size w W := h.2.2.2.2
end
theorem hugeCells {W : World} {b : Nat} {p : Int} (h : TBox W b 77 #[.int .u64 (hw 0 p), .int .u64 (hw 1 p), .int .u64 (hw 2 p), .int .u64 (hw 3 p), .int .u64 (hw 4 p), .int .u64 (hw 5 p)]) : W.cell? ⟨b, 0, none⟩ = some (.int .u64 (hw 0 p)) ∧ W.cell? ⟨b, 1, none⟩ = some (.int .u64 (hw 1 p)) ∧ W.cell? ⟨b, 2, none⟩ = some (.int .u64 (hw 2 p)) ∧ W.cell? ⟨b, 3, none⟩ = some (.int .u64 (hw 3 p)) ∧ W.cell? ⟨b, 4, none⟩ = some (.int .u64 (hw 4 p)) ∧ W.cell? ⟨b, 5, none⟩ = some (.int .u64 (hw 5 p)) := ⟨h.cell (i := 0) rfl, h.cell (i := 1) rfl, h.cell (i := 2) rfl, h.cell (i := 3) rfl, h.cell (i := 4) rfl, h.cell (i := 5) rfl⟩
theorem stpCells {W : World} {b : Nat} {x y z : Int} (h : TBox W b 108 #[.int .i64 x, .int .i64 y, .int .i64 z]) : W.cell? ⟨b, 0, none⟩ = some (.int .i64 x) ∧ W.cell? ⟨b, 1, none⟩ = some (.int .i64 y) ∧ W.cell? ⟨b, 2, none⟩ = some (.int .i64 z) := ⟨h.cell (i := 0) rfl, h.cell (i := 1) rfl, h.cell (i := 2) rfl⟩
theorem zeroStp_ (w : World) : (zeroValue 108).run Try.prog w = .ok (.agg #[.int .i64 0, .int .i64 0, .int .i64 0]) w := by kernel_rfl
end Go.Proofs.Ytopmdeefcjdadaa
