/- The reference's fractions: what a value says; the contracts of Part, Whole, reduced, Zero, Opposite. -/
import Derived.Test.YtdicoggpcobbpaaDoorNatLong
import Derived.Deep.RegionHeld3
namespace Go.Proofs.YtdicoggpcobbpaaDoor
open Go.RowKit
set_option linter.unusedVariables false
set_option linter.unusedSimpArgs false

def sg (s : Bool) (n : Nat) : Int := match s with | true => -(n : Int) | false => (n : Int)
/-- the fraction p / d, its parts written out -/
def IsF (B : Nat) (w : World) (s : Bool) (x y : Value) (p : Int) (d : Nat) : Prop := ∃ n, IsN B w x n ∧ IsN B w y d ∧ p = sg s n
def IsQ (B : Nat) (w : World) (v : Value) (p : Int) (d : Nat) : Prop := ∃ s x y, v = .agg #[.bool s, x, y] ∧ IsF B w s x y p d
/-- a value whose row lies in no block up to g -/
def Off (g : Nat) (v : Value) : Prop := ∀ b, v.ownBlock = some b → g < b
/-- a fraction whose rows lie from block lo on -/
def NewV (lo : Nat) (v : Value) : Prop := ∃ s x y, v = .agg #[.bool s, x, y] ∧ (∀ b, x.ownBlock = some b → lo ≤ b) ∧ (∀ b, y.ownBlock = some b → lo ≤ b)
theorem newFV {lo g h : Nat} {s : Bool} {x y : Value} (hx : Off g x) (hy : Off h y) (h1 : lo ≤ g + 1) (h2 : lo ≤ h + 1) : NewV lo (.agg #[.bool s, x, y]) :=
  ⟨s, x, y, rfl, fun b hb => by have := hx b hb; omega, fun b hb => by have := hy b hb; omega⟩
theorem NewV.less {lo lo' : Nat} {v : Value} (h : NewV lo v) (hl : lo' ≤ lo) : NewV lo' v := by
  obtain ⟨s, x, y, rfl, h1, h2⟩ := h
  exact ⟨s, x, y, rfl, fun b hb => Nat.le_trans hl (h1 b hb), fun b hb => Nat.le_trans hl (h2 b hb)⟩
def NewQ (p : Int) (d : Nat) (w : World) (e : Ending) (w' : World) : Prop := ∃ v, e = .returned v ∧ IsQ w'.heap.size w' v p d ∧ NewV w.heap.size v ∧ Below w.heap.size w w'
theorem IsQ.below {B d : Nat} {p : Int} {w w' : World} {v : Value} (h : IsQ B w v p d) (hb : Below B w w') : IsQ B w' v p d := by
  obtain ⟨s, x, y, rfl, n, h1, h2, h3⟩ := h
  exact ⟨s, x, y, rfl, n, h1.below hb, h2.below hb, h3⟩
theorem IsQ.more {B B' d : Nat} {p : Int} {w : World} {v : Value} (h : IsQ B w v p d) (hB : B ≤ B') : IsQ B' w v p d := by
  obtain ⟨s, x, y, rfl, n, h1, h2, h3⟩ := h
  exact ⟨s, x, y, rfl, n, h1.more hB, h2.more hB, h3⟩
/-- short enough that nothing is reduced -/
def Sm (p : Int) (d : Nat) : Prop := p.natAbs < BB ^ 6 ∧ d < BB ^ 5
theorem isN_len {B n : Nat} {w : World} {v : Value} (h : IsN B w v n) : ∃ ao L cap, v = .slice ao L cap ∧ LenOf n L := by
  obtain ⟨L, hl, ao, cap, rfl, _⟩ := h
  exact ⟨ao, L, cap, rfl, hl⟩
theorem sg_abs (s : Bool) (n : Nat) : (sg s n).natAbs = n := by cases s <;> simp [sg]

theorem isQ_mk {B d n : Nat} {w : World} {s : Bool} {x y : Value} (h1 : IsN B w x n) (h2 : IsN B w y d) : IsQ B w (.agg #[.bool s, x, y]) (sg s n) d := ⟨s, x, y, rfl, n, h1, h2, rfl⟩
/-- a block of three cells -/
structure Box3 (W : World) (g : Nat) (c0 c1 c2 : Value) : Prop where
  c0 : W.cell? ⟨g, 0, none⟩ = some c0
  c1 : W.cell? ⟨g, 1, none⟩ = some c1
  c2 : W.cell? ⟨g, 2, none⟩ = some c2
  f0 : W.frozen? ⟨g, 0, none⟩ = false
  f1 : W.frozen? ⟨g, 1, none⟩ = false
  f2 : W.frozen? ⟨g, 2, none⟩ = false
theorem box_new (w : World) (c0 c1 c2 : Value) (T : TypeId) : Box3 (w.alloc (.cells #[c0, c1, c2] T)) w.heap.size c0 c1 c2 :=
  ⟨by simp [go_sem], by simp [go_sem], by simp [go_sem], by simp [go_sem], by simp [go_sem], by simp [go_sem]⟩
theorem Box3.below {w W : World} {B g : Nat} {c0 c1 c2 : Value} (h : Box3 w g c0 c1 c2) (hb : Below B w W) (hg : g < B) : Box3 W g c0 c1 c2 :=
  ⟨(hb.cell (p := ⟨g, 0, none⟩) hg).trans h.c0, (hb.cell (p := ⟨g, 1, none⟩) hg).trans h.c1, (hb.cell (p := ⟨g, 2, none⟩) hg).trans h.c2,
   (hb.frozen (p := ⟨g, 0, none⟩) hg).trans h.f0, (hb.frozen (p := ⟨g, 1, none⟩) hg).trans h.f1, (hb.frozen (p := ⟨g, 2, none⟩) hg).trans h.f2⟩
theorem below_set {B : Nat} {w W : World} (h : Below B w W) (g i : Nat) (u : Value) (hg : B ≤ g) : Below B w (W.setCell ⟨g, i, none⟩ u) := h.setCell hg u
theorem below_size1 {w W : World} {o : Obj} (h : Below (w.alloc o).heap.size (w.alloc o) W) : Below w.heap.size w W ∧ w.heap.size < W.heap.size := by
  have h1 := h.size
  simp at h1
  exact ⟨((Below.refl _ _).alloc (Nat.le_refl _) o).trans (h.mono (by simp)), by omega⟩
theorem off_own {w : World} {base e size n g : Nat} {v : Value} {xs : List Value} (h : w.ownsRow base e size v n xs) (hg : g < base) : Off g v := fun b hb => by
  have := (h.lt b hb).1
  omega
theorem IsN.set {B n g i : Nat} {w : World} {v u : Value} (h : IsN B w v n) (hg : Off g v) : IsN B (w.setCell ⟨g, i, none⟩ u) v n := by
  obtain ⟨L, hl, ao, cap, rfl, h1, h2, h3, hx⟩ := h
  refine ⟨L, hl, ao, cap, rfl, h1, h2, h3, fun hL => ?_⟩
  obtain ⟨b, off, rfl, hlt, hc⟩ := hx hL
  refine ⟨b, off, rfl, hlt, fun i hi => ?_⟩
  have hne : b ≠ g := Nat.ne_of_gt (hg b rfl)
  rw [← hc i hi]
  exact World.cell?_of_block (a := ⟨b, off + i, none⟩) (heap_setCell_other w _ b _ (fun e => hne (by simp [e])))
theorem IsN.set3 {B n g : Nat} {w : World} {v u0 u1 u2 : Value} (h : IsN B w v n) (hg : Off g v) : IsN B (((w.setCell ⟨g, 0, none⟩ u0).setCell ⟨g, 1, none⟩ u1).setCell ⟨g, 2, none⟩ u2) v n := ((h.set hg).set hg).set hg
theorem below_set3 {B g : Nat} {w W : World} {u0 u1 u2 : Value} (h : Below B w W) (hg : B ≤ g) : Below B w (((W.setCell ⟨g, 0, none⟩ u0).setCell ⟨g, 1, none⟩ u1).setCell ⟨g, 2, none⟩ u2) := below_set (below_set (below_set h _ _ _ hg) _ _ _ hg) _ _ _ hg
theorem IsQ.set3 {B d g : Nat} {p : Int} {w : World} {v u0 u1 u2 : Value} (h : IsQ B w v p d) (hn : NewV (g + 1) v) : IsQ B (((w.setCell ⟨g, 0, none⟩ u0).setCell ⟨g, 1, none⟩ u1).setCell ⟨g, 2, none⟩ u2) v p d := by
  obtain ⟨s, x, y, rfl, n, h1, h2, h3⟩ := h
  obtain ⟨s', x', y', e, f1, f2⟩ := hn
  cases e
  exact ⟨s, x, y, rfl, n, h1.set3 f1, h2.set3 f2, h3⟩
theorem size_set3 {g : Nat} {W : World} {u0 u1 u2 : Value} : (((W.setCell ⟨g, 0, none⟩ u0).setCell ⟨g, 1, none⟩ u1).setCell ⟨g, 2, none⟩ u2).heap.size = W.heap.size := by simp

/-- what a value becomes with the other sign -/
theorem sg_not (s : Bool) (n : Nat) : sg (!s) n = -sg s n := by cases s <;> simp [sg]
end Go.Proofs.YtdicoggpcobbpaaDoor
