/- The contract of the reference's give. The contract of the reference's divide. The contract of the reference's divide by a number of two digits or more: long division. The reference's fractions: what a value says; the contracts of Part, Whole, reduced, Zero, Opposite. -/
import Derived.Test.YtopmdeefcjdadaaDoorT63M12
import Derived.Deep.RegionHeld3

namespace Go.Proofs.YtopmdeefcjdadaaDoor
open Go.RowKit
set_option linter.unusedVariables false
set_option linter.unusedSimpArgs false

/-- what give leaves -/
def giveX (Z y j n : Nat) : Nat := lowHigh Z ((Z / BB ^ j + y) % BB ^ n) j
theorem giveX_start (Z y j n T : Nat) : mcells (giveX Z y j n) Z j T = dcells Z T := by
  refine mcells_eq fun p hp => ?_
  by_cases h : p < j
  · rw [mixd_low h]; exact lowHigh_dg_low _ _ h
  · exact mixd_high (by omega)
theorem giveX_end {Z y j n T : Nat} (hW : Z / BB ^ j < BB ^ n) : mcells (giveX Z y j n) Z (j + n) T = dcells (giveX Z y j n) T := by
  refine mcells_eq fun p hp => ?_
  by_cases h : p < j + n
  · exact mixd_low h
  · rw [mixd_high (by omega)]
    obtain ⟨k, rfl⟩ : ∃ k, p = j + k := ⟨p - j, by omega⟩
    unfold giveX
    rw [lowHigh_dg_high, ← dg_div, dg_zero_of_lt (lt_pow hW (by omega)), dg_zero_of_lt (lt_pow (Nat.mod_lt _ (BBp n)) (by omega))]
theorem giveX_dg {Z y j n i : Nat} (hi : i < n) : dg (giveX Z y j n) (j + i) = dg (Z / BB ^ j + y) i := by
  unfold giveX
  rw [lowHigh_dg_high, dg_mod hi]

def GiveP (base Z y j n g T cx : Nat) (w : World) (e : Ending) (w' : World) : Prop :=
  (∃ v, e = .returned v) ∧ Row base w' g T cx (dcells (giveX Z y j n) T) ∧ w.grownBy w' (some g)

end Go.Proofs.YtopmdeefcjdadaaDoor

namespace Go.Proofs.YtopmdeefcjdadaaDoor
open Go.RowKit
set_option linter.unusedVariables false
set_option linter.unusedSimpArgs false

theorem own_below {w w' : World} {B base e size n : Nat} {v : Value} {xs : List Value} (h : w.ownsRow base e size v n xs) (hb : Below B w w') (hv : ∀ g, v.ownBlock = some g → g < B) : w'.ownsRow base e size v n xs := by
  refine ⟨h.1, ?_⟩
  rcases h.2 with h' | ⟨g, cap, cur, rfl, h1, h2, h3⟩
  · exact .inl h'
  · exact .inr ⟨g, cap, cur, rfl, h1, (hb.block g (hv g rfl)).trans h2, h3⟩
theorem own_grown {w w' : World} {base e size n : Nat} {r : Option Nat} {v : Value} {xs : List Value} (h : w.ownsRow base e size v n xs) (hg : w.grownBy w' r) (hv : v.ownBlock = none ∨ v.ownBlock ≠ r) : w'.ownsRow base e size v n xs := h.kept hg hv
theorem own_baseN {w : World} {base base' e size n : Nat} {v : Value} {xs : List Value} (h : w.ownsRow base e size v n xs) (hv : base' ≤ base) : w.ownsRow base' e size v n xs := by
  refine ⟨h.1, ?_⟩
  rcases h.2 with h' | ⟨g, cap, cur, rfl, h1, h2, h3⟩
  · exact .inl h'
  · exact .inr ⟨g, cap, cur, rfl, by omega, h2, h3⟩
theorem own_shape_pos {w : World} {base : Nat} {e : TypeId} {size : Nat} {v : Value} {n : Nat} {xs : List Value} (h : w.ownsRow base e size v n xs) (hn : 0 < n) : ∃ g cap, v = .slice (some ⟨g, 0, none⟩) n cap := by
  rcases h.2 with ⟨rfl, rfl⟩ | ⟨g, cap, cur, rfl, _⟩
  · omega
  · exact ⟨_, _, rfl⟩
/-- quotient and rest, as numbers anywhere -/
def DivP (q r : Nat) (w : World) (e : Ending) (w' : World) : Prop := ∃ v1 v2, e = .returned (.tuple #[v1, v2]) ∧ IsN w'.heap.size w' v1 q ∧ IsN w'.heap.size w' v2 r ∧ Below w.heap.size w w'
theorem isN_nil (B : Nat) (w : World) : IsN B w (.slice none 0 0) 0 := ⟨0, lenOf_zero, none, 0, rfl, by omega, by omega, by decide, by omega⟩
theorem isN_own {w : World} {base e n L : Nat} {v : Value} (h : w.ownsRow base e 1 v L (dcells n L)) (hl : LenOf n L) : IsN w.heap.size w v n := ⟨L, hl, RowN.of_own h hl.1⟩
theorem ordV_ge {a b : Nat} (h : b ≤ a) : 0 ≤ ordV a b := by
  unfold ordV
  rw [if_neg (by omega)]
  split <;> omega

def OrdQ (o : Int) (w : World) (e : Ending) (w' : World) : Prop := e = .returned (.int .i64 o) ∧ Below w.heap.size w w'
end Go.Proofs.YtopmdeefcjdadaaDoor

namespace Go.Proofs.YtopmdeefcjdadaaDoor
open Go.RowKit
set_option linter.unusedVariables false
set_option linter.unusedSimpArgs false

/-- what is known of a window -/
theorem long_win (a y j : Nat) (hy : 0 < y) : remX a y (j + 1) / BB ^ j / y = dg (a / y) j ∧ remX a y (j + 1) / BB ^ j < y * BB := by
  obtain ⟨h1, h2, h3⟩ := long_step a y j hy
  rw [(remX_win a y j).1]
  exact ⟨h1, h3⟩
theorem win_mul {W y q : Nat} (h : q ≤ W / y + 1) : q * y ≤ W + y := by
  have h1 : q * y ≤ (W / y + 1) * y := Nat.mul_le_mul_right _ h
  have h2 := Nat.div_mul_le_self W y
  rw [Nat.add_mul, Nat.one_mul] at h1
  omega
theorem win_pow {W y N : Nat} (h : W < y * BB) (hy : y < BB ^ N) : W < BB ^ (N + 1) := by
  have : y * BB < BB ^ N * BB := Nat.mul_lt_mul_of_pos_right hy BB_pos
  rw [← Nat.pow_succ] at this
  exact Nat.lt_trans h this
theorem long_no {a y j q n : Nat} (hy : 0 < y) (h1 : dg (a / y) j ≤ q) (h : q * y ≤ remX a y (j + 1) / BB ^ j) : q = dg (a / y) j ∧ takeX (remX a y (j + 1)) y q j n = remX a y j := by
  have hq : q = dg (a / y) j := by
    have := (Nat.le_div_iff_mul_le hy).2 h
    rw [(long_win a y j hy).1] at this
    omega
  refine ⟨hq, ?_⟩
  unfold takeX takeV lowHigh
  rw [if_pos h, remX_step a y j hy, (remX_win a y j).1, (remX_win a y j).2, ← hq, Nat.add_comm]
theorem long_over {a y j q N : Nat} (hy : 0 < y) (hyN : y < BB ^ N) (h1 : q ≤ dg (a / y) j + 1) (h : remX a y (j + 1) / BB ^ j < q * y) :
    q = dg (a / y) j + 1 ∧ giveX (takeX (remX a y (j + 1)) y q j (N + 1)) y j (N + 1) = remX a y j ∧ takeX (remX a y (j + 1)) y q j (N + 1) / BB ^ j < BB ^ (N + 1) := by
  obtain ⟨w1, w2⟩ := long_win a y j hy
  have hq : q = dg (a / y) j + 1 := by
    have := (Nat.div_lt_iff_lt_mul hy).2 h
    rw [w1] at this
    omega
  have hW := win_pow w2 hyN
  have hy' : y < BB ^ (N + 1) := lt_pow hyN (by omega)
  have hm : q * y ≤ remX a y (j + 1) / BB ^ j + y := win_mul (by rw [w1]; exact h1)
  have hg := giveV hy' hm (by omega)
  refine ⟨hq, ?_, ?_⟩
  · unfold giveX takeX
    rw [lowHigh_div, hg]
    unfold lowHigh
    rw [Nat.add_mul_mod_self_right, Nat.mod_mod, remX_step a y j hy, (remX_win a y j).1, (remX_win a y j).2, hq, Nat.add_sub_cancel, Nat.add_comm]
  · unfold takeX
    rw [lowHigh_div]
    exact (takeV_dg hW hy' hm).1
theorem quo_fact1 {d q : Nat} (h : BB / d = q) : Int.tdiv 1000000000 (d : Int) = (q : Int) ∧ (1000000000 : Int) / (d : Int) = (q : Int) := quo_facts (s := 1000000000) h

/-- what stays of y -/
def YC (w : World) (g y N : Nat) : Prop := g < w.heap.size ∧ ∀ i, i < N → w.cell? ⟨g, i, none⟩ = some (.int .i64 (dg y i : Nat))
theorem YC.grown {w w' : World} {g y N : Nat} {r : Option Nat} (h : YC w g y N) (hg : w.grownBy w' r) (hn : some g ≠ r) : YC w' g y N :=
  ⟨Nat.lt_of_lt_of_le h.1 hg.size, fun i hi => (grown_cellN hg h.1 hn).trans (h.2 i hi)⟩
theorem YC.below {w w' : World} {g y N : Nat} (h : YC w g y N) (hb : Below w.heap.size w w') : YC w' g y N :=
  ⟨Nat.lt_of_lt_of_le h.1 hb.size, fun i hi => (hb.cell (p := ⟨g, i, none⟩) h.1).trans (h.2 i hi)⟩
theorem YC.of_own {w : World} {base g y N c : Nat} (h : w.ownsRow base 3 1 (.slice (some ⟨g, 0, none⟩) N c) N (dcells y N)) : YC w g y N :=
  ⟨(h.lt g rfl).2, fun i hi => (World.ownsRow.cellAt h i (by omega)).trans (dcells_at hi)⟩
theorem Row.grown {base g T cap : Nat} {w w' : World} {xs : List Value} {r : Option Nat} (h : Row base w g T cap xs) (hg : w.grownBy w' r) (hn : some g ≠ r) : Row base w' g T cap xs := own_grown h hg (.inr hn)
theorem some_ne {a b : Nat} (h : a ≠ b) : some a ≠ some b := fun e => h (by injection e)
theorem size_set (w : World) (a : Addr) (u : Value) : (w.setCell a u).heap.size = w.heap.size := by simp
theorem below_grown1 {B g : Nat} {w wr w2 : World} (hb : Below B w wr) (hg : wr.grownBy w2 (some g)) (h1 : B ≤ g) (hs : B ≤ wr.heap.size) : Below B w w2 := hb.grown hg hs (fun k hk => by injection hk with hk; omega)

end Go.Proofs.YtopmdeefcjdadaaDoor

namespace Go.Proofs.YtopmdeefcjdadaaDoor
open Go.RowKit
set_option linter.unusedVariables false
set_option linter.unusedSimpArgs false

def sg (s : Bool) (n : Nat) : Int := match s with | true => -(n : Int) | false => (n : Int)
/-- the fraction p / d, its parts written out -/
def IsF (B : Nat) (w : World) (s : Bool) (x y : Value) (p : Int) (d : Nat) : Prop := ∃ n, IsN B w x n ∧ IsN B w y d ∧ p = sg s n
def IsQ (B : Nat) (w : World) (v : Value) (p : Int) (d : Nat) : Prop := ∃ s x y, v = .agg #[.bool s, x, y] ∧ IsF B w s x y p d
/-- a value whose row lies in no block up to g -/
def Off (g : Nat) (v : Value) : Prop := ∀ b, v.ownBlock = some b → g < b
/-- a fraction whose rows lie from block lo on -/
def NewV (lo : Nat) (v : Value) : Prop := ∃ s x y, v = .agg #[.bool s, x, y] ∧ (∀ b, x.ownBlock = some b → lo ≤ b) ∧ (∀ b, y.ownBlock = some b → lo ≤ b)
theorem newFV {lo g h : Nat} {s : Bool} {x y : Value} (hx : Off g x) (hy : Off h y) (h1 : lo ≤ g + 1) (h2 : lo ≤ h + 1) : NewV lo (.agg #[.bool s, x, y]) :=
  ⟨s, x, y, rfl, fun b hb => by have := hx b hb; omega, fun b hb => by have := hy b hb; omega⟩
theorem NewV.less {lo lo' : Nat} {v : Value} (h : NewV lo v) (hl : lo' ≤ lo) : NewV lo' v := by
  obtain ⟨s, x, y, rfl, h1, h2⟩ := h
  exact ⟨s, x, y, rfl, fun b hb => Nat.le_trans hl (h1 b hb), fun b hb => Nat.le_trans hl (h2 b hb)⟩
def NewQ (p : Int) (d : Nat) (w : World) (e : Ending) (w' : World) : Prop := ∃ v, e = .returned v ∧ IsQ w'.heap.size w' v p d ∧ NewV w.heap.size v ∧ Below w.heap.size w w'
theorem IsQ.below {B d : Nat} {p : Int} {w w' : World} {v : Value} (h : IsQ B w v p d) (hb : Below B w w') : IsQ B w' v p d := by
  obtain ⟨s, x, y, rfl, n, h1, h2, h3⟩ := h
  exact ⟨s, x, y, rfl, n, h1.below hb, h2.below hb, h3⟩
theorem IsQ.more {B B' d : Nat} {p : Int} {w : World} {v : Value} (h : IsQ B w v p d) (hB : B ≤ B') : IsQ B' w v p d := by
  obtain ⟨s, x, y, rfl, n, h1, h2, h3⟩ := h
  exact ⟨s, x, y, rfl, n, h1.more hB, h2.more hB, h3⟩
/-- short enough that nothing is reduced -/
def Sm (p : Int) (d : Nat) : Prop := p.natAbs < BB ^ 6 ∧ d < BB ^ 5
theorem isN_len {B n : Nat} {w : World} {v : Value} (h : IsN B w v n) : ∃ ao L cap, v = .slice ao L cap ∧ LenOf n L := by
  obtain ⟨L, hl, ao, cap, rfl, _⟩ := h
  exact ⟨ao, L, cap, rfl, hl⟩
theorem sg_abs (s : Bool) (n : Nat) : (sg s n).natAbs = n := by cases s <;> simp [sg]

theorem isQ_mk {B d n : Nat} {w : World} {s : Bool} {x y : Value} (h1 : IsN B w x n) (h2 : IsN B w y d) : IsQ B w (.agg #[.bool s, x, y]) (sg s n) d := ⟨s, x, y, rfl, n, h1, h2, rfl⟩
/-- a block of three cells -/
structure Box3 (W : World) (g : Nat) (c0 c1 c2 : Value) : Prop where
  c0 : W.cell? ⟨g, 0, none⟩ = some c0
  c1 : W.cell? ⟨g, 1, none⟩ = some c1
  c2 : W.cell? ⟨g, 2, none⟩ = some c2
  f0 : W.frozen? ⟨g, 0, none⟩ = false
  f1 : W.frozen? ⟨g, 1, none⟩ = false
  f2 : W.frozen? ⟨g, 2, none⟩ = false
theorem box_new (w : World) (c0 c1 c2 : Value) (T : TypeId) : Box3 (w.alloc (.cells #[c0, c1, c2] T)) w.heap.size c0 c1 c2 :=
  ⟨by simp [go_sem], by simp [go_sem], by simp [go_sem], by simp [go_sem], by simp [go_sem], by simp [go_sem]⟩
theorem Box3.below {w W : World} {B g : Nat} {c0 c1 c2 : Value} (h : Box3 w g c0 c1 c2) (hb : Below B w W) (hg : g < B) : Box3 W g c0 c1 c2 :=
  ⟨(hb.cell (p := ⟨g, 0, none⟩) hg).trans h.c0, (hb.cell (p := ⟨g, 1, none⟩) hg).trans h.c1, (hb.cell (p := ⟨g, 2, none⟩) hg).trans h.c2,
   (hb.frozen (p := ⟨g, 0, none⟩) hg).trans h.f0, (hb.frozen (p := ⟨g, 1, none⟩) hg).trans h.f1, (hb.frozen (p := ⟨g, 2, none⟩) hg).trans h.f2⟩
theorem below_set {B : Nat} {w W : World} (h : Below B w W) (g i : Nat) (u : Value) (hg : B ≤ g) : Below B w (W.setCell ⟨g, i, none⟩ u) := h.setCell hg u
theorem below_size1 {w W : World} {o : Obj} (h : Below (w.alloc o).heap.size (w.alloc o) W) : Below w.heap.size w W ∧ w.heap.size < W.heap.size := by
  have h1 := h.size
  simp at h1
  exact ⟨((Below.refl _ _).alloc (Nat.le_refl _) o).trans (h.mono (by simp)), by omega⟩
theorem off_own {w : World} {base e size n g : Nat} {v : Value} {xs : List Value} (h : w.ownsRow base e size v n xs) (hg : g < base) : Off g v := fun b hb => by
  have := (h.lt b hb).1
  omega
theorem IsN.set {B n g i : Nat} {w : World} {v u : Value} (h : IsN B w v n) (hg : Off g v) : IsN B (w.setCell ⟨g, i, none⟩ u) v n := by
  obtain ⟨L, hl, ao, cap, rfl, h1, h2, h3, hx⟩ := h
  refine ⟨L, hl, ao, cap, rfl, h1, h2, h3, fun hL => ?_⟩
  obtain ⟨b, off, rfl, hlt, hc⟩ := hx hL
  refine ⟨b, off, rfl, hlt, fun i hi => ?_⟩
  have hne : b ≠ g := Nat.ne_of_gt (hg b rfl)
  rw [← hc i hi]
  exact World.cell?_of_block (a := ⟨b, off + i, none⟩) (heap_setCell_other w _ b _ (fun e => hne (by simp [e])))
theorem IsN.set3 {B n g : Nat} {w : World} {v u0 u1 u2 : Value} (h : IsN B w v n) (hg : Off g v) : IsN B (((w.setCell ⟨g, 0, none⟩ u0).setCell ⟨g, 1, none⟩ u1).setCell ⟨g, 2, none⟩ u2) v n := ((h.set hg).set hg).set hg
theorem below_set3 {B g : Nat} {w W : World} {u0 u1 u2 : Value} (h : Below B w W) (hg : B ≤ g) : Below B w (((W.setCell ⟨g, 0, none⟩ u0).setCell ⟨g, 1, none⟩ u1).setCell ⟨g, 2, none⟩ u2) := below_set (below_set (below_set h _ _ _ hg) _ _ _ hg) _ _ _ hg
theorem IsQ.set3 {B d g : Nat} {p : Int} {w : World} {v u0 u1 u2 : Value} (h : IsQ B w v p d) (hn : NewV (g + 1) v) : IsQ B (((w.setCell ⟨g, 0, none⟩ u0).setCell ⟨g, 1, none⟩ u1).setCell ⟨g, 2, none⟩ u2) v p d := by
  obtain ⟨s, x, y, rfl, n, h1, h2, h3⟩ := h
  obtain ⟨s', x', y', e, f1, f2⟩ := hn
  cases e
  exact ⟨s, x, y, rfl, n, h1.set3 f1, h2.set3 f2, h3⟩
theorem size_set3 {g : Nat} {W : World} {u0 u1 u2 : Value} : (((W.setCell ⟨g, 0, none⟩ u0).setCell ⟨g, 1, none⟩ u1).setCell ⟨g, 2, none⟩ u2).heap.size = W.heap.size := by simp

/-- what a value becomes with the other sign -/
theorem sg_not (s : Bool) (n : Nat) : sg (!s) n = -sg s n := by cases s <;> simp [sg]
end Go.Proofs.YtopmdeefcjdadaaDoor
