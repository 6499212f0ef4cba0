/- The reference's fractions: what a value says; the contracts of Part, Whole, reduced, Zero, Opposite. The contracts of the reference's Times and Over. The contract of the reference's minus. -/
import Derived.Test.YtabalicembhjmaaT33M37
import Derived.Deep.RegionHeld3
import Derived.Test.YtabalicembhjmaaT33M32
import Derived.Test.YtabalicembhjmaaT33M33

namespace Go.Proofs.Ytabalicembhjmaa
open Go.RowKit
set_option linter.unusedVariables false
set_option linter.unusedSimpArgs false

def sg (s : Bool) (n : Nat) : Int := match s with | true => -(n : Int) | false => (n : Int)
/-- the fraction p / d, its parts written out -/
def IsF (B : Nat) (w : World) (s : Bool) (x y : Value) (p : Int) (d : Nat) : Prop := ∃ n, IsN B w x n ∧ IsN B w y d ∧ p = sg s n
def IsQ (B : Nat) (w : World) (v : Value) (p : Int) (d : Nat) : Prop := ∃ s x y, v = .agg #[.bool s, x, y] ∧ IsF B w s x y p d
/-- a value whose row lies in no block up to g -/
def Off (g : Nat) (v : Value) : Prop := ∀ b, v.ownBlock = some b → g < b
/-- a fraction whose rows lie from block lo on -/
def NewV (lo : Nat) (v : Value) : Prop := ∃ s x y, v = .agg #[.bool s, x, y] ∧ (∀ b, x.ownBlock = some b → lo ≤ b) ∧ (∀ b, y.ownBlock = some b → lo ≤ b)
theorem newFV {lo g h : Nat} {s : Bool} {x y : Value} (hx : Off g x) (hy : Off h y) (h1 : lo ≤ g + 1) (h2 : lo ≤ h + 1) : NewV lo (.agg #[.bool s, x, y]) :=
  ⟨s, x, y, rfl, fun b hb => by have := hx b hb; omega, fun b hb => by have := hy b hb; omega⟩
theorem NewV.less {lo lo' : Nat} {v : Value} (h : NewV lo v) (hl : lo' ≤ lo) : NewV lo' v := by
  obtain ⟨s, x, y, rfl, h1, h2⟩ := h
  exact ⟨s, x, y, rfl, fun b hb => Nat.le_trans hl (h1 b hb), fun b hb => Nat.le_trans hl (h2 b hb)⟩
def NewQ (p : Int) (d : Nat) (w : World) (e : Ending) (w' : World) : Prop := ∃ v, e = .returned v ∧ IsQ w'.heap.size w' v p d ∧ NewV w.heap.size v ∧ Below w.heap.size w w'
theorem IsQ.below {B d : Nat} {p : Int} {w w' : World} {v : Value} (h : IsQ B w v p d) (hb : Below B w w') : IsQ B w' v p d := by
  obtain ⟨s, x, y, rfl, n, h1, h2, h3⟩ := h
  exact ⟨s, x, y, rfl, n, h1.below hb, h2.below hb, h3⟩
theorem IsQ.more {B B' d : Nat} {p : Int} {w : World} {v : Value} (h : IsQ B w v p d) (hB : B ≤ B') : IsQ B' w v p d := by
  obtain ⟨s, x, y, rfl, n, h1, h2, h3⟩ := h
  exact ⟨s, x, y, rfl, n, h1.more hB, h2.more hB, h3⟩
/-- short enough that nothing is reduced -/
def Sm (p : Int) (d : Nat) : Prop := p.natAbs < BB ^ 6 ∧ d < BB ^ 5
theorem isN_len {B n : Nat} {w : World} {v : Value} (h : IsN B w v n) : ∃ ao L cap, v = .slice ao L cap ∧ LenOf n L := by
  obtain ⟨L, hl, ao, cap, rfl, _⟩ := h
  exact ⟨ao, L, cap, rfl, hl⟩
theorem sg_abs (s : Bool) (n : Nat) : (sg s n).natAbs = n := by cases s <;> simp [sg]

set_option maxHeartbeats 4000000 in
set_option maxRecDepth 100000 in
theorem reduced_any (B d : Nat) (s : Bool) (x y : Value) (p : Int) (w : World) (hs : Sm p d) (h : IsF B w s x y p d) : Calls Try.prog 101 #[.agg #[.bool s, x, y]] w fun e w' => e = .returned (.agg #[.bool s, x, y]) ∧ Below w.heap.size w w' := by
  obtain ⟨n, h1, h2, rfl⟩ := h
  obtain ⟨ao, L, cap, rfl, hl⟩ := isN_len h1
  obtain ⟨bo, M, cap2, rfl, hm⟩ := isN_len h2
  have hL : L ≤ 6 := lenOf_le hl (by have := hs.1; rwa [sg_abs] at this)
  have hM : M ≤ 5 := lenOf_le hm hs.2
  clear h1 h2 hl hm hs
  go_enter Try.func101, Try.ntmps101
  go_wp2
  exact bodyPost_ret (v := .agg #[.bool s, .slice ao L cap, .slice bo M cap2]) (by simp [results, Try.results101, go_sem]) rfl ⟨rfl, by go_grown⟩

theorem isQ_mk {B d n : Nat} {w : World} {s : Bool} {x y : Value} (h1 : IsN B w x n) (h2 : IsN B w y d) : IsQ B w (.agg #[.bool s, x, y]) (sg s n) d := ⟨s, x, y, rfl, n, h1, h2, rfl⟩
/-- a block of three cells -/
structure Box3 (W : World) (g : Nat) (c0 c1 c2 : Value) : Prop where
  c0 : W.cell? ⟨g, 0, none⟩ = some c0
  c1 : W.cell? ⟨g, 1, none⟩ = some c1
  c2 : W.cell? ⟨g, 2, none⟩ = some c2
  f0 : W.frozen? ⟨g, 0, none⟩ = false
  f1 : W.frozen? ⟨g, 1, none⟩ = false
  f2 : W.frozen? ⟨g, 2, none⟩ = false
theorem box_new (w : World) (c0 c1 c2 : Value) (T : TypeId) : Box3 (w.alloc (.cells #[c0, c1, c2] T)) w.heap.size c0 c1 c2 :=
  ⟨by simp [go_sem], by simp [go_sem], by simp [go_sem], by simp [go_sem], by simp [go_sem], by simp [go_sem]⟩
theorem Box3.below {w W : World} {B g : Nat} {c0 c1 c2 : Value} (h : Box3 w g c0 c1 c2) (hb : Below B w W) (hg : g < B) : Box3 W g c0 c1 c2 :=
  ⟨(hb.cell (p := ⟨g, 0, none⟩) hg).trans h.c0, (hb.cell (p := ⟨g, 1, none⟩) hg).trans h.c1, (hb.cell (p := ⟨g, 2, none⟩) hg).trans h.c2,
   (hb.frozen (p := ⟨g, 0, none⟩) hg).trans h.f0, (hb.frozen (p := ⟨g, 1, none⟩) hg).trans h.f1, (hb.frozen (p := ⟨g, 2, none⟩) hg).trans h.f2⟩
theorem below_set {B : Nat} {w W : World} (h : Below B w W) (g i : Nat) (u : Value) (hg : B ≤ g) : Below B w (W.setCell ⟨g, i, none⟩ u) := h.setCell hg u
theorem below_size1 {w W : World} {o : Obj} (h : Below (w.alloc o).heap.size (w.alloc o) W) : Below w.heap.size w W ∧ w.heap.size < W.heap.size := by
  have h1 := h.size
  simp at h1
  exact ⟨((Below.refl _ _).alloc (Nat.le_refl _) o).trans (h.mono (by simp)), by omega⟩
theorem off_own {w : World} {base e size n g : Nat} {v : Value} {xs : List Value} (h : w.ownsRow base e size v n xs) (hg : g < base) : Off g v := fun b hb => by
  have := (h.lt b hb).1
  omega
theorem IsN.set {B n g i : Nat} {w : World} {v u : Value} (h : IsN B w v n) (hg : Off g v) : IsN B (w.setCell ⟨g, i, none⟩ u) v n := by
  obtain ⟨L, hl, ao, cap, rfl, h1, h2, h3, hx⟩ := h
  refine ⟨L, hl, ao, cap, rfl, h1, h2, h3, fun hL => ?_⟩
  obtain ⟨b, off, rfl, hlt, hc⟩ := hx hL
  refine ⟨b, off, rfl, hlt, fun i hi => ?_⟩
  have hne : b ≠ g := Nat.ne_of_gt (hg b rfl)
  rw [← hc i hi]
  exact World.cell?_of_block (a := ⟨b, off + i, none⟩) (heap_setCell_other w _ b _ (fun e => hne (by simp [e])))
theorem IsN.set3 {B n g : Nat} {w : World} {v u0 u1 u2 : Value} (h : IsN B w v n) (hg : Off g v) : IsN B (((w.setCell ⟨g, 0, none⟩ u0).setCell ⟨g, 1, none⟩ u1).setCell ⟨g, 2, none⟩ u2) v n := ((h.set hg).set hg).set hg
theorem below_set3 {B g : Nat} {w W : World} {u0 u1 u2 : Value} (h : Below B w W) (hg : B ≤ g) : Below B w (((W.setCell ⟨g, 0, none⟩ u0).setCell ⟨g, 1, none⟩ u1).setCell ⟨g, 2, none⟩ u2) := below_set (below_set (below_set h _ _ _ hg) _ _ _ hg) _ _ _ hg
theorem IsQ.set3 {B d g : Nat} {p : Int} {w : World} {v u0 u1 u2 : Value} (h : IsQ B w v p d) (hn : NewV (g + 1) v) : IsQ B (((w.setCell ⟨g, 0, none⟩ u0).setCell ⟨g, 1, none⟩ u1).setCell ⟨g, 2, none⟩ u2) v p d := by
  obtain ⟨s, x, y, rfl, n, h1, h2, h3⟩ := h
  obtain ⟨s', x', y', e, f1, f2⟩ := hn
  cases e
  exact ⟨s, x, y, rfl, n, h1.set3 f1, h2.set3 f2, h3⟩
theorem size_set3 {g : Nat} {W : World} {u0 u1 u2 : Value} : (((W.setCell ⟨g, 0, none⟩ u0).setCell ⟨g, 1, none⟩ u1).setCell ⟨g, 2, none⟩ u2).heap.size = W.heap.size := by simp

set_option maxHeartbeats 4000000 in
set_option maxRecDepth 100000 in
theorem part_any (a b : Nat) (w : World) (ha : a ≤ 9223372036854775807) (hb : b ≤ 9223372036854775807) : Calls Try.prog 86 #[.int .i64 a, .int .i64 b] w (NewQ a b w) := by
  have HA := Lib.hid ha
  have HB := Lib.hid hb
  clear ha hb
  go_enter Try.func86, Try.ntmps86
  go_wp2_with fail
  refine (small_any a _ HA.out).mono ?_
  rintro e w1 ⟨v1, L, rfl, hl1, ho1, hb1⟩
  have HN1 := Lib.hid (isN_own ho1 hl1)
  have HB1 := Lib.hid hb1
  have HO1 := Lib.hid (off_own ho1 (show w.heap.size < _ by simp))
  obtain ⟨ao, cap, rfl⟩ := own_shape1 ho1
  obtain ⟨hbw, hsz⟩ := below_size1 hb1
  have HBW := Lib.hid hbw
  have HX1 := Lib.hid ((box_new w _ _ _ _).below hb1 (by simp))
  clear ho1 hb1 hl1 hbw
  go_wp2_with fail
  refine (small_any b _ HB.out).mono ?_
  rintro e w2 ⟨v2, M, rfl, hl2, ho2, hb2⟩
  have HN2 := Lib.hid (isN_own ho2 hl2)
  have HB2 := Lib.hid hb2
  have HO2 := Lib.hid (off_own ho2 hsz)
  obtain ⟨bo, cap2, rfl⟩ := own_shape1 ho2
  obtain ⟨x0, x1, x2, y0, y1, y2⟩ := HX1.out.below hb2 hsz
  have hsz2 := hb2.size
  clear ho2 hb2 hl2 HX1
  go_wp2
  have HW2 := HBW.out.trans (HB2.out.mono (Nat.le_of_lt hsz))
  refine bodyPost_ret (v := .agg #[.bool false, .slice ao L cap, .slice bo M cap2]) (by simp [results, Try.results86, go_sem, x0, x1, x2]) rfl ⟨_, rfl, ?_, newFV HO1.out HO2.out (by omega) (by omega), below_set3 HW2 (Nat.le_refl _)⟩
  rw [size_set3]
  exact isQ_mk (((HN1.out.below HB2.out).more hsz2).set3 HO1.out) (HN2.out.set3 HO2.out)

set_option maxHeartbeats 4000000 in
set_option maxRecDepth 100000 in
theorem whole_any (n : Int) (w : World) (h0 : -4611686018427387904 ≤ n) (h1 : n ≤ 4611686018427387904) : Calls Try.prog 84 #[.int .i64 n] w (NewQ n 1 w) := by
  by_cases hneg : n < 0
  · obtain ⟨a, ha⟩ : ∃ a : Nat, -n = (a : Int) := ⟨(-n).toNat, by omega⟩
    have HA := Lib.hid (show a ≤ 9223372036854775807 by omega)
    have HE := Lib.hid (show n = sg true a by show n = -(a : Int); omega)
    go_enter Try.func84, Try.ntmps84
    go_wp2_with fail
    refine (small_any a _ HA.out).mono ?_
    rintro e w1 ⟨v1, L, rfl, hl1, ho1, hb1⟩
    have HN1 := Lib.hid (isN_own ho1 hl1)
    have HB1 := Lib.hid hb1
    have HO1 := Lib.hid (off_own ho1 (show w.heap.size < _ by simp))
    obtain ⟨ao, cap, rfl⟩ := own_shape1 ho1
    obtain ⟨hbw, hsz⟩ := below_size1 hb1
    have HBW := Lib.hid hbw
    have HX1 := Lib.hid ((box_new w _ _ _ _).below hb1 (by simp))
    clear ho1 hb1 hl1 hbw
    go_wp2_with fail
    refine (small_any 1 _ (by omega)).mono ?_
    rintro e w2 ⟨v2, M, rfl, hl2, ho2, hb2⟩
    have HN2 := Lib.hid (isN_own ho2 hl2)
    have HB2 := Lib.hid hb2
    have HO2 := Lib.hid (off_own ho2 hsz)
    obtain ⟨bo, cap2, rfl⟩ := own_shape1 ho2
    obtain ⟨x0, x1, x2, y0, y1, y2⟩ := HX1.out.below hb2 hsz
    have hsz2 := hb2.size
    clear ho2 hb2 hl2 HX1
    go_wp2
    have HW2 := HBW.out.trans (HB2.out.mono (Nat.le_of_lt hsz))
    refine bodyPost_ret (v := .agg #[.bool true, .slice ao L cap, .slice bo M cap2]) (by simp [results, Try.results84, go_sem, x0, x1, x2]) rfl ⟨_, rfl, ?_, newFV HO1.out HO2.out (by omega) (by omega), below_set3 HW2 (Nat.le_refl _)⟩
    rw [size_set3, HE.out]
    exact isQ_mk (((HN1.out.below HB2.out).more hsz2).set3 HO1.out) (HN2.out.set3 HO2.out)
  · obtain ⟨a, rfl⟩ : ∃ a : Nat, n = (a : Int) := ⟨n.toNat, by omega⟩
    have HA := Lib.hid (show a ≤ 9223372036854775807 by omega)
    clear h0 h1 hneg
    go_enter Try.func84, Try.ntmps84
    go_wp2_with fail
    refine (small_any a _ HA.out).mono ?_
    rintro e w1 ⟨v1, L, rfl, hl1, ho1, hb1⟩
    have HN1 := Lib.hid (isN_own ho1 hl1)
    have HB1 := Lib.hid hb1
    have HO1 := Lib.hid (off_own ho1 (show w.heap.size < _ by simp))
    obtain ⟨ao, cap, rfl⟩ := own_shape1 ho1
    obtain ⟨hbw, hsz⟩ := below_size1 hb1
    have HBW := Lib.hid hbw
    have HX1 := Lib.hid ((box_new w _ _ _ _).below hb1 (by simp))
    clear ho1 hb1 hl1 hbw
    go_wp2_with fail
    refine (small_any 1 _ (by omega)).mono ?_
    rintro e w2 ⟨v2, M, rfl, hl2, ho2, hb2⟩
    have HN2 := Lib.hid (isN_own ho2 hl2)
    have HB2 := Lib.hid hb2
    have HO2 := Lib.hid (off_own ho2 hsz)
    obtain ⟨bo, cap2, rfl⟩ := own_shape1 ho2
    obtain ⟨x0, x1, x2, y0, y1, y2⟩ := HX1.out.below hb2 hsz
    have hsz2 := hb2.size
    clear ho2 hb2 hl2 HX1
    go_wp2
    have HW2 := HBW.out.trans (HB2.out.mono (Nat.le_of_lt hsz))
    refine bodyPost_ret (v := .agg #[.bool false, .slice ao L cap, .slice bo M cap2]) (by simp [results, Try.results84, go_sem, x0, x1, x2]) rfl ⟨_, rfl, ?_, newFV HO1.out HO2.out (by omega) (by omega), below_set3 HW2 (Nat.le_refl _)⟩
    rw [size_set3]
    exact isQ_mk (s := false) (((HN1.out.below HB2.out).more hsz2).set3 HO1.out) (HN2.out.set3 HO2.out)

/-- what a value becomes with the other sign -/
theorem sg_not (s : Bool) (n : Nat) : sg (!s) n = -sg s n := by cases s <;> simp [sg]
end Go.Proofs.Ytabalicembhjmaa

namespace Go.Proofs.Ytabalicembhjmaa
open Go.RowKit
set_option linter.unusedVariables false
set_option linter.unusedSimpArgs false

theorem sg_mul (s t : Bool) (n m : Nat) : sg (s != t) (n * m) = sg s n * sg t m := by
  cases s <;> cases t <;> simp [sg, Int.neg_mul, Int.mul_neg]
theorem Fit.of6 {n : Nat} (h : n < BB ^ 6) : Fit n := lt_pow h (by omega)
theorem Fit.of5 {n : Nat} (h : n < BB ^ 5) : Fit n := lt_pow h (by omega)
theorem box_new' (w : World) (c0 c1 c2 : Value) (T : TypeId) : Box3 (w.alloc (.cells #[c0, c1, c2] T)) w.heap.size c0 c1 c2 := box_new w c0 c1 c2 T
theorem Box3.alloc {w : World} {g : Nat} {c0 c1 c2 : Value} (h : Box3 w g c0 c1 c2) (hg : g < w.heap.size) (o : Obj) : Box3 (w.alloc o) g c0 c1 c2 :=
  h.below ((Below.refl _ _).alloc (Nat.le_refl _) o) hg
/-- the world in which a function on two fractions begins -/
def W3 (w : World) (s t : Bool) (x y z u : Value) : World := ((w.alloc (.cells #[.bool s, x, y] 128)).alloc (.cells #[.bool t, z, u] 128)).alloc (.cells #[.bool false, .slice none 0 0, .slice none 0 0] 128)
theorem W3_size (w : World) (s t : Bool) (x y z u : Value) : (W3 w s t x y z u).heap.size = w.heap.size + 1 + 1 + 1 := by simp [W3]
theorem W3_below (w : World) (s t : Bool) (x y z u : Value) : Below w.heap.size w (W3 w s t x y z u) := (((Below.refl _ _).alloc (Nat.le_refl _) _).alloc (by simp) _).alloc (by simp <;> omega) _
theorem W3_a (w : World) (s t : Bool) (x y z u : Value) : Box3 (W3 w s t x y z u) w.heap.size (.bool s) x y := ((box_new w _ _ _ _).alloc (by simp) _).alloc (by simp <;> omega) _
theorem W3_b (w : World) (s t : Bool) (x y z u : Value) : Box3 (W3 w s t x y z u) (w.heap.size + 1) (.bool t) z u := by
  have := (box_new (w.alloc (.cells #[.bool s, x, y] 128)) (.bool t) z u 128)
  have h := this.alloc (by simp) (.cells #[.bool false, .slice none 0 0, .slice none 0 0] 128)
  simpa [W3] using h
theorem W3_r (w : World) (s t : Bool) (x y z u : Value) : Box3 (W3 w s t x y z u) (w.heap.size + 1 + 1) (.bool false) (.slice none 0 0) (.slice none 0 0) := by
  have := (box_new ((w.alloc (.cells #[.bool s, x, y] 128)).alloc (.cells #[.bool t, z, u] 128)) (.bool false) (.slice none 0 0) (.slice none 0 0) 128)
  simpa [W3] using this
/-- a new number whose row lies off block g -/
def NewT (g n : Nat) (w : World) (e : Ending) (w' : World) : Prop := ∃ ao L cap, e = .returned (.slice ao L cap) ∧ IsN w'.heap.size w' (.slice ao L cap) n ∧ Off g (.slice ao L cap) ∧ Below w.heap.size w w'
theorem newT_of {g n : Nat} {w w' : World} {e : Ending} (h : NewO w.heap.size n w e w') (hg : g < w.heap.size) : NewT g n w e w' := by
  obtain ⟨v, L, rfl, h2, h3, h4⟩ := h
  obtain ⟨ao, cap, rfl⟩ := own_shape1 h3
  exact ⟨ao, L, cap, rfl, isN_own h3 h2, off_own h3 hg, h4⟩
theorem isN_up {n : Nat} {w w' : World} {v : Value} (h : IsN w.heap.size w v n) (hb : Below w.heap.size w w') : IsN w'.heap.size w' v n := (h.below hb).more hb.size


end Go.Proofs.Ytabalicembhjmaa

namespace Go.Proofs.Ytabalicembhjmaa
open Go.RowKit
set_option linter.unusedVariables false
set_option linter.unusedSimpArgs false

theorem borrowM_le (a b i : Nat) : borrowM a b i ≤ 1 := by unfold borrowM; split <;> omega
theorem borrowM_zero (a b : Nat) : borrowM a b 0 = 0 := by simp [borrowM, Nat.mod_one]
/-- what a round computes out of s -/
theorem minus_pos {d c : Nat} {s x : Int} (h : (d : Int) = s + (if s < 0 then 1000000000 else 0) ∧ c = (if s < 0 then 1 else 0)) (hx : x = s) (h0 : ¬ s < 0) : Value.int .i64 x = Value.int .i64 (d : Nat) ∧ c = 0 := by
  obtain ⟨h1, h2⟩ := h
  rw [if_neg h0] at h1 h2
  exact ⟨by rw [h1, hx, Int.add_zero], h2⟩
theorem minus_neg {d c : Nat} {s x : Int} (h : (d : Int) = s + (if s < 0 then 1000000000 else 0) ∧ c = (if s < 0 then 1 else 0)) (hx : x = s) (h0 : s < 0) : Value.int .i64 (x + 1000000000) = Value.int .i64 (d : Nat) ∧ c = 1 := by
  obtain ⟨h1, h2⟩ := h
  rw [if_pos h0] at h1 h2
  exact ⟨by rw [h1, hx], h2⟩

set_option maxHeartbeats 4000000 in
set_option maxRecDepth 100000 in
theorem minus_any (B n m : Nat) (v u : Value) (w : World) (hB : B ≤ w.heap.size) (fn : Fit n) (hle : m ≤ n) (hv : IsN B w v n) (hu : IsN B w u m) : Calls Try.prog 103 #[v, u] w (NewO w.heap.size (n - m) w) := by
  obtain ⟨L, hL, ao, cap, rfl, c1, c2, hn, hx⟩ := hv
  obtain ⟨M, hM, bo, dap, rfl, d1, d2, hm, hy⟩ := hu
  have hl := fn.len hL
  have hml : M ≤ L := by
    by_cases h : L < M
    · have := len_less hL hM h
      omega
    · omega
  have HX := Lib.hid hx
  have HY := Lib.hid hy
  have Hn := Lib.hid hn
  have Hm := Lib.hid hm
  have Hle := Lib.hid hle
  clear hx hy hn hm hL hM fn hle
  obtain ⟨i0, hi, hz0, hz1, hz2⟩ := info_parts int_info
  have Hi := Lib.hid hi
  have Hz0 := Lib.hid hz0
  have Hz1 := Lib.hid hz1
  have Hz2 := Lib.hid hz2
  clear hi hz0 hz1 hz2
  go_enter Try.func103, Try.ntmps103
  go_wp2
  go_loopw [5, 6, 11] (fun o c i wr => ∃ k : Nat, k ≤ L ∧ i = .int .i64 k ∧ c = .int .i64 (borrowM n m k : Nat) ∧ wr.ownsRow w.heap.size 3 1 o k (dcells (n - m) k) ∧ Below w.heap.size w wr) (fun _ _ i _ => L - (intOf i).toNat)
  case atStart => exact ⟨0, by omega, rfl, by rw [borrowM_zero]; rfl, by simpa [dcells] using World.ownsRow_nil _ _ _ _, Below.refl _ _⟩
  case round =>
    rename_i wr
    obtain ⟨k, hk, rfl, rfl, hown, hb⟩ := hrel
    have HO := Lib.hid hown
    have HB := Lib.hid hb
    have hsz := hb.size
    have HD := Lib.hid (minus_dg n m k Hle.out)
    have HM0 := Lib.hid (fun h : M ≤ k => dg_zero_of_lt (lt_pow Hm.out h))
    have hc1 := borrowM_le n m k
    have hx9 := dg_le9 n k
    have hy9 := dg_le9 m k
    obtain ⟨ao2, cap2, rfl⟩ := own_shape1 hown
    generalize hcn : borrowM n m (k + 1) = cn at *
    have HCN := Lib.hid hcn
    generalize borrowM n m k = c at *
    clear hown hb hcn
    by_cases hkL : k < L
    · obtain ⟨b, off, rfl, hbb, hcx⟩ := HX.out (by omega)
      have hcx' := (HB.out.cell (p := ⟨b, off + k, none⟩) (Nat.lt_of_lt_of_le hbb hB)).trans (hcx k hkL)
      clear hcx
      generalize dg n k = x at *
      by_cases hkM : k < M
      · obtain ⟨b', off', rfl, hbb', hcy⟩ := HY.out (by omega)
        have hcy' := (HB.out.cell (p := ⟨b', off' + k, none⟩) (Nat.lt_of_lt_of_le hbb' hB)).trans (hcy k hkM)
        clear hcy HM0
        generalize dg m k = y at *
        by_cases hs : (x : Int) - (c : Int) - (y : Int) < 0
        · obtain ⟨hd2, hc2⟩ := minus_neg HD.out (x := (x : Int) - (c : Int) - (y : Int)) (by omega) (by omega)
          have HD2 := Lib.hid hd2
          obtain rfl := hc2
          clear HD hd2
          go_wp2_with (at_builtin; refine wpList_append_own _ rfl _ _ 126 rfl w.heap.size 3 i0 (.int .i64 0) 1 8 Try.underlying126 Hi.out Hz0.out Hz1.out Hz2.out rfl (by decide) _ _ _ rfl (HO.out.alloc _) ⟨wr.heap.size, 0, none⟩ 1 1 [.int .i64 ((x : Int) - (c : Int) - (y : Int) + 1000000000)] rfl rfl (one_int _ _ _ _) (int_one _) (by unfold maxLen; omega) (by omega) (by simp; omega) ?_)
          all_goals intro v' w2 hown2 hgrow _
          all_goals rw [cells_snoc HD2.out] at hown2
          all_goals have HB2 := Lib.hid (below_own2 HB.out HO.out hgrow hsz)
          all_goals obtain ⟨ao3, cap3, rfl⟩ := own_shape1 hown2
          all_goals have HO2 := Lib.hid hown2
          all_goals clear hown2 hgrow HO HB HD2
          all_goals go_wp2
          all_goals go_roundw
          all_goals (first | exact ⟨k + 1, by omega, by go_num, by rw [HCN.out]; rfl, HO2.out, HB2.out⟩ | (simp [intOf]; omega))
        · obtain ⟨hd2, hc2⟩ := minus_pos HD.out (x := (x : Int) - (c : Int) - (y : Int)) (by omega) (by omega)
          have HD2 := Lib.hid hd2
          obtain rfl := hc2
          clear HD hd2
          go_wp2_with (at_builtin; refine wpList_append_own _ rfl _ _ 126 rfl w.heap.size 3 i0 (.int .i64 0) 1 8 Try.underlying126 Hi.out Hz0.out Hz1.out Hz2.out rfl (by decide) _ _ _ rfl (HO.out.alloc _) ⟨wr.heap.size, 0, none⟩ 1 1 [.int .i64 ((x : Int) - (c : Int) - (y : Int))] rfl rfl (one_int _ _ _ _) (int_one _) (by unfold maxLen; omega) (by omega) (by simp; omega) ?_)
          all_goals intro v' w2 hown2 hgrow _
          all_goals rw [cells_snoc HD2.out] at hown2
          all_goals have HB2 := Lib.hid (below_own2 HB.out HO.out hgrow hsz)
          all_goals obtain ⟨ao3, cap3, rfl⟩ := own_shape1 hown2
          all_goals have HO2 := Lib.hid hown2
          all_goals clear hown2 hgrow HO HB HD2
          all_goals go_wp2
          all_goals go_roundw
          all_goals (first | exact ⟨k + 1, by omega, by go_num, by rw [HCN.out]; rfl, HO2.out, HB2.out⟩ | (simp [intOf]; omega))
      · have hy0 := HM0.out (by omega)
        rw [hy0] at HD
        clear HM0 hy0 hy9
        by_cases hs : (x : Int) - (c : Int) < 0
        · obtain ⟨hd2, hc2⟩ := minus_neg HD.out (x := (x : Int) - (c : Int)) (by omega) (by omega)
          have HD2 := Lib.hid hd2
          obtain rfl := hc2
          clear HD hd2
          go_wp2_with (at_builtin; refine wpList_append_own _ rfl _ _ 126 rfl w.heap.size 3 i0 (.int .i64 0) 1 8 Try.underlying126 Hi.out Hz0.out Hz1.out Hz2.out rfl (by decide) _ _ _ rfl (HO.out.alloc _) ⟨wr.heap.size, 0, none⟩ 1 1 [.int .i64 ((x : Int) - (c : Int) + 1000000000)] rfl rfl (one_int _ _ _ _) (int_one _) (by unfold maxLen; omega) (by omega) (by simp; omega) ?_)
          all_goals intro v' w2 hown2 hgrow _
          all_goals rw [cells_snoc HD2.out] at hown2
          all_goals have HB2 := Lib.hid (below_own2 HB.out HO.out hgrow hsz)
          all_goals obtain ⟨ao3, cap3, rfl⟩ := own_shape1 hown2
          all_goals have HO2 := Lib.hid hown2
          all_goals clear hown2 hgrow HO HB HD2
          all_goals go_wp2
          all_goals go_roundw
          all_goals (first | exact ⟨k + 1, by omega, by go_num, by rw [HCN.out]; rfl, HO2.out, HB2.out⟩ | (simp [intOf]; omega))
        · obtain ⟨hd2, hc2⟩ := minus_pos HD.out (x := (x : Int) - (c : Int)) (by omega) (by omega)
          have HD2 := Lib.hid hd2
          obtain rfl := hc2
          clear HD hd2
          go_wp2_with (at_builtin; refine wpList_append_own _ rfl _ _ 126 rfl w.heap.size 3 i0 (.int .i64 0) 1 8 Try.underlying126 Hi.out Hz0.out Hz1.out Hz2.out rfl (by decide) _ _ _ rfl (HO.out.alloc _) ⟨wr.heap.size, 0, none⟩ 1 1 [.int .i64 ((x : Int) - (c : Int))] rfl rfl (one_int _ _ _ _) (int_one _) (by unfold maxLen; omega) (by omega) (by simp; omega) ?_)
          all_goals intro v' w2 hown2 hgrow _
          all_goals rw [cells_snoc HD2.out] at hown2
          all_goals have HB2 := Lib.hid (below_own2 HB.out HO.out hgrow hsz)
          all_goals obtain ⟨ao3, cap3, rfl⟩ := own_shape1 hown2
          all_goals have HO2 := Lib.hid hown2
          all_goals clear hown2 hgrow HO HB HD2
          all_goals go_wp2
          all_goals go_roundw
          all_goals (first | exact ⟨k + 1, by omega, by go_num, by rw [HCN.out]; rfl, HO2.out, HB2.out⟩ | (simp [intOf]; omega))
    · obtain rfl : k = L := by omega
      have HL := Lib.hid (Nat.lt_of_le_of_lt (Nat.sub_le n m) Hn.out)
      clear HD HCN HM0 hx9 hy9
      go_wp2_with (go_at_call 114; refine (trim_own _ _ _ _ _ HO.out HL.out).mono ?_; rintro e w' ⟨⟨v', L', rfl, hl', ho'⟩, rfl⟩)
      all_goals
        have HO' := Lib.hid ho'
        have HL' := Lib.hid hl'
        clear ho' hl'
        go_wp2
        go_ret
        exact ⟨_, _, rfl, HL'.out, HO'.out, HB.out⟩
end Go.Proofs.Ytabalicembhjmaa
