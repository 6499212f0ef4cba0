/- The reference's divisor: the greatest number that divides both. (printed by wip/gen/gen_divisor.py) The reference's lowest. (printed by wip/gen/gen_lowest.py) The reference's reduced, at any fraction. (printed by wip/gen/gen_reduced.py) Times and Over of the reference at fractions of any length that fits. (printed by wip/gen/gen_frac2.py) -/
import Derived.Test.YtopmdeefcjdadaaT28M08
import Derived.Test.YtopmdeefcjdadaaT28M09

namespace Go.Proofs.Ytopmdeefcjdadaa
open Go.RowKit
set_option linter.unusedVariables false
set_option linter.unusedSimpArgs false

theorem isN_unique {B B' : Nat} {w : World} {v : Value} {a b : Nat} (h : IsN B w v a) (k : IsN B' w v b) : a = b := by
  obtain ⟨L, hl, ao, cap, e, h1, h2, h3, h4⟩ := h
  obtain ⟨M, hm, ao', cap', e', k1, k2, k3, k4⟩ := k
  rw [e] at e'
  cases e'
  refine eq_of_dg h3 k3 fun i hi => ?_
  obtain ⟨b1, o1, q1, _, c1⟩ := h4 (by omega)
  obtain ⟨b2, o2, q2, _, c2⟩ := k4 (by omega)
  rw [q1] at q2
  cases q2
  have t := (c1 i hi).symm.trans (c2 i hi)
  simp at t
  exact_mod_cast t
/-- the number that a value says -/
noncomputable def valN (w : World) (v : Value) : Nat := Classical.epsilon (fun n => IsN w.heap.size w v n)
theorem valN_eq {w : World} {v : Value} {n : Nat} (h : IsN w.heap.size w v n) : valN w v = n := isN_unique (Classical.epsilon_spec (p := fun n => IsN w.heap.size w v n) ⟨n, h⟩) h

set_option maxRecDepth 100000 in
set_option maxHeartbeats 8000000 in
theorem divisor_any (a b : Nat) (v u : Value) (w : World) (fa : Fit a) (fb : Fit b) (hv : IsN w.heap.size w v a) (hu : IsN w.heap.size w u b) :
    Calls Try.prog 126 #[v, u] w fun e w' => ∃ x, e = .returned x ∧ IsN w'.heap.size w' x (Nat.gcd a b) ∧ Below w.heap.size w w' := by
  have HV := Lib.hid hv
  have HU := Lib.hid hu
  have FA := Lib.hid fa
  have FB := Lib.hid fb
  clear hv hu fa fb
  go_enter Try.func126, Try.ntmps126
  go_wp2_with fail
  go_loopw [0, 1] (fun x y wx => ∃ n m : Nat, Hid (IsN wx.heap.size wx x n) ∧ Hid (IsN wx.heap.size wx y m) ∧ Hid (Fit n) ∧ Hid (Fit m) ∧ Hid (Nat.gcd n m = Nat.gcd a b) ∧ Hid (Below w.heap.size w wx)) (fun _ y wx => valN wx y)
  case atStart => exact ⟨a, b, HV, HU, FA, FB, Lib.hid rfl, Lib.hid (Below.refl _ _)⟩
  case round =>
    obtain ⟨n, m, HN, HM, FN, FM, HG, HB⟩ := hrel
    obtain ⟨ao, L, cap, rfl, hl⟩ := isN_len HM.out
    by_cases h0 : m = 0
    · subst h0
      obtain rfl := (lenOf_zero_iff hl).1 rfl
      clear hl
      go_wp2_with fail
      go_ret
      exact ⟨_, rfl, by have := HG.out; rw [Nat.gcd_zero_right] at this; rw [← this]; exact HN.out, HB.out⟩
    · have hL : 0 < L := Nat.pos_of_ne_zero fun h => h0 ((lenOf_zero_iff hl).2 h)
      have HL := Lib.hid hl
      have C := Lib.hid (divide_any wr.heap.size n m _ _ wr (Nat.le_refl _) FN.out (by omega) HN.out HM.out)
      clear hl
      go_wp2_with fail
      refine C.out.mono ?_
      rintro e w1 ⟨v1, v2, rfl, hq, hr, hb1⟩
      have HR := Lib.hid hr
      have HM1 := Lib.hid ((HM.out.below hb1).more hb1.size)
      have HB1 := Lib.hid (HB.out.trans (hb1.mono HB.out.size))
      have FR := Lib.hid (FM.out.le (Nat.le_of_lt (Nat.mod_lt n (show 0 < m by omega))))
      have HG1 := Lib.hid (show Nat.gcd m (n % m) = Nat.gcd a b by rw [← HG.out, Nat.gcd_comm n m, Nat.gcd_rec m n, Nat.gcd_comm])
      have HME := Lib.hid (valN_eq HM.out)
      clear hq hr hb1 C
      go_wp2_with fail
      go_roundw
      case rel => exact ⟨m, n % m, HM1, HR, FM, FR, HG1, HB1⟩
      case measure => rw [valN_eq HR.out, HME.out]; exact Nat.mod_lt _ (by omega)
end Go.Proofs.Ytopmdeefcjdadaa

namespace Go.Proofs.Ytopmdeefcjdadaa
open Go.RowKit
set_option linter.unusedVariables false
set_option linter.unusedSimpArgs false

theorem IsN.setBox {B n g j : Nat} {w : World} {v u c : Value} (h : IsN B w v n) (hc : w.cell? ⟨g, j, none⟩ = some c) (hn : ∀ k x, c ≠ .int k x) : IsN B (w.setCell ⟨g, j, none⟩ u) v n := by
  obtain ⟨L, hl, ao, cap, rfl, h1, h2, h3, hx⟩ := h
  refine ⟨L, hl, ao, cap, rfl, h1, h2, h3, fun hL => ?_⟩
  obtain ⟨b, off, rfl, hlt, hcs⟩ := hx hL
  refine ⟨b, off, rfl, hlt, fun i hi => ?_⟩
  by_cases he : (⟨g, j, none⟩ : Addr) = ⟨b, off + i, none⟩
  · have := hcs i hi
    rw [← he, hc] at this
    exact absurd (Option.some.inj this) (hn _ _)
  · exact (World.cell?_setCell_other _ _ _ _ he).trans (hcs i hi)
theorem IsN.setBox3 {B n g : Nat} {w : World} {v u0 u1 u2 : Value} {s : Bool} {ao bo : Option Addr} {i j k l : Nat} (h : IsN B w v n) (hb : Box3 w g (.bool s) (.slice ao i j) (.slice bo k l)) : IsN B (((w.setCell ⟨g, 0, none⟩ u0).setCell ⟨g, 1, none⟩ u1).setCell ⟨g, 2, none⟩ u2) v n := by
  have e1 : (w.setCell ⟨g, 0, none⟩ u0).cell? ⟨g, 1, none⟩ = some (.slice ao i j) := (World.cell?_setCell_other _ _ _ _ (by simp)).trans hb.c1
  have e2 : ((w.setCell ⟨g, 0, none⟩ u0).setCell ⟨g, 1, none⟩ u1).cell? ⟨g, 2, none⟩ = some (.slice bo k l) := (World.cell?_setCell_other _ _ _ _ (by simp)).trans ((World.cell?_setCell_other _ _ _ _ (by simp)).trans hb.c2)
  exact ((h.setBox hb.c0 (by simp)).setBox e1 (by simp)).setBox e2 (by simp)

set_option maxRecDepth 100000 in
set_option maxHeartbeats 8000000 in
theorem lowest_any (n d : Nat) (s : Bool) (x y : Value) (w : World) (fn : Fit n) (fd : Fit d) (hd : 0 < d) (hx : IsN w.heap.size w x n) (hy : IsN w.heap.size w y d) :
    Calls Try.prog 110 #[.agg #[.bool s, x, y]] w fun e w' => ∃ s' x' y', e = .returned (.agg #[.bool s', x', y']) ∧ IsN w'.heap.size w' x' (n / Nat.gcd d n) ∧ IsN w'.heap.size w' y' (d / Nat.gcd d n) ∧ s' = (s && decide (0 < n / Nat.gcd d n)) ∧ Below w.heap.size w w' := by
  obtain ⟨ao, La, ac, rfl, _⟩ := isN_len hx
  obtain ⟨bo, Lb, bc, rfl, _⟩ := isN_len hy
  have HX := Lib.hid hx
  have HY := Lib.hid hy
  have FN := Lib.hid fn
  have FD := Lib.hid fd
  have HG := Lib.hid (show 0 < Nat.gcd d n from Nat.gcd_pos_of_pos_left n hd)
  have HB := Lib.hid (show Below w.heap.size w ((w.alloc (.cells #[.bool s, .slice ao La ac, .slice bo Lb bc] 87)).alloc (.cells #[.bool false, .slice none 0 0, .slice none 0 0] 87)) from ((Below.refl _ _).alloc (Nat.le_refl _) _).alloc (by simp) _)
  have HA := Lib.hid (show Box3 ((w.alloc (.cells #[.bool s, .slice ao La ac, .slice bo Lb bc] 87)).alloc (.cells #[.bool false, .slice none 0 0, .slice none 0 0] 87)) w.heap.size (.bool s) (.slice ao La ac) (.slice bo Lb bc) from (box_new w _ _ _ _).below ((Below.refl _ _).alloc (Nat.le_refl _) _) (by simp))
  have HR := Lib.hid (show Box3 ((w.alloc (.cells #[.bool s, .slice ao La ac, .slice bo Lb bc] 87)).alloc (.cells #[.bool false, .slice none 0 0, .slice none 0 0] 87)) (w.heap.size + 1) (.bool false) (.slice none 0 0) (.slice none 0 0) from by simpa using box_new (w.alloc (.cells #[.bool s, .slice ao La ac, .slice bo Lb bc] 87)) (.bool false) (.slice none 0 0) (.slice none 0 0) 87)
  have hsz : w.heap.size + 1 < ((w.alloc (.cells #[.bool s, .slice ao La ac, .slice bo Lb bc] 87)).alloc (.cells #[.bool false, .slice none 0 0, .slice none 0 0] 87)).heap.size := by simp
  clear hx hy fn fd hd
  go_enter Try.func110, Try.ntmps110
  have C1 := Lib.hid (divisor_any d n _ _ ((w.alloc (.cells #[.bool s, .slice ao La ac, .slice bo Lb bc] 87)).alloc (.cells #[.bool false, .slice none 0 0, .slice none 0 0] 87)) FD.out FN.out ((HY.out.below HB.out).more HB.out.size) ((HX.out.below HB.out).more HB.out.size))
  generalize hg : Nat.gcd d n = g at *
  clear hg
  go_wp2_with fail
  refine C1.out.mono ?_
  rintro e w2 ⟨v3, rfl, hn3, hb3⟩
  obtain ⟨go, Lg, gc, rfl, _⟩ := isN_len hn3
  have HG2 := Lib.hid hn3
  have hs2 := hb3.size
  have HB2 := Lib.hid (HB.out.trans (hb3.mono HB.out.size))
  have HA2 := Lib.hid (HA.out.below hb3 (by omega))
  have HR2 := Lib.hid (HR.out.below hb3 (by omega))
  clear hn3 hb3 C1 HA HR HB
  have C2 := Lib.hid (divide_any w2.heap.size n g _ _ w2 (Nat.le_refl _) FN.out HG.out ((HX.out.below HB2.out).more HB2.out.size) HG2.out)
  have a0 := HA2.out.c0
  have a1 := HA2.out.c1
  have a2 := HA2.out.c2
  go_wp2_with fail
  refine C2.out.mono ?_
  rintro e w3 ⟨v4, v5, rfl, hn4, hn5, hb3⟩
  obtain ⟨co, Lc, cc, rfl, hlc⟩ := isN_len hn4
  obtain ⟨eo, Le, ec, rfl, _⟩ := isN_len hn5
  have HN3 := Lib.hid hn4
  have HLC := Lib.hid hlc
  have hs3 := hb3.size
  have HB3 := Lib.hid (HB2.out.trans (hb3.mono HB2.out.size))
  have HA3 := Lib.hid (HA2.out.below hb3 (by omega))
  have HR3 := Lib.hid (HR2.out.below hb3 (by omega))
  have HG3 := Lib.hid ((HG2.out.below hb3).more hb3.size)
  clear hn4 hn5 hb3 hlc C2 HA2 HR2 HG2 a0 a1 a2 HB2
  have C3 := Lib.hid (divide_any w3.heap.size d g _ _ w3 (Nat.le_refl _) FD.out HG.out ((HY.out.below HB3.out).more HB3.out.size) HG3.out)
  have a0 := HA3.out.c0
  have a1 := HA3.out.c1
  have a2 := HA3.out.c2
  go_wp2_with fail
  refine C3.out.mono ?_
  rintro e w4 ⟨v6, v7, rfl, hn6, hn7, hb4⟩
  obtain ⟨ddo, Ld, dc, rfl, _⟩ := isN_len hn6
  obtain ⟨fo, Lf, fc, rfl, _⟩ := isN_len hn7
  have HD4 := Lib.hid hn6
  have HN4 := Lib.hid ((HN3.out.below hb4).more hb4.size)
  have hs4 := hb4.size
  have HB4 := Lib.hid (HB3.out.trans (hb4.mono HB3.out.size))
  have HA4 := Lib.hid (HA3.out.below hb4 (by omega))
  have HR4 := Lib.hid (HR3.out.below hb4 (by omega))
  clear hn6 hn7 hb4 C3 HA3 HR3 HG3 HN3 a0 a1 a2 HB3
  have a0 := HA4.out.c0
  obtain ⟨x0, x1, x2, y0, y1, y2⟩ := HR4.out
  cases s with
  | false =>
    have HZ := Lib.hid True.intro
    go_wp2_with fail
    · refine bodyPost_ret (v := .agg #[.bool false, .slice co Lc cc, .slice ddo Ld dc]) (by simp [results, Try.results110, go_sem, x0, x1, x2]) rfl ⟨false, _, _, rfl, ?_, ?_, by simp [HZ.out], below_set3 HB4.out (by omega)⟩
      · rw [size_set3]; exact HN4.out.setBox3 HR4.out
      · rw [size_set3]; exact HD4.out.setBox3 HR4.out
  | true =>
    by_cases hz : n / g = 0
    · have HZ := Lib.hid hz
      have hl0 : Lc = 0 := (lenOf_zero_iff HLC.out).1 hz
      subst hl0
      clear hz
      go_wp2_with fail
      refine bodyPost_ret (v := .agg #[.bool false, .slice co 0 cc, .slice ddo Ld dc]) (by simp [results, Try.results110, go_sem, x0, x1, x2]) rfl ⟨false, _, _, rfl, ?_, ?_, by simp [HZ.out], below_set3 HB4.out (by omega)⟩
      · rw [size_set3]; exact HN4.out.setBox3 HR4.out
      · rw [size_set3]; exact HD4.out.setBox3 HR4.out
    · have HZ := Lib.hid (Nat.pos_of_ne_zero hz)
      have hl0 : 0 < Lc := Nat.pos_of_ne_zero fun h => hz ((lenOf_zero_iff HLC.out).2 h)
      clear hz
      go_wp2_with fail
      refine bodyPost_ret (v := .agg #[.bool true, .slice co Lc cc, .slice ddo Ld dc]) (by simp [results, Try.results110, go_sem, x0, x1, x2]) rfl ⟨true, _, _, rfl, ?_, ?_, by simp [HZ.out], below_set3 HB4.out (by omega)⟩
      · rw [size_set3]; exact HN4.out.setBox3 HR4.out
      · rw [size_set3]; exact HD4.out.setBox3 HR4.out
end Go.Proofs.Ytopmdeefcjdadaa

namespace Go.Proofs.Ytopmdeefcjdadaa
open Go.RowKit
set_option linter.unusedVariables false
set_option linter.unusedSimpArgs false

theorem sg_low {n d : Nat} (s : Bool) (hd : 0 < d) : sg (s && decide (0 < n / Nat.gcd d n)) (n / Nat.gcd d n) * (d : Int) = sg s n * ((d / Nat.gcd d n : Nat) : Int) ∧ n / Nat.gcd d n ≤ n ∧ 0 < d / Nat.gcd d n ∧ d / Nat.gcd d n ≤ d := by
  have hg : 0 < Nat.gcd d n := Nat.gcd_pos_of_pos_left n hd
  refine ⟨?_, Nat.div_le_self _ _, Nat.div_pos (Nat.le_of_dvd hd (Nat.gcd_dvd_left d n)) hg, Nat.div_le_self _ _⟩
  have h1 := Nat.div_mul_cancel (Nat.gcd_dvd_right d n)
  have h2 := Nat.div_mul_cancel (Nat.gcd_dvd_left d n)
  generalize Nat.gcd d n = g at *
  generalize n / g = a at *
  generalize d / g = b at *
  subst h1
  subst h2
  by_cases ha : a = 0
  · subst ha
    cases s <;> simp [sg]
  · have hp : decide (0 < a) = true := decide_eq_true (by omega)
    rw [hp, Bool.and_true]
    cases s <;> simp only [sg] <;> push_cast <;> grind

set_option maxRecDepth 100000 in
set_option maxHeartbeats 8000000 in
theorem reduced2_any (n d : Nat) (s : Bool) (x y : Value) (w : World) (fn : Fit n) (fd : Fit d) (hd : 0 < d) (hx : IsN w.heap.size w x n) (hy : IsN w.heap.size w y d) :
    Calls Try.prog 90 #[.agg #[.bool s, x, y]] w fun e w' => ∃ s' x' y' n' d', e = .returned (.agg #[.bool s', x', y']) ∧ IsN w'.heap.size w' x' n' ∧ IsN w'.heap.size w' y' d' ∧ sg s' n' * (d : Int) = sg s n * (d' : Int) ∧ n' ≤ n ∧ 0 < d' ∧ d' ≤ d ∧ Below w.heap.size w w' := by
  obtain ⟨ao, La, ac, rfl, hla⟩ := isN_len hx
  obtain ⟨bo, Lb, bc, rfl, hlb⟩ := isN_len hy
  have hLa : La ≤ 20 := lenOf_le hla fn
  have hLb : Lb ≤ 20 := lenOf_le hlb fd
  have HX := Lib.hid hx
  have HY := Lib.hid hy
  have FN := Lib.hid fn
  have FD := Lib.hid fd
  have HD := Lib.hid hd
  have HB := Lib.hid (show Below w.heap.size w ((w.alloc (.cells #[.bool s, .slice ao La ac, .slice bo Lb bc] 87)).alloc (.cells #[.bool false, .slice none 0 0, .slice none 0 0] 87)) from ((Below.refl _ _).alloc (Nat.le_refl _) _).alloc (by simp) _)
  have HR := Lib.hid (show Box3 ((w.alloc (.cells #[.bool s, .slice ao La ac, .slice bo Lb bc] 87)).alloc (.cells #[.bool false, .slice none 0 0, .slice none 0 0] 87)) (w.heap.size + 1) (.bool false) (.slice none 0 0) (.slice none 0 0) from by simpa using box_new (w.alloc (.cells #[.bool s, .slice ao La ac, .slice bo Lb bc] 87)) (.bool false) (.slice none 0 0) (.slice none 0 0) 87)
  clear hx hy fn fd hla hlb hd
  by_cases hs : La + Lb < 12
  · go_enter Try.func90, Try.ntmps90
    go_wp2_with fail
    exact bodyPost_ret (v := .agg #[.bool s, .slice ao La ac, .slice bo Lb bc]) (by simp [results, Try.results90, go_sem]) rfl ⟨s, _, _, n, d, rfl, (HX.out.below (by go_grown)).more (by simp <;> omega), (HY.out.below (by go_grown)).more (by simp <;> omega), rfl, Nat.le_refl _, HD.out, Nat.le_refl _, by go_grown⟩
  · have C := Lib.hid (lowest_any n d s _ _ ((w.alloc (.cells #[.bool s, .slice ao La ac, .slice bo Lb bc] 87)).alloc (.cells #[.bool false, .slice none 0 0, .slice none 0 0] 87)) FN.out FD.out HD.out ((HX.out.below HB.out).more HB.out.size) ((HY.out.below HB.out).more HB.out.size))
    have hsz : w.heap.size + 1 < ((w.alloc (.cells #[.bool s, .slice ao La ac, .slice bo Lb bc] 87)).alloc (.cells #[.bool false, .slice none 0 0, .slice none 0 0] 87)).heap.size := by simp
    go_enter Try.func90, Try.ntmps90
    go_wp2_with fail
    refine C.out.mono ?_
    rintro e w2 ⟨s', x', y', rfl, hx2, hy2, hs', hb2⟩
    obtain ⟨co, Lc, cc, rfl, _⟩ := isN_len hx2
    obtain ⟨ddo, Ld, dc, rfl, _⟩ := isN_len hy2
    have HX2 := Lib.hid hx2
    have HY2 := Lib.hid hy2
    have HB2 := Lib.hid (HB.out.trans (hb2.mono HB.out.size))
    have HR2 := Lib.hid (HR.out.below hb2 hsz)
    have HS := Lib.hid hs'
    have hs2 := hb2.size
    clear hx2 hy2 hb2 hs' C HB HR
    obtain ⟨x0, x1, x2, y0, y1, y2⟩ := HR2.out
    go_wp2_with fail
    obtain ⟨k1, k2, k3, k4⟩ := sg_low (n := n) s HD.out
    refine bodyPost_ret (v := .agg #[.bool s', .slice co Lc cc, .slice ddo Ld dc]) (by simp [results, Try.results90, go_sem, x0, x1, x2]) rfl ⟨s', _, _, _, _, rfl, ?_, ?_, by rw [HS.out]; exact k1, k2, k3, k4, below_set3 HB2.out (by omega)⟩
    · rw [size_set3]; exact HX2.out.setBox3 HR2.out
    · rw [size_set3]; exact HY2.out.setBox3 HR2.out
end Go.Proofs.Ytopmdeefcjdadaa

namespace Go.Proofs.Ytopmdeefcjdadaa
open Go.RowKit
set_option linter.unusedVariables false
set_option linter.unusedSimpArgs false

/-- a new fraction of the value P / D, its parts no longer -/
def NewR (P : Int) (D : Nat) (w : World) (e : Ending) (w' : World) : Prop := ∃ v p d, e = .returned v ∧ IsQ w'.heap.size w' v p d ∧ p * (D : Int) = P * (d : Int) ∧ p.natAbs ≤ P.natAbs ∧ 0 < d ∧ d ≤ D ∧ Below w.heap.size w w'


set_option maxHeartbeats 8000000 in
set_option maxRecDepth 100000 in
theorem times2_frac (B na nb da db : Nat) (s t : Bool) (x y z u : Value) (w : World) (hB : B ≤ w.heap.size) (h1 : Fit na) (h2 : Fit da) (h3 : Fit nb) (h4 : Fit db) (h5 : Fit (na * nb)) (h6 : Fit (da * db)) (h7 : 0 < da * db)
    (hx : IsN B w x na) (hy : IsN B w y da) (hz : IsN B w z nb) (hu : IsN B w u db) : Calls Try.prog 52 #[.agg #[.bool s, x, y], .agg #[.bool t, z, u]] w (NewR (sg (s != t) (na * nb)) (da * db) w) := by
  have HX := Lib.hid hx
  have HY := Lib.hid hy
  have HZ := Lib.hid hz
  have HU := Lib.hid hu
  have FA := Lib.hid (h1)
  have FC := Lib.hid (h2)
  have FB := Lib.hid (h3)
  have FD := Lib.hid (h4)
  have HF5 := Lib.hid h5
  have HF6 := Lib.hid h6
  have HF7 := Lib.hid h7
  obtain ⟨ao, La, ac, rfl, _⟩ := isN_len hx
  obtain ⟨co, Lc, cc, rfl, _⟩ := isN_len hy
  obtain ⟨bo, Lb, bc, rfl, _⟩ := isN_len hz
  obtain ⟨dd, Ld, dc, rfl, _⟩ := isN_len hu
  clear hx hy hz hu h1 h2 h3 h4 h5 h6 h7
  have KP := Lib.hid (show ∀ W, Below (w.heap.size + 1 + 1) (W3 w s t (.slice ao La ac) (.slice co Lc cc) (.slice bo Lb bc) (.slice dd Ld dc)) W → (Below (w.heap.size + 1 + 1) (W3 w s t (.slice ao La ac) (.slice co Lc cc) (.slice bo Lb bc) (.slice dd Ld dc)) W ∧ W.cell? ⟨w.heap.size, 0, none⟩ = some (.bool s) ∧ W.cell? ⟨w.heap.size, 1, none⟩ = some (.slice ao La ac) ∧ W.cell? ⟨w.heap.size, 2, none⟩ = some (.slice co Lc cc) ∧ W.cell? ⟨w.heap.size + 1, 0, none⟩ = some (.bool t) ∧ W.cell? ⟨w.heap.size + 1, 1, none⟩ = some (.slice bo Lb bc) ∧ W.cell? ⟨w.heap.size + 1, 2, none⟩ = some (.slice dd Ld dc)) from fun W hW => by
    have a := (W3_a w s t (.slice ao La ac) (.slice co Lc cc) (.slice bo Lb bc) (.slice dd Ld dc)).below hW (by omega)
    have b := (W3_b w s t (.slice ao La ac) (.slice co Lc cc) (.slice bo Lb bc) (.slice dd Ld dc)).below hW (by omega)
    exact ⟨hW, a.c0, a.c1, a.c2, b.c0, b.c1, b.c2⟩)
  have KR := Lib.hid (show ∀ W, Below (w.heap.size + 1 + 1 + 1) (W3 w s t (.slice ao La ac) (.slice co Lc cc) (.slice bo Lb bc) (.slice dd Ld dc)) W → Box3 W (w.heap.size + 1 + 1) (.bool false) (.slice none 0 0) (.slice none 0 0) from fun W hW =>
    (W3_r w s t (.slice ao La ac) (.slice co Lc cc) (.slice bo Lb bc) (.slice dd Ld dc)).below hW (by omega))
  have KB := Lib.hid (show ∀ W, Below (w.heap.size + 1 + 1 + 1) (W3 w s t (.slice ao La ac) (.slice co Lc cc) (.slice bo Lb bc) (.slice dd Ld dc)) W → Below w.heap.size w W ∧ (w.heap.size + 1 + 1 + 1) ≤ W.heap.size from fun W hW => by
    have := hW.size
    rw [W3_size] at this
    exact ⟨(W3_below w s t _ _ _ _).trans (hW.mono (by omega)), this⟩)
  have T1 := Lib.hid (show ∀ W, Below (w.heap.size + 1 + 1 + 1) (W3 w s t (.slice ao La ac) (.slice co Lc cc) (.slice bo Lb bc) (.slice dd Ld dc)) W → Calls Try.prog 89 #[.slice ao La ac, .slice bo Lb bc] W (fun e W1 => NewT (w.heap.size + 1 + 1) (na * nb) W e W1 ∧ Below (w.heap.size + 1 + 1 + 1) (W3 w s t (.slice ao La ac) (.slice co Lc cc) (.slice bo Lb bc) (.slice dd Ld dc)) W1) from fun W hS => by
    obtain ⟨hb, hs⟩ := KB.out W hS
    refine (ntimes_any B _ _ _ _ W (by omega) FA.out FB.out (HX.out.below (hb.mono hB)) (HZ.out.below (hb.mono hB))).mono ?_
    intro e W1 hN
    have hT := newT_of (g := w.heap.size + 1 + 1) hN (by omega)
    obtain ⟨_, _, _, _, _, h4⟩ := id hN
    exact ⟨hT, hS.trans (h4.mono hs)⟩)
  have T2 := Lib.hid (show ∀ W, Below (w.heap.size + 1 + 1 + 1) (W3 w s t (.slice ao La ac) (.slice co Lc cc) (.slice bo Lb bc) (.slice dd Ld dc)) W → Calls Try.prog 89 #[.slice co Lc cc, .slice dd Ld dc] W (fun e W1 => NewT (w.heap.size + 1 + 1) (da * db) W e W1 ∧ Below (w.heap.size + 1 + 1 + 1) (W3 w s t (.slice ao La ac) (.slice co Lc cc) (.slice bo Lb bc) (.slice dd Ld dc)) W1) from fun W hS => by
    obtain ⟨hb, hs⟩ := KB.out W hS
    refine (ntimes_any B _ _ _ _ W (by omega) FC.out FD.out (HY.out.below (hb.mono hB)) (HU.out.below (hb.mono hB))).mono ?_
    intro e W1 hN
    have hT := newT_of (g := w.heap.size + 1 + 1) hN (by omega)
    obtain ⟨_, _, _, _, _, h4⟩ := id hN
    exact ⟨hT, hS.trans (h4.mono hs)⟩)
  clear HX HY HZ HU FA FB FC FD
  go_enter Try.func52, Try.ntmps52
  go_wp2_with fail
  have hw0 : Below (w.heap.size + 1 + 1 + 1) (W3 w s t (.slice ao La ac) (.slice co Lc cc) (.slice bo Lb bc) (.slice dd Ld dc)) (World.drew (((w.alloc (.cells #[.bool s, .slice ao La ac, .slice co Lc cc] 87)).alloc (.cells #[.bool t, .slice bo Lb bc, .slice dd Ld dc] 87)).alloc (.cells #[.bool false, .slice none 0 0, .slice none 0 0] 87))) := (Below.refl _ _).drew
  go_region_held3 (fun W => Below (w.heap.size + 1 + 1) (W3 w s t (.slice ao La ac) (.slice co Lc cc) (.slice bo Lb bc) (.slice dd Ld dc)) W ∧ W.cell? ⟨w.heap.size, 0, none⟩ = some (.bool s) ∧ W.cell? ⟨w.heap.size, 1, none⟩ = some (.slice ao La ac) ∧ W.cell? ⟨w.heap.size, 2, none⟩ = some (.slice co Lc cc) ∧ W.cell? ⟨w.heap.size + 1, 0, none⟩ = some (.bool t) ∧ W.cell? ⟨w.heap.size + 1, 1, none⟩ = some (.slice bo Lb bc) ∧ W.cell? ⟨w.heap.size + 1, 2, none⟩ = some (.slice dd Ld dc))
    (first | exact KP.out _ (by assumption) | exact KP.out _ ((Below.refl _ _).drew) | exact KP.out _ (below_set3 hv3 (Nat.le_refl _)))
    (first
      | (go_at_call 89; ((with_reducible refine (T1.out _ (by assumption)).mono ?_); rintro e W1 ⟨⟨ao1, L1, cap1, rfl, hn1, ho1, hb1⟩, hw1⟩; have HN1 := Lib.hid hn1; have HO1 := Lib.hid ho1; have HB1 := Lib.hid hb1; have hv1 := hw1.mono (Nat.le_succ (w.heap.size + 1 + 1)); clear hn1 ho1 hb1))
      | (go_at_call 89; ((with_reducible refine (T2.out _ (by assumption)).mono ?_); rintro e W2 ⟨⟨ao2, L2, cap2, rfl, hn2, ho2, hb2⟩, hw2⟩; have HN2 := Lib.hid hn2; have HO2 := Lib.hid ho2; have HB2 := Lib.hid hb2; have hv2 := hw2.mono (Nat.le_succ (w.heap.size + 1 + 1)); clear hn2 ho2 hb2))
      | (go_at_call 90; first
          | (have HM1 := Lib.hid (isN_up HN1.out HB2.out); refine (reduced2_any _ _ _ _ _ _ HF5.out HF6.out HF7.out HM1.out HN2.out).mono ?_; rintro e W3 ⟨s3, x3, y3, n3, d3, rfl, hn3, hd3, k1, k2, k3, k4, hb3⟩; obtain ⟨ao3, L3, cap3, rfl, -⟩ := isN_len hn3; obtain ⟨bo3, M3, cbp3, rfl, -⟩ := isN_len hd3; have HP1 := Lib.hid hn3; have HP2 := Lib.hid hd3; have HK := Lib.hid (And.intro k1 (And.intro k2 (And.intro k3 k4))); clear hn3 hd3 k1 k2 k3 k4; have hw3 := hw2.trans (hb3.mono (KB.out _ hw2).2); have hv3 := hw3.mono (Nat.le_succ (w.heap.size + 1 + 1)); obtain ⟨r0, r1, r2, r3, r4, r5⟩ := KR.out _ hw3; clear hb3)
          | (have HM2 := Lib.hid (isN_up HN2.out HB1.out); refine (reduced2_any _ _ _ _ _ _ HF5.out HF6.out HF7.out HN1.out HM2.out).mono ?_; rintro e W3 ⟨s3, x3, y3, n3, d3, rfl, hn3, hd3, k1, k2, k3, k4, hb3⟩; obtain ⟨ao3, L3, cap3, rfl, -⟩ := isN_len hn3; obtain ⟨bo3, M3, cbp3, rfl, -⟩ := isN_len hd3; have HP1 := Lib.hid hn3; have HP2 := Lib.hid hd3; have HK := Lib.hid (And.intro k1 (And.intro k2 (And.intro k3 k4))); clear hn3 hd3 k1 k2 k3 k4; have hw3 := hw1.trans (hb3.mono (KB.out _ hw1).2); have hv3 := hw3.mono (Nat.le_succ (w.heap.size + 1 + 1)); obtain ⟨r0, r1, r2, r3, r4, r5⟩ := KR.out _ hw3; clear hb3)
          | fail)
      | fail)
  all_goals
    have HW3 := Lib.hid (KB.out _ hw3)
    have HR3 := Lib.hid (KR.out _ hw3)
    go_wp2
    refine bodyPost_ret (v := .agg #[.bool s3, .slice ao3 L3 cap3, .slice bo3 M3 cbp3]) (by simp [results, Try.results52, go_sem, r0, r1, r2]) rfl ⟨_, _, _, rfl, ?_, HK.out.1, by rw [sg_abs, sg_abs]; exact HK.out.2.1, HK.out.2.2.1, HK.out.2.2.2, below_set3 HW3.out.1 (by omega)⟩
    rw [size_set3]
    exact isQ_mk (HP1.out.setBox3 HR3.out) (HP2.out.setBox3 HR3.out)


set_option maxHeartbeats 8000000 in
set_option maxRecDepth 100000 in
theorem over2_frac (B na nb da db : Nat) (s t : Bool) (x y z u : Value) (w : World) (hB : B ≤ w.heap.size) (h1 : Fit na) (h2 : Fit da) (h3 : Fit nb) (h4 : Fit db) (h5 : Fit (na * db)) (h6 : Fit (da * nb)) (h7 : 0 < da * nb)
    (hx : IsN B w x na) (hy : IsN B w y da) (hz : IsN B w z nb) (hu : IsN B w u db) : Calls Try.prog 82 #[.agg #[.bool s, x, y], .agg #[.bool t, z, u]] w (NewR (sg (s != t) (na * db)) (da * nb) w) := by
  have HX := Lib.hid hx
  have HY := Lib.hid hy
  have HZ := Lib.hid hz
  have HU := Lib.hid hu
  have FA := Lib.hid (h1)
  have FC := Lib.hid (h2)
  have FB := Lib.hid (h3)
  have FD := Lib.hid (h4)
  have HF5 := Lib.hid h5
  have HF6 := Lib.hid h6
  have HF7 := Lib.hid h7
  obtain ⟨ao, La, ac, rfl, _⟩ := isN_len hx
  obtain ⟨co, Lc, cc, rfl, _⟩ := isN_len hy
  obtain ⟨bo, Lb, bc, rfl, _⟩ := isN_len hz
  obtain ⟨dd, Ld, dc, rfl, _⟩ := isN_len hu
  clear hx hy hz hu h1 h2 h3 h4 h5 h6 h7
  have KP := Lib.hid (show ∀ W, Below (w.heap.size + 1 + 1) (W3 w s t (.slice ao La ac) (.slice co Lc cc) (.slice bo Lb bc) (.slice dd Ld dc)) W → (Below (w.heap.size + 1 + 1) (W3 w s t (.slice ao La ac) (.slice co Lc cc) (.slice bo Lb bc) (.slice dd Ld dc)) W ∧ W.cell? ⟨w.heap.size, 0, none⟩ = some (.bool s) ∧ W.cell? ⟨w.heap.size, 1, none⟩ = some (.slice ao La ac) ∧ W.cell? ⟨w.heap.size, 2, none⟩ = some (.slice co Lc cc) ∧ W.cell? ⟨w.heap.size + 1, 0, none⟩ = some (.bool t) ∧ W.cell? ⟨w.heap.size + 1, 1, none⟩ = some (.slice bo Lb bc) ∧ W.cell? ⟨w.heap.size + 1, 2, none⟩ = some (.slice dd Ld dc)) from fun W hW => by
    have a := (W3_a w s t (.slice ao La ac) (.slice co Lc cc) (.slice bo Lb bc) (.slice dd Ld dc)).below hW (by omega)
    have b := (W3_b w s t (.slice ao La ac) (.slice co Lc cc) (.slice bo Lb bc) (.slice dd Ld dc)).below hW (by omega)
    exact ⟨hW, a.c0, a.c1, a.c2, b.c0, b.c1, b.c2⟩)
  have KR := Lib.hid (show ∀ W, Below (w.heap.size + 1 + 1 + 1) (W3 w s t (.slice ao La ac) (.slice co Lc cc) (.slice bo Lb bc) (.slice dd Ld dc)) W → Box3 W (w.heap.size + 1 + 1) (.bool false) (.slice none 0 0) (.slice none 0 0) from fun W hW =>
    (W3_r w s t (.slice ao La ac) (.slice co Lc cc) (.slice bo Lb bc) (.slice dd Ld dc)).below hW (by omega))
  have KB := Lib.hid (show ∀ W, Below (w.heap.size + 1 + 1 + 1) (W3 w s t (.slice ao La ac) (.slice co Lc cc) (.slice bo Lb bc) (.slice dd Ld dc)) W → Below w.heap.size w W ∧ (w.heap.size + 1 + 1 + 1) ≤ W.heap.size from fun W hW => by
    have := hW.size
    rw [W3_size] at this
    exact ⟨(W3_below w s t _ _ _ _).trans (hW.mono (by omega)), this⟩)
  have T1 := Lib.hid (show ∀ W, Below (w.heap.size + 1 + 1 + 1) (W3 w s t (.slice ao La ac) (.slice co Lc cc) (.slice bo Lb bc) (.slice dd Ld dc)) W → Calls Try.prog 89 #[.slice ao La ac, .slice dd Ld dc] W (fun e W1 => NewT (w.heap.size + 1 + 1) (na * db) W e W1 ∧ Below (w.heap.size + 1 + 1 + 1) (W3 w s t (.slice ao La ac) (.slice co Lc cc) (.slice bo Lb bc) (.slice dd Ld dc)) W1) from fun W hS => by
    obtain ⟨hb, hs⟩ := KB.out W hS
    refine (ntimes_any B _ _ _ _ W (by omega) FA.out FD.out (HX.out.below (hb.mono hB)) (HU.out.below (hb.mono hB))).mono ?_
    intro e W1 hN
    have hT := newT_of (g := w.heap.size + 1 + 1) hN (by omega)
    obtain ⟨_, _, _, _, _, h4⟩ := id hN
    exact ⟨hT, hS.trans (h4.mono hs)⟩)
  have T2 := Lib.hid (show ∀ W, Below (w.heap.size + 1 + 1 + 1) (W3 w s t (.slice ao La ac) (.slice co Lc cc) (.slice bo Lb bc) (.slice dd Ld dc)) W → Calls Try.prog 89 #[.slice co Lc cc, .slice bo Lb bc] W (fun e W1 => NewT (w.heap.size + 1 + 1) (da * nb) W e W1 ∧ Below (w.heap.size + 1 + 1 + 1) (W3 w s t (.slice ao La ac) (.slice co Lc cc) (.slice bo Lb bc) (.slice dd Ld dc)) W1) from fun W hS => by
    obtain ⟨hb, hs⟩ := KB.out W hS
    refine (ntimes_any B _ _ _ _ W (by omega) FC.out FB.out (HY.out.below (hb.mono hB)) (HZ.out.below (hb.mono hB))).mono ?_
    intro e W1 hN
    have hT := newT_of (g := w.heap.size + 1 + 1) hN (by omega)
    obtain ⟨_, _, _, _, _, h4⟩ := id hN
    exact ⟨hT, hS.trans (h4.mono hs)⟩)
  clear HX HY HZ HU FA FB FC FD
  go_enter Try.func82, Try.ntmps82
  go_wp2_with fail
  have hw0 : Below (w.heap.size + 1 + 1 + 1) (W3 w s t (.slice ao La ac) (.slice co Lc cc) (.slice bo Lb bc) (.slice dd Ld dc)) (World.drew (((w.alloc (.cells #[.bool s, .slice ao La ac, .slice co Lc cc] 87)).alloc (.cells #[.bool t, .slice bo Lb bc, .slice dd Ld dc] 87)).alloc (.cells #[.bool false, .slice none 0 0, .slice none 0 0] 87))) := (Below.refl _ _).drew
  go_region_held3 (fun W => Below (w.heap.size + 1 + 1) (W3 w s t (.slice ao La ac) (.slice co Lc cc) (.slice bo Lb bc) (.slice dd Ld dc)) W ∧ W.cell? ⟨w.heap.size, 0, none⟩ = some (.bool s) ∧ W.cell? ⟨w.heap.size, 1, none⟩ = some (.slice ao La ac) ∧ W.cell? ⟨w.heap.size, 2, none⟩ = some (.slice co Lc cc) ∧ W.cell? ⟨w.heap.size + 1, 0, none⟩ = some (.bool t) ∧ W.cell? ⟨w.heap.size + 1, 1, none⟩ = some (.slice bo Lb bc) ∧ W.cell? ⟨w.heap.size + 1, 2, none⟩ = some (.slice dd Ld dc))
    (first | exact KP.out _ (by assumption) | exact KP.out _ ((Below.refl _ _).drew) | exact KP.out _ (below_set3 hv3 (Nat.le_refl _)))
    (first
      | (go_at_call 89; ((with_reducible refine (T1.out _ (by assumption)).mono ?_); rintro e W1 ⟨⟨ao1, L1, cap1, rfl, hn1, ho1, hb1⟩, hw1⟩; have HN1 := Lib.hid hn1; have HO1 := Lib.hid ho1; have HB1 := Lib.hid hb1; have hv1 := hw1.mono (Nat.le_succ (w.heap.size + 1 + 1)); clear hn1 ho1 hb1))
      | (go_at_call 89; ((with_reducible refine (T2.out _ (by assumption)).mono ?_); rintro e W2 ⟨⟨ao2, L2, cap2, rfl, hn2, ho2, hb2⟩, hw2⟩; have HN2 := Lib.hid hn2; have HO2 := Lib.hid ho2; have HB2 := Lib.hid hb2; have hv2 := hw2.mono (Nat.le_succ (w.heap.size + 1 + 1)); clear hn2 ho2 hb2))
      | (go_at_call 90; first
          | (have HM1 := Lib.hid (isN_up HN1.out HB2.out); refine (reduced2_any _ _ _ _ _ _ HF5.out HF6.out HF7.out HM1.out HN2.out).mono ?_; rintro e W3 ⟨s3, x3, y3, n3, d3, rfl, hn3, hd3, k1, k2, k3, k4, hb3⟩; obtain ⟨ao3, L3, cap3, rfl, -⟩ := isN_len hn3; obtain ⟨bo3, M3, cbp3, rfl, -⟩ := isN_len hd3; have HP1 := Lib.hid hn3; have HP2 := Lib.hid hd3; have HK := Lib.hid (And.intro k1 (And.intro k2 (And.intro k3 k4))); clear hn3 hd3 k1 k2 k3 k4; have hw3 := hw2.trans (hb3.mono (KB.out _ hw2).2); have hv3 := hw3.mono (Nat.le_succ (w.heap.size + 1 + 1)); obtain ⟨r0, r1, r2, r3, r4, r5⟩ := KR.out _ hw3; clear hb3)
          | (have HM2 := Lib.hid (isN_up HN2.out HB1.out); refine (reduced2_any _ _ _ _ _ _ HF5.out HF6.out HF7.out HN1.out HM2.out).mono ?_; rintro e W3 ⟨s3, x3, y3, n3, d3, rfl, hn3, hd3, k1, k2, k3, k4, hb3⟩; obtain ⟨ao3, L3, cap3, rfl, -⟩ := isN_len hn3; obtain ⟨bo3, M3, cbp3, rfl, -⟩ := isN_len hd3; have HP1 := Lib.hid hn3; have HP2 := Lib.hid hd3; have HK := Lib.hid (And.intro k1 (And.intro k2 (And.intro k3 k4))); clear hn3 hd3 k1 k2 k3 k4; have hw3 := hw1.trans (hb3.mono (KB.out _ hw1).2); have hv3 := hw3.mono (Nat.le_succ (w.heap.size + 1 + 1)); obtain ⟨r0, r1, r2, r3, r4, r5⟩ := KR.out _ hw3; clear hb3)
          | fail)
      | fail)
  all_goals
    have HW3 := Lib.hid (KB.out _ hw3)
    have HR3 := Lib.hid (KR.out _ hw3)
    go_wp2
    refine bodyPost_ret (v := .agg #[.bool s3, .slice ao3 L3 cap3, .slice bo3 M3 cbp3]) (by simp [results, Try.results82, go_sem, r0, r1, r2]) rfl ⟨_, _, _, rfl, ?_, HK.out.1, by rw [sg_abs, sg_abs]; exact HK.out.2.1, HK.out.2.2.1, HK.out.2.2.2, below_set3 HW3.out.1 (by omega)⟩
    rw [size_set3]
    exact isQ_mk (HP1.out.setBox3 HR3.out) (HP2.out.setBox3 HR3.out)

end Go.Proofs.Ytopmdeefcjdadaa
