/- The contracts of the reference's Times and Over. The contract of the reference's minus. -/
import Derived.Test.YtopmdeefcjdadaaT28M08
import Derived.Test.YtopmdeefcjdadaaT28M03
import Derived.Test.YtopmdeefcjdadaaT28M04

namespace Go.Proofs.Ytopmdeefcjdadaa
open Go.RowKit
set_option linter.unusedVariables false
set_option linter.unusedSimpArgs false

theorem sg_mul (s t : Bool) (n m : Nat) : sg (s != t) (n * m) = sg s n * sg t m := by
  cases s <;> cases t <;> simp [sg, Int.neg_mul, Int.mul_neg]
theorem Fit.of6 {n : Nat} (h : n < BB ^ 6) : Fit n := lt_pow h (by omega)
theorem Fit.of5 {n : Nat} (h : n < BB ^ 5) : Fit n := lt_pow h (by omega)
theorem box_new' (w : World) (c0 c1 c2 : Value) (T : TypeId) : Box3 (w.alloc (.cells #[c0, c1, c2] T)) w.heap.size c0 c1 c2 := box_new w c0 c1 c2 T
theorem Box3.alloc {w : World} {g : Nat} {c0 c1 c2 : Value} (h : Box3 w g c0 c1 c2) (hg : g < w.heap.size) (o : Obj) : Box3 (w.alloc o) g c0 c1 c2 :=
  h.below ((Below.refl _ _).alloc (Nat.le_refl _) o) hg
/-- the world in which a function on two fractions begins -/
def W3 (w : World) (s t : Bool) (x y z u : Value) : World := ((w.alloc (.cells #[.bool s, x, y] 87)).alloc (.cells #[.bool t, z, u] 87)).alloc (.cells #[.bool false, .slice none 0 0, .slice none 0 0] 87)
theorem W3_size (w : World) (s t : Bool) (x y z u : Value) : (W3 w s t x y z u).heap.size = w.heap.size + 1 + 1 + 1 := by simp [W3]
theorem W3_below (w : World) (s t : Bool) (x y z u : Value) : Below w.heap.size w (W3 w s t x y z u) := (((Below.refl _ _).alloc (Nat.le_refl _) _).alloc (by simp) _).alloc (by simp <;> omega) _
theorem W3_a (w : World) (s t : Bool) (x y z u : Value) : Box3 (W3 w s t x y z u) w.heap.size (.bool s) x y := ((box_new w _ _ _ _).alloc (by simp) _).alloc (by simp <;> omega) _
theorem W3_b (w : World) (s t : Bool) (x y z u : Value) : Box3 (W3 w s t x y z u) (w.heap.size + 1) (.bool t) z u := by
  have := (box_new (w.alloc (.cells #[.bool s, x, y] 87)) (.bool t) z u 87)
  have h := this.alloc (by simp) (.cells #[.bool false, .slice none 0 0, .slice none 0 0] 87)
  simpa [W3] using h
theorem W3_r (w : World) (s t : Bool) (x y z u : Value) : Box3 (W3 w s t x y z u) (w.heap.size + 1 + 1) (.bool false) (.slice none 0 0) (.slice none 0 0) := by
  have := (box_new ((w.alloc (.cells #[.bool s, x, y] 87)).alloc (.cells #[.bool t, z, u] 87)) (.bool false) (.slice none 0 0) (.slice none 0 0) 87)
  simpa [W3] using this
/-- a new number whose row lies off block g -/
def NewT (g n : Nat) (w : World) (e : Ending) (w' : World) : Prop := ∃ ao L cap, e = .returned (.slice ao L cap) ∧ IsN w'.heap.size w' (.slice ao L cap) n ∧ Off g (.slice ao L cap) ∧ Below w.heap.size w w'
theorem newT_of {g n : Nat} {w w' : World} {e : Ending} (h : NewO w.heap.size n w e w') (hg : g < w.heap.size) : NewT g n w e w' := by
  obtain ⟨v, L, rfl, h2, h3, h4⟩ := h
  obtain ⟨ao, cap, rfl⟩ := own_shape1 h3
  exact ⟨ao, L, cap, rfl, isN_own h3 h2, off_own h3 hg, h4⟩
theorem isN_up {n : Nat} {w w' : World} {v : Value} (h : IsN w.heap.size w v n) (hb : Below w.heap.size w w') : IsN w'.heap.size w' v n := (h.below hb).more hb.size


set_option maxHeartbeats 8000000 in
set_option maxRecDepth 100000 in
theorem times_frac (B na nb da db : Nat) (s t : Bool) (x y z u : Value) (w : World) (hB : B ≤ w.heap.size) (h1 : na < BB ^ 6) (h2 : da < BB ^ 5) (h3 : nb < BB ^ 6) (h4 : db < BB ^ 5) (h5 : na * nb < BB ^ 6) (h6 : da * db < BB ^ 5)
    (hx : IsN B w x na) (hy : IsN B w y da) (hz : IsN B w z nb) (hu : IsN B w u db) : Calls Try.prog 52 #[.agg #[.bool s, x, y], .agg #[.bool t, z, u]] w (NewQ (sg (s != t) (na * nb)) (da * db) w) := by
  have HX := Lib.hid hx
  have HY := Lib.hid hy
  have HZ := Lib.hid hz
  have HU := Lib.hid hu
  have FA := Lib.hid (Fit.of6 h1)
  have FC := Lib.hid (Fit.of5 h2)
  have FB := Lib.hid (Fit.of6 h3)
  have FD := Lib.hid (Fit.of5 h4)
  have HSM := Lib.hid (show Sm (sg (s != t) (na * nb)) (da * db) from ⟨by rw [sg_abs]; exact h5, h6⟩)
  obtain ⟨ao, La, ac, rfl, _⟩ := isN_len hx
  obtain ⟨co, Lc, cc, rfl, _⟩ := isN_len hy
  obtain ⟨bo, Lb, bc, rfl, _⟩ := isN_len hz
  obtain ⟨dd, Ld, dc, rfl, _⟩ := isN_len hu
  clear hx hy hz hu h1 h2 h3 h4 h5 h6
  have KP := Lib.hid (show ∀ W, Below (w.heap.size + 1 + 1) (W3 w s t (.slice ao La ac) (.slice co Lc cc) (.slice bo Lb bc) (.slice dd Ld dc)) W → (Below (w.heap.size + 1 + 1) (W3 w s t (.slice ao La ac) (.slice co Lc cc) (.slice bo Lb bc) (.slice dd Ld dc)) W ∧ W.cell? ⟨w.heap.size, 0, none⟩ = some (.bool s) ∧ W.cell? ⟨w.heap.size, 1, none⟩ = some (.slice ao La ac) ∧ W.cell? ⟨w.heap.size, 2, none⟩ = some (.slice co Lc cc) ∧ W.cell? ⟨w.heap.size + 1, 0, none⟩ = some (.bool t) ∧ W.cell? ⟨w.heap.size + 1, 1, none⟩ = some (.slice bo Lb bc) ∧ W.cell? ⟨w.heap.size + 1, 2, none⟩ = some (.slice dd Ld dc)) from fun W hW => by
    have a := (W3_a w s t (.slice ao La ac) (.slice co Lc cc) (.slice bo Lb bc) (.slice dd Ld dc)).below hW (by omega)
    have b := (W3_b w s t (.slice ao La ac) (.slice co Lc cc) (.slice bo Lb bc) (.slice dd Ld dc)).below hW (by omega)
    exact ⟨hW, a.c0, a.c1, a.c2, b.c0, b.c1, b.c2⟩)
  have KR := Lib.hid (show ∀ W, Below (w.heap.size + 1 + 1 + 1) (W3 w s t (.slice ao La ac) (.slice co Lc cc) (.slice bo Lb bc) (.slice dd Ld dc)) W → Box3 W (w.heap.size + 1 + 1) (.bool false) (.slice none 0 0) (.slice none 0 0) from fun W hW =>
    (W3_r w s t (.slice ao La ac) (.slice co Lc cc) (.slice bo Lb bc) (.slice dd Ld dc)).below hW (by omega))
  have KB := Lib.hid (show ∀ W, Below (w.heap.size + 1 + 1 + 1) (W3 w s t (.slice ao La ac) (.slice co Lc cc) (.slice bo Lb bc) (.slice dd Ld dc)) W → Below w.heap.size w W ∧ (w.heap.size + 1 + 1 + 1) ≤ W.heap.size from fun W hW => by
    have := hW.size
    rw [W3_size] at this
    exact ⟨(W3_below w s t _ _ _ _).trans (hW.mono (by omega)), this⟩)
  have T1 := Lib.hid (show ∀ W, Below (w.heap.size + 1 + 1 + 1) (W3 w s t (.slice ao La ac) (.slice co Lc cc) (.slice bo Lb bc) (.slice dd Ld dc)) W → Calls Try.prog 89 #[.slice ao La ac, .slice bo Lb bc] W (fun e W1 => NewT (w.heap.size + 1 + 1) (na * nb) W e W1 ∧ Below (w.heap.size + 1 + 1 + 1) (W3 w s t (.slice ao La ac) (.slice co Lc cc) (.slice bo Lb bc) (.slice dd Ld dc)) W1) from fun W hS => by
    obtain ⟨hb, hs⟩ := KB.out W hS
    refine (ntimes_any B _ _ _ _ W (by omega) FA.out FB.out (HX.out.below (hb.mono hB)) (HZ.out.below (hb.mono hB))).mono ?_
    intro e W1 hN
    have hT := newT_of (g := w.heap.size + 1 + 1) hN (by omega)
    obtain ⟨_, _, _, _, _, h4⟩ := id hN
    exact ⟨hT, hS.trans (h4.mono hs)⟩)
  have T2 := Lib.hid (show ∀ W, Below (w.heap.size + 1 + 1 + 1) (W3 w s t (.slice ao La ac) (.slice co Lc cc) (.slice bo Lb bc) (.slice dd Ld dc)) W → Calls Try.prog 89 #[.slice co Lc cc, .slice dd Ld dc] W (fun e W1 => NewT (w.heap.size + 1 + 1) (da * db) W e W1 ∧ Below (w.heap.size + 1 + 1 + 1) (W3 w s t (.slice ao La ac) (.slice co Lc cc) (.slice bo Lb bc) (.slice dd Ld dc)) W1) from fun W hS => by
    obtain ⟨hb, hs⟩ := KB.out W hS
    refine (ntimes_any B _ _ _ _ W (by omega) FC.out FD.out (HY.out.below (hb.mono hB)) (HU.out.below (hb.mono hB))).mono ?_
    intro e W1 hN
    have hT := newT_of (g := w.heap.size + 1 + 1) hN (by omega)
    obtain ⟨_, _, _, _, _, h4⟩ := id hN
    exact ⟨hT, hS.trans (h4.mono hs)⟩)
  clear HX HY HZ HU FA FB FC FD
  go_enter Try.func52, Try.ntmps52
  go_wp2_with fail
  have hw0 : Below (w.heap.size + 1 + 1 + 1) (W3 w s t (.slice ao La ac) (.slice co Lc cc) (.slice bo Lb bc) (.slice dd Ld dc)) (World.drew (((w.alloc (.cells #[.bool s, .slice ao La ac, .slice co Lc cc] 87)).alloc (.cells #[.bool t, .slice bo Lb bc, .slice dd Ld dc] 87)).alloc (.cells #[.bool false, .slice none 0 0, .slice none 0 0] 87))) := (Below.refl _ _).drew
  go_region_held3 (fun W => Below (w.heap.size + 1 + 1) (W3 w s t (.slice ao La ac) (.slice co Lc cc) (.slice bo Lb bc) (.slice dd Ld dc)) W ∧ W.cell? ⟨w.heap.size, 0, none⟩ = some (.bool s) ∧ W.cell? ⟨w.heap.size, 1, none⟩ = some (.slice ao La ac) ∧ W.cell? ⟨w.heap.size, 2, none⟩ = some (.slice co Lc cc) ∧ W.cell? ⟨w.heap.size + 1, 0, none⟩ = some (.bool t) ∧ W.cell? ⟨w.heap.size + 1, 1, none⟩ = some (.slice bo Lb bc) ∧ W.cell? ⟨w.heap.size + 1, 2, none⟩ = some (.slice dd Ld dc))
    (first | exact KP.out _ (by assumption) | exact KP.out _ ((Below.refl _ _).drew) | exact KP.out _ (below_set3 hv3 (Nat.le_refl _)))
    (first
      | (go_at_call 89; ((with_reducible refine (T1.out _ (by assumption)).mono ?_); rintro e W1 ⟨⟨ao1, L1, cap1, rfl, hn1, ho1, hb1⟩, hw1⟩; have HN1 := Lib.hid hn1; have HO1 := Lib.hid ho1; have HB1 := Lib.hid hb1; have hv1 := hw1.mono (Nat.le_succ (w.heap.size + 1 + 1)); clear hn1 ho1 hb1))
      | (go_at_call 89; ((with_reducible refine (T2.out _ (by assumption)).mono ?_); rintro e W2 ⟨⟨ao2, L2, cap2, rfl, hn2, ho2, hb2⟩, hw2⟩; have HN2 := Lib.hid hn2; have HO2 := Lib.hid ho2; have HB2 := Lib.hid hb2; have hv2 := hw2.mono (Nat.le_succ (w.heap.size + 1 + 1)); clear hn2 ho2 hb2))
      | (go_at_call 90; first
          | (have HM1 := Lib.hid (isN_up HN1.out HB2.out); refine (reduced_any _ _ _ _ _ _ _ HSM.out ⟨_, HM1.out, HN2.out, rfl⟩).mono ?_; rintro e W3 ⟨rfl, hb3⟩; have hw3 := hw2.trans (hb3.mono (KB.out _ hw2).2); have HP1 := Lib.hid (isN_up HM1.out hb3); have HP2 := Lib.hid (isN_up HN2.out hb3); have hv3 := hw3.mono (Nat.le_succ (w.heap.size + 1 + 1)); obtain ⟨r0, r1, r2, r3, r4, r5⟩ := KR.out _ hw3; clear hb3)
          | (have HM2 := Lib.hid (isN_up HN2.out HB1.out); refine (reduced_any _ _ _ _ _ _ _ HSM.out ⟨_, HN1.out, HM2.out, rfl⟩).mono ?_; rintro e W3 ⟨rfl, hb3⟩; have hw3 := hw1.trans (hb3.mono (KB.out _ hw1).2); have HP1 := Lib.hid (isN_up HN1.out hb3); have HP2 := Lib.hid (isN_up HM2.out hb3); have hv3 := hw3.mono (Nat.le_succ (w.heap.size + 1 + 1)); obtain ⟨r0, r1, r2, r3, r4, r5⟩ := KR.out _ hw3; clear hb3)
          | fail)
      | fail)
  all_goals
    have HW3 := Lib.hid (KB.out _ hw3)
    go_wp2
    refine bodyPost_ret (v := .agg #[.bool (s != t), .slice ao1 L1 cap1, .slice ao2 L2 cap2]) (by simp [results, Try.results52, go_sem, r0, r1, r2]) rfl ⟨_, rfl, ?_, newFV HO1.out HO2.out (by omega) (by omega), below_set3 HW3.out.1 (by omega)⟩
    rw [size_set3]
    exact isQ_mk (HP1.out.set3 HO1.out) (HP2.out.set3 HO2.out)


set_option maxHeartbeats 8000000 in
set_option maxRecDepth 100000 in
theorem over_frac (B na nb da db : Nat) (s t : Bool) (x y z u : Value) (w : World) (hB : B ≤ w.heap.size) (h1 : na < BB ^ 6) (h2 : da < BB ^ 5) (h3 : nb < BB ^ 6) (h4 : db < BB ^ 5) (h5 : na * db < BB ^ 6) (h6 : da * nb < BB ^ 5)
    (hx : IsN B w x na) (hy : IsN B w y da) (hz : IsN B w z nb) (hu : IsN B w u db) : Calls Try.prog 82 #[.agg #[.bool s, x, y], .agg #[.bool t, z, u]] w (NewQ (sg (s != t) (na * db)) (da * nb) w) := by
  have HX := Lib.hid hx
  have HY := Lib.hid hy
  have HZ := Lib.hid hz
  have HU := Lib.hid hu
  have FA := Lib.hid (Fit.of6 h1)
  have FC := Lib.hid (Fit.of5 h2)
  have FB := Lib.hid (Fit.of6 h3)
  have FD := Lib.hid (Fit.of5 h4)
  have HSM := Lib.hid (show Sm (sg (s != t) (na * db)) (da * nb) from ⟨by rw [sg_abs]; exact h5, h6⟩)
  obtain ⟨ao, La, ac, rfl, _⟩ := isN_len hx
  obtain ⟨co, Lc, cc, rfl, _⟩ := isN_len hy
  obtain ⟨bo, Lb, bc, rfl, _⟩ := isN_len hz
  obtain ⟨dd, Ld, dc, rfl, _⟩ := isN_len hu
  clear hx hy hz hu h1 h2 h3 h4 h5 h6
  have KP := Lib.hid (show ∀ W, Below (w.heap.size + 1 + 1) (W3 w s t (.slice ao La ac) (.slice co Lc cc) (.slice bo Lb bc) (.slice dd Ld dc)) W → (Below (w.heap.size + 1 + 1) (W3 w s t (.slice ao La ac) (.slice co Lc cc) (.slice bo Lb bc) (.slice dd Ld dc)) W ∧ W.cell? ⟨w.heap.size, 0, none⟩ = some (.bool s) ∧ W.cell? ⟨w.heap.size, 1, none⟩ = some (.slice ao La ac) ∧ W.cell? ⟨w.heap.size, 2, none⟩ = some (.slice co Lc cc) ∧ W.cell? ⟨w.heap.size + 1, 0, none⟩ = some (.bool t) ∧ W.cell? ⟨w.heap.size + 1, 1, none⟩ = some (.slice bo Lb bc) ∧ W.cell? ⟨w.heap.size + 1, 2, none⟩ = some (.slice dd Ld dc)) from fun W hW => by
    have a := (W3_a w s t (.slice ao La ac) (.slice co Lc cc) (.slice bo Lb bc) (.slice dd Ld dc)).below hW (by omega)
    have b := (W3_b w s t (.slice ao La ac) (.slice co Lc cc) (.slice bo Lb bc) (.slice dd Ld dc)).below hW (by omega)
    exact ⟨hW, a.c0, a.c1, a.c2, b.c0, b.c1, b.c2⟩)
  have KR := Lib.hid (show ∀ W, Below (w.heap.size + 1 + 1 + 1) (W3 w s t (.slice ao La ac) (.slice co Lc cc) (.slice bo Lb bc) (.slice dd Ld dc)) W → Box3 W (w.heap.size + 1 + 1) (.bool false) (.slice none 0 0) (.slice none 0 0) from fun W hW =>
    (W3_r w s t (.slice ao La ac) (.slice co Lc cc) (.slice bo Lb bc) (.slice dd Ld dc)).below hW (by omega))
  have KB := Lib.hid (show ∀ W, Below (w.heap.size + 1 + 1 + 1) (W3 w s t (.slice ao La ac) (.slice co Lc cc) (.slice bo Lb bc) (.slice dd Ld dc)) W → Below w.heap.size w W ∧ (w.heap.size + 1 + 1 + 1) ≤ W.heap.size from fun W hW => by
    have := hW.size
    rw [W3_size] at this
    exact ⟨(W3_below w s t _ _ _ _).trans (hW.mono (by omega)), this⟩)
  have T1 := Lib.hid (show ∀ W, Below (w.heap.size + 1 + 1 + 1) (W3 w s t (.slice ao La ac) (.slice co Lc cc) (.slice bo Lb bc) (.slice dd Ld dc)) W → Calls Try.prog 89 #[.slice ao La ac, .slice dd Ld dc] W (fun e W1 => NewT (w.heap.size + 1 + 1) (na * db) W e W1 ∧ Below (w.heap.size + 1 + 1 + 1) (W3 w s t (.slice ao La ac) (.slice co Lc cc) (.slice bo Lb bc) (.slice dd Ld dc)) W1) from fun W hS => by
    obtain ⟨hb, hs⟩ := KB.out W hS
    refine (ntimes_any B _ _ _ _ W (by omega) FA.out FD.out (HX.out.below (hb.mono hB)) (HU.out.below (hb.mono hB))).mono ?_
    intro e W1 hN
    have hT := newT_of (g := w.heap.size + 1 + 1) hN (by omega)
    obtain ⟨_, _, _, _, _, h4⟩ := id hN
    exact ⟨hT, hS.trans (h4.mono hs)⟩)
  have T2 := Lib.hid (show ∀ W, Below (w.heap.size + 1 + 1 + 1) (W3 w s t (.slice ao La ac) (.slice co Lc cc) (.slice bo Lb bc) (.slice dd Ld dc)) W → Calls Try.prog 89 #[.slice co Lc cc, .slice bo Lb bc] W (fun e W1 => NewT (w.heap.size + 1 + 1) (da * nb) W e W1 ∧ Below (w.heap.size + 1 + 1 + 1) (W3 w s t (.slice ao La ac) (.slice co Lc cc) (.slice bo Lb bc) (.slice dd Ld dc)) W1) from fun W hS => by
    obtain ⟨hb, hs⟩ := KB.out W hS
    refine (ntimes_any B _ _ _ _ W (by omega) FC.out FB.out (HY.out.below (hb.mono hB)) (HZ.out.below (hb.mono hB))).mono ?_
    intro e W1 hN
    have hT := newT_of (g := w.heap.size + 1 + 1) hN (by omega)
    obtain ⟨_, _, _, _, _, h4⟩ := id hN
    exact ⟨hT, hS.trans (h4.mono hs)⟩)
  clear HX HY HZ HU FA FB FC FD
  go_enter Try.func82, Try.ntmps82
  go_wp2_with fail
  have hw0 : Below (w.heap.size + 1 + 1 + 1) (W3 w s t (.slice ao La ac) (.slice co Lc cc) (.slice bo Lb bc) (.slice dd Ld dc)) (World.drew (((w.alloc (.cells #[.bool s, .slice ao La ac, .slice co Lc cc] 87)).alloc (.cells #[.bool t, .slice bo Lb bc, .slice dd Ld dc] 87)).alloc (.cells #[.bool false, .slice none 0 0, .slice none 0 0] 87))) := (Below.refl _ _).drew
  go_region_held3 (fun W => Below (w.heap.size + 1 + 1) (W3 w s t (.slice ao La ac) (.slice co Lc cc) (.slice bo Lb bc) (.slice dd Ld dc)) W ∧ W.cell? ⟨w.heap.size, 0, none⟩ = some (.bool s) ∧ W.cell? ⟨w.heap.size, 1, none⟩ = some (.slice ao La ac) ∧ W.cell? ⟨w.heap.size, 2, none⟩ = some (.slice co Lc cc) ∧ W.cell? ⟨w.heap.size + 1, 0, none⟩ = some (.bool t) ∧ W.cell? ⟨w.heap.size + 1, 1, none⟩ = some (.slice bo Lb bc) ∧ W.cell? ⟨w.heap.size + 1, 2, none⟩ = some (.slice dd Ld dc))
    (first | exact KP.out _ (by assumption) | exact KP.out _ ((Below.refl _ _).drew) | exact KP.out _ (below_set3 hv3 (Nat.le_refl _)))
    (first
      | (go_at_call 89; ((with_reducible refine (T1.out _ (by assumption)).mono ?_); rintro e W1 ⟨⟨ao1, L1, cap1, rfl, hn1, ho1, hb1⟩, hw1⟩; have HN1 := Lib.hid hn1; have HO1 := Lib.hid ho1; have HB1 := Lib.hid hb1; have hv1 := hw1.mono (Nat.le_succ (w.heap.size + 1 + 1)); clear hn1 ho1 hb1))
      | (go_at_call 89; ((with_reducible refine (T2.out _ (by assumption)).mono ?_); rintro e W2 ⟨⟨ao2, L2, cap2, rfl, hn2, ho2, hb2⟩, hw2⟩; have HN2 := Lib.hid hn2; have HO2 := Lib.hid ho2; have HB2 := Lib.hid hb2; have hv2 := hw2.mono (Nat.le_succ (w.heap.size + 1 + 1)); clear hn2 ho2 hb2))
      | (go_at_call 90; first
          | (have HM1 := Lib.hid (isN_up HN1.out HB2.out); refine (reduced_any _ _ _ _ _ _ _ HSM.out ⟨_, HM1.out, HN2.out, rfl⟩).mono ?_; rintro e W3 ⟨rfl, hb3⟩; have hw3 := hw2.trans (hb3.mono (KB.out _ hw2).2); have HP1 := Lib.hid (isN_up HM1.out hb3); have HP2 := Lib.hid (isN_up HN2.out hb3); have hv3 := hw3.mono (Nat.le_succ (w.heap.size + 1 + 1)); obtain ⟨r0, r1, r2, r3, r4, r5⟩ := KR.out _ hw3; clear hb3)
          | (have HM2 := Lib.hid (isN_up HN2.out HB1.out); refine (reduced_any _ _ _ _ _ _ _ HSM.out ⟨_, HN1.out, HM2.out, rfl⟩).mono ?_; rintro e W3 ⟨rfl, hb3⟩; have hw3 := hw1.trans (hb3.mono (KB.out _ hw1).2); have HP1 := Lib.hid (isN_up HN1.out hb3); have HP2 := Lib.hid (isN_up HM2.out hb3); have hv3 := hw3.mono (Nat.le_succ (w.heap.size + 1 + 1)); obtain ⟨r0, r1, r2, r3, r4, r5⟩ := KR.out _ hw3; clear hb3)
          | fail)
      | fail)
  all_goals
    have HW3 := Lib.hid (KB.out _ hw3)
    go_wp2
    refine bodyPost_ret (v := .agg #[.bool (s != t), .slice ao1 L1 cap1, .slice ao2 L2 cap2]) (by simp [results, Try.results82, go_sem, r0, r1, r2]) rfl ⟨_, rfl, ?_, newFV HO1.out HO2.out (by omega) (by omega), below_set3 HW3.out.1 (by omega)⟩
    rw [size_set3]
    exact isQ_mk (HP1.out.set3 HO1.out) (HP2.out.set3 HO2.out)

end Go.Proofs.Ytopmdeefcjdadaa

namespace Go.Proofs.Ytopmdeefcjdadaa
open Go.RowKit
set_option linter.unusedVariables false
set_option linter.unusedSimpArgs false

theorem borrowM_le (a b i : Nat) : borrowM a b i ≤ 1 := by unfold borrowM; split <;> omega
theorem borrowM_zero (a b : Nat) : borrowM a b 0 = 0 := by simp [borrowM, Nat.mod_one]
/-- what a round computes out of s -/
theorem minus_pos {d c : Nat} {s x : Int} (h : (d : Int) = s + (if s < 0 then 1000000000 else 0) ∧ c = (if s < 0 then 1 else 0)) (hx : x = s) (h0 : ¬ s < 0) : Value.int .i64 x = Value.int .i64 (d : Nat) ∧ c = 0 := by
  obtain ⟨h1, h2⟩ := h
  rw [if_neg h0] at h1 h2
  exact ⟨by rw [h1, hx, Int.add_zero], h2⟩
theorem minus_neg {d c : Nat} {s x : Int} (h : (d : Int) = s + (if s < 0 then 1000000000 else 0) ∧ c = (if s < 0 then 1 else 0)) (hx : x = s) (h0 : s < 0) : Value.int .i64 (x + 1000000000) = Value.int .i64 (d : Nat) ∧ c = 1 := by
  obtain ⟨h1, h2⟩ := h
  rw [if_pos h0] at h1 h2
  exact ⟨by rw [h1, hx], h2⟩

set_option maxHeartbeats 4000000 in
set_option maxRecDepth 100000 in
theorem minus_any (B n m : Nat) (v u : Value) (w : World) (hB : B ≤ w.heap.size) (fn : Fit n) (hle : m ≤ n) (hv : IsN B w v n) (hu : IsN B w u m) : Calls Try.prog 107 #[v, u] w (NewO w.heap.size (n - m) w) := by
  obtain ⟨L, hL, ao, cap, rfl, c1, c2, hn, hx⟩ := hv
  obtain ⟨M, hM, bo, dap, rfl, d1, d2, hm, hy⟩ := hu
  have hl := fn.len hL
  have hml : M ≤ L := by
    by_cases h : L < M
    · have := len_less hL hM h
      omega
    · omega
  have HX := Lib.hid hx
  have HY := Lib.hid hy
  have Hn := Lib.hid hn
  have Hm := Lib.hid hm
  have Hle := Lib.hid hle
  clear hx hy hn hm hL hM fn hle
  obtain ⟨i0, hi, hz0, hz1, hz2⟩ := info_parts int_info
  have Hi := Lib.hid hi
  have Hz0 := Lib.hid hz0
  have Hz1 := Lib.hid hz1
  have Hz2 := Lib.hid hz2
  clear hi hz0 hz1 hz2
  go_enter Try.func107, Try.ntmps107
  go_wp2
  go_loopw [5, 6, 11] (fun o c i wr => ∃ k : Nat, k ≤ L ∧ i = .int .i64 k ∧ c = .int .i64 (borrowM n m k : Nat) ∧ wr.ownsRow w.heap.size 3 1 o k (dcells (n - m) k) ∧ Below w.heap.size w wr) (fun _ _ i _ => L - (intOf i).toNat)
  case atStart => exact ⟨0, by omega, rfl, by rw [borrowM_zero]; rfl, by simpa [dcells] using World.ownsRow_nil _ _ _ _, Below.refl _ _⟩
  case round =>
    rename_i wr
    obtain ⟨k, hk, rfl, rfl, hown, hb⟩ := hrel
    have HO := Lib.hid hown
    have HB := Lib.hid hb
    have hsz := hb.size
    have HD := Lib.hid (minus_dg n m k Hle.out)
    have HM0 := Lib.hid (fun h : M ≤ k => dg_zero_of_lt (lt_pow Hm.out h))
    have hc1 := borrowM_le n m k
    have hx9 := dg_le9 n k
    have hy9 := dg_le9 m k
    obtain ⟨ao2, cap2, rfl⟩ := own_shape1 hown
    generalize hcn : borrowM n m (k + 1) = cn at *
    have HCN := Lib.hid hcn
    generalize borrowM n m k = c at *
    clear hown hb hcn
    by_cases hkL : k < L
    · obtain ⟨b, off, rfl, hbb, hcx⟩ := HX.out (by omega)
      have hcx' := (HB.out.cell (p := ⟨b, off + k, none⟩) (Nat.lt_of_lt_of_le hbb hB)).trans (hcx k hkL)
      clear hcx
      generalize dg n k = x at *
      by_cases hkM : k < M
      · obtain ⟨b', off', rfl, hbb', hcy⟩ := HY.out (by omega)
        have hcy' := (HB.out.cell (p := ⟨b', off' + k, none⟩) (Nat.lt_of_lt_of_le hbb' hB)).trans (hcy k hkM)
        clear hcy HM0
        generalize dg m k = y at *
        by_cases hs : (x : Int) - (c : Int) - (y : Int) < 0
        · obtain ⟨hd2, hc2⟩ := minus_neg HD.out (x := (x : Int) - (c : Int) - (y : Int)) (by omega) (by omega)
          have HD2 := Lib.hid hd2
          obtain rfl := hc2
          clear HD hd2
          go_wp2_with (at_builtin; refine wpList_append_own _ rfl _ _ 85 rfl w.heap.size 3 i0 (.int .i64 0) 1 8 Try.underlying85 Hi.out Hz0.out Hz1.out Hz2.out rfl (by decide) _ _ _ rfl (HO.out.alloc _) ⟨wr.heap.size, 0, none⟩ 1 1 [.int .i64 ((x : Int) - (c : Int) - (y : Int) + 1000000000)] rfl rfl (one_int _ _ _ _) (int_one _) (by unfold maxLen; omega) (by omega) (by simp; omega) ?_)
          all_goals intro v' w2 hown2 hgrow _
          all_goals rw [cells_snoc HD2.out] at hown2
          all_goals have HB2 := Lib.hid (below_own2 HB.out HO.out hgrow hsz)
          all_goals obtain ⟨ao3, cap3, rfl⟩ := own_shape1 hown2
          all_goals have HO2 := Lib.hid hown2
          all_goals clear hown2 hgrow HO HB HD2
          all_goals go_wp2
          all_goals go_roundw
          all_goals (first | exact ⟨k + 1, by omega, by go_num, by rw [HCN.out]; rfl, HO2.out, HB2.out⟩ | (simp [intOf]; omega))
        · obtain ⟨hd2, hc2⟩ := minus_pos HD.out (x := (x : Int) - (c : Int) - (y : Int)) (by omega) (by omega)
          have HD2 := Lib.hid hd2
          obtain rfl := hc2
          clear HD hd2
          go_wp2_with (at_builtin; refine wpList_append_own _ rfl _ _ 85 rfl w.heap.size 3 i0 (.int .i64 0) 1 8 Try.underlying85 Hi.out Hz0.out Hz1.out Hz2.out rfl (by decide) _ _ _ rfl (HO.out.alloc _) ⟨wr.heap.size, 0, none⟩ 1 1 [.int .i64 ((x : Int) - (c : Int) - (y : Int))] rfl rfl (one_int _ _ _ _) (int_one _) (by unfold maxLen; omega) (by omega) (by simp; omega) ?_)
          all_goals intro v' w2 hown2 hgrow _
          all_goals rw [cells_snoc HD2.out] at hown2
          all_goals have HB2 := Lib.hid (below_own2 HB.out HO.out hgrow hsz)
          all_goals obtain ⟨ao3, cap3, rfl⟩ := own_shape1 hown2
          all_goals have HO2 := Lib.hid hown2
          all_goals clear hown2 hgrow HO HB HD2
          all_goals go_wp2
          all_goals go_roundw
          all_goals (first | exact ⟨k + 1, by omega, by go_num, by rw [HCN.out]; rfl, HO2.out, HB2.out⟩ | (simp [intOf]; omega))
      · have hy0 := HM0.out (by omega)
        rw [hy0] at HD
        clear HM0 hy0 hy9
        by_cases hs : (x : Int) - (c : Int) < 0
        · obtain ⟨hd2, hc2⟩ := minus_neg HD.out (x := (x : Int) - (c : Int)) (by omega) (by omega)
          have HD2 := Lib.hid hd2
          obtain rfl := hc2
          clear HD hd2
          go_wp2_with (at_builtin; refine wpList_append_own _ rfl _ _ 85 rfl w.heap.size 3 i0 (.int .i64 0) 1 8 Try.underlying85 Hi.out Hz0.out Hz1.out Hz2.out rfl (by decide) _ _ _ rfl (HO.out.alloc _) ⟨wr.heap.size, 0, none⟩ 1 1 [.int .i64 ((x : Int) - (c : Int) + 1000000000)] rfl rfl (one_int _ _ _ _) (int_one _) (by unfold maxLen; omega) (by omega) (by simp; omega) ?_)
          all_goals intro v' w2 hown2 hgrow _
          all_goals rw [cells_snoc HD2.out] at hown2
          all_goals have HB2 := Lib.hid (below_own2 HB.out HO.out hgrow hsz)
          all_goals obtain ⟨ao3, cap3, rfl⟩ := own_shape1 hown2
          all_goals have HO2 := Lib.hid hown2
          all_goals clear hown2 hgrow HO HB HD2
          all_goals go_wp2
          all_goals go_roundw
          all_goals (first | exact ⟨k + 1, by omega, by go_num, by rw [HCN.out]; rfl, HO2.out, HB2.out⟩ | (simp [intOf]; omega))
        · obtain ⟨hd2, hc2⟩ := minus_pos HD.out (x := (x : Int) - (c : Int)) (by omega) (by omega)
          have HD2 := Lib.hid hd2
          obtain rfl := hc2
          clear HD hd2
          go_wp2_with (at_builtin; refine wpList_append_own _ rfl _ _ 85 rfl w.heap.size 3 i0 (.int .i64 0) 1 8 Try.underlying85 Hi.out Hz0.out Hz1.out Hz2.out rfl (by decide) _ _ _ rfl (HO.out.alloc _) ⟨wr.heap.size, 0, none⟩ 1 1 [.int .i64 ((x : Int) - (c : Int))] rfl rfl (one_int _ _ _ _) (int_one _) (by unfold maxLen; omega) (by omega) (by simp; omega) ?_)
          all_goals intro v' w2 hown2 hgrow _
          all_goals rw [cells_snoc HD2.out] at hown2
          all_goals have HB2 := Lib.hid (below_own2 HB.out HO.out hgrow hsz)
          all_goals obtain ⟨ao3, cap3, rfl⟩ := own_shape1 hown2
          all_goals have HO2 := Lib.hid hown2
          all_goals clear hown2 hgrow HO HB HD2
          all_goals go_wp2
          all_goals go_roundw
          all_goals (first | exact ⟨k + 1, by omega, by go_num, by rw [HCN.out]; rfl, HO2.out, HB2.out⟩ | (simp [intOf]; omega))
    · obtain rfl : k = L := by omega
      have HL := Lib.hid (Nat.lt_of_le_of_lt (Nat.sub_le n m) Hn.out)
      clear HD HCN HM0 hx9 hy9
      go_wp2_with (go_at_call 109; refine (trim_own _ _ _ _ _ HO.out HL.out).mono ?_; rintro e w' ⟨⟨v', L', rfl, hl', ho'⟩, rfl⟩)
      all_goals
        have HO' := Lib.hid ho'
        have HL' := Lib.hid hl'
        clear ho' hl'
        go_wp2
        go_ret
        exact ⟨_, _, rfl, HL'.out, HO'.out, HB.out⟩
end Go.Proofs.Ytopmdeefcjdadaa
