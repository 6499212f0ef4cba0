/- The contracts of the reference's Times and Over. -/
import Derived.Test.YteelomjknllcbaaFrac
namespace Go.Proofs.Yteelomjknllcbaa
open Go.RowKit
set_option linter.unusedVariables false
set_option linter.unusedSimpArgs false

theorem sg_mul (s t : Bool) (n m : Nat) : sg (s != t) (n * m) = sg s n * sg t m := by
  cases s <;> cases t <;> simp [sg, Int.neg_mul, Int.mul_neg]
theorem Fit.of6 {n : Nat} (h : n < BB ^ 6) : Fit n := lt_pow h (by omega)
theorem Fit.of5 {n : Nat} (h : n < BB ^ 5) : Fit n := lt_pow h (by omega)
theorem box_new' (w : World) (c0 c1 c2 : Value) (T : TypeId) : Box3 (w.alloc (.cells #[c0, c1, c2] T)) w.heap.size c0 c1 c2 := box_new w c0 c1 c2 T
theorem Box3.alloc {w : World} {g : Nat} {c0 c1 c2 : Value} (h : Box3 w g c0 c1 c2) (hg : g < w.heap.size) (o : Obj) : Box3 (w.alloc o) g c0 c1 c2 :=
  h.below ((Below.refl _ _).alloc (Nat.le_refl _) o) hg
/-- the world in which a function on two fractions begins -/
def W3 (w : World) (s t : Bool) (x y z u : Value) : World := ((w.alloc (.cells #[.bool s, x, y] 82)).alloc (.cells #[.bool t, z, u] 82)).alloc (.cells #[.bool false, .slice none 0 0, .slice none 0 0] 82)
theorem W3_size (w : World) (s t : Bool) (x y z u : Value) : (W3 w s t x y z u).heap.size = w.heap.size + 1 + 1 + 1 := by simp [W3]
theorem W3_below (w : World) (s t : Bool) (x y z u : Value) : Below w.heap.size w (W3 w s t x y z u) := (((Below.refl _ _).alloc (Nat.le_refl _) _).alloc (by simp) _).alloc (by simp <;> omega) _
theorem W3_a (w : World) (s t : Bool) (x y z u : Value) : Box3 (W3 w s t x y z u) w.heap.size (.bool s) x y := ((box_new w _ _ _ _).alloc (by simp) _).alloc (by simp <;> omega) _
theorem W3_b (w : World) (s t : Bool) (x y z u : Value) : Box3 (W3 w s t x y z u) (w.heap.size + 1) (.bool t) z u := by
  have := (box_new (w.alloc (.cells #[.bool s, x, y] 82)) (.bool t) z u 82)
  have h := this.alloc (by simp) (.cells #[.bool false, .slice none 0 0, .slice none 0 0] 82)
  simpa [W3] using h
theorem W3_r (w : World) (s t : Bool) (x y z u : Value) : Box3 (W3 w s t x y z u) (w.heap.size + 1 + 1) (.bool false) (.slice none 0 0) (.slice none 0 0) := by
  have := (box_new ((w.alloc (.cells #[.bool s, x, y] 82)).alloc (.cells #[.bool t, z, u] 82)) (.bool false) (.slice none 0 0) (.slice none 0 0) 82)
  simpa [W3] using this
/-- a new number whose row lies off block g -/
def NewT (g n : Nat) (w : World) (e : Ending) (w' : World) : Prop := ∃ ao L cap, e = .returned (.slice ao L cap) ∧ IsN w'.heap.size w' (.slice ao L cap) n ∧ Off g (.slice ao L cap) ∧ Below w.heap.size w w'
theorem newT_of {g n : Nat} {w w' : World} {e : Ending} (h : NewO w.heap.size n w e w') (hg : g < w.heap.size) : NewT g n w e w' := by
  obtain ⟨v, L, rfl, h2, h3, h4⟩ := h
  obtain ⟨ao, cap, rfl⟩ := own_shape1 h3
  exact ⟨ao, L, cap, rfl, isN_own h3 h2, off_own h3 hg, h4⟩
theorem isN_up {n : Nat} {w w' : World} {v : Value} (h : IsN w.heap.size w v n) (hb : Below w.heap.size w w') : IsN w'.heap.size w' v n := (h.below hb).more hb.size


set_option maxHeartbeats 8000000 in
set_option maxRecDepth 100000 in
theorem times_frac (B na nb da db : Nat) (s t : Bool) (x y z u : Value) (w : World) (hB : B ≤ w.heap.size) (h1 : na < BB ^ 6) (h2 : da < BB ^ 5) (h3 : nb < BB ^ 6) (h4 : db < BB ^ 5) (h5 : na * nb < BB ^ 6) (h6 : da * db < BB ^ 5)
    (hx : IsN B w x na) (hy : IsN B w y da) (hz : IsN B w z nb) (hu : IsN B w u db) : Calls Try.prog 66 #[.agg #[.bool s, x, y], .agg #[.bool t, z, u]] w (NewQ (sg (s != t) (na * nb)) (da * db) w) := by
  have HX := Lib.hid hx
  have HY := Lib.hid hy
  have HZ := Lib.hid hz
  have HU := Lib.hid hu
  have FA := Lib.hid (Fit.of6 h1)
  have FC := Lib.hid (Fit.of5 h2)
  have FB := Lib.hid (Fit.of6 h3)
  have FD := Lib.hid (Fit.of5 h4)
  have HSM := Lib.hid (show Sm (sg (s != t) (na * nb)) (da * db) from ⟨by rw [sg_abs]; exact h5, h6⟩)
  obtain ⟨ao, La, ac, rfl, _⟩ := isN_len hx
  obtain ⟨co, Lc, cc, rfl, _⟩ := isN_len hy
  obtain ⟨bo, Lb, bc, rfl, _⟩ := isN_len hz
  obtain ⟨dd, Ld, dc, rfl, _⟩ := isN_len hu
  clear hx hy hz hu h1 h2 h3 h4 h5 h6
  have KP := Lib.hid (show ∀ W, Below (w.heap.size + 1 + 1) (W3 w s t (.slice ao La ac) (.slice co Lc cc) (.slice bo Lb bc) (.slice dd Ld dc)) W → (Below (w.heap.size + 1 + 1) (W3 w s t (.slice ao La ac) (.slice co Lc cc) (.slice bo Lb bc) (.slice dd Ld dc)) W ∧ W.cell? ⟨w.heap.size, 0, none⟩ = some (.bool s) ∧ W.cell? ⟨w.heap.size, 1, none⟩ = some (.slice ao La ac) ∧ W.cell? ⟨w.heap.size, 2, none⟩ = some (.slice co Lc cc) ∧ W.cell? ⟨w.heap.size + 1, 0, none⟩ = some (.bool t) ∧ W.cell? ⟨w.heap.size + 1, 1, none⟩ = some (.slice bo Lb bc) ∧ W.cell? ⟨w.heap.size + 1, 2, none⟩ = some (.slice dd Ld dc)) from fun W hW => by
    have a := (W3_a w s t (.slice ao La ac) (.slice co Lc cc) (.slice bo Lb bc) (.slice dd Ld dc)).below hW (by omega)
    have b := (W3_b w s t (.slice ao La ac) (.slice co Lc cc) (.slice bo Lb bc) (.slice dd Ld dc)).below hW (by omega)
    exact ⟨hW, a.c0, a.c1, a.c2, b.c0, b.c1, b.c2⟩)
  have KR := Lib.hid (show ∀ W, Below (w.heap.size + 1 + 1 + 1) (W3 w s t (.slice ao La ac) (.slice co Lc cc) (.slice bo Lb bc) (.slice dd Ld dc)) W → Box3 W (w.heap.size + 1 + 1) (.bool false) (.slice none 0 0) (.slice none 0 0) from fun W hW =>
    (W3_r w s t (.slice ao La ac) (.slice co Lc cc) (.slice bo Lb bc) (.slice dd Ld dc)).below hW (by omega))
  have KB := Lib.hid (show ∀ W, Below (w.heap.size + 1 + 1 + 1) (W3 w s t (.slice ao La ac) (.slice co Lc cc) (.slice bo Lb bc) (.slice dd Ld dc)) W → Below w.heap.size w W ∧ (w.heap.size + 1 + 1 + 1) ≤ W.heap.size from fun W hW => by
    have := hW.size
    rw [W3_size] at this
    exact ⟨(W3_below w s t _ _ _ _).trans (hW.mono (by omega)), this⟩)
  have T1 := Lib.hid (show ∀ W, Below (w.heap.size + 1 + 1 + 1) (W3 w s t (.slice ao La ac) (.slice co Lc cc) (.slice bo Lb bc) (.slice dd Ld dc)) W → Calls Try.prog 94 #[.slice ao La ac, .slice bo Lb bc] W (fun e W1 => NewT (w.heap.size + 1 + 1) (na * nb) W e W1 ∧ Below (w.heap.size + 1 + 1 + 1) (W3 w s t (.slice ao La ac) (.slice co Lc cc) (.slice bo Lb bc) (.slice dd Ld dc)) W1) from fun W hS => by
    obtain ⟨hb, hs⟩ := KB.out W hS
    refine (ntimes_any B _ _ _ _ W (by omega) FA.out FB.out (HX.out.below (hb.mono hB)) (HZ.out.below (hb.mono hB))).mono ?_
    intro e W1 hN
    have hT := newT_of (g := w.heap.size + 1 + 1) hN (by omega)
    obtain ⟨_, _, _, _, _, h4⟩ := id hN
    exact ⟨hT, hS.trans (h4.mono hs)⟩)
  have T2 := Lib.hid (show ∀ W, Below (w.heap.size + 1 + 1 + 1) (W3 w s t (.slice ao La ac) (.slice co Lc cc) (.slice bo Lb bc) (.slice dd Ld dc)) W → Calls Try.prog 94 #[.slice co Lc cc, .slice dd Ld dc] W (fun e W1 => NewT (w.heap.size + 1 + 1) (da * db) W e W1 ∧ Below (w.heap.size + 1 + 1 + 1) (W3 w s t (.slice ao La ac) (.slice co Lc cc) (.slice bo Lb bc) (.slice dd Ld dc)) W1) from fun W hS => by
    obtain ⟨hb, hs⟩ := KB.out W hS
    refine (ntimes_any B _ _ _ _ W (by omega) FC.out FD.out (HY.out.below (hb.mono hB)) (HU.out.below (hb.mono hB))).mono ?_
    intro e W1 hN
    have hT := newT_of (g := w.heap.size + 1 + 1) hN (by omega)
    obtain ⟨_, _, _, _, _, h4⟩ := id hN
    exact ⟨hT, hS.trans (h4.mono hs)⟩)
  clear HX HY HZ HU FA FB FC FD
  go_enter Try.func66, Try.ntmps66
  go_wp2_with fail
  have hw0 : Below (w.heap.size + 1 + 1 + 1) (W3 w s t (.slice ao La ac) (.slice co Lc cc) (.slice bo Lb bc) (.slice dd Ld dc)) (World.drew (((w.alloc (.cells #[.bool s, .slice ao La ac, .slice co Lc cc] 82)).alloc (.cells #[.bool t, .slice bo Lb bc, .slice dd Ld dc] 82)).alloc (.cells #[.bool false, .slice none 0 0, .slice none 0 0] 82))) := (Below.refl _ _).drew
  go_region_held3 (fun W => Below (w.heap.size + 1 + 1) (W3 w s t (.slice ao La ac) (.slice co Lc cc) (.slice bo Lb bc) (.slice dd Ld dc)) W ∧ W.cell? ⟨w.heap.size, 0, none⟩ = some (.bool s) ∧ W.cell? ⟨w.heap.size, 1, none⟩ = some (.slice ao La ac) ∧ W.cell? ⟨w.heap.size, 2, none⟩ = some (.slice co Lc cc) ∧ W.cell? ⟨w.heap.size + 1, 0, none⟩ = some (.bool t) ∧ W.cell? ⟨w.heap.size + 1, 1, none⟩ = some (.slice bo Lb bc) ∧ W.cell? ⟨w.heap.size + 1, 2, none⟩ = some (.slice dd Ld dc))
    (first | exact KP.out _ (by assumption) | exact KP.out _ ((Below.refl _ _).drew) | exact KP.out _ (below_set3 hv3 (Nat.le_refl _)))
    (first
      | (go_at_call 94; ((with_reducible refine (T1.out _ (by assumption)).mono ?_); rintro e W1 ⟨⟨ao1, L1, cap1, rfl, hn1, ho1, hb1⟩, hw1⟩; have HN1 := Lib.hid hn1; have HO1 := Lib.hid ho1; have HB1 := Lib.hid hb1; have hv1 := hw1.mono (Nat.le_succ (w.heap.size + 1 + 1)); clear hn1 ho1 hb1))
      | (go_at_call 94; ((with_reducible refine (T2.out _ (by assumption)).mono ?_); rintro e W2 ⟨⟨ao2, L2, cap2, rfl, hn2, ho2, hb2⟩, hw2⟩; have HN2 := Lib.hid hn2; have HO2 := Lib.hid ho2; have HB2 := Lib.hid hb2; have hv2 := hw2.mono (Nat.le_succ (w.heap.size + 1 + 1)); clear hn2 ho2 hb2))
      | (go_at_call 96; first
          | (have HM1 := Lib.hid (isN_up HN1.out HB2.out); refine (reduced_any _ _ _ _ _ _ _ HSM.out ⟨_, HM1.out, HN2.out, rfl⟩).mono ?_; rintro e W3 ⟨rfl, hb3⟩; have hw3 := hw2.trans (hb3.mono (KB.out _ hw2).2); have HP1 := Lib.hid (isN_up HM1.out hb3); have HP2 := Lib.hid (isN_up HN2.out hb3); have hv3 := hw3.mono (Nat.le_succ (w.heap.size + 1 + 1)); obtain ⟨r0, r1, r2, r3, r4, r5⟩ := KR.out _ hw3; clear hb3)
          | (have HM2 := Lib.hid (isN_up HN2.out HB1.out); refine (reduced_any _ _ _ _ _ _ _ HSM.out ⟨_, HN1.out, HM2.out, rfl⟩).mono ?_; rintro e W3 ⟨rfl, hb3⟩; have hw3 := hw1.trans (hb3.mono (KB.out _ hw1).2); have HP1 := Lib.hid (isN_up HN1.out hb3); have HP2 := Lib.hid (isN_up HM2.out hb3); have hv3 := hw3.mono (Nat.le_succ (w.heap.size + 1 + 1)); obtain ⟨r0, r1, r2, r3, r4, r5⟩ := KR.out _ hw3; clear hb3)
          | fail)
      | fail)
  all_goals
    have HW3 := Lib.hid (KB.out _ hw3)
    go_wp2
    refine bodyPost_ret (v := .agg #[.bool (s != t), .slice ao1 L1 cap1, .slice ao2 L2 cap2]) (by simp [results, Try.results66, go_sem, r0, r1, r2]) rfl ⟨_, rfl, ?_, newFV HO1.out HO2.out (by omega) (by omega), below_set3 HW3.out.1 (by omega)⟩
    rw [size_set3]
    exact isQ_mk (HP1.out.set3 HO1.out) (HP2.out.set3 HO2.out)


set_option maxHeartbeats 8000000 in
set_option maxRecDepth 100000 in
theorem over_frac (B na nb da db : Nat) (s t : Bool) (x y z u : Value) (w : World) (hB : B ≤ w.heap.size) (h1 : na < BB ^ 6) (h2 : da < BB ^ 5) (h3 : nb < BB ^ 6) (h4 : db < BB ^ 5) (h5 : na * db < BB ^ 6) (h6 : da * nb < BB ^ 5)
    (hx : IsN B w x na) (hy : IsN B w y da) (hz : IsN B w z nb) (hu : IsN B w u db) : Calls Try.prog 106 #[.agg #[.bool s, x, y], .agg #[.bool t, z, u]] w (NewQ (sg (s != t) (na * db)) (da * nb) w) := by
  have HX := Lib.hid hx
  have HY := Lib.hid hy
  have HZ := Lib.hid hz
  have HU := Lib.hid hu
  have FA := Lib.hid (Fit.of6 h1)
  have FC := Lib.hid (Fit.of5 h2)
  have FB := Lib.hid (Fit.of6 h3)
  have FD := Lib.hid (Fit.of5 h4)
  have HSM := Lib.hid (show Sm (sg (s != t) (na * db)) (da * nb) from ⟨by rw [sg_abs]; exact h5, h6⟩)
  obtain ⟨ao, La, ac, rfl, _⟩ := isN_len hx
  obtain ⟨co, Lc, cc, rfl, _⟩ := isN_len hy
  obtain ⟨bo, Lb, bc, rfl, _⟩ := isN_len hz
  obtain ⟨dd, Ld, dc, rfl, _⟩ := isN_len hu
  clear hx hy hz hu h1 h2 h3 h4 h5 h6
  have KP := Lib.hid (show ∀ W, Below (w.heap.size + 1 + 1) (W3 w s t (.slice ao La ac) (.slice co Lc cc) (.slice bo Lb bc) (.slice dd Ld dc)) W → (Below (w.heap.size + 1 + 1) (W3 w s t (.slice ao La ac) (.slice co Lc cc) (.slice bo Lb bc) (.slice dd Ld dc)) W ∧ W.cell? ⟨w.heap.size, 0, none⟩ = some (.bool s) ∧ W.cell? ⟨w.heap.size, 1, none⟩ = some (.slice ao La ac) ∧ W.cell? ⟨w.heap.size, 2, none⟩ = some (.slice co Lc cc) ∧ W.cell? ⟨w.heap.size + 1, 0, none⟩ = some (.bool t) ∧ W.cell? ⟨w.heap.size + 1, 1, none⟩ = some (.slice bo Lb bc) ∧ W.cell? ⟨w.heap.size + 1, 2, none⟩ = some (.slice dd Ld dc)) from fun W hW => by
    have a := (W3_a w s t (.slice ao La ac) (.slice co Lc cc) (.slice bo Lb bc) (.slice dd Ld dc)).below hW (by omega)
    have b := (W3_b w s t (.slice ao La ac) (.slice co Lc cc) (.slice bo Lb bc) (.slice dd Ld dc)).below hW (by omega)
    exact ⟨hW, a.c0, a.c1, a.c2, b.c0, b.c1, b.c2⟩)
  have KR := Lib.hid (show ∀ W, Below (w.heap.size + 1 + 1 + 1) (W3 w s t (.slice ao La ac) (.slice co Lc cc) (.slice bo Lb bc) (.slice dd Ld dc)) W → Box3 W (w.heap.size + 1 + 1) (.bool false) (.slice none 0 0) (.slice none 0 0) from fun W hW =>
    (W3_r w s t (.slice ao La ac) (.slice co Lc cc) (.slice bo Lb bc) (.slice dd Ld dc)).below hW (by omega))
  have KB := Lib.hid (show ∀ W, Below (w.heap.size + 1 + 1 + 1) (W3 w s t (.slice ao La ac) (.slice co Lc cc) (.slice bo Lb bc) (.slice dd Ld dc)) W → Below w.heap.size w W ∧ (w.heap.size + 1 + 1 + 1) ≤ W.heap.size from fun W hW => by
    have := hW.size
    rw [W3_size] at this
    exact ⟨(W3_below w s t _ _ _ _).trans (hW.mono (by omega)), this⟩)
  have T1 := Lib.hid (show ∀ W, Below (w.heap.size + 1 + 1 + 1) (W3 w s t (.slice ao La ac) (.slice co Lc cc) (.slice bo Lb bc) (.slice dd Ld dc)) W → Calls Try.prog 94 #[.slice ao La ac, .slice dd Ld dc] W (fun e W1 => NewT (w.heap.size + 1 + 1) (na * db) W e W1 ∧ Below (w.heap.size + 1 + 1 + 1) (W3 w s t (.slice ao La ac) (.slice co Lc cc) (.slice bo Lb bc) (.slice dd Ld dc)) W1) from fun W hS => by
    obtain ⟨hb, hs⟩ := KB.out W hS
    refine (ntimes_any B _ _ _ _ W (by omega) FA.out FD.out (HX.out.below (hb.mono hB)) (HU.out.below (hb.mono hB))).mono ?_
    intro e W1 hN
    have hT := newT_of (g := w.heap.size + 1 + 1) hN (by omega)
    obtain ⟨_, _, _, _, _, h4⟩ := id hN
    exact ⟨hT, hS.trans (h4.mono hs)⟩)
  have T2 := Lib.hid (show ∀ W, Below (w.heap.size + 1 + 1 + 1) (W3 w s t (.slice ao La ac) (.slice co Lc cc) (.slice bo Lb bc) (.slice dd Ld dc)) W → Calls Try.prog 94 #[.slice co Lc cc, .slice bo Lb bc] W (fun e W1 => NewT (w.heap.size + 1 + 1) (da * nb) W e W1 ∧ Below (w.heap.size + 1 + 1 + 1) (W3 w s t (.slice ao La ac) (.slice co Lc cc) (.slice bo Lb bc) (.slice dd Ld dc)) W1) from fun W hS => by
    obtain ⟨hb, hs⟩ := KB.out W hS
    refine (ntimes_any B _ _ _ _ W (by omega) FC.out FB.out (HY.out.below (hb.mono hB)) (HZ.out.below (hb.mono hB))).mono ?_
    intro e W1 hN
    have hT := newT_of (g := w.heap.size + 1 + 1) hN (by omega)
    obtain ⟨_, _, _, _, _, h4⟩ := id hN
    exact ⟨hT, hS.trans (h4.mono hs)⟩)
  clear HX HY HZ HU FA FB FC FD
  go_enter Try.func106, Try.ntmps106
  go_wp2_with fail
  have hw0 : Below (w.heap.size + 1 + 1 + 1) (W3 w s t (.slice ao La ac) (.slice co Lc cc) (.slice bo Lb bc) (.slice dd Ld dc)) (World.drew (((w.alloc (.cells #[.bool s, .slice ao La ac, .slice co Lc cc] 82)).alloc (.cells #[.bool t, .slice bo Lb bc, .slice dd Ld dc] 82)).alloc (.cells #[.bool false, .slice none 0 0, .slice none 0 0] 82))) := (Below.refl _ _).drew
  go_region_held3 (fun W => Below (w.heap.size + 1 + 1) (W3 w s t (.slice ao La ac) (.slice co Lc cc) (.slice bo Lb bc) (.slice dd Ld dc)) W ∧ W.cell? ⟨w.heap.size, 0, none⟩ = some (.bool s) ∧ W.cell? ⟨w.heap.size, 1, none⟩ = some (.slice ao La ac) ∧ W.cell? ⟨w.heap.size, 2, none⟩ = some (.slice co Lc cc) ∧ W.cell? ⟨w.heap.size + 1, 0, none⟩ = some (.bool t) ∧ W.cell? ⟨w.heap.size + 1, 1, none⟩ = some (.slice bo Lb bc) ∧ W.cell? ⟨w.heap.size + 1, 2, none⟩ = some (.slice dd Ld dc))
    (first | exact KP.out _ (by assumption) | exact KP.out _ ((Below.refl _ _).drew) | exact KP.out _ (below_set3 hv3 (Nat.le_refl _)))
    (first
      | (go_at_call 94; ((with_reducible refine (T1.out _ (by assumption)).mono ?_); rintro e W1 ⟨⟨ao1, L1, cap1, rfl, hn1, ho1, hb1⟩, hw1⟩; have HN1 := Lib.hid hn1; have HO1 := Lib.hid ho1; have HB1 := Lib.hid hb1; have hv1 := hw1.mono (Nat.le_succ (w.heap.size + 1 + 1)); clear hn1 ho1 hb1))
      | (go_at_call 94; ((with_reducible refine (T2.out _ (by assumption)).mono ?_); rintro e W2 ⟨⟨ao2, L2, cap2, rfl, hn2, ho2, hb2⟩, hw2⟩; have HN2 := Lib.hid hn2; have HO2 := Lib.hid ho2; have HB2 := Lib.hid hb2; have hv2 := hw2.mono (Nat.le_succ (w.heap.size + 1 + 1)); clear hn2 ho2 hb2))
      | (go_at_call 96; first
          | (have HM1 := Lib.hid (isN_up HN1.out HB2.out); refine (reduced_any _ _ _ _ _ _ _ HSM.out ⟨_, HM1.out, HN2.out, rfl⟩).mono ?_; rintro e W3 ⟨rfl, hb3⟩; have hw3 := hw2.trans (hb3.mono (KB.out _ hw2).2); have HP1 := Lib.hid (isN_up HM1.out hb3); have HP2 := Lib.hid (isN_up HN2.out hb3); have hv3 := hw3.mono (Nat.le_succ (w.heap.size + 1 + 1)); obtain ⟨r0, r1, r2, r3, r4, r5⟩ := KR.out _ hw3; clear hb3)
          | (have HM2 := Lib.hid (isN_up HN2.out HB1.out); refine (reduced_any _ _ _ _ _ _ _ HSM.out ⟨_, HN1.out, HM2.out, rfl⟩).mono ?_; rintro e W3 ⟨rfl, hb3⟩; have hw3 := hw1.trans (hb3.mono (KB.out _ hw1).2); have HP1 := Lib.hid (isN_up HN1.out hb3); have HP2 := Lib.hid (isN_up HM2.out hb3); have hv3 := hw3.mono (Nat.le_succ (w.heap.size + 1 + 1)); obtain ⟨r0, r1, r2, r3, r4, r5⟩ := KR.out _ hw3; clear hb3)
          | fail)
      | fail)
  all_goals
    have HW3 := Lib.hid (KB.out _ hw3)
    go_wp2
    refine bodyPost_ret (v := .agg #[.bool (s != t), .slice ao1 L1 cap1, .slice ao2 L2 cap2]) (by simp [results, Try.results106, go_sem, r0, r1, r2]) rfl ⟨_, rfl, ?_, newFV HO1.out HO2.out (by omega) (by omega), below_set3 HW3.out.1 (by omega)⟩
    rw [size_set3]
    exact isQ_mk (HP1.out.set3 HO1.out) (HP2.out.set3 HO2.out)

end Go.Proofs.Yteelomjknllcbaa
