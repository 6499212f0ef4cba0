/- The contract of the reference's Plus. -/
import Derived.Test.YtabalicembhjmaaT33M38

namespace Go.Proofs.Ytabalicembhjmaa
open Go.RowKit
set_option linter.unusedVariables false
set_option linter.unusedSimpArgs false

theorem sg_scale (s : Bool) (n d : Nat) : sg s n * (d : Int) = sg s (n * d) := by cases s <;> simp [sg, Int.neg_mul]
theorem sg_add (s : Bool) (n m : Nat) : sg s n + sg s m = sg s (n + m) := by cases s <;> simp [sg] <;> omega
theorem sg_sub (s : Bool) {n m : Nat} (h : m ≤ n) : sg s n + sg (!s) m = sg s (n - m) := by cases s <;> simp [sg] <;> omega
theorem sg_sub' (s : Bool) {n m : Nat} (h : n ≤ m) : sg s n + sg (!s) m = sg (!s) (m - n) := by cases s <;> simp [sg] <;> omega
theorem Fit.mul {n d : Nat} (h1 : n < BB ^ 6) (h2 : d < BB ^ 5) : Fit (n * d) := by
  have h : n * d ≤ BB ^ 6 * BB ^ 5 := Nat.mul_le_mul (Nat.le_of_lt h1) (Nat.le_of_lt h2)
  rw [← Nat.pow_add] at h
  exact Nat.lt_of_le_of_lt h (Nat.pow_lt_pow_right (by decide) (by omega))
theorem ordV_neg {n m : Nat} (h : n < m) : ordV n m = -1 := ordV_less h

set_option maxHeartbeats 16000000 in
set_option maxRecDepth 100000 in
theorem plus_frac (B na nb da db : Nat) (s t : Bool) (x y z u : Value) (w : World) (hB : B ≤ w.heap.size) (h1 : na < BB ^ 6) (h2 : da < BB ^ 5) (h3 : nb < BB ^ 6) (h4 : db < BB ^ 5) (h5 : Sm (sg s na * (db : Int) + sg t nb * (da : Int)) (da * db))
    (hx : IsN B w x na) (hy : IsN B w y da) (hz : IsN B w z nb) (hu : IsN B w u db) : Calls Try.prog 85 #[.agg #[.bool s, x, y], .agg #[.bool t, z, u]] w (NewQ (sg s na * (db : Int) + sg t nb * (da : Int)) (da * db) w) := by
  have HX := Lib.hid hx
  have HY := Lib.hid hy
  have HZ := Lib.hid hz
  have HU := Lib.hid hu
  have FA := Lib.hid (Fit.of6 h1)
  have FC := Lib.hid (Fit.of5 h2)
  have FB := Lib.hid (Fit.of6 h3)
  have FD := Lib.hid (Fit.of5 h4)
  have FP := Lib.hid (Fit.mul h1 h4)
  have FQ := Lib.hid (Fit.mul h3 h2)
  rw [sg_scale, sg_scale] at h5 ⊢
  have HSM := Lib.hid h5
  obtain ⟨ao, La, ac, rfl, _⟩ := isN_len hx
  obtain ⟨co, Lc, cc, rfl, _⟩ := isN_len hy
  obtain ⟨bo, Lb, bc, rfl, _⟩ := isN_len hz
  obtain ⟨dd, Ld, dc, rfl, _⟩ := isN_len hu
  clear hx hy hz hu h1 h2 h3 h4 h5
  have KP := Lib.hid (show ∀ W, Below (w.heap.size + 1 + 1) (W3 w s t (.slice ao La ac) (.slice co Lc cc) (.slice bo Lb bc) (.slice dd Ld dc)) W → (Below (w.heap.size + 1 + 1) (W3 w s t (.slice ao La ac) (.slice co Lc cc) (.slice bo Lb bc) (.slice dd Ld dc)) W ∧ W.cell? ⟨w.heap.size, 0, none⟩ = some (.bool s) ∧ W.cell? ⟨w.heap.size, 1, none⟩ = some (.slice ao La ac) ∧ W.cell? ⟨w.heap.size, 2, none⟩ = some (.slice co Lc cc) ∧ W.cell? ⟨w.heap.size + 1, 0, none⟩ = some (.bool t) ∧ W.cell? ⟨w.heap.size + 1, 1, none⟩ = some (.slice bo Lb bc) ∧ W.cell? ⟨w.heap.size + 1, 2, none⟩ = some (.slice dd Ld dc)) from fun W hW => by
    have a := (W3_a w s t (.slice ao La ac) (.slice co Lc cc) (.slice bo Lb bc) (.slice dd Ld dc)).below hW (by omega)
    have b := (W3_b w s t (.slice ao La ac) (.slice co Lc cc) (.slice bo Lb bc) (.slice dd Ld dc)).below hW (by omega)
    exact ⟨hW, a.c0, a.c1, a.c2, b.c0, b.c1, b.c2⟩)
  have KR := Lib.hid (show ∀ W, Below (w.heap.size + 1 + 1 + 1) (W3 w s t (.slice ao La ac) (.slice co Lc cc) (.slice bo Lb bc) (.slice dd Ld dc)) W → Box3 W (w.heap.size + 1 + 1) (.bool false) (.slice none 0 0) (.slice none 0 0) from fun W hW =>
    (W3_r w s t (.slice ao La ac) (.slice co Lc cc) (.slice bo Lb bc) (.slice dd Ld dc)).below hW (by omega))
  have KB := Lib.hid (show ∀ W, Below (w.heap.size + 1 + 1 + 1) (W3 w s t (.slice ao La ac) (.slice co Lc cc) (.slice bo Lb bc) (.slice dd Ld dc)) W → Below w.heap.size w W ∧ (w.heap.size + 1 + 1 + 1) ≤ W.heap.size from fun W hW => by
    have := hW.size
    rw [W3_size] at this
    exact ⟨(W3_below w s t _ _ _ _).trans (hW.mono (by omega)), this⟩)
  have T1 := Lib.hid (show ∀ W, Below (w.heap.size + 1 + 1 + 1) (W3 w s t (.slice ao La ac) (.slice co Lc cc) (.slice bo Lb bc) (.slice dd Ld dc)) W → Calls Try.prog 99 #[.slice ao La ac, .slice dd Ld dc] W (fun e W1 => NewT (w.heap.size + 1 + 1) (na * db) W e W1 ∧ Below (w.heap.size + 1 + 1 + 1) (W3 w s t (.slice ao La ac) (.slice co Lc cc) (.slice bo Lb bc) (.slice dd Ld dc)) W1) from fun W hS => by
    obtain ⟨hb, hs⟩ := KB.out W hS
    refine (ntimes_any B _ _ _ _ W (by omega) FA.out FD.out (HX.out.below (hb.mono hB)) (HU.out.below (hb.mono hB))).mono ?_
    intro e W1 hN
    have hT := newT_of (g := w.heap.size + 1 + 1) hN (by omega)
    obtain ⟨_, _, _, _, _, h4⟩ := id hN
    exact ⟨hT, hS.trans (h4.mono hs)⟩)
  have T2 := Lib.hid (show ∀ W, Below (w.heap.size + 1 + 1 + 1) (W3 w s t (.slice ao La ac) (.slice co Lc cc) (.slice bo Lb bc) (.slice dd Ld dc)) W → Calls Try.prog 99 #[.slice bo Lb bc, .slice co Lc cc] W (fun e W1 => NewT (w.heap.size + 1 + 1) (nb * da) W e W1 ∧ Below (w.heap.size + 1 + 1 + 1) (W3 w s t (.slice ao La ac) (.slice co Lc cc) (.slice bo Lb bc) (.slice dd Ld dc)) W1) from fun W hS => by
    obtain ⟨hb, hs⟩ := KB.out W hS
    refine (ntimes_any B _ _ _ _ W (by omega) FB.out FC.out (HZ.out.below (hb.mono hB)) (HY.out.below (hb.mono hB))).mono ?_
    intro e W1 hN
    have hT := newT_of (g := w.heap.size + 1 + 1) hN (by omega)
    obtain ⟨_, _, _, _, _, h4⟩ := id hN
    exact ⟨hT, hS.trans (h4.mono hs)⟩)
  have T3 := Lib.hid (show ∀ W, Below (w.heap.size + 1 + 1 + 1) (W3 w s t (.slice ao La ac) (.slice co Lc cc) (.slice bo Lb bc) (.slice dd Ld dc)) W → Calls Try.prog 99 #[.slice co Lc cc, .slice dd Ld dc] W (fun e W1 => NewT (w.heap.size + 1 + 1) (da * db) W e W1 ∧ Below (w.heap.size + 1 + 1 + 1) (W3 w s t (.slice ao La ac) (.slice co Lc cc) (.slice bo Lb bc) (.slice dd Ld dc)) W1) from fun W hS => by
    obtain ⟨hb, hs⟩ := KB.out W hS
    refine (ntimes_any B _ _ _ _ W (by omega) FC.out FD.out (HY.out.below (hb.mono hB)) (HU.out.below (hb.mono hB))).mono ?_
    intro e W1 hN
    have hT := newT_of (g := w.heap.size + 1 + 1) hN (by omega)
    obtain ⟨_, _, _, _, _, h4⟩ := id hN
    exact ⟨hT, hS.trans (h4.mono hs)⟩)
  clear HX HY HZ HU FA FB FC FD
  go_enter Try.func85, Try.ntmps85
  go_wp2_with fail
  have hw0 : Below (w.heap.size + 1 + 1 + 1) (W3 w s t (.slice ao La ac) (.slice co Lc cc) (.slice bo Lb bc) (.slice dd Ld dc)) (World.drew (((w.alloc (.cells #[.bool s, .slice ao La ac, .slice co Lc cc] 128)).alloc (.cells #[.bool t, .slice bo Lb bc, .slice dd Ld dc] 128)).alloc (.cells #[.bool false, .slice none 0 0, .slice none 0 0] 128))) := (Below.refl _ _).drew
  go_region_held3 (fun W => Below (w.heap.size + 1 + 1) (W3 w s t (.slice ao La ac) (.slice co Lc cc) (.slice bo Lb bc) (.slice dd Ld dc)) W ∧ W.cell? ⟨w.heap.size, 0, none⟩ = some (.bool s) ∧ W.cell? ⟨w.heap.size, 1, none⟩ = some (.slice ao La ac) ∧ W.cell? ⟨w.heap.size, 2, none⟩ = some (.slice co Lc cc) ∧ W.cell? ⟨w.heap.size + 1, 0, none⟩ = some (.bool t) ∧ W.cell? ⟨w.heap.size + 1, 1, none⟩ = some (.slice bo Lb bc) ∧ W.cell? ⟨w.heap.size + 1, 2, none⟩ = some (.slice dd Ld dc))
    (first | exact KP.out _ (by assumption) | exact KP.out _ ((Below.refl _ _).drew))
    (first
      | (go_at_call 99; ((with_reducible refine (T1.out _ (by assumption)).mono ?_); rintro e W1 ⟨⟨ao1, L1, cap1, rfl, hn1, ho1, hb1⟩, hw1⟩; have HN1 := Lib.hid hn1; have HO1 := Lib.hid ho1; have HB1 := Lib.hid hb1; have hv1 := hw1.mono (Nat.le_succ (w.heap.size + 1 + 1)); clear hn1 ho1 hb1))
      | (go_at_call 99; ((with_reducible refine (T2.out _ (by assumption)).mono ?_); rintro e W2 ⟨⟨ao2, L2, cap2, rfl, hn2, ho2, hb2⟩, hw2⟩; have HN2 := Lib.hid hn2; have HO2 := Lib.hid ho2; have HB2 := Lib.hid hb2; have hv2 := hw2.mono (Nat.le_succ (w.heap.size + 1 + 1)); clear hn2 ho2 hb2))
      | fail)
  all_goals
    (first
      | (have HP := Lib.hid (isN_up HN1.out HB2.out); have HQ := HN2; have hwc := hw2; clear hw0 hw1 hw2 hv1 hv2 HN1 HN2 HB1 HB2)
      | (have HQ := Lib.hid (isN_up HN2.out HB1.out); have HP := HN1; have hwc := hw1; clear hw0 hw1 hw2 hv1 hv2 HN1 HN2 HB1 HB2)
      | fail)
    obtain ⟨hvc, a0, a1, a2, b0, b1, b2⟩ := KP.out _ (hwc.mono (Nat.le_succ (w.heap.size + 1 + 1)))
    go_wp2_with fail
    refine (T3.out _ hwc).mono ?_
    rintro e W4 ⟨⟨ao3, L3, cap3, rfl, hn3, ho3, hb3⟩, hw4⟩
    have HD4 := Lib.hid hn3
    have HO3 := Lib.hid ho3
    have HP4 := Lib.hid (isN_up HP.out hb3)
    have HQ4 := Lib.hid (isN_up HQ.out hb3)
    clear hn3 ho3 hb3 HP HQ hwc hvc a0 a1 a2 b0 b1 b2
    obtain ⟨hv4, a0, a1, a2, b0, b1, b2⟩ := KP.out _ (hw4.mono (Nat.le_succ (w.heap.size + 1 + 1)))
    have HWW4 := Lib.hid hw4
    have HPW4 := HP4
    have HQW4 := HQ4
    have HDW4 := HD4
    clear HP4 HQ4 HD4
    by_cases hst : s = t
    · subst hst
      have HSM2 := Lib.hid (show Sm (sg s (na * db + nb * da)) (da * db) by rw [← sg_add]; exact HSM.out)
      go_wp2_with fail
      have hwd : Below (w.heap.size + 1 + 1 + 1) (W3 w s s (.slice ao La ac) (.slice co Lc cc) (.slice bo Lb bc) (.slice dd Ld dc)) (World.drew W4) := HWW4.out.drew
      have HPd := Lib.hid (show IsN (World.drew W4).heap.size (World.drew W4) _ _ from HPW4.out)
      have HQd := Lib.hid (show IsN (World.drew W4).heap.size (World.drew W4) _ _ from HQW4.out)
      have HDd := Lib.hid (show IsN (World.drew W4).heap.size (World.drew W4) _ _ from HDW4.out)
      go_region_held3 (fun W => Below (w.heap.size + 1 + 1) (W3 w s s (.slice ao La ac) (.slice co Lc cc) (.slice bo Lb bc) (.slice dd Ld dc)) W ∧ W.cell? ⟨w.heap.size, 0, none⟩ = some (.bool s) ∧ W.cell? ⟨w.heap.size, 1, none⟩ = some (.slice ao La ac) ∧ W.cell? ⟨w.heap.size, 2, none⟩ = some (.slice co Lc cc) ∧ W.cell? ⟨w.heap.size + 1, 0, none⟩ = some (.bool s) ∧ W.cell? ⟨w.heap.size + 1, 1, none⟩ = some (.slice bo Lb bc) ∧ W.cell? ⟨w.heap.size + 1, 2, none⟩ = some (.slice dd Ld dc))
        (first | exact KP.out _ (by assumption) | exact KP.out _ (hwd.mono (Nat.le_succ (w.heap.size + 1 + 1))) | exact KP.out _ (below_set3 hv6 (Nat.le_refl _)))
        (first
          | (go_at_call 100; refine (nplus_any _ _ _ _ _ _ (Nat.le_refl _) FP.out FQ.out HPd.out HQd.out).mono ?_; rintro e W5 ⟨v5, L5, rfl, hl5, ho5, hb5⟩; have HN5 := Lib.hid (isN_own ho5 hl5); have HO5 := Lib.hid (off_own (g := w.heap.size + 1 + 1) ho5 (KB.out _ hwd).2); have HD5 := Lib.hid (isN_up HDd.out hb5); have hw5 := hwd.trans (hb5.mono (KB.out _ hwd).2); have hv5 := hw5.mono (Nat.le_succ (w.heap.size + 1 + 1)); obtain ⟨ao5, cap5, rfl⟩ := own_shape1 ho5; clear ho5 hl5 hb5)
          | (go_at_call 101; refine (reduced_any _ _ _ _ _ _ _ HSM2.out ⟨_, HN5.out, HD5.out, rfl⟩).mono ?_; rintro e W6 ⟨rfl, hb6⟩; have hw6 := hw5.trans (hb6.mono (KB.out _ hw5).2); have HN6 := Lib.hid (isN_up HN5.out hb6); have HD6 := Lib.hid (isN_up HD5.out hb6); have hv6 := hw6.mono (Nat.le_succ (w.heap.size + 1 + 1)); obtain ⟨r0, r1, r2, r3, r4, r5⟩ := KR.out _ hw6; clear hb6)
          | fail)
      all_goals
        have HW6 := Lib.hid (KB.out _ hw6)
        go_wp2
        refine bodyPost_ret (v := .agg #[.bool s, .slice ao5 L5 cap5, .slice ao3 L3 cap3]) (by simp [results, Try.results85, go_sem, r0, r1, r2]) rfl ⟨_, rfl, ?_, newFV HO5.out HO3.out (by omega) (by omega), below_set3 HW6.out.1 (by omega)⟩
        rw [size_set3, sg_add]
        exact isQ_mk (HN6.out.set3 HO5.out) (HD6.out.set3 HO3.out)
    · obtain rfl : t = !s := by cases s <;> cases t <;> simp_all
      clear hst
      go_wp2_with fail
      by_cases hge : nb * da ≤ na * db
      · have HSM2 := Lib.hid (show Sm (sg s (na * db - nb * da)) (da * db) by rw [← sg_sub s hge]; exact HSM.out)
        have HGE := Lib.hid hge
        obtain ⟨o, ho⟩ : ∃ o, ordV (na * db) (nb * da) = o := ⟨_, rfl⟩
        have ho0 : 0 ≤ o := by rw [← ho]; exact ordV_ge hge
        refine (order_o _ _ _ o _ _ _ (Nat.le_refl _) ho HPW4.out HQW4.out).mono ?_
        rintro e W7 ⟨rfl, hb7⟩
        have HWW7 := Lib.hid (HWW4.out.trans (hb7.mono (KB.out _ HWW4.out).2))
        have HPW7 := Lib.hid (isN_up HPW4.out hb7)
        have HQW7 := Lib.hid (isN_up HQW4.out hb7)
        have HDW7 := Lib.hid (isN_up HDW4.out hb7)
        clear hge ho hb7 hv4 a0 a1 a2 b0 b1 b2 hw4
        obtain ⟨hv7, a0, a1, a2, b0, b1, b2⟩ := KP.out _ (HWW7.out.mono (Nat.le_succ (w.heap.size + 1 + 1)))
        go_wp2_with fail
        have hwd : Below (w.heap.size + 1 + 1 + 1) (W3 w s (!s) (.slice ao La ac) (.slice co Lc cc) (.slice bo Lb bc) (.slice dd Ld dc)) (World.drew W7) := HWW7.out.drew
        have HPd := Lib.hid (show IsN (World.drew W7).heap.size (World.drew W7) _ _ from HPW7.out)
        have HQd := Lib.hid (show IsN (World.drew W7).heap.size (World.drew W7) _ _ from HQW7.out)
        have HDd := Lib.hid (show IsN (World.drew W7).heap.size (World.drew W7) _ _ from HDW7.out)
        go_region_held3 (fun W => Below (w.heap.size + 1 + 1) (W3 w s (!s) (.slice ao La ac) (.slice co Lc cc) (.slice bo Lb bc) (.slice dd Ld dc)) W ∧ W.cell? ⟨w.heap.size, 0, none⟩ = some (.bool s) ∧ W.cell? ⟨w.heap.size, 1, none⟩ = some (.slice ao La ac) ∧ W.cell? ⟨w.heap.size, 2, none⟩ = some (.slice co Lc cc) ∧ W.cell? ⟨w.heap.size + 1, 0, none⟩ = some (.bool (!s)) ∧ W.cell? ⟨w.heap.size + 1, 1, none⟩ = some (.slice bo Lb bc) ∧ W.cell? ⟨w.heap.size + 1, 2, none⟩ = some (.slice dd Ld dc))
          (first | exact KP.out _ (by assumption) | exact KP.out _ (hwd.mono (Nat.le_succ (w.heap.size + 1 + 1))) | exact KP.out _ (below_set3 hv6 (Nat.le_refl _)))
          (first
            | (go_at_call 103; refine (minus_any _ _ _ _ _ _ (Nat.le_refl _) FP.out HGE.out HPd.out HQd.out).mono ?_; rintro e W5 ⟨v5, L5, rfl, hl5, ho5, hb5⟩; have HN5 := Lib.hid (isN_own ho5 hl5); have HO5 := Lib.hid (off_own (g := w.heap.size + 1 + 1) ho5 (KB.out _ hwd).2); have HD5 := Lib.hid (isN_up HDd.out hb5); have hw5 := hwd.trans (hb5.mono (KB.out _ hwd).2); have hv5 := hw5.mono (Nat.le_succ (w.heap.size + 1 + 1)); obtain ⟨ao5, cap5, rfl⟩ := own_shape1 ho5; clear ho5 hl5 hb5)
            | (go_at_call 101; refine (reduced_any _ _ _ _ _ _ _ HSM2.out ⟨_, HN5.out, HD5.out, rfl⟩).mono ?_; rintro e W6 ⟨rfl, hb6⟩; have hw6 := hw5.trans (hb6.mono (KB.out _ hw5).2); have HN6 := Lib.hid (isN_up HN5.out hb6); have HD6 := Lib.hid (isN_up HD5.out hb6); have hv6 := hw6.mono (Nat.le_succ (w.heap.size + 1 + 1)); obtain ⟨r0, r1, r2, r3, r4, r5⟩ := KR.out _ hw6; clear hb6)
            | fail)
        all_goals
          have HW6 := Lib.hid (KB.out _ hw6)
          go_wp2
          refine bodyPost_ret (v := .agg #[.bool s, .slice ao5 L5 cap5, .slice ao3 L3 cap3]) (by simp [results, Try.results85, go_sem, r0, r1, r2]) rfl ⟨_, rfl, ?_, newFV HO5.out HO3.out (by omega) (by omega), below_set3 HW6.out.1 (by omega)⟩
          rw [size_set3, sg_sub s HGE.out]
          exact isQ_mk (HN6.out.set3 HO5.out) (HD6.out.set3 HO3.out)
      · have hlt : na * db < nb * da := by omega
        have HSM2 := Lib.hid (show Sm (sg (!s) (nb * da - na * db)) (da * db) by rw [← sg_sub' s (Nat.le_of_lt hlt)]; exact HSM.out)
        have HGE := Lib.hid (Nat.le_of_lt hlt)
        refine (order_o _ _ _ (-1) _ _ _ (Nat.le_refl _) (ordV_less hlt) HPW4.out HQW4.out).mono ?_
        rintro e W7 ⟨rfl, hb7⟩
        have HWW7 := Lib.hid (HWW4.out.trans (hb7.mono (KB.out _ HWW4.out).2))
        have HPW7 := Lib.hid (isN_up HPW4.out hb7)
        have HQW7 := Lib.hid (isN_up HQW4.out hb7)
        have HDW7 := Lib.hid (isN_up HDW4.out hb7)
        clear hge hlt hb7 hv4 a0 a1 a2 b0 b1 b2 hw4
        obtain ⟨hv7, a0, a1, a2, b0, b1, b2⟩ := KP.out _ (HWW7.out.mono (Nat.le_succ (w.heap.size + 1 + 1)))
        go_wp2_with fail
        have hwd : Below (w.heap.size + 1 + 1 + 1) (W3 w s (!s) (.slice ao La ac) (.slice co Lc cc) (.slice bo Lb bc) (.slice dd Ld dc)) (World.drew W7) := HWW7.out.drew
        have HPd := Lib.hid (show IsN (World.drew W7).heap.size (World.drew W7) _ _ from HPW7.out)
        have HQd := Lib.hid (show IsN (World.drew W7).heap.size (World.drew W7) _ _ from HQW7.out)
        have HDd := Lib.hid (show IsN (World.drew W7).heap.size (World.drew W7) _ _ from HDW7.out)
        go_region_held3 (fun W => Below (w.heap.size + 1 + 1) (W3 w s (!s) (.slice ao La ac) (.slice co Lc cc) (.slice bo Lb bc) (.slice dd Ld dc)) W ∧ W.cell? ⟨w.heap.size, 0, none⟩ = some (.bool s) ∧ W.cell? ⟨w.heap.size, 1, none⟩ = some (.slice ao La ac) ∧ W.cell? ⟨w.heap.size, 2, none⟩ = some (.slice co Lc cc) ∧ W.cell? ⟨w.heap.size + 1, 0, none⟩ = some (.bool (!s)) ∧ W.cell? ⟨w.heap.size + 1, 1, none⟩ = some (.slice bo Lb bc) ∧ W.cell? ⟨w.heap.size + 1, 2, none⟩ = some (.slice dd Ld dc))
          (first | exact KP.out _ (by assumption) | exact KP.out _ (hwd.mono (Nat.le_succ (w.heap.size + 1 + 1))) | exact KP.out _ (below_set3 hv6 (Nat.le_refl _)))
          (first
            | (go_at_call 103; refine (minus_any _ _ _ _ _ _ (Nat.le_refl _) FQ.out HGE.out HQd.out HPd.out).mono ?_; rintro e W5 ⟨v5, L5, rfl, hl5, ho5, hb5⟩; have HN5 := Lib.hid (isN_own ho5 hl5); have HO5 := Lib.hid (off_own (g := w.heap.size + 1 + 1) ho5 (KB.out _ hwd).2); have HD5 := Lib.hid (isN_up HDd.out hb5); have hw5 := hwd.trans (hb5.mono (KB.out _ hwd).2); have hv5 := hw5.mono (Nat.le_succ (w.heap.size + 1 + 1)); obtain ⟨ao5, cap5, rfl⟩ := own_shape1 ho5; clear ho5 hl5 hb5)
            | (go_at_call 101; refine (reduced_any _ _ _ _ _ _ _ HSM2.out ⟨_, HN5.out, HD5.out, rfl⟩).mono ?_; rintro e W6 ⟨rfl, hb6⟩; have hw6 := hw5.trans (hb6.mono (KB.out _ hw5).2); have HN6 := Lib.hid (isN_up HN5.out hb6); have HD6 := Lib.hid (isN_up HD5.out hb6); have hv6 := hw6.mono (Nat.le_succ (w.heap.size + 1 + 1)); obtain ⟨r0, r1, r2, r3, r4, r5⟩ := KR.out _ hw6; clear hb6)
            | fail)
        all_goals
          have HW6 := Lib.hid (KB.out _ hw6)
          go_wp2
          refine bodyPost_ret (v := .agg #[.bool (!s), .slice ao5 L5 cap5, .slice ao3 L3 cap3]) (by simp [results, Try.results85, go_sem, r0, r1, r2]) rfl ⟨_, rfl, ?_, newFV HO5.out HO3.out (by omega) (by omega), below_set3 HW6.out.1 (by omega)⟩
          rw [size_set3, sg_sub' s HGE.out]
          exact isQ_mk (HN6.out.set3 HO5.out) (HD6.out.set3 HO3.out)
end Go.Proofs.Ytabalicembhjmaa
