/- The reference's Between. (printed by wip/gen/gen_rbetween.py) -/
import Derived.Test.YteelomjknllcbaaBtwHead
namespace Go.Proofs.Yteelomjknllcbaa
open Go.RowKit
set_option linter.unusedVariables false
set_option linter.unusedSimpArgs false

/-- what is known of a world within the reference's Between -/
structure RbS (w : World) (r1 g1 b1 r2 g2 b2 : Int) (W : World) : Prop where
  bl : Below w.heap.size w W
  sz : w.heap.size + 3 ≤ W.heap.size
  a0 : W.cell? ⟨w.heap.size, 0, none⟩ = some (.int .i64 r1)
  a1 : W.cell? ⟨w.heap.size, 1, none⟩ = some (.int .i64 g1)
  a2 : W.cell? ⟨w.heap.size, 2, none⟩ = some (.int .i64 b1)
  d0 : W.cell? ⟨w.heap.size + 1, 0, none⟩ = some (.int .i64 r2)
  d1 : W.cell? ⟨w.heap.size + 1, 1, none⟩ = some (.int .i64 g2)
  d2 : W.cell? ⟨w.heap.size + 1, 2, none⟩ = some (.int .i64 b2)
  box : Box3 W (w.heap.size + 1 + 1) (.int .i64 0) (.int .i64 0) (.int .i64 0)
theorem RbS.below {w : World} {r1 g1 b1 r2 g2 b2 : Int} {W W1 : World} (h : RbS w r1 g1 b1 r2 g2 b2 W) (hb : Below W.heap.size W W1) : RbS w r1 g1 b1 r2 g2 b2 W1 := by
  have hz := h.sz
  exact ⟨h.bl.trans (hb.mono (by omega)), by have := hb.size; omega,
    (hb.cell (p := ⟨w.heap.size, 0, none⟩) (by show w.heap.size < _; omega)).trans h.a0, (hb.cell (p := ⟨w.heap.size, 1, none⟩) (by show w.heap.size < _; omega)).trans h.a1, (hb.cell (p := ⟨w.heap.size, 2, none⟩) (by show w.heap.size < _; omega)).trans h.a2,
    (hb.cell (p := ⟨w.heap.size + 1, 0, none⟩) (by show w.heap.size + 1 < _; omega)).trans h.d0, (hb.cell (p := ⟨w.heap.size + 1, 1, none⟩) (by show w.heap.size + 1 < _; omega)).trans h.d1, (hb.cell (p := ⟨w.heap.size + 1, 2, none⟩) (by show w.heap.size + 1 < _; omega)).trans h.d2,
    h.box.below hb (by omega)⟩
theorem RbS.set {w : World} {r1 g1 b1 r2 g2 b2 : Int} {W : World} {g i : Nat} {u : Value} (h : RbS w r1 g1 b1 r2 g2 b2 W) (hg : w.heap.size + 3 ≤ g) : RbS w r1 g1 b1 r2 g2 b2 (W.setCell ⟨g, i, none⟩ u) := by
  have hc : ∀ k i', k < w.heap.size + 3 → (W.setCell ⟨g, i, none⟩ u).cell? ⟨k, i', none⟩ = W.cell? ⟨k, i', none⟩ := fun k i' hk =>
    World.cell?_of_block (a := ⟨k, i', none⟩) (heap_setCell_other _ _ _ _ (by have hne : k ≠ g := (by omega); simpa using hne))
  exact ⟨below_set h.bl g i u (by omega), by simpa using h.sz, (hc _ _ (by omega)).trans h.a0, (hc _ _ (by omega)).trans h.a1, (hc _ _ (by omega)).trans h.a2, (hc _ _ (by omega)).trans h.d0, (hc _ _ (by omega)).trans h.d1, (hc _ _ (by omega)).trans h.d2, bx_set1 (by omega) h.box⟩
theorem rbS_of (w : World) (r1 g1 b1 r2 g2 b2 : Int) : RbS w r1 g1 b1 r2 g2 b2 (((w.alloc (.cells #[.int .i64 r1, .int .i64 g1, .int .i64 b1] 23)).alloc (.cells #[.int .i64 r2, .int .i64 g2, .int .i64 b2] 23)).alloc (.cells #[.int .i64 0, .int .i64 0, .int .i64 0] 23)) :=
  ⟨by repeat' first | exact Below.refl _ _ | refine Below.alloc ?_ (by simp <;> omega) _, by simp,
   by simp [go_sem, World.cell?_alloc_past], by simp [go_sem, World.cell?_alloc_past], by simp [go_sem, World.cell?_alloc_past], by simp [go_sem, World.cell?_alloc_past], by simp [go_sem, World.cell?_alloc_past], by simp [go_sem, World.cell?_alloc_past], bx_new (by simp)⟩

set_option maxHeartbeats 1000000 in
theorem rboth_any (r1 g1 b1 r2 g2 b2 : Int) (w : World) :
    Calls Try.prog 60 #[.agg #[.int .i64 r1, .int .i64 g1, .int .i64 b1], .agg #[.int .i64 r2, .int .i64 g2, .int .i64 b2]] w fun e w' => e = .returned (.int .i64 (firstE (chkC r1 g1 b1) (chkC r2 g2 b2))) ∧ Below w.heap.size w w' := by
  have H1 := Lib.hid (rcheck_any r1 g1 b1)
  have H2 := Lib.hid (rcheck_any r2 g2 b2)
  by_cases h : chkC r1 g1 b1 = 0
  · have HV := Lib.hid (show firstE (chkC r1 g1 b1) (chkC r2 g2 b2) = chkC r2 g2 b2 from if_pos h)
    rw [h] at H1
    generalize firstE (chkC r1 g1 b1) (chkC r2 g2 b2) = ff at *
    generalize chkC r2 g2 b2 = f2 at *
    clear h
    go_enter Try.func60, Try.ntmps60
    go_wp2_with fail
    refine (H1.out _).mono ?_
    rintro e w1 ⟨rfl, hb1⟩
    have hz := hb1.size
    simp at hz
    have l1 : w.heap.size + 1 < w1.heap.size := by omega
    have d0 : w1.cell? ⟨w.heap.size + 1, 0, none⟩ = some (.int .i64 r2) := (hb1.cell (p := ⟨w.heap.size + 1, 0, none⟩) (by simp)).trans (by simp [go_sem])
    have d1 : w1.cell? ⟨w.heap.size + 1, 1, none⟩ = some (.int .i64 g2) := (hb1.cell (p := ⟨w.heap.size + 1, 1, none⟩) (by simp)).trans (by simp [go_sem])
    have d2 : w1.cell? ⟨w.heap.size + 1, 2, none⟩ = some (.int .i64 b2) := (hb1.cell (p := ⟨w.heap.size + 1, 2, none⟩) (by simp)).trans (by simp [go_sem])
    have HB := Lib.hid (show Below w.heap.size w w1 from (((Below.refl _ _).alloc (Nat.le_refl _) _).alloc (by simp) _).trans (hb1.mono (by simp <;> omega)))
    clear hb1 hz
    go_wp2_with fail
    refine (H2.out _).mono ?_
    rintro e w2 ⟨rfl, hb2⟩
    have HB2 := Lib.hid (bt' HB.out hb2)
    clear hb2
    go_wp2
    go_ret
    exact ⟨by rw [HV.out]; rfl, HB2.out⟩
  · have HV := Lib.hid (show firstE (chkC r1 g1 b1) (chkC r2 g2 b2) = chkC r1 g1 b1 from if_neg h)
    generalize firstE (chkC r1 g1 b1) (chkC r2 g2 b2) = ff at *
    generalize chkC r1 g1 b1 = f1 at *
    have hb : (f1 != 0) = true := by simp [h]
    have hb2 : decide (f1 ≠ 0) = true := by simp [h]
    clear h
    go_enter Try.func60, Try.ntmps60
    go_wp2_with fail
    refine (H1.out _).mono ?_
    rintro e w1 ⟨rfl, hb1⟩
    have HB := Lib.hid (show Below w.heap.size w w1 from (((Below.refl _ _).alloc (Nat.le_refl _) _).alloc (by simp) _).trans (hb1.mono (by simp <;> omega)))
    clear hb1
    go_wp2
    go_ret
    exact ⟨by rw [HV.out]; rfl, HB.out⟩

theorem firstF_cases (a b c d : Int) : firstF [a, b, c, d] = if firstE a b ≠ 0 then firstE a b else if c ≠ 0 then c else d := by
  unfold firstE
  by_cases ha : a = 0 <;> by_cases hb : b = 0 <;> by_cases hc : c = 0 <;> by_cases hd : d = 0 <;> simp [firstF, *]

set_option maxRecDepth 100000 in
set_option maxHeartbeats 4000000 in
theorem rbetween_bad (r1 g1 b1 r2 g2 b2 way p q : Int) (w : World) (hno : btwE r1 g1 b1 r2 g2 b2 way p q ≠ 0) :
    Calls Try.prog 28 #[.agg #[.int .i64 r1, .int .i64 g1, .int .i64 b1], .agg #[.int .i64 r2, .int .i64 g2, .int .i64 b2], .int .i64 way, .int .i64 p, .int .i64 q] w fun e w' =>
      e = .returned (.tuple #[.agg #[.int .i64 0, .int .i64 0, .int .i64 0], .int .i64 (btwE r1 g1 b1 r2 g2 b2 way p q)]) ∧ Below w.heap.size w w' := by
  have RB := Lib.hid (rboth_any r1 g1 b1 r2 g2 b2)
  have hE : btwE r1 g1 b1 r2 g2 b2 way p q = _ := firstF_cases _ _ _ _
  generalize hF : firstE (chkC r1 g1 b1) (chkC r2 g2 b2) = F at *
  clear hF
  generalize btwE r1 g1 b1 r2 g2 b2 way p q = E at *
  by_cases h0 : F ≠ 0
  · rw [if_pos h0] at hE
    have HE := Lib.hid hE
    have hb : (F != 0) = true := by simp [h0]
    have hb2 : decide (F ≠ 0) = true := by simp [h0]
    clear hE h0 hno
    go_enter Try.func28, Try.ntmps28
    go_wp2_with fail
    refine (RB.out _).mono ?_
    rintro e wA ⟨rfl, hbA⟩
    have hS := (rbS_of w r1 g1 b1 r2 g2 b2).below hbA
    have HS := Lib.hid hS
    obtain ⟨bA, hz, a0, a1, a2, d0, d1, d2, t0, t1, t2, t3, t4, t5⟩ := hS
    have z0 : w.heap.size < wA.heap.size := by omega
    have z1 : w.heap.size + 1 < wA.heap.size := by omega
    have z2 : w.heap.size + 1 + 1 < wA.heap.size := by omega
    have BA := Lib.hid bA
    clear bA hz hbA
    go_wp2
    refine bodyPost_ret (v := .tuple #[.agg #[.int .i64 0, .int .i64 0, .int .i64 0], .int .i64 F]) (by simp [results, Try.results28, go_sem, *]) rfl ⟨by rw [HE.out], below_set3 BA.out (by omega)⟩
  · rw [if_neg h0] at hE
    have h0 : F = 0 := by simpa using h0
    subst h0
    by_cases hw : 1 ≤ way ∧ way ≤ 3
    · rw [show inB way 1 3 = true from decide_eq_true hw] at hE
      have HWY := Lib.hid hw
      clear hw
      simp only [whenV, Bool.not_true, Bool.false_eq_true, if_false, ne_eq, not_true_eq_false] at hE
      by_cases hq : 1 ≤ q ∧ q ≤ 36000000
      · rw [show inB q 1 36000000 = true from decide_eq_true hq] at hE
        by_cases hp : 0 ≤ p ∧ p ≤ q
        · rw [show inB p 0 q = true from decide_eq_true hp] at hE
          simp at hE
          exact absurd hE hno
        · rw [show inB p 0 q = false from decide_eq_false hp] at hE
          simp at hE
          have HE := Lib.hid hE
          have HQ := Lib.hid hq
          have HP := Lib.hid (show p < 0 ∨ q < p by omega)
          clear hE hno hq hp
          go_enter Try.func28, Try.ntmps28
          go_wp2_with fail
          refine (RB.out _).mono ?_
          rintro e wA ⟨rfl, hbA⟩
          have hS := (rbS_of w r1 g1 b1 r2 g2 b2).below hbA
          have HS := Lib.hid hS
          obtain ⟨bA, hz, a0, a1, a2, d0, d1, d2, t0, t1, t2, t3, t4, t5⟩ := hS
          have z0 : w.heap.size < wA.heap.size := by omega
          have z1 : w.heap.size + 1 < wA.heap.size := by omega
          have z2 : w.heap.size + 1 + 1 < wA.heap.size := by omega
          have BA := Lib.hid bA
          clear bA hz hbA
          go_wp2_with (first | (go_at_call 40; ((with_reducible refine (r1within_yes way 1 3 _ HWY.out).mono ?_); rintro e w' ⟨rfl, rfl⟩)) | (go_at_call 40; ((with_reducible refine (r1within_yes q 1 36000000 _ HQ.out).mono ?_); rintro e w' ⟨rfl, rfl⟩)) | (go_at_call 40; ((with_reducible refine (r1within_no p 0 q _ HP.out).mono ?_); rintro e w' ⟨rfl, rfl⟩)) | fail)
          all_goals refine bodyPost_ret (v := .tuple #[.agg #[.int .i64 0, .int .i64 0, .int .i64 0], .int .i64 1]) (by simp [results, Try.results28, go_sem, *]) rfl ⟨by rw [HE.out], below_set3 BA.out (by omega)⟩
      · rw [show inB q 1 36000000 = false from decide_eq_false hq] at hE
        simp at hE
        have HE := Lib.hid hE
        have HQ := Lib.hid (show q < 1 ∨ 36000000 < q by omega)
        clear hE hno hq
        go_enter Try.func28, Try.ntmps28
        go_wp2_with fail
        refine (RB.out _).mono ?_
        rintro e wA ⟨rfl, hbA⟩
        have hS := (rbS_of w r1 g1 b1 r2 g2 b2).below hbA
        have HS := Lib.hid hS
        obtain ⟨bA, hz, a0, a1, a2, d0, d1, d2, t0, t1, t2, t3, t4, t5⟩ := hS
        have z0 : w.heap.size < wA.heap.size := by omega
        have z1 : w.heap.size + 1 < wA.heap.size := by omega
        have z2 : w.heap.size + 1 + 1 < wA.heap.size := by omega
        have BA := Lib.hid bA
        clear bA hz hbA
        go_wp2_with (first | (go_at_call 40; ((with_reducible refine (r1within_yes way 1 3 _ HWY.out).mono ?_); rintro e w' ⟨rfl, rfl⟩)) | (go_at_call 40; ((with_reducible refine (r1within_no q 1 36000000 _ HQ.out).mono ?_); rintro e w' ⟨rfl, rfl⟩)) | fail)
        all_goals refine bodyPost_ret (v := .tuple #[.agg #[.int .i64 0, .int .i64 0, .int .i64 0], .int .i64 1]) (by simp [results, Try.results28, go_sem, *]) rfl ⟨by rw [HE.out], below_set3 BA.out (by omega)⟩
    · rw [show inB way 1 3 = false from decide_eq_false hw] at hE
      simp [whenV] at hE
      have HE := Lib.hid hE
      have HWY := Lib.hid (show way < 1 ∨ 3 < way by omega)
      clear hE hno hw
      go_enter Try.func28, Try.ntmps28
      go_wp2_with fail
      refine (RB.out _).mono ?_
      rintro e wA ⟨rfl, hbA⟩
      have hS := (rbS_of w r1 g1 b1 r2 g2 b2).below hbA
      have HS := Lib.hid hS
      obtain ⟨bA, hz, a0, a1, a2, d0, d1, d2, t0, t1, t2, t3, t4, t5⟩ := hS
      have z0 : w.heap.size < wA.heap.size := by omega
      have z1 : w.heap.size + 1 < wA.heap.size := by omega
      have z2 : w.heap.size + 1 + 1 < wA.heap.size := by omega
      have BA := Lib.hid bA
      clear bA hz hbA
      go_wp2_with (first | (go_at_call 40; ((with_reducible refine (r1within_no way 1 3 _ HWY.out).mono ?_); rintro e w' ⟨rfl, rfl⟩)) | fail)
      all_goals refine bodyPost_ret (v := .tuple #[.agg #[.int .i64 0, .int .i64 0, .int .i64 0], .int .i64 4]) (by simp [results, Try.results28, go_sem, *]) rfl ⟨by rw [HE.out], below_set3 BA.out (by omega)⟩

theorem rsat_cases (S1 S2 H1 H2 : Int) : (S1 = 0 ∧ huA S1 H1 H2 = H2 ∧ huB S1 S2 H1 H2 = H2) ∨ ((S1 == 0) = false ∧ S2 = 0 ∧ huA S1 H1 H2 = H1 ∧ huB S1 S2 H1 H2 = H1) ∨ ((S1 == 0) = false ∧ (S2 == 0) = false ∧ huA S1 H1 H2 = H1 ∧ huB S1 S2 H1 H2 = H2) := by
  unfold huA huB
  by_cases h1 : S1 = 0
  · exact .inl ⟨h1, by rw [if_pos h1], by rw [if_pos h1]⟩
  · by_cases h2 : S2 = 0
    · exact .inr (.inl ⟨by simpa using h1, h2, by rw [if_neg h1], by rw [if_neg h1, if_pos h2]⟩)
    · exact .inr (.inr ⟨by simpa using h1, by simpa using h2, by rw [if_neg h1], by rw [if_neg h1, if_neg h2]⟩)

set_option maxRecDepth 100000 in
set_option maxHeartbeats 16000000 in
theorem rbetween_ok (r1 g1 b1 r2 g2 b2 way p q : Int) (w : World) (hok : PartOk p q) (hE : btwE r1 g1 b1 r2 g2 b2 way p q = 0) :
    Calls Try.prog 28 #[.agg #[.int .i64 r1, .int .i64 g1, .int .i64 b1], .agg #[.int .i64 r2, .int .i64 g2, .int .i64 b2], .int .i64 way, .int .i64 p, .int .i64 q] w fun e w' =>
      e = .returned (.tuple #[.agg #[.int .i64 (btwC r1 g1 b1 r2 g2 b2 way p q).1, .int .i64 (btwC r1 g1 b1 r2 g2 b2 way p q).2.1, .int .i64 (btwC r1 g1 b1 r2 g2 b2 way p q).2.2], .int .i64 0]) ∧ Below w.heap.size w w' := by
  obtain ⟨⟨lr1, lg1, lb1⟩, ⟨lr2, lg2, lb2⟩, wa⟩ := btw_lv hok hE
  have RB := Lib.hid (rboth_any r1 g1 b1 r2 g2 b2)
  rw [show firstE (chkC r1 g1 b1) (chkC r2 g2 b2) = 0 by rw [chk_yes ⟨lr1, lg1, lb1⟩, chk_yes ⟨lr2, lg2, lb2⟩]; rfl] at RB
  have HOK := Lib.hid hok
  have HWY := Lib.hid wa
  generalize hC : btwC r1 g1 b1 r2 g2 b2 way p q = C
  have HC := Lib.hid hC
  have HQ := Lib.hid hok.1
  have HP := Lib.hid hok.2
  clear hC hE hok wa
  go_enter Try.func28, Try.ntmps28
  go_wp2_with fail
  refine (RB.out _).mono ?_
  rintro e wA ⟨rfl, hbA⟩
  have hS := (rbS_of w r1 g1 b1 r2 g2 b2).below hbA
  have HS := Lib.hid hS
  obtain ⟨bA, hz, a0, a1, a2, d0, d1, d2, t0, t1, t2, t3, t4, t5⟩ := hS
  have z0 : w.heap.size < wA.heap.size := by omega
  have z1 : w.heap.size + 1 < wA.heap.size := by omega
  have z2 : w.heap.size + 1 + 1 < wA.heap.size := by omega
  have BA := Lib.hid bA
  clear bA hz hbA
  by_cases hp0 : p = 0
  · have HV := Lib.hid (show C = (r1, g1, b1) by rw [← HC.out]; unfold btwC; rw [if_pos hp0])
    clear HC HOK lr1 lg1 lb1 lr2 lg2 lb2
    subst hp0
    go_wp2_with (first | (go_at_call 40; ((with_reducible refine (r1within_yes way 1 3 _ HWY.out).mono ?_); rintro e w' ⟨rfl, rfl⟩)) | (go_at_call 40; ((with_reducible refine (r1within_yes q 1 36000000 _ HQ.out).mono ?_); rintro e w' ⟨rfl, rfl⟩)) | (go_at_call 40; ((with_reducible refine (r1within_yes 0 0 q _ HP.out).mono ?_); rintro e w' ⟨rfl, rfl⟩)) | fail)
    all_goals refine bodyPost_ret (v := .tuple #[.agg #[.int .i64 r1, .int .i64 g1, .int .i64 b1], .int .i64 0]) (by simp [results, Try.results28, go_sem, *]) rfl ⟨by rw [HV.out], below_set3 BA.out (by omega)⟩
  · by_cases hpq : p = q
    · have HV := Lib.hid (show C = (r2, g2, b2) by rw [← HC.out]; unfold btwC; rw [if_neg hp0, if_pos hpq])
      have p0 : (p == 0) = false := by simp [hp0]
      clear HC HOK lr1 lg1 lb1 lr2 lg2 lb2 hp0
      subst hpq
      go_wp2_with (first | (go_at_call 40; ((with_reducible refine (r1within_yes way 1 3 _ HWY.out).mono ?_); rintro e w' ⟨rfl, rfl⟩)) | (go_at_call 40; ((with_reducible refine (r1within_yes p 1 36000000 _ HQ.out).mono ?_); rintro e w' ⟨rfl, rfl⟩)) | (go_at_call 40; ((with_reducible refine (r1within_yes p 0 p _ HP.out).mono ?_); rintro e w' ⟨rfl, rfl⟩)) | fail)
      all_goals refine bodyPost_ret (v := .tuple #[.agg #[.int .i64 r2, .int .i64 g2, .int .i64 b2], .int .i64 0]) (by simp [results, Try.results28, go_sem, *]) rfl ⟨by rw [HV.out], below_set3 BA.out (by omega)⟩
    · have p0 : (p == 0) = false := by simp [hp0]
      have pq : (p == q) = false := by simp [hpq]
      by_cases hw1 : way = 1
      · have HV := Lib.hid (show C = (mixV r1 r2 p q, mixV g1 g2 p q, mixV b1 b2 p q) by rw [← HC.out]; unfold btwC; rw [if_neg hp0, if_neg hpq, if_pos hw1])
        have M1 := Lib.hid (rMix_any r1 r2 p q)
        rw [show mixR r1 r2 p q = mixV r1 r2 p q from if_pos ⟨⟨lr1, lr2⟩, HOK.out⟩, show mixE r1 r2 p q = 0 from if_pos ⟨⟨lr1, lr2⟩, HOK.out⟩] at M1
        have M2 := Lib.hid (rMix_any g1 g2 p q)
        rw [show mixR g1 g2 p q = mixV g1 g2 p q from if_pos ⟨⟨lg1, lg2⟩, HOK.out⟩, show mixE g1 g2 p q = 0 from if_pos ⟨⟨lg1, lg2⟩, HOK.out⟩] at M2
        have M3 := Lib.hid (rMix_any b1 b2 p q)
        rw [show mixR b1 b2 p q = mixV b1 b2 p q from if_pos ⟨⟨lb1, lb2⟩, HOK.out⟩, show mixE b1 b2 p q = 0 from if_pos ⟨⟨lb1, lb2⟩, HOK.out⟩] at M3
        generalize mixV r1 r2 p q = m1 at *
        generalize mixV g1 g2 p q = m2 at *
        generalize mixV b1 b2 p q = m3 at *
        clear HC HOK lr1 lg1 lb1 lr2 lg2 lb2 hp0 hpq
        subst hw1
        go_wp2_with (first | (go_at_call 40; ((with_reducible refine (r1within_yes 1 1 3 _ HWY.out).mono ?_); rintro e w' ⟨rfl, rfl⟩)) | (go_at_call 40; ((with_reducible refine (r1within_yes q 1 36000000 _ HQ.out).mono ?_); rintro e w' ⟨rfl, rfl⟩)) | (go_at_call 40; ((with_reducible refine (r1within_yes p 0 q _ HP.out).mono ?_); rintro e w' ⟨rfl, rfl⟩)) | fail)
        refine (M1.out _).mono ?_
        rintro e wB ⟨rfl, hbB⟩
        have HSB := Lib.hid (HS.out.below hbB)
        clear hbB
        obtain ⟨_, sz, a0, a1, a2, d0, d1, d2, _, _, _, _, _, _⟩ := HSB.out
        have z0 : w.heap.size < wB.heap.size := by omega
        have z1 : w.heap.size + 1 < wB.heap.size := by omega
        go_wp2_with fail
        refine (M2.out _).mono ?_
        rintro e wC ⟨rfl, hbC⟩
        have HSC := Lib.hid (HSB.out.below hbC)
        clear hbC
        obtain ⟨_, sz, a0, a1, a2, d0, d1, d2, _, _, _, _, _, _⟩ := HSC.out
        have z0 : w.heap.size < wC.heap.size := by omega
        have z1 : w.heap.size + 1 < wC.heap.size := by omega
        go_wp2_with fail
        refine (M3.out _).mono ?_
        rintro e wD ⟨rfl, hbD⟩
        have HSD := Lib.hid (HSC.out.below hbD)
        clear hbD
        obtain ⟨bD, sz, a0, a1, a2, d0, d1, d2, t0, t1, t2, t3, t4, t5⟩ := HSD.out
        have z0 : w.heap.size < wD.heap.size := by omega
        have z1 : w.heap.size + 1 < wD.heap.size := by omega
        have z2 : w.heap.size + 1 + 1 < wD.heap.size := by omega
        have BD := Lib.hid bD
        clear bD
        go_wp2_with fail
        refine bodyPost_ret (v := .tuple #[.agg #[.int .i64 m1, .int .i64 m2, .int .i64 m3], .int .i64 0]) (by simp [results, Try.results28, go_sem, *]) rfl ⟨by rw [HV.out], below_set3 BD.out (by omega)⟩
      · have hw : (way == 1) = false := by simp [hw1]
        obtain ⟨hh1, hs1, hv1⟩ := tone_range lr1 lg1 lb1
        obtain ⟨hh2, hs2, hv2⟩ := tone_range lr2 lg2 lb2
        have HT1 := Lib.hid (fun W => rtone_any r1 g1 b1 W lr1 lg1 lb1)
        have HT2 := Lib.hid (fun W => rtone_any r2 g2 b2 W lr2 lg2 lb2)
        have HV0 := Lib.hid (show C = toneC (toneH r1 g1 b1) (toneS r1 g1 b1) (topV r1 g1 b1) (toneH r2 g2 b2) (toneS r2 g2 b2) (topV r2 g2 b2) way p q by rw [← HC.out]; unfold btwC; rw [if_neg hp0, if_neg hpq, if_neg hw1]; rfl)
        generalize toneH r1 g1 b1 = H1 at *
        generalize toneS r1 g1 b1 = S1 at *
        generalize topV r1 g1 b1 = V1 at *
        generalize toneH r2 g2 b2 = H2 at *
        generalize toneS r2 g2 b2 = S2 at *
        generalize topV r2 g2 b2 = V2 at *
        have HH1 := Lib.hid hh1
        have HH2 := Lib.hid hh2
        have HMS := Lib.hid (show MixOk S1 S2 p q from ⟨⟨hs1, hs2⟩, HOK.out⟩)
        have HMV := Lib.hid (show MixOk V1 V2 p q from ⟨⟨hv1, hv2⟩, HOK.out⟩)
        clear HC lr1 lg1 lb1 lr2 lg2 lb2 hp0 hpq hw1 hh1 hs1 hv1 hh2 hs2 hv2
        have KP := Lib.hid (show ∀ W, Below wA.heap.size wA W → (W.cell? ⟨w.heap.size, 0, none⟩ = some (.int .i64 r1) ∧ W.cell? ⟨w.heap.size, 1, none⟩ = some (.int .i64 g1) ∧ W.cell? ⟨w.heap.size, 2, none⟩ = some (.int .i64 b1) ∧ W.cell? ⟨w.heap.size + 1, 0, none⟩ = some (.int .i64 r2) ∧ W.cell? ⟨w.heap.size + 1, 1, none⟩ = some (.int .i64 g2) ∧ W.cell? ⟨w.heap.size + 1, 2, none⟩ = some (.int .i64 b2)) from fun W hb => ⟨(HS.out.below hb).a0, (HS.out.below hb).a1, (HS.out.below hb).a2, (HS.out.below hb).d0, (HS.out.below hb).d1, (HS.out.below hb).d2⟩)
        go_upto_region 17 with (first | (go_at_call 40; ((with_reducible refine (r1within_yes way 1 3 _ HWY.out).mono ?_); rintro e w' ⟨rfl, rfl⟩)) | (go_at_call 40; ((with_reducible refine (r1within_yes q 1 36000000 _ HQ.out).mono ?_); rintro e w' ⟨rfl, rfl⟩)) | (go_at_call 40; ((with_reducible refine (r1within_yes p 0 q _ HP.out).mono ?_); rintro e w' ⟨rfl, rfl⟩)) | fail)
        go_cut [19, 20] (fun sA sB wx => ∃ g h : Nat, sA = .pointer (some ⟨g, 0, none⟩) ∧ sB = .pointer (some ⟨h, 0, none⟩) ∧ wA.heap.size ≤ g ∧ wA.heap.size ≤ h ∧ g ≠ h ∧ g < wx.heap.size ∧ h < wx.heap.size ∧ Box3 wx g (.int .i64 H1) (.int .i64 S1) (.int .i64 V1) ∧ Box3 wx h (.int .i64 H2) (.int .i64 S2) (.int .i64 V2) ∧ Below wA.heap.size wA wx)
        case first =>
          have hw0 : Below wA.heap.size wA (World.drew wA) := (Below.refl _ _).drew
          go_region_held3 (fun W => W.cell? ⟨w.heap.size, 0, none⟩ = some (.int .i64 r1) ∧ W.cell? ⟨w.heap.size, 1, none⟩ = some (.int .i64 g1) ∧ W.cell? ⟨w.heap.size, 2, none⟩ = some (.int .i64 b1) ∧ W.cell? ⟨w.heap.size + 1, 0, none⟩ = some (.int .i64 r2) ∧ W.cell? ⟨w.heap.size + 1, 1, none⟩ = some (.int .i64 g2) ∧ W.cell? ⟨w.heap.size + 1, 2, none⟩ = some (.int .i64 b2))
            (exact KP.out _ (by (repeat' first | (with_reducible assumption) | (with_reducible refine bl_alloc (by first | omega | (simp <;> omega)) ?_) | (with_reducible refine bl_set3 (by first | omega | (simp <;> omega)) ?_) | (with_reducible exact (Below.refl _ _).drew) | (with_reducible refine Below.drew ?_) | (with_reducible exact Below.refl _ _))))
            (first
              | (go_at_call 36; ((with_reducible refine (HT1.out _).mono ?_); rintro e WX ⟨rfl, hb1⟩; have hw1 : Below wA.heap.size wA WX := bl_below (by first | omega | (simp <;> omega)) hb1 (by (repeat' first | (with_reducible assumption) | (with_reducible refine bl_alloc (by first | omega | (simp <;> omega)) ?_) | (with_reducible refine bl_set3 (by first | omega | (simp <;> omega)) ?_) | (with_reducible exact (Below.refl _ _).drew) | (with_reducible refine Below.drew ?_) | (with_reducible exact Below.refl _ _))); have hs1 := hb1.size; (try (simp at hs1)); (first | ((with_reducible first | have PW := pre2d hb1 | have PW := pre2e hb1 | have PW := pre2 hb1); obtain ⟨B1, B2, l1, l2⟩ := PW; have Y1 : Hid (Box3 WX wA.heap.size (.int .i64 0) (.int .i64 0) (.int .i64 0)) := Lib.hid B1; have Y2 : Hid (Box3 WX (wA.heap.size + 1) (.int .i64 0) (.int .i64 0) (.int .i64 0)) := Lib.hid B2; have l1 : wA.heap.size < WX.heap.size := l1; have l2 : wA.heap.size + 1 < WX.heap.size := l2; obtain ⟨p0, p1, p2, p3, p4, p5⟩ := Y1.out; obtain ⟨q0, q1, q2, q3, q4, q5⟩ := Y2.out; clear B1 B2) | ((with_reducible first | have PW := pre1d hb1 | have PW := pre1 hb1); obtain ⟨B1, l1⟩ := PW; have Y1 : Hid (Box3 WX wA.heap.size (.int .i64 0) (.int .i64 0) (.int .i64 0)) := Lib.hid B1; have l1 : wA.heap.size < WX.heap.size := l1; obtain ⟨p0, p1, p2, p3, p4, p5⟩ := Y1.out; clear B1) | skip); clear hb1))
              | (go_at_call 36; ((with_reducible refine (HT2.out _).mono ?_); rintro e WY ⟨rfl, hb2⟩; have hw2 : Below wA.heap.size wA WY := bl_below (by first | omega | (simp <;> omega)) hb2 (by (repeat' first | (with_reducible assumption) | (with_reducible refine bl_alloc (by first | omega | (simp <;> omega)) ?_) | (with_reducible refine bl_set3 (by first | omega | (simp <;> omega)) ?_) | (with_reducible exact (Below.refl _ _).drew) | (with_reducible refine Below.drew ?_) | (with_reducible exact Below.refl _ _))); have hs2 := hb2.size; (try (simp at hs2)); (try (have Y1 := Lib.hid (bx_below hb2 (by first | exact l1 | exact Nat.lt_of_lt_of_le l1 (by simp <;> omega) | fail) (by with_reducible first | exact Y1.out | exact bx_alloc l1 Y1.out | fail)); obtain ⟨p0, p1, p2, p3, p4, p5⟩ := Y1.out; have l1 : wA.heap.size < WY.heap.size := by first | omega | fail)); (try (have Y2 := Lib.hid (bx_below hb2 (by first | exact l2 | exact Nat.lt_of_lt_of_le l2 (by simp <;> omega) | fail) (by with_reducible first | exact Y2.out | exact bx_alloc l2 Y2.out | fail)); obtain ⟨q0, q1, q2, q3, q4, q5⟩ := Y2.out; have l2 : wA.heap.size + 1 < WY.heap.size := by first | omega | fail)); (first | ((with_reducible have PW := pre2 hb2); obtain ⟨B3, B4, l3, l4⟩ := PW; have Y3 := Lib.hid B3; have Y4 := Lib.hid B4; obtain ⟨s0, s1, s2, s3, s4, s5⟩ := Y3.out; obtain ⟨m0, m1, m2, m3, m4, m5⟩ := Y4.out; clear B3 B4) | ((with_reducible have PW := pre1 hb2); obtain ⟨B3, l3⟩ := PW; have Y3 := Lib.hid B3; obtain ⟨s0, s1, s2, s3, s4, s5⟩ := Y3.out; clear B3) | skip); clear hb2))
              | fail)
          all_goals go_wp2_with fail
          all_goals go_meet
          all_goals refine ⟨_, _, rfl, rfl, ?_, ?_, ?_, ?_, ?_, ?_, ?_, ?_⟩
          all_goals first
            | ((repeat' first | (with_reducible exact Y1.out) | (with_reducible exact has_of Y1.out) | (with_reducible exact Y2.out) | (with_reducible exact has_of Y2.out) | (with_reducible exact Y3.out) | (with_reducible exact has_of Y3.out) | (with_reducible exact Y4.out) | (with_reducible exact has_of Y4.out) | (with_reducible refine bx_new (by first | omega | rfl | (simp <;> omega))) | (with_reducible refine bx_put (by first | rfl | omega) ?_) | (with_reducible refine bx_other (by omega) ?_) | (with_reducible refine bx_alloc (by first | omega | (simp <;> omega)) ?_) | (with_reducible refine bx_drew ?_) | (with_reducible refine has_other (by omega) ?_) | (with_reducible refine has_alloc (by first | omega | (simp <;> omega)) ?_)); done)
            | ((repeat' first | (with_reducible assumption) | (with_reducible refine bl_alloc (by first | omega | (simp <;> omega)) ?_) | (with_reducible refine bl_set3 (by first | omega | (simp <;> omega)) ?_) | (with_reducible exact (Below.refl _ _).drew) | (with_reducible refine Below.drew ?_) | (with_reducible exact Below.refl _ _)); done)
            | omega
            | (simp <;> omega)
            | fail
        case rest =>
          obtain ⟨g, h, rfl, rfl, hg, hh, hgh, hgl, hhl, hbg, hbh, hbB⟩ := hcut
          obtain ⟨wB, rfl⟩ : ∃ x, x = wc := ⟨wc, rfl⟩
          have HSB := Lib.hid (HS.out.below hbB)
          have hzA := HS.out.sz
          have HBG := Lib.hid hbg
          have HBH := Lib.hid hbh
          have hzB := hbB.size
          clear hbB t0 t1 t2 t3 t4 t5 hbg hbh KP HT1 HT2 a0 a1 a2 d0 d1 d2
          have HB1 := Lib.hid (show (0 ≤ huA S1 H1 H2 ∧ huA S1 H1 H2 ≤ 393209) ∧ (0 ≤ huB S1 S2 H1 H2 ∧ huB S1 S2 H1 H2 ≤ 393209) from by
            have h1 := HH1.out
            have h2 := HH2.out
            rcases rsat_cases S1 S2 H1 H2 with ⟨_, k1, k2⟩ | ⟨_, _, k1, k2⟩ | ⟨_, _, k1, k2⟩ <;> rw [k1, k2] <;> omega)
          have HCS := Lib.hid (rsat_cases S1 S2 H1 H2)
          generalize hHX : huA S1 H1 H2 = hx at *
          generalize hHY : huB S1 S2 H1 H2 = hy at *
          have HHX := Lib.hid hHX
          have HHY := Lib.hid hHY
          clear hHX hHY
          have HTU := Lib.hid (fun W => rturn_any hx hy way W HB1.out.1 HB1.out.2)
          rw [turn_up hx hy way] at HTU
          have HV1 := Lib.hid (show C = frT (rnd (hx * q + (if upB way ((hy - hx) % 393210) then (hy - hx) % 393210 else (hy - hx) % 393210 - 393210) * p) q % 393210) (mixV S1 S2 p q) (mixV V1 V2 p q) from by
            rw [HV0.out, ← turn_up hx hy way]
            show toneC _ _ _ _ _ _ _ _ _ = _
            unfold toneC btwH
            rw [HHX.out, HHY.out])
          have HD := Lib.hid (show 0 ≤ (hy - hx) % 393210 ∧ (hy - hx) % 393210 < 393210 from ⟨Int.emod_nonneg _ (by decide), Int.emod_lt_of_pos _ (by decide)⟩)
          have HTB := Lib.hid (show -393210 ≤ (if upB way ((hy - hx) % 393210) then (hy - hx) % 393210 else (hy - hx) % 393210 - 393210) ∧ (if upB way ((hy - hx) % 393210) then (hy - hx) % 393210 else (hy - hx) % 393210 - 393210) ≤ 393210 from by rw [← turn_up]; exact turn_bounds _ _ _)
          generalize hDD : (hy - hx) % 393210 = d at *
          clear hDD
          have HUC := Lib.hid (upB_cases way d)
          generalize hUP : upB way d = up at *
          clear hUP
          generalize hTN : (if up then d else d - 393210) = tn at *
          have HTN := Lib.hid hTN
          clear hTN
          obtain ⟨y0, y1, y2, y3, y4, y5⟩ := HBG.out
          obtain ⟨x0, x1, x2, x3, x4, x5⟩ := HBH.out
          go_upto_if 97 with fail
          go_cut [19] (fun s14 wx => s14 = .pointer (some ⟨g, 0, none⟩) ∧ Box3 wx g (.int .i64 hx) (.int .i64 S1) (.int .i64 V1) ∧ Box3 wx h (.int .i64 hy) (.int .i64 S2) (.int .i64 V2) ∧ RbS w r1 g1 b1 r2 g2 b2 wx ∧ wx.heap.size = wB.heap.size)
          case first =>
            rcases HCS.out with ⟨k0, k1, k2⟩ | ⟨k0, k3, k1, k2⟩ | ⟨k0, k3, k1, k2⟩
            · have K0 : (S1 == 0) = true := by simp [k0]
              have K1 := Lib.hid k1
              have K2 := Lib.hid k2
              clear k0 k1 k2
              go_wp2_with fail
              all_goals go_meet
              all_goals exact ⟨rfl, by rw [K1.out]; exact bx_set0 HBG.out, by rw [K2.out]; exact bx_set1 (by omega) HBH.out, HSB.out.set (by omega), by simp⟩
            · have K3 : (S2 == 0) = true := by simp [k3]
              have K1 := Lib.hid k1
              have K2 := Lib.hid k2
              clear k3 k1 k2
              go_wp2_with fail
              all_goals go_meet
              all_goals exact ⟨rfl, by rw [K1.out]; exact bx_set1 (by omega) HBG.out, by rw [K2.out]; exact bx_set0 HBH.out, HSB.out.set (by omega), by simp⟩
            · have K1 := Lib.hid k1
              have K2 := Lib.hid k2
              clear k1 k2
              go_wp2_with fail
              all_goals go_meet
              all_goals exact ⟨rfl, by rw [K1.out]; exact HBG.out, by rw [K2.out]; exact HBH.out, HSB.out, rfl⟩
          case rest =>
            obtain ⟨rfl, hbg, hbh, hsc, hzc⟩ := hcut
            obtain ⟨wC, rfl⟩ : ∃ x, x = wc := ⟨wc, rfl⟩
            clear y0 y1 y2 y3 y4 y5 x0 x1 x2 x3 x4 x5
            have hgC : g < wC.heap.size := by omega
            have hhC : h < wC.heap.size := by omega
            clear hzc hgl hhl
            have HSC := Lib.hid hsc
            have HBG2 := Lib.hid hbg
            have HBH2 := Lib.hid hbh
            obtain ⟨_, zC, _, _, _, _, _, _, _, _, _, _, _, _⟩ := hsc
            obtain ⟨y0, y1, y2, y3, y4, y5⟩ := hbg
            obtain ⟨x0, x1, x2, x3, x4, x5⟩ := hbh
            have HB22 := Lib.hid (hue_bounds (a := hx) (t := tn) HB1.out.1 HTB.out HOK.out)
            have HXB := Lib.hid HB1.out.1
            obtain ⟨qn, hqn⟩ : ∃ n : Nat, q = (n : Int) := ⟨q.toNat, by have := HOK.out.1; omega⟩
            obtain ⟨pn, hpn⟩ : ∃ n : Nat, p = (n : Int) := ⟨p.toNat, by have := HOK.out.2; omega⟩
            have HQN := Lib.hid (show 0 < qn ∧ qn ≤ 36000000 ∧ pn ≤ qn by have := HOK.out; unfold PartOk at this; omega)
            have HEE := Lib.hid (show rndQ (hx * ((1 * qn : Nat) : Int) + tn * (pn : Int) * ((1 : Nat) : Int)) (1 * (1 * qn)) = rnd (hx * q + tn * p) q by
              rw [rndQ_rnd', hqn, hpn]
              simp)
            have sX : Sm hx 1 := sm_mid (by have := HXB.out; omega) (by omega)
            have sT : Sm tn 1 := sm_mid (by have := HTB.out; omega) (by omega)
            have sP : Sm (pn : Int) qn := sm_mid (by have := HQN.out; omega) (by have := HQN.out; omega)
            have sTP : Sm (tn * (pn : Int)) (1 * qn) := sm_mid (by have := HB22.out; rw [← hpn]; omega) (by have := HQN.out; omega)
            have sS : Sm (hx * ((1 * qn : Nat) : Int) + tn * (pn : Int) * ((1 : Nat) : Int)) (1 * (1 * qn)) := sm_mid (by
              rw [show hx * ((1 * qn : Nat) : Int) + tn * (pn : Int) * ((1 : Nat) : Int) = hx * q + tn * p by rw [hqn, hpn]; simp]
              have := HB22.out; omega) (by have := HQN.out; omega)
            have sR : Sm ((hx * ((1 * qn : Nat) : Int) + tn * (pn : Int) * ((1 : Nat) : Int)) * 2 + ((1 * (1 * qn) : Nat) : Int)) (1 * (1 * qn) * 2) := sm_mid (by
              rw [show hx * ((1 * qn : Nat) : Int) + tn * (pn : Int) * ((1 : Nat) : Int) = hx * q + tn * p by rw [hqn, hpn]; simp]
              have := HB22.out; have := HQN.out; omega) (by have := HQN.out; omega)
            have hrb : ((hx * ((1 * qn : Nat) : Int) + tn * (pn : Int) * ((1 : Nat) : Int)) * 2 + ((1 * (1 * qn) : Nat) : Int)).natAbs / (1 * (1 * qn) * 2) ≤ 4611686018427387904 := by
              refine Nat.le_trans (Nat.div_le_self _ _) ?_
              rw [show hx * ((1 * qn : Nat) : Int) + tn * (pn : Int) * ((1 : Nat) : Int) = hx * q + tn * p by rw [hqn, hpn]; simp]
              have := HB22.out; have := HQN.out; omega
            have HWX := Lib.hid (fun W => whole_any hx W (by have := HXB.out; omega) (by have := HXB.out; omega))
            have HWT := Lib.hid (fun W => whole_any tn W (by have := HTB.out; omega) (by have := HTB.out; omega))
            have HPA := Lib.hid (fun W => part_any pn qn W (by have := HQN.out; omega) (by have := HQN.out; omega))
            rw [← hpn, ← hqn] at HPA
            have HTI := Lib.hid (fun (W : World) (u u2 : Value) (hu : IsQ W.heap.size W u tn 1) (hu2 : IsQ W.heap.size W u2 p qn) => timesQ W.heap.size 1 qn tn p u u2 W (Nat.le_refl _) sT (by rw [hpn]; exact sP) (by rw [hpn]; exact sTP) hu hu2)
            have HPL := Lib.hid (fun (W : World) (u u2 : Value) (hu : IsQ W.heap.size W u hx 1) (hu2 : IsQ W.heap.size W u2 (tn * p) (1 * qn)) => plusQ W.heap.size 1 (1 * qn) hx (tn * p) u u2 W (Nat.le_refl _) sX (by rw [hpn]; exact sTP) (by rw [hpn]; exact sS) hu hu2)
            have HRO := Lib.hid (fun (W : World) (u : Value) (hu : IsQ W.heap.size W u (hx * ((1 * qn : Nat) : Int) + tn * p * ((1 : Nat) : Int)) (1 * (1 * qn))) => roundQ W.heap.size (1 * (1 * qn)) _ u W (Nat.le_refl _) (by rw [hpn]; exact sS) (by rw [hpn]; exact sR) (by have := HQN.out; omega) (by rw [hpn]; exact hrb) hu)
            rw [← hpn] at HEE
            rw [HEE.out] at HRO
            have HMO := Lib.hid (rmod_any (rnd (hx * q + tn * p) q))
            have HMS2 := Lib.hid (rMix_any S1 S2 p q)
            rw [show mixR S1 S2 p q = mixV S1 S2 p q from if_pos HMS.out, show mixE S1 S2 p q = 0 from if_pos HMS.out] at HMS2
            have HMV2 := Lib.hid (rMix_any V1 V2 p q)
            rw [show mixR V1 V2 p q = mixV V1 V2 p q from if_pos HMV.out, show mixE V1 V2 p q = 0 from if_pos HMV.out] at HMV2
            have HF := Lib.hid (fun W => rfrom_any (rnd (hx * q + tn * p) q % 393210) (mixV S1 S2 p q) (mixV V1 V2 p q) W ⟨Int.emod_nonneg _ (by decide), by have := Int.emod_lt_of_pos (rnd (hx * q + tn * p) q) (show (0 : Int) < 393210 by decide); omega⟩ (mixV_lv HMS.out) (mixV_lv HMV.out))
            have K22 := Lib.hid (show ∀ W, Below wC.heap.size wC W → (W.cell? ⟨g, 0, none⟩ = some (.int .i64 hx) ∧ W.cell? ⟨g, 1, none⟩ = some (.int .i64 S1) ∧ W.cell? ⟨g, 2, none⟩ = some (.int .i64 V1) ∧ W.cell? ⟨h, 0, none⟩ = some (.int .i64 hy) ∧ W.cell? ⟨h, 1, none⟩ = some (.int .i64 S2) ∧ W.cell? ⟨h, 2, none⟩ = some (.int .i64 V2)) from fun W hb => by
              have b1 := HBG2.out.below hb hgC
              have b2 := HBH2.out.below hb hhC
              exact ⟨b1.c0, b1.c1, b1.c2, b2.c0, b2.c1, b2.c2⟩)
            generalize hHue : rnd (hx * q + tn * p) q % 393210 = hue at *
            generalize hRn : rnd (hx * q + tn * p) q = rn at *
            generalize hSat : mixV S1 S2 p q = sat at *
            generalize hVal : mixV V1 V2 p q = val at *
            clear hHue hRn hSat hVal sX sT sP sTP sS sR hrb hqn hpn
            generalize hFT : frT hue sat val = ft at *
            clear hFT
            obtain ⟨c0, c1, c2⟩ := ft
            have HV := HV1
            clear HV1 HV0 HHX HHY HB1 HCS HD HTB HUC HTN HBG HBH HSB HH1 HH2 HMS HMV HOK HEE HQN HXB HB22
            clear y0 y1 y2 y3 y4 y5 x0 x1 x2 x3 x4 x5
            go_upto_region 22 with fail
            go_cut [21] (fun s21 wx => s21 = .int .i64 rn ∧ Below wC.heap.size wC wx)
            case first =>
              have hw0 : Below wC.heap.size wC (World.drew wC) := (Below.refl _ _).drew
              go_region_held3 (fun W => W.cell? ⟨g, 0, none⟩ = some (.int .i64 hx) ∧ W.cell? ⟨g, 1, none⟩ = some (.int .i64 S1) ∧ W.cell? ⟨g, 2, none⟩ = some (.int .i64 V1) ∧ W.cell? ⟨h, 0, none⟩ = some (.int .i64 hy) ∧ W.cell? ⟨h, 1, none⟩ = some (.int .i64 S2) ∧ W.cell? ⟨h, 2, none⟩ = some (.int .i64 V2))
                (exact K22.out _ (by (repeat' first | (with_reducible assumption) | (with_reducible refine bl_alloc (by first | omega | (simp <;> omega)) ?_) | (with_reducible refine bl_set3 (by first | omega | (simp <;> omega)) ?_) | (with_reducible exact (Below.refl _ _).drew) | (with_reducible refine Below.drew ?_) | (with_reducible exact Below.refl _ _))))
                (first
                  | (go_at_call 63; ((with_reducible refine (HWX.out _).mono ?_); rintro e WA ⟨va, rfl, hqa, _, hba⟩; have hwa : Below wC.heap.size wC WA := bl_below (by first | omega | (simp <;> omega)) hba (by (repeat' first | (with_reducible assumption) | (with_reducible refine bl_alloc (by first | omega | (simp <;> omega)) ?_) | (with_reducible refine bl_set3 (by first | omega | (simp <;> omega)) ?_) | (with_reducible exact (Below.refl _ _).drew) | (with_reducible refine Below.drew ?_) | (with_reducible exact Below.refl _ _))); have hsa := hba.size; (try (simp at hsa)); have HQA := Lib.hid hqa; obtain ⟨sa, aoa, La, capa, boa, Ma, capma, rfl⟩ := isQ_shape hqa; clear hqa hba))
                  | (go_at_call 63; ((with_reducible refine (HWT.out _).mono ?_); rintro e WB ⟨vb, rfl, hqb, _, hbb⟩; have hwb : Below wC.heap.size wC WB := bl_below (by first | omega | (simp <;> omega)) hbb (by (repeat' first | (with_reducible assumption) | (with_reducible refine bl_alloc (by first | omega | (simp <;> omega)) ?_) | (with_reducible refine bl_set3 (by first | omega | (simp <;> omega)) ?_) | (with_reducible exact (Below.refl _ _).drew) | (with_reducible refine Below.drew ?_) | (with_reducible exact Below.refl _ _))); have hsb := hbb.size; (try (simp at hsb)); have HQA := Lib.hid (isQ_up HQA.out hbb); have HQB := Lib.hid hqb; obtain ⟨sb, aob, Lb, capb, bob, Mb, capmb, rfl⟩ := isQ_shape hqb; clear hqb hbb))
                  | (go_at_call 65; ((with_reducible refine (HTU.out _).mono ?_); rintro e w' ⟨rfl, rfl⟩))
                  | (go_at_call 67; ((with_reducible refine (HPA.out _).mono ?_); rintro e WP ⟨vp, rfl, hqp, _, hbp⟩; have hwp : Below wC.heap.size wC WP := bl_below (by first | omega | (simp <;> omega)) hbp (by (repeat' first | (with_reducible assumption) | (with_reducible refine bl_alloc (by first | omega | (simp <;> omega)) ?_) | (with_reducible refine bl_set3 (by first | omega | (simp <;> omega)) ?_) | (with_reducible exact (Below.refl _ _).drew) | (with_reducible refine Below.drew ?_) | (with_reducible exact Below.refl _ _))); have hsp := hbp.size; (try (simp at hsp)); have HQA := Lib.hid (isQ_up HQA.out hbp); have HQB := Lib.hid (isQ_up HQB.out hbp); have HQP := Lib.hid hqp; obtain ⟨sp, aop, Lp, capp, bop, Mp, capmp, rfl⟩ := isQ_shape hqp; clear hqp hbp))
                  | (go_at_call 66; ((with_reducible refine (HTI.out _ _ _ HQB.out HQP.out).mono ?_); rintro e WT ⟨vt, rfl, hqt, _, hbt⟩; have hwt : Below wC.heap.size wC WT := bl_below (by first | omega | (simp <;> omega)) hbt (by (repeat' first | (with_reducible assumption) | (with_reducible refine bl_alloc (by first | omega | (simp <;> omega)) ?_) | (with_reducible refine bl_set3 (by first | omega | (simp <;> omega)) ?_) | (with_reducible exact (Below.refl _ _).drew) | (with_reducible refine Below.drew ?_) | (with_reducible exact Below.refl _ _))); have hst := hbt.size; (try (simp at hst)); have HQA := Lib.hid (isQ_up HQA.out hbt); have HQT := Lib.hid hqt; obtain ⟨st, aot, Lt, capt, bot, Mt, capmt, rfl⟩ := isQ_shape hqt; clear hqt hbt))
                  | (go_at_call 64; ((with_reducible refine (HPL.out _ _ _ HQA.out HQT.out).mono ?_); rintro e WS ⟨vs, rfl, hqs, _, hbs⟩; have hws : Below wC.heap.size wC WS := bl_below (by first | omega | (simp <;> omega)) hbs (by (repeat' first | (with_reducible assumption) | (with_reducible refine bl_alloc (by first | omega | (simp <;> omega)) ?_) | (with_reducible refine bl_set3 (by first | omega | (simp <;> omega)) ?_) | (with_reducible exact (Below.refl _ _).drew) | (with_reducible refine Below.drew ?_) | (with_reducible exact Below.refl _ _))); have hss := hbs.size; (try (simp at hss)); have HQS := Lib.hid hqs; obtain ⟨ss, aos, Ls, caps, bos, Ms, capms, rfl⟩ := isQ_shape hqs; clear hqs hbs))
                  | (go_at_call 68; ((with_reducible refine (HRO.out _ _ HQS.out).mono ?_); rintro e WR ⟨rfl, hbr⟩; have hwr : Below wC.heap.size wC WR := bl_below (by first | omega | (simp <;> omega)) hbr (by (repeat' first | (with_reducible assumption) | (with_reducible refine bl_alloc (by first | omega | (simp <;> omega)) ?_) | (with_reducible refine bl_set3 (by first | omega | (simp <;> omega)) ?_) | (with_reducible exact (Below.refl _ _).drew) | (with_reducible refine Below.drew ?_) | (with_reducible exact Below.refl _ _))); clear hbr))
                  | fail)
              all_goals go_wp2_with fail
              all_goals go_meet
              all_goals exact ⟨rfl, by (repeat' first | (with_reducible assumption) | (with_reducible refine bl_alloc (by first | omega | (simp <;> omega)) ?_) | (with_reducible refine bl_set3 (by first | omega | (simp <;> omega)) ?_) | (with_reducible exact (Below.refl _ _).drew) | (with_reducible refine Below.drew ?_) | (with_reducible exact Below.refl _ _))⟩
            case rest =>
              obtain ⟨rfl, hbD⟩ := hcut
              obtain ⟨wD, rfl⟩ : ∃ x, x = wc := ⟨wc, rfl⟩
              have hSD := HSC.out.below hbD
              have HSD := Lib.hid hSD
              have b1 := HBG2.out.below hbD hgC
              have b2 := HBH2.out.below hbD hhC
              have HG3 := Lib.hid b1
              have HH3 := Lib.hid b2
              obtain ⟨y0, y1, y2, y3, y4, y5⟩ := b1
              obtain ⟨x0, x1, x2, x3, x4, x5⟩ := b2
              have hzD := hbD.size
              have hgD : g < wD.heap.size := by omega
              have hhD : h < wD.heap.size := by omega
              clear hbD hSD hzD
              go_wp2_with (first | (go_at_call 69; ((with_reducible refine (HMO.out _).mono ?_); rintro e w' ⟨rfl, rfl⟩)) | fail)
              refine (HMS2.out _).mono ?_
              rintro e wE ⟨rfl, hbE⟩
              obtain ⟨B3, l3⟩ := pre1 hbE
              have hSE := (HSD.out.below ((Below.refl _ _).alloc (Nat.le_refl _) _)).below hbE
              have HSE := Lib.hid hSE
              have b2 := bx_below hbE (by simp <;> omega) (bx_alloc hhD HH3.out)
              have b1 := bx_below hbE (by simp <;> omega) (bx_alloc hgD HG3.out)
              have hzE := hbE.size
              simp at hzE
              have hgE : g < wE.heap.size := by omega
              have hhE : h < wE.heap.size := by omega
              have HB3 := Lib.hid B3
              clear y0 y1 y2 y3 y4 y5 x0 x1 x2 x3 x4 x5
              obtain ⟨_, y1, y2, y3, y4, y5⟩ := b1
              obtain ⟨_, x1, x2, x3, x4, x5⟩ := b2
              obtain ⟨z0, z1, z2, z3, z4, z5⟩ := B3
              have hgk : g ≠ wD.heap.size := by omega
              have hhk : h ≠ wD.heap.size := by omega
              clear hbE hSE hzE
              go_wp2_with fail
              refine (HMV2.out _).mono ?_
              rintro e wF ⟨rfl, hbF⟩
              have hzF := hbF.size
              simp at hzF
              have hkF : wD.heap.size < wF.heap.size := by omega
              have k0 : wF.cell? ⟨wD.heap.size, 0, none⟩ = some (.int .i64 hue) := (hbF.cell (p := ⟨wD.heap.size, 0, none⟩) (by simp <;> omega)).trans (by simp [go_sem, z0])
              have k1 : wF.cell? ⟨wD.heap.size, 1, none⟩ = some (.int .i64 sat) := (hbF.cell (p := ⟨wD.heap.size, 1, none⟩) (by simp <;> omega)).trans (by simp [go_sem, z1])
              have k2 : wF.cell? ⟨wD.heap.size, 2, none⟩ = some (.int .i64 0) := (hbF.cell (p := ⟨wD.heap.size, 2, none⟩) (by simp <;> omega)).trans (by simp [go_sem, z2])
              have k5 : wF.frozen? ⟨wD.heap.size, 2, none⟩ = false := (hbF.frozen (p := ⟨wD.heap.size, 2, none⟩) (by simp <;> omega)).trans (by simp [go_sem, z5])
              have HSF := Lib.hid ((HSE.out.set (g := wD.heap.size) (i := 1) (u := .int .i64 sat) (by have := HSD.out.sz; omega)).below hbF)
              clear y1 y2 y3 y4 y5 x1 x2 x3 x4 x5 z0 z1 z2 z3 z4 z5 hbF hzF
              go_wp2_with fail
              refine (HF.out _).mono ?_
              rintro e w5 ⟨rfl, hb5⟩
              have HSG := (HSF.out.set (g := wD.heap.size) (i := 2) (u := .int .i64 val) (by have := HSD.out.sz; omega)).below hb5
              obtain ⟨bE, hzE, _, _, _, _, _, _, t0, t1, t2, t3, t4, t5⟩ := HSG
              have BE := Lib.hid bE
              clear hb5 bE hzE k0 k1 k2 k5
              go_wp2
              refine bodyPost_ret (v := .tuple #[.agg #[.int .i64 c0, .int .i64 c1, .int .i64 c2], .int .i64 0]) (by simp [results, Try.results28, go_sem, *]) rfl ⟨by rw [HV.out], below_set3 BE.out (by omega)⟩
end Go.Proofs.Yteelomjknllcbaa
