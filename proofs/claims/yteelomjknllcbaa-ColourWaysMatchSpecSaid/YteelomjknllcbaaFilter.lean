/- Filter of both sides. (printed by wip/gen/gen_filter.py) -/
import Derived.Test.YteelomjknllcbaaRBtw
namespace Go.Proofs.Yteelomjknllcbaa
open Go.RowKit
set_option linter.unusedVariables false
set_option linter.unusedSimpArgs false

def fltC (r1 g1 b1 r2 g2 b2 : Int) : Int × Int × Int := if firstE (chkC r1 g1 b1) (chkC r2 g2 b2) = 0 then (rnd (r1 * r2) 65535, rnd (g1 * g2) 65535, rnd (b1 * b2) 65535) else (0, 0, 0)
theorem flt_lv {r1 g1 b1 r2 g2 b2 : Int} (h : firstE (chkC r1 g1 b1) (chkC r2 g2 b2) = 0) : (LvOkC r1 ∧ LvOkC g1 ∧ LvOkC b1) ∧ (LvOkC r2 ∧ LvOkC g2 ∧ LvOkC b2) := by
  unfold firstE at h
  by_cases c : LvOkC r1 ∧ LvOkC g1 ∧ LvOkC b1
  · rw [chk_yes c, if_pos rfl] at h
    refine ⟨c, ?_⟩
    by_cases d : LvOkC r2 ∧ LvOkC g2 ∧ LvOkC b2
    · exact d
    · rw [chk_no d] at h; omega
  · rw [chk_no c, if_neg (by decide)] at h; omega
theorem rbS_more (w : World) (r1 g1 b1 r2 g2 b2 : Int) : RbS w r1 g1 b1 r2 g2 b2 (((((((w.alloc (.cells #[.int .i64 r1, .int .i64 g1, .int .i64 b1] 23)).alloc (.cells #[.int .i64 r2, .int .i64 g2, .int .i64 b2] 23)).alloc (.cells #[.int .i64 0, .int .i64 0, .int .i64 0] 23)).alloc (.cells #[.int .i64 r1, .int .i64 g1, .int .i64 b1] 23)).alloc (.cells #[.int .i64 r2, .int .i64 g2, .int .i64 b2] 23)).alloc (.cells #[.int .i64 (chkC r1 g1 b1), .int .i64 (chkC r2 g2 b2)] 26)).drew) :=
  (rbS_of w r1 g1 b1 r2 g2 b2).below (by repeat' first | exact Below.refl _ _ | apply Below.drew | refine Below.alloc ?_ (by simp <;> omega) _)

set_option maxRecDepth 100000 in
set_option maxHeartbeats 4000000 in
theorem filter_any (r1 g1 b1 r2 g2 b2 : Int) (w : World) :
    Calls Try.prog 26 #[.agg #[.int .i64 r1, .int .i64 g1, .int .i64 b1], .agg #[.int .i64 r2, .int .i64 g2, .int .i64 b2]] w fun e w' => e = .returned (.tuple #[.agg #[.int .i64 (fltC r1 g1 b1 r2 g2 b2).1, .int .i64 (fltC r1 g1 b1 r2 g2 b2).2.1, .int .i64 (fltC r1 g1 b1 r2 g2 b2).2.2], .int .i64 (firstE (chkC r1 g1 b1) (chkC r2 g2 b2))]) ∧ Below w.heap.size w w' := by
  have HL := Lib.hid (fun h => flt_lv (r1 := r1) (g1 := g1) (b1 := b1) (r2 := r2) (g2 := g2) (b2 := b2) h)
  generalize hC : fltC r1 g1 b1 r2 g2 b2 = C
  have HC := Lib.hid (show C = if firstE (chkC r1 g1 b1) (chkC r2 g2 b2) = 0 then (rnd (r1 * r2) 65535, rnd (g1 * g2) 65535, rnd (b1 * b2) 65535) else (0, 0, 0) from hC.symm)
  have HE := Lib.hid (show firstE (chkC r1 g1 b1) (chkC r2 g2 b2) = (if chkC r1 g1 b1 = 0 then chkC r2 g2 b2 else chkC r1 g1 b1) from rfl)
  clear hC
  generalize firstE (chkC r1 g1 b1) (chkC r2 g2 b2) = E at *
  go_enter Try.func26, Try.ntmps26
  go_upto_region 1 with fail
  go_cut [6] (fun s6 wx => s6 = .int .i64 E ∧ RbS w r1 g1 b1 r2 g2 b2 wx)
  case first =>
    go_region_held3 (fun w' => w'.cell? ⟨w.heap.size, 0, none⟩ = some (.int .i64 r1) ∧ w'.cell? ⟨w.heap.size, 1, none⟩ = some (.int .i64 g1) ∧ w'.cell? ⟨w.heap.size, 2, none⟩ = some (.int .i64 b1) ∧ w'.cell? ⟨w.heap.size + 1, 0, none⟩ = some (.int .i64 r2) ∧ w'.cell? ⟨w.heap.size + 1, 1, none⟩ = some (.int .i64 g2) ∧ w'.cell? ⟨w.heap.size + 1, 2, none⟩ = some (.int .i64 b2))
      (simp [go_sem, World.cell?_alloc_past])
      (first
        | (go_at_call 15; ((with_reducible refine (check_any r1 g1 b1 _).mono ?_); rintro e w1 ⟨rfl, rfl⟩))
        | (go_at_call 15; ((with_reducible refine (check_any r2 g2 b2 _).mono ?_); rintro e w1 ⟨rfl, rfl⟩))
        | (go_at_call 44; refine (first2c _ (chkC r1 g1 b1) (chkC r2 g2 b2) _ (by simp [go_sem]) (by simp [go_sem])).mono ?_; rw [← HE.out]; rintro e w' ⟨rfl, rfl⟩)
        | fail)
    all_goals go_wp2_with fail
    all_goals go_meet
    all_goals exact ⟨rfl, rbS_more _ _ _ _ _ _ _⟩
  case rest =>
    obtain ⟨rfl, hS⟩ := hcut
    obtain ⟨wA, rfl⟩ : ∃ x, x = wc := ⟨wc, rfl⟩
    have HS := Lib.hid hS
    obtain ⟨bA, hz, a0, a1, a2, d0, d1, d2, t0, t1, t2, t3, t4, t5⟩ := hS
    have z0 : w.heap.size < wA.heap.size := by omega
    have z1 : w.heap.size + 1 < wA.heap.size := by omega
    have z2 : w.heap.size + 1 + 1 < wA.heap.size := by omega
    have BA := Lib.hid bA
    clear bA hz
    by_cases hE : E = 0
    · obtain ⟨⟨lr1, lg1, lb1⟩, ⟨lr2, lg2, lb2⟩⟩ := HL.out hE
      have HV := Lib.hid (show C = (rnd (r1 * r2) 65535, rnd (g1 * g2) 65535, rnd (b1 * b2) 65535) by rw [HC.out, if_pos hE])
      have C1 := Lib.hid (fun W => cf_filter r1 r2 W lr1 lr2)
      have C2 := Lib.hid (fun W => cf_filter g1 g2 W lg1 lg2)
      have C3 := Lib.hid (fun W => cf_filter b1 b2 W lb1 lb2)
      generalize rnd (r1 * r2) 65535 = x at *
      generalize rnd (g1 * g2) 65535 = y at *
      generalize rnd (b1 * b2) 65535 = z at *
      subst hE
      clear HL HC HE lr1 lg1 lb1 lr2 lg2 lb2
      go_wp2_with fail
      refine (each_filter r1 g1 b1 r2 g2 b2 _ _ _ wA (fun W _ => C1.out W) (fun W _ => C2.out W) (fun W _ => C3.out W)).mono ?_
      rintro e w5 ⟨rfl, hb5⟩
      have HSE := HS.out.below hb5
      obtain ⟨bE, hzE, _, _, _, _, _, _, x0, x1, x2, x3, x4, x5⟩ := HSE
      have BE := Lib.hid bE
      clear hb5 bE hzE
      go_wp2
      refine bodyPost_ret (v := .tuple #[.agg #[.int .i64 x, .int .i64 y, .int .i64 z], .int .i64 0]) (by simp [results, Try.results26, go_sem, *]) rfl ⟨by rw [HV.out], below_set3 BE.out (by omega)⟩
    · have HV := Lib.hid (show C = (0, 0, 0) by rw [HC.out, if_neg hE])
      have hb : (E != 0) = true := by simp [hE]
      have hb2 : decide (E ≠ 0) = true := by simp [hE]
      clear HL HC HE hE
      go_wp2
      refine bodyPost_ret (v := .tuple #[.agg #[.int .i64 0, .int .i64 0, .int .i64 0], .int .i64 E]) (by simp [results, Try.results26, go_sem, *]) rfl ⟨by rw [HV.out], below_set3 BA.out (by omega)⟩

set_option maxRecDepth 100000 in
set_option maxHeartbeats 4000000 in
theorem rfilter_any (r1 g1 b1 r2 g2 b2 : Int) (w : World) :
    Calls Try.prog 27 #[.agg #[.int .i64 r1, .int .i64 g1, .int .i64 b1], .agg #[.int .i64 r2, .int .i64 g2, .int .i64 b2]] w fun e w' => e = .returned (.tuple #[.agg #[.int .i64 (fltC r1 g1 b1 r2 g2 b2).1, .int .i64 (fltC r1 g1 b1 r2 g2 b2).2.1, .int .i64 (fltC r1 g1 b1 r2 g2 b2).2.2], .int .i64 (firstE (chkC r1 g1 b1) (chkC r2 g2 b2))]) ∧ Below w.heap.size w w' := by
  have HL := Lib.hid (fun h => flt_lv (r1 := r1) (g1 := g1) (b1 := b1) (r2 := r2) (g2 := g2) (b2 := b2) h)
  have RB := Lib.hid (rboth_any r1 g1 b1 r2 g2 b2)
  generalize hC : fltC r1 g1 b1 r2 g2 b2 = C
  have HC := Lib.hid (show C = if firstE (chkC r1 g1 b1) (chkC r2 g2 b2) = 0 then (rnd (r1 * r2) 65535, rnd (g1 * g2) 65535, rnd (b1 * b2) 65535) else (0, 0, 0) from hC.symm)
  clear hC
  generalize firstE (chkC r1 g1 b1) (chkC r2 g2 b2) = E at *
  go_enter Try.func27, Try.ntmps27
  go_wp2_with fail
  refine (RB.out _).mono ?_
  rintro e wA ⟨rfl, hbA⟩
  have hS := (rbS_of w r1 g1 b1 r2 g2 b2).below hbA
  clear hbA
  have HS := Lib.hid hS
  obtain ⟨bA, hz, a0, a1, a2, d0, d1, d2, t0, t1, t2, t3, t4, t5⟩ := hS
  have z0 : w.heap.size < wA.heap.size := by omega
  have z1 : w.heap.size + 1 < wA.heap.size := by omega
  have z2 : w.heap.size + 1 + 1 < wA.heap.size := by omega
  have BA := Lib.hid bA
  clear bA hz
  by_cases hE : E = 0
  · obtain ⟨⟨lr1, lg1, lb1⟩, ⟨lr2, lg2, lb2⟩⟩ := HL.out hE
    have HV := Lib.hid (show C = (rnd (r1 * r2) 65535, rnd (g1 * g2) 65535, rnd (b1 * b2) 65535) by rw [HC.out, if_pos hE])
    have M1 := Lib.hid (rScale_any r1 r2)
    rw [show scaleV r1 r2 = rnd (r1 * r2) 65535 from if_pos ⟨lr1, lr2⟩, show scaleF r1 r2 = 0 from if_pos ⟨lr1, lr2⟩] at M1
    have M2 := Lib.hid (rScale_any g1 g2)
    rw [show scaleV g1 g2 = rnd (g1 * g2) 65535 from if_pos ⟨lg1, lg2⟩, show scaleF g1 g2 = 0 from if_pos ⟨lg1, lg2⟩] at M2
    have M3 := Lib.hid (rScale_any b1 b2)
    rw [show scaleV b1 b2 = rnd (b1 * b2) 65535 from if_pos ⟨lb1, lb2⟩, show scaleF b1 b2 = 0 from if_pos ⟨lb1, lb2⟩] at M3
    generalize rnd (r1 * r2) 65535 = x at *
    generalize rnd (g1 * g2) 65535 = y at *
    generalize rnd (b1 * b2) 65535 = z at *
    subst hE
    clear HL HC lr1 lg1 lb1 lr2 lg2 lb2 RB
    go_wp2_with fail
    refine (M1.out _).mono ?_
    rintro e wB ⟨rfl, hbB⟩
    have HSB := Lib.hid (HS.out.below hbB)
    clear hbB
    obtain ⟨_, sz, a0, a1, a2, d0, d1, d2, _, _, _, _, _, _⟩ := HSB.out
    have z0 : w.heap.size < wB.heap.size := by omega
    have z1 : w.heap.size + 1 < wB.heap.size := by omega
    go_wp2_with fail
    refine (M2.out _).mono ?_
    rintro e wC ⟨rfl, hbC⟩
    have HSC := Lib.hid (HSB.out.below hbC)
    clear hbC
    obtain ⟨_, sz, a0, a1, a2, d0, d1, d2, _, _, _, _, _, _⟩ := HSC.out
    have z0 : w.heap.size < wC.heap.size := by omega
    have z1 : w.heap.size + 1 < wC.heap.size := by omega
    go_wp2_with fail
    refine (M3.out _).mono ?_
    rintro e wD ⟨rfl, hbD⟩
    have HSD := Lib.hid (HSC.out.below hbD)
    clear hbD
    obtain ⟨bD, sz, a0, a1, a2, d0, d1, d2, t0, t1, t2, t3, t4, t5⟩ := HSD.out
    have z0 : w.heap.size < wD.heap.size := by omega
    have z1 : w.heap.size + 1 < wD.heap.size := by omega
    have z2 : w.heap.size + 1 + 1 < wD.heap.size := by omega
    have BD := Lib.hid bD
    clear bD
    go_wp2_with fail
    refine bodyPost_ret (v := .tuple #[.agg #[.int .i64 x, .int .i64 y, .int .i64 z], .int .i64 0]) (by simp [results, Try.results27, go_sem, *]) rfl ⟨by rw [HV.out], below_set3 BD.out (by omega)⟩
  · have HV := Lib.hid (show C = (0, 0, 0) by rw [HC.out, if_neg hE])
    have hb : (E != 0) = true := by simp [hE]
    have hb2 : decide (E ≠ 0) = true := by simp [hE]
    clear HL HC hE RB
    go_wp2
    refine bodyPost_ret (v := .tuple #[.agg #[.int .i64 0, .int .i64 0, .int .i64 0], .int .i64 E]) (by simp [results, Try.results27, go_sem, *]) rfl ⟨by rw [HV.out], below_set3 BA.out (by omega)⟩
end Go.Proofs.Yteelomjknllcbaa
