/- The walk of cycloramalaw7.EffectsKeepTheirPast: for any running effect and numbers it returns true. (printed by wip/gen/gen_keepwalk.py) -/
import Derived.Test.YtopmdeefcjdadaaRunLaw
namespace Go.Proofs.Ytopmdeefcjdadaa.effectsKeepTheirPast
open Go.RowKit
set_option linter.unusedVariables false
set_option linter.unusedSimpArgs false

set_option maxRecDepth 100000 in
set_option maxHeartbeats 8000000 in
theorem walk (a0 : Value) (t p u : Int) (w : World) (w0 : RunV w a0) (w1 : (Lit.int .i64 t).wf = true) (w2 : (Lit.int .i64 p).wf = true) (w3 : (Lit.int .i64 u).wf = true) :
    Calls Try.prog 3 #[a0, .int .i64 t, .int .i64 p, .int .i64 u] w fun e w' => e = .returned (.bool true) ∧ Below w.heap.size w w' := by
  obtain ⟨x, sv, kv, rv, rfl, hx, hf⟩ := w0
  obtain ⟨⟨form, low, high, cycle, width, spread, back, rel, ls⟩, lk, start, lr, tin, tend, tout⟩ := x
  have CF := Lib.hid (fun W (hb : Below w.heap.size w W) => faster_any ⟨⟨form, low, high, cycle, width, spread, back, rel, ls⟩, lk, start, lr, tin, tend, tout⟩ t p sv kv rv W ((hx.below hb).more hb.size) hf)
  have CX := Lib.hid (fun n W (hb : Below w.heap.size w W) => clockTop_any ⟨⟨form, low, high, cycle, width, spread, back, rel, ls⟩, lk, start, lr, tin, tend, tout⟩ sv kv rv n W ((hx.below hb).more hb.size) hf)
  obtain ⟨⟨sa, scap, rfl⟩, ⟨ka, kcap, rfl⟩, ⟨ra, rcap, rfl⟩⟩ := runAt_shape hx
  have HF := Lib.hid hf
  have HE0 := Lib.hid (show fastE ⟨⟨form, low, high, cycle, width, spread, back, rel, ls⟩, lk, start, lr, tin, tend, tout⟩ t p = 0 → clockF ⟨⟨form, low, high, cycle, width, spread, back, rel, ls⟩, lk, start, lr, tin, tend, tout⟩ t = 0 ∧ clockR ⟨⟨form, low, high, cycle, width, spread, back, rel, ls⟩, lk, start, lr, tin, tend, tout⟩ t = clkV start lr t ∧ chkRun ⟨⟨form, low, high, cycle, width, spread, back, rel, ls⟩, lk, start, lr, tin, tend, tout⟩ = 0 ∧ chkRun (fastR ⟨⟨form, low, high, cycle, width, spread, back, rel, ls⟩, lk, start, lr, tin, tend, tout⟩ t p) = 0 ∧ RunFit (fastR ⟨⟨form, low, high, cycle, width, spread, back, rel, ls⟩, lk, start, lr, tin, tend, tout⟩ t p) ∧ fastR ⟨⟨form, low, high, cycle, width, spread, back, rel, ls⟩, lk, start, lr, tin, tend, tout⟩ t p = ⟨⟨form, low, high, cycle, width, spread, back, rel, ls⟩, lk, start, fasterR lr t p, tin, tend, tout⟩ ∧ RatesOk start lr ∧ start ≤ t ∧ 0 ≤ start ∧ (0 ≤ t ∧ t ≤ 36000000) ∧ 0 ≤ p ∧ p ≤ 1000 from fun h => by
    obtain ⟨h1, h2, h3, h4, h5, h6⟩ := fastE_zero h
    obtain ⟨_, _, _, _, k5, _, _, _, k9⟩ := chkRun_zero h1
    have hc : clockF ⟨⟨form, low, high, cycle, width, spread, back, rel, ls⟩, lk, start, lr, tin, tend, tout⟩ t = 0 := by
      unfold clockF
      rw [h1, show inR t 0 36000000 = true from (inR_iff _ _ _).2 h2]
      rfl
    exact ⟨hc, if_pos hc, h1, chk_fastR h, fit_fastR h hf, h6, k9, h4, ((inR_iff _ _ _).1 k5).1, h2, h3⟩)
  have HE1 := Lib.hid (show fastE ⟨⟨form, low, high, cycle, width, spread, back, rel, ls⟩, lk, start, lr, tin, tend, tout⟩ t p ≠ 0 → fastR ⟨⟨form, low, high, cycle, width, spread, back, rel, ls⟩, lk, start, lr, tin, tend, tout⟩ t p = zRun from fastR_bad)
  have HCF := Lib.hid (fun n => show clockF ⟨⟨form, low, high, cycle, width, spread, back, rel, ls⟩, lk, start, lr, tin, tend, tout⟩ n = fi2 (chkRun ⟨⟨form, low, high, cycle, width, spread, back, rel, ls⟩, lk, start, lr, tin, tend, tout⟩) (whenW (!inR n 0 36000000) 1) from rfl)
  have HCR := Lib.hid (fun n => show clockR ⟨⟨form, low, high, cycle, width, spread, back, rel, ls⟩, lk, start, lr, tin, tend, tout⟩ n = if clockF ⟨⟨form, low, high, cycle, width, spread, back, rel, ls⟩, lk, start, lr, tin, tend, tout⟩ n = 0 then clkV start lr n else 0 from rfl)
  generalize fastE ⟨⟨form, low, high, cycle, width, spread, back, rel, ls⟩, lk, start, lr, tin, tend, tout⟩ t p = E at *
  generalize fastR ⟨⟨form, low, high, cycle, width, spread, back, rel, ls⟩, lk, start, lr, tin, tend, tout⟩ t p = y at *
  generalize clockF ⟨⟨form, low, high, cycle, width, spread, back, rel, ls⟩, lk, start, lr, tin, tend, tout⟩ = cF at *
  generalize clockR ⟨⟨form, low, high, cycle, width, spread, back, rel, ls⟩, lk, start, lr, tin, tend, tout⟩ = cR at *
  generalize chkRun ⟨⟨form, low, high, cycle, width, spread, back, rel, ls⟩, lk, start, lr, tin, tend, tout⟩ = ce at *
  clear hx hf w1 w2 w3
  simp only [runV] at *
  have KC := Lib.hid (run_below w (.int .i64 form) (.int .i64 low) (.int .i64 high) (.int .i64 cycle) (.int .i64 width) (.int .i64 spread) (.bool back) (.bool rel) (.slice sa ls.length scap) (.slice ka lk.length kcap) (.int .i64 start) (.slice ra lr.length rcap) (.int .i64 tin) (.int .i64 tend) (.int .i64 tout) 28)
  have KR : Below (w.heap.size + 1) (w.alloc (.cells #[.int .i64 form, .int .i64 low, .int .i64 high, .int .i64 cycle, .int .i64 width, .int .i64 spread, .bool back, .bool rel, .slice sa ls.length scap, .slice ka lk.length kcap, .int .i64 start, .slice ra lr.length rcap, .int .i64 tin, .int .i64 tend, .int .i64 tout] 28)) (w.alloc (.cells #[.int .i64 form, .int .i64 low, .int .i64 high, .int .i64 cycle, .int .i64 width, .int .i64 spread, .bool back, .bool rel, .slice sa ls.length scap, .slice ka lk.length kcap, .int .i64 start, .slice ra lr.length rcap, .int .i64 tin, .int .i64 tend, .int .i64 tout] 28)) := Below.refl _ _
  go_enter Try.func3, Try.ntmps3
  go_wp2_with fail
  refine (CF.out _ (KC.out _ KR).1).mono ?_
  rintro e wF ⟨yv1, yv2, yv3, rfl, hy, hbF⟩
  have HWF := Lib.hid (up_below KR (by simp) hbF)
  clear hbF KR
  obtain ⟨⟨b1, d1, rfl⟩, ⟨b2, d2, rfl⟩, ⟨b3, d3, rfl⟩⟩ := runAt_shape hy
  have HY := Lib.hid hy
  clear hy
  obtain ⟨⟨yf, yl, yh, yc, yw, ys, yb, yr, yls⟩, ylk, yst, ylr, yi, ye, yo⟩ := y
  simp only [runV] at *
  have HWY := Lib.hid (up_alloc HWF.out (by simp) (.cells #[.int .i64 yf, .int .i64 yl, .int .i64 yh, .int .i64 yc, .int .i64 yw, .int .i64 ys, .bool yb, .bool yr, .slice b1 yls.length d1, .slice b2 ylk.length d2, .int .i64 yst, .slice b3 ylr.length d3, .int .i64 yi, .int .i64 ye, .int .i64 yo] 28))
  have KY := Lib.hid (run_below wF (.int .i64 yf) (.int .i64 yl) (.int .i64 yh) (.int .i64 yc) (.int .i64 yw) (.int .i64 ys) (.bool yb) (.bool yr) (.slice b1 yls.length d1) (.slice b2 ylk.length d2) (.int .i64 yst) (.slice b3 ylr.length d3) (.int .i64 yi) (.int .i64 ye) (.int .i64 yo) 28)
  by_cases hE : E = 0
  rotate_left
  · have HL : Hid (ylk.length = 0) := Lib.hid (by have h := HE1.out hE; injection h with _ h2; rw [h2]; rfl)
    have hEb : (E != 0) = true := by simpa using hE
    have hlz : ((ylk.length : Int) == 0) = true := by rw [HL.out]; rfl
    have HB := Lib.hid (KC.out _ HWY.out).1
    obtain ⟨_, hzy, s0, s1, s2, s3, s4, s5, s6, s7, s8, s9, s10, s11, s12, s13, s14⟩ := KY.out _ (Below.refl _ _)
    clear HE0 HE1 HCF HCR CF CX
    go_wp2_with fail
    go_ret
    exact ⟨rfl, HB.out⟩
  · obtain ⟨g1, g2, g3, g4, g5, g6, g7, g8, g9, g10, g11⟩ := HE0.out hE
    have CY := Lib.hid (fun n W (hb : Below wF.heap.size wF W) => clockTop_any ⟨⟨yf, yl, yh, yc, yw, ys, yb, yr, yls⟩, ylk, yst, ylr, yi, ye, yo⟩ _ _ _ n W ((HY.out.below hb).more hb.size) g5)
    have HYF := Lib.hid (show ∀ n, clockF ⟨⟨yf, yl, yh, yc, yw, ys, yb, yr, yls⟩, ylk, yst, ylr, yi, ye, yo⟩ n = cF n from fun n => by rw [HCF.out n, g3]; unfold clockF; rw [g4])
    have HYR := Lib.hid (show ∀ n, clockR ⟨⟨yf, yl, yh, yc, yw, ys, yb, yr, yls⟩, ylk, yst, ylr, yi, ye, yo⟩ n = if cF n = 0 then clkV start (fasterR lr t p) n else 0 from fun n => by
      have e : clockR ⟨⟨yf, yl, yh, yc, yw, ys, yb, yr, yls⟩, ylk, yst, ylr, yi, ye, yo⟩ n = if clockF ⟨⟨yf, yl, yh, yc, yw, ys, yb, yr, yls⟩, ylk, yst, ylr, yi, ye, yo⟩ n = 0 then clkV yst ylr n else 0 := rfl
      rw [e, HYF.out n]
      injection g6 with _ _ e3 e4
      rw [e3, e4])
    generalize clockF ⟨⟨yf, yl, yh, yc, yw, ys, yb, yr, yls⟩, ylk, yst, ylr, yi, ye, yo⟩ = yF at *
    generalize clockR ⟨⟨yf, yl, yh, yc, yw, ys, yb, yr, yls⟩, ylk, yst, ylr, yi, ye, yo⟩ = yR at *
    have HU : Hid (cF u = 0 ∨ cF u = 1) := Lib.hid (by
      rw [HCF.out u, g3]
      cases inR u 0 36000000
      · right; rfl
      · left; rfl)
    have HU0 := Lib.hid (show cF u = 0 → u ≤ 36000000 from fun h => by
      rw [HCF.out u, g3] at h
      have := whenW_zero (fi2_zero h).2
      exact ((inR_iff _ _ _).1 (by simpa using this)).2)
    have HBD := Lib.hid (fun n (hn : n ≤ 36000000) => clkV_bd g7 g9 hn)
    have HLE := Lib.hid (fun n (hn : n ≤ t) => clkV_le start t n p lr g7 hn)
    have HGT := Lib.hid (fun n (hn : t < n) => clkV_gt start t n p lr g7 hn g8)
    have HT1 := Lib.hid g1
    have HT2 := Lib.hid g2
    clear g1 g2 g3 g4 g5 g6 g7 HE0 HE1 HCF
    subst hE
    obtain ⟨hB, hz, q0, q1, q2, q3, q4, q5, q6, q7, q8, q9, q10, q11, q12, q13, q14⟩ := KC.out _ HWY.out
    have HB := Lib.hid hB
    clear hB
    go_wp2_with fail
    refine (CX.out u _ HB.out).mono ?_
    rintro e wA ⟨rfl, hbA⟩
    have hs1 : w.heap.size + 1 ≤ (wF.alloc (.cells #[.int .i64 yf, .int .i64 yl, .int .i64 yh, .int .i64 yc, .int .i64 yw, .int .i64 ys, .bool yb, .bool yr, .slice b1 yls.length d1, .slice b2 ylk.length d2, .int .i64 yst, .slice b3 ylr.length d3, .int .i64 yi, .int .i64 ye, .int .i64 yo] 28)).heap.size := by have := (KC.out _ HWY.out).2.1; omega
    have HWA := Lib.hid (HWY.out.trans (hbA.mono hs1))
    have HYA := Lib.hid (show Below (wF.heap.size + 1) (wF.alloc (.cells #[.int .i64 yf, .int .i64 yl, .int .i64 yh, .int .i64 yc, .int .i64 yw, .int .i64 ys, .bool yb, .bool yr, .slice b1 yls.length d1, .slice b2 ylk.length d2, .int .i64 yst, .slice b3 ylr.length d3, .int .i64 yi, .int .i64 ye, .int .i64 yo] 28)) wA from hbA.mono (by simp))
    have hsA := hbA.size
    clear hbA q0 q1 q2 q3 q4 q5 q6 q7 q8 q9 q10 q11 q12 q13 q14 hz
    obtain ⟨hBA, hzA, s0, s1, s2, s3, s4, s5, s6, s7, s8, s9, s10, s11, s12, s13, s14⟩ := KY.out _ HYA.out
    have HBA := Lib.hid hBA
    clear hBA
    go_wp2_with fail
    refine (CY.out u _ HBA.out).mono ?_
    rintro e wB ⟨rfl, hbB⟩
    have hs2 : w.heap.size + 1 ≤ wA.heap.size := by have := (KC.out _ HWA.out).2.1; omega
    have HWB := Lib.hid (HWA.out.trans (hbB.mono hs2))
    clear hbB s0 s1 s2 s3 s4 s5 s6 s7 s8 s9 s10 s11 s12 s13 s14 hzA
    obtain ⟨hBB, hzB, q0, q1, q2, q3, q4, q5, q6, q7, q8, q9, q10, q11, q12, q13, q14⟩ := KC.out _ HWB.out
    have HBB := Lib.hid hBB
    clear hBB
    go_wp2_with fail
    refine (CX.out t _ HBB.out).mono ?_
    rintro e wC ⟨rfl, hbC⟩
    have HBC := Lib.hid (HBB.out.trans (hbC.mono HBB.out.size))
    clear hbC q0 q1 q2 q3 q4 q5 q6 q7 q8 q9 q10 q11 q12 q13 q14 hzB
    rw [HT1.out, HT2.out, HYF.out u, HYR.out u, HCR.out u]
    rcases HU.out with hu | hu
    · rw [hu]
      simp only [if_true]
      have hu1 := HU0.out hu
      have hbt := HBD.out t g10.2
      by_cases hle : u ≤ t
      · rw [HLE.out u hle]
        generalize clkV start lr u = V at *
        go_wp2_with fail
        go_ret
        exact ⟨by simp, HBC.out⟩
      · rw [HGT.out u (by omega)]
        have hm := mul_bd (a := u - t) (p := p) (by omega) (by omega) g11.1 g11.2
        generalize clkV start lr u = V at *
        generalize clkV start lr t = VT at *
        go_wp2_with fail
        go_ret
        exact ⟨by simp, HBC.out⟩
    · rw [hu]
      go_wp2_with fail
      go_ret
      exact ⟨rfl, HBC.out⟩
end Go.Proofs.Ytopmdeefcjdadaa.effectsKeepTheirPast
