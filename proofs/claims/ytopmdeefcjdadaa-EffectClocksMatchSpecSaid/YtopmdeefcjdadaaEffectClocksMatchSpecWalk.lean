/- The walk of cycloramalaw7.EffectClocksMatchSpec: for any running effect and numbers it returns true. (printed by wip/gen/gen_samerun.py) -/
import Derived.Test.YtopmdeefcjdadaaFaster
import Derived.Test.YtopmdeefcjdadaaRFaster
import Derived.Test.YtopmdeefcjdadaaStop
import Derived.Test.YtopmdeefcjdadaaRClockTop
import Derived.Test.YtopmdeefcjdadaaSameRun
import Derived.Test.YtopmdeefcjdadaaBoxLaws
import Derived.Deep.DeepCutAuto
namespace Go.Proofs.Ytopmdeefcjdadaa.effectClocksMatchSpec
open Go.RowKit
set_option linter.unusedVariables false
set_option linter.unusedSimpArgs false

theorem new_below {B : Nat} {W W' : World} {x : Run} {sv kv rv : Value} (h : RunNew B W x sv kv rv) (hb : Below W.heap.size W W') : RunNew B W' x sv kv rv := ⟨own_below' h.1 hb, own_below' h.2.1 hb, own_below' h.2.2 hb⟩
theorem new_same {B : Nat} {W W' : World} {x : Run} {sv kv rv : Value} (h : RunNew B W x sv kv rv) (hb : ∀ g, B ≤ g → W'.heap[g]? = W.heap[g]?) : RunNew B W' x sv kv rv := ⟨own_same h.1 hb, own_same h.2.1 hb, own_same h.2.2 hb⟩
set_option maxRecDepth 100000 in
set_option maxHeartbeats 16000000 in
theorem walk (a0 : Value) (t p out : Int) (w : World) (w0 : RunV w a0) (w1 : (Lit.int .i64 t).wf = true) (w2 : (Lit.int .i64 p).wf = true) (w3 : (Lit.int .i64 out).wf = true) :
    Calls Try.prog 4 #[a0, .int .i64 t, .int .i64 p, .int .i64 out] w fun e w' => e = .returned (.bool true) ∧ Below w.heap.size w w' := by
  obtain ⟨x, sv, kv, rv, rfl, hx, hf⟩ := w0
  obtain ⟨⟨form, low, high, cycle, width, spread, back, rel, ls⟩, lk, start, lr, tin, tend, tout⟩ := x
  have C1 := Lib.hid (fun W (hb : Below w.heap.size w W) => clockTop_any ⟨⟨form, low, high, cycle, width, spread, back, rel, ls⟩, lk, start, lr, tin, tend, tout⟩ sv kv rv t W ((hx.below hb).more hb.size) hf)
  have C2 := Lib.hid (fun W (hb : Below w.heap.size w W) => rclockTop_any ⟨⟨form, low, high, cycle, width, spread, back, rel, ls⟩, lk, start, lr, tin, tend, tout⟩ sv kv rv t W ((hx.below hb).more hb.size) hf)
  have C3 := Lib.hid (fun W (hb : Below w.heap.size w W) => faster_any ⟨⟨form, low, high, cycle, width, spread, back, rel, ls⟩, lk, start, lr, tin, tend, tout⟩ t p sv kv rv W ((hx.below hb).more hb.size) hf)
  have C4 := Lib.hid (fun W (hb : Below w.heap.size w W) => rfaster_any ⟨⟨form, low, high, cycle, width, spread, back, rel, ls⟩, lk, start, lr, tin, tend, tout⟩ t p sv kv rv W ((hx.below hb).more hb.size) hf)
  have C5 := Lib.hid (fun W (hb : Below w.heap.size w W) => stop_any ⟨⟨form, low, high, cycle, width, spread, back, rel, ls⟩, lk, start, lr, tin, tend, tout⟩ t out sv kv rv W ((hx.below hb).more hb.size) hf)
  have C6 := Lib.hid (fun W (hb : Below w.heap.size w W) => rstop_any ⟨⟨form, low, high, cycle, width, spread, back, rel, ls⟩, lk, start, lr, tin, tend, tout⟩ t out sv kv rv W ((hx.below hb).more hb.size) hf)
  obtain ⟨⟨sa, scap, rfl⟩, ⟨ka, kcap, rfl⟩, ⟨ra, rcap, rfl⟩⟩ := runAt_shape hx
  generalize clockR ⟨⟨form, low, high, cycle, width, spread, back, rel, ls⟩, lk, start, lr, tin, tend, tout⟩ t = cR at *
  generalize clockF ⟨⟨form, low, high, cycle, width, spread, back, rel, ls⟩, lk, start, lr, tin, tend, tout⟩ t = cF at *
  generalize fastE ⟨⟨form, low, high, cycle, width, spread, back, rel, ls⟩, lk, start, lr, tin, tend, tout⟩ t p = E at *
  generalize fastR ⟨⟨form, low, high, cycle, width, spread, back, rel, ls⟩, lk, start, lr, tin, tend, tout⟩ t p = y at *
  generalize stopF ⟨⟨form, low, high, cycle, width, spread, back, rel, ls⟩, lk, start, lr, tin, tend, tout⟩ t out = E2 at *
  generalize stopR ⟨⟨form, low, high, cycle, width, spread, back, rel, ls⟩, lk, start, lr, tin, tend, tout⟩ t out = z at *
  obtain ⟨⟨yf, yl, yh, yc, yw, ys, yb, yr, yls⟩, ylk, yst, ylr, yi, ye, yo⟩ := y
  obtain ⟨⟨zf, zl, zh, zc, zw, zs, zb, zr, zls⟩, zlk, zst, zlr, zi, ze, zo⟩ := z
  clear hx hf w1 w2 w3
  simp only [runV] at *
  have KC := Lib.hid (run_below w (.int .i64 form) (.int .i64 low) (.int .i64 high) (.int .i64 cycle) (.int .i64 width) (.int .i64 spread) (.bool back) (.bool rel) (.slice sa ls.length scap) (.slice ka lk.length kcap) (.int .i64 start) (.slice ra lr.length rcap) (.int .i64 tin) (.int .i64 tend) (.int .i64 tout) 28)
  have KT := Lib.hid (show ∀ W W1, Below (w.heap.size + 1) (w.alloc (.cells #[.int .i64 form, .int .i64 low, .int .i64 high, .int .i64 cycle, .int .i64 width, .int .i64 spread, .bool back, .bool rel, .slice sa ls.length scap, .slice ka lk.length kcap, .int .i64 start, .slice ra lr.length rcap, .int .i64 tin, .int .i64 tend, .int .i64 tout] 28)) W → Below W.heap.size W W1 → Below (w.heap.size + 1) (w.alloc (.cells #[.int .i64 form, .int .i64 low, .int .i64 high, .int .i64 cycle, .int .i64 width, .int .i64 spread, .bool back, .bool rel, .slice sa ls.length scap, .slice ka lk.length kcap, .int .i64 start, .slice ra lr.length rcap, .int .i64 tin, .int .i64 tend, .int .i64 tout] 28)) W1 from fun W W1 h1 h2 => h1.trans (h2.mono (KC.out W h1).2.1))
  have KR : Below (w.heap.size + 1) (w.alloc (.cells #[.int .i64 form, .int .i64 low, .int .i64 high, .int .i64 cycle, .int .i64 width, .int .i64 spread, .bool back, .bool rel, .slice sa ls.length scap, .slice ka lk.length kcap, .int .i64 start, .slice ra lr.length rcap, .int .i64 tin, .int .i64 tend, .int .i64 tout] 28)) (w.alloc (.cells #[.int .i64 form, .int .i64 low, .int .i64 high, .int .i64 cycle, .int .i64 width, .int .i64 spread, .bool back, .bool rel, .slice sa ls.length scap, .slice ka lk.length kcap, .int .i64 start, .slice ra lr.length rcap, .int .i64 tin, .int .i64 tend, .int .i64 tout] 28)) := Below.refl _ _
  go_enter Try.func4, Try.ntmps4
  go_wp2_with fail
  refine (C1.out _ (KC.out _ KR).1).mono ?_
  rintro e wA ⟨rfl, hb⟩
  have HWA := Lib.hid (KT.out _ _ KR hb)
  clear hb KR
  obtain ⟨hB, hz, q0, q1, q2, q3, q4, q5, q6, q7, q8, q9, q10, q11, q12, q13, q14⟩ := KC.out _ HWA.out
  have HB := Lib.hid hB
  clear hB
  go_wp2_with fail
  refine (C2.out _ HB.out).mono ?_
  rintro e wB ⟨rfl, hb⟩
  have HWB := Lib.hid (KT.out _ _ HWA.out hb)
  clear hb hz HB q0 q1 q2 q3 q4 q5 q6 q7 q8 q9 q10 q11 q12 q13 q14
  obtain ⟨hB, hz, q0, q1, q2, q3, q4, q5, q6, q7, q8, q9, q10, q11, q12, q13, q14⟩ := KC.out _ HWB.out
  have HB := Lib.hid hB
  clear hB
  go_upto_region 5 with fail
  go_cut [10, 13] (fun s10 s13 wx => s10 = .int .i64 E ∧ ∃ g a1 ad1 a2 ad2 a3 ad3, s13 = .pointer (some ⟨g, 0, none⟩) ∧ w.heap.size + 1 ≤ g ∧ g < wx.heap.size ∧ Box15 wx g (.int .i64 yf) (.int .i64 yl) (.int .i64 yh) (.int .i64 yc) (.int .i64 yw) (.int .i64 ys) (.bool yb) (.bool yr) (.slice a1 yls.length ad1) (.slice a2 ylk.length ad2) (.int .i64 yst) (.slice a3 ylr.length ad3) (.int .i64 yi) (.int .i64 ye) (.int .i64 yo) ∧ RunAt wx.heap.size wx ⟨⟨yf, yl, yh, yc, yw, ys, yb, yr, yls⟩, ylk, yst, ylr, yi, ye, yo⟩ (.slice a1 yls.length ad1) (.slice a2 ylk.length ad2) (.slice a3 ylr.length ad3) ∧ Below (w.heap.size + 1) (w.alloc (.cells #[.int .i64 form, .int .i64 low, .int .i64 high, .int .i64 cycle, .int .i64 width, .int .i64 spread, .bool back, .bool rel, .slice sa ls.length scap, .slice ka lk.length kcap, .int .i64 start, .slice ra lr.length rcap, .int .i64 tin, .int .i64 tend, .int .i64 tout] 28)) wx)
  case first =>
    as_aux_lemma =>
      go_wp2_with fail
      refine (C3.out _ HB.out).mono ?_
      rintro e wF ⟨v1, v2, v3, rfl, hy, hb⟩
      obtain ⟨⟨a1, ad1, rfl⟩, ⟨a2, ad2, rfl⟩, ⟨a3, ad3, rfl⟩⟩ := runAt_shape hy.at
      simp only [runV]
      have HY := Lib.hid hy
      have HWF := Lib.hid (KT.out _ _ HWB.out hb)
      have HW1 := Lib.hid (up_alloc HWF.out (by simp) (.cells #[.int .i64 yf, .int .i64 yl, .int .i64 yh, .int .i64 yc, .int .i64 yw, .int .i64 ys, .bool yb, .bool yr, .slice a1 yls.length ad1, .slice a2 ylk.length ad2, .int .i64 yst, .slice a3 ylr.length ad3, .int .i64 yi, .int .i64 ye, .int .i64 yo] 28))
      have hg1 : w.heap.size + 1 ≤ wF.heap.size := (KC.out _ HWF.out).2.1
      have HRY := Lib.hid (show RunAt (wF.alloc (.cells #[.int .i64 yf, .int .i64 yl, .int .i64 yh, .int .i64 yc, .int .i64 yw, .int .i64 ys, .bool yb, .bool yr, .slice a1 yls.length ad1, .slice a2 ylk.length ad2, .int .i64 yst, .slice a3 ylr.length ad3, .int .i64 yi, .int .i64 ye, .int .i64 yo] 28)).heap.size (wF.alloc (.cells #[.int .i64 yf, .int .i64 yl, .int .i64 yh, .int .i64 yc, .int .i64 yw, .int .i64 ys, .bool yb, .bool yr, .slice a1 yls.length ad1, .slice a2 ylk.length ad2, .int .i64 yst, .slice a3 ylr.length ad3, .int .i64 yi, .int .i64 ye, .int .i64 yo] 28)) ⟨⟨yf, yl, yh, yc, yw, ys, yb, yr, yls⟩, ylk, yst, ylr, yi, ye, yo⟩ _ _ _ from (new_below HY.out ((Below.refl _ _).alloc (Nat.le_refl _) _)).at)
      have HBX := Lib.hid (box15_new wF (.int .i64 yf) (.int .i64 yl) (.int .i64 yh) (.int .i64 yc) (.int .i64 yw) (.int .i64 ys) (.bool yb) (.bool yr) (.slice a1 yls.length ad1) (.slice a2 ylk.length ad2) (.int .i64 yst) (.slice a3 ylr.length ad3) (.int .i64 yi) (.int .i64 ye) (.int .i64 yo) 28)
      clear hb hz HB q0 q1 q2 q3 q4 q5 q6 q7 q8 q9 q10 q11 q12 q13 q14 hy HY
      go_wp2_with fail
      all_goals go_meet
      all_goals exact ⟨rfl, wF.heap.size, a1, ad1, a2, ad2, a3, ad3, rfl, hg1, by simp, HBX.out, HRY.out, HW1.out⟩
  case rest =>
    obtain ⟨rfl, g, a1, ad1, a2, ad2, a3, ad3, rfl, hg1, hgl, hbx, hrun, hbw⟩ := hcut
    obtain ⟨wF, rfl⟩ : ∃ x, x = wc := ⟨wc, rfl⟩
    have HBY := Lib.hid hbx
    have HRY := Lib.hid hrun
    have HW1 := Lib.hid hbw
    clear hbx hrun hbw hz HB q0 q1 q2 q3 q4 q5 q6 q7 q8 q9 q10 q11 q12 q13 q14
    obtain ⟨hB, hz, q0, q1, q2, q3, q4, q5, q6, q7, q8, q9, q10, q11, q12, q13, q14⟩ := KC.out _ HW1.out
    have HB := Lib.hid hB
    clear hB
    go_upto_region 6 with fail
    go_cut [12, 14] (fun s12 s14 wx => s12 = .int .i64 E ∧ ∃ g2 b1 bd1 b2 bd2 b3 bd3, s14 = .pointer (some ⟨g2, 0, none⟩) ∧ wF.heap.size ≤ g2 ∧ g2 < wx.heap.size ∧ Box15 wx g (.int .i64 yf) (.int .i64 yl) (.int .i64 yh) (.int .i64 yc) (.int .i64 yw) (.int .i64 ys) (.bool yb) (.bool yr) (.slice a1 yls.length ad1) (.slice a2 ylk.length ad2) (.int .i64 yst) (.slice a3 ylr.length ad3) (.int .i64 yi) (.int .i64 ye) (.int .i64 yo) ∧ Box15 wx g2 (.int .i64 yf) (.int .i64 yl) (.int .i64 yh) (.int .i64 yc) (.int .i64 yw) (.int .i64 ys) (.bool yb) (.bool yr) (.slice b1 yls.length bd1) (.slice b2 ylk.length bd2) (.int .i64 yst) (.slice b3 ylr.length bd3) (.int .i64 yi) (.int .i64 ye) (.int .i64 yo) ∧ RunAt wx.heap.size wx ⟨⟨yf, yl, yh, yc, yw, ys, yb, yr, yls⟩, ylk, yst, ylr, yi, ye, yo⟩ (.slice a1 yls.length ad1) (.slice a2 ylk.length ad2) (.slice a3 ylr.length ad3) ∧ RunAt wx.heap.size wx ⟨⟨yf, yl, yh, yc, yw, ys, yb, yr, yls⟩, ylk, yst, ylr, yi, ye, yo⟩ (.slice b1 yls.length bd1) (.slice b2 ylk.length bd2) (.slice b3 ylr.length bd3) ∧ Below (w.heap.size + 1) (w.alloc (.cells #[.int .i64 form, .int .i64 low, .int .i64 high, .int .i64 cycle, .int .i64 width, .int .i64 spread, .bool back, .bool rel, .slice sa ls.length scap, .slice ka lk.length kcap, .int .i64 start, .slice ra lr.length rcap, .int .i64 tin, .int .i64 tend, .int .i64 tout] 28)) wx)
    case first =>
      as_aux_lemma =>
        go_wp2_with fail
        refine (C4.out _ HB.out).mono ?_
        rintro e wG ⟨v1, v2, v3, rfl, hy, hb⟩
        obtain ⟨⟨b1, bd1, rfl⟩, ⟨b2, bd2, rfl⟩, ⟨b3, bd3, rfl⟩⟩ := runAt_shape hy.at
        simp only [runV]
        have HZ := Lib.hid hy
        have HWG := Lib.hid (KT.out _ _ HW1.out hb)
        have HW2 := Lib.hid (up_alloc HWG.out (by simp) (.cells #[.int .i64 yf, .int .i64 yl, .int .i64 yh, .int .i64 yc, .int .i64 yw, .int .i64 ys, .bool yb, .bool yr, .slice b1 yls.length bd1, .slice b2 ylk.length bd2, .int .i64 yst, .slice b3 ylr.length bd3, .int .i64 yi, .int .i64 ye, .int .i64 yo] 28))
        have hg2 : wF.heap.size ≤ wG.heap.size := hb.size
        have HBF := Lib.hid (show Below wF.heap.size wF (wG.alloc (.cells #[.int .i64 yf, .int .i64 yl, .int .i64 yh, .int .i64 yc, .int .i64 yw, .int .i64 ys, .bool yb, .bool yr, .slice b1 yls.length bd1, .slice b2 ylk.length bd2, .int .i64 yst, .slice b3 ylr.length bd3, .int .i64 yi, .int .i64 ye, .int .i64 yo] 28)) from hb.alloc hg2 _)
        have HBY2 := Lib.hid ((HBY.out.below hb hgl).alloc (by omega) (.cells #[.int .i64 yf, .int .i64 yl, .int .i64 yh, .int .i64 yc, .int .i64 yw, .int .i64 ys, .bool yb, .bool yr, .slice b1 yls.length bd1, .slice b2 ylk.length bd2, .int .i64 yst, .slice b3 ylr.length bd3, .int .i64 yi, .int .i64 ye, .int .i64 yo] 28))
        have HBZ2 := Lib.hid (box15_new wG (.int .i64 yf) (.int .i64 yl) (.int .i64 yh) (.int .i64 yc) (.int .i64 yw) (.int .i64 ys) (.bool yb) (.bool yr) (.slice b1 yls.length bd1) (.slice b2 ylk.length bd2) (.int .i64 yst) (.slice b3 ylr.length bd3) (.int .i64 yi) (.int .i64 ye) (.int .i64 yo) 28)
        have HRY2 := Lib.hid ((HRY.out.below HBF.out).more HBF.out.size)
        have HRZ2 := Lib.hid (show RunAt (wG.alloc (.cells #[.int .i64 yf, .int .i64 yl, .int .i64 yh, .int .i64 yc, .int .i64 yw, .int .i64 ys, .bool yb, .bool yr, .slice b1 yls.length bd1, .slice b2 ylk.length bd2, .int .i64 yst, .slice b3 ylr.length bd3, .int .i64 yi, .int .i64 ye, .int .i64 yo] 28)).heap.size (wG.alloc (.cells #[.int .i64 yf, .int .i64 yl, .int .i64 yh, .int .i64 yc, .int .i64 yw, .int .i64 ys, .bool yb, .bool yr, .slice b1 yls.length bd1, .slice b2 ylk.length bd2, .int .i64 yst, .slice b3 ylr.length bd3, .int .i64 yi, .int .i64 ye, .int .i64 yo] 28)) ⟨⟨yf, yl, yh, yc, yw, ys, yb, yr, yls⟩, ylk, yst, ylr, yi, ye, yo⟩ _ _ _ from (new_below HZ.out ((Below.refl _ _).alloc (Nat.le_refl _) _)).at)
        clear hb hz HB q0 q1 q2 q3 q4 q5 q6 q7 q8 q9 q10 q11 q12 q13 q14 hy HZ HBY HRY
        go_wp2_with fail
        all_goals go_meet
        all_goals exact ⟨rfl, wG.heap.size, b1, bd1, b2, bd2, b3, bd3, rfl, hg2, by simp, HBY2.out, HBZ2.out, HRY2.out, HRZ2.out, HW2.out⟩
    case rest =>
      obtain ⟨rfl, g2, b1, bd1, b2, bd2, b3, bd3, rfl, hg2, hgl2, hbx, hbx2, hrun, hrun2, hbw⟩ := hcut
      obtain ⟨w2, rfl⟩ : ∃ x, x = wc := ⟨wc, rfl⟩
      clear HBY HRY
      have HBY := Lib.hid hbx
      have HBZ := Lib.hid hbx2
      have HW2 := Lib.hid hbw
      have CS1 := Lib.hid (sameRunning_any ⟨⟨yf, yl, yh, yc, yw, ys, yb, yr, yls⟩, ylk, yst, ylr, yi, ye, yo⟩ _ _ _ _ _ _ _ hrun hrun2)
      simp only [runV] at CS1
      have hG1 : g < w2.heap.size := by omega
      clear hbx hbx2 hrun hrun2 hbw hz HB q0 q1 q2 q3 q4 q5 q6 q7 q8 q9 q10 q11 q12 q13 q14
      obtain ⟨p0, p1, p2, p3, p4, p5, p6, p7, p8, p9, p10, p11, p12, p13, p14, _, _, _, _, _, _, _, _, _, _, _, _, _, _, _⟩ := HBY.out
      obtain ⟨s0, s1, s2, s3, s4, s5, s6, s7, s8, s9, s10, s11, s12, s13, s14, _, _, _, _, _, _, _, _, _, _, _, _, _, _, _⟩ := HBZ.out
      go_wp2_with fail
      refine CS1.out.mono ?_
      rintro e w3 ⟨rfl, hb⟩
      have HW3 := Lib.hid (KT.out _ _ HW2.out hb)
      have HBY3 := Lib.hid (HBY.out.below hb hG1)
      have HBZ3 := Lib.hid (HBZ.out.below hb hgl2)
      have hs3 := hb.size
      clear hb CS1 HBY HBZ p0 p1 p2 p3 p4 p5 p6 p7 p8 p9 p10 p11 p12 p13 p14 s0 s1 s2 s3 s4 s5 s6 s7 s8 s9 s10 s11 s12 s13 s14
      obtain ⟨hB, hz, q0, q1, q2, q3, q4, q5, q6, q7, q8, q9, q10, q11, q12, q13, q14⟩ := KC.out _ HW3.out
      have HB := Lib.hid hB
      clear hB
      go_upto_region 9 with fail
      go_cut [10] (fun s10 wx => s10 = .int .i64 E2 ∧ ∃ m1 md1 m2 md2 m3 md3, w3.heap.size ≤ wx.heap.size ∧ Box15 wx g (.int .i64 zf) (.int .i64 zl) (.int .i64 zh) (.int .i64 zc) (.int .i64 zw) (.int .i64 zs) (.bool zb) (.bool zr) (.slice m1 zls.length md1) (.slice m2 zlk.length md2) (.int .i64 zst) (.slice m3 zlr.length md3) (.int .i64 zi) (.int .i64 ze) (.int .i64 zo) ∧ Box15 wx g2 (.int .i64 yf) (.int .i64 yl) (.int .i64 yh) (.int .i64 yc) (.int .i64 yw) (.int .i64 ys) (.bool yb) (.bool yr) (.slice b1 yls.length bd1) (.slice b2 ylk.length bd2) (.int .i64 yst) (.slice b3 ylr.length bd3) (.int .i64 yi) (.int .i64 ye) (.int .i64 yo) ∧ RunNew w3.heap.size wx ⟨⟨zf, zl, zh, zc, zw, zs, zb, zr, zls⟩, zlk, zst, zlr, zi, ze, zo⟩ (.slice m1 zls.length md1) (.slice m2 zlk.length md2) (.slice m3 zlr.length md3) ∧ Below (w.heap.size + 1) (w.alloc (.cells #[.int .i64 form, .int .i64 low, .int .i64 high, .int .i64 cycle, .int .i64 width, .int .i64 spread, .bool back, .bool rel, .slice sa ls.length scap, .slice ka lk.length kcap, .int .i64 start, .slice ra lr.length rcap, .int .i64 tin, .int .i64 tend, .int .i64 tout] 28)) wx)
      case first =>
        go_wp2_with fail
        refine (C5.out _ HB.out).mono ?_
        rintro e w4 ⟨v1, v2, v3, rfl, hy, hb⟩
        obtain ⟨⟨m1, md1, rfl⟩, ⟨m2, md2, rfl⟩, ⟨m3, md3, rfl⟩⟩ := runAt_shape hy.at
        have HW4 := Lib.hid (KT.out _ _ HW3.out hb)
        have HBY4 := Lib.hid (HBY3.out.below hb (by omega))
        have HBZ4 := Lib.hid (HBZ3.out.below hb (by omega))
        have HN4 := Lib.hid hy
        have hs4 := hb.size
        clear hb hz HB q0 q1 q2 q3 q4 q5 q6 q7 q8 q9 q10 q11 q12 q13 q14 hy HBY3 HBZ3 HW3
        simp only [runV]
        go_wp2_with (first | (refine wpList_store15 _ rfl _ _ rfl g rfl rfl HBY4.out ?_) | fail)
        all_goals go_meet
        all_goals exact ⟨rfl, m1, md1, m2, md2, m3, md3, Nat.le_trans hs4 (Nat.le_of_eq size_set15.symm), HBY4.out.put, box15_keep HBZ4.out (heap_set15 (g := g) (by omega)), new_same HN4.out (fun k hk => heap_set15 (g := g) (by omega)), below_set15 HW4.out hg1⟩
      case rest =>
        obtain ⟨rfl, m1, md1, m2, md2, m3, md3, hs5, hbx, hbx2, hn, hbw⟩ := hcut
        obtain ⟨w5, rfl⟩ : ∃ x, x = wc := ⟨wc, rfl⟩
        clear HBY3 HBZ3 HW3 hz HB q0 q1 q2 q3 q4 q5 q6 q7 q8 q9 q10 q11 q12 q13 q14
        have HBY5 := Lib.hid hbx
        have HBZ5 := Lib.hid hbx2
        have HN5 := Lib.hid hn
        have HW5 := Lib.hid hbw
        clear hbx hbx2 hn hbw
        obtain ⟨hB, hz, q0, q1, q2, q3, q4, q5, q6, q7, q8, q9, q10, q11, q12, q13, q14⟩ := KC.out _ HW5.out
        have HB := Lib.hid hB
        clear hB
        go_upto_region 10 with fail
        go_cut [12] (fun s12 wx => s12 = .int .i64 E2 ∧ ∃ n1 nd1 n2 nd2 n3 nd3, Box15 wx g (.int .i64 zf) (.int .i64 zl) (.int .i64 zh) (.int .i64 zc) (.int .i64 zw) (.int .i64 zs) (.bool zb) (.bool zr) (.slice m1 zls.length md1) (.slice m2 zlk.length md2) (.int .i64 zst) (.slice m3 zlr.length md3) (.int .i64 zi) (.int .i64 ze) (.int .i64 zo) ∧ Box15 wx g2 (.int .i64 zf) (.int .i64 zl) (.int .i64 zh) (.int .i64 zc) (.int .i64 zw) (.int .i64 zs) (.bool zb) (.bool zr) (.slice n1 zls.length nd1) (.slice n2 zlk.length nd2) (.int .i64 zst) (.slice n3 zlr.length nd3) (.int .i64 zi) (.int .i64 ze) (.int .i64 zo) ∧ RunNew w3.heap.size wx ⟨⟨zf, zl, zh, zc, zw, zs, zb, zr, zls⟩, zlk, zst, zlr, zi, ze, zo⟩ (.slice m1 zls.length md1) (.slice m2 zlk.length md2) (.slice m3 zlr.length md3) ∧ RunNew w5.heap.size wx ⟨⟨zf, zl, zh, zc, zw, zs, zb, zr, zls⟩, zlk, zst, zlr, zi, ze, zo⟩ (.slice n1 zls.length nd1) (.slice n2 zlk.length nd2) (.slice n3 zlr.length nd3) ∧ Below (w.heap.size + 1) (w.alloc (.cells #[.int .i64 form, .int .i64 low, .int .i64 high, .int .i64 cycle, .int .i64 width, .int .i64 spread, .bool back, .bool rel, .slice sa ls.length scap, .slice ka lk.length kcap, .int .i64 start, .slice ra lr.length rcap, .int .i64 tin, .int .i64 tend, .int .i64 tout] 28)) wx)
        case first =>
          go_wp2_with fail
          refine (C6.out _ HB.out).mono ?_
          rintro e w6 ⟨v1, v2, v3, rfl, hy, hb⟩
          obtain ⟨⟨n1, nd1, rfl⟩, ⟨n2, nd2, rfl⟩, ⟨n3, nd3, rfl⟩⟩ := runAt_shape hy.at
          have HW6 := Lib.hid (KT.out _ _ HW5.out hb)
          have HBY6 := Lib.hid (HBY5.out.below hb (by omega))
          have HBZ6 := Lib.hid (HBZ5.out.below hb (by omega))
          have HN6 := Lib.hid (new_below HN5.out hb)
          have HM6 := Lib.hid hy
          have hs6 := hb.size
          clear hb hz HB q0 q1 q2 q3 q4 q5 q6 q7 q8 q9 q10 q11 q12 q13 q14 hy HBY5 HBZ5 HN5 HW5
          simp only [runV]
          go_wp2_with (first | (refine wpList_store15 _ rfl _ _ rfl g2 rfl rfl HBZ6.out ?_) | fail)
          all_goals go_meet
          all_goals exact ⟨rfl, n1, nd1, n2, nd2, n3, nd3, box15_keep HBY6.out (heap_set15 (g := g2) (by omega)), HBZ6.out.put, new_same HN6.out (fun k hk => heap_set15 (g := g2) (by omega)), new_same HM6.out (fun k hk => heap_set15 (g := g2) (by omega)), below_set15 HW6.out (by omega)⟩
        case rest =>
          obtain ⟨rfl, n1, nd1, n2, nd2, n3, nd3, hbx, hbx2, hn, hm, hbw⟩ := hcut
          obtain ⟨w7, rfl⟩ : ∃ x, x = wc := ⟨wc, rfl⟩
          clear HBY5 HBZ5 HN5 HW5 hz HB q0 q1 q2 q3 q4 q5 q6 q7 q8 q9 q10 q11 q12 q13 q14
          have HW7 := Lib.hid hbw
          have CS2 := Lib.hid (sameRunning_any ⟨⟨zf, zl, zh, zc, zw, zs, zb, zr, zls⟩, zlk, zst, zlr, zi, ze, zo⟩ _ _ _ _ _ _ _ hn.at hm.at)
          simp only [runV] at CS2
          obtain ⟨p0, p1, p2, p3, p4, p5, p6, p7, p8, p9, p10, p11, p12, p13, p14, _, _, _, _, _, _, _, _, _, _, _, _, _, _, _⟩ := hbx
          obtain ⟨s0, s1, s2, s3, s4, s5, s6, s7, s8, s9, s10, s11, s12, s13, s14, _, _, _, _, _, _, _, _, _, _, _, _, _, _, _⟩ := hbx2
          clear hn hm hbw
          go_wp2_with fail
          refine CS2.out.mono ?_
          rintro e w8 ⟨rfl, hb⟩
          have HB8 := Lib.hid (KC.out _ (KT.out _ _ HW7.out hb)).1
          clear hb
          go_wp2_with fail
          go_ret
          exact ⟨by simp, HB8.out⟩
end Go.Proofs.Ytopmdeefcjdadaa.effectClocksMatchSpec
