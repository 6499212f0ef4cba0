/- The walk of cycloramalaw1.LevelTurnsMatchSpec: for every input it returns true. -/
import Derived.Test.YthoiamaomhggiaaCurveSized
namespace Go.Proofs.Ythoiamaomhggiaa
open Go.RowKit
set_option linter.unusedVariables false
set_option linter.unusedSimpArgs false

theorem pts_len {W : World} {v : Value} {ps : List (Int × Int)} (h : PtsV W v ps) : ps.length ≤ 9223372036854775807 := by
  rcases h with ⟨rfl, _⟩ | ⟨_, hm, _⟩
  · simp
  · exact hm

set_option maxHeartbeats 1000000 in
theorem sameCurve_yes (k : Int) (p q : Value) (ps : List (Int × Int)) (w : World) (hp : PtsV w p ps) (hq : PtsV w q ps) :
    Calls Try.prog 65 #[.agg #[.int .i64 k, p], .agg #[.int .i64 k, q]] w fun e w' => e = .returned (.bool true) ∧ Below w.heap.size w w' := by
  have CE := Lib.hid (fun W (hW : Below w.heap.size w W) => ptsEqual p q ps W (ptsV_below hp hW) (ptsV_below hq hW) (pts_len hp))
  clear hp hq
  go_enter Try.func65, Try.ntmps65
  go_wp2_with fail
  refine (CE.out _ below2).mono ?_
  rintro e w1 ⟨rfl, hb⟩
  have HB := Lib.hid (bt below2 hb)
  clear hb
  go_wp2
  go_ret
  exact ⟨rfl, HB.out⟩

set_option maxHeartbeats 2000000 in
set_option maxRecDepth 100000 in
theorem sameFade_yes (f : Fd) (p q : Value) (w : World) (hp : PtsV w p f.curve.pts) (hq : PtsV w q f.curve.pts) :
    Calls Try.prog 34 #[.agg #[.int .i64 f.fr, .int .i64 f.to, .int .i64 f.start, .int .i64 f.delay, .int .i64 f.time, .int .i64 f.curve.kind, p], .agg #[.int .i64 f.fr, .int .i64 f.to, .int .i64 f.start, .int .i64 f.delay, .int .i64 f.time, .int .i64 f.curve.kind, q]] w fun e w' => e = .returned (.bool true) ∧ Below w.heap.size w w' := by
  have CE := Lib.hid (fun W (hW : Below w.heap.size w W) => sameCurve_yes f.curve.kind p q f.curve.pts W (ptsV_below hp hW) (ptsV_below hq hW))
  clear hp hq
  go_enter Try.func34, Try.ntmps34
  go_wp2_with fail
  refine (CE.out _ below2).mono ?_
  rintro e w1 ⟨rfl, hb⟩
  have HB := Lib.hid (bt below2 hb)
  clear hb
  go_wp2
  go_ret
  exact ⟨rfl, HB.out⟩
end Go.Proofs.Ythoiamaomhggiaa

namespace Go.Proofs.Ythoiamaomhggiaa.levelTurnsMatchSpec
open Go.RowKit
set_option linter.unusedVariables false
set_option linter.unusedSimpArgs false

set_option maxHeartbeats 8000000 in
set_option maxRecDepth 100000 in
theorem walk (a0 : Value) (t tt d e : Int) (a5 : Value) (w : World) (w0 : ∃ f, FdV w a0 f ∧ FdFit f) (_w1 : (Lit.int .i64 t).wf = true) (_w2 : (Lit.int .i64 tt).wf = true) (_w3 : (Lit.int .i64 d).wf = true) (_w4 : (Lit.int .i64 e).wf = true)
    (w5 : ∃ c, CvV w a5 c ∧ CvFit c ∧ c.pts.length ≤ 8796093022207) :
    Calls Try.prog 10 #[a0, .int .i64 t, .int .i64 tt, .int .i64 d, .int .i64 e, a5] w fun e w' => e = .returned (.bool true) ∧ Below w.heap.size w w' := by
  obtain ⟨f, hf, _⟩ := w0
  obtain ⟨c, hc, _, hl⟩ := w5
  have C1 := Lib.hid (fun W (hW : Below w.heap.size w W) => Turn_any a0 a5 f c t tt d e W (fdV_below hf hW) (cvV_below hc hW) hl)
  have C2 := Lib.hid (fun W (hW : Below w.heap.size w W) => rTurn_any a0 a5 f c t tt d e W (fdV_below hf hW) (cvV_below hc hW) hl)
  generalize turnR f t tt d e c = g at *
  generalize turnE f t tt d e c = E at *
  obtain ⟨p, rfl, _⟩ := hf
  obtain ⟨pc, rfl, _⟩ := hc
  clear hl _w1 _w2 _w3 _w4
  go_enter Try.func10, Try.ntmps10
  go_wp2_with fail
  refine (C1.out _ below2).mono ?_
  rintro e w1 ⟨p1, rfl, hp1, hb1⟩
  obtain ⟨ao1, cap1, rfl⟩ := pts_shape hp1
  have HP1 := Lib.hid hp1
  have s1 := hb1.size
  simp at s1
  have HW1 := Lib.hid (bt below2 hb1)
  have HF1 := Lib.hid (show ∀ W, Below w1.heap.size w1 W → Box7 W w.heap.size (.int .i64 f.fr) (.int .i64 f.to) (.int .i64 f.start) (.int .i64 f.delay) (.int .i64 f.time) (.int .i64 f.curve.kind) p ∧ W.cell? ⟨w.heap.size + 1, 0, none⟩ = some (.int .i64 c.kind) ∧ W.cell? ⟨w.heap.size + 1, 1, none⟩ = some pc from fun W hW => by
    refine ⟨(((box7_new w (.int .i64 f.fr) (.int .i64 f.to) (.int .i64 f.start) (.int .i64 f.delay) (.int .i64 f.time) (.int .i64 f.curve.kind) p 46).alloc (by simp) _).below hb1 (by simp; omega)).below hW (by omega), ?_, ?_⟩
    · exact (hW.cell (p := ⟨w.heap.size + 1, 0, none⟩) (by show w.heap.size + 1 < _; omega)).trans ((hb1.cell (p := ⟨w.heap.size + 1, 0, none⟩) (by show w.heap.size + 1 < _; simp)).trans (by simp [go_sem]))
    · exact (hW.cell (p := ⟨w.heap.size + 1, 1, none⟩) (by show w.heap.size + 1 < _; omega)).trans ((hb1.cell (p := ⟨w.heap.size + 1, 1, none⟩) (by show w.heap.size + 1 < _; simp)).trans (by simp [go_sem])))
  clear hb1 hp1
  have hf1 := HF1.out _ (below_al w1 (.cells #[.int .i64 g.fr, .int .i64 g.to, .int .i64 g.start, .int .i64 g.delay, .int .i64 g.time, .int .i64 g.curve.kind, .slice ao1 g.curve.pts.length cap1] 46))
  obtain ⟨⟨a0, a1, a2, a3, a4, a5, a6, _, _, _, _, _, _, _⟩, k0, k1⟩ := hf1
  go_upto_region 2 with fail
  have HB2 := Lib.hid (box7_new w1 (.int .i64 g.fr) (.int .i64 g.to) (.int .i64 g.start) (.int .i64 g.delay) (.int .i64 g.time) (.int .i64 g.curve.kind) (.slice ao1 g.curve.pts.length cap1) 46)
  have HP2 := Lib.hid (ptsV_below HP1.out (below_al w1 (.cells #[.int .i64 g.fr, .int .i64 g.to, .int .i64 g.start, .int .i64 g.delay, .int .i64 g.time, .int .i64 g.curve.kind, .slice ao1 g.curve.pts.length cap1] 46)))
  have HW2 := Lib.hid (HW1.out.alloc (by omega) (.cells #[.int .i64 g.fr, .int .i64 g.to, .int .i64 g.start, .int .i64 g.delay, .int .i64 g.time, .int .i64 g.curve.kind, .slice ao1 g.curve.pts.length cap1] 46))
  have s2 : (w1.alloc (.cells #[.int .i64 g.fr, .int .i64 g.to, .int .i64 g.start, .int .i64 g.delay, .int .i64 g.time, .int .i64 g.curve.kind, .slice ao1 g.curve.pts.length cap1] 46)).heap.size = w1.heap.size + 1 := by simp
  generalize w1.alloc (.cells #[.int .i64 g.fr, .int .i64 g.to, .int .i64 g.start, .int .i64 g.delay, .int .i64 g.time, .int .i64 g.curve.kind, .slice ao1 g.curve.pts.length cap1] 46) = w2 at *
  have S2 := Lib.hid s2
  clear s2
  go_wp2_with fail
  refine (C2.out _ HW2.out).mono ?_
  rintro e w3 ⟨p2, rfl, hp3, hb3⟩
  obtain ⟨ao2, cap2, rfl⟩ := pts_shape hp3
  have s3 := hb3.size
  have hs2 := S2.out
  have HB3 := Lib.hid (HB2.out.below hb3 (by omega))
  have HP3 := Lib.hid (ptsV_below HP2.out hb3)
  have HQ3 := Lib.hid hp3
  have HW3 := Lib.hid (bt HW2.out hb3)
  clear hb3 hp3 a0 a1 a2 a3 a4 a5 a6 k0 k1 hs2
  have z1 : w1.heap.size < w3.heap.size := by have := S2.out; omega
  obtain ⟨a0, a1, a2, a3, a4, a5, a6, _, _, _, _, _, _, _⟩ := HB3.out
  go_upto_region 3 with fail
  have CE := Lib.hid (sameFade_yes g _ _ _ (ptsV_below HP3.out (below_al w3 (.cells #[.int .i64 g.fr, .int .i64 g.to, .int .i64 g.start, .int .i64 g.delay, .int .i64 g.time, .int .i64 g.curve.kind, .slice ao2 g.curve.pts.length cap2] 46))) (ptsV_below HQ3.out (below_al w3 (.cells #[.int .i64 g.fr, .int .i64 g.to, .int .i64 g.start, .int .i64 g.delay, .int .i64 g.time, .int .i64 g.curve.kind, .slice ao2 g.curve.pts.length cap2] 46))))
  go_wp2_with fail
  refine CE.out.mono ?_
  rintro e w4 ⟨rfl, hb4⟩
  have HW4 := Lib.hid (bt (bt HW3.out (below_al _ _)) hb4)
  clear hb4
  go_wp2
  go_ret
  exact ⟨by simp, HW4.out⟩
end Go.Proofs.Ythoiamaomhggiaa.levelTurnsMatchSpec
