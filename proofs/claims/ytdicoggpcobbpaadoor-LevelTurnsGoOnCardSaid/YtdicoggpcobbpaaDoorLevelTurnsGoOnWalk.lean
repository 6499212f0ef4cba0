/- The walk of cycloramalaw1.LevelTurnsGoOn: for every input it returns true. -/
import Derived.Test.YtdicoggpcobbpaaDoorCurveSized
import Derived.Test.YtdicoggpcobbpaaDoorTextTimes
namespace Go.Proofs.YtdicoggpcobbpaaDoor.levelTurnsGoOn
open Go.RowKit
set_option linter.unusedVariables false
set_option linter.unusedSimpArgs false

theorem goes (f : Fd) (t tt d e : Int) (c : Cv) (h : turnE f t tt d e c = 0) :
    turnR f t tt d e c = ⟨atR f t, tt, t, d, e, c⟩ ∧ atE f t = 0 ∧ atE ⟨atR f t, tt, t, d, e, c⟩ t = 0 ∧ (0 ≤ d ∧ d ≤ 36000000) ∧ (0 ≤ e ∧ e ≤ 36000000) ∧
      ((d + e = 0 ∧ atR ⟨atR f t, tt, t, d, e, c⟩ t = tt) ∨ (d + e ≠ 0 ∧ atR ⟨atR f t, tt, t, d, e, c⟩ t = atR f t)) := by
  have h1 : atE f t = 0 := by
    unfold turnE firstE at h
    split at h
    · assumption
    · exact h
  have hr : atR f t = atV f t := by unfold atR; rw [if_pos h1]
  have h2 : checkF ⟨atV f t, tt, t, d, e, c⟩ = 0 := by
    unfold turnE firstE at h
    rw [if_pos h1] at h
    exact h
  have hg := (checkF_right _).1 h2
  have h3 : atE ⟨atV f t, tt, t, d, e, c⟩ t = 0 := (atE_ok _ _).2 ⟨hg, hg.2.2.1⟩
  obtain ⟨_, _, b1, b2, b3, _, _⟩ := hg
  unfold IsTm at b1 b2 b3
  simp only at b1 b2 b3
  rw [hr]
  have hv : atR ⟨atV f t, tt, t, d, e, c⟩ t = atV ⟨atV f t, tt, t, d, e, c⟩ t := by unfold atR; rw [if_pos h3]
  refine ⟨by unfold turnR; rw [if_pos h]; rfl, h1, h3, by omega, by omega, ?_⟩
  rw [hv]
  by_cases hz : d + e = 0
  · exact .inl ⟨hz, if_pos (show t + d + e ≤ t by omega)⟩
  · refine .inr ⟨hz, ?_⟩
    have e1 : ¬ (t + d + e ≤ t) := by omega
    have e2 : t ≤ t + d := by omega
    show (if t + d + e ≤ t then tt else if t ≤ t + d then atV f t else _) = atV f t
    rw [if_neg e1, if_pos e2]
theorem goes_no (f : Fd) (t tt d e : Int) (c : Cv) (h : turnE f t tt d e c ≠ 0) : turnR f t tt d e c = ⟨0, 0, 0, 0, 0, ⟨0, []⟩⟩ := if_neg h

set_option maxHeartbeats 8000000 in
set_option maxRecDepth 100000 in
theorem walk (a0 : Value) (t tt d e : Int) (a5 : Value) (w : World) (w0 : ∃ f, FdV w a0 f ∧ FdFit f) (_w1 : (Lit.int .i64 t).wf = true) (_w2 : (Lit.int .i64 tt).wf = true) (_w3 : (Lit.int .i64 d).wf = true) (_w4 : (Lit.int .i64 e).wf = true)
    (w5 : ∃ c, CvV w a5 c ∧ CvFit c ∧ c.pts.length ≤ 8796093022207) (hT : TextW w) :
    Calls Tryd.prog 9 #[a0, .int .i64 t, .int .i64 tt, .int .i64 d, .int .i64 e, a5] w fun e w' => e = .returned (.bool true) ∧ Below w.heap.size w w' := by
  obtain ⟨f, hf, _⟩ := w0
  obtain ⟨c, hc, _, hl⟩ := w5
  have C1 := Lib.hid (fun W (hW : Below w.heap.size w W) => Turn_any a0 a5 f c t tt d e W (fdV_below hf hW) (cvV_below hc hW) hl)
  have C2 := Lib.hid (fun W (hW : Below w.heap.size w W) => At_any a0 f t W (fdV_below hf hW))
  have C3 := Lib.hid (fun (v : Value) (g : Fd) W (hv : FdV W v g) => At_any v g t W hv)
  have CT := Lib.hid (fun W (hW : Below w.heap.size w W) => timesAreRead_yes W (hT.below hW))
  have HG := Lib.hid (goes f t tt d e c)
  have HN := Lib.hid (goes_no f t tt d e c)
  obtain ⟨p, rfl, _⟩ := hf
  obtain ⟨pc, rfl, _⟩ := hc
  clear hl _w1 _w2 _w3 _w4 hT
  have KF := Lib.hid (show ∀ w1, Below (w.heap.size + 1 + 1) ((w.alloc (.cells #[.int .i64 f.fr, .int .i64 f.to, .int .i64 f.start, .int .i64 f.delay, .int .i64 f.time, .int .i64 f.curve.kind, p] 40)).alloc (.cells #[.int .i64 c.kind, pc] 31)) w1 → Box7 w1 w.heap.size (.int .i64 f.fr) (.int .i64 f.to) (.int .i64 f.start) (.int .i64 f.delay) (.int .i64 f.time) (.int .i64 f.curve.kind) p from fun w1 hb1 =>
    ((box7_new w (.int .i64 f.fr) (.int .i64 f.to) (.int .i64 f.start) (.int .i64 f.delay) (.int .i64 f.time) (.int .i64 f.curve.kind) p 40).alloc (by simp) _).below hb1 (by omega))
  by_cases hE : turnE f t tt d e c = 0
  · obtain ⟨hR, hA, hA2, hd, he, hcase⟩ := HG.out hE
    rw [hE, hR] at C1
    rw [hA] at C2
    generalize hav : atR f t = av at *
    have C3' := Lib.hid (fun (v : Value) W hv => C3.out v ⟨av, tt, t, d, e, c⟩ W hv)
    rw [hA2] at C3'
    generalize hbv : atR ⟨av, tt, t, d, e, c⟩ t = bv at *
    obtain ⟨ck, ps⟩ := c
    obtain ⟨d1, d2⟩ := hd
    obtain ⟨e1, e2⟩ := he
    have HCASE := Lib.hid hcase
    clear hR hA hA2 hav hbv hcase HG HN C3 hE
    go_enter Tryd.func9, Tryd.ntmps9
    go_wp2_with fail
    refine (C1.out _ below2).mono ?_
    rintro e' w1 ⟨p1, rfl, hp1, hb1⟩
    obtain ⟨ao1, cap1, rfl⟩ := pts_shape hp1
    have HP1 := Lib.hid hp1
    have s1 := hb1.size
    simp at s1
    have HW1 := Lib.hid (bt below2 hb1)
    have HF1 := Lib.hid (KF.out w1 (hb1.mono (by simp)))
    clear hb1 hp1 KF
    go_upto_region 2 with fail
    have HB2 := Lib.hid (box7_new w1 (.int .i64 av) (.int .i64 tt) (.int .i64 t) (.int .i64 d) (.int .i64 e) (.int .i64 ck) (.slice ao1 ps.length cap1) 40)
    have HP2 := Lib.hid (ptsV_below HP1.out (below_al w1 (.cells #[.int .i64 av, .int .i64 tt, .int .i64 t, .int .i64 d, .int .i64 e, .int .i64 ck, .slice ao1 ps.length cap1] 40)))
    have HW2 := Lib.hid (HW1.out.alloc (by omega) (.cells #[.int .i64 av, .int .i64 tt, .int .i64 t, .int .i64 d, .int .i64 e, .int .i64 ck, .slice ao1 ps.length cap1] 40))
    have HF2 := Lib.hid (HF1.out.alloc (by omega) (.cells #[.int .i64 av, .int .i64 tt, .int .i64 t, .int .i64 d, .int .i64 e, .int .i64 ck, .slice ao1 ps.length cap1] 40))
    have S2 := Lib.hid (show (w1.alloc (.cells #[.int .i64 av, .int .i64 tt, .int .i64 t, .int .i64 d, .int .i64 e, .int .i64 ck, .slice ao1 ps.length cap1] 40)).heap.size = w1.heap.size + 1 by simp)
    generalize w1.alloc (.cells #[.int .i64 av, .int .i64 tt, .int .i64 t, .int .i64 d, .int .i64 e, .int .i64 ck, .slice ao1 ps.length cap1] 40) = w2 at *
    go_wp2_with fail
    refine (CT.out _ HW2.out).mono ?_
    rintro e' w3 ⟨rfl, hb3⟩
    have hs2 := S2.out
    have HB3 := Lib.hid (HB2.out.below hb3 (by omega))
    have HF3 := Lib.hid (HF2.out.below hb3 (by omega))
    have HP3 := Lib.hid (ptsV_below HP2.out hb3)
    have HW3 := Lib.hid (bt HW2.out hb3)
    have s3 := hb3.size
    have z1 : w1.heap.size < w3.heap.size := by omega
    clear hb3 hs2 s1 s3
    obtain ⟨a0, a1, a2, a3, a4, a5, a6, _, _, _, _, _, _, _⟩ := HF3.out
    go_wp2_with fail
    refine (C2.out _ HW3.out).mono ?_
    rintro e' w4 ⟨rfl, hb4⟩
    have HB4 := Lib.hid (HB3.out.below hb4 z1)
    have HP4 := Lib.hid (ptsV_below HP3.out hb4)
    have HW4 := Lib.hid (bt HW3.out hb4)
    clear hb4 a0 a1 a2 a3 a4 a5 a6
    obtain ⟨a0, a1, a2, a3, a4, a5, a6, _, _, _, _, _, _, _⟩ := HB4.out
    go_wp2_with fail
    refine (C3'.out _ _ ⟨_, rfl, HP4.out⟩).mono ?_
    rintro e' w5 ⟨rfl, hb5⟩
    have HW5 := Lib.hid (bt HW4.out hb5)
    clear hb5 a0 a1 a2 a3 a4 a5 a6
    rcases HCASE.out with ⟨hz, hb⟩ | ⟨hz, hb⟩
    · have hzb : (d + e == 0) = true := by simpa using hz
      have hbb : (bv == tt) = true := by simpa using hb
      have HZ := Lib.hid hz
      have HBV := Lib.hid hb
      clear hz hb
      go_wp2
      all_goals go_ret
      all_goals exact ⟨by first | rfl | (simp [HZ.out, HBV.out]; done) | (simp_all; done), HW5.out⟩
    · subst hb
      go_wp2
      go_ret
      exact ⟨by simp, HW5.out⟩
  · have hR := HN.out hE
    have hEb : (turnE f t tt d e c != 0) = true := by simpa using hE
    rw [hR] at C1
    generalize turnE f t tt d e c = E at *
    clear hR hE HG HN C2 C3 KF
    go_enter Tryd.func9, Tryd.ntmps9
    go_wp2_with fail
    refine (C1.out _ below2).mono ?_
    rintro e' w1 ⟨p1, rfl, hp1, hb1⟩
    obtain ⟨ao1, cap1, rfl⟩ := pts_shape hp1
    have s1 := hb1.size
    simp at s1
    have HW1 := Lib.hid (bt below2 hb1)
    clear hb1 hp1
    go_upto_region 2 with fail
    have HB2 := Lib.hid (box7_new w1 (.int .i64 0) (.int .i64 0) (.int .i64 0) (.int .i64 0) (.int .i64 0) (.int .i64 0) (.slice ao1 0 cap1) 40)
    have HW2 := Lib.hid (HW1.out.alloc (by omega) (.cells #[.int .i64 0, .int .i64 0, .int .i64 0, .int .i64 0, .int .i64 0, .int .i64 0, .slice ao1 0 cap1] 40))
    have S2 := Lib.hid (show (w1.alloc (.cells #[.int .i64 0, .int .i64 0, .int .i64 0, .int .i64 0, .int .i64 0, .int .i64 0, .slice ao1 0 cap1] 40)).heap.size = w1.heap.size + 1 by simp)
    generalize w1.alloc (.cells #[.int .i64 0, .int .i64 0, .int .i64 0, .int .i64 0, .int .i64 0, .int .i64 0, .slice ao1 0 cap1] 40) = w2 at *
    go_wp2_with fail
    refine (CT.out _ HW2.out).mono ?_
    rintro e' w3 ⟨rfl, hb3⟩
    have hs2 := S2.out
    have HB3 := Lib.hid (HB2.out.below hb3 (by omega))
    have HW3 := Lib.hid (bt HW2.out hb3)
    clear hb3 hs2 s1
    obtain ⟨a0, a1, a2, a3, a4, a5, a6, _, _, _, _, _, _, _⟩ := HB3.out
    go_wp2
    go_ret
    exact ⟨by simp, HW3.out⟩
end Go.Proofs.YtdicoggpcobbpaaDoor.levelTurnsGoOn
