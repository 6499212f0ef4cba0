/- The walk of cycloramalaw1.LevelCurvesComeBack: for every input (of a text below 2^32 bytes) it returns true (printed by gen/gen_curvescb.py). -/
import Derived.Test.YtdicoggpcobbpaaDoorCurvePlain
import Derived.Test.YtdicoggpcobbpaaDoorSameCurve
namespace Go.Proofs.YtdicoggpcobbpaaDoor.levelCurvesComeBack
open Go.RowKit
open Classical
set_option linter.unusedVariables false
set_option linter.unusedSimpArgs false

theorem box_step {w W W' : World} {o : Obj} (h : Below (w.heap.size + 1) (w.alloc o) W) (hb : Below W.heap.size W W') : Below (w.heap.size + 1) (w.alloc o) W' := h.trans (hb.mono (by have := h.size; simp at this; omega))
theorem box_more {w W : World} {o : Obj} (o' : Obj) (h : Below (w.heap.size + 1) (w.alloc o) W) : Below (w.heap.size + 1) (w.alloc o) (W.alloc o') := h.alloc (by have := h.size; simp at this; omega) o'
theorem box_w {w W : World} {o : Obj} (h : Below (w.heap.size + 1) (w.alloc o) W) : Below w.heap.size w W := ((Below.refl _ _).alloc (Nat.le_refl _) o).trans (h.mono (by omega))
theorem box_s {w W : World} {o : Obj} (h : Below (w.heap.size + 1) (w.alloc o) W) : w.heap.size < W.heap.size := by have := h.size; simp at this; omega
theorem box_c {w W : World} {x y : Value} {T : TypeId} (h : Below (w.heap.size + 1) (w.alloc (.cells #[x, y] T)) W) : W.cell? ⟨w.heap.size, 0, none⟩ = some x ∧ W.cell? ⟨w.heap.size, 1, none⟩ = some y :=
  ⟨(h.cell (p := ⟨w.heap.size, 0, none⟩) (by show w.heap.size < _; omega)).trans (by simp [go_sem]), (h.cell (p := ⟨w.heap.size, 1, none⟩) (by show w.heap.size < _; omega)).trans (by simp [go_sem])⟩

set_option maxHeartbeats 8000000 in
set_option maxRecDepth 100000 in
theorem walk_000 (K : Int) (ps : List (Int × Int)) (ao : Option Addr) (cap : Nat) (s : ByteArray) (w : World) (hp : PtsV w (.slice ao ps.length cap) ps) (hs : s.size < 4294967281) (hT : TextW w) (hA : checkC ⟨K, ps⟩ = 0) (hB : invE ⟨K, ps⟩ = 0) (hC : readE (wordsB 32 s) = 0) :
    Calls Tryd.prog 5 #[.agg #[.int .i64 K, .slice ao ps.length cap], .string s] w fun e w' => e = .returned (.bool true) ∧ Below w.heap.size w w' := by
  have HT := Lib.hid (fun W (hb : Below w.heap.size w W) => hT.below hb)
  have HP := Lib.hid (fun W (hb : Below w.heap.size w W) => ptsV_below hp hb)
  have CT := Lib.hid (fun W (hb : Below w.heap.size w W) => curveText_ok (.agg #[.int .i64 K, .slice ao ps.length cap]) ⟨K, ps⟩ W (hT.below hb) ⟨_, rfl, ptsV_below hp hb⟩ hA)
  have CR := Lib.hid (fun W (hb : Below w.heap.size w W) => readCurve_any (curveT ⟨K, ps⟩) W (hT.below hb) (by have := curveT_le ⟨K, ps⟩ hA; omega))
  rw [(text_read ⟨K, ps⟩ hA).1, (text_read ⟨K, ps⟩ hA).2] at CR
  generalize curveT ⟨K, ps⟩ = tx at *
  have CI := Lib.hid (fun W (hb : Below w.heap.size w W) => Inverse_any (.agg #[.int .i64 K, .slice ao ps.length cap]) ⟨K, ps⟩ W ⟨_, rfl, ptsV_below hp hb⟩)
  obtain ⟨_, hi1, hi2, hi3⟩ := inv_back ⟨K, ps⟩ hB
  rw [hB, hi1] at CI
  have CJ := Lib.hid (fun (v : Value) W (hv : CvV W v (invC ⟨K, ps⟩)) => Inverse_any v (invC ⟨K, ps⟩) W hv)
  rw [hi2, hi3] at CJ
  obtain ⟨⟨K2, ps2⟩, hii⟩ : ∃ c2, invC ⟨K, ps⟩ = c2 := ⟨_, rfl⟩
  rw [hii] at CI CJ
  clear hi1 hi2 hi3 hii
  have CQ := Lib.hid (fun W (hb : Below w.heap.size w W) => readCurve_any s W (hT.below hb) hs)
  obtain ⟨hq1, hq2⟩ := read_text s hC
  rw [hC] at CQ
  have CU := Lib.hid (fun (v : Value) W (hb : Below w.heap.size w W) (hv : CvV W v (readC (wordsB 32 s))) => curveText_ok v (readC (wordsB 32 s)) W (hT.below hb) hv hq1)
  rw [hq2] at CU
  generalize readC (wordsB 32 s) = c3 at *
  obtain ⟨K3, ps3⟩ := c3
  clear hq1 hq2
  clear hA hB hC hp hT hs
  go_enter Tryd.func5, Tryd.ntmps5
  go_wp2_with fail
  refine (CT.out _ below1).mono ?_
  rintro e w1 ⟨rfl, hb⟩
  have hX1 : Below (w.heap.size + 1) (w.alloc (.cells #[.int .i64 K, .slice ao ps.length cap] 31)) w1 := by simpa using hb
  obtain ⟨e0, e1⟩ := box_c hX1
  have hz1 := box_s hX1
  have hw1 := box_w hX1
  clear hb
  go_wp2_with fail
  refine (CR.out _ hw1).mono ?_
  rintro e w2 ⟨_, rfl, ⟨pr, rfl, hpr⟩, hb⟩
  have hX2 := box_step hX1 hb
  obtain ⟨e0, e1⟩ := box_c hX2
  have hz2 := box_s hX2
  have hw2 := box_w hX2
  obtain ⟨ar, cr, rfl⟩ := pts_shape hpr
  clear hb e0 e1 hX1 hz1 hw1
  obtain ⟨e0, e1⟩ := box_c hX2
  have hX2' := box_more (.cells #[.int .i64 K, .slice ar ps.length cr] 31) hX2
  obtain ⟨e0', e1'⟩ := box_c hX2'
  have hpr' := ptsV_below hpr ((Below.refl _ _).alloc (Nat.le_refl _) (.cells #[.int .i64 K, .slice ar ps.length cr] 31))
  have HPR := Lib.hid hpr'
  have hw2' := box_w hX2'
  clear hpr hpr'
  go_wp2_with fail
  refine (sameCurve_yes K _ _ ps _ HPR.out (HP.out _ hw2')).mono ?_
  rintro e w3 ⟨rfl, hb⟩
  have hX3 := box_step hX2' hb
  clear hb e0 e1 e0' e1' hX2 hX2' hz2 hw2 hw2' HPR
  obtain ⟨e0, e1⟩ := box_c hX3
  have hz3 := box_s hX3
  have hw3 := box_w hX3
  go_wp2_with fail
  refine (CI.out _ hw3).mono ?_
  rintro e w4 ⟨_, rfl, ⟨pi, rfl, hpi⟩, hb⟩
  have hX4 := box_step hX3 hb
  clear hb e0 e1 hX3 hz3 hw3
  obtain ⟨ai, ci, rfl⟩ := pts_shape hpi
  have hw4 := box_w hX4
  have hz4 := box_s hX4
  have hX4' := box_more (.cells #[.int .i64 K2, .slice ai ps2.length ci] 31) hX4
  have hw4' := box_w hX4'
  have CJ2 := Lib.hid (CJ.out _ _ ⟨_, rfl, ptsV_below hpi ((Below.refl _ _).alloc (Nat.le_refl _) (.cells #[.int .i64 K2, .slice ai ps2.length ci] 31))⟩)
  clear hpi
  go_wp2_with fail
  refine CJ2.out.mono ?_
  rintro e w5 ⟨_, rfl, ⟨pj, rfl, hpj⟩, hb⟩
  have hX5 := box_step hX4' hb
  clear hb hX4 hX4' hw4 hw4' hz4 CJ2
  obtain ⟨aj, cj, rfl⟩ := pts_shape hpj
  have hX5' := box_more (.cells #[.int .i64 K, .slice aj ps.length cj] 31) hX5
  obtain ⟨e0, e1⟩ := box_c hX5
  obtain ⟨e0', e1'⟩ := box_c hX5'
  have hz5 := box_s hX5
  have HPJ := Lib.hid (ptsV_below hpj ((Below.refl _ _).alloc (Nat.le_refl _) (.cells #[.int .i64 K, .slice aj ps.length cj] 31)))
  have hw5' := box_w hX5'
  clear hpj
  go_wp2_with fail
  refine (sameCurve_yes K _ _ ps _ HPJ.out (HP.out _ hw5')).mono ?_
  rintro e w6 ⟨rfl, hb⟩
  have hX6 := box_step hX5' hb
  clear hb e0 e1 e0' e1' hX5 hX5' hz5 hw5' HPJ
  have hw6 := box_w hX6
  go_wp2_with fail
  refine (CQ.out _ hw6).mono ?_
  rintro e w7 ⟨_, rfl, ⟨pq, rfl, hpq⟩, hb⟩
  have hX7 := box_step hX6 hb
  have HX := Lib.hid hX7
  clear hb
  obtain ⟨aq, cq, rfl⟩ := pts_shape hpq
  have CU2 := Lib.hid (CU.out _ _ (box_w (box_more (.cells #[.int .i64 K3, .slice aq ps3.length cq] 31) hX7)) ⟨_, rfl, ptsV_below hpq ((Below.refl _ _).alloc (Nat.le_refl _) (.cells #[.int .i64 K3, .slice aq ps3.length cq] 31))⟩)
  clear hpq
  go_wp2_with fail
  refine CU2.out.mono ?_
  rintro e w8 ⟨rfl, hb⟩
  have HB := Lib.hid (box_w (box_step (box_more (.cells #[.int .i64 K3, .slice aq ps3.length cq] 31) HX.out) hb))
  clear hb
  go_wp2
  go_ret
  exact ⟨by first | rfl | (simp; done), HB.out⟩

set_option maxHeartbeats 8000000 in
set_option maxRecDepth 100000 in
theorem walk_001 (K : Int) (ps : List (Int × Int)) (ao : Option Addr) (cap : Nat) (s : ByteArray) (w : World) (hp : PtsV w (.slice ao ps.length cap) ps) (hs : s.size < 4294967281) (hT : TextW w) (hA : checkC ⟨K, ps⟩ = 0) (hB : invE ⟨K, ps⟩ = 0) (hC : readE (wordsB 32 s) ≠ 0) :
    Calls Tryd.prog 5 #[.agg #[.int .i64 K, .slice ao ps.length cap], .string s] w fun e w' => e = .returned (.bool true) ∧ Below w.heap.size w w' := by
  have HT := Lib.hid (fun W (hb : Below w.heap.size w W) => hT.below hb)
  have HP := Lib.hid (fun W (hb : Below w.heap.size w W) => ptsV_below hp hb)
  have CT := Lib.hid (fun W (hb : Below w.heap.size w W) => curveText_ok (.agg #[.int .i64 K, .slice ao ps.length cap]) ⟨K, ps⟩ W (hT.below hb) ⟨_, rfl, ptsV_below hp hb⟩ hA)
  have CR := Lib.hid (fun W (hb : Below w.heap.size w W) => readCurve_any (curveT ⟨K, ps⟩) W (hT.below hb) (by have := curveT_le ⟨K, ps⟩ hA; omega))
  rw [(text_read ⟨K, ps⟩ hA).1, (text_read ⟨K, ps⟩ hA).2] at CR
  generalize curveT ⟨K, ps⟩ = tx at *
  have CI := Lib.hid (fun W (hb : Below w.heap.size w W) => Inverse_any (.agg #[.int .i64 K, .slice ao ps.length cap]) ⟨K, ps⟩ W ⟨_, rfl, ptsV_below hp hb⟩)
  obtain ⟨_, hi1, hi2, hi3⟩ := inv_back ⟨K, ps⟩ hB
  rw [hB, hi1] at CI
  have CJ := Lib.hid (fun (v : Value) W (hv : CvV W v (invC ⟨K, ps⟩)) => Inverse_any v (invC ⟨K, ps⟩) W hv)
  rw [hi2, hi3] at CJ
  obtain ⟨⟨K2, ps2⟩, hii⟩ : ∃ c2, invC ⟨K, ps⟩ = c2 := ⟨_, rfl⟩
  rw [hii] at CI CJ
  clear hi1 hi2 hi3 hii
  have CQ := Lib.hid (fun W (hb : Below w.heap.size w W) => readCurve_any s W (hT.below hb) hs)
  rw [read_none _ hC] at CQ
  generalize readE (wordsB 32 s) = fc at *
  have fcb : (fc != 0) = true := by simpa using hC
  clear hA hB hC hp hT hs
  go_enter Tryd.func5, Tryd.ntmps5
  go_wp2_with fail
  refine (CT.out _ below1).mono ?_
  rintro e w1 ⟨rfl, hb⟩
  have hX1 : Below (w.heap.size + 1) (w.alloc (.cells #[.int .i64 K, .slice ao ps.length cap] 31)) w1 := by simpa using hb
  obtain ⟨e0, e1⟩ := box_c hX1
  have hz1 := box_s hX1
  have hw1 := box_w hX1
  clear hb
  go_wp2_with fail
  refine (CR.out _ hw1).mono ?_
  rintro e w2 ⟨_, rfl, ⟨pr, rfl, hpr⟩, hb⟩
  have hX2 := box_step hX1 hb
  obtain ⟨e0, e1⟩ := box_c hX2
  have hz2 := box_s hX2
  have hw2 := box_w hX2
  obtain ⟨ar, cr, rfl⟩ := pts_shape hpr
  clear hb e0 e1 hX1 hz1 hw1
  obtain ⟨e0, e1⟩ := box_c hX2
  have hX2' := box_more (.cells #[.int .i64 K, .slice ar ps.length cr] 31) hX2
  obtain ⟨e0', e1'⟩ := box_c hX2'
  have hpr' := ptsV_below hpr ((Below.refl _ _).alloc (Nat.le_refl _) (.cells #[.int .i64 K, .slice ar ps.length cr] 31))
  have HPR := Lib.hid hpr'
  have hw2' := box_w hX2'
  clear hpr hpr'
  go_wp2_with fail
  refine (sameCurve_yes K _ _ ps _ HPR.out (HP.out _ hw2')).mono ?_
  rintro e w3 ⟨rfl, hb⟩
  have hX3 := box_step hX2' hb
  clear hb e0 e1 e0' e1' hX2 hX2' hz2 hw2 hw2' HPR
  obtain ⟨e0, e1⟩ := box_c hX3
  have hz3 := box_s hX3
  have hw3 := box_w hX3
  go_wp2_with fail
  refine (CI.out _ hw3).mono ?_
  rintro e w4 ⟨_, rfl, ⟨pi, rfl, hpi⟩, hb⟩
  have hX4 := box_step hX3 hb
  clear hb e0 e1 hX3 hz3 hw3
  obtain ⟨ai, ci, rfl⟩ := pts_shape hpi
  have hw4 := box_w hX4
  have hz4 := box_s hX4
  have hX4' := box_more (.cells #[.int .i64 K2, .slice ai ps2.length ci] 31) hX4
  have hw4' := box_w hX4'
  have CJ2 := Lib.hid (CJ.out _ _ ⟨_, rfl, ptsV_below hpi ((Below.refl _ _).alloc (Nat.le_refl _) (.cells #[.int .i64 K2, .slice ai ps2.length ci] 31))⟩)
  clear hpi
  go_wp2_with fail
  refine CJ2.out.mono ?_
  rintro e w5 ⟨_, rfl, ⟨pj, rfl, hpj⟩, hb⟩
  have hX5 := box_step hX4' hb
  clear hb hX4 hX4' hw4 hw4' hz4 CJ2
  obtain ⟨aj, cj, rfl⟩ := pts_shape hpj
  have hX5' := box_more (.cells #[.int .i64 K, .slice aj ps.length cj] 31) hX5
  obtain ⟨e0, e1⟩ := box_c hX5
  obtain ⟨e0', e1'⟩ := box_c hX5'
  have hz5 := box_s hX5
  have HPJ := Lib.hid (ptsV_below hpj ((Below.refl _ _).alloc (Nat.le_refl _) (.cells #[.int .i64 K, .slice aj ps.length cj] 31)))
  have hw5' := box_w hX5'
  clear hpj
  go_wp2_with fail
  refine (sameCurve_yes K _ _ ps _ HPJ.out (HP.out _ hw5')).mono ?_
  rintro e w6 ⟨rfl, hb⟩
  have hX6 := box_step hX5' hb
  clear hb e0 e1 e0' e1' hX5 hX5' hz5 hw5' HPJ
  have hw6 := box_w hX6
  go_wp2_with fail
  refine (CQ.out _ hw6).mono ?_
  rintro e w7 ⟨_, rfl, ⟨pq, rfl, hpq⟩, hb⟩
  have hX7 := box_step hX6 hb
  have HX := Lib.hid hX7
  clear hb
  obtain ⟨aq, cq, rfl⟩ := pts_shape hpq
  clear hpq
  have HB := Lib.hid (box_w (box_more (.cells #[.int .i64 0, .slice aq 0 cq] 31) HX.out))
  go_wp2
  go_ret
  exact ⟨by first | rfl | (simp; done), HB.out⟩

set_option maxHeartbeats 8000000 in
set_option maxRecDepth 100000 in
theorem walk_010 (K : Int) (ps : List (Int × Int)) (ao : Option Addr) (cap : Nat) (s : ByteArray) (w : World) (hp : PtsV w (.slice ao ps.length cap) ps) (hs : s.size < 4294967281) (hT : TextW w) (hA : checkC ⟨K, ps⟩ = 0) (hB : invE ⟨K, ps⟩ ≠ 0) (hC : readE (wordsB 32 s) = 0) :
    Calls Tryd.prog 5 #[.agg #[.int .i64 K, .slice ao ps.length cap], .string s] w fun e w' => e = .returned (.bool true) ∧ Below w.heap.size w w' := by
  have HT := Lib.hid (fun W (hb : Below w.heap.size w W) => hT.below hb)
  have HP := Lib.hid (fun W (hb : Below w.heap.size w W) => ptsV_below hp hb)
  have CT := Lib.hid (fun W (hb : Below w.heap.size w W) => curveText_ok (.agg #[.int .i64 K, .slice ao ps.length cap]) ⟨K, ps⟩ W (hT.below hb) ⟨_, rfl, ptsV_below hp hb⟩ hA)
  have CR := Lib.hid (fun W (hb : Below w.heap.size w W) => readCurve_any (curveT ⟨K, ps⟩) W (hT.below hb) (by have := curveT_le ⟨K, ps⟩ hA; omega))
  rw [(text_read ⟨K, ps⟩ hA).1, (text_read ⟨K, ps⟩ hA).2] at CR
  generalize curveT ⟨K, ps⟩ = tx at *
  have CI := Lib.hid (fun W (hb : Below w.heap.size w W) => Inverse_any (.agg #[.int .i64 K, .slice ao ps.length cap]) ⟨K, ps⟩ W ⟨_, rfl, ptsV_below hp hb⟩)
  rw [inv_none ⟨K, ps⟩ hB] at CI
  generalize invE ⟨K, ps⟩ = fb at *
  have fbb : (fb == 0) = false := by simpa using hB
  have CQ := Lib.hid (fun W (hb : Below w.heap.size w W) => readCurve_any s W (hT.below hb) hs)
  obtain ⟨hq1, hq2⟩ := read_text s hC
  rw [hC] at CQ
  have CU := Lib.hid (fun (v : Value) W (hb : Below w.heap.size w W) (hv : CvV W v (readC (wordsB 32 s))) => curveText_ok v (readC (wordsB 32 s)) W (hT.below hb) hv hq1)
  rw [hq2] at CU
  generalize readC (wordsB 32 s) = c3 at *
  obtain ⟨K3, ps3⟩ := c3
  clear hq1 hq2
  clear hA hB hC hp hT hs
  go_enter Tryd.func5, Tryd.ntmps5
  go_wp2_with fail
  refine (CT.out _ below1).mono ?_
  rintro e w1 ⟨rfl, hb⟩
  have hX1 : Below (w.heap.size + 1) (w.alloc (.cells #[.int .i64 K, .slice ao ps.length cap] 31)) w1 := by simpa using hb
  obtain ⟨e0, e1⟩ := box_c hX1
  have hz1 := box_s hX1
  have hw1 := box_w hX1
  clear hb
  go_wp2_with fail
  refine (CR.out _ hw1).mono ?_
  rintro e w2 ⟨_, rfl, ⟨pr, rfl, hpr⟩, hb⟩
  have hX2 := box_step hX1 hb
  obtain ⟨e0, e1⟩ := box_c hX2
  have hz2 := box_s hX2
  have hw2 := box_w hX2
  obtain ⟨ar, cr, rfl⟩ := pts_shape hpr
  clear hb e0 e1 hX1 hz1 hw1
  obtain ⟨e0, e1⟩ := box_c hX2
  have hX2' := box_more (.cells #[.int .i64 K, .slice ar ps.length cr] 31) hX2
  obtain ⟨e0', e1'⟩ := box_c hX2'
  have hpr' := ptsV_below hpr ((Below.refl _ _).alloc (Nat.le_refl _) (.cells #[.int .i64 K, .slice ar ps.length cr] 31))
  have HPR := Lib.hid hpr'
  have hw2' := box_w hX2'
  clear hpr hpr'
  go_wp2_with fail
  refine (sameCurve_yes K _ _ ps _ HPR.out (HP.out _ hw2')).mono ?_
  rintro e w3 ⟨rfl, hb⟩
  have hX3 := box_step hX2' hb
  clear hb e0 e1 e0' e1' hX2 hX2' hz2 hw2 hw2' HPR
  obtain ⟨e0, e1⟩ := box_c hX3
  have hz3 := box_s hX3
  have hw3 := box_w hX3
  go_wp2_with fail
  refine (CI.out _ hw3).mono ?_
  rintro e w4 ⟨_, rfl, ⟨pi, rfl, hpi⟩, hb⟩
  have hX4 := box_step hX3 hb
  clear hb e0 e1 hX3 hz3 hw3
  obtain ⟨ai, ci, rfl⟩ := pts_shape hpi
  have hw4 := box_w hX4
  have hz4 := box_s hX4
  clear hpi
  have hX4' := box_more (.cells #[.int .i64 0, .slice ai 0 ci] 31) hX4
  have hw4' := box_w hX4'
  go_wp2_with fail
  refine (CQ.out _ hw4').mono ?_
  rintro e w5 ⟨_, rfl, ⟨pq, rfl, hpq⟩, hb⟩
  have hX5 := box_step hX4' hb
  have HX := Lib.hid hX5
  clear hb
  obtain ⟨aq, cq, rfl⟩ := pts_shape hpq
  have CU2 := Lib.hid (CU.out _ _ (box_w (box_more (.cells #[.int .i64 K3, .slice aq ps3.length cq] 31) hX5)) ⟨_, rfl, ptsV_below hpq ((Below.refl _ _).alloc (Nat.le_refl _) (.cells #[.int .i64 K3, .slice aq ps3.length cq] 31))⟩)
  clear hpq
  go_wp2_with fail
  refine CU2.out.mono ?_
  rintro e w6 ⟨rfl, hb⟩
  have HB := Lib.hid (box_w (box_step (box_more (.cells #[.int .i64 K3, .slice aq ps3.length cq] 31) HX.out) hb))
  clear hb
  go_wp2
  go_ret
  exact ⟨by first | rfl | (simp; done), HB.out⟩

set_option maxHeartbeats 8000000 in
set_option maxRecDepth 100000 in
theorem walk_011 (K : Int) (ps : List (Int × Int)) (ao : Option Addr) (cap : Nat) (s : ByteArray) (w : World) (hp : PtsV w (.slice ao ps.length cap) ps) (hs : s.size < 4294967281) (hT : TextW w) (hA : checkC ⟨K, ps⟩ = 0) (hB : invE ⟨K, ps⟩ ≠ 0) (hC : readE (wordsB 32 s) ≠ 0) :
    Calls Tryd.prog 5 #[.agg #[.int .i64 K, .slice ao ps.length cap], .string s] w fun e w' => e = .returned (.bool true) ∧ Below w.heap.size w w' := by
  have HT := Lib.hid (fun W (hb : Below w.heap.size w W) => hT.below hb)
  have HP := Lib.hid (fun W (hb : Below w.heap.size w W) => ptsV_below hp hb)
  have CT := Lib.hid (fun W (hb : Below w.heap.size w W) => curveText_ok (.agg #[.int .i64 K, .slice ao ps.length cap]) ⟨K, ps⟩ W (hT.below hb) ⟨_, rfl, ptsV_below hp hb⟩ hA)
  have CR := Lib.hid (fun W (hb : Below w.heap.size w W) => readCurve_any (curveT ⟨K, ps⟩) W (hT.below hb) (by have := curveT_le ⟨K, ps⟩ hA; omega))
  rw [(text_read ⟨K, ps⟩ hA).1, (text_read ⟨K, ps⟩ hA).2] at CR
  generalize curveT ⟨K, ps⟩ = tx at *
  have CI := Lib.hid (fun W (hb : Below w.heap.size w W) => Inverse_any (.agg #[.int .i64 K, .slice ao ps.length cap]) ⟨K, ps⟩ W ⟨_, rfl, ptsV_below hp hb⟩)
  rw [inv_none ⟨K, ps⟩ hB] at CI
  generalize invE ⟨K, ps⟩ = fb at *
  have fbb : (fb == 0) = false := by simpa using hB
  have CQ := Lib.hid (fun W (hb : Below w.heap.size w W) => readCurve_any s W (hT.below hb) hs)
  rw [read_none _ hC] at CQ
  generalize readE (wordsB 32 s) = fc at *
  have fcb : (fc != 0) = true := by simpa using hC
  clear hA hB hC hp hT hs
  go_enter Tryd.func5, Tryd.ntmps5
  go_wp2_with fail
  refine (CT.out _ below1).mono ?_
  rintro e w1 ⟨rfl, hb⟩
  have hX1 : Below (w.heap.size + 1) (w.alloc (.cells #[.int .i64 K, .slice ao ps.length cap] 31)) w1 := by simpa using hb
  obtain ⟨e0, e1⟩ := box_c hX1
  have hz1 := box_s hX1
  have hw1 := box_w hX1
  clear hb
  go_wp2_with fail
  refine (CR.out _ hw1).mono ?_
  rintro e w2 ⟨_, rfl, ⟨pr, rfl, hpr⟩, hb⟩
  have hX2 := box_step hX1 hb
  obtain ⟨e0, e1⟩ := box_c hX2
  have hz2 := box_s hX2
  have hw2 := box_w hX2
  obtain ⟨ar, cr, rfl⟩ := pts_shape hpr
  clear hb e0 e1 hX1 hz1 hw1
  obtain ⟨e0, e1⟩ := box_c hX2
  have hX2' := box_more (.cells #[.int .i64 K, .slice ar ps.length cr] 31) hX2
  obtain ⟨e0', e1'⟩ := box_c hX2'
  have hpr' := ptsV_below hpr ((Below.refl _ _).alloc (Nat.le_refl _) (.cells #[.int .i64 K, .slice ar ps.length cr] 31))
  have HPR := Lib.hid hpr'
  have hw2' := box_w hX2'
  clear hpr hpr'
  go_wp2_with fail
  refine (sameCurve_yes K _ _ ps _ HPR.out (HP.out _ hw2')).mono ?_
  rintro e w3 ⟨rfl, hb⟩
  have hX3 := box_step hX2' hb
  clear hb e0 e1 e0' e1' hX2 hX2' hz2 hw2 hw2' HPR
  obtain ⟨e0, e1⟩ := box_c hX3
  have hz3 := box_s hX3
  have hw3 := box_w hX3
  go_wp2_with fail
  refine (CI.out _ hw3).mono ?_
  rintro e w4 ⟨_, rfl, ⟨pi, rfl, hpi⟩, hb⟩
  have hX4 := box_step hX3 hb
  clear hb e0 e1 hX3 hz3 hw3
  obtain ⟨ai, ci, rfl⟩ := pts_shape hpi
  have hw4 := box_w hX4
  have hz4 := box_s hX4
  clear hpi
  have hX4' := box_more (.cells #[.int .i64 0, .slice ai 0 ci] 31) hX4
  have hw4' := box_w hX4'
  go_wp2_with fail
  refine (CQ.out _ hw4').mono ?_
  rintro e w5 ⟨_, rfl, ⟨pq, rfl, hpq⟩, hb⟩
  have hX5 := box_step hX4' hb
  have HX := Lib.hid hX5
  clear hb
  obtain ⟨aq, cq, rfl⟩ := pts_shape hpq
  clear hpq
  have HB := Lib.hid (box_w (box_more (.cells #[.int .i64 0, .slice aq 0 cq] 31) HX.out))
  go_wp2
  go_ret
  exact ⟨by first | rfl | (simp; done), HB.out⟩

set_option maxHeartbeats 8000000 in
set_option maxRecDepth 100000 in
theorem walk_110 (K : Int) (ps : List (Int × Int)) (ao : Option Addr) (cap : Nat) (s : ByteArray) (w : World) (hp : PtsV w (.slice ao ps.length cap) ps) (hs : s.size < 4294967281) (hT : TextW w) (hA : checkC ⟨K, ps⟩ ≠ 0) (hB : invE ⟨K, ps⟩ ≠ 0) (hC : readE (wordsB 32 s) = 0) :
    Calls Tryd.prog 5 #[.agg #[.int .i64 K, .slice ao ps.length cap], .string s] w fun e w' => e = .returned (.bool true) ∧ Below w.heap.size w w' := by
  have HT := Lib.hid (fun W (hb : Below w.heap.size w W) => hT.below hb)
  have HP := Lib.hid (fun W (hb : Below w.heap.size w W) => ptsV_below hp hb)
  have CT := Lib.hid (fun W (hb : Below w.heap.size w W) => curveText_bad (.agg #[.int .i64 K, .slice ao ps.length cap]) ⟨K, ps⟩ W ⟨_, rfl, ptsV_below hp hb⟩ hA)
  generalize checkC ⟨K, ps⟩ = fa at *
  have fab : (fa == 0) = false := by simpa using hA
  have CI := Lib.hid (fun W (hb : Below w.heap.size w W) => Inverse_any (.agg #[.int .i64 K, .slice ao ps.length cap]) ⟨K, ps⟩ W ⟨_, rfl, ptsV_below hp hb⟩)
  rw [inv_none ⟨K, ps⟩ hB] at CI
  generalize invE ⟨K, ps⟩ = fb at *
  have fbb : (fb == 0) = false := by simpa using hB
  have CQ := Lib.hid (fun W (hb : Below w.heap.size w W) => readCurve_any s W (hT.below hb) hs)
  obtain ⟨hq1, hq2⟩ := read_text s hC
  rw [hC] at CQ
  have CU := Lib.hid (fun (v : Value) W (hb : Below w.heap.size w W) (hv : CvV W v (readC (wordsB 32 s))) => curveText_ok v (readC (wordsB 32 s)) W (hT.below hb) hv hq1)
  rw [hq2] at CU
  generalize readC (wordsB 32 s) = c3 at *
  obtain ⟨K3, ps3⟩ := c3
  clear hq1 hq2
  clear hA hB hC hp hT hs
  go_enter Tryd.func5, Tryd.ntmps5
  go_wp2_with fail
  refine (CT.out _ below1).mono ?_
  rintro e w1 ⟨rfl, hb⟩
  have hX1 : Below (w.heap.size + 1) (w.alloc (.cells #[.int .i64 K, .slice ao ps.length cap] 31)) w1 := by simpa using hb
  obtain ⟨e0, e1⟩ := box_c hX1
  have hz1 := box_s hX1
  have hw1 := box_w hX1
  clear hb
  go_wp2_with fail
  refine (CI.out _ hw1).mono ?_
  rintro e w2 ⟨_, rfl, ⟨pi, rfl, hpi⟩, hb⟩
  have hX2 := box_step hX1 hb
  clear hb e0 e1 hX1 hz1 hw1
  obtain ⟨ai, ci, rfl⟩ := pts_shape hpi
  have hw2 := box_w hX2
  have hz2 := box_s hX2
  clear hpi
  have hX2' := box_more (.cells #[.int .i64 0, .slice ai 0 ci] 31) hX2
  have hw2' := box_w hX2'
  go_wp2_with fail
  refine (CQ.out _ hw2').mono ?_
  rintro e w3 ⟨_, rfl, ⟨pq, rfl, hpq⟩, hb⟩
  have hX3 := box_step hX2' hb
  have HX := Lib.hid hX3
  clear hb
  obtain ⟨aq, cq, rfl⟩ := pts_shape hpq
  have CU2 := Lib.hid (CU.out _ _ (box_w (box_more (.cells #[.int .i64 K3, .slice aq ps3.length cq] 31) hX3)) ⟨_, rfl, ptsV_below hpq ((Below.refl _ _).alloc (Nat.le_refl _) (.cells #[.int .i64 K3, .slice aq ps3.length cq] 31))⟩)
  clear hpq
  go_wp2_with fail
  refine CU2.out.mono ?_
  rintro e w4 ⟨rfl, hb⟩
  have HB := Lib.hid (box_w (box_step (box_more (.cells #[.int .i64 K3, .slice aq ps3.length cq] 31) HX.out) hb))
  clear hb
  go_wp2
  go_ret
  exact ⟨by first | rfl | (simp; done), HB.out⟩

set_option maxHeartbeats 8000000 in
set_option maxRecDepth 100000 in
theorem walk_111 (K : Int) (ps : List (Int × Int)) (ao : Option Addr) (cap : Nat) (s : ByteArray) (w : World) (hp : PtsV w (.slice ao ps.length cap) ps) (hs : s.size < 4294967281) (hT : TextW w) (hA : checkC ⟨K, ps⟩ ≠ 0) (hB : invE ⟨K, ps⟩ ≠ 0) (hC : readE (wordsB 32 s) ≠ 0) :
    Calls Tryd.prog 5 #[.agg #[.int .i64 K, .slice ao ps.length cap], .string s] w fun e w' => e = .returned (.bool true) ∧ Below w.heap.size w w' := by
  have HT := Lib.hid (fun W (hb : Below w.heap.size w W) => hT.below hb)
  have HP := Lib.hid (fun W (hb : Below w.heap.size w W) => ptsV_below hp hb)
  have CT := Lib.hid (fun W (hb : Below w.heap.size w W) => curveText_bad (.agg #[.int .i64 K, .slice ao ps.length cap]) ⟨K, ps⟩ W ⟨_, rfl, ptsV_below hp hb⟩ hA)
  generalize checkC ⟨K, ps⟩ = fa at *
  have fab : (fa == 0) = false := by simpa using hA
  have CI := Lib.hid (fun W (hb : Below w.heap.size w W) => Inverse_any (.agg #[.int .i64 K, .slice ao ps.length cap]) ⟨K, ps⟩ W ⟨_, rfl, ptsV_below hp hb⟩)
  rw [inv_none ⟨K, ps⟩ hB] at CI
  generalize invE ⟨K, ps⟩ = fb at *
  have fbb : (fb == 0) = false := by simpa using hB
  have CQ := Lib.hid (fun W (hb : Below w.heap.size w W) => readCurve_any s W (hT.below hb) hs)
  rw [read_none _ hC] at CQ
  generalize readE (wordsB 32 s) = fc at *
  have fcb : (fc != 0) = true := by simpa using hC
  clear hA hB hC hp hT hs
  go_enter Tryd.func5, Tryd.ntmps5
  go_wp2_with fail
  refine (CT.out _ below1).mono ?_
  rintro e w1 ⟨rfl, hb⟩
  have hX1 : Below (w.heap.size + 1) (w.alloc (.cells #[.int .i64 K, .slice ao ps.length cap] 31)) w1 := by simpa using hb
  obtain ⟨e0, e1⟩ := box_c hX1
  have hz1 := box_s hX1
  have hw1 := box_w hX1
  clear hb
  go_wp2_with fail
  refine (CI.out _ hw1).mono ?_
  rintro e w2 ⟨_, rfl, ⟨pi, rfl, hpi⟩, hb⟩
  have hX2 := box_step hX1 hb
  clear hb e0 e1 hX1 hz1 hw1
  obtain ⟨ai, ci, rfl⟩ := pts_shape hpi
  have hw2 := box_w hX2
  have hz2 := box_s hX2
  clear hpi
  have hX2' := box_more (.cells #[.int .i64 0, .slice ai 0 ci] 31) hX2
  have hw2' := box_w hX2'
  go_wp2_with fail
  refine (CQ.out _ hw2').mono ?_
  rintro e w3 ⟨_, rfl, ⟨pq, rfl, hpq⟩, hb⟩
  have hX3 := box_step hX2' hb
  have HX := Lib.hid hX3
  clear hb
  obtain ⟨aq, cq, rfl⟩ := pts_shape hpq
  clear hpq
  have HB := Lib.hid (box_w (box_more (.cells #[.int .i64 0, .slice aq 0 cq] 31) HX.out))
  go_wp2
  go_ret
  exact ⟨by first | rfl | (simp; done), HB.out⟩

theorem walk (a0 : Value) (s : ByteArray) (w : World) (w0 : ∃ c, CvV w a0 c ∧ CvFit c) (w1 : s.size < 4294967281) (hT : TextW w) :
    Calls Tryd.prog 5 #[a0, .string s] w fun e w' => e = .returned (.bool true) ∧ Below w.heap.size w w' := by
  obtain ⟨⟨K, ps⟩, ⟨p, rfl, hp⟩, _⟩ := w0
  obtain ⟨ao, cap, rfl⟩ := pts_shape hp
  by_cases hB : invE ⟨K, ps⟩ = 0
  · have hA := (inv_back _ hB).1
    by_cases hC : readE (wordsB 32 s) = 0
    · exact walk_000 K ps ao cap s w hp w1 hT hA hB hC
    · exact walk_001 K ps ao cap s w hp w1 hT hA hB hC
  · by_cases hA : checkC ⟨K, ps⟩ = 0 <;> by_cases hC : readE (wordsB 32 s) = 0
    · exact walk_010 K ps ao cap s w hp w1 hT hA hB hC
    · exact walk_011 K ps ao cap s w hp w1 hT hA hB hC
    · exact walk_110 K ps ao cap s w hp w1 hT hA hB hC
    · exact walk_111 K ps ao cap s w hp w1 hT hA hB hC
end Go.Proofs.YtdicoggpcobbpaaDoor.levelCurvesComeBack
