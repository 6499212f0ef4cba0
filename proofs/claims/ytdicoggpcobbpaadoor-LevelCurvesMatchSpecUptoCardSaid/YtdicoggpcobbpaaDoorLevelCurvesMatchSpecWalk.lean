/- The walk of cycloramalaw1.LevelCurvesMatchSpec: for every input (of a text below 2^32 bytes) it returns true (printed by gen/gen_curvesms.py). -/
import Derived.Test.YtdicoggpcobbpaaDoorRReadCurve
import Derived.Test.YtdicoggpcobbpaaDoorRInverse
import Derived.Test.YtdicoggpcobbpaaDoorSameCurve
namespace Go.Proofs.YtdicoggpcobbpaaDoor.levelCurvesMatchSpec
open Go.RowKit
open Classical
set_option linter.unusedVariables false
set_option linter.unusedSimpArgs false

theorem box_step {w W W' : World} {o : Obj} (h : Below (w.heap.size + 1) (w.alloc o) W) (hb : Below W.heap.size W W') : Below (w.heap.size + 1) (w.alloc o) W' := h.trans (hb.mono (by have := h.size; simp at this; omega))
theorem box_more {w W : World} {o : Obj} (o' : Obj) (h : Below (w.heap.size + 1) (w.alloc o) W) : Below (w.heap.size + 1) (w.alloc o) (W.alloc o') := h.alloc (by have := h.size; simp at this; omega) o'
theorem box_w {w W : World} {o : Obj} (h : Below (w.heap.size + 1) (w.alloc o) W) : Below w.heap.size w W := ((Below.refl _ _).alloc (Nat.le_refl _) o).trans (h.mono (by omega))
theorem box_s {w W : World} {o : Obj} (h : Below (w.heap.size + 1) (w.alloc o) W) : w.heap.size < W.heap.size := by have := h.size; simp at this; omega
theorem box_c {w W : World} {x y : Value} {T : TypeId} (h : Below (w.heap.size + 1) (w.alloc (.cells #[x, y] T)) W) : W.cell? ⟨w.heap.size, 0, none⟩ = some x ∧ W.cell? ⟨w.heap.size, 1, none⟩ = some y :=
  ⟨(h.cell (p := ⟨w.heap.size, 0, none⟩) (by show w.heap.size < _; omega)).trans (by simp [go_sem]), (h.cell (p := ⟨w.heap.size, 1, none⟩) (by show w.heap.size < _; omega)).trans (by simp [go_sem])⟩
theorem box_f {w W : World} {x y : Value} {T : TypeId} (h : Below (w.heap.size + 1) (w.alloc (.cells #[x, y] T)) W) : W.frozen? ⟨w.heap.size, 0, none⟩ = false ∧ W.frozen? ⟨w.heap.size, 1, none⟩ = false :=
  ⟨(h.frozen (p := ⟨w.heap.size, 0, none⟩) (by show w.heap.size < _; omega)).trans (by simp [go_sem]), (h.frozen (p := ⟨w.heap.size, 1, none⟩) (by show w.heap.size < _; omega)).trans (by simp [go_sem])⟩
/-- points do not lie in a block whose second cell is a slice -/
theorem pts_keep {b0 : Nat} {W : World} {a : Value} {x : Option Addr} {n m : Nat} (c0 : W.cell? ⟨b0, 0, none⟩ = some a) (c1 : W.cell? ⟨b0, 1, none⟩ = some (.slice x n m)) (c2 : ∀ o, 2 ≤ o → W.cell? ⟨b0, o, none⟩ = none) {p : Value} {ps : List (Int × Int)} (hp : PtsV W p ps) (v0 v1 : Value) :
    PtsV ((W.setCell ⟨b0, 0, none⟩ v0).setCell ⟨b0, 1, none⟩ v1) p ps := by
  rcases hp with h0 | ⟨h0, hm, b, off, cap, rfl, hb, hpt⟩
  · exact .inl h0
  · have hne : b0 ≠ b := by
      rintro rfl
      have h1 := hpt 0 (List.length_pos_iff.2 h0)
      simp only [Nat.zero_mul, Nat.add_zero] at h1
      match off, h1 with
      | 0, h1 => rw [c1] at h1; exact absurd h1.2 (by simp)
      | 1, h1 => rw [c1] at h1; exact absurd h1.1 (by simp)
      | off + 2, h1 => rw [c2 _ (by omega)] at h1; exact absurd h1.1 (by simp)
    refine .inr ⟨h0, hm, b, off, cap, rfl, by simpa [World.setCell] using hb, fun i hi => ?_⟩
    have := hpt i hi
    rw [World.cell?_setCell_far _ _ _ _ hne, World.cell?_setCell_far _ _ _ _ hne, World.cell?_setCell_far _ _ _ _ hne, World.cell?_setCell_far _ _ _ _ hne]
    exact this
theorem box_2 {w W : World} {x y : Value} {T : TypeId} (h : Below (w.heap.size + 1) (w.alloc (.cells #[x, y] T)) W) (o : Nat) (ho : 2 ≤ o) : W.cell? ⟨w.heap.size, o, none⟩ = none := by
  rw [h.cell (p := ⟨w.heap.size, o, none⟩) (by show w.heap.size < _; omega), World.cell?_alloc_new]
  simp
  omega
theorem bothText (K : Int) (ps : List (Int × Int)) (v : Value) (w : World) (hT : ∀ W, Below w.heap.size w W → TextW W) (hv : ∀ W, Below w.heap.size w W → CvV W v ⟨K, ps⟩) : ∃ (t : ByteArray) (f : Int),
    (∀ W, Below w.heap.size w W → Calls Tryd.prog 16 #[v] W fun e w' => e = .returned (.tuple #[.string t, .int .i64 f]) ∧ Below W.heap.size W w') ∧
    (∀ W, Below w.heap.size w W → Calls Tryd.prog 20 #[v] W fun e w' => e = .returned (.tuple #[.string t, .int .i64 f]) ∧ Below W.heap.size W w') := by
  by_cases h : checkC ⟨K, ps⟩ = 0
  · exact ⟨_, _, fun W hb => curveText_ok v _ W (hT W hb) (hv W hb) h, fun W hb => rcurveText_ok v _ W (hT W hb) (hv W hb) h⟩
  · exact ⟨_, _, fun W hb => curveText_bad v _ W (hv W hb) h, fun W hb => rcurveText_bad v _ W (hv W hb) h⟩

set_option maxHeartbeats 8000000 in
set_option maxRecDepth 100000 in
theorem walk_a (K : Int) (ps : List (Int × Int)) (ao : Option Addr) (cap : Nat) (s : ByteArray) (w : World) (hp : PtsV w (.slice ao ps.length cap) ps) (hs : s.size < 4294967281) (hT : TextW w) :
    Calls Tryd.prog 6 #[.agg #[.int .i64 K, .slice ao ps.length cap], .string s] w fun e w' => e = .returned (.bool true) ∧ Below w.heap.size w w' := by
  have CV : ∀ W, Below w.heap.size w W → CvV W (.agg #[.int .i64 K, .slice ao ps.length cap]) ⟨K, ps⟩ := fun W hb => ⟨_, rfl, ptsV_below hp hb⟩
  obtain ⟨t, f, h1, h2⟩ := bothText K ps _ w (fun W hb => hT.below hb) CV
  have CT := Lib.hid h1
  have CU := Lib.hid h2
  have CK := Lib.hid (fun W (hX : Below (w.heap.size + 1) (w.alloc (.cells #[.int .i64 K, .slice ao ps.length cap] 31)) W) => checkCurve_any (.agg #[.int .i64 K, .slice ao ps.length cap]) ⟨K, ps⟩ W (CV W (box_w hX)))
  have CL := Lib.hid (fun W (hX : Below (w.heap.size + 1) (w.alloc (.cells #[.int .i64 K, .slice ao ps.length cap] 31)) W) => rcheckCurve_any (.agg #[.int .i64 K, .slice ao ps.length cap]) ⟨K, ps⟩ W (CV W (box_w hX)))
  have CQ := Lib.hid (fun W (hX : Below (w.heap.size + 1) (w.alloc (.cells #[.int .i64 K, .slice ao ps.length cap] 31)) W) => readCurve_any s W (hT.below (box_w hX)) hs)
  have CR := Lib.hid (fun W (hX : Below (w.heap.size + 1) (w.alloc (.cells #[.int .i64 K, .slice ao ps.length cap] 31)) W) => rreadCurve_any s W (hT.below (box_w hX)) hs)
  have CI := Lib.hid (fun W (hb : Below w.heap.size w W) => Inverse_any (.agg #[.int .i64 K, .slice ao ps.length cap]) ⟨K, ps⟩ W (CV W hb))
  have CJ := Lib.hid (fun W (hb : Below w.heap.size w W) => rInverse_any (.agg #[.int .i64 K, .slice ao ps.length cap]) ⟨K, ps⟩ W (CV W hb))
  have KP := Lib.hid (show ∀ W, Below (w.heap.size + 1) (w.alloc (.cells #[.int .i64 K, .slice ao ps.length cap] 31)) W → (Below (w.heap.size + 1) (w.alloc (.cells #[.int .i64 K, .slice ao ps.length cap] 31)) W ∧ W.cell? ⟨w.heap.size, 0, none⟩ = some (.int .i64 K) ∧ W.cell? ⟨w.heap.size, 1, none⟩ = some (.slice ao ps.length cap)) from fun W h => by obtain ⟨a, b⟩ := box_c h; exact ⟨h, a, b⟩)
  generalize checkC ⟨K, ps⟩ = k at *
  generalize readC (wordsB 32 s) = c3 at *
  generalize readE (wordsB 32 s) = f3 at *
  generalize invR ⟨K, ps⟩ = c4 at *
  generalize invE ⟨K, ps⟩ = f4 at *
  obtain ⟨K3, ps3⟩ := c3
  obtain ⟨K4, ps4⟩ := c4
  clear h1 h2 CV hp hs hT
  go_enter Tryd.func6, Tryd.ntmps6
  go_wp2_with fail
  refine (CT.out _ below1).mono ?_
  rintro e w1 ⟨rfl, hb⟩
  have hX1 : Below (w.heap.size + 1) (w.alloc (.cells #[.int .i64 K, .slice ao ps.length cap] 31)) w1 := by simpa using hb
  obtain ⟨e0, e1⟩ := box_c hX1
  have hz1 := box_s hX1
  clear hb
  go_wp2_with fail
  refine (CU.out _ (box_w hX1)).mono ?_
  rintro e w2 ⟨rfl, hb⟩
  have hX2 := box_step hX1 hb
  clear hb e0 e1 hz1 hX1
  go_wp2_with fail
  have hX2d : Below (w.heap.size + 1) (w.alloc (.cells #[.int .i64 K, .slice ao ps.length cap] 31)) w2.drew := hX2.drew
  go_region_held3 (fun W => Below (w.heap.size + 1) (w.alloc (.cells #[.int .i64 K, .slice ao ps.length cap] 31)) W ∧ W.cell? ⟨w.heap.size, 0, none⟩ = some (.int .i64 K) ∧ W.cell? ⟨w.heap.size, 1, none⟩ = some (.slice ao ps.length cap))
    (exact KP.out _ (by assumption))
    (first
      | (go_at_call 21; (with_reducible refine (CK.out _ (by assumption)).mono ?_); rintro e W1 ⟨rfl, hb1⟩; have hA := box_step (by assumption) hb1; clear hb1)
      | (go_at_call 22; (with_reducible refine (CL.out _ (by assumption)).mono ?_); rintro e W2 ⟨rfl, hb2⟩; have hB := box_step (by assumption) hb2; clear hb2)
      | fail)
  all_goals
    go_wp2_with fail
    (with_reducible refine (CQ.out _ (by assumption)).mono ?_)
    rintro e w4 ⟨_, rfl, ⟨pq, rfl, hpq⟩, hb⟩
    have hX4 := box_step (by assumption) hb
    clear hb hA hB hX2 hX2d
    obtain ⟨aq, cq, rfl⟩ := pts_shape hpq
    have hz4 := box_s hX4
    have hX4' := box_more (.cells #[.int .i64 K3, .slice aq ps3.length cq] 31) hX4
    go_wp2_with fail
    refine (CR.out _ hX4').mono ?_
    rintro e w5 ⟨_, rfl, ⟨pr, rfl, hpr⟩, hb⟩
    have hX5 := box_step hX4' hb
    have hx5 : Below (w4.heap.size + 1) (w4.alloc (.cells #[.int .i64 K3, .slice aq ps3.length cq] 31)) w5 := by simpa using hb
    have hpq5 := ptsV_below (ptsV_below hpq ((Below.refl _ _).alloc (Nat.le_refl _) (.cells #[.int .i64 K3, .slice aq ps3.length cq] 31))) hb
    clear hb hX4' hpq hX4
    obtain ⟨ar, cr, rfl⟩ := pts_shape hpr
    have hz5 := box_s hx5
    have hX5' := box_more (.cells #[.int .i64 K3, .slice ar ps3.length cr] 31) hX5
    have hx5' := box_more (.cells #[.int .i64 K3, .slice ar ps3.length cr] 31) hx5
    have HQ := Lib.hid (ptsV_below hpq5 ((Below.refl _ _).alloc (Nat.le_refl _) (.cells #[.int .i64 K3, .slice ar ps3.length cr] 31)))
    have HR := Lib.hid (ptsV_below hpr ((Below.refl _ _).alloc (Nat.le_refl _) (.cells #[.int .i64 K3, .slice ar ps3.length cr] 31)))
    clear hpq5 hpr
    obtain ⟨x0, x1⟩ := box_c hx5
    have y0 : (w5.alloc (.cells #[.int .i64 K3, .slice ar ps3.length cr] 31)).cell? ⟨w5.heap.size, 0, none⟩ = some (.int .i64 K3) := by simp [go_sem]
    have hX5s := box_s hX5
    go_wp2_with fail
    refine (sameCurve_yes K3 _ _ ps3 _ HQ.out HR.out).mono ?_
    rintro e w6 ⟨rfl, hb⟩
    have hX6 := box_step hX5' hb
    have hx6 := box_step hx5' hb
    have hy6 : Below (w5.heap.size + 1) (w5.alloc (.cells #[.int .i64 K3, .slice ar ps3.length cr] 31)) w6 := by simpa using hb
    clear hb hX5 hX5' hx5 hx5' x0 x1 y0 HQ HR
    obtain ⟨e0, e1⟩ := box_c hX6
    have hX6s := box_s hX6
    go_wp2_with fail
    refine (CI.out _ (box_w hX6)).mono ?_
    rintro e w7 ⟨_, rfl, ⟨pi, rfl, hpi⟩, hb⟩
    have hX7 := box_step hX6 hb
    have hx7 := box_step hx6 hb
    have hy7 := box_step hy6 hb
    clear hb hX6 hx6 hy6 e0 e1 hX6s
    obtain ⟨ai, ci, rfl⟩ := pts_shape hpi
    obtain ⟨x0, x1⟩ := box_c hx7
    obtain ⟨g0, g1⟩ := box_f hx7
    obtain ⟨e0, e1⟩ := box_c hX7
    obtain ⟨y0, y1⟩ := box_c hy7
    obtain ⟨k0, k1⟩ := box_f hy7
    have n1 : w4.heap.size ≠ w.heap.size := by omega
    have n2 : w4.heap.size ≠ w5.heap.size := by omega
    have n3 : w5.heap.size ≠ w.heap.size := by omega
    have HI := Lib.hid (pts_keep x0 x1 (box_2 hx7) hpi (.int .i64 K4) (.slice ai ps4.length ci))
    have hs7 := hx7.size
    obtain ⟨wa, hwa⟩ : ∃ wa, (w7.setCell ⟨w4.heap.size, 0, none⟩ (.int .i64 K4)).setCell ⟨w4.heap.size, 1, none⟩ (.slice ai ps4.length ci) = wa := ⟨_, rfl⟩
    have f0 : wa.cell? ⟨w.heap.size, 0, none⟩ = some (.int .i64 K) := by rw [← hwa, World.cell?_setCell_far _ _ _ _ n1, World.cell?_setCell_far _ _ _ _ n1]; exact e0
    have f1 : wa.cell? ⟨w.heap.size, 1, none⟩ = some (.slice ao ps.length cap) := by rw [← hwa, World.cell?_setCell_far _ _ _ _ n1, World.cell?_setCell_far _ _ _ _ n1]; exact e1
    have z0 : wa.cell? ⟨w5.heap.size, 0, none⟩ = some (.int .i64 K3) := by rw [← hwa, World.cell?_setCell_far _ _ _ _ n2, World.cell?_setCell_far _ _ _ _ n2]; exact y0
    have z1 : wa.cell? ⟨w5.heap.size, 1, none⟩ = some (.slice ar ps3.length cr) := by rw [← hwa, World.cell?_setCell_far _ _ _ _ n2, World.cell?_setCell_far _ _ _ _ n2]; exact y1
    have z2 : ∀ o, 2 ≤ o → wa.cell? ⟨w5.heap.size, o, none⟩ = none := fun o ho => by rw [← hwa, World.cell?_setCell_far _ _ _ _ n2, World.cell?_setCell_far _ _ _ _ n2]; exact box_2 hy7 o ho
    have u0 : wa.cell? ⟨w4.heap.size, 0, none⟩ = some (.int .i64 K4) := by rw [← hwa]; simp [go_sem, x0, x1]
    have u1 : wa.cell? ⟨w4.heap.size, 1, none⟩ = some (.slice ai ps4.length ci) := by rw [← hwa]; simp [go_sem, x0, x1]
    have l0 : wa.frozen? ⟨w5.heap.size, 0, none⟩ = false := by rw [← hwa]; simp [go_sem, k0]
    have l1 : wa.frozen? ⟨w5.heap.size, 1, none⟩ = false := by rw [← hwa]; simp [go_sem, k1]
    have hsa : wa.heap.size = w7.heap.size := by rw [← hwa]; simp [World.setCell]
    have hba : Below w.heap.size w wa := by rw [← hwa]; exact ((box_w hX7).setCell (by show w.heap.size ≤ w4.heap.size; omega) _).setCell (by show w.heap.size ≤ w4.heap.size; omega) _
    rw [hwa] at HI
    have HWA := Lib.hid hwa
    have hsy := hy7.size
    have s5 : w5.heap.size < wa.heap.size := by simp at hsy; omega
    have s4 : w4.heap.size < wa.heap.size := by omega
    clear hwa hpi y0 y1 k0 k1 hs7 hsy
    go_wp2_with fail
    rw [HWA.out]
    clear x0 x1 g0 g1 e0 e1 hX7 hx7 hy7 HWA
    refine (CJ.out _ hba).mono ?_
    rintro e w8 ⟨_, rfl, ⟨pj, rfl, hpj⟩, hb⟩
    obtain ⟨aj, cj, rfl⟩ := pts_shape hpj
    have u0' := (hb.cell (p := ⟨w4.heap.size, 0, none⟩) (by exact s4)).trans u0
    have u1' := (hb.cell (p := ⟨w4.heap.size, 1, none⟩) (by exact s4)).trans u1
    have z0' := (hb.cell (p := ⟨w5.heap.size, 0, none⟩) (by exact s5)).trans z0
    have z1' := (hb.cell (p := ⟨w5.heap.size, 1, none⟩) (by exact s5)).trans z1
    have z2' : ∀ o, 2 ≤ o → w8.cell? ⟨w5.heap.size, o, none⟩ = none := fun o ho => (hb.cell (p := ⟨w5.heap.size, o, none⟩) (by exact s5)).trans (z2 o ho)
    have l0' := (hb.frozen (p := ⟨w5.heap.size, 0, none⟩) (by exact s5)).trans l0
    have l1' := (hb.frozen (p := ⟨w5.heap.size, 1, none⟩) (by exact s5)).trans l1
    have HI8 := Lib.hid (pts_keep z0' z1' z2' (ptsV_below HI.out hb) (.int .i64 K4) (.slice aj ps4.length cj))
    have HJ8 := Lib.hid (pts_keep z0' z1' z2' hpj (.int .i64 K4) (.slice aj ps4.length cj))
    have n4 : w5.heap.size ≠ w4.heap.size := by omega
    have hb8 : Below w.heap.size w w8 := hba.trans (hb.mono (by have := hba.size; omega))
    obtain ⟨wb, hwb⟩ : ∃ wb, (w8.setCell ⟨w5.heap.size, 0, none⟩ (.int .i64 K4)).setCell ⟨w5.heap.size, 1, none⟩ (.slice aj ps4.length cj) = wb := ⟨_, rfl⟩
    have a0 : wb.cell? ⟨w4.heap.size, 0, none⟩ = some (.int .i64 K4) := by rw [← hwb, World.cell?_setCell_far _ _ _ _ n4, World.cell?_setCell_far _ _ _ _ n4]; exact u0'
    have a1 : wb.cell? ⟨w4.heap.size, 1, none⟩ = some (.slice ai ps4.length ci) := by rw [← hwb, World.cell?_setCell_far _ _ _ _ n4, World.cell?_setCell_far _ _ _ _ n4]; exact u1'
    have b0 : wb.cell? ⟨w5.heap.size, 0, none⟩ = some (.int .i64 K4) := by rw [← hwb]; simp [go_sem, z0', z1']
    have b1 : wb.cell? ⟨w5.heap.size, 1, none⟩ = some (.slice aj ps4.length cj) := by rw [← hwb]; simp [go_sem, z0', z1']
    have hbb : Below w.heap.size w wb := by rw [← hwb]; exact (hb8.setCell (by show w.heap.size ≤ w5.heap.size; omega) _).setCell (by show w.heap.size ≤ w5.heap.size; omega) _
    rw [hwb] at HI8 HJ8
    have HWB := Lib.hid hwb
    have HBB := Lib.hid hbb
    clear hwb hbb hb8 hb hpj u0 u1 z0 z1 z2 z2' l0 l1 f0 f1 hba
    go_wp2_with fail
    rw [HWB.out]
    refine (sameCurve_yes K4 _ _ ps4 _ HI8.out HJ8.out).mono ?_
    rintro e w9 ⟨rfl, hb⟩
    have HB := Lib.hid (HBB.out.trans (hb.mono HBB.out.size))
    clear hb
    go_wp2
    go_ret
    exact ⟨by first | rfl | (simp; done), HB.out⟩

theorem walk (a0 : Value) (s : ByteArray) (w : World) (w0 : ∃ c, CvV w a0 c ∧ CvFit c) (w1 : s.size < 4294967281) (hT : TextW w) :
    Calls Tryd.prog 6 #[a0, .string s] w fun e w' => e = .returned (.bool true) ∧ Below w.heap.size w w' := by
  obtain ⟨⟨K, ps⟩, ⟨p, rfl, hp⟩, _⟩ := w0
  obtain ⟨ao, cap, rfl⟩ := pts_shape hp
  exact walk_a K ps ao cap s w hp w1 hT
end Go.Proofs.YtdicoggpcobbpaaDoor.levelCurvesMatchSpec
