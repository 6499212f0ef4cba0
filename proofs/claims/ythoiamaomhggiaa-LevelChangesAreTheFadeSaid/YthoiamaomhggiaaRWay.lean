/- The reference's Way, for curves without points. -/
import Derived.Test.YthoiamaomhggiaaRCheck
namespace Go.Proofs.Ythoiamaomhggiaa
open Go.RowKit
set_option linter.unusedVariables false
set_option linter.unusedSimpArgs false

/-- a fraction, wherever its rows lie -/
def WayQ (p : Int) (d : Nat) (w : World) (e : Ending) (w' : World) : Prop := ∃ v, e = .returned v ∧ IsQ w'.heap.size w' v p d ∧ Below w.heap.size w w'
theorem three_alloc {w W : World} {o1 o2 o3 : Obj} (h : Below (((w.alloc o1).alloc o2).alloc o3).heap.size (((w.alloc o1).alloc o2).alloc o3) W) : Below w.heap.size w W ∧ w.heap.size + 1 + 1 + 1 ≤ W.heap.size := by
  have h1 := h.size
  simp at h1
  exact ⟨((((Below.refl _ _).alloc (Nat.le_refl _) o1).alloc (by simp) o2).alloc (by simp <;> omega) o3).trans (h.mono (by simp <;> omega)), by omega⟩
theorem box_b {w : World} {o1 o3 : Obj} {c0 c1 c2 : Value} {T : TypeId} : Box3 (((w.alloc o1).alloc (.cells #[c0, c1, c2] T)).alloc o3) (w.heap.size + 1) c0 c1 c2 := by
  have := (box_new (w.alloc o1) c0 c1 c2 T).alloc (by simp) o3
  simpa using this
theorem box_r {w : World} {o1 o2 : Obj} {c0 c1 c2 : Value} {T : TypeId} : Box3 (((w.alloc o1).alloc o2).alloc (.cells #[c0, c1, c2] T)) (w.heap.size + 1 + 1) c0 c1 c2 := by
  have := box_new ((w.alloc o1).alloc o2) c0 c1 c2 T
  simpa using this
theorem box_k {w : World} {x y : Value} {T : TypeId} {o2 o3 : Obj} : (((w.alloc (.cells #[x, y] T)).alloc o2).alloc o3).cell? ⟨w.heap.size, 0, none⟩ = some x := by
  simp [go_sem, World.cell?_alloc_past]
theorem isQ_old {B g d : Nat} {p : Int} {w W : World} {v u0 u1 u2 : Value} (h : IsQ B w v p d) (hb : Below B w W) (hg : B ≤ g) (hs : B ≤ W.heap.size) : IsQ W.heap.size (((W.setCell ⟨g, 0, none⟩ u0).setCell ⟨g, 1, none⟩ u1).setCell ⟨g, 2, none⟩ u2) v p d := (h.below (below_set3 hb hg)).more hs
/-- numbers of a part of a time -/
structure PQ (p q : Nat) : Prop where
  pq : p ≤ q
  q0 : 0 < q
  q9 : q ≤ 36000000
theorem PQ.unit {p q : Nat} (h : PQ p q) : Unit1 (p : Int) q := ⟨by omega, by have := h.pq; omega, h.q0, Nat.lt_of_le_of_lt h.q9 (by decide)⟩
theorem PQ.sm {p q : Nat} (h : PQ p q) : Sm (p : Int) q := h.unit.sm
theorem sm_num {p : Int} {d : Nat} (h1 : p.natAbs ≤ 10000000000000000000000000000000) (h2 : d ≤ 10000000000000000000000000000000) : Sm p d :=
  ⟨Nat.lt_of_le_of_lt h1 (by decide), Nat.lt_of_le_of_lt h2 (by decide)⟩
theorem Box3.set3 {W : World} {g g' : Nat} {c0 c1 c2 u0 u1 u2 : Value} (h : Box3 W g c0 c1 c2) (hg : g ≠ g') : Box3 (((W.setCell ⟨g', 0, none⟩ u0).setCell ⟨g', 1, none⟩ u1).setCell ⟨g', 2, none⟩ u2) g c0 c1 c2 := by
  have hb : (((W.setCell ⟨g', 0, none⟩ u0).setCell ⟨g', 1, none⟩ u1).setCell ⟨g', 2, none⟩ u2).heap[g]? = W.heap[g]? := by
    rw [heap_setCell_other _ _ _ _ (by simpa using hg), heap_setCell_other _ _ _ _ (by simpa using hg), heap_setCell_other _ _ _ _ (by simpa using hg)]
  have hc : ∀ i, (((W.setCell ⟨g', 0, none⟩ u0).setCell ⟨g', 1, none⟩ u1).setCell ⟨g', 2, none⟩ u2).cell? ⟨g, i, none⟩ = W.cell? ⟨g, i, none⟩ := fun i => World.cell?_of_block (a := ⟨g, i, none⟩) hb
  have hf : ∀ i, (((W.setCell ⟨g', 0, none⟩ u0).setCell ⟨g', 1, none⟩ u1).setCell ⟨g', 2, none⟩ u2).frozen? ⟨g, i, none⟩ = W.frozen? ⟨g, i, none⟩ := fun i => World.frozen?_of_block (a := ⟨g, i, none⟩) hb
  exact ⟨(hc 0).trans h.c0, (hc 1).trans h.c1, (hc 2).trans h.c2, (hf 0).trans h.f0, (hf 1).trans h.f1, (hf 2).trans h.f2⟩
def stepN (p q : Nat) : Int := if p < q then 0 else 1
theorem sq_le {a b M : Nat} (h1 : a ≤ M) (h2 : b ≤ M) : a * b ≤ M * M := Nat.mul_le_mul h1 h2

set_option maxHeartbeats 8000000 in
set_option maxRecDepth 100000 in
theorem rway1 (B p q : Nat) (cp v : Value) (w : World) (hB : B ≤ w.heap.size) (h : PQ p q) (hv : IsQ B w v (p : Int) q) :
    Calls Try.prog 61 #[.agg #[.int .i64 1, cp], v] w (WayQ ((p : Int)) (q) w) := by
  obtain ⟨s, ao, L, cap, bo, M, cap2, rfl⟩ := isQ_shape hv
  have HV := Lib.hid hv
  clear hv
  go_enter Try.func61, Try.ntmps61
  go_wp2_with fail
  refine (whole_any 1 _ (by omega) (by omega)).mono ?_
  rintro e w1 ⟨v1, rfl, hq1, hnv1, hb1⟩
  obtain ⟨hbw, hsz⟩ := three_alloc hb1
  have hk1 := (hb1.cell (p := ⟨w.heap.size, 0, none⟩) (by simp <;> omega)).trans box_k
  have HX1 := Lib.hid (box_b.below hb1 (by simp))
  have HR1 := Lib.hid (box_r.below hb1 (by simp <;> omega))
  have HBW := Lib.hid hbw
  have HQ1 := Lib.hid hq1
  obtain ⟨s1, ao1, L1, cap1, bo1, M1, capm1, rfl⟩ := isQ_shape hq1
  have HN1 := Lib.hid (hnv1.less (lo' := w.heap.size + 1 + 1 + 1) (by simp <;> omega))
  clear hq1 hnv1 hb1 hbw
  obtain ⟨x0, x1, x2, y0, y1, y2⟩ := HX1.out
  obtain ⟨r0, r1, r2, r3, r4, r5⟩ := HR1.out
  have z0 : w.heap.size < w1.heap.size := by omega
  have z1 : w.heap.size + 1 < w1.heap.size := by omega
  have z2 : w.heap.size + 1 + 1 < w1.heap.size := by omega
  go_wp2
  have hX := (below_set3 (g := w.heap.size + 1 + 1) (u0 := .bool s) (u1 := .slice ao L cap) (u2 := .slice bo M cap2) HBW.out (by omega)).alloc (by simp <;> omega) (.cells #[.bool s1, .slice ao1 L1 cap1, .slice bo1 M1 capm1] 70)
  exact bodyPost_ret (v := .agg #[.bool s, .slice ao L cap, .slice bo M cap2]) (by simp [results, Try.results61, go_sem, World.cell?_alloc_past, x0, x1, x2, r0, r1, r2, z0, z1, z2]) rfl ⟨_, rfl, (HV.out.below (hX.mono hB)).more (Nat.le_trans hB hX.size), hX⟩

set_option maxHeartbeats 8000000 in
set_option maxRecDepth 100000 in
theorem rway2 (B p q : Nat) (cp v : Value) (w : World) (hB : B ≤ w.heap.size) (h : PQ p q) (hv : IsQ B w v (p : Int) q) :
    Calls Try.prog 61 #[.agg #[.int .i64 2, cp], v] w (WayQ (((p * p : Nat) : Int)) (q * q) w) := by
  obtain ⟨s, ao, L, cap, bo, M, cap2, rfl⟩ := isQ_shape hv
  have HV := Lib.hid hv
  have hs : Sm ((p : Int) * (p : Int)) (q * q) := sm_num (by rw [← Int.natCast_mul]; have := sq_le (show p ≤ 36000000 by have := h.pq; have := h.q9; omega) (show p ≤ 36000000 by have := h.pq; have := h.q9; omega); omega) (by have := sq_le h.q9 h.q9; omega)
  have HT := Lib.hid (fun (W : World) (hW : Below w.heap.size w W) => timesQ B q q p p _ _ W (Nat.le_trans hB hW.size) h.sm h.sm hs (hv.below (hW.mono hB)) (hv.below (hW.mono hB)))
  rw [show (p : Int) * (p : Int) = ((p * p : Nat) : Int) from (Int.natCast_mul p p).symm] at HT
  clear hs
  clear hv
  go_enter Try.func61, Try.ntmps61
  go_wp2_with fail
  refine (whole_any 1 _ (by omega) (by omega)).mono ?_
  rintro e w1 ⟨v1, rfl, hq1, hnv1, hb1⟩
  obtain ⟨hbw, hsz⟩ := three_alloc hb1
  have hk1 := (hb1.cell (p := ⟨w.heap.size, 0, none⟩) (by simp <;> omega)).trans box_k
  have HX1 := Lib.hid (box_b.below hb1 (by simp))
  have HR1 := Lib.hid (box_r.below hb1 (by simp <;> omega))
  have HBW := Lib.hid hbw
  have HQ1 := Lib.hid hq1
  obtain ⟨s1, ao1, L1, cap1, bo1, M1, capm1, rfl⟩ := isQ_shape hq1
  have HN1 := Lib.hid (hnv1.less (lo' := w.heap.size + 1 + 1 + 1) (by simp <;> omega))
  clear hq1 hnv1 hb1 hbw
  obtain ⟨x0, x1, x2, y0, y1, y2⟩ := HX1.out
  obtain ⟨r0, r1, r2, r3, r4, r5⟩ := HR1.out
  have z0 : w.heap.size < w1.heap.size := by omega
  have z1 : w.heap.size + 1 < w1.heap.size := by omega
  have z2 : w.heap.size + 1 + 1 < w1.heap.size := by omega
  go_wp2_with fail
  refine (HT.out _ (HBW.out.alloc (by omega) _)).mono ?_
  rintro e w2 ⟨v2, rfl, hq2, hnv2, hb2⟩
  obtain ⟨t0, t1, t2, t3, t4, t5⟩ := (HR1.out.alloc (by omega) _).below hb2 (by simp <;> omega)
  have HB2 := Lib.hid (HBW.out.trans ((Below.refl _ _).alloc (by omega) _ |>.trans (hb2.mono (by simp <;> omega))))
  have HQ2 := Lib.hid hq2
  have HNV := Lib.hid (hnv2.less (lo' := w.heap.size + 1 + 1 + 1) (by simp <;> omega))
  obtain ⟨s2, ao2, L2, cap3, bo2, M2, cap4, rfl⟩ := isQ_shape hq2
  clear hq2 hnv2 hb2 x0 x1 x2 y0 y1 y2 r0 r1 r2 r3 r4 r5 hk1
  go_wp2
  refine bodyPost_ret (v := .agg #[.bool s2, .slice ao2 L2 cap3, .slice bo2 M2 cap4]) (by simp [results, Try.results61, go_sem, t0, t1, t2]) rfl ⟨_, rfl, ?_, below_set3 HB2.out (by omega)⟩
  rw [size_set3]
  exact HQ2.out.set3 HNV.out

set_option maxHeartbeats 8000000 in
set_option maxRecDepth 100000 in
theorem rway4 (B p q : Nat) (cp v : Value) (w : World) (hB : B ≤ w.heap.size) (h : PQ p q) (hv : IsQ B w v (p : Int) q) :
    Calls Try.prog 61 #[.agg #[.int .i64 4, cp], v] w (WayQ ((p : Int) * (p : Int) * ((3 : Int) * ((q * q : Nat) : Int) - ((p : Int) * (q : Int) + (p : Int) * (q : Int)) * ((1 : Nat) : Int))) (q * q * (1 * (q * q))) w) := by
  obtain ⟨s, ao, L, cap, bo, M, cap2, rfl⟩ := isQ_shape hv
  have HV := Lib.hid hv
  have p9 : p ≤ 36000000 := Nat.le_trans h.pq h.q9
  have bpp : p * p ≤ 1296000000000000 := sq_le p9 p9
  have bpq : p * q ≤ 1296000000000000 := sq_le p9 h.q9
  have bqq : q * q ≤ 1296000000000000 := sq_le h.q9 h.q9
  have epp : (p : Int) * (p : Int) = ((p * p : Nat) : Int) := (Int.natCast_mul p p).symm
  have epq : (p : Int) * (q : Int) = ((p * q : Nat) : Int) := (Int.natCast_mul p q).symm
  have sA : Sm ((p : Int) * (p : Int)) (q * q) := sm_num (by rw [epp]; omega) (by omega)
  have sP : Sm ((p : Int) * (q : Int) + (p : Int) * (q : Int)) (q * q) := sm_num (by rw [epq]; omega) (by omega)
  have s3 : Sm 3 1 := sm_num (by omega) (by omega)
  have bM : ((3 : Int) * ((q * q : Nat) : Int) - ((p : Int) * (q : Int) + (p : Int) * (q : Int)) * ((1 : Nat) : Int)).natAbs ≤ 1296000000000000 * 3 := by rw [epq]; omega
  have sM : Sm ((3 : Int) * ((q * q : Nat) : Int) - ((p : Int) * (q : Int) + (p : Int) * (q : Int)) * ((1 : Nat) : Int)) (1 * (q * q)) := sm_num (by omega) (by omega)
  have sR : Sm ((p : Int) * (p : Int) * ((3 : Int) * ((q * q : Nat) : Int) - ((p : Int) * (q : Int) + (p : Int) * (q : Int)) * ((1 : Nat) : Int))) (q * q * (1 * (q * q))) := sm_num (by
    rw [Int.natAbs_mul, epp]
    have := Nat.mul_le_mul bpp bM
    simp only [Int.natAbs_natCast]
    omega) (by rw [Nat.one_mul]; have := Nat.mul_le_mul bqq bqq; omega)
  have HA := Lib.hid (fun (W : World) (hW : Below w.heap.size w W) => timesQ B q q p p _ _ W (Nat.le_trans hB hW.size) h.sm h.sm sA (hv.below (hW.mono hB)) (hv.below (hW.mono hB)))
  have HP := Lib.hid (fun (W : World) (hW : Below w.heap.size w W) => plusQ B q q p p _ _ W (Nat.le_trans hB hW.size) h.sm h.sm sP (hv.below (hW.mono hB)) (hv.below (hW.mono hB)))
  have HK := Lib.hid (fun W => whole_any 3 W (by omega) (by omega))
  have HM := Lib.hid (fun (W : World) u u2 hu hu2 => minusQ W.heap.size 1 (q * q) 3 ((p : Int) * (q : Int) + (p : Int) * (q : Int)) u u2 W (Nat.le_refl _) s3 sP sM hu hu2)
  have HR := Lib.hid (fun (W : World) u u2 hu hu2 => timesQ W.heap.size (q * q) (1 * (q * q)) ((p : Int) * (p : Int)) ((3 : Int) * ((q * q : Nat) : Int) - ((p : Int) * (q : Int) + (p : Int) * (q : Int)) * ((1 : Nat) : Int)) u u2 W (Nat.le_refl _) sA sM sR hu hu2)
  clear p9 bpp bpq bqq epp epq sA sP s3 bM sM sR
  clear hv
  go_enter Try.func61, Try.ntmps61
  go_wp2_with fail
  refine (whole_any 1 _ (by omega) (by omega)).mono ?_
  rintro e w1 ⟨v1, rfl, hq1, hnv1, hb1⟩
  obtain ⟨hbw, hsz⟩ := three_alloc hb1
  have hk1 := (hb1.cell (p := ⟨w.heap.size, 0, none⟩) (by simp <;> omega)).trans box_k
  have HX1 := Lib.hid (box_b.below hb1 (by simp))
  have HR1 := Lib.hid (box_r.below hb1 (by simp <;> omega))
  have HBW := Lib.hid hbw
  have HQ1 := Lib.hid hq1
  obtain ⟨s1, ao1, L1, cap1, bo1, M1, capm1, rfl⟩ := isQ_shape hq1
  have HN1 := Lib.hid (hnv1.less (lo' := w.heap.size + 1 + 1 + 1) (by simp <;> omega))
  clear hq1 hnv1 hb1 hbw
  obtain ⟨x0, x1, x2, y0, y1, y2⟩ := HX1.out
  obtain ⟨r0, r1, r2, r3, r4, r5⟩ := HR1.out
  have z0 : w.heap.size < w1.heap.size := by omega
  have z1 : w.heap.size + 1 < w1.heap.size := by omega
  have z2 : w.heap.size + 1 + 1 < w1.heap.size := by omega
  go_wp2_with fail
  have HRES := Lib.hid (HR1.out.alloc (by omega) (.cells #[.bool s1, .slice ao1 L1 cap1, .slice bo1 M1 capm1] 70))
  have HEND := Lib.hid (show ∀ W, Below (w1.heap.size + 1) (w1.alloc (.cells #[.bool s1, .slice ao1 L1 cap1, .slice bo1 M1 capm1] 70)) W → Below w.heap.size w W from fun W hW => (HBW.out.alloc (by omega) _).trans (hW.mono (by omega)))
  have HSZ := Lib.hid (show ∀ W, Below (w1.heap.size + 1) (w1.alloc (.cells #[.bool s1, .slice ao1 L1 cap1, .slice bo1 M1 capm1] 70)) W → w.heap.size + 1 + 1 + 1 ≤ W.heap.size from fun W hW => by
    have := hW.size
    simp at this
    omega)
  have HSB := Lib.hid (show ∀ W, Below (w1.heap.size + 1) (w1.alloc (.cells #[.bool s1, .slice ao1 L1 cap1, .slice bo1 M1 capm1] 70)) W → (w1.heap.size + 1) ≤ W.heap.size from fun W hW => by
    have := hW.size
    simpa using this)
  have HT0 := Lib.hid (show ∀ W W', Below (w1.heap.size + 1) (w1.alloc (.cells #[.bool s1, .slice ao1 L1 cap1, .slice bo1 M1 capm1] 70)) W → Below W.heap.size W W' → Below (w1.heap.size + 1) (w1.alloc (.cells #[.bool s1, .slice ao1 L1 cap1, .slice bo1 M1 capm1] 70)) W' from fun W W' h1 h2 => h1.trans (h2.mono (HSB.out W h1)))
  have hxa := HX1.out.alloc (by omega) (.cells #[.bool s1, .slice ao1 L1 cap1, .slice bo1 M1 capm1] 70)
  clear x0 x1 x2 y0 y1 y2 r0 r1 r2 r3 r4 r5
  have KP := Lib.hid (show ∀ W, Below (w1.heap.size + 1) (w1.alloc (.cells #[.bool s1, .slice ao1 L1 cap1, .slice bo1 M1 capm1] 70)) W → (W.cell? ⟨w.heap.size + 1, 0, none⟩ = some (.bool s) ∧ W.cell? ⟨w.heap.size + 1, 1, none⟩ = some (.slice ao L cap) ∧ W.cell? ⟨w.heap.size + 1, 2, none⟩ = some (.slice bo M cap2)) from fun W hW => by
    have e0 := hxa.below hW (by first | omega | (simp <;> omega))
    exact ⟨e0.c0, e0.c1, e0.c2⟩)
  have KQ := Lib.hid (show ∀ W u0 u1 u2, Below (w1.heap.size + 1) (w1.alloc (.cells #[.bool s1, .slice ao1 L1 cap1, .slice bo1 M1 capm1] 70)) W → ((((W.setCell ⟨w.heap.size + 1 + 1, 0, none⟩ u0).setCell ⟨w.heap.size + 1 + 1, 1, none⟩ u1).setCell ⟨w.heap.size + 1 + 1, 2, none⟩ u2).cell? ⟨w.heap.size + 1, 0, none⟩ = some (.bool s) ∧ (((W.setCell ⟨w.heap.size + 1 + 1, 0, none⟩ u0).setCell ⟨w.heap.size + 1 + 1, 1, none⟩ u1).setCell ⟨w.heap.size + 1 + 1, 2, none⟩ u2).cell? ⟨w.heap.size + 1, 1, none⟩ = some (.slice ao L cap) ∧ (((W.setCell ⟨w.heap.size + 1 + 1, 0, none⟩ u0).setCell ⟨w.heap.size + 1 + 1, 1, none⟩ u1).setCell ⟨w.heap.size + 1 + 1, 2, none⟩ u2).cell? ⟨w.heap.size + 1, 2, none⟩ = some (.slice bo M cap2)) from fun W u0 u1 u2 hW => by
    have e0 := (hxa.below hW (by first | omega | (simp <;> omega))).set3 (g' := w.heap.size + 1 + 1) (u0 := u0) (u1 := u1) (u2 := u2) (by first | omega | (simp <;> omega))
    exact ⟨e0.c0, e0.c1, e0.c2⟩)
  have hw0 : Below (w1.heap.size + 1) (w1.alloc (.cells #[.bool s1, .slice ao1 L1 cap1, .slice bo1 M1 capm1] 70)) (World.drew (w1.alloc (.cells #[.bool s1, .slice ao1 L1 cap1, .slice bo1 M1 capm1] 70))) := (Below.refl _ _).drew
  go_region_held3 (fun W => W.cell? ⟨w.heap.size + 1, 0, none⟩ = some (.bool s) ∧ W.cell? ⟨w.heap.size + 1, 1, none⟩ = some (.slice ao L cap) ∧ W.cell? ⟨w.heap.size + 1, 2, none⟩ = some (.slice bo M cap2))
    (first | exact KP.out _ (by assumption) | exact KQ.out _ _ _ _ (by assumption))
    (first
      | (go_at_call 78; ((with_reducible refine (HA.out _ (HEND.out _ (by assumption))).mono ?_); rintro e WA ⟨vA, rfl, hq, hnv, hb⟩; have hwA := HT0.out _ _ (by assumption) hb; have HQA := Lib.hid hq; have HNA := Lib.hid (hnv.less (HSZ.out _ (by assumption))); (try (have HQK := Lib.hid (isQ_up HQK.out hb))); (try (have HQP := Lib.hid (isQ_up HQP.out hb))); (try (have HQM := Lib.hid (isQ_up HQM.out hb))); (try (have HQR := Lib.hid (isQ_up HQR.out hb))); obtain ⟨sA, aoA, LA, capA, boA, MA, capmA, rfl⟩ := isQ_shape hq; clear hq hnv; clear hb))
      | (go_at_call 77; ((with_reducible refine (HK.out _).mono ?_); rintro e WK ⟨vK, rfl, hq, hnv, hb⟩; have hwK := HT0.out _ _ (by assumption) hb; have HQK := Lib.hid hq; have HNK := Lib.hid (hnv.less (HSZ.out _ (by assumption))); (try (have HQA := Lib.hid (isQ_up HQA.out hb))); (try (have HQP := Lib.hid (isQ_up HQP.out hb))); (try (have HQM := Lib.hid (isQ_up HQM.out hb))); (try (have HQR := Lib.hid (isQ_up HQR.out hb))); obtain ⟨sK, aoK, LK, capK, boK, MK, capmK, rfl⟩ := isQ_shape hq; clear hq hnv; clear hb))
      | (go_at_call 75; ((with_reducible refine (HP.out _ (HEND.out _ (by assumption))).mono ?_); rintro e WP ⟨vP, rfl, hq, hnv, hb⟩; have hwP := HT0.out _ _ (by assumption) hb; have HQP := Lib.hid hq; have HNP := Lib.hid (hnv.less (HSZ.out _ (by assumption))); (try (have HQA := Lib.hid (isQ_up HQA.out hb))); (try (have HQK := Lib.hid (isQ_up HQK.out hb))); (try (have HQM := Lib.hid (isQ_up HQM.out hb))); (try (have HQR := Lib.hid (isQ_up HQR.out hb))); obtain ⟨sP, aoP, LP, capP, boP, MP, capmP, rfl⟩ := isQ_shape hq; clear hq hnv; clear hb))
      | (go_at_call 83; ((with_reducible refine (HM.out _ _ _ HQK.out HQP.out).mono ?_); rintro e WM ⟨vM, rfl, hq, hnv, hb⟩; have hwM := HT0.out _ _ (by assumption) hb; have HQM := Lib.hid hq; have HNM := Lib.hid (hnv.less (HSZ.out _ (by assumption))); (try (have HQA := Lib.hid (isQ_up HQA.out hb))); (try (have HQK := Lib.hid (isQ_up HQK.out hb))); (try (have HQP := Lib.hid (isQ_up HQP.out hb))); (try (have HQR := Lib.hid (isQ_up HQR.out hb))); obtain ⟨sM, aoM, LM, capM, boM, MM, capmM, rfl⟩ := isQ_shape hq; clear hq hnv; clear hb))
      | (go_at_call 78; ((with_reducible refine (HR.out _ _ _ HQA.out HQM.out).mono ?_); rintro e WR ⟨vR, rfl, hq, hnv, hb⟩; have hwR := HT0.out _ _ (by assumption) hb; have HQR := Lib.hid hq; have HNR := Lib.hid (hnv.less (HSZ.out _ (by assumption))); (try (have HQA := Lib.hid (isQ_up HQA.out hb))); (try (have HQK := Lib.hid (isQ_up HQK.out hb))); (try (have HQP := Lib.hid (isQ_up HQP.out hb))); (try (have HQM := Lib.hid (isQ_up HQM.out hb))); obtain ⟨sR, aoR, LR, capR, boR, MR, capmR, rfl⟩ := isQ_shape hq; clear hq hnv; obtain ⟨t0, t1, t2, t3, t4, t5⟩ := HRES.out.below hwR (by first | omega | (simp <;> omega)); have HWL := Lib.hid hwR; clear hb))
      | fail)
  all_goals
    go_wp2
    refine bodyPost_ret (v := .agg #[.bool sR, .slice aoR LR capR, .slice boR MR capmR]) (by simp [results, Try.results61, go_sem, t0, t1, t2]) rfl ⟨_, rfl, ?_, below_set3 (HEND.out _ HWL.out) (by omega)⟩
    rw [size_set3]
    exact HQR.out.set3 HNR.out

set_option maxHeartbeats 8000000 in
set_option maxRecDepth 100000 in
theorem rway3 (B p q : Nat) (cp v : Value) (w : World) (hB : B ≤ w.heap.size) (h : PQ p q) (hv : IsQ B w v (p : Int) q) :
    Calls Try.prog 61 #[.agg #[.int .i64 3, cp], v] w (WayQ ((1 : Int) * (((1 * q * (1 * q) : Nat)) : Int) - (((1 : Int) * (q : Int) - (p : Int) * ((1 : Nat) : Int)) * ((1 : Int) * (q : Int) - (p : Int) * ((1 : Nat) : Int))) * ((1 : Nat) : Int)) (1 * (1 * q * (1 * q))) w) := by
  obtain ⟨s, ao, L, cap, bo, M, cap2, rfl⟩ := isQ_shape hv
  have HV := Lib.hid hv
  have p9 : p ≤ 36000000 := Nat.le_trans h.pq h.q9
  have bpp : p * p ≤ 1296000000000000 := sq_le p9 p9
  have bpq : p * q ≤ 1296000000000000 := sq_le p9 h.q9
  have bqq : q * q ≤ 1296000000000000 := sq_le h.q9 h.q9
  have epp : (p : Int) * (p : Int) = ((p * p : Nat) : Int) := (Int.natCast_mul p p).symm
  have epq : (p : Int) * (q : Int) = ((p * q : Nat) : Int) := (Int.natCast_mul p q).symm
  have s1' : Sm 1 1 := sm_num (by omega) (by omega)
  have b2 : ((1 : Int) * (q : Int) - (p : Int) * ((1 : Nat) : Int)).natAbs ≤ 36000000 := by have := h.pq; have := h.q9; omega
  have s2' : Sm ((1 : Int) * (q : Int) - (p : Int) * ((1 : Nat) : Int)) (1 * q) := sm_num (by omega) (by have := h.q9; omega)
  have b3 : (((1 : Int) * (q : Int) - (p : Int) * ((1 : Nat) : Int)) * ((1 : Int) * (q : Int) - (p : Int) * ((1 : Nat) : Int))).natAbs ≤ 1296000000000000 := by rw [Int.natAbs_mul]; exact sq_le b2 b2
  have e3 : 1 * q * (1 * q) = q * q := by rw [Nat.one_mul]
  have s3' : Sm (((1 : Int) * (q : Int) - (p : Int) * ((1 : Nat) : Int)) * ((1 : Int) * (q : Int) - (p : Int) * ((1 : Nat) : Int))) (1 * q * (1 * q)) := sm_num (by omega) (by rw [e3]; omega)
  have s4' : Sm ((1 : Int) * (((1 * q * (1 * q) : Nat)) : Int) - (((1 : Int) * (q : Int) - (p : Int) * ((1 : Nat) : Int)) * ((1 : Int) * (q : Int) - (p : Int) * ((1 : Nat) : Int))) * ((1 : Nat) : Int)) (1 * (1 * q * (1 * q))) := by
    rw [e3]
    exact sm_num (by omega) (by omega)
  have HR1' := Lib.hid (fun (W : World) u (hW : Below w.heap.size w W) hu => minusQ W.heap.size 1 q 1 p u _ W (Nat.le_refl _) s1' h.sm s2' hu ((hv.below (hW.mono hB)).more (Nat.le_trans hB hW.size)))
  have HA := Lib.hid (fun (W : World) u hu => timesQ W.heap.size (1 * q) (1 * q) ((1 : Int) * (q : Int) - (p : Int) * ((1 : Nat) : Int)) ((1 : Int) * (q : Int) - (p : Int) * ((1 : Nat) : Int)) u u W (Nat.le_refl _) s2' s2' s3' hu hu)
  have HM := Lib.hid (fun (W : World) u u2 hu hu2 => minusQ W.heap.size 1 (1 * q * (1 * q)) 1 (((1 : Int) * (q : Int) - (p : Int) * ((1 : Nat) : Int)) * ((1 : Int) * (q : Int) - (p : Int) * ((1 : Nat) : Int))) u u2 W (Nat.le_refl _) s1' s3' s4' hu hu2)
  clear p9 bpp bpq bqq epp epq s1' b2 s2' b3 e3 s3' s4'
  clear hv
  go_enter Try.func61, Try.ntmps61
  go_wp2_with fail
  refine (whole_any 1 _ (by omega) (by omega)).mono ?_
  rintro e w1 ⟨v1, rfl, hq1, hnv1, hb1⟩
  obtain ⟨hbw, hsz⟩ := three_alloc hb1
  have hk1 := (hb1.cell (p := ⟨w.heap.size, 0, none⟩) (by simp <;> omega)).trans box_k
  have HX1 := Lib.hid (box_b.below hb1 (by simp))
  have HR1 := Lib.hid (box_r.below hb1 (by simp <;> omega))
  have HBW := Lib.hid hbw
  have HQ1 := Lib.hid hq1
  obtain ⟨s1, ao1, L1, cap1, bo1, M1, capm1, rfl⟩ := isQ_shape hq1
  have HN1 := Lib.hid (hnv1.less (lo' := w.heap.size + 1 + 1 + 1) (by simp <;> omega))
  clear hq1 hnv1 hb1 hbw
  obtain ⟨x0, x1, x2, y0, y1, y2⟩ := HX1.out
  obtain ⟨r0, r1, r2, r3, r4, r5⟩ := HR1.out
  have z0 : w.heap.size < w1.heap.size := by omega
  have z1 : w.heap.size + 1 < w1.heap.size := by omega
  have z2 : w.heap.size + 1 + 1 < w1.heap.size := by omega
  go_wp2_with fail
  refine (HR1'.out (w1.alloc (.cells #[.bool s1, .slice ao1 L1 cap1, .slice bo1 M1 capm1] 70)) _ (HBW.out.alloc (by omega) _) (isQ_up HQ1.out ((Below.refl _ _).alloc (Nat.le_refl _) _))).mono ?_
  rintro e w2 ⟨v2, rfl, hq2, hnv2, hb2⟩
  have hsz2 : w1.heap.size + 1 ≤ w2.heap.size := by have := hb2.size; simpa using this
  have hk2 := hb2.cell (p := ⟨w.heap.size, 0, none⟩) (by simp <;> omega)
  have HT5 := Lib.hid (((box_new w1 (.bool s1) (.slice ao1 L1 cap1) (.slice bo1 M1 capm1) 70).below hb2 (by simp)))
  have HR2 := Lib.hid ((HR1.out.alloc (by omega) _).below hb2 (by simp <;> omega))
  have HB2 := Lib.hid ((HBW.out.alloc (by omega) _).trans (hb2.mono (by simp <;> omega)))
  have HQ2 := Lib.hid hq2
  have HQ12 := Lib.hid (isQ_up (isQ_up HQ1.out ((Below.refl _ _).alloc (Nat.le_refl _) _)) hb2)
  obtain ⟨s2, ao2, L2, cap3, bo2, M2, cap4, rfl⟩ := isQ_shape hq2
  clear hq2 hnv2 hb2
  clear x0 x1 x2 y0 y1 y2 r0 r1 r2 r3 r4 r5
  clear hk1 hk2
  go_wp2_with fail
  have HQX := Lib.hid (isQ_up HQ2.out ((Below.refl _ _).alloc (Nat.le_refl _) (.cells #[.bool s2, .slice ao2 L2 cap3, .slice bo2 M2 cap4] 70)))
  have HQ13 := Lib.hid (isQ_up HQ12.out ((Below.refl _ _).alloc (Nat.le_refl _) (.cells #[.bool s2, .slice ao2 L2 cap3, .slice bo2 M2 cap4] 70)))
  have HRES := Lib.hid (HR2.out.alloc (by omega) (.cells #[.bool s2, .slice ao2 L2 cap3, .slice bo2 M2 cap4] 70))
  have HEND := Lib.hid (show ∀ W, Below (w2.heap.size + 1) (w2.alloc (.cells #[.bool s2, .slice ao2 L2 cap3, .slice bo2 M2 cap4] 70)) W → Below w.heap.size w W from fun W hW => (HB2.out.alloc (by omega) _).trans (hW.mono (by omega)))
  have HSZ := Lib.hid (show ∀ W, Below (w2.heap.size + 1) (w2.alloc (.cells #[.bool s2, .slice ao2 L2 cap3, .slice bo2 M2 cap4] 70)) W → w.heap.size + 1 + 1 + 1 ≤ W.heap.size from fun W hW => by
    have := hW.size
    simp at this
    omega)
  have HSB := Lib.hid (show ∀ W, Below (w2.heap.size + 1) (w2.alloc (.cells #[.bool s2, .slice ao2 L2 cap3, .slice bo2 M2 cap4] 70)) W → (w2.heap.size + 1) ≤ W.heap.size from fun W hW => by
    have := hW.size
    simpa using this)
  have HT0 := Lib.hid (show ∀ W W', Below (w2.heap.size + 1) (w2.alloc (.cells #[.bool s2, .slice ao2 L2 cap3, .slice bo2 M2 cap4] 70)) W → Below W.heap.size W W' → Below (w2.heap.size + 1) (w2.alloc (.cells #[.bool s2, .slice ao2 L2 cap3, .slice bo2 M2 cap4] 70)) W' from fun W W' h1 h2 => h1.trans (h2.mono (HSB.out W h1)))
  have ht5 := HT5.out.alloc (by omega) (.cells #[.bool s2, .slice ao2 L2 cap3, .slice bo2 M2 cap4] 70)
  have ht6 := box_new w2 (.bool s2) (.slice ao2 L2 cap3) (.slice bo2 M2 cap4) 70
  have KP := Lib.hid (show ∀ W, Below (w2.heap.size + 1) (w2.alloc (.cells #[.bool s2, .slice ao2 L2 cap3, .slice bo2 M2 cap4] 70)) W → (W.cell? ⟨w1.heap.size, 0, none⟩ = some (.bool s1) ∧ W.cell? ⟨w1.heap.size, 1, none⟩ = some (.slice ao1 L1 cap1) ∧ W.cell? ⟨w1.heap.size, 2, none⟩ = some (.slice bo1 M1 capm1) ∧ W.cell? ⟨w2.heap.size, 0, none⟩ = some (.bool s2) ∧ W.cell? ⟨w2.heap.size, 1, none⟩ = some (.slice ao2 L2 cap3) ∧ W.cell? ⟨w2.heap.size, 2, none⟩ = some (.slice bo2 M2 cap4)) from fun W hW => by
    have e0 := ht5.below hW (by first | omega | (simp <;> omega))
    have e1 := ht6.below hW (by first | omega | (simp <;> omega))
    exact ⟨e0.c0, e0.c1, e0.c2, e1.c0, e1.c1, e1.c2⟩)
  have KQ := Lib.hid (show ∀ W u0 u1 u2, Below (w2.heap.size + 1) (w2.alloc (.cells #[.bool s2, .slice ao2 L2 cap3, .slice bo2 M2 cap4] 70)) W → ((((W.setCell ⟨w.heap.size + 1 + 1, 0, none⟩ u0).setCell ⟨w.heap.size + 1 + 1, 1, none⟩ u1).setCell ⟨w.heap.size + 1 + 1, 2, none⟩ u2).cell? ⟨w1.heap.size, 0, none⟩ = some (.bool s1) ∧ (((W.setCell ⟨w.heap.size + 1 + 1, 0, none⟩ u0).setCell ⟨w.heap.size + 1 + 1, 1, none⟩ u1).setCell ⟨w.heap.size + 1 + 1, 2, none⟩ u2).cell? ⟨w1.heap.size, 1, none⟩ = some (.slice ao1 L1 cap1) ∧ (((W.setCell ⟨w.heap.size + 1 + 1, 0, none⟩ u0).setCell ⟨w.heap.size + 1 + 1, 1, none⟩ u1).setCell ⟨w.heap.size + 1 + 1, 2, none⟩ u2).cell? ⟨w1.heap.size, 2, none⟩ = some (.slice bo1 M1 capm1) ∧ (((W.setCell ⟨w.heap.size + 1 + 1, 0, none⟩ u0).setCell ⟨w.heap.size + 1 + 1, 1, none⟩ u1).setCell ⟨w.heap.size + 1 + 1, 2, none⟩ u2).cell? ⟨w2.heap.size, 0, none⟩ = some (.bool s2) ∧ (((W.setCell ⟨w.heap.size + 1 + 1, 0, none⟩ u0).setCell ⟨w.heap.size + 1 + 1, 1, none⟩ u1).setCell ⟨w.heap.size + 1 + 1, 2, none⟩ u2).cell? ⟨w2.heap.size, 1, none⟩ = some (.slice ao2 L2 cap3) ∧ (((W.setCell ⟨w.heap.size + 1 + 1, 0, none⟩ u0).setCell ⟨w.heap.size + 1 + 1, 1, none⟩ u1).setCell ⟨w.heap.size + 1 + 1, 2, none⟩ u2).cell? ⟨w2.heap.size, 2, none⟩ = some (.slice bo2 M2 cap4)) from fun W u0 u1 u2 hW => by
    have e0 := (ht5.below hW (by first | omega | (simp <;> omega))).set3 (g' := w.heap.size + 1 + 1) (u0 := u0) (u1 := u1) (u2 := u2) (by first | omega | (simp <;> omega))
    have e1 := (ht6.below hW (by first | omega | (simp <;> omega))).set3 (g' := w.heap.size + 1 + 1) (u0 := u0) (u1 := u1) (u2 := u2) (by first | omega | (simp <;> omega))
    exact ⟨e0.c0, e0.c1, e0.c2, e1.c0, e1.c1, e1.c2⟩)
  have hw0 : Below (w2.heap.size + 1) (w2.alloc (.cells #[.bool s2, .slice ao2 L2 cap3, .slice bo2 M2 cap4] 70)) (World.drew (w2.alloc (.cells #[.bool s2, .slice ao2 L2 cap3, .slice bo2 M2 cap4] 70))) := (Below.refl _ _).drew
  have HQXX := Lib.hid (show IsQ (World.drew (w2.alloc (.cells #[.bool s2, .slice ao2 L2 cap3, .slice bo2 M2 cap4] 70))).heap.size (World.drew (w2.alloc (.cells #[.bool s2, .slice ao2 L2 cap3, .slice bo2 M2 cap4] 70))) _ _ _ from HQX.out)
  have HQO := Lib.hid (show IsQ (World.drew (w2.alloc (.cells #[.bool s2, .slice ao2 L2 cap3, .slice bo2 M2 cap4] 70))).heap.size (World.drew (w2.alloc (.cells #[.bool s2, .slice ao2 L2 cap3, .slice bo2 M2 cap4] 70))) _ _ _ from HQ13.out)
  go_region_held3 (fun W => W.cell? ⟨w1.heap.size, 0, none⟩ = some (.bool s1) ∧ W.cell? ⟨w1.heap.size, 1, none⟩ = some (.slice ao1 L1 cap1) ∧ W.cell? ⟨w1.heap.size, 2, none⟩ = some (.slice bo1 M1 capm1) ∧ W.cell? ⟨w2.heap.size, 0, none⟩ = some (.bool s2) ∧ W.cell? ⟨w2.heap.size, 1, none⟩ = some (.slice ao2 L2 cap3) ∧ W.cell? ⟨w2.heap.size, 2, none⟩ = some (.slice bo2 M2 cap4))
    (first | exact KP.out _ (by assumption) | exact KQ.out _ _ _ _ (by assumption))
    (first
      | (go_at_call 78; ((with_reducible refine (HA.out _ _ HQXX.out).mono ?_); rintro e WA ⟨vA, rfl, hq, hnv, hb⟩; have hwA := HT0.out _ _ (by assumption) hb; have HQA := Lib.hid hq; have HNA := Lib.hid (hnv.less (HSZ.out _ (by assumption))); (try (have HQM := Lib.hid (isQ_up HQM.out hb))); (try (have HQO := Lib.hid (isQ_up HQO.out hb))); obtain ⟨sA, aoA, LA, capA, boA, MA, capmA, rfl⟩ := isQ_shape hq; clear hq hnv; clear hb))
      | (go_at_call 83; ((with_reducible refine (HM.out _ _ _ HQO.out HQA.out).mono ?_); rintro e WM ⟨vM, rfl, hq, hnv, hb⟩; have hwM := HT0.out _ _ (by assumption) hb; have HQM := Lib.hid hq; have HNM := Lib.hid (hnv.less (HSZ.out _ (by assumption))); (try (have HQA := Lib.hid (isQ_up HQA.out hb))); obtain ⟨sM, aoM, LM, capM, boM, MM, capmM, rfl⟩ := isQ_shape hq; clear hq hnv; obtain ⟨t0, t1, t2, t3, t4, t5⟩ := HRES.out.below hwM (by first | omega | (simp <;> omega)); have HWL := Lib.hid hwM; clear hb))
      | fail)
  all_goals
    go_wp2
    refine bodyPost_ret (v := .agg #[.bool sM, .slice aoM LM capM, .slice boM MM capmM]) (by simp [results, Try.results61, go_sem, t0, t1, t2]) rfl ⟨_, rfl, ?_, below_set3 (HEND.out _ HWL.out) (by omega)⟩
    rw [size_set3]
    exact HQM.out.set3 HNM.out

set_option maxHeartbeats 8000000 in
set_option maxRecDepth 100000 in
theorem rway5 (B p q : Nat) (cp v : Value) (w : World) (hB : B ≤ w.heap.size) (h : PQ p q) (hv : IsQ B w v (p : Int) q) :
    Calls Try.prog 61 #[.agg #[.int .i64 5, cp], v] w (WayQ (stepN p q) 1 w) := by
  obtain ⟨s, ao, L, cap, bo, M, cap2, rfl⟩ := isQ_shape hv
  have HV := Lib.hid hv
  have s1' : Sm 1 1 := sm_num (by omega) (by omega)
  have HO := Lib.hid (fun (W : World) u (hW : Below w.heap.size w W) hu => orderQ W.heap.size q 1 p 1 _ u W (Nat.le_refl _) h.sm s1' (sm_num (by have := h.pq; have := h.q9; omega) (by have := h.q9; omega)) ((hv.below (hW.mono hB)).more (Nat.le_trans hB hW.size)) hu)
  clear s1'
  clear hv
  go_enter Try.func61, Try.ntmps61
  go_wp2_with fail
  refine (whole_any 1 _ (by omega) (by omega)).mono ?_
  rintro e w1 ⟨v1, rfl, hq1, hnv1, hb1⟩
  obtain ⟨hbw, hsz⟩ := three_alloc hb1
  have hk1 := (hb1.cell (p := ⟨w.heap.size, 0, none⟩) (by simp <;> omega)).trans box_k
  have HX1 := Lib.hid (box_b.below hb1 (by simp))
  have HR1 := Lib.hid (box_r.below hb1 (by simp <;> omega))
  have HBW := Lib.hid hbw
  have HQ1 := Lib.hid hq1
  obtain ⟨s1, ao1, L1, cap1, bo1, M1, capm1, rfl⟩ := isQ_shape hq1
  have HN1 := Lib.hid (hnv1.less (lo' := w.heap.size + 1 + 1 + 1) (by simp <;> omega))
  clear hq1 hnv1 hb1 hbw
  obtain ⟨x0, x1, x2, y0, y1, y2⟩ := HX1.out
  obtain ⟨r0, r1, r2, r3, r4, r5⟩ := HR1.out
  have z0 : w.heap.size < w1.heap.size := by omega
  have z1 : w.heap.size + 1 < w1.heap.size := by omega
  have z2 : w.heap.size + 1 + 1 < w1.heap.size := by omega
  go_wp2_with fail
  refine (HO.out (w1.alloc (.cells #[.bool s1, .slice ao1 L1 cap1, .slice bo1 M1 capm1] 70)) _ (HBW.out.alloc (by omega) _) (isQ_up HQ1.out ((Below.refl _ _).alloc (Nat.le_refl _) _))).mono ?_
  rintro e w2 ⟨rfl, hb2⟩
  have hsz2 : w1.heap.size + 1 ≤ w2.heap.size := by have := hb2.size; simpa using this
  have HT5 := Lib.hid (((box_new w1 (.bool s1) (.slice ao1 L1 cap1) (.slice bo1 M1 capm1) 70).below hb2 (by simp)))
  have HR2 := Lib.hid ((HR1.out.alloc (by omega) _).below hb2 (by simp <;> omega))
  have HB2 := Lib.hid ((HBW.out.alloc (by omega) _).trans (hb2.mono (by simp <;> omega)))
  have HQ12 := Lib.hid (isQ_up (isQ_up HQ1.out ((Below.refl _ _).alloc (Nat.le_refl _) _)) hb2)
  have HNV := Lib.hid HN1.out
  clear hb2
  clear x0 x1 x2 y0 y1 y2 r0 r1 r2 r3 r4 r5
  clear hk1
  by_cases hpq : p < q
  · have HPQ := Lib.hid hpq
    rw [show ordI ((p : Int) * ((1 : Nat) : Int) - (1 : Int) * (q : Int)) = -1 by unfold ordI; rw [if_neg (by omega), if_pos (by omega)]]
    obtain ⟨t0, t1, t2, t3, t4, t5⟩ := HR2.out
    go_wp2_with fail
    refine (whole_any 0 _ (by omega) (by omega)).mono ?_
    rintro e w3 ⟨v3, rfl, hq3, hnv3, hb3⟩
    obtain ⟨u0, u1, u2, u3, u4, u5⟩ := HR2.out.below hb3 (by omega)
    have HB3 := Lib.hid (HB2.out.trans (hb3.mono (by omega)))
    have HQ3 := Lib.hid hq3
    have HN3 := Lib.hid (hnv3.less (lo' := w.heap.size + 1 + 1 + 1) (by omega))
    obtain ⟨s3, ao3, L3, cap3, bo3, M3, cap4, rfl⟩ := isQ_shape hq3
    clear hq3 hnv3 hb3 t0 t1 t2 t3 t4 t5
    go_wp2
    refine bodyPost_ret (v := .agg #[.bool s3, .slice ao3 L3 cap3, .slice bo3 M3 cap4]) (by simp [results, Try.results61, go_sem, u0, u1, u2]) rfl ⟨_, rfl, ?_, below_set3 HB3.out (by omega)⟩
    rw [size_set3, show stepN p q = 0 from if_pos HPQ.out]
    exact HQ3.out.set3 HN3.out
  · obtain ⟨o, ho⟩ : ∃ o, ordI ((p : Int) * ((1 : Nat) : Int) - (1 : Int) * (q : Int)) = o := ⟨_, rfl⟩
    have ho0 : 0 ≤ o := by
      rw [← ho]
      unfold ordI
      split
      · omega
      · rw [if_neg (by omega)]; omega
    have hod : decide (o < 0) = false := by simpa using ho0
    rw [ho]
    clear ho
    obtain ⟨t0, t1, t2, t3, t4, t5⟩ := HR2.out
    obtain ⟨u0, u1, u2, u3, u4, u5⟩ := HT5.out
    have z3 : w1.heap.size ≠ w.heap.size + 1 + 1 := by omega
    go_wp2
    refine bodyPost_ret (v := .agg #[.bool s1, .slice ao1 L1 cap1, .slice bo1 M1 capm1]) (by simp [results, Try.results61, go_sem, t0, t1, t2, u0, u1, u2]) rfl ⟨_, rfl, ?_, below_set3 HB2.out (by omega)⟩
    rw [size_set3, show stepN p q = 1 from if_neg hpq]
    exact HQ12.out.set3 (HNV.out.less (by omega))
end Go.Proofs.Ythoiamaomhggiaa
