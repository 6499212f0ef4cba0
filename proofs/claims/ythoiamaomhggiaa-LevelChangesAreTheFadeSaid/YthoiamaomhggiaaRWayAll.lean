/- The reference's Way for every right curve, and mixing by it. -/
import Derived.Test.YthoiamaomhggiaaRAlong
import Derived.Test.YthoiamaomhggiaaEase
namespace Go.Proofs.Ythoiamaomhggiaa
open Go.RowKit
set_option linter.unusedVariables false
set_option linter.unusedSimpArgs false

theorem box_k1 {w : World} {x y : Value} {T : TypeId} {o2 o3 : Obj} : (((w.alloc (.cells #[x, y] T)).alloc o2).alloc o3).cell? ⟨w.heap.size, 1, none⟩ = some y := by
  simp [go_sem, World.cell?_alloc_past]
theorem ptsAt_below {w W : World} {b off : Nat} {ps : List (Int × Int)} (hp : PtsAt w b off ps) (hb : b < w.heap.size) (hW : Below w.heap.size w W) : PtsAt W b off ps :=
  fun i hi => ⟨(hW.cell hb).trans (hp i hi).1, (hW.cell hb).trans (hp i hi).2⟩

set_option maxHeartbeats 8000000 in
set_option maxRecDepth 100000 in
theorem rway6 (B p q b off cap : Nat) (ps : List (Int × Int)) (v : Value) (w : World) (hB : B ≤ w.heap.size) (h : PQ p q) (hv : IsQ B w v (p : Int) q)
    (hb : b < w.heap.size) (hp : PtsAt w b off ps) (h2 : 2 ≤ ps.length) (h20 : ps.length ≤ 20) (hr : ∀ x ∈ ps, 0 ≤ x.1 ∧ x.1 ≤ 1000 ∧ 0 ≤ x.2 ∧ x.2 ≤ 1000)
    (hst : ∀ k (hk : k + 1 < ps.length), (ps[k]'(by omega)).1 < ps[k + 1].1) (hh : (ps[0]'(by omega)).1 = 0) (hl : ∀ k (hk : k < ps.length), k + 1 = ps.length → ps[k].1 = 1000) :
    Calls Try.prog 61 #[.agg #[.int .i64 6, .slice (some ⟨b, off, none⟩) ps.length cap], v] w fun e w' => ∃ k, ∃ hk : k + 1 < ps.length, (ps[k]'(by omega)).1 * (q : Int) ≤ 1000 * (p : Int) ∧ 1000 * (p : Int) ≤ ps[k + 1].1 * (q : Int) ∧ WayQ (alN (ps[k]'(by omega)) ps[k + 1] p q) (alD (ps[k]'(by omega)) ps[k + 1] q) w e w' := by
  obtain ⟨s, ao, L, cap1', bo, M, cap2, rfl⟩ := isQ_shape hv
  have HT := Lib.hid (fun (W : World) (hW : Below w.heap.size w W) => along_any B p q b off cap ps _ W (Nat.le_trans hB hW.size) h (hv.below (hW.mono hB)) (Nat.lt_of_lt_of_le hb hW.size) (ptsAt_below hp hb hW) h2 h20 hr hst hh hl)
  clear hv hp hr hst hh hl h
  go_enter Try.func61, Try.ntmps61
  go_wp2_with fail
  refine (whole_any 1 _ (by omega) (by omega)).mono ?_
  rintro e w1 ⟨v1, rfl, hq1, hnv1, hb1⟩
  obtain ⟨hbw, hsz⟩ := three_alloc hb1
  have hk1 := (hb1.cell (p := ⟨w.heap.size, 0, none⟩) (by simp <;> omega)).trans box_k
  have hk2 := (hb1.cell (p := ⟨w.heap.size, 1, none⟩) (by simp <;> omega)).trans box_k1
  have HX1 := Lib.hid (box_b.below hb1 (by simp))
  have HR1 := Lib.hid (box_r.below hb1 (by simp <;> omega))
  have HBW := Lib.hid hbw
  obtain ⟨s1, ao1, L1, cap1, bo1, M1, capm1, rfl⟩ := isQ_shape hq1
  clear hq1 hnv1 hb1 hbw
  obtain ⟨x0, x1, x2, y0, y1, y2⟩ := HX1.out
  obtain ⟨r0, r1, r2, r3, r4, r5⟩ := HR1.out
  have z0 : w.heap.size < w1.heap.size := by omega
  have z1 : w.heap.size + 1 < w1.heap.size := by omega
  have z2 : w.heap.size + 1 + 1 < w1.heap.size := by omega
  go_wp2_with fail
  refine (HT.out _ (HBW.out.alloc (by omega) _)).mono ?_
  rintro e w2 ⟨k, hk, g1, g2, v2, rfl, hq2, hnv2, hb2⟩
  obtain ⟨t0, t1, t2, t3, t4, t5⟩ := (HR1.out.alloc (by omega) _).below hb2 (by simp <;> omega)
  have HB2 := Lib.hid (HBW.out.trans ((Below.refl _ _).alloc (by omega) _ |>.trans (hb2.mono (by simp <;> omega))))
  have HQ2 := Lib.hid hq2
  have HNV := Lib.hid (hnv2.less (lo' := w.heap.size + 1 + 1 + 1) (by simp <;> omega))
  have HG1 := Lib.hid g1
  have HG2 := Lib.hid g2
  obtain ⟨s2, ao2, L2, cap3, bo2, M2, cap4, rfl⟩ := isQ_shape hq2
  clear hq2 hnv2 hb2 x0 x1 x2 y0 y1 y2 r0 r1 r2 r3 r4 r5 hk1 hk2 g1 g2
  go_wp2
  refine bodyPost_ret (v := .agg #[.bool s2, .slice ao2 L2 cap3, .slice bo2 M2 cap4]) (by simp [results, Try.results61, go_sem, t0, t1, t2]) rfl ⟨k, hk, HG1.out, HG2.out, _, rfl, ?_, below_set3 HB2.out (by omega)⟩
  rw [size_set3]
  exact HQ2.out.set3 HNV.out

/-- a fraction that is the way of a curve -/
def WayR (c : Cv) (p q : Nat) (w : World) (e : Ending) (w' : World) : Prop :=
  ∃ n d, WayQ n d w e w' ∧ Unit1 n d ∧ n * wayD c p q = wayN c p q * (d : Int)

theorem unit_of {n N D : Int} {d : Nat} (hd : 0 < d) (hb : d < BB ^ 4) (hD : 0 < D) (h0 : 0 ≤ N) (h1 : N ≤ D) (e : n * D = N * (d : Int)) : Unit1 n d := by
  have hd' : (0 : Int) < (d : Int) := by omega
  refine ⟨?_, ?_, hd, hb⟩
  · by_cases h : n < 0
    · have h2 : n * D < 0 := Int.mul_neg_of_neg_of_pos h hD
      have h3 : 0 ≤ N * (d : Int) := Int.mul_nonneg h0 (by omega)
      omega
    · omega
  · have h2 : N * (d : Int) ≤ D * (d : Int) := Int.mul_le_mul_of_nonneg_right h1 (by omega)
    rw [← e, Int.mul_comm D] at h2
    exact Int.le_of_mul_le_mul_right h2 hD

theorem steps_pts {c : Cv} (hc : RightC c) (h6 : c.kind = 6) : (∀ k (hk : k + 1 < c.pts.length), (c.pts[k]'(by omega)).1 < c.pts[k + 1].1) := by
  obtain ⟨_, _, _, _, _, ls⟩ := hc.2.2.2 h6
  intro k hk
  exact (steps_lt ls k (k + 1) _ _ (by omega) (List.getElem?_eq_getElem (by omega)) (List.getElem?_eq_getElem hk)).1

set_option maxHeartbeats 1000000 in
theorem rWay_any (B p q : Nat) (vc v : Value) (c : Cv) (w : World) (hB : B ≤ w.heap.size) (h : PQ p q) (hv : IsQ B w v (p : Int) q) (hcv : CvV w vc c) (hc : RightC c) :
    Calls Try.prog 61 #[vc, v] w (WayR c p q w) := by
  have hq0 : (0 : Int) < (q : Int) := by have := h.q0; omega
  have hp1 : (p : Int) ≤ (q : Int) := by have := h.pq; omega
  obtain ⟨r1, r2, r3⟩ := way_range c hc p q hq0 (by omega) hp1
  have p9 : p ≤ 36000000 := Nat.le_trans h.pq h.q9
  have bqq : q * q ≤ 1296000000000000 := sq_le h.q9 h.q9
  have hqq : 0 < q * q := Nat.mul_pos h.q0 h.q0
  have big : ∀ d : Nat, d ≤ 10000000000000000000000000000000 → d < BB ^ 4 := fun d hd => Nat.lt_of_le_of_lt hd (by decide)
  have fin : ∀ (n : Int) (d : Nat), 0 < d → d ≤ 10000000000000000000000000000000 → n * wayD c p q = wayN c p q * (d : Int) → ∀ e w', WayQ n d w e w' → WayR c p q w e w' := fun n d h1 h2 h3 e w' h4 => ⟨n, d, h4, unit_of h1 (big d h2) r1 r2 r3 h3, h3⟩
  have hk := hc.1
  have hk' := hc.2.1
  obtain ⟨pv, rfl, hpv⟩ := hcv
  by_cases e2 : c.kind = 2
  · have eN : wayN c p q = (p : Int) * p := by simp [wayN, e2]
    have eD : wayD c p q = (q : Int) * q := by simp [wayD, e2]
    rw [e2]
    exact (rway2 B p q pv v w hB h hv).mono (fin _ _ hqq (by omega) (by rw [eN, eD]; push_cast; rfl))
  by_cases e3 : c.kind = 3
  · have eN : wayN c p q = (p : Int) * (2 * q - p) := by simp [wayN, e3]
    have eD : wayD c p q = (q : Int) * q := by simp [wayD, e3]
    rw [e3]
    exact (rway3 B p q pv v w hB h hv).mono (fin _ _ (by rw [Nat.one_mul, Nat.one_mul]; exact hqq) (by rw [Nat.one_mul, Nat.one_mul]; omega) (by rw [eN, eD]; push_cast; grind))
  by_cases e4 : c.kind = 4
  · have eN : wayN c p q = (p : Int) * p * (3 * q - 2 * p) := by simp [wayN, e4]
    have eD : wayD c p q = (q : Int) * q * q := by simp [wayD, e4]
    rw [e4]
    exact (rway4 B p q pv v w hB h hv).mono (fin _ _ (by rw [Nat.one_mul]; exact Nat.mul_pos hqq hqq) (by rw [Nat.one_mul]; have := Nat.mul_le_mul bqq bqq; omega) (by rw [eN, eD]; push_cast; grind))
  by_cases e5 : c.kind = 5
  · have eN : wayN c p q = stepN p q := by simp [wayN, e5, stepN]
    have eD : wayD c p q = 1 := by simp [wayD, e5]
    rw [e5]
    exact (rway5 B p q pv v w hB h hv).mono (fin _ _ (by omega) (by omega) (by rw [eN, eD]; rfl))
  by_cases e6 : c.kind = 6
  · obtain ⟨l2, l20, lr, lh, ll, ls⟩ := hc.2.2.2 e6
    rcases hpv with ⟨h0, _⟩ | ⟨_, _, b, off, cap, rfl, hb, hp⟩
    · rw [h0] at l2; simp at l2
    have eN : wayN c p q = segN (seg p q c.pts).1 (seg p q c.pts).2 p q := by simp [wayN, e6]
    have eD : wayD c p q = segD (seg p q c.pts).1 (seg p q c.pts).2 q := by simp [wayD, e6]
    have a1 := seg_in (p : Int) (q : Int) hq0 c.pts l2 ls (fun a ha => by rw [lh] at ha; simp at ha; subst ha; simp; omega) (fun b hb => by rw [ll] at hb; simp at hb; subst hb; show _ ≤ 1000 * (q : Int); omega)
    obtain ⟨i, ai, bi⟩ := seg_adj (p : Int) (q : Int) c.pts l2
    have st := steps_pts hc e6
    have hh : (c.pts[0]'(by omega)).1 = 0 := by
      rw [List.head?_eq_getElem?, List.getElem?_eq_getElem (by omega)] at lh
      simp at lh
      rw [lh]
    have hl : ∀ k (hk : k < c.pts.length), k + 1 = c.pts.length → c.pts[k].1 = 1000 := by
      intro k hk e
      rw [List.getLast?_eq_getElem?, List.getElem?_eq_getElem (by omega)] at ll
      simp at ll
      have e9 : c.pts.length - 1 = k := by omega
      simp only [e9] at ll
      rw [ll]
    rw [e6]
    refine (rway6 B p q b off cap c.pts v w hB h hv hb hp l2 l20 lr st hh hl).mono ?_
    rintro e w' ⟨k, hk, g1, g2, hw⟩
    have u := seg_unique ls (p : Int) (q : Int) hq0 (List.getElem?_eq_getElem (by omega)) (List.getElem?_eq_getElem hk) ai bi g1 g2 a1.1 a1.2.1
    have hs := st k hk
    have e9 : ((partD (c.pts[k]'(by omega)) c.pts[k + 1] q : Nat) : Int) = (q : Int) * (c.pts[k + 1].1 - (c.pts[k]'(by omega)).1) := by
      unfold partD
      rw [Int.natCast_mul]
      have : ((c.pts[k + 1].1 - (c.pts[k]'(by omega)).1).toNat : Int) = c.pts[k + 1].1 - (c.pts[k]'(by omega)).1 := by omega
      rw [this]
    have eAN : alN (c.pts[k]'(by omega)) c.pts[k + 1] p q = segN (c.pts[k]'(by omega)) c.pts[k + 1] p q := by
      unfold alN segN partN tQ
      rw [e9]
      grind
    have eAD : ((alD (c.pts[k]'(by omega)) c.pts[k + 1] q : Nat) : Int) = segD (c.pts[k]'(by omega)) c.pts[k + 1] q := by
      unfold alD segD
      rw [Int.natCast_mul, e9]
      grind
    obtain ⟨_, _, _, b4, _, _, _, b8, _⟩ := part_bounds (c.pts[k]'(by omega)) c.pts[k + 1] p q h (lr _ (List.getElem_mem _)) (lr _ (List.getElem_mem _)) hs
    refine fin _ _ ?_ ?_ ?_ e w' hw
    · unfold alD partD
      exact Nat.mul_pos (Nat.mul_pos h.q0 b8) (by decide)
    · unfold alD; omega
    · rw [eN, eD, eAN, eAD]
      exact u
  have e1 : c.kind = 1 := by omega
  have eN : wayN c p q = (p : Int) := by simp [wayN, e1]
  have eD : wayD c p q = (q : Int) := by simp [wayD, e1]
  rw [e1]
  exact (rway1 B p q pv v w hB h hv).mono (fin _ _ h.q0 (by have := h.q9; omega) (by rw [eN, eD]))

/-- mixing two levels by the way of a curve -/
theorem mixWay (B : Nat) (a b n : Int) (d p q : Nat) (c : Cv) (v : Value) (w : World) (hB : B ≤ w.heap.size) (ha : 0 ≤ a ∧ a ≤ 65535) (hb : 0 ≤ b ∧ b ≤ 65535) (hu : Unit1 n d) (hD : 0 < wayD c p q)
    (he : n * wayD c p q = wayN c p q * (d : Int)) (hv : IsQ B w v n d) :
    Calls Try.prog 54 #[.int .i64 a, .int .i64 b, v] w fun e w' => e = .returned (.int .i64 (rnd (a * wayD c p q + (b - a) * wayN c p q) (wayD c p q))) ∧ Below w.heap.size w w' := by
  refine (mixQ B d a b n v w hB ha hb hu hv).mono ?_
  rintro e w' ⟨rfl, h2⟩
  refine ⟨?_, h2⟩
  have hd : (0 : Int) < (d : Int) := by have := hu.d0; omega
  rw [mixV, rnd_congr hd hD (show (a * (d : Int) + (b - a) * n) * wayD c p q = (a * wayD c p q + (b - a) * wayN c p q) * (d : Int) by grind)]
end Go.Proofs.Ythoiamaomhggiaa
