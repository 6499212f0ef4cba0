/- Sums, products, whole parts and rounding of the reference's fractions of any length that fits, by their values. (printed by wip/gen/gen_fraclong.py) -/
import Derived.Test.YtopmdeefcjdadaaT28M12
import Derived.Test.YtopmdeefcjdadaaT28M13

namespace Go.Proofs.Ytopmdeefcjdadaa
open Go.RowKit
set_option linter.unusedVariables false
set_option linter.unusedSimpArgs false

theorem IsQ.setBox3 {B d g : Nat} {p : Int} {w : World} {v u0 u1 u2 : Value} {s : Bool} {ao bo : Option Addr} {i j k l : Nat} (h : IsQ B w v p d) (hb : Box3 w g (.bool s) (.slice ao i j) (.slice bo k l)) : IsQ B (((w.setCell ⟨g, 0, none⟩ u0).setCell ⟨g, 1, none⟩ u1).setCell ⟨g, 2, none⟩ u2) v p d := by
  obtain ⟨s, x, y, rfl, n, h1, h2, rfl⟩ := h
  exact isQ_mk (h1.setBox3 hb) (h2.setBox3 hb)
theorem ediv_eq {q P : Int} {g D : Nat} (hg : 0 < g) (hD : 0 < D) (he : q * (D : Int) = P * (g : Int)) : q / (g : Int) = P / (D : Int) := by
  have h1 : q * (D : Int) / ((g : Int) * (D : Int)) = q / (g : Int) := Int.mul_ediv_mul_of_pos_left _ _ (by omega)
  have h2 : P * (g : Int) / ((D : Int) * (g : Int)) = P / (D : Int) := Int.mul_ediv_mul_of_pos_left _ _ (by omega)
  rw [← h1, ← h2, he, Int.mul_comm (g : Int)]
theorem natAbs_div_eq {q P : Int} {g D : Nat} (hg : 0 < g) (hD : 0 < D) (he : q * (D : Int) = P * (g : Int)) : q.natAbs / g = P.natAbs / D := by
  have h : q.natAbs * D = P.natAbs * g := by
    have := congrArg Int.natAbs he
    rwa [Int.natAbs_mul, Int.natAbs_mul, Int.natAbs_natCast, Int.natAbs_natCast] at this
  have h1 : q.natAbs * D / (g * D) = q.natAbs / g := Nat.mul_div_mul_right _ _ hD
  have h2 : P.natAbs * g / (D * g) = P.natAbs / D := Nat.mul_div_mul_right _ _ hg
  rw [← h1, ← h2, h, Nat.mul_comm g]
theorem rndQ_eq {q P : Int} {g D : Nat} (hg : 0 < g) (hD : 0 < D) (he : q * (D : Int) = P * (g : Int)) : rndQ q g = rndQ P D := by
  unfold rndQ
  refine ediv_eq (by omega) (by omega) ?_
  push_cast
  have : (q * 2 + (g : Int)) * ((D : Int) * 2) = 4 * (q * (D : Int)) + 2 * ((g : Int) * (D : Int)) := by grind
  rw [this, he]
  grind
theorem plusR (B da db : Nat) (pa pb : Int) (v u : Value) (w : World) (hB : B ≤ w.heap.size) (h1 : Fit pa.natAbs) (h2 : Fit da) (h3 : Fit pb.natAbs) (h4 : Fit db) (h5 : Fit (pa.natAbs * db + pb.natAbs * da)) (h6 : Fit (da * db)) (h7 : 0 < da * db) (hv : IsQ B w v pa da) (hu : IsQ B w u pb db) :
    Calls Try.prog 85 #[v, u] w (NewR (pa * (db : Int) + pb * (da : Int)) (da * db) w) := by
  obtain ⟨s, x, y, rfl, na, k1, k2, rfl⟩ := hv
  obtain ⟨t, z, u, rfl, nb, k3, k4, rfl⟩ := hu
  rw [sg_abs] at h1
  rw [sg_abs] at h3
  rw [sg_abs, sg_abs] at h5
  exact plus2_frac B na nb da db s t x y z u w hB h1 h2 h3 h4 h5 h6 h7 k1 k2 k3 k4
theorem timesR (B da db : Nat) (pa pb : Int) (v u : Value) (w : World) (hB : B ≤ w.heap.size) (h1 : Fit pa.natAbs) (h2 : Fit da) (h3 : Fit pb.natAbs) (h4 : Fit db) (h5 : Fit (pa.natAbs * pb.natAbs)) (h6 : Fit (da * db)) (h7 : 0 < da * db) (hv : IsQ B w v pa da) (hu : IsQ B w u pb db) :
    Calls Try.prog 52 #[v, u] w (NewR (pa * pb) (da * db) w) := by
  obtain ⟨s, x, y, rfl, na, k1, k2, rfl⟩ := hv
  obtain ⟨t, z, u, rfl, nb, k3, k4, rfl⟩ := hu
  rw [sg_abs] at h1
  rw [sg_abs] at h3
  rw [sg_abs, sg_abs] at h5
  rw [← sg_mul]
  exact times2_frac B na nb da db s t x y z u w hB h1 h2 h3 h4 h5 h6 h7 k1 k2 k3 k4

set_option maxHeartbeats 8000000 in
set_option maxRecDepth 100000 in
theorem minusR (B da db : Nat) (pa pb : Int) (v u : Value) (w : World) (hB : B ≤ w.heap.size) (h1 : Fit pa.natAbs) (h2 : Fit da) (h3 : Fit pb.natAbs) (h4 : Fit db) (h5 : Fit (pa.natAbs * db + pb.natAbs * da)) (h6 : Fit (da * db)) (h7 : 0 < da * db) (hv : IsQ B w v pa da) (hu : IsQ B w u pb db) :
    Calls Try.prog 81 #[v, u] w (NewR (pa * (db : Int) - pb * (da : Int)) (da * db) w) := by
  obtain ⟨s, x, y, rfl, na, hx, hy, rfl⟩ := hv
  obtain ⟨t, z, u, rfl, nb, hz, hu, rfl⟩ := hu
  have e : sg s na * (db : Int) - sg t nb * (da : Int) = sg s na * (db : Int) + sg (!t) nb * (da : Int) := by rw [sg_not, Int.neg_mul]; omega
  rw [e]
  rw [sg_abs] at h1
  rw [sg_abs] at h3
  rw [sg_abs, sg_abs] at h5
  have HX := Lib.hid hx
  have HY := Lib.hid hy
  have HZ := Lib.hid hz
  have HU := Lib.hid hu
  have SA := Lib.hid (And.intro h1 (And.intro h2 (And.intro h3 h4)))
  have SB := Lib.hid (And.intro h5 (And.intro h6 h7))
  obtain ⟨ao, La, ac, rfl, _⟩ := isN_len hx
  obtain ⟨co, Lc, cc, rfl, _⟩ := isN_len hy
  obtain ⟨bo, Lb, bc, rfl, _⟩ := isN_len hz
  obtain ⟨dd, Ld, dc, rfl, _⟩ := isN_len hu
  clear hx hy hz hu h1 h2 h3 h4 h5 h6 h7 e
  have KP := Lib.hid (show ∀ W, Below (w.heap.size + 1 + 1) (W3 w s t (.slice ao La ac) (.slice co Lc cc) (.slice bo Lb bc) (.slice dd Ld dc)) W → (Below (w.heap.size + 1 + 1) (W3 w s t (.slice ao La ac) (.slice co Lc cc) (.slice bo Lb bc) (.slice dd Ld dc)) W ∧ W.cell? ⟨w.heap.size, 0, none⟩ = some (.bool s) ∧ W.cell? ⟨w.heap.size, 1, none⟩ = some (.slice ao La ac) ∧ W.cell? ⟨w.heap.size, 2, none⟩ = some (.slice co Lc cc) ∧ W.cell? ⟨w.heap.size + 1, 0, none⟩ = some (.bool t) ∧ W.cell? ⟨w.heap.size + 1, 1, none⟩ = some (.slice bo Lb bc) ∧ W.cell? ⟨w.heap.size + 1, 2, none⟩ = some (.slice dd Ld dc)) from fun W hW => by
    have a := (W3_a w s t (.slice ao La ac) (.slice co Lc cc) (.slice bo Lb bc) (.slice dd Ld dc)).below hW (by omega)
    have b := (W3_b w s t (.slice ao La ac) (.slice co Lc cc) (.slice bo Lb bc) (.slice dd Ld dc)).below hW (by omega)
    exact ⟨hW, a.c0, a.c1, a.c2, b.c0, b.c1, b.c2⟩)
  have KR := Lib.hid (show ∀ W, Below (w.heap.size + 1 + 1 + 1) (W3 w s t (.slice ao La ac) (.slice co Lc cc) (.slice bo Lb bc) (.slice dd Ld dc)) W → Box3 W (w.heap.size + 1 + 1) (.bool false) (.slice none 0 0) (.slice none 0 0) from fun W hW =>
    (W3_r w s t (.slice ao La ac) (.slice co Lc cc) (.slice bo Lb bc) (.slice dd Ld dc)).below hW (by omega))
  have KB := Lib.hid (show ∀ W, Below (w.heap.size + 1 + 1 + 1) (W3 w s t (.slice ao La ac) (.slice co Lc cc) (.slice bo Lb bc) (.slice dd Ld dc)) W → Below w.heap.size w W ∧ (w.heap.size + 1 + 1 + 1) ≤ W.heap.size from fun W hW => by
    have := hW.size
    rw [W3_size] at this
    exact ⟨(W3_below w s t _ _ _ _).trans (hW.mono (by omega)), this⟩)
  have T1 := Lib.hid (show ∀ W, Below (w.heap.size + 1 + 1 + 1) (W3 w s t (.slice ao La ac) (.slice co Lc cc) (.slice bo Lb bc) (.slice dd Ld dc)) W → Calls Try.prog 85 #[.agg #[.bool s, .slice ao La ac, .slice co Lc cc], .agg #[.bool (!t), .slice bo Lb bc, .slice dd Ld dc]] W (fun e W1 => NewR (sg s na * (db : Int) + sg (!t) nb * (da : Int)) (da * db) W e W1) from fun W hS => by
    obtain ⟨hb, hs⟩ := KB.out W hS
    exact plus2_frac B na nb da db s (!t) _ _ _ _ W (by omega) SA.out.1 SA.out.2.1 SA.out.2.2.1 SA.out.2.2.2 SB.out.1 SB.out.2.1 SB.out.2.2 (HX.out.below (hb.mono hB)) (HY.out.below (hb.mono hB)) (HZ.out.below (hb.mono hB)) (HU.out.below (hb.mono hB)))
  clear HX HY HZ HU
  go_enter Try.func81, Try.ntmps81
  go_wp2_with fail
  have hw0 : Below (w.heap.size + 1 + 1 + 1) (W3 w s t (.slice ao La ac) (.slice co Lc cc) (.slice bo Lb bc) (.slice dd Ld dc)) (World.drew (((w.alloc (.cells #[.bool s, .slice ao La ac, .slice co Lc cc] 87)).alloc (.cells #[.bool t, .slice bo Lb bc, .slice dd Ld dc] 87)).alloc (.cells #[.bool false, .slice none 0 0, .slice none 0 0] 87))) := (Below.refl _ _).drew
  go_region_held3 (fun W => Below (w.heap.size + 1 + 1) (W3 w s t (.slice ao La ac) (.slice co Lc cc) (.slice bo Lb bc) (.slice dd Ld dc)) W ∧ W.cell? ⟨w.heap.size, 0, none⟩ = some (.bool s) ∧ W.cell? ⟨w.heap.size, 1, none⟩ = some (.slice ao La ac) ∧ W.cell? ⟨w.heap.size, 2, none⟩ = some (.slice co Lc cc) ∧ W.cell? ⟨w.heap.size + 1, 0, none⟩ = some (.bool t) ∧ W.cell? ⟨w.heap.size + 1, 1, none⟩ = some (.slice bo Lb bc) ∧ W.cell? ⟨w.heap.size + 1, 2, none⟩ = some (.slice dd Ld dc))
    (first | exact KP.out _ (by assumption) | exact KP.out _ ((Below.refl _ _).drew) | exact KP.out _ (below_set3 hv3 (Nat.le_refl _)))
    (first
      | (go_at_call 102; refine (opposite_any _ _ _ _ ⟨_, _, _, rfl⟩ ⟨_, _, _, rfl⟩).mono ?_; rintro e W1 ⟨rfl, hb1⟩; have hw1 := hw0.trans (hb1.mono (KB.out _ hw0).2); have hv1 := hw1.mono (Nat.le_succ (w.heap.size + 1 + 1)); clear hb1)
      | (go_at_call 85; refine (T1.out _ hw1).mono ?_; rintro e W2 ⟨v2, p2, e2, rfl, hq2, m1, m2, m3, m4, hb2⟩; have HM := Lib.hid (And.intro m1 (And.intro m2 (And.intro m3 m4))); have hw3 := hw1.trans (hb2.mono (KB.out _ hw1).2); have hv3 := hw3.mono (Nat.le_succ (w.heap.size + 1 + 1)); have HR3 := Lib.hid (KR.out _ hw3); have HQ2 := Lib.hid hq2; obtain ⟨s2, x2, y2, rfl, n2, hn2, hd2, hp2⟩ := hq2; obtain ⟨ao2, L2, cap2, rfl, _⟩ := isN_len hn2; obtain ⟨ao3, L3, cap3, rfl, _⟩ := isN_len hd2; obtain ⟨r0, r1, r2, r3, r4, r5⟩ := KR.out _ hw3; clear hb2 hn2 hd2 hp2 m1 m2 m3 m4)
      | fail)
  all_goals
    have HW3 := Lib.hid (KB.out _ hw3)
    go_wp2
    refine bodyPost_ret (v := .agg #[.bool s2, .slice ao2 L2 cap2, .slice ao3 L3 cap3]) (by simp [results, Try.results81, go_sem, r0, r1, r2]) rfl ⟨_, _, _, rfl, ?_, HM.out.1, HM.out.2.1, HM.out.2.2.1, HM.out.2.2.2, below_set3 HW3.out.1 (by omega)⟩
    rw [size_set3]
    exact IsQ.setBox3 HQ2.out HR3.out

set_option maxHeartbeats 8000000 in
set_option maxRecDepth 100000 in
theorem floorR (B d : Nat) (p : Int) (v : Value) (w : World) (hB : B ≤ w.heap.size) (hs : Fit p.natAbs) (hd : 0 < d) (hr : p.natAbs / d ≤ 4611686018427387904) (hv : IsQ B w v p d) :
    Calls Try.prog 83 #[v] w fun e w' => e = .returned (.int .i64 (p / (d : Int))) ∧ Below w.heap.size w w' := by
  obtain ⟨s, x, y, rfl, n, hx, hy, rfl⟩ := hv
  obtain ⟨ao, L, cap, rfl, _⟩ := isN_len hx
  obtain ⟨bo, M, cap2, rfl, _⟩ := isN_len hy
  rw [sg_abs] at hs
  have fn := hs
  rw [sg_abs] at hr
  have HD := Lib.hid (fun (W : World) (hW : Below w.heap.size w W) => divide_any B n d _ _ W (Nat.le_trans hB hW.size) fn hd (hx.below (hW.mono hB)) (hy.below (hW.mono hB)))
  have HF := Lib.hid (show Fit (n / d) from fn.le (Nat.div_le_self _ _))
  have HN := Lib.hid (neg_floor (n := n) hd)
  have HP := Lib.hid (Int.natCast_ediv n d)
  clear hx hy hs fn hd
  generalize hq : n / d = q at *
  generalize hrr : n % d = r at *
  clear hq hrr
  go_enter Try.func83, Try.ntmps83
  go_wp2_with fail
  refine (HD.out _ ((Below.refl _ _).alloc (Nat.le_refl _) _)).mono ?_
  rintro e w1 ⟨v1, v2, rfl, h1, h2, hb⟩
  have hc := ((box_new w _ _ _ _).below hb (by simp)).c0
  obtain ⟨hbw, hsz⟩ := below_size1 hb
  have HQ := Lib.hid h1
  have HBW := Lib.hid hbw
  obtain ⟨ao1, N1, c1, rfl, hl1⟩ := isN_len h1
  obtain ⟨ao2, N2, c2, rfl, hl2⟩ := isN_len h2
  have HR0 := Lib.hid (lenOf_zero_iff hl2)
  clear h1 h2 hb hbw HD hl1 hl2
  go_wp2_with fail
  refine (nnumber_any _ q _ w1 (Nat.le_refl _) HF.out (by omega) HQ.out).mono ?_
  rintro e w2 ⟨rfl, rfl⟩
  cases s
  · have HE := Lib.hid (show sg false n / (d : Int) = (q : Int) from HP.out.symm)
    clear HN HP HR0
    go_wp2
    go_ret
    exact ⟨by rw [HE.out]; rfl, HBW.out⟩
  · by_cases h0 : N2 = 0
    · have hr0 := HR0.out.2 h0
      subst h0 hr0
      have HE := Lib.hid (show sg true n / (d : Int) = -(q : Int) by show -(n : Int) / (d : Int) = _; rw [HN.out]; simp)
      clear HN HP HR0
      go_wp2
      go_ret
      exact ⟨by rw [HE.out]; rfl, HBW.out⟩
    · have hr0 : 0 < r := by
        have : r ≠ 0 := fun h => h0 (HR0.out.1 h)
        omega
      have HE := Lib.hid (show sg true n / (d : Int) = -((q : Int) + 1) by show -(n : Int) / (d : Int) = _; rw [HN.out, if_pos hr0]; omega)
      have hN2 : (0 : Int) < (N2 : Int) := by omega
      clear HN HP HR0 hr0 h0
      go_wp2
      go_ret
      exact ⟨by rw [HE.out]; rfl, HBW.out⟩


set_option maxHeartbeats 8000000 in
set_option maxRecDepth 100000 in
theorem roundR (B d : Nat) (p : Int) (v : Value) (w : World) (hB : B ≤ w.heap.size) (hs : Fit (p.natAbs * 2 + d)) (hs2 : Fit (d * 2)) (hd : 0 < d) (hr : (p * 2 + d).natAbs / (d * 2) ≤ 4611686018427387904) (hv : IsQ B w v p d) :
    Calls Try.prog 54 #[v] w fun e w' => e = .returned (.int .i64 (rndQ p d)) ∧ Below w.heap.size w w' := by
  have HV := Lib.hid hv
  obtain ⟨s, ao, L, cap, bo, M, cap2, rfl⟩ := isQ_shape hv
  have h1 : Fit p.natAbs := hs.le (by omega)
  have h2 : Fit d := hs2.le (by omega)
  have HP := Lib.hid (fun (W : World) (u : Value) (hW : Below w.heap.size w W) (hu : IsQ W.heap.size W u ((1 : Nat) : Int) 2) => plusR W.heap.size d 2 p ((1 : Nat) : Int) _ u W (Nat.le_refl _) h1 h2 (by simpa using hs2.le (show 1 ≤ d * 2 by omega)) (hs2.le (by omega)) (by simpa using hs) hs2 (by omega) ((hv.below (hW.mono hB)).more (Nat.le_trans hB hW.size)) hu)
  have HF := Lib.hid (fun (W : World) (u : Value) (q : Int) (g : Nat) (hu : IsQ W.heap.size W u q g) (hg : 0 < g) (hq : q.natAbs ≤ (p * ((2 : Nat) : Int) + ((1 : Nat) : Int) * (d : Int)).natAbs) (he : q * ((d * 2 : Nat) : Int) = (p * ((2 : Nat) : Int) + ((1 : Nat) : Int) * (d : Int)) * (g : Int)) => floorR W.heap.size g q u W (Nat.le_refl _) (hs.le (by omega)) hg (by
    rw [natAbs_div_eq hg (by omega) he, show p * ((2 : Nat) : Int) + ((1 : Nat) : Int) * (d : Int) = p * 2 + d by omega]; exact hr) hu)
  have HE := Lib.hid (fun (q : Int) (g : Nat) (hg : 0 < g) (he : q * ((d * 2 : Nat) : Int) = (p * ((2 : Nat) : Int) + ((1 : Nat) : Int) * (d : Int)) * (g : Int)) => show q / (g : Int) = rndQ p d by rw [ediv_eq hg (by omega) he]; unfold rndQ; rw [show p * ((2 : Nat) : Int) + ((1 : Nat) : Int) * (d : Int) = p * 2 + d by omega])
  clear hv hs hs2 hd hr h1 h2
  have KP := Lib.hid (show ∀ W, Below (w.heap.size + 1) (w.alloc (.cells #[.bool s, .slice ao L cap, .slice bo M cap2] 87)) W → (Below (w.heap.size + 1) (w.alloc (.cells #[.bool s, .slice ao L cap, .slice bo M cap2] 87)) W ∧ W.cell? ⟨w.heap.size, 0, none⟩ = some (.bool s) ∧ W.cell? ⟨w.heap.size, 1, none⟩ = some (.slice ao L cap) ∧ W.cell? ⟨w.heap.size, 2, none⟩ = some (.slice bo M cap2)) from fun W hW => by
    have a := (box_new w _ _ _ _).below hW (by omega)
    exact ⟨hW, a.c0, a.c1, a.c2⟩)
  have KB := Lib.hid (show ∀ W, Below (w.heap.size + 1) (w.alloc (.cells #[.bool s, .slice ao L cap, .slice bo M cap2] 87)) W → Below w.heap.size w W ∧ w.heap.size + 1 ≤ W.heap.size from fun W hW => by
    have h1 := hW.size
    simp at h1
    exact ⟨((Below.refl _ _).alloc (Nat.le_refl _) _).trans (hW.mono (by omega)), h1⟩)
  go_enter Try.func54, Try.ntmps54
  go_wp2_with fail
  have hw0 : Below (w.heap.size + 1) (w.alloc (.cells #[.bool s, .slice ao L cap, .slice bo M cap2] 87)) (World.drew (w.alloc (.cells #[.bool s, .slice ao L cap, .slice bo M cap2] 87))) := (Below.refl _ _).drew
  go_region_held3 (fun W => Below (w.heap.size + 1) (w.alloc (.cells #[.bool s, .slice ao L cap, .slice bo M cap2] 87)) W ∧ W.cell? ⟨w.heap.size, 0, none⟩ = some (.bool s) ∧ W.cell? ⟨w.heap.size, 1, none⟩ = some (.slice ao L cap) ∧ W.cell? ⟨w.heap.size, 2, none⟩ = some (.slice bo M cap2))
    (first | exact KP.out _ (by assumption) | exact KP.out _ ((Below.refl _ _).drew))
    (first
      | (go_at_call 80; refine (part_any 1 2 _ (by omega) (by omega)).mono ?_; rintro e W1 ⟨v1, rfl, hq1, _, hb1⟩; have hw1 := hw0.trans (hb1.mono (KB.out _ hw0).2); have HQ1 := Lib.hid hq1; obtain ⟨s1, ao1, L1, cap1, bo1, M1, capm1, rfl⟩ := isQ_shape hq1; clear hq1 hb1)
      | (go_at_call 85; refine (HP.out _ _ (KB.out _ hw1).1 HQ1.out).mono ?_; rintro e W2 ⟨v2, p2, e2, rfl, hq2, m1, m2, m3, m4, hb2⟩; have HM := Lib.hid (And.intro m1 (And.intro m2 m3)); clear m1 m2 m3 m4; have hw2 := hw1.trans (hb2.mono (KB.out _ hw1).2); have HQ2 := Lib.hid hq2; obtain ⟨s2, ao2, L2, cap3, bo2, M2, capm2, rfl⟩ := isQ_shape hq2; clear hq2 hb2)
      | (go_at_call 83; refine (HF.out _ _ _ _ HQ2.out HM.out.2.2 HM.out.2.1 HM.out.1).mono ?_; rintro e W3 ⟨rfl, hb3⟩; have hw3 := hw2.trans (hb3.mono (KB.out _ hw2).2); clear hb3)
      | fail)
  all_goals
    have HW3 := Lib.hid (KB.out _ hw3)
    go_wp2
    go_ret
    exact ⟨by rw [HE.out _ _ HM.out.2.2 HM.out.1]; rfl, HW3.out.1⟩

end Go.Proofs.Ytopmdeefcjdadaa
