/- The reference's fractions by value: Plus, Times, Over, Minus, Zero, Order, Floor, Round. The reference's fractions: Order, Floor, Round. -/
import Derived.Test.YtopmdeefcjdadaaT28M10

namespace Go.Proofs.Ytopmdeefcjdadaa
open Go.RowKit
set_option linter.unusedVariables false
set_option linter.unusedSimpArgs false

theorem sm_sg {s : Bool} {n d : Nat} (h : Sm (sg s n) d) : n < BB ^ 6 ∧ d < BB ^ 5 := ⟨by have := h.1; rwa [sg_abs] at this, h.2⟩
theorem plusQ (B da db : Nat) (pa pb : Int) (v u : Value) (w : World) (hB : B ≤ w.heap.size) (ha : Sm pa da) (hb : Sm pb db) (h : Sm (pa * (db : Int) + pb * (da : Int)) (da * db)) (hv : IsQ B w v pa da) (hu : IsQ B w u pb db) :
    Calls Try.prog 85 #[v, u] w (NewQ (pa * (db : Int) + pb * (da : Int)) (da * db) w) := by
  obtain ⟨s, x, y, rfl, na, h1, h2, rfl⟩ := hv
  obtain ⟨t, z, u, rfl, nb, h3, h4, rfl⟩ := hu
  exact plus_frac B na nb da db s t x y z u w hB (sm_sg ha).1 ha.2 (sm_sg hb).1 hb.2 h h1 h2 h3 h4
theorem timesQ (B da db : Nat) (pa pb : Int) (v u : Value) (w : World) (hB : B ≤ w.heap.size) (ha : Sm pa da) (hb : Sm pb db) (h : Sm (pa * pb) (da * db)) (hv : IsQ B w v pa da) (hu : IsQ B w u pb db) :
    Calls Try.prog 52 #[v, u] w (NewQ (pa * pb) (da * db) w) := by
  obtain ⟨s, x, y, rfl, na, h1, h2, rfl⟩ := hv
  obtain ⟨t, z, u, rfl, nb, h3, h4, rfl⟩ := hu
  rw [← sg_mul] at h ⊢
  exact times_frac B na nb da db s t x y z u w hB (sm_sg ha).1 ha.2 (sm_sg hb).1 hb.2 (sm_sg h).1 h.2 h1 h2 h3 h4
theorem overQ (B da db : Nat) (pa : Int) (nb : Nat) (v u : Value) (w : World) (hB : B ≤ w.heap.size) (ha : Sm pa da) (hb : Sm nb db) (hp : 0 < nb) (h : Sm (pa * (db : Int)) (da * nb)) (hv : IsQ B w v pa da) (hu : IsQ B w u nb db) :
    Calls Try.prog 82 #[v, u] w (NewQ (pa * (db : Int)) (da * nb) w) := by
  obtain ⟨s, x, y, rfl, na, h1, h2, rfl⟩ := hv
  obtain ⟨t, z, u, rfl, nc, h3, h4, hnc⟩ := hu
  have ht : t = false := by
    cases t
    · rfl
    · simp only [sg] at hnc; omega
  subst ht
  have hnb : nc = nb := by simp only [sg] at hnc; omega
  subst hnb
  rw [sg_scale] at h ⊢
  have := over_frac B na nc da db s false x y z u w hB (sm_sg ha).1 ha.2 (by have := hb.1; simpa using this) hb.2 (sm_sg h).1 h.2 h1 h2 h3 h4
  rwa [Bool.bne_false] at this

def zB (p : Int) : Bool := decide (p = 0)
theorem zB_yes {p : Int} (h : p = 0) : zB p = true := decide_eq_true h
theorem zB_no {p : Int} (h : p ≠ 0) : zB p = false := decide_eq_false h
set_option maxHeartbeats 4000000 in
set_option maxRecDepth 100000 in
theorem zeroQ (B d : Nat) (p : Int) (v : Value) (w : World) (h : IsQ B w v p d) : Calls Try.prog 84 #[v] w fun e w' => e = .returned (.bool (zB p)) ∧ Below w.heap.size w w' := by
  obtain ⟨s, x, y, rfl, n, h1, h2, rfl⟩ := h
  obtain ⟨ao, L, cap, rfl, hl⟩ := isN_len h1
  obtain ⟨bo, M, cap2, rfl, hm⟩ := isN_len h2
  have hz := lenOf_zero_iff hl
  clear h1 h2 hl hm
  by_cases h0 : L = 0
  · have hn := hz.2 h0
    subst h0 hn
    have HE := Lib.hid (zB_yes (p := sg s 0) (by cases s <;> rfl))
    rw [HE.out]
    clear hz
    go_enter Try.func84, Try.ntmps84
    go_wp2
    go_ret
    exact ⟨rfl, by go_grown⟩
  · have HE := Lib.hid (zB_no (p := sg s n) (by have : n ≠ 0 := fun h => h0 (hz.1 h); cases s <;> simp only [sg] <;> omega))
    rw [HE.out]
    have hd : ((L : Int) == 0) = false := by simp; omega
    clear hz
    go_enter Try.func84, Try.ntmps84
    go_wp2
    go_ret
    exact ⟨by simp [h0], by go_grown⟩

set_option maxHeartbeats 8000000 in
set_option maxRecDepth 100000 in
theorem minusQ (B da db : Nat) (pa pb : Int) (v u : Value) (w : World) (hB : B ≤ w.heap.size) (ha : Sm pa da) (hb : Sm pb db) (h : Sm (pa * (db : Int) - pb * (da : Int)) (da * db)) (hv : IsQ B w v pa da) (hu : IsQ B w u pb db) :
    Calls Try.prog 81 #[v, u] w (NewQ (pa * (db : Int) - pb * (da : Int)) (da * db) w) := by
  obtain ⟨s, x, y, rfl, na, hx, hy, rfl⟩ := hv
  obtain ⟨t, z, u, rfl, nb, hz, hu, rfl⟩ := hu
  have e : sg s na * (db : Int) - sg t nb * (da : Int) = sg s na * (db : Int) + sg (!t) nb * (da : Int) := by rw [sg_not, Int.neg_mul]; omega
  rw [e] at h ⊢
  have HX := Lib.hid hx
  have HY := Lib.hid hy
  have HZ := Lib.hid hz
  have HU := Lib.hid hu
  have HSM := Lib.hid h
  have SA := Lib.hid (sm_sg ha)
  have SB := Lib.hid (sm_sg hb)
  obtain ⟨ao, La, ac, rfl, _⟩ := isN_len hx
  obtain ⟨co, Lc, cc, rfl, _⟩ := isN_len hy
  obtain ⟨bo, Lb, bc, rfl, _⟩ := isN_len hz
  obtain ⟨dd, Ld, dc, rfl, _⟩ := isN_len hu
  clear hx hy hz hu ha hb h e
  have KP := Lib.hid (show ∀ W, Below (w.heap.size + 1 + 1) (W3 w s t (.slice ao La ac) (.slice co Lc cc) (.slice bo Lb bc) (.slice dd Ld dc)) W → (Below (w.heap.size + 1 + 1) (W3 w s t (.slice ao La ac) (.slice co Lc cc) (.slice bo Lb bc) (.slice dd Ld dc)) W ∧ W.cell? ⟨w.heap.size, 0, none⟩ = some (.bool s) ∧ W.cell? ⟨w.heap.size, 1, none⟩ = some (.slice ao La ac) ∧ W.cell? ⟨w.heap.size, 2, none⟩ = some (.slice co Lc cc) ∧ W.cell? ⟨w.heap.size + 1, 0, none⟩ = some (.bool t) ∧ W.cell? ⟨w.heap.size + 1, 1, none⟩ = some (.slice bo Lb bc) ∧ W.cell? ⟨w.heap.size + 1, 2, none⟩ = some (.slice dd Ld dc)) from fun W hW => by
    have a := (W3_a w s t (.slice ao La ac) (.slice co Lc cc) (.slice bo Lb bc) (.slice dd Ld dc)).below hW (by omega)
    have b := (W3_b w s t (.slice ao La ac) (.slice co Lc cc) (.slice bo Lb bc) (.slice dd Ld dc)).below hW (by omega)
    exact ⟨hW, a.c0, a.c1, a.c2, b.c0, b.c1, b.c2⟩)
  have KR := Lib.hid (show ∀ W, Below (w.heap.size + 1 + 1 + 1) (W3 w s t (.slice ao La ac) (.slice co Lc cc) (.slice bo Lb bc) (.slice dd Ld dc)) W → Box3 W (w.heap.size + 1 + 1) (.bool false) (.slice none 0 0) (.slice none 0 0) from fun W hW =>
    (W3_r w s t (.slice ao La ac) (.slice co Lc cc) (.slice bo Lb bc) (.slice dd Ld dc)).below hW (by omega))
  have KB := Lib.hid (show ∀ W, Below (w.heap.size + 1 + 1 + 1) (W3 w s t (.slice ao La ac) (.slice co Lc cc) (.slice bo Lb bc) (.slice dd Ld dc)) W → Below w.heap.size w W ∧ (w.heap.size + 1 + 1 + 1) ≤ W.heap.size from fun W hW => by
    have := hW.size
    rw [W3_size] at this
    exact ⟨(W3_below w s t _ _ _ _).trans (hW.mono (by omega)), this⟩)
  have T1 := Lib.hid (show ∀ W, Below (w.heap.size + 1 + 1 + 1) (W3 w s t (.slice ao La ac) (.slice co Lc cc) (.slice bo Lb bc) (.slice dd Ld dc)) W → Calls Try.prog 85 #[.agg #[.bool s, .slice ao La ac, .slice co Lc cc], .agg #[.bool (!t), .slice bo Lb bc, .slice dd Ld dc]] W (fun e W1 => NewQ (sg s na * (db : Int) + sg (!t) nb * (da : Int)) (da * db) W e W1) from fun W hS => by
    obtain ⟨hb, hs⟩ := KB.out W hS
    exact plus_frac B na nb da db s (!t) _ _ _ _ W (by omega) SA.out.1 SA.out.2 SB.out.1 SB.out.2 HSM.out (HX.out.below (hb.mono hB)) (HY.out.below (hb.mono hB)) (HZ.out.below (hb.mono hB)) (HU.out.below (hb.mono hB)))
  clear HX HY HZ HU
  go_enter Try.func81, Try.ntmps81
  go_wp2_with fail
  have hw0 : Below (w.heap.size + 1 + 1 + 1) (W3 w s t (.slice ao La ac) (.slice co Lc cc) (.slice bo Lb bc) (.slice dd Ld dc)) (World.drew (((w.alloc (.cells #[.bool s, .slice ao La ac, .slice co Lc cc] 87)).alloc (.cells #[.bool t, .slice bo Lb bc, .slice dd Ld dc] 87)).alloc (.cells #[.bool false, .slice none 0 0, .slice none 0 0] 87))) := (Below.refl _ _).drew
  go_region_held3 (fun W => Below (w.heap.size + 1 + 1) (W3 w s t (.slice ao La ac) (.slice co Lc cc) (.slice bo Lb bc) (.slice dd Ld dc)) W ∧ W.cell? ⟨w.heap.size, 0, none⟩ = some (.bool s) ∧ W.cell? ⟨w.heap.size, 1, none⟩ = some (.slice ao La ac) ∧ W.cell? ⟨w.heap.size, 2, none⟩ = some (.slice co Lc cc) ∧ W.cell? ⟨w.heap.size + 1, 0, none⟩ = some (.bool t) ∧ W.cell? ⟨w.heap.size + 1, 1, none⟩ = some (.slice bo Lb bc) ∧ W.cell? ⟨w.heap.size + 1, 2, none⟩ = some (.slice dd Ld dc))
    (first | exact KP.out _ (by assumption) | exact KP.out _ ((Below.refl _ _).drew) | exact KP.out _ (below_set3 hv3 (Nat.le_refl _)))
    (first
      | (go_at_call 102; refine (opposite_any _ _ _ _ ⟨_, _, _, rfl⟩ ⟨_, _, _, rfl⟩).mono ?_; rintro e W1 ⟨rfl, hb1⟩; have hw1 := hw0.trans (hb1.mono (KB.out _ hw0).2); have hv1 := hw1.mono (Nat.le_succ (w.heap.size + 1 + 1)); clear hb1)
      | (go_at_call 85; refine (T1.out _ hw1).mono ?_; rintro e W2 ⟨v2, rfl, hq2, hnv, hb2⟩; have hw3 := hw1.trans (hb2.mono (KB.out _ hw1).2); have hv3 := hw3.mono (Nat.le_succ (w.heap.size + 1 + 1)); have HNV := Lib.hid (hnv.less (KB.out _ hw1).2); have HQ2 := Lib.hid hq2; obtain ⟨s2, x2, y2, rfl, n2, hn2, hd2, hp2⟩ := hq2; obtain ⟨ao2, L2, cap2, rfl, _⟩ := isN_len hn2; obtain ⟨ao3, L3, cap3, rfl, _⟩ := isN_len hd2; obtain ⟨r0, r1, r2, r3, r4, r5⟩ := KR.out _ hw3; clear hb2 hn2 hd2 hp2 hnv)
      | fail)
  all_goals
    have HW3 := Lib.hid (KB.out _ hw3)
    go_wp2
    refine bodyPost_ret (v := .agg #[.bool s2, .slice ao2 L2 cap2, .slice ao3 L3 cap3]) (by simp [results, Try.results81, go_sem, r0, r1, r2]) rfl ⟨_, rfl, ?_, HNV.out.less (by omega), below_set3 HW3.out.1 (by omega)⟩
    rw [size_set3]
    exact HQ2.out.set3 HNV.out
end Go.Proofs.Ytopmdeefcjdadaa

namespace Go.Proofs.Ytopmdeefcjdadaa
open Go.RowKit
set_option linter.unusedVariables false
set_option linter.unusedSimpArgs false

/-- the sign of a number -/
def ordI (p : Int) : Int := if p = 0 then 0 else if p < 0 then -1 else 1
theorem isQ_shape {B d : Nat} {p : Int} {w : World} {v : Value} (h : IsQ B w v p d) : ∃ s ao L cap bo M cap2, v = .agg #[.bool s, .slice ao L cap, .slice bo M cap2] := by
  obtain ⟨s, x, y, rfl, n, h1, h2, h3⟩ := h
  obtain ⟨ao, L, cap, rfl, _⟩ := isN_len h1
  obtain ⟨bo, M, cap2, rfl, _⟩ := isN_len h2
  exact ⟨_, _, _, _, _, _, _, rfl⟩
theorem isQ_sign {B d : Nat} {p : Int} {w : World} {s : Bool} {x y : Value} (h : IsQ B w (.agg #[.bool s, x, y]) p d) (hp : p ≠ 0) : (s = true ∧ p < 0) ∨ (s = false ∧ 0 < p) := by
  obtain ⟨s', x', y', e, n, h1, h2, h3⟩ := h
  cases e
  cases s
  · right; simp only [sg] at h3; exact ⟨rfl, by omega⟩
  · left; simp only [sg] at h3; exact ⟨rfl, by omega⟩
theorem two_alloc {w W : World} {o1 o2 : Obj} (h : Below ((w.alloc o1).alloc o2).heap.size ((w.alloc o1).alloc o2) W) : Below w.heap.size w W ∧ w.heap.size + 1 + 1 ≤ W.heap.size := by
  have h1 := h.size
  simp at h1
  exact ⟨(((Below.refl _ _).alloc (Nat.le_refl _) o1).alloc (by simp) o2).trans (h.mono (by simp <;> omega)), by omega⟩

set_option maxHeartbeats 8000000 in
set_option maxRecDepth 100000 in
theorem orderQ (B da db : Nat) (pa pb : Int) (v u : Value) (w : World) (hB : B ≤ w.heap.size) (ha : Sm pa da) (hb : Sm pb db) (h : Sm (pa * (db : Int) - pb * (da : Int)) (da * db)) (hv : IsQ B w v pa da) (hu : IsQ B w u pb db) :
    Calls Try.prog 86 #[v, u] w fun e w' => e = .returned (.int .i64 (ordI (pa * (db : Int) - pb * (da : Int)))) ∧ Below w.heap.size w w' := by
  have HV := Lib.hid hv
  have HU := Lib.hid hu
  have HA := Lib.hid ha
  have HBb := Lib.hid hb
  have HS := Lib.hid h
  obtain ⟨s, ao, L, cap, bo, M, cap2, rfl⟩ := isQ_shape hv
  obtain ⟨t, co, L2, cap3, dd, M2, cap4, rfl⟩ := isQ_shape hu
  have HM := Lib.hid (fun (W : World) (hW : Below w.heap.size w W) => minusQ B da db pa pb _ _ W (Nat.le_trans hB hW.size) ha hb h (hv.below (hW.mono hB)) (hu.below (hW.mono hB)))
  clear hv hu ha hb h
  generalize pa * (db : Int) - pb * (da : Int) = p at *
  go_enter Try.func86, Try.ntmps86
  go_wp2_with fail
  refine (HM.out _ (((Below.refl _ _).alloc (Nat.le_refl _) _).alloc (by simp) _)).mono ?_
  rintro e w1 ⟨v1, rfl, hq, hnv, hb⟩
  obtain ⟨hbw, hsz⟩ := two_alloc hb
  obtain ⟨s1, ao1, N1, c1, bo1, N2, c2, rfl⟩ := isQ_shape hq
  have HQ := Lib.hid hq
  have HBW := Lib.hid hbw
  clear hq hnv hb hbw HM
  go_wp2_with fail
  refine (zeroQ _ _ p _ _ (HQ.out.below ((Below.refl _ _).alloc (Nat.le_refl _) _))).mono ?_
  rintro e w2 ⟨rfl, hb2⟩
  have hc := ((box_new w1 _ _ _ _).below hb2 (by simp)).c0
  have HB2 := Lib.hid (HBW.out.trans (((Below.refl w.heap.size w1).alloc (by omega) _).trans (hb2.mono (by simp <;> omega))))
  clear hb2
  by_cases h0 : p = 0
  · rw [zB_yes h0]
    have HE := Lib.hid (show ordI p = 0 from if_pos h0)
    clear h0 hc
    go_wp2
    go_ret
    exact ⟨by rw [HE.out]; rfl, HB2.out⟩
  · rw [zB_no h0]
    have HE := Lib.hid (show ordI p = if p < 0 then -1 else 1 from if_neg h0)
    rcases isQ_sign HQ.out h0 with ⟨rfl, hp⟩ | ⟨rfl, hp⟩
    · have HE2 := Lib.hid (HE.out.trans (if_pos hp))
      clear h0 hp HE
      go_wp2
      go_ret
      exact ⟨by rw [HE2.out]; rfl, HB2.out⟩
    · have HE2 := Lib.hid (HE.out.trans (if_neg (by omega)))
      clear h0 hp HE
      go_wp2
      go_ret
      exact ⟨by rw [HE2.out]; rfl, HB2.out⟩

/-- the floor of a fraction below 0 -/
theorem neg_floor {n d : Nat} (hd : 0 < d) : (-(n : Int)) / (d : Int) = -((n / d : Nat) : Int) - (if 0 < n % d then 1 else 0) := by
  have h1 := Nat.div_add_mod n d
  have h2 := Nat.mod_lt n hd
  have e : -(n : Int) = -((n % d : Nat) : Int) + (d : Int) * (-((n / d : Nat) : Int)) := by
    have : (n : Int) = (d : Int) * ((n / d : Nat) : Int) + ((n % d : Nat) : Int) := by exact_mod_cast h1.symm
    rw [Int.mul_neg]; omega
  rw [e, Int.add_mul_ediv_left _ _ (by omega)]
  generalize n % d = r at *
  by_cases h0 : 0 < r
  · rw [if_pos h0]
    have : (-(r : Int)) / (d : Int) = -1 := by
      rw [show -(r : Int) = ((d : Int) - r) + (d : Int) * (-1) by omega, Int.add_mul_ediv_left _ _ (by omega), Int.ediv_eq_zero_of_lt (by omega) (by omega)]
      omega
    omega
  · obtain rfl : r = 0 := by omega
    rw [if_neg (by omega)]
    simp

set_option maxHeartbeats 8000000 in
set_option maxRecDepth 100000 in
theorem floorQ (B d : Nat) (p : Int) (v : Value) (w : World) (hB : B ≤ w.heap.size) (hs : Sm p d) (hd : 0 < d) (hr : p.natAbs / d ≤ 4611686018427387904) (hv : IsQ B w v p d) :
    Calls Try.prog 83 #[v] w fun e w' => e = .returned (.int .i64 (p / (d : Int))) ∧ Below w.heap.size w w' := by
  obtain ⟨s, x, y, rfl, n, hx, hy, rfl⟩ := hv
  obtain ⟨ao, L, cap, rfl, _⟩ := isN_len hx
  obtain ⟨bo, M, cap2, rfl, _⟩ := isN_len hy
  have fn := Fit.of6 (sm_sg hs).1
  rw [sg_abs] at hr
  have HD := Lib.hid (fun (W : World) (hW : Below w.heap.size w W) => divide_any B n d _ _ W (Nat.le_trans hB hW.size) fn hd (hx.below (hW.mono hB)) (hy.below (hW.mono hB)))
  have HF := Lib.hid (show Fit (n / d) from fn.le (Nat.div_le_self _ _))
  have HN := Lib.hid (neg_floor (n := n) hd)
  have HP := Lib.hid (Int.natCast_ediv n d)
  clear hx hy hs fn hd
  generalize hq : n / d = q at *
  generalize hrr : n % d = r at *
  clear hq hrr
  go_enter Try.func83, Try.ntmps83
  go_wp2_with fail
  refine (HD.out _ ((Below.refl _ _).alloc (Nat.le_refl _) _)).mono ?_
  rintro e w1 ⟨v1, v2, rfl, h1, h2, hb⟩
  have hc := ((box_new w _ _ _ _).below hb (by simp)).c0
  obtain ⟨hbw, hsz⟩ := below_size1 hb
  have HQ := Lib.hid h1
  have HBW := Lib.hid hbw
  obtain ⟨ao1, N1, c1, rfl, hl1⟩ := isN_len h1
  obtain ⟨ao2, N2, c2, rfl, hl2⟩ := isN_len h2
  have HR0 := Lib.hid (lenOf_zero_iff hl2)
  clear h1 h2 hb hbw HD hl1 hl2
  go_wp2_with fail
  refine (nnumber_any _ q _ w1 (Nat.le_refl _) HF.out (by omega) HQ.out).mono ?_
  rintro e w2 ⟨rfl, rfl⟩
  cases s
  · have HE := Lib.hid (show sg false n / (d : Int) = (q : Int) from HP.out.symm)
    clear HN HP HR0
    go_wp2
    go_ret
    exact ⟨by rw [HE.out]; rfl, HBW.out⟩
  · by_cases h0 : N2 = 0
    · have hr0 := HR0.out.2 h0
      subst h0 hr0
      have HE := Lib.hid (show sg true n / (d : Int) = -(q : Int) by show -(n : Int) / (d : Int) = _; rw [HN.out]; simp)
      clear HN HP HR0
      go_wp2
      go_ret
      exact ⟨by rw [HE.out]; rfl, HBW.out⟩
    · have hr0 : 0 < r := by
        have : r ≠ 0 := fun h => h0 (HR0.out.1 h)
        omega
      have HE := Lib.hid (show sg true n / (d : Int) = -((q : Int) + 1) by show -(n : Int) / (d : Int) = _; rw [HN.out, if_pos hr0]; omega)
      have hN2 : (0 : Int) < (N2 : Int) := by omega
      clear HN HP HR0 hr0 h0
      go_wp2
      go_ret
      exact ⟨by rw [HE.out]; rfl, HBW.out⟩

/-- the nearest whole number -/
def rndQ (p : Int) (d : Nat) : Int := (p * 2 + d) / ((d * 2 : Nat) : Int)
set_option maxHeartbeats 8000000 in
set_option maxRecDepth 100000 in
theorem roundQ (B d : Nat) (p : Int) (v : Value) (w : World) (hB : B ≤ w.heap.size) (hs : Sm p d) (hs2 : Sm (p * 2 + d) (d * 2)) (hd : 0 < d) (hr : (p * 2 + d).natAbs / (d * 2) ≤ 4611686018427387904) (hv : IsQ B w v p d) :
    Calls Try.prog 54 #[v] w fun e w' => e = .returned (.int .i64 (rndQ p d)) ∧ Below w.heap.size w w' := by
  have HV := Lib.hid hv
  obtain ⟨s, ao, L, cap, bo, M, cap2, rfl⟩ := isQ_shape hv
  have h12 : Sm ((1 : Nat) : Int) 2 := ⟨by decide, by decide⟩
  have HP := Lib.hid (fun (W : World) (u : Value) (hW : Below w.heap.size w W) (hu : IsQ W.heap.size W u ((1 : Nat) : Int) 2) => plusQ W.heap.size d 2 p ((1 : Nat) : Int) _ u W (Nat.le_refl _) hs h12 (by rw [show p * ((2 : Nat) : Int) + ((1 : Nat) : Int) * (d : Int) = p * 2 + d by omega]; exact hs2) ((hv.below (hW.mono hB)).more (Nat.le_trans hB hW.size)) hu)
  have HF := Lib.hid (fun (W : World) (u : Value) (hu : IsQ W.heap.size W u (p * ((2 : Nat) : Int) + ((1 : Nat) : Int) * (d : Int)) (d * 2)) => floorQ W.heap.size (d * 2) _ u W (Nat.le_refl _) (by rw [show p * ((2 : Nat) : Int) + ((1 : Nat) : Int) * (d : Int) = p * 2 + d by omega]; exact hs2) (by omega) (by rw [show p * ((2 : Nat) : Int) + ((1 : Nat) : Int) * (d : Int) = p * 2 + d by omega]; exact hr) hu)
  have HE := Lib.hid (show (p * 2 + (d : Int)) / ((d : Int) * 2) = rndQ p d by unfold rndQ; rw [Int.natCast_mul]; rfl)
  clear hv hs hs2 hd hr h12
  have KP := Lib.hid (show ∀ W, Below (w.heap.size + 1) (w.alloc (.cells #[.bool s, .slice ao L cap, .slice bo M cap2] 87)) W → (Below (w.heap.size + 1) (w.alloc (.cells #[.bool s, .slice ao L cap, .slice bo M cap2] 87)) W ∧ W.cell? ⟨w.heap.size, 0, none⟩ = some (.bool s) ∧ W.cell? ⟨w.heap.size, 1, none⟩ = some (.slice ao L cap) ∧ W.cell? ⟨w.heap.size, 2, none⟩ = some (.slice bo M cap2)) from fun W hW => by
    have a := (box_new w _ _ _ _).below hW (by omega)
    exact ⟨hW, a.c0, a.c1, a.c2⟩)
  have KB := Lib.hid (show ∀ W, Below (w.heap.size + 1) (w.alloc (.cells #[.bool s, .slice ao L cap, .slice bo M cap2] 87)) W → Below w.heap.size w W ∧ w.heap.size + 1 ≤ W.heap.size from fun W hW => by
    have h1 := hW.size
    simp at h1
    exact ⟨((Below.refl _ _).alloc (Nat.le_refl _) _).trans (hW.mono (by omega)), h1⟩)
  go_enter Try.func54, Try.ntmps54
  go_wp2_with fail
  have hw0 : Below (w.heap.size + 1) (w.alloc (.cells #[.bool s, .slice ao L cap, .slice bo M cap2] 87)) (World.drew (w.alloc (.cells #[.bool s, .slice ao L cap, .slice bo M cap2] 87))) := (Below.refl _ _).drew
  go_region_held3 (fun W => Below (w.heap.size + 1) (w.alloc (.cells #[.bool s, .slice ao L cap, .slice bo M cap2] 87)) W ∧ W.cell? ⟨w.heap.size, 0, none⟩ = some (.bool s) ∧ W.cell? ⟨w.heap.size, 1, none⟩ = some (.slice ao L cap) ∧ W.cell? ⟨w.heap.size, 2, none⟩ = some (.slice bo M cap2))
    (first | exact KP.out _ (by assumption) | exact KP.out _ ((Below.refl _ _).drew))
    (first
      | (go_at_call 80; refine (part_any 1 2 _ (by omega) (by omega)).mono ?_; rintro e W1 ⟨v1, rfl, hq1, _, hb1⟩; have hw1 := hw0.trans (hb1.mono (KB.out _ hw0).2); have HQ1 := Lib.hid hq1; obtain ⟨s1, ao1, L1, cap1, bo1, M1, capm1, rfl⟩ := isQ_shape hq1; clear hq1 hb1)
      | (go_at_call 85; refine (HP.out _ _ (KB.out _ hw1).1 HQ1.out).mono ?_; rintro e W2 ⟨v2, rfl, hq2, _, hb2⟩; have hw2 := hw1.trans (hb2.mono (KB.out _ hw1).2); have HQ2 := Lib.hid hq2; obtain ⟨s2, ao2, L2, cap3, bo2, M2, capm2, rfl⟩ := isQ_shape hq2; clear hq2 hb2)
      | (go_at_call 83; refine (HF.out _ _ HQ2.out).mono ?_; rintro e W3 ⟨rfl, hb3⟩; have hw3 := hw2.trans (hb3.mono (KB.out _ hw2).2); clear hb3)
      | fail)
  all_goals
    have HW3 := Lib.hid (KB.out _ hw3)
    go_wp2
    go_ret
    exact ⟨by rw [← HE.out]; rfl, HW3.out.1⟩
end Go.Proofs.Ytopmdeefcjdadaa
