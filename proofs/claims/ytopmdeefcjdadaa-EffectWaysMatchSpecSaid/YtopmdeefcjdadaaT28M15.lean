/- The reference's fractions by what they are worth, their parts of any length that fits. (printed by wip/gen/gen_fracval.py) -/
import Derived.Test.YtopmdeefcjdadaaT28M14

namespace Go.Proofs.Ytopmdeefcjdadaa
open Go.RowKit
set_option linter.unusedVariables false
set_option linter.unusedSimpArgs false

theorem ordI_eq {q P : Int} {g D : Nat} (hg : 0 < g) (hD : 0 < D) (he : q * (D : Int) = P * (g : Int)) : ordI q = ordI P := by
  have hD' : (0 : Int) < (D : Int) := by omega
  have hg' : (0 : Int) < (g : Int) := by omega
  unfold ordI
  rcases Int.lt_trichotomy q 0 with c | c | c
  · have h1 : q * (D : Int) < 0 := Int.mul_neg_of_neg_of_pos c hD'
    have h2 : P < 0 := by
      rcases Int.lt_or_le P 0 with k | k
      · exact k
      · have := Int.mul_nonneg k (Int.le_of_lt hg'); omega
    rw [if_neg (by omega), if_pos c, if_neg (by omega), if_pos h2]
  · subst c
    have h2 : P = 0 := by
      rw [Int.zero_mul] at he
      rcases Int.mul_eq_zero.1 he.symm with k | k
      · exact k
      · omega
    rw [if_pos rfl, if_pos h2]
  · have h1 : 0 < q * (D : Int) := Int.mul_pos c hD'
    have h2 : 0 < P := by
      rcases Int.lt_or_le 0 P with k | k
      · exact k
      · have h3 : P * (g : Int) ≤ 0 := by
          have := Int.mul_le_mul_of_nonneg_right k (Int.le_of_lt hg')
          rwa [Int.zero_mul] at this
        omega
    rw [if_neg (by omega), if_neg (by omega), if_neg (by omega), if_neg (by omega)]
set_option maxHeartbeats 8000000 in
set_option maxRecDepth 100000 in
theorem orderR (B da db : Nat) (pa pb : Int) (v u : Value) (w : World) (hB : B ≤ w.heap.size) (h1 : Fit pa.natAbs) (h2 : Fit da) (h3 : Fit pb.natAbs) (h4 : Fit db) (h5 : Fit (pa.natAbs * db + pb.natAbs * da)) (h6 : Fit (da * db)) (h7 : 0 < da * db) (hv : IsQ B w v pa da) (hu : IsQ B w u pb db) :
    Calls Try.prog 86 #[v, u] w fun e w' => e = .returned (.int .i64 (ordI (pa * (db : Int) - pb * (da : Int)))) ∧ Below w.heap.size w w' := by
  have HV := Lib.hid hv
  have HU := Lib.hid hu
  obtain ⟨s, ao, L, cap, bo, M, cap2, rfl⟩ := isQ_shape hv
  obtain ⟨t, co, L2, cap3, dd, M2, cap4, rfl⟩ := isQ_shape hu
  have HM := Lib.hid (fun (W : World) (hW : Below w.heap.size w W) => minusR B da db pa pb _ _ W (Nat.le_trans hB hW.size) h1 h2 h3 h4 h5 h6 h7 (hv.below (hW.mono hB)) (hu.below (hW.mono hB)))
  have H7 := Lib.hid h7
  clear hv hu h1 h2 h3 h4 h5 h6 h7
  generalize pa * (db : Int) - pb * (da : Int) = PP at *
  generalize da * db = DD at *
  go_enter Try.func86, Try.ntmps86
  go_wp2_with fail
  refine (HM.out _ (((Below.refl _ _).alloc (Nat.le_refl _) _).alloc (by simp) _)).mono ?_
  rintro e w1 ⟨v1, p, dd1, rfl, hq, m1, m2, m3, m4, hb⟩
  have HO := Lib.hid (show ordI p = ordI PP from ordI_eq m3 H7.out m1)
  obtain ⟨hbw, hsz⟩ := two_alloc hb
  obtain ⟨s1, ao1, N1, c1, bo1, N2, c2, rfl⟩ := isQ_shape hq
  have HQ := Lib.hid hq
  have HBW := Lib.hid hbw
  clear hq hb hbw HM m1 m2 m3 m4 H7
  go_wp2_with fail
  refine (zeroQ _ _ p _ _ (HQ.out.below ((Below.refl _ _).alloc (Nat.le_refl _) _))).mono ?_
  rintro e w2 ⟨rfl, hb2⟩
  have hc := ((box_new w1 _ _ _ _).below hb2 (by simp)).c0
  have HB2 := Lib.hid (HBW.out.trans (((Below.refl w.heap.size w1).alloc (by omega) _).trans (hb2.mono (by simp <;> omega))))
  clear hb2
  by_cases h0 : p = 0
  · rw [zB_yes h0]
    have HE := Lib.hid (show ordI p = 0 from if_pos h0)
    clear h0 hc
    go_wp2
    go_ret
    exact ⟨by rw [← HO.out, HE.out]; rfl, HB2.out⟩
  · rw [zB_no h0]
    have HE := Lib.hid (show ordI p = if p < 0 then -1 else 1 from if_neg h0)
    rcases isQ_sign HQ.out h0 with ⟨rfl, hp⟩ | ⟨rfl, hp⟩
    · have HE2 := Lib.hid (HE.out.trans (if_pos hp))
      clear h0 hp HE
      go_wp2
      go_ret
      exact ⟨by rw [← HO.out, HE2.out]; rfl, HB2.out⟩
    · have HE2 := Lib.hid (HE.out.trans (if_neg (by omega)))
      clear h0 hp HE
      go_wp2
      go_ret
      exact ⟨by rw [← HO.out, HE2.out]; rfl, HB2.out⟩


/-- v is worth P / D; |P| is at most 10 ^ m, D at most 10 ^ n -/
def IsR (B : Nat) (w : World) (v : Value) (P : Int) (D m n : Nat) : Prop := ∃ p d, IsQ B w v p d ∧ p * (D : Int) = P * (d : Int) ∧ 0 < d ∧ d ≤ D ∧ P.natAbs ≤ 10 ^ m ∧ D ≤ 10 ^ n
def NewS (P : Int) (D m n : Nat) (w : World) (e : Ending) (w' : World) : Prop := ∃ v, e = .returned v ∧ IsR w'.heap.size w' v P D m n ∧ Below w.heap.size w w'
theorem IsR.below {B D m n : Nat} {P : Int} {w w' : World} {v : Value} (h : IsR B w v P D m n) (hb : Below B w w') : IsR B w' v P D m n := by
  obtain ⟨p, d, h1, h2⟩ := h
  exact ⟨p, d, h1.below hb, h2⟩
theorem IsR.more {B B' D m n : Nat} {P : Int} {w : World} {v : Value} (h : IsR B w v P D m n) (hB : B ≤ B') : IsR B' w v P D m n := by
  obtain ⟨p, d, h1, h2⟩ := h
  exact ⟨p, d, h1.more hB, h2⟩
theorem IsR.up {D m n : Nat} {P : Int} {w w' : World} {v : Value} (h : IsR w.heap.size w v P D m n) (hb : Below w.heap.size w w') : IsR w'.heap.size w' v P D m n := (h.below hb).more hb.size
theorem isR_shape {B D m n : Nat} {P : Int} {w : World} {v : Value} (h : IsR B w v P D m n) : ∃ s ao L cap bo M cap2, v = .agg #[.bool s, .slice ao L cap, .slice bo M cap2] := by
  obtain ⟨p, d, h1, h2⟩ := h
  exact isQ_shape h1
theorem IsR.of {B D m n : Nat} {P : Int} {w : World} {v : Value} (h : IsQ B w v P D) (hD : 0 < D) (h1 : P.natAbs ≤ 10 ^ m) (h2 : D ≤ 10 ^ n) : IsR B w v P D m n := ⟨P, D, h, rfl, hD, Nat.le_refl _, h1, h2⟩
theorem IsR.cong {B D m n : Nat} {P Q : Int} {w : World} {v : Value} (h : IsR B w v P D m n) (e : P = Q) : IsR B w v Q D m n := e ▸ h
/-- smaller parts, if it is worth the same in a smaller way -/
theorem abs_le {p P : Int} {d D : Nat} (hD : 0 < D) (h : p * (D : Int) = P * (d : Int)) (hd : d ≤ D) : p.natAbs ≤ P.natAbs := by
  have e := congrArg Int.natAbs h
  rw [Int.natAbs_mul, Int.natAbs_mul, Int.natAbs_natCast, Int.natAbs_natCast] at e
  have h1 : P.natAbs * d ≤ P.natAbs * D := Nat.mul_le_mul_left _ hd
  exact Nat.le_of_mul_le_mul_right (by omega) hD
theorem BB_ten : BB ^ 20 = 10 ^ 180 := by decide +kernel
theorem fit_ten {x m : Nat} (h : x ≤ 10 ^ m) (hm : m ≤ 179) : Fit x := by
  show x < BB ^ 20
  rw [BB_ten]
  exact Nat.lt_of_le_of_lt h (Nat.pow_lt_pow_right (by omega) (by omega))
theorem ten_mul {a b m n : Nat} (h1 : a ≤ 10 ^ m) (h2 : b ≤ 10 ^ n) : a * b ≤ 10 ^ (m + n) := by
  rw [Nat.pow_add]
  exact Nat.mul_le_mul h1 h2
theorem ten_up {a m n : Nat} (h : a ≤ 10 ^ m) (hm : m ≤ n) : a ≤ 10 ^ n := Nat.le_trans h (Nat.pow_le_pow_right (by omega) hm)
theorem ten_add {a b m1 m2 m : Nat} (h1 : a ≤ 10 ^ m1) (h2 : b ≤ 10 ^ m2) (k1 : m1 < m) (k2 : m2 < m) : a + b ≤ 10 ^ m := by
  obtain ⟨q, rfl⟩ : ∃ q, m = q + 1 := ⟨m - 1, by omega⟩
  have a1 := ten_up h1 (show m1 ≤ q by omega)
  have a2 := ten_up h2 (show m2 ≤ q by omega)
  rw [Nat.pow_succ]
  omega
theorem newS_R {P Q : Int} {D E m n : Nat} {w w' : World} {e : Ending} (h : NewR P D w e w') (hD : 0 < D) (hE : P * (E : Int) = Q * (D : Int)) (hl : D ≤ E) (h1 : Q.natAbs ≤ 10 ^ m) (h2 : E ≤ 10 ^ n) : NewS Q E m n w e w' := by
  obtain ⟨v, p, d, rfl, hq, e1, _, e3, e4, hb⟩ := h
  refine ⟨v, rfl, ⟨p, d, hq, ?_, e3, Nat.le_trans e4 hl, h1, h2⟩, hb⟩
  have hD' : (D : Int) ≠ 0 := by omega
  refine Int.eq_of_mul_eq_mul_right hD' ?_
  calc p * (E : Int) * (D : Int) = (p * (D : Int)) * (E : Int) := by grind
    _ = P * (d : Int) * (E : Int) := by rw [e1]
    _ = (P * (E : Int)) * (d : Int) := by grind
    _ = (Q * (D : Int)) * (d : Int) := by rw [hE]
    _ = Q * (d : Int) * (D : Int) := by grind
theorem partS (a b m n : Nat) (w : World) (ha : a ≤ 9223372036854775807) (hb : b ≤ 9223372036854775807) (hb0 : 0 < b) (h1 : a ≤ 10 ^ m) (h2 : b ≤ 10 ^ n) : Calls Try.prog 80 #[.int .i64 a, .int .i64 b] w (NewS a b m n w) := by
  refine (part_any a b w ha hb).mono ?_
  rintro e w1 ⟨v, rfl, hq, _, hb⟩
  exact ⟨v, rfl, IsR.of hq hb0 (by simpa using h1) h2, hb⟩
theorem wholeS (a : Int) (m : Nat) (w : World) (h0 : -4611686018427387904 ≤ a) (h1 : a ≤ 4611686018427387904) (h2 : a.natAbs ≤ 10 ^ m) : Calls Try.prog 53 #[.int .i64 a] w (NewS a 1 m 0 w) := by
  refine (whole_any a w h0 h1).mono ?_
  rintro e w1 ⟨v, rfl, hq, _, hb⟩
  exact ⟨v, rfl, IsR.of hq (by omega) h2 (by decide), hb⟩
theorem timesS (B Da Db m1 n1 m2 n2 : Nat) (Pa Pb : Int) (v u : Value) (w : World) (hB : B ≤ w.heap.size) (hm : m1 + m2 ≤ 178) (hn : n1 + n2 ≤ 178) (hv : IsR B w v Pa Da m1 n1) (hu : IsR B w u Pb Db m2 n2) :
    Calls Try.prog 52 #[v, u] w (NewS (Pa * Pb) (Da * Db) (m1 + m2) (n1 + n2) w) := by
  obtain ⟨pa, da, q1, e1, g1, l1, a1, b1⟩ := hv
  obtain ⟨pb, db, q2, e2, g2, l2, a2, b2⟩ := hu
  have k1 := Nat.le_trans (abs_le (by omega) e1 l1) a1
  have k2 := Nat.le_trans (abs_le (by omega) e2 l2) a2
  have j1 := Nat.le_trans l1 b1
  have j2 := Nat.le_trans l2 b2
  refine (timesR B da db pa pb v u w hB (fit_ten k1 (by omega)) (fit_ten j1 (by omega)) (fit_ten k2 (by omega)) (fit_ten j2 (by omega)) (fit_ten (ten_mul k1 k2) (by omega)) (fit_ten (ten_mul j1 j2) (by omega)) (Nat.mul_pos g1 g2) q1 q2).mono ?_
  intro e w1 h
  refine newS_R h (Nat.mul_pos g1 g2) ?_ (Nat.mul_le_mul l1 l2) (by rw [Int.natAbs_mul]; exact ten_mul a1 a2) (ten_mul b1 b2)
  push_cast
  calc pa * pb * ((Da : Int) * (Db : Int)) = (pa * (Da : Int)) * (pb * (Db : Int)) := by grind
    _ = (Pa * (da : Int)) * (Pb * (db : Int)) := by rw [e1, e2]
    _ = Pa * Pb * ((da : Int) * (db : Int)) := by grind
theorem plusS_eq {pa pb Pa Pb : Int} {da db Da Db : Nat} (e1 : pa * (Da : Int) = Pa * (da : Int)) (e2 : pb * (Db : Int) = Pb * (db : Int)) : (pa * (db : Int) + pb * (da : Int)) * ((Da * Db : Nat) : Int) = (Pa * (Db : Int) + Pb * (Da : Int)) * ((da * db : Nat) : Int) := by
  push_cast
  calc (pa * (db : Int) + pb * (da : Int)) * ((Da : Int) * (Db : Int)) = (pa * (Da : Int)) * ((db : Int) * (Db : Int)) + (pb * (Db : Int)) * ((da : Int) * (Da : Int)) := by grind
    _ = (Pa * (da : Int)) * ((db : Int) * (Db : Int)) + (Pb * (db : Int)) * ((da : Int) * (Da : Int)) := by rw [e1, e2]
    _ = (Pa * (Db : Int) + Pb * (Da : Int)) * ((da : Int) * (db : Int)) := by grind
theorem minusS_eq {pa pb Pa Pb : Int} {da db Da Db : Nat} (e1 : pa * (Da : Int) = Pa * (da : Int)) (e2 : pb * (Db : Int) = Pb * (db : Int)) : (pa * (db : Int) - pb * (da : Int)) * ((Da * Db : Nat) : Int) = (Pa * (Db : Int) - Pb * (Da : Int)) * ((da * db : Nat) : Int) := by
  have h := plusS_eq (pb := -pb) (Pb := -Pb) e1 (show -pb * (Db : Int) = -Pb * (db : Int) by rw [Int.neg_mul, Int.neg_mul, e2])
  rw [Int.neg_mul, Int.neg_mul, ← Int.sub_eq_add_neg, ← Int.sub_eq_add_neg] at h
  exact h
theorem abs_two {a b : Int} {c d m1 n1 m2 n2 m : Nat} (h1 : a.natAbs ≤ 10 ^ m1) (h2 : b.natAbs ≤ 10 ^ m2) (h3 : c ≤ 10 ^ n1) (h4 : d ≤ 10 ^ n2) (k1 : m1 + n2 < m) (k2 : m2 + n1 < m) : a.natAbs * d + b.natAbs * c ≤ 10 ^ m := ten_add (ten_mul h1 h4) (ten_mul h2 h3) k1 k2
theorem abs_plus (a b : Int) (c d : Nat) : (a * (d : Int) + b * (c : Int)).natAbs ≤ a.natAbs * d + b.natAbs * c := by
  have h := Int.natAbs_add_le (a * (d : Int)) (b * (c : Int))
  rwa [Int.natAbs_mul, Int.natAbs_mul, Int.natAbs_natCast, Int.natAbs_natCast] at h
theorem abs_minus (a b : Int) (c d : Nat) : (a * (d : Int) - b * (c : Int)).natAbs ≤ a.natAbs * d + b.natAbs * c := by
  have h := abs_plus a (-b) c d
  rwa [Int.neg_mul, ← Int.sub_eq_add_neg, Int.natAbs_neg] at h
theorem plusS (B Da Db m1 n1 m2 n2 m : Nat) (Pa Pb : Int) (v u : Value) (w : World) (hB : B ≤ w.heap.size) (h1 : m1 + n2 < m) (h2 : m2 + n1 < m) (hm : m ≤ 178) (hn : n1 + n2 ≤ 178) (hv : IsR B w v Pa Da m1 n1) (hu : IsR B w u Pb Db m2 n2) :
    Calls Try.prog 85 #[v, u] w (NewS (Pa * (Db : Int) + Pb * (Da : Int)) (Da * Db) m (n1 + n2) w) := by
  obtain ⟨pa, da, q1, e1, g1, l1, a1, b1⟩ := hv
  obtain ⟨pb, db, q2, e2, g2, l2, a2, b2⟩ := hu
  have k1 := Nat.le_trans (abs_le (by omega) e1 l1) a1
  have k2 := Nat.le_trans (abs_le (by omega) e2 l2) a2
  have j1 := Nat.le_trans l1 b1
  have j2 := Nat.le_trans l2 b2
  refine (plusR B da db pa pb v u w hB (fit_ten k1 (by omega)) (fit_ten j1 (by omega)) (fit_ten k2 (by omega)) (fit_ten j2 (by omega)) (fit_ten (abs_two k1 k2 j1 j2 h1 h2) (by omega)) (fit_ten (ten_mul j1 j2) (by omega)) (Nat.mul_pos g1 g2) q1 q2).mono ?_
  intro e w1 h
  exact newS_R h (Nat.mul_pos g1 g2) (plusS_eq e1 e2) (Nat.mul_le_mul l1 l2) (Nat.le_trans (abs_plus _ _ _ _) (abs_two a1 a2 b1 b2 h1 h2)) (ten_mul b1 b2)
theorem minusS (B Da Db m1 n1 m2 n2 m : Nat) (Pa Pb : Int) (v u : Value) (w : World) (hB : B ≤ w.heap.size) (h1 : m1 + n2 < m) (h2 : m2 + n1 < m) (hm : m ≤ 178) (hn : n1 + n2 ≤ 178) (hv : IsR B w v Pa Da m1 n1) (hu : IsR B w u Pb Db m2 n2) :
    Calls Try.prog 81 #[v, u] w (NewS (Pa * (Db : Int) - Pb * (Da : Int)) (Da * Db) m (n1 + n2) w) := by
  obtain ⟨pa, da, q1, e1, g1, l1, a1, b1⟩ := hv
  obtain ⟨pb, db, q2, e2, g2, l2, a2, b2⟩ := hu
  have k1 := Nat.le_trans (abs_le (by omega) e1 l1) a1
  have k2 := Nat.le_trans (abs_le (by omega) e2 l2) a2
  have j1 := Nat.le_trans l1 b1
  have j2 := Nat.le_trans l2 b2
  refine (minusR B da db pa pb v u w hB (fit_ten k1 (by omega)) (fit_ten j1 (by omega)) (fit_ten k2 (by omega)) (fit_ten j2 (by omega)) (fit_ten (abs_two k1 k2 j1 j2 h1 h2) (by omega)) (fit_ten (ten_mul j1 j2) (by omega)) (Nat.mul_pos g1 g2) q1 q2).mono ?_
  intro e w1 h
  exact newS_R h (Nat.mul_pos g1 g2) (minusS_eq e1 e2) (Nat.mul_le_mul l1 l2) (Nat.le_trans (abs_minus _ _ _ _) (abs_two a1 a2 b1 b2 h1 h2)) (ten_mul b1 b2)
theorem orderS (B Da Db m1 n1 m2 n2 m : Nat) (Pa Pb : Int) (v u : Value) (w : World) (hB : B ≤ w.heap.size) (h1 : m1 + n2 < m) (h2 : m2 + n1 < m) (hm : m ≤ 178) (hn : n1 + n2 ≤ 178) (hv : IsR B w v Pa Da m1 n1) (hu : IsR B w u Pb Db m2 n2) :
    Calls Try.prog 86 #[v, u] w fun e w' => e = .returned (.int .i64 (ordI (Pa * (Db : Int) - Pb * (Da : Int)))) ∧ Below w.heap.size w w' := by
  obtain ⟨pa, da, q1, e1, g1, l1, a1, b1⟩ := hv
  obtain ⟨pb, db, q2, e2, g2, l2, a2, b2⟩ := hu
  have k1 := Nat.le_trans (abs_le (by omega) e1 l1) a1
  have k2 := Nat.le_trans (abs_le (by omega) e2 l2) a2
  have j1 := Nat.le_trans l1 b1
  have j2 := Nat.le_trans l2 b2
  rw [← ordI_eq (Nat.mul_pos g1 g2) (Nat.mul_pos (Nat.lt_of_lt_of_le g1 l1) (Nat.lt_of_lt_of_le g2 l2)) (minusS_eq e1 e2)]
  exact orderR B da db pa pb v u w hB (fit_ten k1 (by omega)) (fit_ten j1 (by omega)) (fit_ten k2 (by omega)) (fit_ten j2 (by omega)) (fit_ten (abs_two k1 k2 j1 j2 h1 h2) (by omega)) (fit_ten (ten_mul j1 j2) (by omega)) (Nat.mul_pos g1 g2) q1 q2
theorem overR (B da db : Nat) (pa : Int) (nb : Nat) (v u : Value) (w : World) (hB : B ≤ w.heap.size) (h1 : Fit pa.natAbs) (h2 : Fit da) (h3 : Fit nb) (h4 : Fit db) (h5 : Fit (pa.natAbs * db)) (h6 : Fit (da * nb)) (h7 : 0 < da * nb) (hv : IsQ B w v pa da) (hu : IsQ B w u nb db) :
    Calls Try.prog 82 #[v, u] w (NewR (pa * (db : Int)) (da * nb) w) := by
  obtain ⟨s, x, y, rfl, na, k1, k2, rfl⟩ := hv
  obtain ⟨t, z, u, rfl, nc, k3, k4, hnc⟩ := hu
  have hp : 0 < nb := by
    rcases Nat.eq_zero_or_pos nb with h | h
    · subst h; simp at h7
    · exact h
  have ht : t = false := by
    cases t
    · rfl
    · simp only [sg] at hnc; omega
  subst ht
  have hnb : nc = nb := by simp only [sg] at hnc; omega
  subst hnb
  rw [sg_abs] at h1
  rw [sg_abs] at h5
  rw [sg_scale]
  have := over2_frac B na nc da db s false x y z u w hB h1 h2 h3 h4 h5 h6 h7 k1 k2 k3 k4
  rwa [Bool.bne_false] at this
theorem overS (B Da Db m1 n1 m2 n2 : Nat) (Pa : Int) (Pb : Nat) (v u : Value) (w : World) (hB : B ≤ w.heap.size) (hm : m1 + n2 ≤ 178) (hn : n1 + m2 ≤ 178) (hm2 : m2 ≤ 178) (hm1 : m1 ≤ 178) (hn1 : n1 ≤ 178) (hn2 : n2 ≤ 178) (hp : 0 < Pb) (hv : IsR B w v Pa Da m1 n1) (hu : IsR B w u Pb Db m2 n2) :
    Calls Try.prog 82 #[v, u] w (NewS (Pa * (Db : Int)) (Da * Pb) (m1 + n2) (n1 + m2) w) := by
  obtain ⟨pa, da, q1, e1, g1, l1, a1, b1⟩ := hv
  obtain ⟨pb, db, q2, e2, g2, l2, a2, b2⟩ := hu
  have hD : 0 < Db := Nat.lt_of_lt_of_le g2 l2
  have k1 := Nat.le_trans (abs_le (by omega) e1 l1) a1
  have i2 := abs_le hD e2 l2
  have k2 := Nat.le_trans i2 a2
  have j1 := Nat.le_trans l1 b1
  have j2 := Nat.le_trans l2 b2
  have hpb : 0 < pb := by
    have h : 0 < pb * (Db : Int) := by rw [e2]; exact Int.mul_pos (by omega) (by omega)
    rcases Int.lt_or_le 0 pb with c | c
    · exact c
    · have := Int.mul_le_mul_of_nonneg_right c (Int.le_of_lt (show (0 : Int) < (Db : Int) by omega))
      rw [Int.zero_mul] at this
      omega
  obtain ⟨nb, rfl⟩ : ∃ nb : Nat, pb = (nb : Int) := ⟨pb.toNat, by omega⟩
  simp only [Int.natAbs_natCast] at i2 k2 a2
  have hnb : 0 < nb := by omega
  refine (overR B da db pa nb v u w hB (fit_ten k1 (by omega)) (fit_ten j1 (by omega)) (fit_ten k2 (by omega)) (fit_ten j2 (by omega)) (fit_ten (ten_mul k1 j2) (by omega)) (fit_ten (ten_mul j1 k2) (by omega)) (Nat.mul_pos g1 hnb) q1 q2).mono ?_
  intro e w1 h
  refine newS_R h (Nat.mul_pos g1 hnb) ?_ (Nat.mul_le_mul l1 i2) (by rw [Int.natAbs_mul, Int.natAbs_natCast]; exact ten_mul a1 b2) (ten_mul b1 a2)
  push_cast
  calc pa * (db : Int) * ((Da : Int) * (Pb : Int)) = (pa * (Da : Int)) * ((Pb : Int) * (db : Int)) := by grind
    _ = (Pa * (da : Int)) * ((nb : Int) * (Db : Int)) := by rw [e1, ← e2]
    _ = Pa * (Db : Int) * ((da : Int) * (nb : Int)) := by grind
theorem zB_eq {q P : Int} {g D : Nat} (hg : 0 < g) (hD : 0 < D) (he : q * (D : Int) = P * (g : Int)) : zB q = zB P := by
  have h := ordI_eq hg hD he
  unfold ordI at h
  unfold zB
  by_cases c : q = 0 <;> by_cases d : P = 0 <;> simp [c, d] at h ⊢
  · split at h <;> simp at h
  · split at h <;> simp at h
theorem zeroS (B D m n : Nat) (P : Int) (v : Value) (w : World) (h : IsR B w v P D m n) : Calls Try.prog 84 #[v] w fun e w' => e = .returned (.bool (zB P)) ∧ Below w.heap.size w w' := by
  obtain ⟨p, d, q1, e1, g1, l1, a1, b1⟩ := h
  rw [← zB_eq g1 (Nat.lt_of_lt_of_le g1 l1) e1]
  exact zeroQ B d p v w q1
theorem floorS (B D m n : Nat) (P : Int) (v : Value) (w : World) (hB : B ≤ w.heap.size) (hm : m ≤ 178) (hr : P.natAbs / D ≤ 4611686018427387904) (hv : IsR B w v P D m n) :
    Calls Try.prog 83 #[v] w fun e w' => e = .returned (.int .i64 (P / (D : Int))) ∧ Below w.heap.size w w' := by
  obtain ⟨p, d, q1, e1, g1, l1, a1, b1⟩ := hv
  have k1 := Nat.le_trans (abs_le (by omega) e1 l1) a1
  have hD : 0 < D := Nat.lt_of_lt_of_le g1 l1
  rw [← ediv_eq g1 hD e1]
  exact floorR B d p v w hB (fit_ten k1 (by omega)) g1 (by rw [natAbs_div_eq g1 hD e1]; exact hr) q1
theorem roundS (B D m n : Nat) (P : Int) (v : Value) (w : World) (hB : B ≤ w.heap.size) (hm : m ≤ 175) (hn : n ≤ 175) (hr : (P * 2 + D).natAbs / (D * 2) ≤ 4611686018427387904) (hv : IsR B w v P D m n) :
    Calls Try.prog 54 #[v] w fun e w' => e = .returned (.int .i64 (rndQ P D)) ∧ Below w.heap.size w w' := by
  obtain ⟨p, d, q1, e1, g1, l1, a1, b1⟩ := hv
  have k1 := Nat.le_trans (abs_le (by omega) e1 l1) a1
  have hD : 0 < D := Nat.lt_of_lt_of_le g1 l1
  have e2 : (p * 2 + (d : Int)) * ((D * 2 : Nat) : Int) = (P * 2 + (D : Int)) * ((d * 2 : Nat) : Int) := by
    push_cast
    have : (p * 2 + (d : Int)) * ((D : Int) * 2) = 4 * (p * (D : Int)) + 2 * ((d : Int) * (D : Int)) := by grind
    rw [this, e1]
    grind
  have c1 : p.natAbs * 2 ≤ 10 ^ (m + 1) := by rw [Nat.pow_succ]; omega
  have c2 : d * 2 ≤ 10 ^ (n + 1) := by rw [Nat.pow_succ]; omega
  rw [← rndQ_eq g1 hD e1]
  exact roundR B d p v w hB (fit_ten (ten_add (m := 179) c1 (Nat.le_trans l1 b1) (by omega) (by omega)) (by omega)) (fit_ten c2 (by omega)) g1 (by rw [natAbs_div_eq (by omega) (by omega) e2]; exact hr) q1
set_option maxHeartbeats 4000000 in
set_option maxRecDepth 100000 in
theorem belowF (B D m n : Nat) (P : Int) (v : Value) (w : World) (h : IsR B w v P D m n) : Calls Try.prog 108 #[v] w fun e w' => e = .returned (.bool (decide (P < 0))) ∧ Below w.heap.size w w' := by
  obtain ⟨p, d, ⟨s, x, y, rfl, k, h1, h2, rfl⟩, e1, g1, l1, _, _⟩ := h
  have hD : 0 < D := Nat.lt_of_lt_of_le g1 l1
  have hP : (P < 0) ↔ (sg s k < 0) := by
    have ho := ordI_eq g1 hD e1
    unfold ordI at ho
    by_cases c : sg s k = 0
    · rw [if_pos c] at ho
      by_cases c2 : P = 0
      · omega
      · rw [if_neg c2] at ho; split at ho <;> omega
    · rw [if_neg c] at ho
      by_cases c2 : P = 0
      · rw [if_pos c2] at ho; split at ho <;> omega
      · rw [if_neg c2] at ho
        split at ho <;> split at ho <;> omega
  obtain ⟨ao, L, cap, rfl, hl⟩ := isN_len h1
  obtain ⟨bo, M, cap2, rfl, hm⟩ := isN_len h2
  have hz := lenOf_zero_iff hl
  have HE : Hid (decide (P < 0) = (s && decide (0 < L))) := Lib.hid (by
    have hk : 0 < L ↔ 0 < k := by omega
    by_cases c : 0 < k
    · cases s
      · have : ¬ P < 0 := by rw [hP]; simp only [sg]; omega
        simp [this]
      · have : P < 0 := by rw [hP]; simp only [sg]; omega
        simp [this]; omega
    · have : ¬ P < 0 := by rw [hP]; cases s <;> simp only [sg] <;> omega
      have h0 : ¬ 0 < L := by omega
      simp [this, h0])
  rw [HE.out]
  clear h1 h2 hl hm hP hz HE e1
  cases s
  · go_enter Try.func108, Try.ntmps108
    go_wp2
    go_ret
    exact ⟨by simp, by go_grown⟩
  · by_cases h0 : L = 0
    · subst h0
      go_enter Try.func108, Try.ntmps108
      go_wp2
      go_ret
      exact ⟨by simp, by go_grown⟩
    · have hd : (0 : Int) < (L : Int) := by omega
      go_enter Try.func108, Try.ntmps108
      go_wp2
      go_ret
      exact ⟨by simp <;> omega, by go_grown⟩
end Go.Proofs.Ytopmdeefcjdadaa
