/- The contracts of Scale, Mix, Octet, FromOctet of the program and of the reference. -/
import Derived.Test.YteelomjknllcbaaCMixBase
namespace Go.Proofs.Yteelomjknllcbaa
open Go.RowKit
set_option linter.unusedVariables false
set_option linter.unusedSimpArgs false

def MixOk (a b p q : Int) : Prop := (IsLv a ∧ IsLv b) ∧ PartOk p q
instance (a b p q : Int) : Decidable (MixOk a b p q) := by unfold MixOk; infer_instance
def mixR (a b p q : Int) : Int := if MixOk a b p q then mixV a b p q else 0
def mixE (a b p q : Int) : Int := if MixOk a b p q then 0 else 1
theorem mix_bounds {a b p q : Int} (h : MixOk a b p q) : -2359260000000 ≤ a * q + (b - a) * p ∧ a * q + (b - a) * p ≤ 2359260000000 ∧ 0 ≤ a * q ∧ a * q ≤ 2359260000000 ∧ -2359260000000 ≤ (b - a) * p ∧ (b - a) * p ≤ 2359260000000 := by
  obtain ⟨⟨ha, hb⟩, ⟨hq1, hq2⟩, hp1, hp2⟩ := h
  unfold IsLv at ha hb
  have e : a * q + (b - a) * p = a * (q - p) + b * p := by grind
  have a1 : 0 ≤ a * (q - p) := Int.mul_nonneg ha.1 (by omega)
  have a2 : a * (q - p) ≤ 65535 * (q - p) := Int.mul_le_mul_of_nonneg_right ha.2 (by omega)
  have a3 : 0 ≤ b * p := Int.mul_nonneg hb.1 hp1
  have a4 : b * p ≤ 65535 * p := Int.mul_le_mul_of_nonneg_right hb.2 hp1
  have a5 : 0 ≤ a * q := Int.mul_nonneg ha.1 (by omega)
  have a6 : a * q ≤ 65535 * q := Int.mul_le_mul_of_nonneg_right ha.2 (by omega)
  have a7 : 0 ≤ a * p := Int.mul_nonneg ha.1 hp1
  have a8 : a * p ≤ 65535 * p := Int.mul_le_mul_of_nonneg_right ha.2 hp1
  have e2 : (b - a) * p = b * p - a * p := by grind
  have e3 : 65535 * (q - p) = 65535 * q - 65535 * p := by grind
  refine ⟨by omega, by omega, by omega, by omega, by omega, by omega⟩

set_option maxHeartbeats 1000000 in
theorem mix_any (a b p q : Int) (w : World) (h : MixOk a b p q) :
    Calls Try.prog 90 #[.int .i64 a, .int .i64 b, .int .i64 p, .int .i64 q] w fun e w' => e = .returned (.int .i64 (mixV a b p q)) ∧ w = w' := by
  obtain ⟨m0, m1, m2, m3, m4, m5⟩ := mix_bounds h
  obtain ⟨⟨ha, hb⟩, ⟨hq1, hq2⟩, hp1, hp2⟩ := h
  unfold IsLv at ha hb
  have HE := Lib.hid (show rnd (a * q + (b - a) * p) q = mixV a b p q from rfl)
  obtain ⟨x, hx⟩ : ∃ x, a * q = x := ⟨_, rfl⟩
  obtain ⟨d, hd⟩ : ∃ d, b - a = d := ⟨_, rfl⟩
  rw [hd] at m0 m1 m4 m5 HE
  obtain ⟨y, hy⟩ : ∃ y, d * p = y := ⟨_, rfl⟩
  rw [hx, hy] at m0 m1 HE
  rw [hx] at m2 m3
  rw [hy] at m4 m5
  have HR := Lib.hid (fun W => round_any (x + y) q W (by omega) (by omega) (by omega) (by omega))
  rw [HE.out] at HR
  clear m0 m1
  go_enter Try.func90, Try.ntmps90
  go_wp2_with (go_at_call 58; refine (HR.out _).mono ?_; rintro e w' ⟨rfl, rfl⟩)
  go_ret
  exact ⟨rfl, rfl⟩

set_option maxHeartbeats 1000000 in
theorem Mix_any (a b p q : Int) (w : World) :
    Calls Try.prog 55 #[.int .i64 a, .int .i64 b, .int .i64 p, .int .i64 q] w fun e w' => e = .returned (.tuple #[.int .i64 (mixR a b p q), .int .i64 (mixE a b p q)]) ∧ Below w.heap.size w w' := by
  by_cases h : MixOk a b p q
  · have HV := Lib.hid (show mixR a b p q = mixV a b p q from if_pos h)
    have HF := Lib.hid (show mixE a b p q = 0 from if_pos h)
    have HM := Lib.hid (fun W => mix_any a b p q W h)
    have HL := Lib.hid h.1
    have HP := Lib.hid (fun W => parts_any p q W)
    rw [if_pos h.2] at HP
    clear h
    go_enter Try.func55, Try.ntmps55
    go_wp2_with (first
      | (go_at_call 88; refine (levels2_yes a b _ HL.out.1 HL.out.2).mono ?_; rintro e w' ⟨rfl, rfl⟩)
      | (go_at_call 89; refine (HP.out _).mono ?_; rintro e w' ⟨rfl, rfl⟩)
      | (go_at_call 44; refine (first2c _ 0 0 _ (by simp) (by simp)).mono ?_; rintro e w' ⟨rfl, rfl⟩)
      | (go_at_call 90; refine (HM.out _).mono ?_; rintro e w' ⟨rfl, rfl⟩))
    go_ret2
    exact ⟨by rw [HV.out, HF.out]; rfl, by go_grown⟩
  · have HV := Lib.hid (show mixR a b p q = 0 from if_neg h)
    have HF := Lib.hid (show mixE a b p q = 1 from if_neg h)
    by_cases hl : IsLv a ∧ IsLv b
    · have hp : ¬ PartOk p q := fun hp => h ⟨hl, hp⟩
      have HL := Lib.hid hl
      have HP := Lib.hid (fun W => parts_any p q W)
      rw [if_neg hp] at HP
      clear h hl hp
      go_enter Try.func55, Try.ntmps55
      go_wp2_with (first
        | (go_at_call 88; refine (levels2_yes a b _ HL.out.1 HL.out.2).mono ?_; rintro e w' ⟨rfl, rfl⟩)
        | (go_at_call 89; refine (HP.out _).mono ?_; rintro e w' ⟨rfl, rfl⟩)
        | (go_at_call 44; refine (first2c _ 0 1 _ (by simp) (by simp)).mono ?_; rintro e w' ⟨rfl, rfl⟩))
      go_ret2
      exact ⟨by rw [HV.out, HF.out]; rfl, by go_grown⟩
    · have HL := Lib.hid (show ¬ IsLv a ∨ ¬ IsLv b by
        by_cases h1 : IsLv a
        · exact .inr fun h2 => hl ⟨h1, h2⟩
        · exact .inl h1)
      have HP := Lib.hid (fun W => parts_any p q W)
      generalize (if PartOk p q then (0 : Int) else 1) = pf at HP
      clear h hl
      go_enter Try.func55, Try.ntmps55
      go_wp2_with (first
        | (go_at_call 88; refine (levels2_no a b _ HL.out).mono ?_; rintro e w' ⟨rfl, rfl⟩)
        | (go_at_call 89; refine (HP.out _).mono ?_; rintro e w' ⟨rfl, rfl⟩)
        | (go_at_call 44; refine (first2c _ 1 pf _ (by simp) (by simp)).mono ?_; rintro e w' ⟨rfl, rfl⟩))
      go_ret2
      exact ⟨by rw [HV.out, HF.out]; rfl, by go_grown⟩

def octR (n : Int) : Int := if IsLv n then rnd (n * 255) 65535 else 0
def octE (n : Int) : Int := if IsLv n then 0 else 1
theorem oct_byte {n : Int} (h : IsLv n) : 0 ≤ rnd (n * 255) 65535 ∧ rnd (n * 255) 65535 ≤ 255 := by
  unfold IsLv at h
  unfold rnd
  omega
/-- a rounded part of small numbers, by the reference -/
theorem rpart {a d : Nat} (W W1 : World) (v : Value) (hd : 0 < d) (ha : a ≤ 65536 * d) (hdB : d < BB ^ 4) (hq : IsQ W1.heap.size W1 v ((a : Nat) : Int) d) :
    Calls Try.prog 68 #[v] W1 fun e w' => e = .returned (.int .i64 (rnd (a : Int) (d : Int))) ∧ Below W1.heap.size W1 w' := by
  have := roundQ W1.heap.size d (a : Int) v W1 (Nat.le_refl _) (sm_of (e := d) (by omega) (by omega) hdB) (sm_of (e := d) (by omega) (by omega) hdB) hd (by
    have h1 : ((a : Int) * 2 + (d : Int)).natAbs ≤ 65537 * (d * 2) := by omega
    have h2 := Nat.div_le_div_right (c := d * 2) h1
    rw [Nat.mul_div_cancel _ (by omega)] at h2
    omega) hq
  rwa [rndQ_rnd] at this

set_option maxHeartbeats 1000000 in
theorem rScale_any (a b : Int) (w : World) :
    Calls Try.prog 61 #[.int .i64 a, .int .i64 b] w fun e w' => e = .returned (.tuple #[.int .i64 (scaleV a b), .int .i64 (scaleF a b)]) ∧ Below w.heap.size w w' := by
  by_cases ha : IsLv a
  · by_cases hb : IsLv b
    · have HV := Lib.hid (show scaleV a b = rnd (a * b) 65535 from if_pos ⟨ha, hb⟩)
      have HF := Lib.hid (show scaleF a b = 0 from if_pos ⟨ha, hb⟩)
      obtain ⟨m0, m1⟩ := mul_lv ha hb
      obtain ⟨x, hx⟩ : ∃ x : Nat, a * b = (x : Int) := ⟨(a * b).toNat, by omega⟩
      rw [hx] at HV m0 m1
      have HP := Lib.hid (fun W => part_any x 65535 W (by omega) (by omega))
      have HR := Lib.hid (fun W W1 v hq => rpart (a := x) (d := 65535) W W1 v (by omega) (by omega) (by decide) hq)
      have HA := Lib.hid ha
      have HB := Lib.hid hb
      clear ha hb
      go_enter Try.func61, Try.ntmps61
      go_wp2_with fail
      refine (rIsLevel_yes _ _ HA.out).mono ?_
      rintro e w' ⟨rfl, rfl⟩
      go_wp2_with fail
      refine (rIsLevel_yes _ _ HB.out).mono ?_
      rintro e w' ⟨rfl, rfl⟩
      go_wp2_with fail
      refine (HP.out _).mono ?_
      rintro e w1 ⟨v1, rfl, hq, _, hb1⟩
      have HQ := Lib.hid hq
      have HB1 := Lib.hid hb1
      obtain ⟨s1, ao1, L1, cap1, bo1, M1, capm1, rfl⟩ := isQ_shape hq
      clear hq hb1
      go_wp2_with fail
      refine (HR.out w _ _ HQ.out).mono ?_
      rintro e w2 ⟨rfl, hb2⟩
      have HB2 := Lib.hid (HB1.out.trans (hb2.mono HB1.out.size))
      clear hb2
      go_wp2
      go_ret2
      exact ⟨by rw [HV.out, HF.out]; rfl, HB2.out⟩
    · have HV := Lib.hid (show scaleV a b = 0 from if_neg fun h => hb h.2)
      have HF := Lib.hid (show scaleF a b = 1 from if_neg fun h => hb h.2)
      have HA := Lib.hid ha
      have HB := Lib.hid (show b < 0 ∨ 65535 < b by unfold IsLv at hb; omega)
      clear ha hb
      go_enter Try.func61, Try.ntmps61
      go_wp2_with fail
      refine (rIsLevel_yes _ _ HA.out).mono ?_
      rintro e w' ⟨rfl, rfl⟩
      go_wp2_with fail
      refine (rIsLevel_no _ _ HB.out).mono ?_
      rintro e w' ⟨rfl, rfl⟩
      go_wp2
      go_ret2
      exact ⟨by rw [HV.out, HF.out]; rfl, Below.refl _ _⟩
  · have HV := Lib.hid (show scaleV a b = 0 from if_neg fun h => ha h.1)
    have HF := Lib.hid (show scaleF a b = 1 from if_neg fun h => ha h.1)
    have HA := Lib.hid (show a < 0 ∨ 65535 < a by unfold IsLv at ha; omega)
    clear ha
    go_enter Try.func61, Try.ntmps61
    go_wp2_with fail
    refine (rIsLevel_no _ _ HA.out).mono ?_
    rintro e w' ⟨rfl, rfl⟩
    go_wp2
    go_ret2
    exact ⟨by rw [HV.out, HF.out]; rfl, Below.refl _ _⟩

set_option maxHeartbeats 2000000 in
theorem rMix_any (a b p q : Int) (w : World) :
    Calls Try.prog 62 #[.int .i64 a, .int .i64 b, .int .i64 p, .int .i64 q] w fun e w' => e = .returned (.tuple #[.int .i64 (mixR a b p q), .int .i64 (mixE a b p q)]) ∧ Below w.heap.size w w' := by
  by_cases h : MixOk a b p q
  · have HV := Lib.hid (show mixR a b p q = mixV a b p q from if_pos h)
    have HF := Lib.hid (show mixE a b p q = 0 from if_pos h)
    have HA := Lib.hid h.1.1
    have HB := Lib.hid h.1.2
    have HQ := Lib.hid h.2.1
    have HP := Lib.hid h.2.2
    have h2 := h.2
    obtain ⟨⟨hq1, hq2⟩, hp1, hp2⟩ := h2
    obtain ⟨x, rfl⟩ : ∃ x : Nat, p = (x : Int) := ⟨p.toNat, by omega⟩
    obtain ⟨y, rfl⟩ : ∃ y : Nat, q = (y : Int) := ⟨q.toNat, by omega⟩
    have HPA := Lib.hid (fun W => part_any x y W (by omega) (by omega))
    have HM := Lib.hid (fun (W : World) v hq => mixQ W.heap.size y a b x v W (Nat.le_refl _) HA.out HB.out ⟨by omega, by omega, by omega, Nat.lt_of_le_of_lt (show y ≤ 36000000 by omega) (by decide)⟩ hq)
    clear h hq1 hq2 hp1 hp2
    go_enter Try.func62, Try.ntmps62
    go_wp2_with fail
    refine (rIsLevel_yes _ _ HA.out).mono ?_
    rintro e w' ⟨rfl, rfl⟩
    go_wp2_with fail
    refine (rIsLevel_yes _ _ HB.out).mono ?_
    rintro e w' ⟨rfl, rfl⟩
    go_wp2_with fail
    refine (r1within_yes _ _ _ _ HQ.out).mono ?_
    rintro e w' ⟨rfl, rfl⟩
    go_wp2_with fail
    refine (r1within_yes _ _ _ _ HP.out).mono ?_
    rintro e w' ⟨rfl, rfl⟩
    go_wp2_with fail
    refine (HPA.out _).mono ?_
    rintro e w1 ⟨v1, rfl, hq, _, hb1⟩
    have HQQ := Lib.hid hq
    have HB1 := Lib.hid hb1
    obtain ⟨s1, ao1, L1, cap1, bo1, M1, capm1, rfl⟩ := isQ_shape hq
    clear hq hb1
    go_wp2_with fail
    refine (HM.out _ _ HQQ.out).mono ?_
    rintro e w2 ⟨rfl, hb2⟩
    have HB2 := Lib.hid (HB1.out.trans (hb2.mono HB1.out.size))
    clear hb2
    go_wp2
    go_ret2
    exact ⟨by rw [HV.out, HF.out]; rfl, HB2.out⟩
  · have HV := Lib.hid (show mixR a b p q = 0 from if_neg h)
    have HF := Lib.hid (show mixE a b p q = 1 from if_neg h)
    by_cases ha : IsLv a
    · by_cases hb : IsLv b
      · by_cases hq : 1 ≤ q ∧ q ≤ 36000000
        · have HP := Lib.hid (show p < 0 ∨ q < p by
            by_cases hp : 0 ≤ p ∧ p ≤ q
            · exact absurd ⟨⟨ha, hb⟩, hq, hp⟩ h
            · omega)
          have HA := Lib.hid ha
          have HB := Lib.hid hb
          have HQ := Lib.hid hq
          clear h ha hb hq
          go_enter Try.func62, Try.ntmps62
          go_wp2_with fail
          refine (rIsLevel_yes _ _ HA.out).mono ?_
          rintro e w' ⟨rfl, rfl⟩
          go_wp2_with fail
          refine (rIsLevel_yes _ _ HB.out).mono ?_
          rintro e w' ⟨rfl, rfl⟩
          go_wp2_with fail
          refine (r1within_yes _ _ _ _ HQ.out).mono ?_
          rintro e w' ⟨rfl, rfl⟩
          go_wp2_with fail
          refine (r1within_no _ _ _ _ HP.out).mono ?_
          rintro e w' ⟨rfl, rfl⟩
          go_wp2
          go_ret2
          exact ⟨by rw [HV.out, HF.out]; rfl, Below.refl _ _⟩
        · have HA := Lib.hid ha
          have HB := Lib.hid hb
          have HQ := Lib.hid (show q < 1 ∨ 36000000 < q by omega)
          clear h ha hb hq
          go_enter Try.func62, Try.ntmps62
          go_wp2_with fail
          refine (rIsLevel_yes _ _ HA.out).mono ?_
          rintro e w' ⟨rfl, rfl⟩
          go_wp2_with fail
          refine (rIsLevel_yes _ _ HB.out).mono ?_
          rintro e w' ⟨rfl, rfl⟩
          go_wp2_with fail
          refine (r1within_no _ _ _ _ HQ.out).mono ?_
          rintro e w' ⟨rfl, rfl⟩
          go_wp2
          go_ret2
          exact ⟨by rw [HV.out, HF.out]; rfl, Below.refl _ _⟩
      · have HA := Lib.hid ha
        have HB := Lib.hid (show b < 0 ∨ 65535 < b by unfold IsLv at hb; omega)
        clear h ha hb
        go_enter Try.func62, Try.ntmps62
        go_wp2_with fail
        refine (rIsLevel_yes _ _ HA.out).mono ?_
        rintro e w' ⟨rfl, rfl⟩
        go_wp2_with fail
        refine (rIsLevel_no _ _ HB.out).mono ?_
        rintro e w' ⟨rfl, rfl⟩
        go_wp2
        go_ret2
        exact ⟨by rw [HV.out, HF.out]; rfl, Below.refl _ _⟩
    · have HA := Lib.hid (show a < 0 ∨ 65535 < a by unfold IsLv at ha; omega)
      clear h ha
      go_enter Try.func62, Try.ntmps62
      go_wp2_with fail
      refine (rIsLevel_no _ _ HA.out).mono ?_
      rintro e w' ⟨rfl, rfl⟩
      go_wp2
      go_ret2
      exact ⟨by rw [HV.out, HF.out]; rfl, Below.refl _ _⟩
end Go.Proofs.Yteelomjknllcbaa
