/- colour.Between at right arguments. (printed by wip/gen/gen_between.py) -/
import Derived.Test.YteelomjknllcbaaBtwHead
namespace Go.Proofs.Yteelomjknllcbaa
open Go.RowKit
set_option linter.unusedVariables false
set_option linter.unusedSimpArgs false

theorem sat_cases (S1 S2 H1 H2 : Int) : (S1 = 0 ∧ huA S1 H1 H2 = H2 ∧ huB S1 S2 H1 H2 = H2) ∨ ((S1 == 0) = false ∧ S2 = 0 ∧ huA S1 H1 H2 = H1 ∧ huB S1 S2 H1 H2 = H1) ∨ ((S1 == 0) = false ∧ (S2 == 0) = false ∧ huA S1 H1 H2 = H1 ∧ huB S1 S2 H1 H2 = H2) := by
  unfold huA huB
  by_cases h1 : S1 = 0
  · exact .inl ⟨h1, by rw [if_pos h1], by rw [if_pos h1]⟩
  · by_cases h2 : S2 = 0
    · exact .inr (.inl ⟨by simpa using h1, h2, by rw [if_neg h1], by rw [if_neg h1, if_pos h2]⟩)
    · exact .inr (.inr ⟨by simpa using h1, by simpa using h2, by rw [if_neg h1], by rw [if_neg h1, if_neg h2]⟩)

set_option maxRecDepth 100000 in
set_option maxHeartbeats 16000000 in
theorem between_ok (r1 g1 b1 r2 g2 b2 way p q : Int) (w : World) (hok : PartOk p q) :
    Calls Try.prog 25 #[.agg #[.int .i64 r1, .int .i64 g1, .int .i64 b1], .agg #[.int .i64 r2, .int .i64 g2, .int .i64 b2], .int .i64 way, .int .i64 p, .int .i64 q] w fun e w' =>
      e = .returned (.tuple #[.agg #[.int .i64 (btwR (btwE r1 g1 b1 r2 g2 b2 way p q) (btwC r1 g1 b1 r2 g2 b2 way p q)).1, .int .i64 (btwR (btwE r1 g1 b1 r2 g2 b2 way p q) (btwC r1 g1 b1 r2 g2 b2 way p q)).2.1, .int .i64 (btwR (btwE r1 g1 b1 r2 g2 b2 way p q) (btwC r1 g1 b1 r2 g2 b2 way p q)).2.2], .int .i64 (btwE r1 g1 b1 r2 g2 b2 way p q)]) ∧ Below w.heap.size w w' := by
  have HE := Lib.hid (btwE_ok (r1 := r1) (g1 := g1) (b1 := b1) (r2 := r2) (g2 := g2) (b2 := b2) (way := way) hok)
  have HL := Lib.hid (fun h => btw_lv (r1 := r1) (g1 := g1) (b1 := b1) (r2 := r2) (g2 := g2) (b2 := b2) (way := way) hok h)
  have HOK := Lib.hid hok
  generalize hC : btwR (btwE r1 g1 b1 r2 g2 b2 way p q) (btwC r1 g1 b1 r2 g2 b2 way p q) = C
  have HC := Lib.hid hC
  clear hC
  generalize btwE r1 g1 b1 r2 g2 b2 way p q = E at *
  have HQ := Lib.hid hok.1
  have HP := Lib.hid hok.2
  clear hok
  go_enter Try.func25, Try.ntmps25
  go_upto_region 1 with fail
  go_cut [12] (fun s12 wx => s12 = .int .i64 E ∧ BtwS w r1 g1 b1 r2 g2 b2 p q wx)
  case first =>
    go_region_held3 (fun w' => w'.cell? ⟨w.heap.size, 0, none⟩ = some (.int .i64 r1) ∧ w'.cell? ⟨w.heap.size, 1, none⟩ = some (.int .i64 g1) ∧ w'.cell? ⟨w.heap.size, 2, none⟩ = some (.int .i64 b1) ∧ w'.cell? ⟨w.heap.size + 1, 0, none⟩ = some (.int .i64 r2) ∧ w'.cell? ⟨w.heap.size + 1, 1, none⟩ = some (.int .i64 g2) ∧ w'.cell? ⟨w.heap.size + 1, 2, none⟩ = some (.int .i64 b2) ∧ w'.cell? ⟨w.heap.size + 1 + 1, 0, none⟩ = some (.int .i64 p) ∧ w'.cell? ⟨w.heap.size + 1 + 1 + 1, 0, none⟩ = some (.int .i64 q))
      (simp [go_sem, World.cell?_alloc_past])
      (first
        | (go_at_call 15; ((with_reducible refine (check_any r1 g1 b1 _).mono ?_); rintro e w1 ⟨rfl, rfl⟩))
        | (go_at_call 15; ((with_reducible refine (check_any r2 g2 b2 _).mono ?_); rintro e w1 ⟨rfl, rfl⟩))
        | (go_at_call 37; ((with_reducible refine (within_yes q 1 36000000 _ HQ.out).mono ?_); rintro e w' ⟨rfl, rfl⟩))
        | (go_at_call 37; ((with_reducible refine (within_yes p 0 q _ HP.out).mono ?_); rintro e w' ⟨rfl, rfl⟩))
        | (go_at_call 37; ((with_reducible refine (within_B way _ _ _).mono ?_); rintro e w' ⟨rfl, rfl⟩))
        | (go_at_call 43; ((with_reducible refine (when_B _ 4 _).mono ?_); rintro e w' ⟨rfl, rfl⟩))
        | (go_at_call 43; ((with_reducible refine (when_no 1 _).mono ?_); rintro e w' ⟨rfl, rfl⟩))
        | (go_at_call 44; refine (first4d _ (chkC r1 g1 b1) (chkC r2 g2 b2) (whenV (!inB way 1 3) 4) 0 _ (by simp [go_sem]) (by simp [go_sem]) (by simp [go_sem]) (by simp [go_sem])).mono ?_; rintro e w' ⟨rfl, rfl⟩)
        | fail)
    all_goals go_wp2_with fail
    all_goals go_meet
    all_goals exact ⟨by rw [HE.out], btwS_of _ _ _ _ _ _ _ _ _ _ _⟩
  case rest =>
    obtain ⟨rfl, hS⟩ := hcut
    have HS := Lib.hid hS
    obtain ⟨wA, rfl⟩ : ∃ x, x = wc := ⟨wc, rfl⟩
    obtain ⟨bA, hz, a0, a1, a2, d0, d1, d2, pc, qc, t0, t1, t2, t3, t4, t5⟩ := hS
    have z0 : w.heap.size < wA.heap.size := by omega
    have z1 : w.heap.size + 1 < wA.heap.size := by omega
    have z2 : w.heap.size + 1 + 1 < wA.heap.size := by omega
    have z3 : w.heap.size + 1 + 1 + 1 < wA.heap.size := by omega
    have z4 : w.heap.size + 1 + 1 + 1 + 1 < wA.heap.size := by omega
    have BA := Lib.hid bA
    clear bA hz
    by_cases hE : E = 0
    · obtain ⟨⟨lr1, lg1, lb1⟩, ⟨lr2, lg2, lb2⟩, wa1, wa3⟩ := HL.out hE
      subst hE
      by_cases hp0 : p = 0
      · have HV := Lib.hid (show C = (r1, g1, b1) by rw [← HC.out]; unfold btwR btwC; rw [if_pos rfl, if_pos hp0])
        clear HC HL HE HP HQ HOK lr1 lg1 lb1 lr2 lg2 lb2 wa1 wa3
        subst hp0
        go_wp2
        refine bodyPost_ret (v := .tuple #[.agg #[.int .i64 r1, .int .i64 g1, .int .i64 b1], .int .i64 0]) (by simp [results, Try.results25, go_sem, *]) rfl ⟨by rw [HV.out], below_set3 BA.out (by omega)⟩
      · by_cases hpq : p = q
        · have HV := Lib.hid (show C = (r2, g2, b2) by rw [← HC.out]; unfold btwR btwC; rw [if_pos rfl, if_neg hp0, if_pos hpq])
          have p0 : (p == 0) = false := by simp [hp0]
          clear HC HL HE HP HQ HOK lr1 lg1 lb1 lr2 lg2 lb2 wa1 wa3 hp0
          subst hpq
          go_wp2
          refine bodyPost_ret (v := .tuple #[.agg #[.int .i64 r2, .int .i64 g2, .int .i64 b2], .int .i64 0]) (by simp [results, Try.results25, go_sem, *]) rfl ⟨by rw [HV.out], below_set3 BA.out (by omega)⟩
        · have p0 : (p == 0) = false := by simp [hp0]
          have pq : (p == q) = false := by simp [hpq]
          by_cases hw1 : way = 1
          · have HV := Lib.hid (show C = (mixV r1 r2 p q, mixV g1 g2 p q, mixV b1 b2 p q) by rw [← HC.out]; unfold btwR btwC; rw [if_pos rfl, if_neg hp0, if_neg hpq, if_pos hw1])
            have CF1 := Lib.hid (fun W (hb : Below wA.heap.size wA W) => cf_between r1 r2 p q _ _ W ⟨⟨lr1, lr2⟩, HOK.out⟩ (HS.out.below hb).pc (HS.out.below hb).qc)
            have CF2 := Lib.hid (fun W (hb : Below wA.heap.size wA W) => cf_between g1 g2 p q _ _ W ⟨⟨lg1, lg2⟩, HOK.out⟩ (HS.out.below hb).pc (HS.out.below hb).qc)
            have CF3 := Lib.hid (fun W (hb : Below wA.heap.size wA W) => cf_between b1 b2 p q _ _ W ⟨⟨lb1, lb2⟩, HOK.out⟩ (HS.out.below hb).pc (HS.out.below hb).qc)
            clear HC HL HE HP HQ HOK lr1 lg1 lb1 lr2 lg2 lb2 wa1 wa3 hp0 hpq
            subst hw1
            go_wp2_with fail
            refine (each_between r1 g1 b1 r2 g2 b2 _ _ _ _ _ wA CF1.out CF2.out CF3.out).mono ?_
            rintro e w5 ⟨rfl, hb5⟩
            have HSE := HS.out.below hb5
            obtain ⟨bE, hzE, _, _, _, _, _, _, _, _, x0, x1, x2, x3, x4, x5⟩ := HSE
            have BE := Lib.hid bE
            clear hb5 bE hzE
            go_wp2
            refine bodyPost_ret (v := .tuple #[.agg #[.int .i64 (mixV r1 r2 p q), .int .i64 (mixV g1 g2 p q), .int .i64 (mixV b1 b2 p q)], .int .i64 0]) (by simp [results, Try.results25, go_sem, *]) rfl ⟨by rw [HV.out], below_set3 BE.out (by omega)⟩
          · have hw : (way == 1) = false := by simp [hw1]
            obtain ⟨hh1, hs1, hv1⟩ := tone_range lr1 lg1 lb1
            obtain ⟨hh2, hs2, hv2⟩ := tone_range lr2 lg2 lb2
            have HT1 := Lib.hid (fun W => toneOf_any r1 g1 b1 W lr1 lg1 lb1)
            have HT2 := Lib.hid (fun W => toneOf_any r2 g2 b2 W lr2 lg2 lb2)
            have HV0 := Lib.hid (show C = toneC (toneH r1 g1 b1) (toneS r1 g1 b1) (topV r1 g1 b1) (toneH r2 g2 b2) (toneS r2 g2 b2) (topV r2 g2 b2) way p q by rw [← HC.out]; unfold btwR btwC; rw [if_pos rfl, if_neg hp0, if_neg hpq, if_neg hw1]; rfl)
            generalize toneH r1 g1 b1 = H1 at *
            generalize toneS r1 g1 b1 = S1 at *
            generalize topV r1 g1 b1 = V1 at *
            generalize toneH r2 g2 b2 = H2 at *
            generalize toneS r2 g2 b2 = S2 at *
            generalize topV r2 g2 b2 = V2 at *
            have HH1 := Lib.hid hh1
            have HH2 := Lib.hid hh2
            have HMS := Lib.hid (show MixOk S1 S2 p q from ⟨⟨hs1, hs2⟩, HOK.out⟩)
            have HMV := Lib.hid (show MixOk V1 V2 p q from ⟨⟨hv1, hv2⟩, HOK.out⟩)
            clear HC HL HE HP HQ lr1 lg1 lb1 lr2 lg2 lb2 wa1 wa3 hp0 hpq hw1 hh1 hs1 hv1 hh2 hs2 hv2
            have KP := Lib.hid (show ∀ W, Below wA.heap.size wA W → (W.cell? ⟨w.heap.size, 0, none⟩ = some (.int .i64 r1) ∧ W.cell? ⟨w.heap.size, 1, none⟩ = some (.int .i64 g1) ∧ W.cell? ⟨w.heap.size, 2, none⟩ = some (.int .i64 b1) ∧ W.cell? ⟨w.heap.size + 1, 0, none⟩ = some (.int .i64 r2) ∧ W.cell? ⟨w.heap.size + 1, 1, none⟩ = some (.int .i64 g2) ∧ W.cell? ⟨w.heap.size + 1, 2, none⟩ = some (.int .i64 b2)) from fun W hb => ⟨(HS.out.below hb).a0, (HS.out.below hb).a1, (HS.out.below hb).a2, (HS.out.below hb).d0, (HS.out.below hb).d1, (HS.out.below hb).d2⟩)
            go_upto_region 11 with fail
            go_cut [14, 15] (fun sA sB wx => ∃ g h : Nat, sA = .pointer (some ⟨g, 0, none⟩) ∧ sB = .pointer (some ⟨h, 0, none⟩) ∧ wA.heap.size ≤ g ∧ wA.heap.size ≤ h ∧ g ≠ h ∧ g < wx.heap.size ∧ h < wx.heap.size ∧ Box3 wx g (.int .i64 H1) (.int .i64 S1) (.int .i64 V1) ∧ Box3 wx h (.int .i64 H2) (.int .i64 S2) (.int .i64 V2) ∧ Below wA.heap.size wA wx)
            case first =>
              have hw0 : Below wA.heap.size wA (World.drew wA) := (Below.refl _ _).drew
              go_region_held3 (fun W => W.cell? ⟨w.heap.size, 0, none⟩ = some (.int .i64 r1) ∧ W.cell? ⟨w.heap.size, 1, none⟩ = some (.int .i64 g1) ∧ W.cell? ⟨w.heap.size, 2, none⟩ = some (.int .i64 b1) ∧ W.cell? ⟨w.heap.size + 1, 0, none⟩ = some (.int .i64 r2) ∧ W.cell? ⟨w.heap.size + 1, 1, none⟩ = some (.int .i64 g2) ∧ W.cell? ⟨w.heap.size + 1, 2, none⟩ = some (.int .i64 b2))
                (exact KP.out _ (by (repeat' first | (with_reducible assumption) | (with_reducible refine bl_alloc (by first | omega | (simp <;> omega)) ?_) | (with_reducible refine bl_set3 (by first | omega | (simp <;> omega)) ?_) | (with_reducible exact (Below.refl _ _).drew) | (with_reducible refine Below.drew ?_) | (with_reducible exact Below.refl _ _))))
                (first
                  | (go_at_call 35; ((with_reducible refine (HT1.out _).mono ?_); rintro e WX ⟨rfl, hb1⟩; have hw1 : Below wA.heap.size wA WX := bl_below (by first | omega | (simp <;> omega)) hb1 (by (repeat' first | (with_reducible assumption) | (with_reducible refine bl_alloc (by first | omega | (simp <;> omega)) ?_) | (with_reducible refine bl_set3 (by first | omega | (simp <;> omega)) ?_) | (with_reducible exact (Below.refl _ _).drew) | (with_reducible refine Below.drew ?_) | (with_reducible exact Below.refl _ _))); have hs1 := hb1.size; (try (simp at hs1)); (first | ((with_reducible first | have PW := pre2d hb1 | have PW := pre2e hb1 | have PW := pre2 hb1); obtain ⟨B1, B2, l1, l2⟩ := PW; have Y1 : Hid (Box3 WX wA.heap.size (.int .i64 0) (.int .i64 0) (.int .i64 0)) := Lib.hid B1; have Y2 : Hid (Box3 WX (wA.heap.size + 1) (.int .i64 0) (.int .i64 0) (.int .i64 0)) := Lib.hid B2; have l1 : wA.heap.size < WX.heap.size := l1; have l2 : wA.heap.size + 1 < WX.heap.size := l2; obtain ⟨p0, p1, p2, p3, p4, p5⟩ := Y1.out; obtain ⟨q0, q1, q2, q3, q4, q5⟩ := Y2.out; clear B1 B2) | ((with_reducible first | have PW := pre1d hb1 | have PW := pre1 hb1); obtain ⟨B1, l1⟩ := PW; have Y1 : Hid (Box3 WX wA.heap.size (.int .i64 0) (.int .i64 0) (.int .i64 0)) := Lib.hid B1; have l1 : wA.heap.size < WX.heap.size := l1; obtain ⟨p0, p1, p2, p3, p4, p5⟩ := Y1.out; clear B1) | skip); clear hb1))
                  | (go_at_call 35; ((with_reducible refine (HT2.out _).mono ?_); rintro e WY ⟨rfl, hb2⟩; have hw2 : Below wA.heap.size wA WY := bl_below (by first | omega | (simp <;> omega)) hb2 (by (repeat' first | (with_reducible assumption) | (with_reducible refine bl_alloc (by first | omega | (simp <;> omega)) ?_) | (with_reducible refine bl_set3 (by first | omega | (simp <;> omega)) ?_) | (with_reducible exact (Below.refl _ _).drew) | (with_reducible refine Below.drew ?_) | (with_reducible exact Below.refl _ _))); have hs2 := hb2.size; (try (simp at hs2)); (try (have Y1 := Lib.hid (bx_below hb2 (by first | exact l1 | exact Nat.lt_of_lt_of_le l1 (by simp <;> omega) | fail) (by with_reducible first | exact Y1.out | exact bx_alloc l1 Y1.out | fail)); obtain ⟨p0, p1, p2, p3, p4, p5⟩ := Y1.out; have l1 : wA.heap.size < WY.heap.size := by first | omega | fail)); (try (have Y2 := Lib.hid (bx_below hb2 (by first | exact l2 | exact Nat.lt_of_lt_of_le l2 (by simp <;> omega) | fail) (by with_reducible first | exact Y2.out | exact bx_alloc l2 Y2.out | fail)); obtain ⟨q0, q1, q2, q3, q4, q5⟩ := Y2.out; have l2 : wA.heap.size + 1 < WY.heap.size := by first | omega | fail)); (first | ((with_reducible have PW := pre2 hb2); obtain ⟨B3, B4, l3, l4⟩ := PW; have Y3 := Lib.hid B3; have Y4 := Lib.hid B4; obtain ⟨s0, s1, s2, s3, s4, s5⟩ := Y3.out; obtain ⟨m0, m1, m2, m3, m4, m5⟩ := Y4.out; clear B3 B4) | ((with_reducible have PW := pre1 hb2); obtain ⟨B3, l3⟩ := PW; have Y3 := Lib.hid B3; obtain ⟨s0, s1, s2, s3, s4, s5⟩ := Y3.out; clear B3) | skip); clear hb2))
                  | fail)
              all_goals go_wp2_with fail
              all_goals go_meet
              all_goals refine ⟨_, _, rfl, rfl, ?_, ?_, ?_, ?_, ?_, ?_, ?_, ?_⟩
              all_goals first
                | ((repeat' first | (with_reducible exact Y1.out) | (with_reducible exact has_of Y1.out) | (with_reducible exact Y2.out) | (with_reducible exact has_of Y2.out) | (with_reducible exact Y3.out) | (with_reducible exact has_of Y3.out) | (with_reducible exact Y4.out) | (with_reducible exact has_of Y4.out) | (with_reducible refine bx_new (by first | omega | rfl | (simp <;> omega))) | (with_reducible refine bx_put (by first | rfl | omega) ?_) | (with_reducible refine bx_other (by omega) ?_) | (with_reducible refine bx_alloc (by first | omega | (simp <;> omega)) ?_) | (with_reducible refine bx_drew ?_) | (with_reducible refine has_other (by omega) ?_) | (with_reducible refine has_alloc (by first | omega | (simp <;> omega)) ?_)); done)
                | ((repeat' first | (with_reducible assumption) | (with_reducible refine bl_alloc (by first | omega | (simp <;> omega)) ?_) | (with_reducible refine bl_set3 (by first | omega | (simp <;> omega)) ?_) | (with_reducible exact (Below.refl _ _).drew) | (with_reducible refine Below.drew ?_) | (with_reducible exact Below.refl _ _)); done)
                | omega
                | (simp <;> omega)
                | fail
            case rest =>
              obtain ⟨g, h, rfl, rfl, hg, hh, hgh, hgl, hhl, hbg, hbh, hbB⟩ := hcut
              obtain ⟨wB, rfl⟩ : ∃ x, x = wc := ⟨wc, rfl⟩
              have HSB := Lib.hid (HS.out.below hbB)
              have HBG := Lib.hid hbg
              have HBH := Lib.hid hbh
              have hzB := hbB.size
              clear hbB t0 t1 t2 t3 t4 t5 hbg hbh KP HT1 HT2 a0 a1 a2 d0 d1 d2 pc qc
              have HB1 := Lib.hid (show (0 ≤ huA S1 H1 H2 ∧ huA S1 H1 H2 ≤ 393209) ∧ (0 ≤ huB S1 S2 H1 H2 ∧ huB S1 S2 H1 H2 ≤ 393209) from by
                have h1 := HH1.out
                have h2 := HH2.out
                rcases sat_cases S1 S2 H1 H2 with ⟨_, k1, k2⟩ | ⟨_, _, k1, k2⟩ | ⟨_, _, k1, k2⟩ <;> rw [k1, k2] <;> omega)
              have HCS := Lib.hid (sat_cases S1 S2 H1 H2)
              generalize hHX : huA S1 H1 H2 = hx at *
              generalize hHY : huB S1 S2 H1 H2 = hy at *
              have HHX := Lib.hid hHX
              have HHY := Lib.hid hHY
              clear hHX hHY
              have HM1 := Lib.hid (fun W => cmod_any (hy - hx) W (by have := HB1.out; omega) (by have := HB1.out; omega))
              have HV1 := Lib.hid (show C = frT (rnd (hx * q + (if upB way ((hy - hx) % 393210) then (hy - hx) % 393210 else (hy - hx) % 393210 - 393210) * p) q % 393210) (mixV S1 S2 p q) (mixV V1 V2 p q) from by
                rw [HV0.out, ← turn_up hx hy way]
                show toneC _ _ _ _ _ _ _ _ _ = _
                unfold toneC btwH
                rw [HHX.out, HHY.out])
              have HD := Lib.hid (show 0 ≤ (hy - hx) % 393210 ∧ (hy - hx) % 393210 < 393210 from ⟨Int.emod_nonneg _ (by decide), Int.emod_lt_of_pos _ (by decide)⟩)
              have HTB := Lib.hid (show -393210 ≤ (if upB way ((hy - hx) % 393210) then (hy - hx) % 393210 else (hy - hx) % 393210 - 393210) ∧ (if upB way ((hy - hx) % 393210) then (hy - hx) % 393210 else (hy - hx) % 393210 - 393210) ≤ 393210 from by rw [← turn_up]; exact turn_bounds _ _ _)
              generalize hDD : (hy - hx) % 393210 = d at *
              clear hDD
              have HUC := Lib.hid (upB_cases way d)
              generalize hUP : upB way d = up at *
              clear hUP
              generalize hTN : (if up then d else d - 393210) = tn at *
              have HTN := Lib.hid hTN
              clear hTN
              obtain ⟨y0, y1, y2, y3, y4, y5⟩ := HBG.out
              obtain ⟨x0, x1, x2, x3, x4, x5⟩ := HBH.out
              go_upto_if 66 with fail
              go_cut [14] (fun s14 wx => s14 = .pointer (some ⟨g, 0, none⟩) ∧ Box3 wx g (.int .i64 hx) (.int .i64 S1) (.int .i64 V1) ∧ Box3 wx h (.int .i64 hy) (.int .i64 S2) (.int .i64 V2) ∧ BtwS w r1 g1 b1 r2 g2 b2 p q wx ∧ wx.heap.size = wB.heap.size)
              case first =>
                rcases HCS.out with ⟨k0, k1, k2⟩ | ⟨k0, k3, k1, k2⟩ | ⟨k0, k3, k1, k2⟩
                · have K0 : (S1 == 0) = true := by simp [k0]
                  have K1 := Lib.hid k1
                  have K2 := Lib.hid k2
                  clear k0 k1 k2
                  go_wp2_with fail
                  all_goals go_meet
                  all_goals exact ⟨rfl, by rw [K1.out]; exact bx_set0 HBG.out, by rw [K2.out]; exact bx_set1 (by omega) HBH.out, HSB.out.set (by omega), by simp⟩
                · have K3 : (S2 == 0) = true := by simp [k3]
                  have K1 := Lib.hid k1
                  have K2 := Lib.hid k2
                  clear k3 k1 k2
                  go_wp2_with fail
                  all_goals go_meet
                  all_goals exact ⟨rfl, by rw [K1.out]; exact bx_set1 (by omega) HBG.out, by rw [K2.out]; exact bx_set0 HBH.out, HSB.out.set (by omega), by simp⟩
                · have K1 := Lib.hid k1
                  have K2 := Lib.hid k2
                  clear k1 k2
                  go_wp2_with fail
                  all_goals go_meet
                  all_goals exact ⟨rfl, by rw [K1.out]; exact HBG.out, by rw [K2.out]; exact HBH.out, HSB.out, rfl⟩
              case rest =>
                obtain ⟨rfl, hbg, hbh, hsc, hzc⟩ := hcut
                obtain ⟨wC, rfl⟩ : ∃ x, x = wc := ⟨wc, rfl⟩
                clear y0 y1 y2 y3 y4 y5 x0 x1 x2 x3 x4 x5
                have hgC : g < wC.heap.size := by omega
                have hhC : h < wC.heap.size := by omega
                clear hzc hgl hhl
                have HSC := Lib.hid hsc
                have HBG2 := Lib.hid hbg
                have HBH2 := Lib.hid hbh
                obtain ⟨_, zC, _, _, _, _, _, _, pc, qc, _, _, _, _, _, _⟩ := hsc
                obtain ⟨y0, y1, y2, y3, y4, y5⟩ := hbg
                obtain ⟨x0, x1, x2, x3, x4, x5⟩ := hbh
                have e1 := HB1.out
                obtain ⟨⟨e1, e2⟩, e3, e4⟩ := e1
                go_upto_if 85 with (first | (go_at_call 57; ((with_reducible refine (HM1.out _).mono ?_); rintro e w' ⟨rfl, rfl⟩)) | fail)
                obtain ⟨d0, d9⟩ := HD.out
                go_cut [17] (fun s17 wx => s17 = .bool up ∧ wC = wx)
                case first =>
                  rcases HUC.out with ⟨k0, k1, k2⟩ | ⟨k0, k1, k3, k2⟩ | ⟨k0, k1, k3, k2⟩ | ⟨k0, k1, k2⟩ | ⟨k0, k1, k2⟩
                  all_goals
                    have K2 := Lib.hid k2
                    clear k2
                    (try subst k0)
                    go_wp2_with fail
                  all_goals go_meet
                  all_goals exact ⟨by rw [K2.out] <;> first | rfl | (simp; omega) | simp [*], rfl⟩
                case rest =>
                  obtain ⟨rfl, rfl⟩ := hcut
                  go_upto_if 93 with fail
                  go_cut [16] (fun s16 wx => s16 = .int .i64 tn ∧ wC = wx)
                  case first =>
                    cases up
                    all_goals
                      have HT2 := Lib.hid HTN.out
                      go_wp2_with fail
                    all_goals go_meet
                    all_goals exact ⟨by rw [← HTN.out] <;> rfl, rfl⟩
                  case rest =>
                    obtain ⟨rfl, rfl⟩ := hcut
                    clear e1 e2 e3 e4 d0 d9
                    have HB22 := Lib.hid (hue_bounds (a := hx) (t := tn) HB1.out.1 HTB.out HOK.out)
                    have HR22 := Lib.hid (fun W => round_any (hx * q + tn * p) q W (by have := HOK.out.1; omega) (by have := HB22.out; omega) (by have := HB22.out; omega) (by have := HOK.out.1; omega))
                    have HM22 := Lib.hid (fun W => cmod_any (rnd (hx * q + tn * p) q) W (by have := HB22.out; omega) (by have := HB22.out; omega))
                    have HS22 := Lib.hid (fun W (hb : Below wC.heap.size wC W) => cf_between S1 S2 p q _ _ W HMS.out (HSC.out.below hb).pc (HSC.out.below hb).qc)
                    have HV22 := Lib.hid (fun W (hb : Below wC.heap.size wC W) => cf_between V1 V2 p q _ _ W HMV.out (HSC.out.below hb).pc (HSC.out.below hb).qc)
                    have HF := Lib.hid (fun W => fromTone_any (rnd (hx * q + tn * p) q % 393210) (mixV S1 S2 p q) (mixV V1 V2 p q) W ⟨Int.emod_nonneg _ (by decide), by have := Int.emod_lt_of_pos (rnd (hx * q + tn * p) q) (show (0 : Int) < 393210 by decide); omega⟩ (mixV_lv HMS.out) (mixV_lv HMV.out))
                    have K22 := Lib.hid (show ∀ W, Below wC.heap.size wC W → (W.cell? ⟨g, 0, none⟩ = some (.int .i64 hx) ∧ W.cell? ⟨g, 1, none⟩ = some (.int .i64 S1) ∧ W.cell? ⟨g, 2, none⟩ = some (.int .i64 V1) ∧ W.cell? ⟨h, 0, none⟩ = some (.int .i64 hy) ∧ W.cell? ⟨h, 1, none⟩ = some (.int .i64 S2) ∧ W.cell? ⟨h, 2, none⟩ = some (.int .i64 V2) ∧ W.cell? ⟨w.heap.size + 1 + 1, 0, none⟩ = some (.int .i64 p) ∧ W.cell? ⟨w.heap.size + 1 + 1 + 1, 0, none⟩ = some (.int .i64 q)) from fun W hb => by
                      have b1 := HBG2.out.below hb hgC
                      have b2 := HBH2.out.below hb hhC
                      exact ⟨b1.c0, b1.c1, b1.c2, b2.c0, b2.c1, b2.c2, (HSC.out.below hb).pc, (HSC.out.below hb).qc⟩)
                    generalize hHue : rnd (hx * q + tn * p) q % 393210 = hue at *
                    generalize hRn : rnd (hx * q + tn * p) q = rn at *
                    generalize hSat : mixV S1 S2 p q = sat at *
                    generalize hVal : mixV V1 V2 p q = val at *
                    clear hHue hRn hSat hVal
                    generalize hFT : frT hue sat val = ft at *
                    clear hFT
                    obtain ⟨c0, c1, c2⟩ := ft
                    have HV := HV1
                    clear y0 y1 y2 y3 y4 y5 x0 x1 x2 x3 x4 x5 pc qc HV1 HV0 HHX HHY HB1 HCS HM1 HD HTB HUC HTN HBG HBH HSB HH1 HH2 HMS HMV HOK
                    go_upto_region 22 with (first | (go_at_call 57; ((with_reducible refine (HM1.out _).mono ?_); rintro e w' ⟨rfl, rfl⟩)) | fail)
                    go_cut [18] (fun sK wx => ∃ k : Nat, sK = .pointer (some ⟨k, 0, none⟩) ∧ wC.heap.size ≤ k ∧ k < wx.heap.size ∧ Box3 wx k (.int .i64 hue) (.int .i64 sat) (.int .i64 val) ∧ Below wC.heap.size wC wx)
                    case first =>
                      have hw0 : Below wC.heap.size wC (World.drew wC) := (Below.refl _ _).drew
                      have e1 : IntKind.i64.wrap (hx * q) = hx * q := IntWalk.i64_in _ (by have := HB22.out; omega)
                      have e2 : IntKind.i64.wrap (tn * p) = tn * p := IntWalk.i64_in _ (by have := HB22.out; omega)
                      have e3 : IntKind.i64.wrap (hx * q + tn * p) = hx * q + tn * p := IntWalk.i64_in _ (by have := HB22.out; omega)
                      go_region_held3 (fun W => W.cell? ⟨g, 0, none⟩ = some (.int .i64 hx) ∧ W.cell? ⟨g, 1, none⟩ = some (.int .i64 S1) ∧ W.cell? ⟨g, 2, none⟩ = some (.int .i64 V1) ∧ W.cell? ⟨h, 0, none⟩ = some (.int .i64 hy) ∧ W.cell? ⟨h, 1, none⟩ = some (.int .i64 S2) ∧ W.cell? ⟨h, 2, none⟩ = some (.int .i64 V2) ∧ W.cell? ⟨w.heap.size + 1 + 1, 0, none⟩ = some (.int .i64 p) ∧ W.cell? ⟨w.heap.size + 1 + 1 + 1, 0, none⟩ = some (.int .i64 q))
                        (exact K22.out _ (by (repeat' first | (with_reducible assumption) | (with_reducible refine bl_alloc (by first | omega | (simp <;> omega)) ?_) | (with_reducible refine bl_set3 (by first | omega | (simp <;> omega)) ?_) | (with_reducible exact (Below.refl _ _).drew) | (with_reducible refine Below.drew ?_) | (with_reducible exact Below.refl _ _))))
                        (first
                          | (go_at_call 58; ((with_reducible refine (HR22.out _).mono ?_); rintro e w' ⟨rfl, rfl⟩))
                          | (go_at_call 57; ((with_reducible refine (HM22.out _).mono ?_); rintro e w' ⟨rfl, rfl⟩))
                          | (go_at_call 54; ((with_reducible refine (HS22.out _ (by (repeat' first | (with_reducible assumption) | (with_reducible refine bl_alloc (by first | omega | (simp <;> omega)) ?_) | (with_reducible refine bl_set3 (by first | omega | (simp <;> omega)) ?_) | (with_reducible exact (Below.refl _ _).drew) | (with_reducible refine Below.drew ?_) | (with_reducible exact Below.refl _ _)))).mono ?_); rintro e WP ⟨rfl, hbP⟩; have hwP : Below wC.heap.size wC WP := bl_below (by first | omega | (simp <;> omega)) hbP (by (repeat' first | (with_reducible assumption) | (with_reducible refine bl_alloc (by first | omega | (simp <;> omega)) ?_) | (with_reducible refine bl_set3 (by first | omega | (simp <;> omega)) ?_) | (with_reducible exact (Below.refl _ _).drew) | (with_reducible refine Below.drew ?_) | (with_reducible exact Below.refl _ _))); have hsP := hbP.size; (try (simp at hsP)); (try (first | (have YP : Hid (Box3 WP wC.heap.size (.int .i64 0) (.int .i64 0) (.int .i64 0)) := Lib.hid (by first | (refine bx_below hbP (by first | (simp; done) | (simp <;> omega) | omega) ?_; ((repeat' first | (with_reducible refine bx_new (by first | omega | rfl | (simp <;> omega))) | (with_reducible refine bx_put (by first | rfl | omega) ?_) | (with_reducible refine bx_other (by omega) ?_) | (with_reducible refine bx_alloc (by first | omega | (simp <;> omega)) ?_) | (with_reducible refine bx_drew ?_) | (with_reducible refine has_other (by omega) ?_) | (with_reducible refine has_alloc (by first | omega | (simp <;> omega)) ?_)); done)) | fail)))); (try (have lP : wC.heap.size < WP.heap.size := by first | omega | fail)); (try (obtain ⟨yP0, yP1, yP2, yP3, yP4, yP5⟩ := YP.out)); clear hbP))
                          | (go_at_call 54; ((with_reducible refine (HV22.out _ (by (repeat' first | (with_reducible assumption) | (with_reducible refine bl_alloc (by first | omega | (simp <;> omega)) ?_) | (with_reducible refine bl_set3 (by first | omega | (simp <;> omega)) ?_) | (with_reducible exact (Below.refl _ _).drew) | (with_reducible refine Below.drew ?_) | (with_reducible exact Below.refl _ _)))).mono ?_); rintro e WV ⟨rfl, hbV⟩; have hwV : Below wC.heap.size wC WV := bl_below (by first | omega | (simp <;> omega)) hbV (by (repeat' first | (with_reducible assumption) | (with_reducible refine bl_alloc (by first | omega | (simp <;> omega)) ?_) | (with_reducible refine bl_set3 (by first | omega | (simp <;> omega)) ?_) | (with_reducible exact (Below.refl _ _).drew) | (with_reducible refine Below.drew ?_) | (with_reducible exact Below.refl _ _))); have hsV := hbV.size; (try (simp at hsV)); (try (first | (have YV : Hid (Box3 WV wC.heap.size (.int .i64 0) (.int .i64 0) (.int .i64 0)) := Lib.hid (by first | (refine bx_below hbV (by first | (simp; done) | (simp <;> omega) | omega) ?_; ((repeat' first | (with_reducible exact YP.out) | (with_reducible exact has_of YP.out) | (with_reducible refine bx_new (by first | omega | rfl | (simp <;> omega))) | (with_reducible refine bx_put (by first | rfl | omega) ?_) | (with_reducible refine bx_other (by omega) ?_) | (with_reducible refine bx_alloc (by first | omega | (simp <;> omega)) ?_) | (with_reducible refine bx_drew ?_) | (with_reducible refine has_other (by omega) ?_) | (with_reducible refine has_alloc (by first | omega | (simp <;> omega)) ?_)); done)) | fail)))); (try (first | (have YQ : Hid (Box3 WV WP.heap.size (.int .i64 0) (.int .i64 0) (.int .i64 0)) := Lib.hid (by first | (refine bx_below hbV (by first | (simp; done) | (simp <;> omega) | omega) ?_; ((repeat' first | (with_reducible refine bx_new (by first | omega | rfl | (simp <;> omega))) | (with_reducible refine bx_put (by first | rfl | omega) ?_) | (with_reducible refine bx_other (by omega) ?_) | (with_reducible refine bx_alloc (by first | omega | (simp <;> omega)) ?_) | (with_reducible refine bx_drew ?_) | (with_reducible refine has_other (by omega) ?_) | (with_reducible refine has_alloc (by first | omega | (simp <;> omega)) ?_)); done)) | fail)))); (try (have lq : WP.heap.size < WV.heap.size := by first | omega | fail)); (try (obtain ⟨q0, q1, q2, q3, q4, q5⟩ := YQ.out)); (try (have lV : wC.heap.size < WV.heap.size := by first | omega | fail)); (try (obtain ⟨yV0, yV1, yV2, yV3, yV4, yV5⟩ := YV.out)); clear hbV))
                          | fail)
                      all_goals go_wp2_with fail
                      all_goals go_meet
                      all_goals refine ⟨_, rfl, ?_, ?_, ?_, ?_⟩
                      all_goals first
                        | ((repeat' first | (with_reducible exact YV.out) | (with_reducible exact has_of YV.out) | (with_reducible exact YQ.out) | (with_reducible exact has_of YQ.out) | (with_reducible exact YP.out) | (with_reducible exact has_of YP.out) | (with_reducible refine bx_new (by first | omega | rfl | (simp <;> omega))) | (with_reducible refine bx_put (by first | rfl | omega) ?_) | (with_reducible refine bx_other (by omega) ?_) | (with_reducible refine bx_alloc (by first | omega | (simp <;> omega)) ?_) | (with_reducible refine bx_drew ?_) | (with_reducible refine has_other (by omega) ?_) | (with_reducible refine has_alloc (by first | omega | (simp <;> omega)) ?_)); done)
                        | ((repeat' first | (with_reducible assumption) | (with_reducible refine bl_alloc (by first | omega | (simp <;> omega)) ?_) | (with_reducible refine bl_set3 (by first | omega | (simp <;> omega)) ?_) | (with_reducible exact (Below.refl _ _).drew) | (with_reducible refine Below.drew ?_) | (with_reducible exact Below.refl _ _)); done)
                        | omega
                        | (simp <;> omega)
                        | fail
                    case rest =>
                      obtain ⟨k, rfl, hk1, hk2, hkb, hbk⟩ := hcut
                      obtain ⟨wD, rfl⟩ : ∃ x, x = wc := ⟨wc, rfl⟩
                      have HSD := Lib.hid (HSC.out.below hbk)
                      obtain ⟨x0, x1, x2, x3, x4, x5⟩ := hkb
                      clear hbk
                      go_wp2_with fail
                      refine (HF.out _).mono ?_
                      rintro e w5 ⟨rfl, hb5⟩
                      have HSE := HSD.out.below hb5
                      obtain ⟨bE, hzE, _, _, _, _, _, _, _, _, t0, t1, t2, t3, t4, t5⟩ := HSE
                      have BE := Lib.hid bE
                      clear hb5 bE hzE
                      go_wp2
                      refine bodyPost_ret (v := .tuple #[.agg #[.int .i64 c0, .int .i64 c1, .int .i64 c2], .int .i64 0]) (by simp [results, Try.results25, go_sem, *]) rfl ⟨by rw [HV.out], below_set3 BE.out (by omega)⟩
    · have hb : (E != 0) = true := by simp [hE]
      have hb2 : decide (E ≠ 0) = true := by simp [hE]
      have HV := Lib.hid (show C = (0, 0, 0) by rw [← HC.out]; unfold btwR; rw [if_neg hE])
      clear hE HL HC HE HP HQ HOK
      go_wp2
      refine bodyPost_ret (v := .tuple #[.agg #[.int .i64 0, .int .i64 0, .int .i64 0], .int .i64 E]) (by simp [results, Try.results25, go_sem, *]) rfl ⟨by rw [HV.out], below_set3 BA.out (by omega)⟩
end Go.Proofs.Yteelomjknllcbaa
