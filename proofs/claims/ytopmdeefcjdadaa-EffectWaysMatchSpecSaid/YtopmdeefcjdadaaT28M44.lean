/- The reference's Way. (printed by wip/gen/gen_rewaytop.py) The walk of cycloramalaw7.EffectWaysMatchSpec. (printed by wip/gen/gen_rewaytop.py) -/
import Derived.Test.YtopmdeefcjdadaaT28M28
import Derived.Test.YtopmdeefcjdadaaT28M29
import Derived.Test.YtopmdeefcjdadaaT28M43

namespace Go.Proofs.Ytopmdeefcjdadaa
open Go.RowKit
set_option linter.unusedVariables false
set_option linter.unusedSimpArgs false

theorem way_rnd {P : Int} {D : Nat} {x : Int × Int} (hD : 0 < D) (hx : WayOk x) (h : P * x.2 = x.1 * (D : Int)) : rndQ (P * 65535) D = wayV x ∧ (P * 65535 * 2 + (D : Int)).natAbs / (D * 2) ≤ 65535 := by
  obtain ⟨x1, x2⟩ := x
  obtain ⟨a0, a1, a2, _⟩ := hx
  simp only at *
  obtain ⟨m, rfl⟩ : ∃ m : Nat, x2 = (m : Int) := ⟨x2.toNat, by omega⟩
  have he : (P * 65535 * 2 + (D : Int)) * ((m * 2 : Nat) : Int) = (x1 * 131070 + (m : Int)) * ((D * 2 : Nat) : Int) := by
    push_cast
    have e1 : (P * 65535 * 2 + (D : Int)) * ((m : Int) * 2) = 262140 * (P * (m : Int)) + 2 * ((D : Int) * (m : Int)) := by grind
    rw [e1, h]
    grind
  have hv : rndQ (P * 65535) D = wayV (x1, (m : Int)) := by
    unfold rndQ wayV
    rw [ediv_eq (by omega) (by omega) he]
    simp only
    congr 1
    push_cast
    omega
  refine ⟨hv, ?_⟩
  have hP : 0 ≤ P := by
    rcases Int.lt_or_le P 0 with c | c
    · have h1 := Int.mul_neg_of_neg_of_pos c (show (0 : Int) < (m : Int) by omega)
      have h2 := Int.mul_nonneg a0 (show (0 : Int) ≤ (D : Int) by omega)
      omega
    · exact c
  have hle : wayV (x1, (m : Int)) ≤ 65535 := by
    unfold wayV
    simp only
    have : (x1 * 131070 + (m : Int)) / (2 * (m : Int)) < 65536 := by
      rw [Int.ediv_lt_iff_lt_mul (by omega)]
      omega
    omega
  have e2 : (((P * 65535 * 2 + (D : Int)).natAbs / (D * 2) : Nat) : Int) = rndQ (P * 65535) D := by
    unfold rndQ
    rw [Int.natCast_ediv, Int.natAbs_of_nonneg (by omega)]
  omega
set_option maxRecDepth 100000 in
set_option maxHeartbeats 16000000 in
theorem rWay_any (form low high cycle width spread : Int) (back rel : Bool) (ao : Option Addr) (cap : Nat) (l : List Stp) (index count clock : Int) (w : World) (hs : StepsAt w.heap.size w ao l) (hmax : l.length ≤ maxLen) :
    Calls Try.prog 17 #[.agg #[.int .i64 form, .int .i64 low, .int .i64 high, .int .i64 cycle, .int .i64 width, .int .i64 spread, .bool back, .bool rel, .slice ao l.length cap], .int .i64 index, .int .i64 count, .int .i64 clock] w fun e w' => e = .returned (.tuple #[.int .i64 (wayRes form cycle width spread back l (chkF form low high cycle width spread l) index count clock), .int .i64 (wayFlt (chkF form low high cycle width spread l) index count clock)]) ∧ Below w.heap.size w w' := by
  have CF := Lib.hid (fun (W : World) (hb : Below w.heap.size w W) => refCheck_any form low high cycle width spread back rel ao cap l W (stepsAt_up hs hb) hmax)
  have HZ := Lib.hid (fun (h : chkF form low high cycle width spread l = 0) => chkE_zero h)
  have HCY := Lib.hid (fun (h : chkF form low high cycle width spread l = 0) => cyc_range h)
  have HS := Lib.hid (fun (W : World) (hb : Below w.heap.size w W) => stepsAt_up hs hb)
  generalize chkF form low high cycle width spread l = k at *
  have HFZ := Lib.hid (wayFlt_zero (k := k) (index := index) (count := count) (clock := clock))
  have HFK := Lib.hid (show ¬ k = 0 → wayFlt k index count clock = k from fun h => by unfold wayFlt; simp [firstF, h])
  have HFB := Lib.hid (show k = 0 → (!inR count 1 400 || (!inR index 0 (wrap64 (count - 1)) || !inR clock 0 36000000000)) = true → wayFlt k index count clock = 1 from fun h h2 => by
    unfold wayFlt
    rw [h]
    cases h3 : inR count 1 400
    · simp [firstF, whenW]
    · rw [h3] at h2
      simp only [Bool.not_true, Bool.false_or] at h2
      simp [firstF, whenW, h2])
  have HFG := Lib.hid (show k = 0 → (!inR count 1 400 || (!inR index 0 (wrap64 (count - 1)) || !inR clock 0 36000000000)) = false → wayFlt k index count clock = 0 from fun h h2 => by
    unfold wayFlt
    rw [h]
    rw [Bool.or_eq_false_iff] at h2
    simp [firstF, whenW, h2.1, h2.2])
  have HR0 := Lib.hid (show ¬ wayFlt k index count clock = 0 → wayRes form cycle width spread back l k index count clock = 0 from fun h => if_neg h)
  have HR1 := Lib.hid (show wayFlt k index count clock = 0 → wayRes form cycle width spread back l k index count clock = _ from fun h => if_pos h)
  generalize wayFlt k index count clock = FL at *
  generalize wayRes form cycle width spread back l k index count clock = RS at *
  have HT := Lib.hid (show TBox (w.alloc (.cells #[.int .i64 form, .int .i64 low, .int .i64 high, .int .i64 cycle, .int .i64 width, .int .i64 spread, .bool back, .bool rel, .slice ao l.length cap] 24)) w.heap.size 24 #[.int .i64 form, .int .i64 low, .int .i64 high, .int .i64 cycle, .int .i64 width, .int .i64 spread, .bool back, .bool rel, .slice ao l.length cap] from TBox.new w _ _)
  have HB := Lib.hid (show Below w.heap.size w (w.alloc (.cells #[.int .i64 form, .int .i64 low, .int .i64 high, .int .i64 cycle, .int .i64 width, .int .i64 spread, .bool back, .bool rel, .slice ao l.length cap] 24)) from (Below.refl _ _).alloc (Nat.le_refl _) _)
  clear hs
  go_enter Try.func17, Try.ntmps17
  go_upto_region 1 with fail
  generalize hw0 : (w.alloc (.cells #[.int .i64 form, .int .i64 low, .int .i64 high, .int .i64 cycle, .int .i64 width, .int .i64 spread, .bool back, .bool rel, .slice ao l.length cap] 24)) = w1 at *
  clear hw0
  have q0 := HT.out.cell (i := 0) rfl
  have q1 := HT.out.cell (i := 1) rfl
  have q2 := HT.out.cell (i := 2) rfl
  have q3 := HT.out.cell (i := 3) rfl
  have q4 := HT.out.cell (i := 4) rfl
  have q5 := HT.out.cell (i := 5) rfl
  have q6 := HT.out.cell (i := 6) rfl
  have q7 := HT.out.cell (i := 7) rfl
  have q8 := HT.out.cell (i := 8) rfl
  have ql := HT.out.lt
  have C1 := Lib.hid (CF.out _ HB.out)
  go_wp2_with fail
  refine C1.out.mono ?_
  rintro e w2 ⟨rfl, hb2⟩
  have HT2 := Lib.hid (HT.out.below hb2)
  have HB2 := Lib.hid (HB.out.trans (hb2.mono HB.out.size))
  clear hb2 C1 CF q0 q1 q2 q3 q4 q5 q6 q7 q8 ql HT HB
  by_cases hk : k = 0
  rotate_left
  · have HV := Lib.hid (HFK.out hk)
    have HV2 := Lib.hid (HR0.out (by rw [HV.out]; exact hk))
    clear HFB HFG HFZ HZ HCY HR0 HR1 HFK HS
    go_wp2_with fail
    exact bodyPost_ret (v := .tuple #[.int .i64 0, .int .i64 k]) (by simp [results, Try.results17, go_sem]) rfl ⟨by rw [HV.out, HV2.out], HB2.out⟩
  have HZ1 := Lib.hid (HZ.out hk)
  have HCY1 := Lib.hid (HCY.out hk)
  have HFB1 := Lib.hid (HFB.out hk)
  have HFG1 := Lib.hid (HFG.out hk)
  clear HFB HFG HZ HCY HFK
  subst hk
  obtain ⟨bad, hbad⟩ : ∃ bad, bad = (!inR count 1 400 || (!inR index 0 (wrap64 (count - 1)) || !inR clock 0 36000000000)) := ⟨_, rfl⟩
  have HBAD := Lib.hid hbad
  rw [← hbad] at HFB1 HFG1
  clear hbad
  go_upto_region 4 with fail
  go_cut [30] (fun s30 wx => s30 = .bool bad ∧ wx = w2)
  case first =>
    cases h1 : inR count 1 400 with
    | false =>
      rw [h1] at HBAD
      have WC := Lib.hid (show ∀ W : World, Calls Try.prog 38 #[.int .i64 count, .int .i64 1, .int .i64 400] W fun e w' => e = .returned (.bool false) ∧ W = w' from fun W => h1 ▸ rwithin_R count 1 400 W)
      go_wp2_with (first | (go_at_call 38; (with_reducible refine (WC.out _).mono ?_); rintro e w' ⟨rfl, rfl⟩) | fail)
      all_goals go_meet
      all_goals exact ⟨by rw [HBAD.out] <;> rfl, rfl⟩
    | true =>
      rw [h1] at HBAD
      have WC := Lib.hid (show ∀ W : World, Calls Try.prog 38 #[.int .i64 count, .int .i64 1, .int .i64 400] W fun e w' => e = .returned (.bool true) ∧ W = w' from fun W => h1 ▸ rwithin_R count 1 400 W)
      cases h2 : inR index 0 (wrap64 (count - 1)) with
      | false =>
        rw [h2] at HBAD
        have WI := Lib.hid (show ∀ W : World, Calls Try.prog 38 #[.int .i64 index, .int .i64 0, .int .i64 (wrap64 (count - 1))] W fun e w' => e = .returned (.bool false) ∧ W = w' from fun W => h2 ▸ rwithin_R index 0 (wrap64 (count - 1)) W)
        go_wp2_with (first | (go_at_call 38; (with_reducible refine (WC.out _).mono ?_); rintro e w' ⟨rfl, rfl⟩) | (go_at_call 38; (with_reducible refine (WI.out _).mono ?_); rintro e w' ⟨rfl, rfl⟩) | fail)
        all_goals go_meet
        all_goals exact ⟨by rw [HBAD.out] <;> rfl, rfl⟩
      | true =>
        rw [h2] at HBAD
        have WI := Lib.hid (show ∀ W : World, Calls Try.prog 38 #[.int .i64 index, .int .i64 0, .int .i64 (wrap64 (count - 1))] W fun e w' => e = .returned (.bool true) ∧ W = w' from fun W => h2 ▸ rwithin_R index 0 (wrap64 (count - 1)) W)
        cases h3 : inR clock 0 36000000000 with
        | false =>
          rw [h3] at HBAD
          have WK := Lib.hid (show ∀ W : World, Calls Try.prog 38 #[.int .i64 clock, .int .i64 0, .int .i64 36000000000] W fun e w' => e = .returned (.bool false) ∧ W = w' from fun W => h3 ▸ rwithin_R clock 0 36000000000 W)
          go_wp2_with (first | (go_at_call 38; (with_reducible refine (WC.out _).mono ?_); rintro e w' ⟨rfl, rfl⟩) | (go_at_call 38; (with_reducible refine (WI.out _).mono ?_); rintro e w' ⟨rfl, rfl⟩) | (go_at_call 38; (with_reducible refine (WK.out _).mono ?_); rintro e w' ⟨rfl, rfl⟩) | fail)
          all_goals go_meet
          all_goals exact ⟨by rw [HBAD.out] <;> rfl, rfl⟩
        | true =>
          rw [h3] at HBAD
          have WK := Lib.hid (show ∀ W : World, Calls Try.prog 38 #[.int .i64 clock, .int .i64 0, .int .i64 36000000000] W fun e w' => e = .returned (.bool true) ∧ W = w' from fun W => h3 ▸ rwithin_R clock 0 36000000000 W)
          go_wp2_with (first | (go_at_call 38; (with_reducible refine (WC.out _).mono ?_); rintro e w' ⟨rfl, rfl⟩) | (go_at_call 38; (with_reducible refine (WI.out _).mono ?_); rintro e w' ⟨rfl, rfl⟩) | (go_at_call 38; (with_reducible refine (WK.out _).mono ?_); rintro e w' ⟨rfl, rfl⟩) | fail)
          all_goals go_meet
          all_goals exact ⟨by rw [HBAD.out] <;> rfl, rfl⟩
  case rest =>
    obtain ⟨rfl, rfl⟩ := hcut
    cases bad
    rotate_left
    · have HV := Lib.hid (HFB1.out rfl)
      have HV2 := Lib.hid (HR0.out (by rw [HV.out]; decide))
      clear HFG1 HFZ HR0 HR1 HS HZ1 HCY1 HFB1
      go_wp2_with fail
      exact bodyPost_ret (v := .tuple #[.int .i64 0, .int .i64 1]) (by simp [results, Try.results17, go_sem]) rfl ⟨by rw [HV.out, HV2.out], HB2.out⟩
    · have hF := HFG1.out rfl
      have HRV := Lib.hid (HR1.out hF)
      obtain ⟨_, ⟨n0, n1⟩, ⟨i0, i1⟩, k0, k1⟩ := HFZ.out hF
      obtain ⟨hf, _, _, _, hcy, ⟨hwd0, hwd1⟩, ⟨s0, s1⟩, hl, hall, h6, h7e⟩ := HZ1.out
      obtain ⟨⟨c0, c1⟩, h7⟩ := HCY1.out
      subst hF
      obtain ⟨d0, d1⟩ := whD_range c0 c1 n0 n1
      obtain ⟨y0, y1⟩ := whN_range back (whY (cycle + sumS l) spread index count clock) (show 0 < whD (cycle + sumS l) count by omega)
      have HOK := Lib.hid (wvP_ok (form := form) (width := width) (l := l) (c := (cycle + sumS l)) (pn := whN back (whY (cycle + sumS l) spread index count clock) (whD (cycle + sumS l) count)) (pd := whD (cycle + sumS l) count) (pk := whY (cycle + sumS l) spread index count clock / whD (cycle + sumS l) count) (index := index) hf h7 hall y0 y1 d0 (by omega))
      have C4 := Lib.hid (rway_any form low high cycle width spread back rel ao cap l index count clock _ _ _ _ wc hf (HS.out wc HB2.out) hl hall hcy h6 h7e rfl c0 c1 n0 n1 i0 (by omega) k0 (by omega) s0 s1 hwd0 hwd1 rfl rfl rfl)
      clear d0 d1 y0 y1 n0 n1 i0 i1 k0 k1 hf hcy hwd0 hwd1 s0 s1 hl hall h6 h7e c0 c1 h7 HFB1 HFG1 HFZ HR0 HR1 HZ1 HCY1 HS
      generalize wvP form width l (cycle + sumS l) (whN back (whY (cycle + sumS l) spread index count clock) (whD (cycle + sumS l) count)) (whD (cycle + sumS l) count) (whY (cycle + sumS l) spread index count clock / whD (cycle + sumS l) count) index = wv at *
      have q0 := HT2.out.cell (i := 0) rfl
      have q1 := HT2.out.cell (i := 1) rfl
      have q2 := HT2.out.cell (i := 2) rfl
      have q3 := HT2.out.cell (i := 3) rfl
      have q4 := HT2.out.cell (i := 4) rfl
      have q5 := HT2.out.cell (i := 5) rfl
      have q6 := HT2.out.cell (i := 6) rfl
      have q7 := HT2.out.cell (i := 7) rfl
      have q8 := HT2.out.cell (i := 8) rfl
      have ql := HT2.out.lt
      go_wp2_with fail
      refine C4.out.mono ?_
      rintro e w5 ⟨v5, P, D, rfl, hq5, hrat, hb5⟩
      have HB5 := Lib.hid (HB2.out.trans (hb5.mono HB2.out.size))
      have HQ5 := Lib.hid hq5
      obtain ⟨hr1, hr2⟩ := way_rnd (show 0 < D by obtain ⟨p, d, _, _, g1, g2, _⟩ := hq5; omega) HOK.out hrat
      have HRN := Lib.hid hr1
      have HRB := Lib.hid hr2
      clear hq5 hb5 hrat hr1 hr2 C4 HOK q0 q1 q2 q3 q4 q5 q6 q7 q8 ql HT2 HB2
      go_wp2_with fail
      refine (wholeS 65535 5 _ (by omega) (by omega) (by decide)).mono ?_
      rintro e w6 ⟨v6, rfl, hq6, hb6⟩
      have HB6 := Lib.hid (HB5.out.trans (hb6.mono HB5.out.size))
      have HQ56 := Lib.hid (HQ5.out.up hb6)
      have HQ6 := Lib.hid hq6
      clear hq6 hb6 HB5 HQ5
      go_wp2_with fail
      refine ((timesS _ _ _ 130 130 5 0 _ _ _ _ w6 (Nat.le_refl _) (by omega) (by omega) HQ56.out HQ6.out).mono (fun _ _ h => newS_cast (P' := P * 65535) (D' := D) h rfl (Nat.mul_one _))).mono ?_
      rintro e w7 ⟨v7, rfl, hq7, hb7⟩
      have HB7 := Lib.hid (HB6.out.trans (hb7.mono HB6.out.size))
      have HQ7 := Lib.hid hq7
      clear hq7 hb7 HB6 HQ56 HQ6
      go_wp2_with fail
      refine (roundS _ _ _ _ _ _ w7 (Nat.le_refl _) (by omega) (by omega) (Nat.le_trans HRB.out (by omega)) HQ7.out).mono ?_
      rintro e w8 ⟨rfl, hb8⟩
      have HB8 := Lib.hid (HB7.out.trans (hb8.mono HB7.out.size))
      rw [HRN.out, ← HRV.out]
      clear hb8 HB7 HQ7 HRN HRB HRV
      go_wp2_with fail
      exact bodyPost_ret (v := .tuple #[.int .i64 RS, .int .i64 0]) (by simp [results, Try.results17, go_sem]) rfl ⟨rfl, HB8.out⟩
end Go.Proofs.Ytopmdeefcjdadaa

namespace Go.Proofs.Ytopmdeefcjdadaa.effectWaysMatchSpec
open Go.RowKit
set_option linter.unusedVariables false
set_option linter.unusedSimpArgs false

set_option maxRecDepth 100000 in
set_option maxHeartbeats 8000000 in
theorem walk (v : Value) (index count clock : Int) (w : World) (hv : EfV w v) (g1 : (Lit.int .i64 index).wf = true) (g2 : (Lit.int .i64 count).wf = true) (g3 : (Lit.int .i64 clock).wf = true) :
    Calls Try.prog 5 #[v, .int .i64 index, .int .i64 count, .int .i64 clock] w fun e w' => e = .returned (.bool true) ∧ Below w.heap.size w w' := by
  obtain ⟨⟨form, low, high, cycle, width, spread, back, rel, l⟩, sv, rfl, ⟨ao, cap, rfl, hmax, hs⟩, _⟩ := hv
  show Calls Try.prog 5 #[.agg #[.int .i64 form, .int .i64 low, .int .i64 high, .int .i64 cycle, .int .i64 width, .int .i64 spread, .bool back, .bool rel, .slice ao l.length cap], .int .i64 index, .int .i64 count, .int .i64 clock] w fun e w' => e = .returned (.bool true) ∧ Below w.heap.size w w'
  have HA := Lib.hid (fun (W : World) (hb : Below w.heap.size w W) => Way_any form low high cycle width spread back rel ao cap l index count clock W (stepsAt_up hs hb) hmax)
  have HR := Lib.hid (fun (W : World) (hb : Below w.heap.size w W) => rWay_any form low high cycle width spread back rel ao cap l index count clock W (stepsAt_up hs hb) hmax)
  generalize wayRes form cycle width spread back l (chkF form low high cycle width spread l) index count clock = RA at *
  generalize wayFlt (chkF form low high cycle width spread l) index count clock = FA at *
  have HT := Lib.hid (show TBox (w.alloc (.cells #[.int .i64 form, .int .i64 low, .int .i64 high, .int .i64 cycle, .int .i64 width, .int .i64 spread, .bool back, .bool rel, .slice ao l.length cap] 24)) w.heap.size 24 #[.int .i64 form, .int .i64 low, .int .i64 high, .int .i64 cycle, .int .i64 width, .int .i64 spread, .bool back, .bool rel, .slice ao l.length cap] from TBox.new w _ _)
  have HB := Lib.hid (show Below w.heap.size w (w.alloc (.cells #[.int .i64 form, .int .i64 low, .int .i64 high, .int .i64 cycle, .int .i64 width, .int .i64 spread, .bool back, .bool rel, .slice ao l.length cap] 24)) from (Below.refl _ _).alloc (Nat.le_refl _) _)
  clear hs hmax g1 g2 g3
  go_enter Try.func5, Try.ntmps5
  go_upto_region 1 with fail
  generalize hw0 : (w.alloc (.cells #[.int .i64 form, .int .i64 low, .int .i64 high, .int .i64 cycle, .int .i64 width, .int .i64 spread, .bool back, .bool rel, .slice ao l.length cap] 24)) = w1 at *
  clear hw0
  have q0 := HT.out.cell (i := 0) rfl
  have q1 := HT.out.cell (i := 1) rfl
  have q2 := HT.out.cell (i := 2) rfl
  have q3 := HT.out.cell (i := 3) rfl
  have q4 := HT.out.cell (i := 4) rfl
  have q5 := HT.out.cell (i := 5) rfl
  have q6 := HT.out.cell (i := 6) rfl
  have q7 := HT.out.cell (i := 7) rfl
  have q8 := HT.out.cell (i := 8) rfl
  have ql := HT.out.lt
  have C1 := Lib.hid (HA.out w1 HB.out)
  go_wp2_with fail
  refine C1.out.mono ?_
  rintro e w2 ⟨rfl, hb2⟩
  have HT2 := Lib.hid (HT.out.below hb2)
  have HB2 := Lib.hid (HB.out.trans (hb2.mono HB.out.size))
  clear hb2 C1 HA q0 q1 q2 q3 q4 q5 q6 q7 q8 ql HT HB
  have q0 := HT2.out.cell (i := 0) rfl
  have q1 := HT2.out.cell (i := 1) rfl
  have q2 := HT2.out.cell (i := 2) rfl
  have q3 := HT2.out.cell (i := 3) rfl
  have q4 := HT2.out.cell (i := 4) rfl
  have q5 := HT2.out.cell (i := 5) rfl
  have q6 := HT2.out.cell (i := 6) rfl
  have q7 := HT2.out.cell (i := 7) rfl
  have q8 := HT2.out.cell (i := 8) rfl
  have ql := HT2.out.lt
  have C2 := Lib.hid (HR.out w2 HB2.out)
  go_wp2_with fail
  refine C2.out.mono ?_
  rintro e w3 ⟨rfl, hb3⟩
  have HB3 := Lib.hid (HB2.out.trans (hb3.mono HB2.out.size))
  clear hb3 C2 HR q0 q1 q2 q3 q4 q5 q6 q7 q8 ql HT2 HB2
  go_wp2_with fail
  go_ret
  exact ⟨by first | rfl | simp, HB3.out⟩
end Go.Proofs.Ytopmdeefcjdadaa.effectWaysMatchSpec
