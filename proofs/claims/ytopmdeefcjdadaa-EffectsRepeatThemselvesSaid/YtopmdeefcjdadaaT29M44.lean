/- The walk of cycloramalaw7.EffectsRepeatThemselves: for every effect, place, count and time it returns true. (printed by wip/gen/gen_repeat.py) -/
import Derived.Test.YtopmdeefcjdadaaT29M13
import Derived.Test.YtopmdeefcjdadaaT29M43

namespace Go.Proofs.Ytopmdeefcjdadaa.effectsRepeatThemselves
open Go.RowKit
set_option linter.unusedVariables false
set_option linter.unusedSimpArgs false

/-- one cycle later the way is the same one, where it does not go by the number of the cycle -/
theorem way_again {form width c spread index count clock : Int} {back : Bool} {l : List Stp} (h6 : form ≠ 6) :
    wvP form width l c (whN back (whY c spread index count (clock + 100 * c)) (whD c count)) (whD c count) (whY c spread index count (clock + 100 * c) / whD c count) index = wvP form width l c (whN back (whY c spread index count clock) (whD c count)) (whD c count) (whY c spread index count clock / whD c count) index := by
  have e : whY c spread index count (clock + 100 * c) = whY c spread index count clock + whD c count := by unfold whY whD; grind
  have e2 : whN back (whY c spread index count clock + whD c count) (whD c count) = whN back (whY c spread index count clock) (whD c count) := by
    unfold whN
    simp
  rw [e, e2]
  unfold wvP
  simp [h6]
theorem res_again {form cycle width spread index count clock c k : Int} {back : Bool} {l : List Stp} (h6 : form ≠ 6) (hcc : cycle + sumS l = c) (c0 : 1 ≤ c) (c1 : c ≤ 3600000) (hA : wayFlt k index count clock = 0) (hB : wayFlt k index count (wrap64 (clock + wrap64 (100 * c))) = 0) : wayRes form cycle width spread back l k index count clock = wayRes form cycle width spread back l k index count (wrap64 (clock + wrap64 (100 * c))) := by
  obtain ⟨_, _, _, k0, k1⟩ := wayFlt_zero hA
  have e1 : wrap64 (100 * c) = 100 * c := by unfold wrap64; omega
  have e2 : wrap64 (clock + wrap64 (100 * c)) = clock + 100 * c := by rw [e1]; unfold wrap64; omega
  rw [e2] at hB ⊢
  unfold wayRes
  rw [if_pos hA, if_pos hB, hcc, way_again h6]

set_option maxRecDepth 100000 in
set_option maxHeartbeats 8000000 in
theorem walk (v : Value) (index count clock : Int) (w : World) (hv : EfV w v) (g1 : (Lit.int .i64 index).wf = true) (g2 : (Lit.int .i64 count).wf = true) (g3 : (Lit.int .i64 clock).wf = true) :
    Calls Try.prog 6 #[v, .int .i64 index, .int .i64 count, .int .i64 clock] w fun e w' => e = .returned (.bool true) ∧ Below w.heap.size w w' := by
  obtain ⟨⟨form, low, high, cycle, width, spread, back, rel, l⟩, sv, rfl, ⟨ao, cap, rfl, hmax, hs⟩, _⟩ := hv
  show Calls Try.prog 6 #[.agg #[.int .i64 form, .int .i64 low, .int .i64 high, .int .i64 cycle, .int .i64 width, .int .i64 spread, .bool back, .bool rel, .slice ao l.length cap], .int .i64 index, .int .i64 count, .int .i64 clock] w fun e w' => e = .returned (.bool true) ∧ Below w.heap.size w w'
  have HP := Lib.hid (fun (W : World) (hb : Below w.heap.size w W) => efPeriod_any form low high cycle width spread back rel ao cap l W (stepsAt_up hs hb) hmax)
  have HWY := Lib.hid (fun (W : World) (hb : Below w.heap.size w W) cl => Way_any form low high cycle width spread back rel ao cap l index count cl W (stepsAt_up hs hb) hmax)
  have HCY := Lib.hid (fun (h : chkF form low high cycle width spread l = 0) => (cyc_range h).1)
  have HRA := Lib.hid (fun (h : chkF form low high cycle width spread l = 0) => @res_again form cycle width spread index count clock (cycle + sumS l) (chkF form low high cycle width spread l) back l)
  generalize chkF form low high cycle width spread l = k at *
  have HRZ := Lib.hid (show ¬ wayFlt k index count clock = 0 → wayRes form cycle width spread back l k index count clock = 0 from fun h => if_neg h)
  have HPZ := Lib.hid (@perZ_ k form)
  have HPV := Lib.hid (show perV_ (perF_ k form) (cycle + sumS l) = if perF_ k form = 0 then cycle + sumS l else 0 from rfl)
  generalize perV_ (perF_ k form) (cycle + sumS l) = pv at *
  generalize perF_ k form = pf at *
  generalize hc : cycle + sumS l = c at *
  have HC := Lib.hid hc
  clear hc
  have HT := Lib.hid (show TBox (w.alloc (.cells #[.int .i64 form, .int .i64 low, .int .i64 high, .int .i64 cycle, .int .i64 width, .int .i64 spread, .bool back, .bool rel, .slice ao l.length cap] 24)) w.heap.size 24 #[.int .i64 form, .int .i64 low, .int .i64 high, .int .i64 cycle, .int .i64 width, .int .i64 spread, .bool back, .bool rel, .slice ao l.length cap] from TBox.new w _ _)
  have HB := Lib.hid (show Below w.heap.size w (w.alloc (.cells #[.int .i64 form, .int .i64 low, .int .i64 high, .int .i64 cycle, .int .i64 width, .int .i64 spread, .bool back, .bool rel, .slice ao l.length cap] 24)) from (Below.refl _ _).alloc (Nat.le_refl _) _)
  clear hs hmax g1 g2 g3
  go_enter Try.func6, Try.ntmps6
  go_upto_region 1 with fail
  generalize hw0 : (w.alloc (.cells #[.int .i64 form, .int .i64 low, .int .i64 high, .int .i64 cycle, .int .i64 width, .int .i64 spread, .bool back, .bool rel, .slice ao l.length cap] 24)) = w1 at *
  clear hw0
  have q0 := HT.out.cell (i := 0) rfl
  have q1 := HT.out.cell (i := 1) rfl
  have q2 := HT.out.cell (i := 2) rfl
  have q3 := HT.out.cell (i := 3) rfl
  have q4 := HT.out.cell (i := 4) rfl
  have q5 := HT.out.cell (i := 5) rfl
  have q6 := HT.out.cell (i := 6) rfl
  have q7 := HT.out.cell (i := 7) rfl
  have q8 := HT.out.cell (i := 8) rfl
  have ql := HT.out.lt
  have C1 := Lib.hid (HP.out w1 HB.out)
  go_wp2_with fail
  refine C1.out.mono ?_
  rintro e w2 ⟨rfl, hb2⟩
  have HT2 := Lib.hid (HT.out.below hb2)
  have HB2 := Lib.hid (HB.out.trans (hb2.mono HB.out.size))
  clear hb2 C1 HP q0 q1 q2 q3 q4 q5 q6 q7 q8 ql HT HB
  by_cases hF : pf = 0
  · have hpv : pv = c := by rw [HPV.out, if_pos hF]
    obtain ⟨hk, h6⟩ := HPZ.out hF
    obtain ⟨c0, c1⟩ := HCY.out hk
    have HRB := Lib.hid (HRA.out hk h6 (by first | trivial | exact HC.out) c0 c1)
    have hlt : ¬ c < 1 := by omega
    subst hF
    subst hpv
    clear HRA HPZ HPV HCY hk h6 c0 c1 HC
    have CA := Lib.hid (HWY.out w2 HB2.out clock)
    have CB := Lib.hid (fun (W : World) (hb : Below w.heap.size w W) => HWY.out W hb (wrap64 (clock + wrap64 (100 * pv))))
    clear HWY
    generalize wayRes form cycle width spread back l k index count clock = RA at *
    generalize wayFlt k index count clock = FA at *
    generalize wayRes form cycle width spread back l k index count (wrap64 (clock + wrap64 (100 * pv))) = RB at *
    generalize wayFlt k index count (wrap64 (clock + wrap64 (100 * pv))) = FB at *
    have q0 := HT2.out.cell (i := 0) rfl
    have q1 := HT2.out.cell (i := 1) rfl
    have q2 := HT2.out.cell (i := 2) rfl
    have q3 := HT2.out.cell (i := 3) rfl
    have q4 := HT2.out.cell (i := 4) rfl
    have q5 := HT2.out.cell (i := 5) rfl
    have q6 := HT2.out.cell (i := 6) rfl
    have q7 := HT2.out.cell (i := 7) rfl
    have q8 := HT2.out.cell (i := 8) rfl
    have ql := HT2.out.lt
    go_wp2_with fail
    refine CA.out.mono ?_
    rintro e w3 ⟨rfl, hb3⟩
    have HT3 := Lib.hid (HT2.out.below hb3)
    have HB3 := Lib.hid (HB2.out.trans (hb3.mono HB2.out.size))
    clear hb3 CA q0 q1 q2 q3 q4 q5 q6 q7 q8 ql HT2 HB2
    have q0 := HT3.out.cell (i := 0) rfl
    have q1 := HT3.out.cell (i := 1) rfl
    have q2 := HT3.out.cell (i := 2) rfl
    have q3 := HT3.out.cell (i := 3) rfl
    have q4 := HT3.out.cell (i := 4) rfl
    have q5 := HT3.out.cell (i := 5) rfl
    have q6 := HT3.out.cell (i := 6) rfl
    have q7 := HT3.out.cell (i := 7) rfl
    have q8 := HT3.out.cell (i := 8) rfl
    have ql := HT3.out.lt
    go_wp2_with fail
    refine (CB.out w3 HB3.out).mono ?_
    rintro e w4 ⟨rfl, hb4⟩
    have HB4 := Lib.hid (HB3.out.trans (hb4.mono HB3.out.size))
    clear hb4 CB q0 q1 q2 q3 q4 q5 q6 q7 q8 ql HT3 HB3
    by_cases hA : FA = 0
    · subst hA
      by_cases hB : FB = 0
      · have hE := HRB.out rfl hB
        subst hB
        subst hE
        clear HRB HRZ
        go_wp2_with fail
        go_ret
        exact ⟨rfl, HB4.out⟩
      · have hb : (FB != 0) = true := by simp [hB]
        clear HRB HRZ
        go_wp2_with fail
        go_ret
        exact ⟨rfl, HB4.out⟩
    · have hE := HRZ.out hA
      subst hE
      have hb : (FA != 0) = true := by simp [hA]
      have hb2 : (FA == 0) = false := by simp [hA]
      clear HRB HRZ
      go_wp2_with fail
      go_ret
      exact ⟨rfl, HB4.out⟩
  · have hpv : pv = 0 := by rw [HPV.out, if_neg hF]
    subst hpv
    have hb : (pf != 0) = true := by simp [hF]
    clear HRA HPZ HPV HCY HWY HRZ HC HT2
    go_wp2_with fail
    go_ret
    exact ⟨rfl, HB2.out⟩
end Go.Proofs.Ytopmdeefcjdadaa.effectsRepeatThemselves
