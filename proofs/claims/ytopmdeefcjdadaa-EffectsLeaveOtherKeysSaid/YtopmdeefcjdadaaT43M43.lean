/- effect.Apply. (printed by wip/gen/gen_apply.py) -/
import Derived.Test.YtopmdeefcjdadaaT43M41
import Derived.Test.YtopmdeefcjdadaaT43M42
import Derived.Test.YtopmdeefcjdadaaT43M16

namespace Go.Proofs.Ytopmdeefcjdadaa
open Go.RowKit
set_option linter.unusedVariables false
set_option linter.unusedSimpArgs false

set_option maxRecDepth 100000 in
set_option maxHeartbeats 32000000 in
theorem Apply_any (r : Rig) (lv uv : Value) (xs : List Run) (xv : Value) (l : List Stg) (bv : Value) (t : Int) (w : World) (h : RigAt w.heap.size w r lv uv) (hrf : RigFit r) (hX : RunsS w.heap.size w xv xs) (hXf : ∀ x ∈ xs, RunFit x) (hS : StgS w.heap.size w bv l) (hSf : ∀ s ∈ l, StgFit s) :
    Calls Try.prog 20 #[rigV lv uv, xv, bv, .int .i64 t] w fun e w' => ∃ v, e = .returned (.tuple #[v, .int .i64 (aplF r xs l t)]) ∧ OwnS w.heap.size w' v (aplV r xs l t) ∧ Below w.heap.size w w' := by
  have CR := Lib.hid (fun W (hb : Below w.heap.size w W) => ckRig_any r lv uv W ((h.below hb).more hb.size) hrf)
  have CD := Lib.hid (fun W (hb : Below w.heap.size w W) hz => defaults_any r lv uv W ((h.below hb).more hb.size) hrf hz)
  have CB := Lib.hid (fun W (hb : Below w.heap.size w W) mb m (hM : HasM W mb m (dfO r)) => checkBase_any r l bv mb m W hM ((hS.below hb).more hb.size) hSf)
  have CP := Lib.hid (fun W (hb : Below w.heap.size w W) (hl : l.length ≤ 16000) => stgs_copy bv l W hl ((hS.below hb).more hb.size))
  have HG := Lib.hid (StgS.get hS)
  have hml := CellsS.len hS
  unfold maxLen at hml
  have HSF := Lib.hid hSf
  have HXG := Lib.hid (RunsS.get hX)
  have HXF := Lib.hid hXf
  have HF := Lib.hid (show aplF r xs l t = if fi2 (chkRig r) (whenW (decide (100 < xs.length)) 2) ≠ 0 then fi2 (chkRig r) (whenW (decide (100 < xs.length)) 2) else if runsF r xs ≠ 0 then runsF r xs else fi2 (chkStgs r l) (whenW (!inR t 0 36000000) 1) from rfl)
  have HZ := Lib.hid (aplF_zero (r := r) (xs := xs) (base := l) (t := t))
  have HV0 := Lib.hid (show aplF r xs l t ≠ 0 → aplV r xs l t = [] from fun h => by unfold aplV; rw [if_neg h])
  have HV1 := Lib.hid (show aplF r xs l t = 0 → aplV r xs l t = applyL r xs l t from fun h => by unfold aplV; rw [if_pos h])
  have HE0 := Lib.hid (show fi2 (chkRig r) (whenW (decide (100 < xs.length)) 2) = 0 → chkRig r = 0 ∧ xs.length ≤ 100 from fun h => by
    unfold fi2 at h
    by_cases c : chkRig r = 0
    · rw [if_pos c] at h
      unfold whenW at h
      by_cases d : 100 < xs.length
      · simp [d] at h
      · exact ⟨c, by omega⟩
    · rw [if_neg c] at h; exact absurd h c)
  generalize aplF r xs l t = FF at *
  generalize aplV r xs l t = VV at *
  obtain ⟨E0, hE0⟩ : ∃ e, fi2 (chkRig r) (whenW (decide (100 < xs.length)) 2) = e := ⟨_, rfl⟩
  rw [hE0] at HF HE0
  have HEQ0 := Lib.hid hE0
  obtain ⟨E3, hE3⟩ : ∃ e, fi2 (chkStgs r l) (whenW (!inR t 0 36000000) 1) = e := ⟨_, rfl⟩
  rw [hE3] at HF
  have HEQ3 := Lib.hid hE3
  obtain ⟨RF, hRF⟩ : ∃ e, runsF r xs = e := ⟨_, rfl⟩
  have HRF := Lib.hid (show RF = runsF r (xs.drop 0) by rw [List.drop_zero, hRF])
  rw [hRF] at HF
  obtain ⟨xo, xcap, rfl, hxm⟩ := hX.shape
  unfold maxLen at hxm
  have hq1 : decide ((xs.length : Int) > 100) = decide (100 < xs.length) := by congr 1; exact propext ⟨fun h => by omega, fun h => by omega⟩
  obtain ⟨uo, ucap, rfl, _⟩ := CellsS.shape h.units
  obtain ⟨lo, lcap, rfl⟩ := prfS_shape h.lib
  obtain ⟨bo, bcap, rfl, _⟩ := CellsS.shape hS
  generalize hll : r.lib.length = ll at *
  generalize hul : r.units.length = ul at *
  clear h hrf hX hXf hS hSf hE0 hE3 hRF hll hul
  unfold rigV at *
  have HG1 := Lib.hid (TBox.new w #[.slice lo ll lcap, .slice uo ul ucap] 42)
  have HB1 := Lib.hid ((Below.refl w.heap.size w).alloc (Nat.le_refl _) (.cells #[.slice lo ll lcap, .slice uo ul ucap] 42))
  go_enter Try.func20, Try.ntmps20
  go_upto_region 1 with fail
  generalize hw1 : w.alloc (.cells #[.slice lo ll lcap, .slice uo ul ucap] 42) = w1 at *
  clear hw1
  go_cut [10] (fun s wx => s = .int .i64 E0 ∧ Below w1.heap.size w1 wx)
  case first =>
    have q0 := HG1.out.cell (i := 0) rfl
    have q1 := HG1.out.cell (i := 1) rfl
    have ql := HG1.out.lt
    go_wp2_with fail
    refine (CR.out _ HB1.out).mono ?_
    rintro e w2 ⟨rfl, hb⟩
    have HB2 := Lib.hid hb
    clear hb q0 q1 ql
    go_wp2_with (first | (go_at_call 29; (with_reducible refine (eTime_R _ _).mono ?_); rintro e w' ⟨rfl, rfl⟩) | (go_at_call 28; (with_reducible refine (when_R _ _ _).mono ?_); rintro e w' ⟨rfl, rfl⟩) | (go_at_call 26; refine (first_2 _ (chkRig r) (whenW (decide (100 < xs.length)) 2) _ (by simp [go_sem, hq1]) (by simp [go_sem, hq1])).mono ?_; rintro e w' ⟨rfl, rfl⟩) | fail)
    go_meet
    exact ⟨by rw [← HEQ0.out], HB2.out.alloc HB2.out.size _⟩
  case rest =>
    obtain ⟨rfl, hb⟩ := hcut
    obtain ⟨w2, rfl⟩ : ∃ x, x = wc := ⟨wc, rfl⟩
    have HG2 := Lib.hid (HG1.out.below hb)
    have HB2 := Lib.hid (HB1.out.trans (hb.mono HB1.out.size))
    clear hb HG1 HB1 CR HEQ0
    by_cases he0 : E0 = 0
    rotate_left
    · have HE := Lib.hid (show FF = E0 by rw [HF.out, if_pos he0])
      have HVV := Lib.hid (HV0.out (by rw [HE.out]; exact he0))
      have hnb : (E0 != 0) = true := by simp [he0]
      clear HF HZ HV0 HV1 CD CB CP HXG HG HSF HXF HRF HEQ3
      go_wp2_with fail
      exact bodyPost_ret (v := .tuple #[.slice none 0 0, .int .i64 E0]) (by simp [results, Try.results20, go_sem]) rfl ⟨.slice none 0 0, by rw [HE.out] <;> rfl, by rw [HVV.out]; exact OwnS.nil _ _, HB2.out⟩
    obtain ⟨hcr0, hx100⟩ := HE0.out he0
    have HFX := Lib.hid (show FF = if RF ≠ 0 then RF else E3 by rw [HF.out, if_neg (by simpa using he0)])
    have CDX := Lib.hid (CD.out w2 HB2.out hcr0)
    have HCR := Lib.hid hcr0
    subst he0
    clear HF CD HE0 hcr0
    have q0 := HG2.out.cell (i := 0) rfl
    have q1 := HG2.out.cell (i := 1) rfl
    have ql := HG2.out.lt
    go_wp2_with fail
    refine CDX.out.mono ?_
    rintro e w3 ⟨mb, rfl, hmb, hM, hb⟩
    clear q0 q1 ql CDX HG2
    obtain ⟨tb, htb⟩ : ∃ n, w3.heap.size = n := ⟨_, rfl⟩
    have HB4 := Lib.hid ((HB2.out.trans (hb.mono HB2.out.size)).alloc (Nat.le_trans HB2.out.size hb.size) (.cells #[.map (some mb)] 94))
    have HT4 := Lib.hid (show TBox (w3.alloc (.cells #[.map (some mb)] 94)) tb 94 #[.map (some mb)] from htb ▸ TBox.new w3 _ _)
    have HM4 := Lib.hid (hM.alloc (.cells #[.map (some mb)] 94))
    have HMB := Lib.hid (show w.heap.size ≤ mb ∧ mb < tb from ⟨Nat.le_trans HB2.out.size hmb, by have := hM.lt; omega⟩)
    clear hb hM hmb HB2
    go_upto_region 5 with fail
    clear htb
    generalize w3.alloc (.cells #[.map (some mb)] 94) = w4 at *
    go_wp2_with fail
    go_loopw [41] (fun i wx => ∃ k : Nat, k ≤ xs.length ∧ i = .int .i64 k ∧ Hid (RF = runsF r (xs.drop k)) ∧ Hid (TBox wx tb 94 #[.map (some mb)]) ∧ Hid (Below w.heap.size w wx) ∧ Hid (HasM wx mb 16000 (dfO r))) (fun i _ => xs.length - (intOf i).toNat)
    case atStart => exact ⟨0, Nat.zero_le _, rfl, HRF, HT4, HB4, HM4⟩
    case round =>
      clear HT4 HB4 HM4 HRF
      obtain ⟨k, hk, rfl, HRF, HT, HB, HM⟩ := hrel
      by_cases hlt : k < xs.length
      · have HST := Lib.hid (HRF.out.trans (runsF_step r xs k hlt))
        obtain ⟨b, off, cap', hsl, hbb, hgc⟩ := HXG.out (by omega)
        injection hsl with hs1 hs2 hs3
        subst hs1 hs3
        obtain ⟨sv, kv, rv, hra, hcr0⟩ := hgc k hlt
        have hcr : ∀ W, Below w.heap.size w W → ∀ j u, j < 15 → (runC ⟨xs[k], sv, kv, rv⟩)[j]? = some u → W.cell? ⟨b, off + k * 15 + j, none⟩ = some u := hcr0
        have hfit := HXF.out _ (List.getElem_mem hlt)
        obtain ⟨so, scap, ko, kcap, ro, rcap, rfl, rfl, rfl⟩ := runAt_shape hra
        have hbr : b < wr.heap.size := by have := HB.out.size; omega

        have CK := Lib.hid (fun W (hb : Below w.heap.size w W) (hM : HasM W mb 16000 (dfO r)) => check_has r xs[k] _ _ _ mb 16000 W hM ((hra.below hb).more hb.size) hfit)
        have d0 := hcr wr HB.out 0 _ (by omega) rfl
        have d1 := hcr wr HB.out 1 _ (by omega) rfl
        have d2 := hcr wr HB.out 2 _ (by omega) rfl
        have d3 := hcr wr HB.out 3 _ (by omega) rfl
        have d4 := hcr wr HB.out 4 _ (by omega) rfl
        have d5 := hcr wr HB.out 5 _ (by omega) rfl
        have d6 := hcr wr HB.out 6 _ (by omega) rfl
        have d7 := hcr wr HB.out 7 _ (by omega) rfl
        have d8 := hcr wr HB.out 8 _ (by omega) rfl
        have d9 := hcr wr HB.out 9 _ (by omega) rfl
        have d10 := hcr wr HB.out 10 _ (by omega) rfl
        have d11 := hcr wr HB.out 11 _ (by omega) rfl
        have d12 := hcr wr HB.out 12 _ (by omega) rfl
        have d13 := hcr wr HB.out 13 _ (by omega) rfl
        have d14 := hcr wr HB.out 14 _ (by omega) rfl
        simp only [Nat.add_zero] at d0
        clear hgc hcr hcr0 hra hfit
        generalize chkRunR r xs[k] = CV at *
        generalize hxk : xs[k] = xk at *
        clear hxk
        obtain ⟨⟨form, low, high, cycle, width, spread, back, rel, st⟩, keys, start, rates, tin, tend, tout⟩ := xk
        unfold runV at CK
        simp only at *
        generalize st.length = sl at *
        generalize keys.length = kl at *
        generalize rates.length = rl at *
        have HX1 := Lib.hid (TBox.new wr #[.int .i64 form, .int .i64 low, .int .i64 high, .int .i64 cycle, .int .i64 width, .int .i64 spread, .bool back, .bool rel, .slice so sl scap, .slice ko kl kcap, .int .i64 start, .slice ro rl rcap, .int .i64 tin, .int .i64 tend, .int .i64 tout] 28)
        have HT1 := Lib.hid (HT.out.alloc (.cells #[.int .i64 form, .int .i64 low, .int .i64 high, .int .i64 cycle, .int .i64 width, .int .i64 spread, .bool back, .bool rel, .slice so sl scap, .slice ko kl kcap, .int .i64 start, .slice ro rl rcap, .int .i64 tin, .int .i64 tend, .int .i64 tout] 28))
        have HBY := Lib.hid (HB.out.alloc HB.out.size (.cells #[.int .i64 form, .int .i64 low, .int .i64 high, .int .i64 cycle, .int .i64 width, .int .i64 spread, .bool back, .bool rel, .slice so sl scap, .slice ko kl kcap, .int .i64 start, .slice ro rl rcap, .int .i64 tin, .int .i64 tend, .int .i64 tout] 28))
        have HM1 := Lib.hid (HM.out.alloc (.cells #[.int .i64 form, .int .i64 low, .int .i64 high, .int .i64 cycle, .int .i64 width, .int .i64 spread, .bool back, .bool rel, .slice so sl scap, .slice ko kl kcap, .int .i64 start, .slice ro rl rcap, .int .i64 tin, .int .i64 tend, .int .i64 tout] 28))
        have CX := Lib.hid (CK.out _ HBY.out HM1.out)
        go_upto_region 8 with fail
        clear d0 d1 d2 d3 d4 d5 d6 d7 d8 d9 d10 d11 d12 d13 d14 CK
        generalize hwa : wr.alloc (.cells #[.int .i64 form, .int .i64 low, .int .i64 high, .int .i64 cycle, .int .i64 width, .int .i64 spread, .bool back, .bool rel, .slice so sl scap, .slice ko kl kcap, .int .i64 start, .slice ro rl rcap, .int .i64 tin, .int .i64 tend, .int .i64 tout] 28) = wa at *
        clear hwa
        have q0 := HX1.out.cell (i := 0) rfl
        have q1 := HX1.out.cell (i := 1) rfl
        have q2 := HX1.out.cell (i := 2) rfl
        have q3 := HX1.out.cell (i := 3) rfl
        have q4 := HX1.out.cell (i := 4) rfl
        have q5 := HX1.out.cell (i := 5) rfl
        have q6 := HX1.out.cell (i := 6) rfl
        have q7 := HX1.out.cell (i := 7) rfl
        have q8 := HX1.out.cell (i := 8) rfl
        have q9 := HX1.out.cell (i := 9) rfl
        have q10 := HX1.out.cell (i := 10) rfl
        have q11 := HX1.out.cell (i := 11) rfl
        have q12 := HX1.out.cell (i := 12) rfl
        have q13 := HX1.out.cell (i := 13) rfl
        have q14 := HX1.out.cell (i := 14) rfl
        have ql := HX1.out.lt
        have p0 := HT1.out.cell (i := 0) rfl
        have pl := HT1.out.lt
        go_wp2_with fail
        refine CX.out.mono ?_
        rintro e w5 ⟨rfl, hb⟩
        have HT5 := Lib.hid (HT1.out.below hb)
        have HB5 := Lib.hid (HBY.out.trans (hb.mono HBY.out.size))
        have HM5 := Lib.hid (HM1.out.below hb)
        clear hb CX q0 q1 q2 q3 q4 q5 q6 q7 q8 q9 q10 q11 q12 q13 q14 ql p0 pl HT HB HM HT1 HBY HM1 HX1
        by_cases hcv : CV = 0
        · have HRN := Lib.hid (show RF = runsF r (xs.drop (k + 1)) by rw [HST.out, if_neg (by simpa using hcv)])
          subst hcv
          go_wp2_with fail
          go_roundw
          case rel => exact ⟨k + 1, by omega, by first | rfl | go_num, HRN, HT5, HB5, HM5⟩
          case measure => simp [intOf]; omega
        · have HRV := Lib.hid (show RF = CV by rw [HST.out, if_pos hcv])
          have HE := Lib.hid (show FF = CV by rw [HFX.out, HRV.out, if_pos hcv])
          have HVV := Lib.hid (HV0.out (by rw [HE.out]; exact hcv))
          have hnb : (CV != 0) = true := by simp [hcv]
          go_wp2_with fail
          exact bodyPost_ret (v := .tuple #[.slice none 0 0, .int .i64 CV]) (by simp [results, Try.results20, go_sem]) rfl ⟨.slice none 0 0, by rw [HE.out] <;> rfl, by rw [HVV.out]; exact OwnS.nil _ _, HB5.out⟩
      · have hrf0 : RF = 0 := by rw [HRF.out, List.drop_of_length_le (by omega)]; rfl
        have HFY := Lib.hid (show FF = E3 by rw [HFX.out, hrf0]; rfl)
        clear HFX HRF hrf0
        have CBX := Lib.hid (CB.out wr HB.out mb 16000 HM.out)
        go_upto_region 12 with fail
        clear hk hlt
        go_cut [15] (fun s wx => s = .int .i64 E3 ∧ Below wr.heap.size wr wx)
        case first =>
          have p0 := HT.out.cell (i := 0) rfl
          have pl := HT.out.lt
          go_wp2_with fail
          refine CBX.out.mono ?_
          rintro e w5 ⟨rfl, hb⟩
          have HB5 := Lib.hid hb
          clear hb p0 pl
          go_wp2_with (first | (go_at_call 29; (with_reducible refine (eTime_R _ _).mono ?_); rintro e w' ⟨rfl, rfl⟩) | (go_at_call 28; (with_reducible refine (when_R _ _ _).mono ?_); rintro e w' ⟨rfl, rfl⟩) | (go_at_call 26; refine (first_2 _ (chkStgs r l) (whenW (!inR t 0 36000000) 1) _ (by simp [go_sem, hq1]) (by simp [go_sem, hq1])).mono ?_; rintro e w' ⟨rfl, rfl⟩) | fail)
          go_meet
          exact ⟨by rw [← HEQ3.out], HB5.out.alloc HB5.out.size _⟩
        case rest =>
          obtain ⟨rfl, hb⟩ := hcut
          obtain ⟨w5, rfl⟩ : ∃ x, x = wc := ⟨wc, rfl⟩
          have HT5 := Lib.hid (HT.out.below hb)
          have HB5 := Lib.hid (HB.out.trans (hb.mono HB.out.size))
          have HM5 := Lib.hid (HM.out.below hb)
          clear hb HT HB HM CBX CB HEQ3
          by_cases he3 : E3 = 0
          rotate_left
          · have HVV := Lib.hid (HV0.out (by rw [HFY.out]; exact he3))
            have hnb : (E3 != 0) = true := by simp [he3]
            go_wp2_with fail
            exact bodyPost_ret (v := .tuple #[.slice none 0 0, .int .i64 E3]) (by simp [results, Try.results20, go_sem]) rfl ⟨.slice none 0 0, by rw [HFY.out] <;> rfl, by rw [HVV.out]; exact OwnS.nil _ _, HB5.out⟩
          have HVV := Lib.hid (HV1.out (by rw [HFY.out]; exact he3))
          obtain ⟨_, _, hzr, hzb, t0, t1⟩ := HZ.out (by rw [HFY.out]; exact he3)
          have HFZ := Lib.hid (show FF = 0 by rw [HFY.out]; exact he3)
          have HOK0 := Lib.hid (outOk_base hzb)
          have HRU := Lib.hid (runsF_zero hzr)
          have hl16 := HOK0.out.few HCR.out
          have CPX := Lib.hid (CP.out w5 HB5.out hl16)
          subst he3
          clear HV0 HV1 HZ HFY CP hzr hzb
          go_wp2_with fail
          refine CPX.out.mono ?_
          rintro e w6 ⟨ov, rfl, hO, hb⟩
          have HT6 := Lib.hid ((HT5.out.below hb).alloc (.map #[] 0))
          have HB6 := Lib.hid ((HB5.out.trans (hb.mono HB5.out.size)).alloc (Nat.le_trans HB5.out.size hb.size) (.map #[] 0))
          have HM6 := Lib.hid (show HasM (w6.alloc (.map #[] 0)) mb (16000 + 0) (levO r (l.take 0)) from ((HM5.out.below hb).alloc _).cast (fun key _ => by rw [List.take_zero]; rfl))
          obtain ⟨ma, hma⟩ : ∃ n, w6.heap.size = n := ⟨_, rfl⟩
          have HA6 := Lib.hid (show HasM (w6.alloc (.map #[] 0)) ma 0 (atI (l.take 0)) from (hma ▸ hasM_made w6).cast (fun key _ => by rw [List.take_zero]; rfl))
          have HO6 := Lib.hid ((OwnS.lower hO HB5.out.size).below ((Below.refl _ _).alloc (Nat.le_refl _) (.map #[] 0)))
          have HMA := Lib.hid (show tb < ma ∧ w.heap.size ≤ ma from ⟨by have := HT5.out.lt; have := hb.size; omega, by have := HB5.out.size; have := hb.size; omega⟩)
          clear hb hO HT5 HB5 HM5 CPX
          obtain ⟨oa, oc, rfl⟩ := HO6.out.shape
          have hmm := @run_makeMap Try.prog
          go_upto_region 17 with fail
          clear hmm hma
          generalize w6.alloc (.map #[] 0) = w7 at *
          go_wp2_with fail
          go_loopw [69] (fun i wx => ∃ k : Nat, k ≤ l.length ∧ i = .int .i64 k ∧ Hid (TBox wx tb 94 #[.map (some mb)]) ∧ Hid (Below w.heap.size w wx) ∧ Hid (HasM wx mb (16000 + k) (levO r (l.take k))) ∧ Hid (HasM wx ma k (atI (l.take k))) ∧ Hid (OwnS w.heap.size wx (.slice oa l.length oc) l)) (fun i _ => l.length - (intOf i).toNat)
          case atStart => exact ⟨0, Nat.zero_le _, rfl, HT6, HB6, HM6, HA6, HO6⟩
          case round =>
            clear HT6 HB6 HM6 HA6 HO6
            obtain ⟨k, hk, rfl, HT, HB, HM, HA, HO⟩ := hrel
            by_cases hlt : k < l.length
            · obtain ⟨b, off, cap', hsl, hbb, _, hc⟩ := HG.out (by omega)
              injection hsl with hs1 hs2 hs3
              subst hs1 hs3
              obtain ⟨d0, d1, d2⟩ := hc k hlt wr HB.out
              have hbr : b < wr.heap.size := by have := HB.out.size; omega
              have hfit := HSF.out _ (List.getElem_mem hlt)
              have HKK := Lib.hid (keyS_fit hfit)
              have HST := Lib.hid (levO_step r hlt)
              have HSA := Lib.hid (atI_step HOK0.out.once hlt)
              have hkv : l[k].k = (l[k].unit, l[k].par) := rfl
              rw [hkv] at HKK HST HSA
              clear hkv hfit hc
              generalize hrk : l[k] = rk at *
              clear hrk
              obtain ⟨su, sp, sv2⟩ := rk
              simp only at *
              obtain ⟨sb, hsb⟩ : ∃ n, wr.heap.size = n := ⟨_, rfl⟩
              have HSB := Lib.hid (show TBox (wr.alloc (.cells #[.int .i64 su, .string sp, .int .i64 sv2] 49)) sb 49 #[.int .i64 su, .string sp, .int .i64 sv2] from hsb ▸ TBox.new wr _ _)
              have HSBL := Lib.hid (show ma < sb ∧ tb < sb from ⟨by have := HA.out.lt; omega, by have := HT.out.lt; omega⟩)
              have HT1 := Lib.hid (HT.out.alloc (.cells #[.int .i64 su, .string sp, .int .i64 sv2] 49))
              have HB1 := Lib.hid (HB.out.alloc HB.out.size (.cells #[.int .i64 su, .string sp, .int .i64 sv2] 49))
              have HM1 := Lib.hid (HM.out.alloc (.cells #[.int .i64 su, .string sp, .int .i64 sv2] 49))
              have HA1 := Lib.hid (HA.out.alloc (.cells #[.int .i64 su, .string sp, .int .i64 sv2] 49))
              have HO1 := Lib.hid (HO.out.below ((Below.refl _ _).alloc (Nat.le_refl _) (.cells #[.int .i64 su, .string sp, .int .i64 sv2] 49)))
              clear HT HB HM HA HO
              go_upto_region 20 with fail
              clear hsb d0 d1 d2
              generalize wr.alloc (.cells #[.int .i64 su, .string sp, .int .i64 sv2] 49) = wa at *
              have KS := Lib.hid (show ∀ W, TBox W tb 94 #[.map (some mb)] → TBox W sb 49 #[.int .i64 su, .string sp, .int .i64 sv2] → (W.cell? ⟨tb, 0, none⟩ = some (.map (some mb)) ∧ W.cell? ⟨sb, 0, none⟩ = some (.int .i64 su) ∧ W.cell? ⟨sb, 1, none⟩ = some (.string sp) ∧ W.cell? ⟨sb, 2, none⟩ = some (.int .i64 sv2)) from fun W h k => ⟨h.cell (i := 0) rfl, k.cell (i := 0) rfl, k.cell (i := 1) rfl, k.cell (i := 2) rfl⟩)
              have hdr : Below wa.heap.size wa wa.drew := (Below.refl _ _).drew
              have hMd := HM1.out.below hdr
              obtain ⟨W1, hu1, hM1, hg1⟩ := hMd.put HKK.out sv2 (by unfold maxLen; omega)
              have hne : ma ≠ mb := by have := HMA.out; have := HMB.out; omega
              have hsbl := HSBL.out
              have hA1 := (HA1.out.below hdr).gro hg1 hne
              have hT1 := (HT1.out.below hdr).gro hg1 (show tb ≠ mb by have := HMB.out; omega)
              have hS1 := (HSB.out.below hdr).gro hg1 (show sb ≠ mb by have := HMB.out; omega)
              obtain ⟨W2, hu2, hA2, hg2⟩ := hA1.put HKK.out k (by unfold maxLen; omega)
              refine wp_region_held_drew (S := (fun W => W.cell? ⟨tb, 0, none⟩ = some (.map (some mb)) ∧ W.cell? ⟨sb, 0, none⟩ = some (.int .i64 su) ∧ W.cell? ⟨sb, 1, none⟩ = some (.string sp) ∧ W.cell? ⟨sb, 2, none⟩ = some (.int .i64 sv2))) (by kernel_rfl) (by exact KS.out _ (HT1.out.below hdr) (HSB.out.below hdr)) (fun hHeld => ?_)
              refine wpAnyH_take (i := 0) (oi := _) (v := ?_) rfl (by kernel_rfl) (by kernel_rfl) (by kernel_rfl) (fun _ _ _ h => h) (Or.inl ⟨by rfl, ?_⟩) (by assumption) ?_
              rotate_left
              · (intro w hSw; (try dsimp only at hSw); go_simp <;> with_reducible rfl)
              try simp only [Act.put, List.getElem_toArray, List.getElem_cons_zero, List.getElem_cons_succ, List.setIfInBounds_toArray, List.set_cons_zero, List.set_cons_succ]
              refine wpAnyH_take (i := 1) (oi := _) (v := ?_) rfl (by kernel_rfl) (by kernel_rfl) (by kernel_rfl) (fun _ _ _ h => h) (Or.inl ⟨by rfl, ?_⟩) (by assumption) ?_
              rotate_left
              · (intro w hSw; (try dsimp only at hSw); go_simp <;> with_reducible rfl)
              try simp only [Act.put, List.getElem_toArray, List.getElem_cons_zero, List.getElem_cons_succ, List.setIfInBounds_toArray, List.set_cons_zero, List.set_cons_succ]
              refine wpAnyH_take (i := 2) (oi := _) (v := ?_) rfl (by kernel_rfl) (by kernel_rfl) (by kernel_rfl) (fun _ _ _ h => h) (Or.inl ⟨by rfl, ?_⟩) (by assumption) ?_
              rotate_left
              · (intro w hSw; (try dsimp only at hSw); go_simp <;> with_reducible rfl)
              try simp only [Act.put, List.getElem_toArray, List.getElem_cons_zero, List.getElem_cons_succ, List.setIfInBounds_toArray, List.set_cons_zero, List.set_cons_succ]
              refine wpAnyH_take (i := 3) (oi := _) (v := ?_) rfl (by kernel_rfl) (by kernel_rfl) (by kernel_rfl) (fun _ _ _ h => h) (Or.inl ⟨by rfl, ?_⟩) (by assumption) ?_
              rotate_left
              · (intro w hSw; (try dsimp only at hSw); go_simp <;> with_reducible rfl)
              try simp only [Act.put, List.getElem_toArray, List.getElem_cons_zero, List.getElem_cons_succ, List.setIfInBounds_toArray, List.set_cons_zero, List.set_cons_succ]
              refine wpAnyH_take (i := 4) (oi := _) (v := ?_) rfl (by kernel_rfl) (by kernel_rfl) (by kernel_rfl) (fun _ _ _ h => h) (Or.inl ⟨by rfl, ?_⟩) (by assumption) ?_
              rotate_left
              · (intro w hSw; (try dsimp only at hSw); go_simp <;> with_reducible rfl)
              try simp only [Act.put, List.getElem_toArray, List.getElem_cons_zero, List.getElem_cons_succ, List.setIfInBounds_toArray, List.set_cons_zero, List.set_cons_succ]
              refine wpAnyH_take (i := 5) (oi := _) (v := ?_) rfl (by kernel_rfl) (by kernel_rfl) (by kernel_rfl) (fun _ _ _ h => h) (Or.inl ⟨by rfl, ?_⟩) (by assumption) ?_
              rotate_left
              · (intro w hSw; (try dsimp only at hSw); go_simp <;> with_reducible rfl)
              try simp only [Act.put, List.getElem_toArray, List.getElem_cons_zero, List.getElem_cons_succ, List.setIfInBounds_toArray, List.set_cons_zero, List.set_cons_succ]
              refine wpAnyH_take (i := 6) (oi := _) (v := ?_) rfl (by kernel_rfl) (by kernel_rfl) (by kernel_rfl) (fun _ _ _ h => h) (Or.inl ⟨by rfl, ?_⟩) (by assumption) ?_
              rotate_left
              · (intro w hSw; (try dsimp only at hSw); go_simp <;> with_reducible rfl)
              try simp only [Act.put, List.getElem_toArray, List.getElem_cons_zero, List.getElem_cons_succ, List.setIfInBounds_toArray, List.set_cons_zero, List.set_cons_succ]
              refine wpAnyH_take (i := 7) (oi := _) (v := ?_) rfl (by kernel_rfl) (by kernel_rfl) (by kernel_rfl) (fun _ _ _ h => h) (Or.inl ⟨by rfl, ?_⟩) (by assumption) ?_
              rotate_left
              · (intro w hSw; (try dsimp only at hSw); go_simp <;> with_reducible rfl)
              try simp only [Act.put, List.getElem_toArray, List.getElem_cons_zero, List.getElem_cons_succ, List.setIfInBounds_toArray, List.set_cons_zero, List.set_cons_succ]
              refine wpAnyH_take (i := 8) (oi := _) (v := ?_) rfl (by kernel_rfl) (by kernel_rfl) (by kernel_rfl) (fun _ _ _ h => h) (Or.inl ⟨by rfl, ?_⟩) (by assumption) ?_
              rotate_left
              · (intro w hSw; (try dsimp only at hSw); go_simp <;> with_reducible rfl)
              try simp only [Act.put, List.getElem_toArray, List.getElem_cons_zero, List.getElem_cons_succ, List.setIfInBounds_toArray, List.set_cons_zero, List.set_cons_succ]
              refine wpAnyH_ready (rs := [9]) (by kernel_rfl) (by simp) (AllReadyH.cons rfl (fun K hK => ?_) AllReadyH.nil)
              go_simp
              (try go_wp2_with fail)
              refine hK.out _ _ (KS.out _ hT1 hS1) (fun hHeld => ?_)
              clear hK K
              try simp only [Act.put, List.getElem_toArray, List.getElem_cons_zero, List.getElem_cons_succ, List.setIfInBounds_toArray, List.set_cons_zero, List.set_cons_succ]
              refine wpAnyH_ready (rs := [10]) (by kernel_rfl) (by simp) (AllReadyH.cons rfl (fun K hK => ?_) AllReadyH.nil)
              go_simp
              (try go_wp2_with fail)
              refine hK.out _ _ (KS.out _ (hT1.gro hg2 (by have := HMA.out; omega)) (hS1.gro hg2 (by have := HMA.out; omega))) (fun hHeld => ?_)
              clear hK K
              try simp only [Act.put, List.getElem_toArray, List.getElem_cons_zero, List.getElem_cons_succ, List.setIfInBounds_toArray, List.set_cons_zero, List.set_cons_succ]
              refine wpAnyH_done (by kernel_rfl) ?_ _
              have HMZ := Lib.hid ((hM1.gro hg2 (Ne.symm hne)).cast (fun key _ => HST.out key))
              have HAZ := Lib.hid (hA2.cast (fun key _ => HSA.out key))
              have HTZ := Lib.hid (hT1.gro hg2 (by have := HMA.out; omega))
              have HBW : Below w.heap.size w wa.drew := HB1.out.drew
              have HBZ := Lib.hid (below_gro (below_gro HBW hg1 HBW.size HMB.out.1) hg2 (Nat.le_trans HBW.size hg1.size) HMA.out.2)
              have HOZ := Lib.hid (((HO1.out.below hdr).map hMd hg1).map hA1 hg2)
              clear hM1 hg1 hA1 hA2 hg2 HM1 HA1 HT1 HB1 HO1 HSB HST HSA HBW hne hT1 hS1 hMd hdr KS hHeld
              go_wp2_with fail
              go_roundw
              case rel => exact ⟨k + 1, by omega, by first | rfl | go_num, HTZ, HBZ, HMZ, HAZ, HOZ⟩
              case measure => simp [intOf]; omega
            · have hkk : k = l.length := by omega
              subst hkk
              rw [List.take_length] at HM HA
              obtain ⟨LF, hLF⟩ : ∃ f : Nat → List Stg, (fun k => applyL r (xs.take k) l t) = f := ⟨_, rfl⟩
              have HL0 := Lib.hid (show LF 0 = l by rw [← hLF]; simp only [List.take_zero]; rfl)
              have HLE := Lib.hid (show LF xs.length = VV by rw [← hLF, HVV.out]; simp only [List.take_length])
              have HLS := Lib.hid (show ∀ k (h : k < xs.length), LF (k + 1) = (runSets xs[k] t (levV r (LF k))).foldl putS (LF k) from fun k h => by rw [← hLF]; exact applyL_step r xs l t k h)
              have HLO := Lib.hid (show ∀ k, OutOk r (LF k) from fun k => by rw [← hLF]; exact applyL_ok _ _ HOK0.out (fun x hx => HRU.out x (List.mem_of_mem_take hx)))
              clear hLF HVV
              have HO7 := Lib.hid (show OwnS w.heap.size wr (.slice oa l.length oc) (LF 0) by rw [HL0.out]; exact HO.out)
              have HM7 := Lib.hid (show HasM wr mb (32000 + 400 * 0) (levO r (LF 0)) by rw [HL0.out]; exact HM.out.more (by omega))
              have HA7 := Lib.hid (show HasM wr ma (16000 + 400 * 0) (atI (LF 0)) by rw [HL0.out]; exact HA.out.more (by omega))
              clear HM HA HO
              have hxi : (xs.length : Int) ≤ 100 := by omega
              go_wp2_with fail
              go_loopw [16, 86] (fun ov i wx => ∃ (k : Nat) (o : Value), k ≤ xs.length ∧ i = .int .i64 k ∧ o = ov ∧ Hid (OwnS w.heap.size wx o (LF k)) ∧ Hid (TBox wx tb 94 #[.map (some mb)]) ∧ Hid (Below w.heap.size w wx) ∧ Hid (HasM wx mb (32000 + 400 * k) (levO r (LF k))) ∧ Hid (HasM wx ma (16000 + 400 * k) (atI (LF k)))) (fun _ i _ => xs.length - (intOf i).toNat)
              case atStart => exact ⟨0, _, Nat.zero_le _, rfl, rfl, HO7, HT, HB, HM7, HA7⟩
              case round =>
                clear HO7 HT HB HM7 HA7 HL0
                obtain ⟨k, ov, hk, rfl, rfl, HO, HT, HB, HM, HA⟩ := hrel
                by_cases hlt : k < xs.length
                · have HLX := Lib.hid (HLS.out k hlt)
                  have HOK := Lib.hid (HLO.out k)
                  obtain ⟨b, off, cap', hsl, hbb, hgc⟩ := HXG.out (by omega)
                  injection hsl with hs1 hs2 hs3
                  subst hs1 hs3
                  obtain ⟨sv, kv, rv, hra, hcr0⟩ := hgc k hlt
                  have hcr : ∀ W, Below w.heap.size w W → ∀ j u, j < 15 → (runC ⟨xs[k], sv, kv, rv⟩)[j]? = some u → W.cell? ⟨b, off + k * 15 + j, none⟩ = some u := hcr0
                  have hfit := HXF.out _ (List.getElem_mem hlt)
                  obtain ⟨so, scap, ko, kcap, ro, rcap, rfl, rfl, rfl⟩ := runAt_shape hra
                  have hbr : b < wr.heap.size := by have := HB.out.size; omega

                  have hzx := HRU.out _ (List.getElem_mem hlt)
                  have HRS := Lib.hid (fun s hs => runSets_ok hzx (t := t) (lev := levV r (LF k)) (s := s) hs)
                  have HRL := Lib.hid (runSets_few hzx (t := t) (lev := levV r (LF k)))
                  have HKM := Lib.hid (fun s (hs : s ∈ runSets xs[k] t (levV r (LF k))) => hfit.2.1 _ (runSets_key hs))
                  have CS := Lib.hid (fun W (hb : Below w.heap.size w W) (hT : TBox W tb 94 #[.map (some mb)]) (hM : HasM W mb (32000 + 400 * k) (levO r (LF k))) => apSets_any r xs[k] _ _ _ t 62 (.pointer (some ⟨tb, 0, none⟩)) (levV r (LF k)) W ((hra.below hb).more hb.size) hfit hzx t0 t1 aplFn_call (fun u s W2 hin hb2 => aplFn_any u s tb mb (32000 + 400 * k) (levO r (LF k)) W2 (hT.below hb2) (hM.below hb2) (hfit.2.1 _ hin)) (fun key _ => levV_range HCR.out HOK.out.levs key))
                  have d0 := hcr wr HB.out 0 _ (by omega) rfl
                  have d1 := hcr wr HB.out 1 _ (by omega) rfl
                  have d2 := hcr wr HB.out 2 _ (by omega) rfl
                  have d3 := hcr wr HB.out 3 _ (by omega) rfl
                  have d4 := hcr wr HB.out 4 _ (by omega) rfl
                  have d5 := hcr wr HB.out 5 _ (by omega) rfl
                  have d6 := hcr wr HB.out 6 _ (by omega) rfl
                  have d7 := hcr wr HB.out 7 _ (by omega) rfl
                  have d8 := hcr wr HB.out 8 _ (by omega) rfl
                  have d9 := hcr wr HB.out 9 _ (by omega) rfl
                  have d10 := hcr wr HB.out 10 _ (by omega) rfl
                  have d11 := hcr wr HB.out 11 _ (by omega) rfl
                  have d12 := hcr wr HB.out 12 _ (by omega) rfl
                  have d13 := hcr wr HB.out 13 _ (by omega) rfl
                  have d14 := hcr wr HB.out 14 _ (by omega) rfl
                  simp only [Nat.add_zero] at d0
                  clear hgc hcr hcr0 hra hfit hzx
                  generalize runSets xs[k] t (levV r (LF k)) = M at *
                  generalize hxk : xs[k] = xk at *
                  clear hxk
                  obtain ⟨⟨form, low, high, cycle, width, spread, back, rel, st⟩, keys, start, rates, tin, tend, tout⟩ := xk
                  unfold runV at CS
                  simp only at *
                  generalize st.length = sl at *
                  generalize keys.length = kl at *
                  generalize rates.length = rl at *
                  have HX1 := Lib.hid (TBox.new wr #[.int .i64 form, .int .i64 low, .int .i64 high, .int .i64 cycle, .int .i64 width, .int .i64 spread, .bool back, .bool rel, .slice so sl scap, .slice ko kl kcap, .int .i64 start, .slice ro rl rcap, .int .i64 tin, .int .i64 tend, .int .i64 tout] 28)
                  have HT1 := Lib.hid (HT.out.alloc (.cells #[.int .i64 form, .int .i64 low, .int .i64 high, .int .i64 cycle, .int .i64 width, .int .i64 spread, .bool back, .bool rel, .slice so sl scap, .slice ko kl kcap, .int .i64 start, .slice ro rl rcap, .int .i64 tin, .int .i64 tend, .int .i64 tout] 28))
                  have HBY := Lib.hid (HB.out.alloc HB.out.size (.cells #[.int .i64 form, .int .i64 low, .int .i64 high, .int .i64 cycle, .int .i64 width, .int .i64 spread, .bool back, .bool rel, .slice so sl scap, .slice ko kl kcap, .int .i64 start, .slice ro rl rcap, .int .i64 tin, .int .i64 tend, .int .i64 tout] 28))
                  have HM1 := Lib.hid (HM.out.alloc (.cells #[.int .i64 form, .int .i64 low, .int .i64 high, .int .i64 cycle, .int .i64 width, .int .i64 spread, .bool back, .bool rel, .slice so sl scap, .slice ko kl kcap, .int .i64 start, .slice ro rl rcap, .int .i64 tin, .int .i64 tend, .int .i64 tout] 28))
                  have HA1 := Lib.hid (HA.out.alloc (.cells #[.int .i64 form, .int .i64 low, .int .i64 high, .int .i64 cycle, .int .i64 width, .int .i64 spread, .bool back, .bool rel, .slice so sl scap, .slice ko kl kcap, .int .i64 start, .slice ro rl rcap, .int .i64 tin, .int .i64 tend, .int .i64 tout] 28))
                  have HO1 := Lib.hid (HO.out.below ((Below.refl _ _).alloc (Nat.le_refl _) (.cells #[.int .i64 form, .int .i64 low, .int .i64 high, .int .i64 cycle, .int .i64 width, .int .i64 spread, .bool back, .bool rel, .slice so sl scap, .slice ko kl kcap, .int .i64 start, .slice ro rl rcap, .int .i64 tin, .int .i64 tend, .int .i64 tout] 28)))
                  have CX := Lib.hid (CS.out _ HBY.out HT1.out HM1.out)
                  have HOB := Lib.hid (show ∀ g, ov.ownBlock = some g → g < (wr.alloc (.cells #[.int .i64 form, .int .i64 low, .int .i64 high, .int .i64 cycle, .int .i64 width, .int .i64 spread, .bool back, .bool rel, .slice so sl scap, .slice ko kl kcap, .int .i64 start, .slice ro rl rcap, .int .i64 tin, .int .i64 tend, .int .i64 tout] 28)).heap.size from fun g hg => (World.ownsRow.lt HO1.out g hg).2)
                  clear CS HT HB HM HA HO
                  obtain ⟨oa2, oc2, hov⟩ := HO1.out.shape
                  subst hov
                  go_upto_region 25 with fail
                  clear d0 d1 d2 d3 d4 d5 d6 d7 d8 d9 d10 d11 d12 d13 d14
                  generalize hwa : wr.alloc (.cells #[.int .i64 form, .int .i64 low, .int .i64 high, .int .i64 cycle, .int .i64 width, .int .i64 spread, .bool back, .bool rel, .slice so sl scap, .slice ko kl kcap, .int .i64 start, .slice ro rl rcap, .int .i64 tin, .int .i64 tend, .int .i64 tout] 28) = wa at *
                  clear hwa
                  have q0 := HX1.out.cell (i := 0) rfl
                  have q1 := HX1.out.cell (i := 1) rfl
                  have q2 := HX1.out.cell (i := 2) rfl
                  have q3 := HX1.out.cell (i := 3) rfl
                  have q4 := HX1.out.cell (i := 4) rfl
                  have q5 := HX1.out.cell (i := 5) rfl
                  have q6 := HX1.out.cell (i := 6) rfl
                  have q7 := HX1.out.cell (i := 7) rfl
                  have q8 := HX1.out.cell (i := 8) rfl
                  have q9 := HX1.out.cell (i := 9) rfl
                  have q10 := HX1.out.cell (i := 10) rfl
                  have q11 := HX1.out.cell (i := 11) rfl
                  have q12 := HX1.out.cell (i := 12) rfl
                  have q13 := HX1.out.cell (i := 13) rfl
                  have q14 := HX1.out.cell (i := 14) rfl
                  have ql := HX1.out.lt
                  go_wp2_with fail
                  refine CX.out.mono ?_
                  rintro e w8 ⟨v2, rfl, hv2, hb⟩
                  obtain ⟨B1, hB1⟩ : ∃ n, wa.heap.size = n := ⟨_, rfl⟩
                  obtain ⟨V1, hV1⟩ : ∃ n, w8.heap.size = n := ⟨_, rfl⟩
                  have HT8 := Lib.hid (HT1.out.below hb)
                  have HB8 := Lib.hid (HBY.out.trans (hb.mono HBY.out.size))
                  have HM8 := Lib.hid (show HasM w8 mb (32000 + 400 * k + 0) (levO r ((M.take 0).foldl putS (LF k))) by rw [List.take_zero]; exact HM1.out.below hb)
                  have HA8 := Lib.hid (show HasM w8 ma (16000 + 400 * k + 0) (atI ((M.take 0).foldl putS (LF k))) by rw [List.take_zero]; exact HA1.out.below hb)
                  have HO8 := Lib.hid (show OwnS w.heap.size w8 (.slice oa2 (LF k).length oc2) ((M.take 0).foldl putS (LF k)) by rw [List.take_zero]; exact HO1.out.below hb)
                  have HOB8 := Lib.hid (show ∀ g, (Value.slice oa2 (LF k).length oc2).ownBlock = some g → g < B1 ∨ V1 ≤ g from fun g hg => .inl (hB1 ▸ HOB.out g hg))
                  have HV2 := Lib.hid (show OwnS B1 w8 v2 M from hB1 ▸ hv2)
                  have HVB := Lib.hid (show ∀ g, v2.ownBlock = some g → B1 ≤ g ∧ g < V1 from fun g hg => by have := World.ownsRow.lt hv2 g hg; omega)
                  have HBV := Lib.hid (show w.heap.size ≤ B1 ∧ B1 ≤ V1 from ⟨by have := HBY.out.size; omega, by have := hb.size; omega⟩)
                  have HOJ := Lib.hid (show ∀ j, OutOk r ((M.take j).foldl putS (LF k)) from fun j => OutOk.puts _ _ HOK.out (fun s hs => HRS.out s (List.mem_of_mem_take hs)))
                  have HVS := Lib.hid (show V1 ≤ w8.heap.size by omega)
                  clear hb hv2 CX HT1 HBY HM1 HA1 HO1 HOB HX1 q0 q1 q2 q3 q4 q5 q6 q7 q8 q9 q10 q11 q12 q13 q14 ql hB1 hV1 HOK
                  obtain ⟨va, vc, hv2s⟩ := HV2.out.shape
                  subst hv2s
                  have hMl := HRL.out
                  go_wp2_with fail
                  go_loopw [16, 95] (fun ov i wx => ∃ (j : Nat) (o : Value), j ≤ M.length ∧ i = .int .i64 j ∧ o = ov ∧ Hid (OwnS w.heap.size wx o ((M.take j).foldl putS (LF k))) ∧ Hid (∀ g, o.ownBlock = some g → g < B1 ∨ V1 ≤ g) ∧ Hid (OwnS B1 wx (.slice va M.length vc) M) ∧ Hid (TBox wx tb 94 #[.map (some mb)]) ∧ Hid (Below w.heap.size w wx ∧ V1 ≤ wx.heap.size) ∧ Hid (HasM wx mb (32000 + 400 * k + j) (levO r ((M.take j).foldl putS (LF k)))) ∧ Hid (HasM wx ma (16000 + 400 * k + j) (atI ((M.take j).foldl putS (LF k))))) (fun _ i _ => M.length - (intOf i).toNat)
                  case atStart => exact ⟨0, _, Nat.zero_le _, rfl, rfl, HO8, HOB8, HV2, HT8, Lib.hid ⟨HB8.out, HVS.out⟩, HM8, HA8⟩
                  case round =>
                    clear HO8 HOB8 HV2 HT8 HB8 HM8 HA8
                    obtain ⟨j, ov, hj, rfl, rfl, HO, HOB, HV2, HT, HBB, HM, HA⟩ := hrel
                    by_cases hjl : j < M.length
                    · skip
                      have HSJ := Lib.hid (puts_step M (LF k) j hjl)
                      have HOKJ := Lib.hid (HOJ.out j)
                      have HJF := HOKJ.out.few HCR.out
                      have HKJ := Lib.hid (HKM.out _ (List.getElem_mem hjl))
                      obtain ⟨g2, cap2, cur2, hsl2, hg2b, hcur2, hcz2, hce2⟩ := HV2.out.get (by omega)
                      injection hsl2 with e1 e2 e3
                      subst e1 e3
                      obtain ⟨c0, c1, c2⟩ := hce2 j hjl
                      have d0 := hcur2.cell c0
                      have d1 := hcur2.cell c1
                      have d2 := hcur2.cell c2
                      have hbr : g2 < wr.heap.size := hcur2.lt
                      clear hcur2 hce2 c0 c1 c2
                      have hkv : M[j].k = (M[j].unit, M[j].par) := rfl
                      rw [hkv] at HKJ
                      clear hkv
                      generalize hrk : M[j] = rk at *
                      clear hrk
                      obtain ⟨su, sp, sv2⟩ := rk
                      simp only at *
                      generalize hLJ : (M.take j).foldl putS (LF k) = LJ at *
                      have hLJ2 := Lib.hid hLJ
                      clear hLJ
                      obtain ⟨LN, hLN⟩ : ∃ x, (M.take (j + 1)).foldl putS (LF k) = x := ⟨_, rfl⟩
                      have hLN2 := Lib.hid hLN
                      rw [hLN] at HSJ
                      clear hLN
                      obtain ⟨sb, hsb⟩ : ∃ n, wr.heap.size = n := ⟨_, rfl⟩
                      have HT1 := Lib.hid (HT.out.alloc (.cells #[.int .i64 su, .string sp, .int .i64 sv2] 49))
                      have HB1 := Lib.hid (show Below w.heap.size w (wr.alloc (.cells #[.int .i64 su, .string sp, .int .i64 sv2] 49)) ∧ V1 ≤ (wr.alloc (.cells #[.int .i64 su, .string sp, .int .i64 sv2] 49)).heap.size from ⟨HBB.out.1.alloc HBB.out.1.size (.cells #[.int .i64 su, .string sp, .int .i64 sv2] 49), by have := HBB.out.2; simp; omega⟩)
                      have HM1 := Lib.hid (HM.out.alloc (.cells #[.int .i64 su, .string sp, .int .i64 sv2] 49))
                      have HA1 := Lib.hid (HA.out.alloc (.cells #[.int .i64 su, .string sp, .int .i64 sv2] 49))
                      have HO1 := Lib.hid (HO.out.below ((Below.refl _ _).alloc (Nat.le_refl _) (.cells #[.int .i64 su, .string sp, .int .i64 sv2] 49)))
                      have HOW := HO
                      have hsb2 := hsb
                      have HV1 := Lib.hid (HV2.out.below ((Below.refl _ _).alloc (Nat.le_refl _) (.cells #[.int .i64 su, .string sp, .int .i64 sv2] 49)))
                      have HS1 := Lib.hid (show TBox (wr.alloc (.cells #[.int .i64 su, .string sp, .int .i64 sv2] 49)) sb 49 #[.int .i64 su, .string sp, .int .i64 sv2] from hsb ▸ TBox.new wr _ _)
                      have HSBL := Lib.hid (show mb < sb ∧ ma < sb ∧ tb < sb from ⟨by have := HM.out.lt; omega, by have := HA.out.lt; omega, by have := HT.out.lt; omega⟩)
                      clear HT HBB HM HA HV2 HO
                      have HSNE := Lib.hid (show ov.ownBlock ≠ some sb from fun e => by
                        obtain ⟨cs, fz, h1⟩ := HO1.out.block e
                        have := (World.ownsRow.lt HOW.out sb e).2
                        omega)
                      clear HOW
                      obtain ⟨oa4, oc4, hov⟩ := HO1.out.shape
                      subst hov
                      go_upto_region 28 with fail
                      clear d0 d1 d2 hsb
                      generalize hwb : wr.alloc (.cells #[.int .i64 su, .string sp, .int .i64 sv2] 49) = wb at *
                      clear hwb
                      obtain ⟨W1, hu1, hM1, hg1⟩ := HM1.out.put HKJ.out sv2 (by unfold maxLen; omega)
                      have hne : ma ≠ mb := by have := HMA.out; have := HMB.out; omega
                      have HAX := Lib.hid (HA1.out.gro hg1 hne)
                      have HTX := Lib.hid (HT1.out.gro hg1 (by have := HMB.out; omega))
                      have HSX := Lib.hid (HS1.out.gro hg1 (by have := HSBL.out; omega))
                      have HOX := Lib.hid (HO1.out.map HM1.out hg1)
                      have HVX := Lib.hid (HV1.out.map HM1.out hg1)
                      have HBX := Lib.hid (show Below w.heap.size w W1 ∧ V1 ≤ W1.heap.size from ⟨below_gro HB1.out.1 hg1 HB1.out.1.size HMB.out.1, Nat.le_trans HB1.out.2 hg1.size⟩)
                      have HLV := Lib.hid (show ∀ key, levO r LN key = putG (levO r LJ) (su, sp) sv2 key from fun key => by rw [HSJ.out, levO_put]; rfl)
                      have HMX := Lib.hid (hM1.cast (fun key _ => HLV.out key))
                      have p0 := HT1.out.cell (i := 0) rfl
                      have pl := HT1.out.lt
                      have k0 := HS1.out.cell (i := 0) rfl
                      have k1 := HS1.out.cell (i := 1) rfl
                      have k2 := HS1.out.cell (i := 2) rfl
                      have kl2 := HS1.out.lt
                      go_upto_region 29 with fail
                      clear p0 pl k0 k1 k2 kl2 hu1 hM1 hg1 HM1 HA1 HT1 HO1 HV1 HB1 HS1 HLV
                      obtain ⟨AO, hAO⟩ : ∃ x, atO LJ (su, sp) = x := ⟨_, rfl⟩
                      have hlk := HAX.out.look2 HKJ.out (o := Option.map (fun n : Nat => (n : Int)) AO) (by unfold atI; rw [hAO]; cases AO <;> rfl)
                      have k0 := HSX.out.cell (i := 0) rfl
                      have k1 := HSX.out.cell (i := 1) rfl
                      have k2 := HSX.out.cell (i := 2) rfl
                      have kl2 := HSX.out.lt
                      cases AO with
                      | some i =>
                        obtain ⟨hi, hik⟩ := atO_lt hAO
                        have HPUT := Lib.hid (show LN = LJ.set i ⟨su, sp, sv2⟩ by rw [HSJ.out]; exact putS_at HOKJ.out.once hAO)
                        have HAT := Lib.hid (show ∀ key, atI LN key = atI LJ key from fun key => by rw [HSJ.out]; exact atI_old HOKJ.out.once (s := ⟨su, sp, sv2⟩) hAO key)
                        simp only [Option.map_some, Option.getD_some, Option.isSome_some] at hlk
                        have HOBX := HOB
                        clear hik hAO
                        obtain ⟨g, cap, cur, hsl, hgb, hcur, hcz, _⟩ := HOX.out.get (by omega)
                        injection hsl with e1 _ e3
                        subst e1 e3
                        have s0 : W1.cell? ⟨g, i * 3, none⟩ = some (cur[i * 3]'(by omega)) := hcur.cell (Array.getElem?_eq_getElem (by omega))
                        have s1 : W1.cell? ⟨g, i * 3 + 1, none⟩ = some (cur[i * 3 + 1]'(by omega)) := hcur.cell (Array.getElem?_eq_getElem (by omega))
                        have s2 : W1.cell? ⟨g, i * 3 + 2, none⟩ = some (cur[i * 3 + 2]'(by omega)) := hcur.cell (Array.getElem?_eq_getElem (by omega))
                        have f0 := hcur.frozen (i * 3)
                        have f1 := hcur.frozen (i * 3 + 1)
                        have f2 := hcur.frozen (i * 3 + 2)
                        have gl := hcur.lt
                        have hgs := gro_tr (gro_tr (gro1 W1 g (i * 3) (.int .i64 su)) (gro1 _ g (i * 3 + 1) (.string sp))) (gro1 _ g (i * 3 + 2) (.int .i64 sv2))
                        have HOZ := Lib.hid (HOX.out.put3 i (by omega) ⟨su, sp, sv2⟩)
                        have HMZ := Lib.hid (HMX.out.own HOX.out hgs)
                        have HAZ := Lib.hid (HAX.out.own HOX.out hgs)
                        have HTZ := Lib.hid ((Other.row HOX.out hgs).tbox HTX.out (by decide))
                        have HVZ := Lib.hid (HVX.out.kept hgs (by
                          by_cases c : (Value.slice (some ⟨g2, 0, none⟩) M.length vc).ownBlock = some g
                          · exfalso
                            have k1 := HVB.out g c
                            have k2 := HOBX.out g rfl
                            omega
                          · exact .inr c))
                        have HBZ := Lib.hid (show Below w.heap.size w _ ∧ V1 ≤ (_ : World).heap.size from ⟨HOX.out.keeps HBX.out.1 hgs (Nat.le_refl _) HBX.out.1.size, Nat.le_trans HBX.out.2 hgs.size⟩)
                        clear hcur hgs HMX HAX HTX HVX HBX
                        have HAY := Lib.hid (HAZ.out.cast (fun key _ => HAT.out key))
                        have HOY := Lib.hid (show OwnS w.heap.size _ (.slice (some ⟨g, 0, none⟩) LJ.length oc4) LN from HPUT.out ▸ HOZ.out)
                        have hii : (i : Int) < (LJ.length : Int) := by omega
                        go_wp2_with fail
                        exact ⟨⟨j + 1, _, by omega, by first | rfl | go_num, rfl, Lib.hid (by rw [hLN2.out]; exact HOY.out), HOBX, HVZ, HTZ, HBZ, Lib.hid (by rw [hLN2.out]; exact HMZ.out.more (by omega)), Lib.hid (by rw [hLN2.out]; exact HAY.out.more (by omega))⟩, by simp [intOf]; omega⟩
                      | none =>
                        have HPUT := Lib.hid (show LN = (LJ ++ [(⟨su, sp, sv2⟩ : Stg)]).set LJ.length (⟨su, sp, sv2⟩ : Stg) by rw [HSJ.out, set_last]; exact putS_new hAO)
                        have HAT := Lib.hid (show ∀ key, atI LN key = putG (atI LJ) (su, sp) (LJ.length : Int) key from fun key => by rw [HSJ.out]; exact atI_new HOKJ.out.once (s := ⟨su, sp, sv2⟩) hAO key)
                        simp only [Option.map_none, Option.getD_none, Option.isSome_none] at hlk
                        clear hAO
                        obtain ⟨W2, hu2, hA2, hg2⟩ := HAX.out.put HKJ.out (LJ.length : Int) (by unfold maxLen; omega)
                        have HAY := Lib.hid (hA2.cast (fun key _ => HAT.out key))
                        have HMY := Lib.hid (HMX.out.gro hg2 (Ne.symm hne))
                        have HTY := Lib.hid (HTX.out.gro hg2 (by have := HMA.out; omega))
                        have HSY := Lib.hid (HSX.out.gro hg2 (by have := HSBL.out; omega))
                        have HOY := Lib.hid (HOX.out.map HAX.out hg2)
                        have HVY := Lib.hid (HVX.out.map HAX.out hg2)
                        have HBY := Lib.hid (show Below w.heap.size w W2 ∧ V1 ≤ W2.heap.size from ⟨below_gro HBX.out.1 hg2 HBX.out.1.size HMA.out.2, Nat.le_trans HBX.out.2 hg2.size⟩)
                        go_upto_region 33 with fail
                        clear hlk hu2 hA2 hg2 HAX HMX HTX HSX HOX HVX HBX k0 k1 k2 kl2 HAT
                        have k0 := HSY.out.cell (i := 0) rfl
                        have k1 := HSY.out.cell (i := 1) rfl
                        have k2 := HSY.out.cell (i := 2) rfl
                        have kl2 := HSY.out.lt
                        have HOC := Lib.hid (HOY.out.below ((Below.refl _ _).alloc (Nat.le_refl _) (.cells #[.int .i64 su, .string sp, .int .i64 sv2] 49)))
                        have HBC := Lib.hid (show Below w.heap.size w (W2.alloc (.cells #[.int .i64 su, .string sp, .int .i64 sv2] 49)) ∧ V1 ≤ (W2.alloc (.cells #[.int .i64 su, .string sp, .int .i64 sv2] 49)).heap.size from ⟨HBY.out.1.alloc HBY.out.1.size (.cells #[.int .i64 su, .string sp, .int .i64 sv2] 49), by have := HBY.out.2; simp; omega⟩)
                        go_upto_region 34 with (first | (at_builtin; refine wpList_ownSw rfl _ _ rfl w.heap.size 1 _ LJ ⟨su, sp, sv2⟩ ⟨W2.heap.size, 0, none⟩ rfl rfl HOC.out (ownS_new W2 ⟨su, sp, sv2⟩ _) (by omega) HBC.out.1.size ?_; intro o3 W3 HO3 hg3 hwh) | fail)
                        clear k0 k1 k2 kl2
                        have HMX := Lib.hid ((HMY.out.alloc (.cells #[.int .i64 su, .string sp, .int .i64 sv2] 49)).own HOC.out hg3)
                        have HAX := Lib.hid ((HAY.out.alloc (.cells #[.int .i64 su, .string sp, .int .i64 sv2] 49)).own HOC.out hg3)
                        have HTX := Lib.hid ((Other.row HOC.out hg3).tbox (HTY.out.alloc (.cells #[.int .i64 su, .string sp, .int .i64 sv2] 49)) (by decide))
                        have HSZ := Lib.hid (show TBox W3 sb 49 #[.int .i64 su, .string sp, .int .i64 sv2] from (hg3.block sb (HSY.out.alloc (.cells #[.int .i64 su, .string sp, .int .i64 sv2] 49)).lt (by
                          intro e
                          have k1 := HOB.out sb e.symm
                          have k2 := (World.ownsRow.lt HOY.out sb e.symm).1
                          exact HSNE.out e.symm)).trans (HSY.out.alloc (.cells #[.int .i64 su, .string sp, .int .i64 sv2] 49)))
                        have HVX := Lib.hid ((HVY.out.below ((Below.refl _ _).alloc (Nat.le_refl _) (.cells #[.int .i64 su, .string sp, .int .i64 sv2] 49))).kept hg3 (by
                          by_cases c : (Value.slice (some ⟨g2, 0, none⟩) M.length vc).ownBlock = (Value.slice oa4 LJ.length oc4).ownBlock
                          · exfalso
                            have k1 := HVB.out g2 rfl
                            have k2 := HOB.out g2 c.symm
                            omega
                          · exact .inr c))
                        have HBX := Lib.hid (show Below w.heap.size w W3 ∧ V1 ≤ W3.heap.size from ⟨HOC.out.keeps HBC.out.1 hg3 (Nat.le_refl _) HBC.out.1.size, Nat.le_trans HBC.out.2 hg3.size⟩)
                        have HOBX := Lib.hid (show ∀ g, o3.ownBlock = some g → g < B1 ∨ V1 ≤ g from fun g hg => by
                          rcases hwh g hg with h1 | h1
                          · exact HOB.out g h1
                          · have := HBC.out.2
                            omega)
                        have HOX := Lib.hid HO3
                        clear hg3 hwh HO3 HMY HAY HTY HVY HBY HOC HBC HOY HSY
                        have hl1 : (LJ ++ [(⟨su, sp, sv2⟩ : Stg)]).length = LJ.length + 1 := by simp
                        obtain ⟨oa5, oc5, hov⟩ := HOX.out.shape
                        subst hov
                        have k0 := HSZ.out.cell (i := 0) rfl
                        have k1 := HSZ.out.cell (i := 1) rfl
                        have k2 := HSZ.out.cell (i := 2) rfl
                        have kl2 := HSZ.out.lt
                        obtain ⟨g, cap, cur, hsl, hgb, hcur, hcz, _⟩ := HOX.out.get (by omega)
                        injection hsl with e1 _ e3
                        subst e1 e3
                        have s0 : W3.cell? ⟨g, LJ.length * 3, none⟩ = some (cur[LJ.length * 3]'(by omega)) := hcur.cell (Array.getElem?_eq_getElem (by omega))
                        have s1 : W3.cell? ⟨g, LJ.length * 3 + 1, none⟩ = some (cur[LJ.length * 3 + 1]'(by omega)) := hcur.cell (Array.getElem?_eq_getElem (by omega))
                        have s2 : W3.cell? ⟨g, LJ.length * 3 + 2, none⟩ = some (cur[LJ.length * 3 + 2]'(by omega)) := hcur.cell (Array.getElem?_eq_getElem (by omega))
                        have f0 := hcur.frozen (LJ.length * 3)
                        have f1 := hcur.frozen (LJ.length * 3 + 1)
                        have f2 := hcur.frozen (LJ.length * 3 + 2)
                        have gl := hcur.lt
                        have hgs := gro_tr (gro_tr (gro1 W3 g (LJ.length * 3) (.int .i64 su)) (gro1 _ g (LJ.length * 3 + 1) (.string sp))) (gro1 _ g (LJ.length * 3 + 2) (.int .i64 sv2))
                        have HOZ := Lib.hid (HOX.out.put3 LJ.length (by omega) ⟨su, sp, sv2⟩)
                        have HMZ := Lib.hid (HMX.out.own HOX.out hgs)
                        have HAZ := Lib.hid (HAX.out.own HOX.out hgs)
                        have HTZ := Lib.hid ((Other.row HOX.out hgs).tbox HTX.out (by decide))
                        have HVZ := Lib.hid (HVX.out.kept hgs (by
                          by_cases c : (Value.slice (some ⟨g2, 0, none⟩) M.length vc).ownBlock = some g
                          · exfalso
                            have k1 := HVB.out g c
                            have k2 := HOBX.out g rfl
                            omega
                          · exact .inr c))
                        have HBZ := Lib.hid (show Below w.heap.size w _ ∧ V1 ≤ (_ : World).heap.size from ⟨HOX.out.keeps HBX.out.1 hgs (Nat.le_refl _) HBX.out.1.size, Nat.le_trans HBX.out.2 hgs.size⟩)
                        clear hcur hgs HMX HAX HTX HVX HBX
                        have HOY := Lib.hid (show OwnS w.heap.size _ (.slice (some ⟨g, 0, none⟩) (LJ ++ [(⟨su, sp, sv2⟩ : Stg)]).length oc5) LN from HPUT.out ▸ HOZ.out)
                        have hii : (LJ.length : Int) < ((LJ ++ [(⟨su, sp, sv2⟩ : Stg)]).length : Int) := by omega
                        go_wp2_with fail
                        exact ⟨⟨j + 1, _, by omega, by first | rfl | go_num, rfl, Lib.hid (by rw [hLN2.out]; exact HOY.out), HOBX, HVZ, HTZ, HBZ, Lib.hid (by rw [hLN2.out]; exact HMZ.out.more (by omega)), Lib.hid (by rw [hLN2.out]; exact HAZ.out.more (by omega))⟩, by simp [intOf]; omega⟩
                    · have hjj : j = M.length := by omega
                      subst hjj
                      rw [List.take_length, ← HLX.out] at HO HM HA
                      obtain ⟨oa3, oc3, hov⟩ := HO.out.shape
                      subst hov
                      go_wp2_with fail
                      go_roundw
                      case rel => exact ⟨k + 1, _, by omega, by first | rfl | go_num, rfl, HO, HT, Lib.hid HBB.out.1, Lib.hid (HM.out.more (by omega)), Lib.hid (HA.out.more (by omega))⟩
                      case measure => simp [intOf]; omega
                · have hkk : k = xs.length := by omega
                  subst hkk
                  rw [HLE.out] at HO
                  obtain ⟨oa3, oc3, hov⟩ := HO.out.shape
                  subst hov
                  go_wp2_with fail
                  exact bodyPost_ret (v := .tuple #[.slice oa3 VV.length oc3, .int .i64 0]) (by simp [results, Try.results20, go_sem]) rfl ⟨_, by rw [HFZ.out], HO.out, HB.out⟩
end Go.Proofs.Ytopmdeefcjdadaa
