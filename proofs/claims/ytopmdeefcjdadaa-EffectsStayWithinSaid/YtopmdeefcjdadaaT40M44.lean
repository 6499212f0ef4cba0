/- effect.Settings. (printed by wip/gen/gen_aptop.py) The walk of cycloramalaw7.EffectsStayWithin: for every rig, running effect and time it returns true. (printed by wip/gen/gen_staywalk.py) -/
import Derived.Test.YtopmdeefcjdadaaT40M21
import Derived.Test.YtopmdeefcjdadaaT40M23
import Derived.Test.YtopmdeefcjdadaaT40M25
import Derived.Test.YtopmdeefcjdadaaT40M26
import Derived.Test.YtopmdeefcjdadaaT40M42
import Derived.Test.YtopmdeefcjdadaaT40M43
import Derived.Deep.QuietTactic
import Derived.BigQuiet

namespace Go.Proofs.Ytopmdeefcjdadaa
open Go.RowKit
set_option linter.unusedVariables false
set_option linter.unusedSimpArgs false

theorem runAt_shape {B : Nat} {w : World} {x : Run} {sv kv rv : Value} (h : RunAt B w x sv kv rv) : ∃ so scap ko kcap ro rcap, sv = .slice so x.ef.steps.length scap ∧ kv = .slice ko x.keys.length kcap ∧ rv = .slice ro x.rates.length rcap := by
  obtain ⟨hsv, hkv, hrv⟩ := h
  obtain ⟨so, scap, rfl, _, _⟩ := hsv
  obtain ⟨ko, kcap, rfl, _⟩ := hkv
  obtain ⟨ro, rcap, rfl, _⟩ := hrv
  exact ⟨_, _, _, _, _, _, rfl, rfl, rfl⟩
set_option maxRecDepth 100000 in
set_option maxHeartbeats 16000000 in
theorem Settings_any (r : Rig) (lv uv : Value) (x : Run) (sv kv rv : Value) (l : List Stg) (bv : Value) (t : Int) (w : World) (h : RigAt w.heap.size w r lv uv) (hrf : RigFit r) (hx : RunAt w.heap.size w x sv kv rv) (hxf : RunFit x) (hS : StgS w.heap.size w bv l) (hSf : ∀ s ∈ l, StgFit s) :
    Calls Try.prog 19 #[rigV lv uv, runV x sv kv rv, bv, .int .i64 t] w fun e w' => ∃ v, e = .returned (.tuple #[v, .int .i64 (stsF r x l t)]) ∧ OwnS w.heap.size w' v (stsV r x l t) ∧ Below w.heap.size w w' := by
  have CR := Lib.hid (fun W (hb : Below w.heap.size w W) => ckRig_any r lv uv W ((h.below hb).more hb.size) hrf)
  have CD := Lib.hid (fun W (hb : Below w.heap.size w W) hz => defaults_any r lv uv W ((h.below hb).more hb.size) hrf hz)
  have CK := Lib.hid (fun W (hb : Below w.heap.size w W) mb m (hM : HasM W mb m (dfO r)) => check_has r x sv kv rv mb m W hM ((hx.below hb).more hb.size) hxf)
  have CB := Lib.hid (fun W (hb : Below w.heap.size w W) mb m (hM : HasM W mb m (dfO r)) => checkBase_any r l bv mb m W hM ((hS.below hb).more hb.size) hSf)
  have CS := Lib.hid (fun W (hb : Below w.heap.size w W) hz t0 t1 tb lev hc hl => apSets_any r x sv kv rv t 60 (.pointer (some ⟨tb, 0, none⟩)) lev W ((hx.below hb).more hb.size) hxf hz t0 t1 setFn_call hc hl)
  have HG := Lib.hid (StgS.get hS)
  have hml := CellsS.len hS
  unfold maxLen at hml
  have HSF := Lib.hid hSf
  have HKF := Lib.hid hxf.2.1
  have HLV := Lib.hid (fun (hz : chkRig r = 0) (hb : chkStgs r l = 0) => levV_range (l := l) hz (fun s hs => (stg_right hb hs).2))
  have HFW := Lib.hid (fun (hz : chkRig r = 0) (hb : chkStgs r l = 0) => few_stgs hz (keysOnce_of hb) (fun s hs => (stg_right hb hs).1))
  have HF := Lib.hid (show stsF r x l t = if chkRig r ≠ 0 then chkRig r else fi3 (chkRunR r x) (chkStgs r l) (whenW (!inR t 0 36000000) 1) from rfl)
  have HZ := Lib.hid (stsF_zero (r := r) (x := x) (base := l) (t := t))
  have HV0 := Lib.hid (show stsF r x l t ≠ 0 → stsV r x l t = [] from fun h => by unfold stsV; rw [if_neg h])
  have HV1 := Lib.hid (show stsF r x l t = 0 → stsV r x l t = runSets x t (levV r l) from fun h => by unfold stsV; rw [if_pos h])
  generalize stsF r x l t = FF at *
  generalize stsV r x l t = VV at *
  obtain ⟨so, scap, ko, kcap, ro, rcap, rfl, rfl, rfl⟩ := runAt_shape hx
  obtain ⟨uo, ucap, rfl, _⟩ := CellsS.shape h.units
  obtain ⟨lo, lcap, rfl⟩ := prfS_shape h.lib
  obtain ⟨bo, bcap, rfl, _⟩ := CellsS.shape hS
  obtain ⟨RS, hRS⟩ : ∃ f, runSets x t = f := ⟨_, rfl⟩
  rw [hRS] at HV1 CS
  have HKX := Lib.hid (show ∀ u s, (u, s) ∈ x.keys → KeyFit (u, s) from fun u s h => HKF.out _ h)
  generalize hkl : x.keys.length = kl at *
  generalize hsl : x.ef.steps.length = sl at *
  generalize hrl : x.rates.length = rl at *
  generalize hll : r.lib.length = ll at *
  generalize hul : r.units.length = ul at *
  clear hRS h hrf hx hxf hS hSf hkl hsl hrl hll hul HKF
  generalize chkRig r = CRV at *
  generalize chkRunR r x = CXV at *
  generalize chkStgs r l = CBV at *
  obtain ⟨⟨form, low, high, cycle, width, spread, back, rel, st⟩, keys, start, rates, tin, tend, tout⟩ := x
  unfold rigV runV at *
  simp only at *
  obtain ⟨w1, hw1⟩ : ∃ w1, w1 = ((w.alloc (.cells #[.slice lo ll lcap, .slice uo ul ucap] 42)).alloc (.cells #[.int .i64 form, .int .i64 low, .int .i64 high, .int .i64 cycle, .int .i64 width, .int .i64 spread, .bool back, .bool rel, .slice so sl scap, .slice ko kl kcap, .int .i64 start, .slice ro rl rcap, .int .i64 tin, .int .i64 tend, .int .i64 tout] 28)) := ⟨_, rfl⟩
  have HG1 := Lib.hid (show TBox w1 w.heap.size 42 #[.slice lo ll lcap, .slice uo ul ucap] from hw1 ▸ (TBox.new w _ _).alloc _)
  have HX1 := Lib.hid (show TBox w1 (w.heap.size + 1) 28 #[.int .i64 form, .int .i64 low, .int .i64 high, .int .i64 cycle, .int .i64 width, .int .i64 spread, .bool back, .bool rel, .slice so sl scap, .slice ko kl kcap, .int .i64 start, .slice ro rl rcap, .int .i64 tin, .int .i64 tend, .int .i64 tout] from hw1 ▸ (by simpa using TBox.new (w.alloc (.cells #[.slice lo ll lcap, .slice uo ul ucap] 42)) #[.int .i64 form, .int .i64 low, .int .i64 high, .int .i64 cycle, .int .i64 width, .int .i64 spread, .bool back, .bool rel, .slice so sl scap, .slice ko kl kcap, .int .i64 start, .slice ro rl rcap, .int .i64 tin, .int .i64 tend, .int .i64 tout] 28))
  have HB1 := Lib.hid (show Below w.heap.size w w1 from hw1 ▸ ((Below.refl w.heap.size w).alloc (Nat.le_refl _) _).alloc (by simp) _)
  go_enter Try.func19, Try.ntmps19
  go_upto_region 1 with fail
  rw [← hw1]
  clear hw1
  have q0 := HG1.out.cell (i := 0) rfl
  have q1 := HG1.out.cell (i := 1) rfl
  have ql := HG1.out.lt
  go_wp2_with fail
  refine (CR.out _ HB1.out).mono ?_
  rintro e w2 ⟨rfl, hb⟩
  have HG2 := Lib.hid (HG1.out.below hb)
  have HX2 := Lib.hid (HX1.out.below hb)
  have HB2 := Lib.hid (HB1.out.trans (hb.mono HB1.out.size))
  clear hb q0 q1 ql HG1 HX1 HB1 CR
  by_cases hcr : CRV = 0
  rotate_left
  · have HE := Lib.hid (show FF = CRV by rw [HF.out, if_pos hcr])
    have HVV := Lib.hid (HV0.out (by rw [HE.out]; exact hcr))
    have hnb : (CRV != 0) = true := by simp [hcr]
    clear HF HZ HV0 HV1 CD CK CB CS HLV HFW
    go_wp2_with fail
    exact bodyPost_ret (v := .tuple #[.slice none 0 0, .int .i64 CRV]) (by simp [results, Try.results19, go_sem]) rfl ⟨.slice none 0 0, by rw [HE.out] <;> rfl, by rw [HVV.out]; exact OwnS.nil _ _, HB2.out⟩
  · have HFX := Lib.hid (show FF = fi3 CXV CBV (whenW (!inR t 0 36000000) 1) by rw [HF.out, if_neg (by simpa using hcr)])
    have CDX := Lib.hid (CD.out w2 HB2.out hcr)
    have HLX := Lib.hid (HLV.out hcr)
    have HFV := Lib.hid (HFW.out hcr)
    subst hcr
    clear HF CD HLV HFW
    have q0 := HG2.out.cell (i := 0) rfl
    have q1 := HG2.out.cell (i := 1) rfl
    have ql := HG2.out.lt
    go_wp2_with fail
    refine CDX.out.mono ?_
    rintro e w3 ⟨mb, rfl, hmb, hM, hb⟩
    clear q0 q1 ql CDX HG2
    obtain ⟨tb, htb⟩ : ∃ n, w3.heap.size = n := ⟨_, rfl⟩
    have HX3 := Lib.hid ((HX2.out.below hb).alloc (.cells #[.map (some mb)] 94))
    have HB3 := Lib.hid ((HB2.out.trans (hb.mono HB2.out.size)).alloc (Nat.le_trans HB2.out.size hb.size) (.cells #[.map (some mb)] 94))
    have HT3 := Lib.hid (show TBox (w3.alloc (.cells #[.map (some mb)] 94)) tb 94 #[.map (some mb)] from htb ▸ TBox.new w3 _ _)
    have HM3 := Lib.hid (hM.alloc (.cells #[.map (some mb)] 94))
    have HMB := Lib.hid (show w.heap.size + 1 < mb ∧ mb < tb from ⟨Nat.lt_of_lt_of_le HX2.out.lt hmb, by have := hM.lt; omega⟩)
    clear hb hM hmb HX2 HB2
    go_upto_region 5 with fail
    clear htb
    generalize w3.alloc (.cells #[.map (some mb)] 94) = w4 at *
    have KC := Lib.hid (show ∀ W, Below w4.heap.size w4 W → (Below w.heap.size w W ∧ HasM W mb 16000 (dfO r)) ∧ (W.cell? ⟨w.heap.size + 1, 0, none⟩ = some (.int .i64 form) ∧ W.cell? ⟨w.heap.size + 1, 1, none⟩ = some (.int .i64 low) ∧ W.cell? ⟨w.heap.size + 1, 2, none⟩ = some (.int .i64 high) ∧ W.cell? ⟨w.heap.size + 1, 3, none⟩ = some (.int .i64 cycle) ∧ W.cell? ⟨w.heap.size + 1, 4, none⟩ = some (.int .i64 width) ∧ W.cell? ⟨w.heap.size + 1, 5, none⟩ = some (.int .i64 spread) ∧ W.cell? ⟨w.heap.size + 1, 6, none⟩ = some (.bool back) ∧ W.cell? ⟨w.heap.size + 1, 7, none⟩ = some (.bool rel) ∧ W.cell? ⟨w.heap.size + 1, 8, none⟩ = some (.slice so sl scap) ∧ W.cell? ⟨w.heap.size + 1, 9, none⟩ = some (.slice ko kl kcap) ∧ W.cell? ⟨w.heap.size + 1, 10, none⟩ = some (.int .i64 start) ∧ W.cell? ⟨w.heap.size + 1, 11, none⟩ = some (.slice ro rl rcap) ∧ W.cell? ⟨w.heap.size + 1, 12, none⟩ = some (.int .i64 tin) ∧ W.cell? ⟨w.heap.size + 1, 13, none⟩ = some (.int .i64 tend) ∧ W.cell? ⟨w.heap.size + 1, 14, none⟩ = some (.int .i64 tout) ∧ W.cell? ⟨tb, 0, none⟩ = some (.map (some mb))) from fun W hW => by
      have k1 := HX3.out.below hW
      have k2 := HT3.out.below hW
      exact ⟨⟨HB3.out.trans (hW.mono HB3.out.size), HM3.out.below hW⟩, k1.cell (i := 0) rfl, k1.cell (i := 1) rfl, k1.cell (i := 2) rfl, k1.cell (i := 3) rfl, k1.cell (i := 4) rfl, k1.cell (i := 5) rfl, k1.cell (i := 6) rfl, k1.cell (i := 7) rfl, k1.cell (i := 8) rfl, k1.cell (i := 9) rfl, k1.cell (i := 10) rfl, k1.cell (i := 11) rfl, k1.cell (i := 12) rfl, k1.cell (i := 13) rfl, k1.cell (i := 14) rfl, k2.cell (i := 0) rfl⟩)
    have KA := Lib.hid (show ∀ W o, Below w4.heap.size w4 W → Below w4.heap.size w4 (W.alloc o) from fun W o h => h.alloc h.size o)
    have KM := Lib.hid (show ∀ W W', Below w4.heap.size w4 W → Below W.heap.size W W' → Below w4.heap.size w4 W' from fun W W' h1 h2 => h1.trans (h2.mono h1.size))
    have CKX := Lib.hid (fun W hb => CK.out W (KC.out W hb).1.1 mb 16000 (KC.out W hb).1.2)
    have CBX := Lib.hid (fun W hb => CB.out W (KC.out W hb).1.1 mb 16000 (KC.out W hb).1.2)
    clear CK CB
    go_cut [12] (fun s wx => s = .int .i64 FF ∧ Below w4.heap.size w4 wx)
    case first =>
      have hw0 : Below w4.heap.size w4 w4 := Below.refl _ _
      have hw1 : Below w4.heap.size w4 (World.drew w4) := (Below.refl _ _).drew
      have hxl := HX3.out.lt
      have htl := HT3.out.lt
      go_region_held3 (fun W => W.cell? ⟨w.heap.size + 1, 0, none⟩ = some (.int .i64 form) ∧ W.cell? ⟨w.heap.size + 1, 1, none⟩ = some (.int .i64 low) ∧ W.cell? ⟨w.heap.size + 1, 2, none⟩ = some (.int .i64 high) ∧ W.cell? ⟨w.heap.size + 1, 3, none⟩ = some (.int .i64 cycle) ∧ W.cell? ⟨w.heap.size + 1, 4, none⟩ = some (.int .i64 width) ∧ W.cell? ⟨w.heap.size + 1, 5, none⟩ = some (.int .i64 spread) ∧ W.cell? ⟨w.heap.size + 1, 6, none⟩ = some (.bool back) ∧ W.cell? ⟨w.heap.size + 1, 7, none⟩ = some (.bool rel) ∧ W.cell? ⟨w.heap.size + 1, 8, none⟩ = some (.slice so sl scap) ∧ W.cell? ⟨w.heap.size + 1, 9, none⟩ = some (.slice ko kl kcap) ∧ W.cell? ⟨w.heap.size + 1, 10, none⟩ = some (.int .i64 start) ∧ W.cell? ⟨w.heap.size + 1, 11, none⟩ = some (.slice ro rl rcap) ∧ W.cell? ⟨w.heap.size + 1, 12, none⟩ = some (.int .i64 tin) ∧ W.cell? ⟨w.heap.size + 1, 13, none⟩ = some (.int .i64 tend) ∧ W.cell? ⟨w.heap.size + 1, 14, none⟩ = some (.int .i64 tout) ∧ W.cell? ⟨tb, 0, none⟩ = some (.map (some mb)))
        (with_reducible first | exact (KC.out _ (by assumption)).2 | exact (KC.out _ (KA.out _ _ (by assumption))).2)
        (first
          | (go_at_call 27; (with_reducible refine (CKX.out _ (by assumption)).mono ?_); rintro e WC ⟨rfl, hbC⟩; have hwC := KM.out _ _ (by assumption) hbC; clear hbC)
          | (go_at_call 58; (with_reducible refine (CBX.out _ (by assumption)).mono ?_); rintro e WD ⟨rfl, hbD⟩; have hwD := KM.out _ _ (by assumption) hbD; clear hbD)
          | (go_at_call 29; (with_reducible refine (eTime_R _ _).mono ?_); rintro e w' ⟨rfl, rfl⟩)
          | (go_at_call 28; (with_reducible refine (when_R _ _ _).mono ?_); rintro e w' ⟨rfl, rfl⟩)
          | (go_at_call 26; refine (first_3 _ CXV CBV (whenW (!inR t 0 36000000) 1) _ (by simp [go_sem]) (by simp [go_sem]) (by simp [go_sem])).mono ?_; rw [← HFX.out]; rintro e w' ⟨rfl, rfl⟩)
          | fail)
      all_goals go_wp2_with fail
      all_goals go_meet
      all_goals exact ⟨rfl, by with_reducible first | assumption | exact KA.out _ _ (by assumption)⟩
    case rest =>
      obtain ⟨rfl, hb5⟩ := hcut
      obtain ⟨w5, rfl⟩ : ∃ x, x = wc := ⟨wc, rfl⟩
      have HX5 := Lib.hid (HX3.out.below hb5)
      have HT5 := Lib.hid (HT3.out.below hb5)
      have HM5 := Lib.hid (HM3.out.below hb5)
      have HB5 := Lib.hid (HB3.out.trans (hb5.mono HB3.out.size))
      clear HX3 HT3 HM3 HB3 KC KA KM CKX CBX hb5
      by_cases hff : FF = 0
      rotate_left
      · have HVV := Lib.hid (HV0.out hff)
        have hnb : (FF != 0) = true := by simp [hff]
        clear HFX HZ HV0 HV1 CS HLX
        go_wp2_with fail
        exact bodyPost_ret (v := .tuple #[.slice none 0 0, .int .i64 FF]) (by simp [results, Try.results19, go_sem]) rfl ⟨.slice none 0 0, rfl, by rw [HVV.out]; exact OwnS.nil _ _, HB5.out⟩
      · have HVV := Lib.hid (HV1.out hff)
        obtain ⟨_, hzx, hzb, t0, t1⟩ := HZ.out hff
        have CSX := Lib.hid (fun W hb => CS.out W hb hzx t0 t1 tb)
        have HLY := Lib.hid (HLX.out hzb)
        have HFU := Lib.hid (HFV.out hzb)
        subst hff hzx hzb
        clear HFX HZ HV0 HV1 CS HLX HFV
        go_wp2_with fail
        go_loopw [39] (fun i wx => ∃ k : Nat, k ≤ l.length ∧ i = .int .i64 k ∧ Hid (TBox wx (w.heap.size + 1) 28 #[.int .i64 form, .int .i64 low, .int .i64 high, .int .i64 cycle, .int .i64 width, .int .i64 spread, .bool back, .bool rel, .slice so sl scap, .slice ko kl kcap, .int .i64 start, .slice ro rl rcap, .int .i64 tin, .int .i64 tend, .int .i64 tout]) ∧ Hid (TBox wx tb 94 #[.map (some mb)]) ∧ Hid (Below w.heap.size w wx) ∧ Hid (HasM wx mb (16000 + k) (levO r (l.take k)))) (fun i _ => l.length - (intOf i).toNat)
        case atStart => exact ⟨0, Nat.zero_le _, rfl, HX5, HT5, HB5, Lib.hid (HM5.out.cast (fun k _ => by rw [List.take_zero]; rfl))⟩
        case round =>
          clear HX5 HT5 HM5 HB5
          obtain ⟨k, hk, rfl, HX, HT, HB, HM⟩ := hrel
          by_cases hlt : k < l.length
          · obtain ⟨b, off, cap', hsl, hbb, _, hc⟩ := HG.out (by omega)
            injection hsl with hs1 hs2 hs3
            subst hs1 hs3
            obtain ⟨d0, d1, d2⟩ := hc k hlt wr HB.out
            have hbr : b < wr.heap.size := by have := HB.out.size; omega
            have hfit := HSF.out _ (List.getElem_mem hlt)
            have HKK := Lib.hid (keyS_fit hfit)
            have HST := Lib.hid (levO_step r hlt)
            have hkv : l[k].k = (l[k].unit, l[k].par) := rfl
            rw [hkv] at HKK HST
            clear hkv hfit hc
            generalize hrk : l[k] = rk at *
            clear hrk
            obtain ⟨su, sp, sl2⟩ := rk
            simp only at *
            obtain ⟨wz, hup, hM, hg⟩ := (HM.out.alloc (.cells #[.int .i64 su, .string sp, .int .i64 sl2] 49)).put HKK.out sl2 (by have := HFU.out; unfold maxLen; omega)
            have q0 := (HT.out.alloc (.cells #[.int .i64 su, .string sp, .int .i64 sl2] 49)).cell (i := 0) rfl
            have ql := (HT.out.alloc (.cells #[.int .i64 su, .string sp, .int .i64 sl2] 49)).lt
            have hne : tb ≠ mb := by have := HMB.out.2; omega
            have HXZ := Lib.hid ((HX.out.alloc (.cells #[.int .i64 su, .string sp, .int .i64 sl2] 49)).gro hg (by have := HMB.out; omega))
            have HTZ := Lib.hid ((HT.out.alloc (.cells #[.int .i64 su, .string sp, .int .i64 sl2] 49)).gro hg hne)
            have HBZ := Lib.hid (below_gro (HB.out.alloc HB.out.size (.cells #[.int .i64 su, .string sp, .int .i64 sl2] 49)) hg (by have := HB.out.size; simp; omega) (by have := HMB.out; omega))
            have HMZ := Lib.hid (hM.cast (fun key _ => HST.out key))
            clear hM hg HST HM HT HX hne
            go_wp2_with fail
            go_roundw
            case rel => exact ⟨k + 1, by omega, by first | rfl | go_num, HXZ, HTZ, HBZ, HMZ⟩
            case measure => simp [intOf]; omega
          · have hkk : k = l.length := by omega
            subst hkk
            have HMM := Lib.hid (show HasM wr mb (16000 + l.length) (levO r l) by have := HM.out; rwa [List.take_length] at this)
            clear HM
            have CX := Lib.hid (CSX.out wr HB.out (levV r l) (fun u s W hin hb => setFn_any u s tb mb (16000 + l.length) (levO r l) W (HT.out.below hb) (HMM.out.below hb) (HKX.out u s hin)) (fun k _ => HLY.out k))
            rw [← HVV.out] at CX
            have q0 := HX.out.cell (i := 0) rfl
            have q1 := HX.out.cell (i := 1) rfl
            have q2 := HX.out.cell (i := 2) rfl
            have q3 := HX.out.cell (i := 3) rfl
            have q4 := HX.out.cell (i := 4) rfl
            have q5 := HX.out.cell (i := 5) rfl
            have q6 := HX.out.cell (i := 6) rfl
            have q7 := HX.out.cell (i := 7) rfl
            have q8 := HX.out.cell (i := 8) rfl
            have q9 := HX.out.cell (i := 9) rfl
            have q10 := HX.out.cell (i := 10) rfl
            have q11 := HX.out.cell (i := 11) rfl
            have q12 := HX.out.cell (i := 12) rfl
            have q13 := HX.out.cell (i := 13) rfl
            have q14 := HX.out.cell (i := 14) rfl
            have ql := HX.out.lt
            clear CSX HVV HMM
            go_wp2_with fail
            refine CX.out.mono ?_
            rintro e wz ⟨v, rfl, hO, hb⟩
            have HOZ := Lib.hid (own_base' hO HB.out.size)
            have HBZ := Lib.hid (HB.out.trans (hb.mono HB.out.size))
            clear hO hb CX q0 q1 q2 q3 q4 q5 q6 q7 q8 q9 q10 q11 q12 q13 q14 ql
            obtain ⟨oa, oc, hov⟩ := OwnS.shape HOZ.out
            subst hov
            go_wp2_with fail
            exact bodyPost_ret (v := .tuple #[.slice oa VV.length oc, .int .i64 0]) (by simp [results, Try.results19, go_sem]) rfl ⟨_, rfl, HOZ.out, HBZ.out⟩
end Go.Proofs.Ytopmdeefcjdadaa

namespace Go.Proofs.Ytopmdeefcjdadaa.effectsStayWithin
open Go.RowKit
set_option linter.unusedVariables false
set_option linter.unusedSimpArgs false

/-- what the settings of an effect at its full size are -/
theorem stay (r : Rig) (x : Run) (t : Int) (h : stsF r x [] t = 0) (h0 : x.tin = 0) (h1 : x.tend = -1) (h2 : x.tout = 0) (h3 : x.ef.rel = false) :
    (t < x.start ∧ stsV r x [] t = []) ∨ ((stsV r x [] t).length = x.keys.length ∧ ∀ i (hi : i < (stsV r x [] t).length) (hk : i < x.keys.length), (stsV r x [] t)[i].unit = x.keys[i].1 ∧ (stsV r x [] t)[i].par = x.keys[i].2 ∧ x.ef.low ≤ (stsV r x [] t)[i].lv ∧ (stsV r x [] t)[i].lv ≤ x.ef.high) := by
  obtain ⟨_, hz, _, t0, t1⟩ := stsF_zero h
  obtain ⟨hE, ⟨n0, n1⟩, _, _, ⟨s0, s1⟩, _, _, _, _, hok⟩ := chkRunR_zero hz
  have e1 : stsV r x [] t = runSets x t (levV r []) := by unfold stsV; rw [if_pos h]
  rw [e1]
  by_cases c : t < x.start
  · exact .inl ⟨c, by unfold runSets goneB; simp [c]⟩
  · refine .inr ?_
    have e2 : runSets x t (levV r []) = setsR x t (levV r []) := by
      unfold runSets goneB
      simp [c, h1]
    rw [e2]
    refine ⟨setsR_len _ _ _, fun i hi hk => ?_⟩
    have e3 : (setsR x t (levV r []))[i] = stgOf x t (levV r []) i x.keys[i] := by simp [setsR]
    rw [e3]
    unfold chkEf at hE
    obtain ⟨hf1, ⟨l0, l9⟩, ⟨g0, g9⟩, hlh, hcy, _, _, hst, hall, _, _⟩ := chkE_zero hE
    obtain ⟨⟨c0, c1⟩, h70⟩ := cyc_range hE
    obtain ⟨d0, d1⟩ := whD_range (c := x.ef.cycle + sumS x.ef.steps) (count := (x.keys.length : Int)) c0 c1 (by omega) (by omega)
    obtain ⟨y0, y1⟩ := whN_range x.ef.back (whY (x.ef.cycle + sumS x.ef.steps) x.ef.spread i x.keys.length (clkV x.start x.rates t)) (show 0 < whD (x.ef.cycle + sumS x.ef.steps) x.keys.length by omega)
    have hw : WayOk (wayP x.ef i x.keys.length (clkV x.start x.rates t)) := by
      unfold wayP cycE
      exact wvP_ok hf1 h70 hall y0 y1 d0 (by omega)
    have hs : sizV x.start x.tin x.tend x.tout t = (1, 1) := by
      unfold sizV
      rw [h0, h1, if_neg (by simp), if_neg (by omega), if_neg (by omega)]
    have := movV_full (b := levV r [] x.keys[i]) hw hlh l0 g9
    unfold stgOf
    rw [hs, h3]
    exact ⟨rfl, rfl, this.1, this.2⟩
set_option maxRecDepth 100000 in
set_option maxHeartbeats 16000000 in
theorem walk (v0 v1 : Value) (t : Int) (w : World) (h0 : RigW w v0) (h1 : RunV w v1) (g2 : (Lit.int .i64 t).wf = true) :
    Calls Try.prog 7 #[v0, v1, .int .i64 t] w fun e w' => e = .returned (.bool true) ∧ Below w.heap.size w w' := by
  obtain ⟨r, lv, uv, rfl, h, hrf⟩ := h0
  obtain ⟨⟨⟨form, low, high, cycle, width, spread, back, rel, st⟩, keys, start, rates, tin, tend, tout⟩, sv, kv, rv, rfl, hx, hxf⟩ := h1
  have hx1 : RunAt w.heap.size w ⟨⟨form, low, high, cycle, width, spread, back, false, st⟩, keys, start, rates, 0, -1, 0⟩ sv kv rv := ⟨hx.steps, hx.keys, hx.rates⟩
  have hxf1 : RunFit ⟨⟨form, low, high, cycle, width, spread, back, false, st⟩, keys, start, rates, 0, -1, 0⟩ := ⟨⟨hxf.1.1, hxf.1.2⟩, hxf.2.1, hxf.2.2.1, hxf.2.2.2.1, by show I64 0; unfold I64; omega, by show I64 (-1); unfold I64; omega, by show I64 0; unfold I64; omega⟩
  have CS := Lib.hid (fun W (hb : Below w.heap.size w W) => Settings_any r lv uv ⟨⟨form, low, high, cycle, width, spread, back, false, st⟩, keys, start, rates, 0, -1, 0⟩ sv kv rv [] (.slice none 0 0) t W ((h.below hb).more hb.size) hrf ((hx1.below hb).more hb.size) hxf1 (CellsS.nil _ _) (by simp))
  have HK := Lib.hid (show ∀ k (h : k < keys.length), ∃ b off cap, kv = .slice (some ⟨b, off, none⟩) keys.length cap ∧ b < w.heap.size ∧ ∀ W, Below w.heap.size w W → W.cell? ⟨b, off + k * 2, none⟩ = some (.int .i64 keys[k].1) ∧ W.cell? ⟨b, off + k * 2 + 1, none⟩ = some (.string keys[k].2) from fun k h => by
    obtain ⟨ao, cap, rfl, _, _, h3⟩ := hx.keys
    obtain ⟨b, off, rfl, h4, h5⟩ := h3 (Nat.lt_of_le_of_lt (Nat.zero_le k) h)
    have hg := cells2_get (fun k : Int × ByteArray => Value.int .i64 k.1) (fun k => .string k.2) keys k h
    exact ⟨b, off, cap, rfl, h4, fun W hb => ⟨(hb.cell (p := ⟨b, off + k * 2, none⟩) h4).trans (h5 _ _ hg.1), (hb.cell (p := ⟨b, off + k * 2 + 1, none⟩) h4).trans (h5 (k * 2 + 1) _ hg.2)⟩⟩)
  have HY := Lib.hid (fun h => stay r ⟨⟨form, low, high, cycle, width, spread, back, false, st⟩, keys, start, rates, 0, -1, 0⟩ t h rfl rfl rfl rfl)
  have HV0 := Lib.hid (show stsF r ⟨⟨form, low, high, cycle, width, spread, back, false, st⟩, keys, start, rates, 0, -1, 0⟩ [] t ≠ 0 → stsV r ⟨⟨form, low, high, cycle, width, spread, back, false, st⟩, keys, start, rates, 0, -1, 0⟩ [] t = [] from fun h => by unfold stsV; rw [if_neg h])
  generalize stsF r ⟨⟨form, low, high, cycle, width, spread, back, false, st⟩, keys, start, rates, 0, -1, 0⟩ [] t = FF at *
  generalize stsV r ⟨⟨form, low, high, cycle, width, spread, back, false, st⟩, keys, start, rates, 0, -1, 0⟩ [] t = VV at *
  obtain ⟨so, scap, ko, kcap, ro, rcap, rfl, rfl, rfl⟩ := runAt_shape hx
  have hkm := CellsS.len hx.keys
  unfold maxLen at hkm
  obtain ⟨uo, ucap, rfl, _⟩ := CellsS.shape h.units
  obtain ⟨lo, lcap, rfl⟩ := prfS_shape h.lib
  clear hx1 hxf1
  simp only at *
  generalize st.length = sl at *
  generalize rates.length = rl at *
  generalize r.lib.length = ll at *
  generalize r.units.length = ul at *
  clear h hx hrf hxf g2
  unfold rigV runV at *
  simp only at *
  obtain ⟨w1, hw1⟩ : ∃ w1, w1 = ((w.alloc (.cells #[.slice lo ll lcap, .slice uo ul ucap] 42)).alloc (.cells #[.int .i64 form, .int .i64 low, .int .i64 high, .int .i64 cycle, .int .i64 width, .int .i64 spread, .bool back, .bool rel, .slice so sl scap, .slice ko keys.length kcap, .int .i64 start, .slice ro rl rcap, .int .i64 tin, .int .i64 tend, .int .i64 tout] 28)) := ⟨_, rfl⟩
  have HG1 := Lib.hid (show TBox w1 w.heap.size 42 #[.slice lo ll lcap, .slice uo ul ucap] from hw1 ▸ (TBox.new w _ _).alloc _)
  have HX1 := Lib.hid (show TBox w1 (w.heap.size + 1) 28 #[.int .i64 form, .int .i64 low, .int .i64 high, .int .i64 cycle, .int .i64 width, .int .i64 spread, .bool back, .bool rel, .slice so sl scap, .slice ko keys.length kcap, .int .i64 start, .slice ro rl rcap, .int .i64 tin, .int .i64 tend, .int .i64 tout] from hw1 ▸ (by simpa using TBox.new (w.alloc (.cells #[.slice lo ll lcap, .slice uo ul ucap] 42)) #[.int .i64 form, .int .i64 low, .int .i64 high, .int .i64 cycle, .int .i64 width, .int .i64 spread, .bool back, .bool rel, .slice so sl scap, .slice ko keys.length kcap, .int .i64 start, .slice ro rl rcap, .int .i64 tin, .int .i64 tend, .int .i64 tout] 28))
  have HB1 := Lib.hid (show Below w.heap.size w w1 from hw1 ▸ ((Below.refl w.heap.size w).alloc (Nat.le_refl _) _).alloc (by simp) _)
  go_enter Try.func7, Try.ntmps7
  go_upto_region 1 with fail
  rw [← hw1]
  clear hw1
  have y12 := HX1.out.cell (i := 12) rfl
  have z12 := HX1.out.frozen 12
  have y13 := HX1.out.cell (i := 13) rfl
  have z13 := HX1.out.frozen 13
  have y14 := HX1.out.cell (i := 14) rfl
  have z14 := HX1.out.frozen 14
  have y7 := HX1.out.cell (i := 7) rfl
  have z7 := HX1.out.frozen 7
  go_upto_region 2 with fail
  clear y12 z12 y13 z13 y14 z14 y7 z7
  have hx2 := (((HX1.out.set 12 (.int .i64 0)).set 13 (.int .i64 (-1))).set 14 (.int .i64 0)).set 7 (.bool false)
  simp only [List.setIfInBounds_toArray, List.set_cons_succ, List.set_cons_zero] at hx2
  have hg2 := gro_tr (gro_tr (gro_tr (gro1 w1 (w.heap.size + 1) 12 (.int .i64 0)) (gro1 _ (w.heap.size + 1) 13 (.int .i64 (-1)))) (gro1 _ (w.heap.size + 1) 14 (.int .i64 0))) (gro1 _ (w.heap.size + 1) 7 (.bool false))
  generalize ((((w1.setCell ⟨w.heap.size + 1, 12, none⟩ (.int .i64 0)).setCell ⟨w.heap.size + 1, 13, none⟩ (.int .i64 (-1))).setCell ⟨w.heap.size + 1, 14, none⟩ (.int .i64 0)).setCell ⟨w.heap.size + 1, 7, none⟩ (.bool false)) = w2 at *
  have HX2 := Lib.hid hx2
  have HG2 := Lib.hid (HG1.out.gro hg2 (by omega))
  have HB2 := Lib.hid (below_gro HB1.out hg2 HB1.out.size (by omega))
  clear hx2 hg2 HX1 HG1 HB1
  have p0 := HG2.out.cell (i := 0) rfl
  have p1 := HG2.out.cell (i := 1) rfl
  have pl := HG2.out.lt
  have q0 := HX2.out.cell (i := 0) rfl
  have q1 := HX2.out.cell (i := 1) rfl
  have q2 := HX2.out.cell (i := 2) rfl
  have q3 := HX2.out.cell (i := 3) rfl
  have q4 := HX2.out.cell (i := 4) rfl
  have q5 := HX2.out.cell (i := 5) rfl
  have q6 := HX2.out.cell (i := 6) rfl
  have q7 := HX2.out.cell (i := 7) rfl
  have q8 := HX2.out.cell (i := 8) rfl
  have q9 := HX2.out.cell (i := 9) rfl
  have q10 := HX2.out.cell (i := 10) rfl
  have q11 := HX2.out.cell (i := 11) rfl
  have q12 := HX2.out.cell (i := 12) rfl
  have q13 := HX2.out.cell (i := 13) rfl
  have q14 := HX2.out.cell (i := 14) rfl
  have ql := HX2.out.lt
  go_wp2_with fail
  refine (CS.out _ HB2.out).mono ?_
  rintro e w3 ⟨v, rfl, hO, hb⟩
  have HX3 := Lib.hid (HX2.out.below hb)
  have HB3 := Lib.hid (HB2.out.trans (hb.mono HB2.out.size))
  have HST := Lib.hid (show StgS w3.heap.size w3 v VV from CellsS.of_own hO)
  obtain ⟨vo, vcap, rfl⟩ := hO.shape
  clear hO hb CS HX2 HG2 HB2 p0 p1 pl q0 q1 q2 q3 q4 q5 q6 q7 q8 q9 q10 q11 q12 q13 q14 ql
  by_cases hff : FF = 0
  rotate_left
  · have HVV := HV0.out hff
    subst HVV
    have hnb : (FF != 0) = true := by simp [hff]
    clear HY HV0
    go_wp2_with fail
    go_ret
    exact ⟨by simp, HB3.out⟩
  · have HY2 := Lib.hid (HY.out hff)
    have HVG := Lib.hid (StgS.get HST.out)
    have hvl := CellsS.len HST.out
    unfold maxLen at hvl
    subst hff
    clear HY HV0
    have ql := HX3.out.lt
    go_wp2_with fail
    clear ql
    go_loopw [30] (fun i wx => ∃ k : Nat, k ≤ VV.length ∧ i = .int .i64 k ∧ Hid (Below w3.heap.size w3 wx)) (fun i _ => VV.length - (intOf i).toNat)
    case atStart => exact ⟨0, Nat.zero_le _, rfl, Lib.hid (Below.refl _ _)⟩
    case round =>
      obtain ⟨k, hk, rfl, HB⟩ := hrel
      by_cases hlt : k < VV.length
      · obtain ⟨b, off, cap', hsl, hbb, _, hc⟩ := HVG.out (by omega)
        injection hsl with hs1 hs2 hs3
        subst hs1 hs3
        obtain ⟨d0, d1, d2⟩ := hc k hlt wr HB.out
        have hbr : b < wr.heap.size := by have := HB.out.size; omega
        rcases HY2.out with ⟨_, hv⟩ | ⟨hvk, hall⟩
        · rw [hv] at hlt; simp at hlt
        · have hkk : k < keys.length := by omega
          obtain ⟨b2, off2, cap2, hsl2, hbb2, hc2⟩ := HK.out k hkk
          injection hsl2 with hs1 hs2 hs3
          subst hs1 hs3
          obtain ⟨e0, e1⟩ := hc2 wr (HB3.out.trans (HB.out.mono HB3.out.size))
          have hbr2 : b2 < wr.heap.size := by have := HB3.out.size; have := HB.out.size; omega
          obtain ⟨a0, a1, a2, a3⟩ := hall k hlt hkk
          have HXR := Lib.hid (HX3.out.below HB.out)
          clear hc hc2 hall
          generalize hrk : VV[k] = rk at *
          clear hrk
          obtain ⟨su, sp, sv2⟩ := rk
          simp only at *
          subst a0 a1
          generalize hrk : keys[k] = rk at *
          clear hrk
          obtain ⟨su, sp⟩ := rk
          simp only at *
          have q1 := (HXR.out.alloc (.cells #[.int .i64 su, .string sp, .int .i64 sv2] 49)).cell (i := 1) rfl
          have q2 := (HXR.out.alloc (.cells #[.int .i64 su, .string sp, .int .i64 sv2] 49)).cell (i := 2) rfl
          have q9 := (HXR.out.alloc (.cells #[.int .i64 su, .string sp, .int .i64 sv2] 49)).cell (i := 9) rfl
          have ql := (HXR.out.alloc (.cells #[.int .i64 su, .string sp, .int .i64 sv2] 49)).lt
          have E0 : (wr.alloc (.cells #[.int .i64 su, .string sp, .int .i64 sv2] 49)).cell? ⟨b2, off2 + k * 2, none⟩ = some (.int .i64 su) := by simp [go_sem, hbr2, World.cell?_alloc_past, e0, World.cell?_alloc_lt]
          have hs1 : ¬ sv2 < low := by omega
          have hs2 : ¬ sv2 > high := by omega
          clear hvk
          go_wp2_with fail
          go_quiet (fail)
          go_wp2_with fail
          go_roundw
          case rel => exact ⟨k + 1, by omega, by first | rfl | go_num, Lib.hid (bel_drewN (HB.out.alloc HB.out.size _) _)⟩
          case measure => simp [intOf]; omega
      · have hkk : k = VV.length := by omega
        subst hkk
        have HXR := HX3.out.below HB.out
        have q1 := HXR.cell (i := 9) rfl
        have q2 := HXR.cell (i := 10) rfl
        have ql := HXR.lt
        have HBR := Lib.hid (HB3.out.trans (HB.out.mono HB3.out.size))
        clear HXR HB HST HVG HK
        rcases HY2.out with ⟨hts, hv⟩ | ⟨hvk, _⟩
        · subst hv
          go_wp2_with fail
          go_ret
          exact ⟨by simp, HBR.out⟩
        · have hb2 : (((VV.length : Nat) : Int) == (keys.length : Int)) = true := by simp [hvk]
          have hb0 : decide ((VV.length : Int) < (VV.length : Int)) = false := by simp
          obtain ⟨B1, hB1⟩ : ∃ b, (((VV.length : Nat) : Int) == 0) = b := ⟨_, rfl⟩
          obtain ⟨n, hn⟩ : ∃ n, VV.length = n := ⟨_, rfl⟩
          rw [hn] at hb2 hB1 hb0 hvl ⊢
          clear hvk hlt hk HY2 hn
          by_cases hts : t < start
          · cases B1
            all_goals go_wp2_with fail
            all_goals go_ret
            all_goals exact ⟨rfl, HBR.out⟩
          · go_wp2_with fail
            go_ret
            exact ⟨rfl, HBR.out⟩
end Go.Proofs.Ytopmdeefcjdadaa.effectsStayWithin
