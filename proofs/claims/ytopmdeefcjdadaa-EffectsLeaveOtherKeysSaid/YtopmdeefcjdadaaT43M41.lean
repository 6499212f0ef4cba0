/- effect.Settings. (printed by wip/gen/gen_aptop.py) Settings that running effects are put on: what each step keeps. No walk in it. Own rows changed: an element taken out, one put in; rows of unlike types. No program in it. -/
import Derived.Test.YtopmdeefcjdadaaT43M19
import Derived.Test.YtopmdeefcjdadaaT43M21
import Derived.Test.YtopmdeefcjdadaaT43M23
import Derived.Test.YtopmdeefcjdadaaT43M24
import Derived.Test.YtopmdeefcjdadaaT43M39
import Derived.Test.YtopmdeefcjdadaaT43M40
import Derived.Test.YtopmdeefcjdadaaT43M01
import Derived.Laws.IdiomCopy
import Derived.Laws.AppendOwn
import Derived.Lib.AppendZerosOnto
import Derived.Lib.Overlaps
import Derived.Lib.SliceRun

namespace Go.Proofs.Ytopmdeefcjdadaa
open Go.RowKit
set_option linter.unusedVariables false
set_option linter.unusedSimpArgs false

theorem runAt_shape {B : Nat} {w : World} {x : Run} {sv kv rv : Value} (h : RunAt B w x sv kv rv) : ∃ so scap ko kcap ro rcap, sv = .slice so x.ef.steps.length scap ∧ kv = .slice ko x.keys.length kcap ∧ rv = .slice ro x.rates.length rcap := by
  obtain ⟨hsv, hkv, hrv⟩ := h
  obtain ⟨so, scap, rfl, _, _⟩ := hsv
  obtain ⟨ko, kcap, rfl, _⟩ := hkv
  obtain ⟨ro, rcap, rfl, _⟩ := hrv
  exact ⟨_, _, _, _, _, _, rfl, rfl, rfl⟩
set_option maxRecDepth 100000 in
set_option maxHeartbeats 16000000 in
theorem Settings_any (r : Rig) (lv uv : Value) (x : Run) (sv kv rv : Value) (l : List Stg) (bv : Value) (t : Int) (w : World) (h : RigAt w.heap.size w r lv uv) (hrf : RigFit r) (hx : RunAt w.heap.size w x sv kv rv) (hxf : RunFit x) (hS : StgS w.heap.size w bv l) (hSf : ∀ s ∈ l, StgFit s) :
    Calls Try.prog 19 #[rigV lv uv, runV x sv kv rv, bv, .int .i64 t] w fun e w' => ∃ v, e = .returned (.tuple #[v, .int .i64 (stsF r x l t)]) ∧ OwnS w.heap.size w' v (stsV r x l t) ∧ Below w.heap.size w w' := by
  have CR := Lib.hid (fun W (hb : Below w.heap.size w W) => ckRig_any r lv uv W ((h.below hb).more hb.size) hrf)
  have CD := Lib.hid (fun W (hb : Below w.heap.size w W) hz => defaults_any r lv uv W ((h.below hb).more hb.size) hrf hz)
  have CK := Lib.hid (fun W (hb : Below w.heap.size w W) mb m (hM : HasM W mb m (dfO r)) => check_has r x sv kv rv mb m W hM ((hx.below hb).more hb.size) hxf)
  have CB := Lib.hid (fun W (hb : Below w.heap.size w W) mb m (hM : HasM W mb m (dfO r)) => checkBase_any r l bv mb m W hM ((hS.below hb).more hb.size) hSf)
  have CS := Lib.hid (fun W (hb : Below w.heap.size w W) hz t0 t1 tb lev hc hl => apSets_any r x sv kv rv t 60 (.pointer (some ⟨tb, 0, none⟩)) lev W ((hx.below hb).more hb.size) hxf hz t0 t1 setFn_call hc hl)
  have HG := Lib.hid (StgS.get hS)
  have hml := CellsS.len hS
  unfold maxLen at hml
  have HSF := Lib.hid hSf
  have HKF := Lib.hid hxf.2.1
  have HLV := Lib.hid (fun (hz : chkRig r = 0) (hb : chkStgs r l = 0) => levV_range (l := l) hz (fun s hs => (stg_right hb hs).2))
  have HFW := Lib.hid (fun (hz : chkRig r = 0) (hb : chkStgs r l = 0) => few_stgs hz (keysOnce_of hb) (fun s hs => (stg_right hb hs).1))
  have HF := Lib.hid (show stsF r x l t = if chkRig r ≠ 0 then chkRig r else fi3 (chkRunR r x) (chkStgs r l) (whenW (!inR t 0 36000000) 1) from rfl)
  have HZ := Lib.hid (stsF_zero (r := r) (x := x) (base := l) (t := t))
  have HV0 := Lib.hid (show stsF r x l t ≠ 0 → stsV r x l t = [] from fun h => by unfold stsV; rw [if_neg h])
  have HV1 := Lib.hid (show stsF r x l t = 0 → stsV r x l t = runSets x t (levV r l) from fun h => by unfold stsV; rw [if_pos h])
  generalize stsF r x l t = FF at *
  generalize stsV r x l t = VV at *
  obtain ⟨so, scap, ko, kcap, ro, rcap, rfl, rfl, rfl⟩ := runAt_shape hx
  obtain ⟨uo, ucap, rfl, _⟩ := CellsS.shape h.units
  obtain ⟨lo, lcap, rfl⟩ := prfS_shape h.lib
  obtain ⟨bo, bcap, rfl, _⟩ := CellsS.shape hS
  obtain ⟨RS, hRS⟩ : ∃ f, runSets x t = f := ⟨_, rfl⟩
  rw [hRS] at HV1 CS
  have HKX := Lib.hid (show ∀ u s, (u, s) ∈ x.keys → KeyFit (u, s) from fun u s h => HKF.out _ h)
  generalize hkl : x.keys.length = kl at *
  generalize hsl : x.ef.steps.length = sl at *
  generalize hrl : x.rates.length = rl at *
  generalize hll : r.lib.length = ll at *
  generalize hul : r.units.length = ul at *
  clear hRS h hrf hx hxf hS hSf hkl hsl hrl hll hul HKF
  generalize chkRig r = CRV at *
  generalize chkRunR r x = CXV at *
  generalize chkStgs r l = CBV at *
  obtain ⟨⟨form, low, high, cycle, width, spread, back, rel, st⟩, keys, start, rates, tin, tend, tout⟩ := x
  unfold rigV runV at *
  simp only at *
  obtain ⟨w1, hw1⟩ : ∃ w1, w1 = ((w.alloc (.cells #[.slice lo ll lcap, .slice uo ul ucap] 42)).alloc (.cells #[.int .i64 form, .int .i64 low, .int .i64 high, .int .i64 cycle, .int .i64 width, .int .i64 spread, .bool back, .bool rel, .slice so sl scap, .slice ko kl kcap, .int .i64 start, .slice ro rl rcap, .int .i64 tin, .int .i64 tend, .int .i64 tout] 28)) := ⟨_, rfl⟩
  have HG1 := Lib.hid (show TBox w1 w.heap.size 42 #[.slice lo ll lcap, .slice uo ul ucap] from hw1 ▸ (TBox.new w _ _).alloc _)
  have HX1 := Lib.hid (show TBox w1 (w.heap.size + 1) 28 #[.int .i64 form, .int .i64 low, .int .i64 high, .int .i64 cycle, .int .i64 width, .int .i64 spread, .bool back, .bool rel, .slice so sl scap, .slice ko kl kcap, .int .i64 start, .slice ro rl rcap, .int .i64 tin, .int .i64 tend, .int .i64 tout] from hw1 ▸ (by simpa using TBox.new (w.alloc (.cells #[.slice lo ll lcap, .slice uo ul ucap] 42)) #[.int .i64 form, .int .i64 low, .int .i64 high, .int .i64 cycle, .int .i64 width, .int .i64 spread, .bool back, .bool rel, .slice so sl scap, .slice ko kl kcap, .int .i64 start, .slice ro rl rcap, .int .i64 tin, .int .i64 tend, .int .i64 tout] 28))
  have HB1 := Lib.hid (show Below w.heap.size w w1 from hw1 ▸ ((Below.refl w.heap.size w).alloc (Nat.le_refl _) _).alloc (by simp) _)
  go_enter Try.func19, Try.ntmps19
  go_upto_region 1 with fail
  rw [← hw1]
  clear hw1
  have q0 := HG1.out.cell (i := 0) rfl
  have q1 := HG1.out.cell (i := 1) rfl
  have ql := HG1.out.lt
  go_wp2_with fail
  refine (CR.out _ HB1.out).mono ?_
  rintro e w2 ⟨rfl, hb⟩
  have HG2 := Lib.hid (HG1.out.below hb)
  have HX2 := Lib.hid (HX1.out.below hb)
  have HB2 := Lib.hid (HB1.out.trans (hb.mono HB1.out.size))
  clear hb q0 q1 ql HG1 HX1 HB1 CR
  by_cases hcr : CRV = 0
  rotate_left
  · have HE := Lib.hid (show FF = CRV by rw [HF.out, if_pos hcr])
    have HVV := Lib.hid (HV0.out (by rw [HE.out]; exact hcr))
    have hnb : (CRV != 0) = true := by simp [hcr]
    clear HF HZ HV0 HV1 CD CK CB CS HLV HFW
    go_wp2_with fail
    exact bodyPost_ret (v := .tuple #[.slice none 0 0, .int .i64 CRV]) (by simp [results, Try.results19, go_sem]) rfl ⟨.slice none 0 0, by rw [HE.out] <;> rfl, by rw [HVV.out]; exact OwnS.nil _ _, HB2.out⟩
  · have HFX := Lib.hid (show FF = fi3 CXV CBV (whenW (!inR t 0 36000000) 1) by rw [HF.out, if_neg (by simpa using hcr)])
    have CDX := Lib.hid (CD.out w2 HB2.out hcr)
    have HLX := Lib.hid (HLV.out hcr)
    have HFV := Lib.hid (HFW.out hcr)
    subst hcr
    clear HF CD HLV HFW
    have q0 := HG2.out.cell (i := 0) rfl
    have q1 := HG2.out.cell (i := 1) rfl
    have ql := HG2.out.lt
    go_wp2_with fail
    refine CDX.out.mono ?_
    rintro e w3 ⟨mb, rfl, hmb, hM, hb⟩
    clear q0 q1 ql CDX HG2
    obtain ⟨tb, htb⟩ : ∃ n, w3.heap.size = n := ⟨_, rfl⟩
    have HX3 := Lib.hid ((HX2.out.below hb).alloc (.cells #[.map (some mb)] 94))
    have HB3 := Lib.hid ((HB2.out.trans (hb.mono HB2.out.size)).alloc (Nat.le_trans HB2.out.size hb.size) (.cells #[.map (some mb)] 94))
    have HT3 := Lib.hid (show TBox (w3.alloc (.cells #[.map (some mb)] 94)) tb 94 #[.map (some mb)] from htb ▸ TBox.new w3 _ _)
    have HM3 := Lib.hid (hM.alloc (.cells #[.map (some mb)] 94))
    have HMB := Lib.hid (show w.heap.size + 1 < mb ∧ mb < tb from ⟨Nat.lt_of_lt_of_le HX2.out.lt hmb, by have := hM.lt; omega⟩)
    clear hb hM hmb HX2 HB2
    go_upto_region 5 with fail
    clear htb
    generalize w3.alloc (.cells #[.map (some mb)] 94) = w4 at *
    have KC := Lib.hid (show ∀ W, Below w4.heap.size w4 W → (Below w.heap.size w W ∧ HasM W mb 16000 (dfO r)) ∧ (W.cell? ⟨w.heap.size + 1, 0, none⟩ = some (.int .i64 form) ∧ W.cell? ⟨w.heap.size + 1, 1, none⟩ = some (.int .i64 low) ∧ W.cell? ⟨w.heap.size + 1, 2, none⟩ = some (.int .i64 high) ∧ W.cell? ⟨w.heap.size + 1, 3, none⟩ = some (.int .i64 cycle) ∧ W.cell? ⟨w.heap.size + 1, 4, none⟩ = some (.int .i64 width) ∧ W.cell? ⟨w.heap.size + 1, 5, none⟩ = some (.int .i64 spread) ∧ W.cell? ⟨w.heap.size + 1, 6, none⟩ = some (.bool back) ∧ W.cell? ⟨w.heap.size + 1, 7, none⟩ = some (.bool rel) ∧ W.cell? ⟨w.heap.size + 1, 8, none⟩ = some (.slice so sl scap) ∧ W.cell? ⟨w.heap.size + 1, 9, none⟩ = some (.slice ko kl kcap) ∧ W.cell? ⟨w.heap.size + 1, 10, none⟩ = some (.int .i64 start) ∧ W.cell? ⟨w.heap.size + 1, 11, none⟩ = some (.slice ro rl rcap) ∧ W.cell? ⟨w.heap.size + 1, 12, none⟩ = some (.int .i64 tin) ∧ W.cell? ⟨w.heap.size + 1, 13, none⟩ = some (.int .i64 tend) ∧ W.cell? ⟨w.heap.size + 1, 14, none⟩ = some (.int .i64 tout) ∧ W.cell? ⟨tb, 0, none⟩ = some (.map (some mb))) from fun W hW => by
      have k1 := HX3.out.below hW
      have k2 := HT3.out.below hW
      exact ⟨⟨HB3.out.trans (hW.mono HB3.out.size), HM3.out.below hW⟩, k1.cell (i := 0) rfl, k1.cell (i := 1) rfl, k1.cell (i := 2) rfl, k1.cell (i := 3) rfl, k1.cell (i := 4) rfl, k1.cell (i := 5) rfl, k1.cell (i := 6) rfl, k1.cell (i := 7) rfl, k1.cell (i := 8) rfl, k1.cell (i := 9) rfl, k1.cell (i := 10) rfl, k1.cell (i := 11) rfl, k1.cell (i := 12) rfl, k1.cell (i := 13) rfl, k1.cell (i := 14) rfl, k2.cell (i := 0) rfl⟩)
    have KA := Lib.hid (show ∀ W o, Below w4.heap.size w4 W → Below w4.heap.size w4 (W.alloc o) from fun W o h => h.alloc h.size o)
    have KM := Lib.hid (show ∀ W W', Below w4.heap.size w4 W → Below W.heap.size W W' → Below w4.heap.size w4 W' from fun W W' h1 h2 => h1.trans (h2.mono h1.size))
    have CKX := Lib.hid (fun W hb => CK.out W (KC.out W hb).1.1 mb 16000 (KC.out W hb).1.2)
    have CBX := Lib.hid (fun W hb => CB.out W (KC.out W hb).1.1 mb 16000 (KC.out W hb).1.2)
    clear CK CB
    go_cut [12] (fun s wx => s = .int .i64 FF ∧ Below w4.heap.size w4 wx)
    case first =>
      have hw0 : Below w4.heap.size w4 w4 := Below.refl _ _
      have hw1 : Below w4.heap.size w4 (World.drew w4) := (Below.refl _ _).drew
      have hxl := HX3.out.lt
      have htl := HT3.out.lt
      go_region_held3 (fun W => W.cell? ⟨w.heap.size + 1, 0, none⟩ = some (.int .i64 form) ∧ W.cell? ⟨w.heap.size + 1, 1, none⟩ = some (.int .i64 low) ∧ W.cell? ⟨w.heap.size + 1, 2, none⟩ = some (.int .i64 high) ∧ W.cell? ⟨w.heap.size + 1, 3, none⟩ = some (.int .i64 cycle) ∧ W.cell? ⟨w.heap.size + 1, 4, none⟩ = some (.int .i64 width) ∧ W.cell? ⟨w.heap.size + 1, 5, none⟩ = some (.int .i64 spread) ∧ W.cell? ⟨w.heap.size + 1, 6, none⟩ = some (.bool back) ∧ W.cell? ⟨w.heap.size + 1, 7, none⟩ = some (.bool rel) ∧ W.cell? ⟨w.heap.size + 1, 8, none⟩ = some (.slice so sl scap) ∧ W.cell? ⟨w.heap.size + 1, 9, none⟩ = some (.slice ko kl kcap) ∧ W.cell? ⟨w.heap.size + 1, 10, none⟩ = some (.int .i64 start) ∧ W.cell? ⟨w.heap.size + 1, 11, none⟩ = some (.slice ro rl rcap) ∧ W.cell? ⟨w.heap.size + 1, 12, none⟩ = some (.int .i64 tin) ∧ W.cell? ⟨w.heap.size + 1, 13, none⟩ = some (.int .i64 tend) ∧ W.cell? ⟨w.heap.size + 1, 14, none⟩ = some (.int .i64 tout) ∧ W.cell? ⟨tb, 0, none⟩ = some (.map (some mb)))
        (with_reducible first | exact (KC.out _ (by assumption)).2 | exact (KC.out _ (KA.out _ _ (by assumption))).2)
        (first
          | (go_at_call 27; (with_reducible refine (CKX.out _ (by assumption)).mono ?_); rintro e WC ⟨rfl, hbC⟩; have hwC := KM.out _ _ (by assumption) hbC; clear hbC)
          | (go_at_call 58; (with_reducible refine (CBX.out _ (by assumption)).mono ?_); rintro e WD ⟨rfl, hbD⟩; have hwD := KM.out _ _ (by assumption) hbD; clear hbD)
          | (go_at_call 29; (with_reducible refine (eTime_R _ _).mono ?_); rintro e w' ⟨rfl, rfl⟩)
          | (go_at_call 28; (with_reducible refine (when_R _ _ _).mono ?_); rintro e w' ⟨rfl, rfl⟩)
          | (go_at_call 26; refine (first_3 _ CXV CBV (whenW (!inR t 0 36000000) 1) _ (by simp [go_sem]) (by simp [go_sem]) (by simp [go_sem])).mono ?_; rw [← HFX.out]; rintro e w' ⟨rfl, rfl⟩)
          | fail)
      all_goals go_wp2_with fail
      all_goals go_meet
      all_goals exact ⟨rfl, by with_reducible first | assumption | exact KA.out _ _ (by assumption)⟩
    case rest =>
      obtain ⟨rfl, hb5⟩ := hcut
      obtain ⟨w5, rfl⟩ : ∃ x, x = wc := ⟨wc, rfl⟩
      have HX5 := Lib.hid (HX3.out.below hb5)
      have HT5 := Lib.hid (HT3.out.below hb5)
      have HM5 := Lib.hid (HM3.out.below hb5)
      have HB5 := Lib.hid (HB3.out.trans (hb5.mono HB3.out.size))
      clear HX3 HT3 HM3 HB3 KC KA KM CKX CBX hb5
      by_cases hff : FF = 0
      rotate_left
      · have HVV := Lib.hid (HV0.out hff)
        have hnb : (FF != 0) = true := by simp [hff]
        clear HFX HZ HV0 HV1 CS HLX
        go_wp2_with fail
        exact bodyPost_ret (v := .tuple #[.slice none 0 0, .int .i64 FF]) (by simp [results, Try.results19, go_sem]) rfl ⟨.slice none 0 0, rfl, by rw [HVV.out]; exact OwnS.nil _ _, HB5.out⟩
      · have HVV := Lib.hid (HV1.out hff)
        obtain ⟨_, hzx, hzb, t0, t1⟩ := HZ.out hff
        have CSX := Lib.hid (fun W hb => CS.out W hb hzx t0 t1 tb)
        have HLY := Lib.hid (HLX.out hzb)
        have HFU := Lib.hid (HFV.out hzb)
        subst hff hzx hzb
        clear HFX HZ HV0 HV1 CS HLX HFV
        go_wp2_with fail
        go_loopw [39] (fun i wx => ∃ k : Nat, k ≤ l.length ∧ i = .int .i64 k ∧ Hid (TBox wx (w.heap.size + 1) 28 #[.int .i64 form, .int .i64 low, .int .i64 high, .int .i64 cycle, .int .i64 width, .int .i64 spread, .bool back, .bool rel, .slice so sl scap, .slice ko kl kcap, .int .i64 start, .slice ro rl rcap, .int .i64 tin, .int .i64 tend, .int .i64 tout]) ∧ Hid (TBox wx tb 94 #[.map (some mb)]) ∧ Hid (Below w.heap.size w wx) ∧ Hid (HasM wx mb (16000 + k) (levO r (l.take k)))) (fun i _ => l.length - (intOf i).toNat)
        case atStart => exact ⟨0, Nat.zero_le _, rfl, HX5, HT5, HB5, Lib.hid (HM5.out.cast (fun k _ => by rw [List.take_zero]; rfl))⟩
        case round =>
          clear HX5 HT5 HM5 HB5
          obtain ⟨k, hk, rfl, HX, HT, HB, HM⟩ := hrel
          by_cases hlt : k < l.length
          · obtain ⟨b, off, cap', hsl, hbb, _, hc⟩ := HG.out (by omega)
            injection hsl with hs1 hs2 hs3
            subst hs1 hs3
            obtain ⟨d0, d1, d2⟩ := hc k hlt wr HB.out
            have hbr : b < wr.heap.size := by have := HB.out.size; omega
            have hfit := HSF.out _ (List.getElem_mem hlt)
            have HKK := Lib.hid (keyS_fit hfit)
            have HST := Lib.hid (levO_step r hlt)
            have hkv : l[k].k = (l[k].unit, l[k].par) := rfl
            rw [hkv] at HKK HST
            clear hkv hfit hc
            generalize hrk : l[k] = rk at *
            clear hrk
            obtain ⟨su, sp, sl2⟩ := rk
            simp only at *
            obtain ⟨wz, hup, hM, hg⟩ := (HM.out.alloc (.cells #[.int .i64 su, .string sp, .int .i64 sl2] 49)).put HKK.out sl2 (by have := HFU.out; unfold maxLen; omega)
            have q0 := (HT.out.alloc (.cells #[.int .i64 su, .string sp, .int .i64 sl2] 49)).cell (i := 0) rfl
            have ql := (HT.out.alloc (.cells #[.int .i64 su, .string sp, .int .i64 sl2] 49)).lt
            have hne : tb ≠ mb := by have := HMB.out.2; omega
            have HXZ := Lib.hid ((HX.out.alloc (.cells #[.int .i64 su, .string sp, .int .i64 sl2] 49)).gro hg (by have := HMB.out; omega))
            have HTZ := Lib.hid ((HT.out.alloc (.cells #[.int .i64 su, .string sp, .int .i64 sl2] 49)).gro hg hne)
            have HBZ := Lib.hid (below_gro (HB.out.alloc HB.out.size (.cells #[.int .i64 su, .string sp, .int .i64 sl2] 49)) hg (by have := HB.out.size; simp; omega) (by have := HMB.out; omega))
            have HMZ := Lib.hid (hM.cast (fun key _ => HST.out key))
            clear hM hg HST HM HT HX hne
            go_wp2_with fail
            go_roundw
            case rel => exact ⟨k + 1, by omega, by first | rfl | go_num, HXZ, HTZ, HBZ, HMZ⟩
            case measure => simp [intOf]; omega
          · have hkk : k = l.length := by omega
            subst hkk
            have HMM := Lib.hid (show HasM wr mb (16000 + l.length) (levO r l) by have := HM.out; rwa [List.take_length] at this)
            clear HM
            have CX := Lib.hid (CSX.out wr HB.out (levV r l) (fun u s W hin hb => setFn_any u s tb mb (16000 + l.length) (levO r l) W (HT.out.below hb) (HMM.out.below hb) (HKX.out u s hin)) (fun k _ => HLY.out k))
            rw [← HVV.out] at CX
            have q0 := HX.out.cell (i := 0) rfl
            have q1 := HX.out.cell (i := 1) rfl
            have q2 := HX.out.cell (i := 2) rfl
            have q3 := HX.out.cell (i := 3) rfl
            have q4 := HX.out.cell (i := 4) rfl
            have q5 := HX.out.cell (i := 5) rfl
            have q6 := HX.out.cell (i := 6) rfl
            have q7 := HX.out.cell (i := 7) rfl
            have q8 := HX.out.cell (i := 8) rfl
            have q9 := HX.out.cell (i := 9) rfl
            have q10 := HX.out.cell (i := 10) rfl
            have q11 := HX.out.cell (i := 11) rfl
            have q12 := HX.out.cell (i := 12) rfl
            have q13 := HX.out.cell (i := 13) rfl
            have q14 := HX.out.cell (i := 14) rfl
            have ql := HX.out.lt
            clear CSX HVV HMM
            go_wp2_with fail
            refine CX.out.mono ?_
            rintro e wz ⟨v, rfl, hO, hb⟩
            have HOZ := Lib.hid (own_base' hO HB.out.size)
            have HBZ := Lib.hid (HB.out.trans (hb.mono HB.out.size))
            clear hO hb CX q0 q1 q2 q3 q4 q5 q6 q7 q8 q9 q10 q11 q12 q13 q14 ql
            obtain ⟨oa, oc, hov⟩ := OwnS.shape HOZ.out
            subst hov
            go_wp2_with fail
            exact bodyPost_ret (v := .tuple #[.slice oa VV.length oc, .int .i64 0]) (by simp [results, Try.results19, go_sem]) rfl ⟨_, rfl, HOZ.out, HBZ.out⟩
end Go.Proofs.Ytopmdeefcjdadaa

namespace Go.Proofs.Ytopmdeefcjdadaa
open Go.RowKit
set_option linter.unusedVariables false
set_option linter.unusedSimpArgs false

/-! ### settings that running effects are put on -/
structure OutOk (r : Rig) (l : List Stg) : Prop where
  once : KeysOnce l
  levs : LevsOk r l
  keys : ∀ s ∈ l, (dfO r s.k).isSome
theorem outOk_base {r : Rig} {l : List Stg} (h : chkStgs r l = 0) : OutOk r l := ⟨keysOnce_of h, fun s hs => (stg_right h hs).2, fun s hs => (stg_right h hs).1⟩
theorem OutOk.put {r : Rig} {l : List Stg} (h : OutOk r l) {s : Stg} (h1 : 0 ≤ s.lv ∧ s.lv ≤ 65535) (h2 : (dfO r s.k).isSome) : OutOk r (putS l s) := by
  refine ⟨keysOnce_put h.once s, levsOk_put h.levs h1, fun y hy => ?_⟩
  unfold putS at hy
  split at hy
  · obtain ⟨z, hz, rfl⟩ := List.mem_map.1 hy
    split
    · exact h2
    · exact h.keys z hz
  · rcases List.mem_append.1 hy with hy | hy
    · exact h.keys y hy
    · simp at hy; subst hy; exact h2
theorem OutOk.few {r : Rig} {l : List Stg} (h : OutOk r l) (hr : chkRig r = 0) : l.length ≤ 16000 := few_stgs hr h.once h.keys
theorem OutOk.puts {r : Rig} : ∀ (m l : List Stg), OutOk r l → (∀ s ∈ m, (0 ≤ s.lv ∧ s.lv ≤ 65535) ∧ (dfO r s.k).isSome) → OutOk r (m.foldl putS l)
  | [], l, h, _ => h
  | s :: m, l, h, hm => OutOk.puts m _ (h.put (hm s (by simp)).1 (hm s (by simp)).2) (fun x hx => hm x (by simp [hx]))
theorem runSets_ok {r : Rig} {x : Run} (h : chkRunR r x = 0) {t : Int} {lev : Int × ByteArray → Int} {s : Stg} (hs : s ∈ runSets x t lev) : (0 ≤ s.lv ∧ s.lv ≤ 65535) ∧ (dfO r s.k).isSome :=
  ⟨runSets_lv hs, (chkRunR_zero h).2.2.1 _ (runSets_key hs)⟩
theorem runSets_few {r : Rig} {x : Run} (h : chkRunR r x = 0) {t : Int} {lev : Int × ByteArray → Int} : (runSets x t lev).length ≤ 400 := by
  have := (chkRunR_zero h).2.1.2
  unfold runSets
  split
  · simp
  · rw [setsR_len]; exact this
theorem applyL_ok {r : Rig} {t : Int} : ∀ (xs : List Run) (l : List Stg), OutOk r l → (∀ x ∈ xs, chkRunR r x = 0) → OutOk r (applyL r xs l t)
  | [], l, h, _ => h
  | x :: xs, l, h, hx => applyL_ok xs _ (OutOk.puts _ _ h (fun s hs => runSets_ok (hx x (by simp)) hs)) (fun z hz => hx z (by simp [hz]))
theorem applyL_step (r : Rig) (xs : List Run) (l : List Stg) (t : Int) (k : Nat) (h : k < xs.length) : applyL r (xs.take (k + 1)) l t = (runSets xs[k] t (levV r (applyL r (xs.take k) l t))).foldl putS (applyL r (xs.take k) l t) := by
  unfold applyL
  rw [List.take_succ_eq_append_getElem h, List.foldl_append]
  rfl
theorem puts_step (m l : List Stg) (j : Nat) (h : j < m.length) : (m.take (j + 1)).foldl putS l = putS ((m.take j).foldl putS l) m[j] := by
  rw [List.take_succ_eq_append_getElem h, List.foldl_append]
  rfl
/-- the places of keys, as numbers -/
def atI (l : List Stg) (k : Int × ByteArray) : Option Int := (atO l k).map (fun n => (n : Int))
theorem atI_nil (k : Int × ByteArray) : atI [] k = none := rfl
theorem atI_step {l : List Stg} (hl : KeysOnce l) {k : Nat} (h : k < l.length) (key : Int × ByteArray) : atI (l.take (k + 1)) key = if l[k].k = key then some (k : Int) else atI (l.take k) key := by
  have hn : atO (l.take k) l[k].k = none := by
    rw [atO_none]
    intro y hy e
    obtain ⟨j, hj, rfl⟩ := List.mem_take_iff_getElem.1 hy
    exact (List.pairwise_iff_getElem.1 hl) j k (by simp; omega) (by simpa using h) (by omega) (by rw [List.getElem_map, List.getElem_map]; exact e)
  have hk : KeysOnce (l.take k) := by unfold KeysOnce at *; rw [List.map_take]; exact hl.sublist (List.take_sublist _ _)
  have e : l.take (k + 1) = putS (l.take k) l[k] := by rw [putS_new hn, List.take_succ_eq_append_getElem h]
  unfold atI
  rw [e, atO_put hk, hn]
  by_cases c : l[k].k = key
  · rw [if_pos c, if_pos c]
    simp
    omega
  · rw [if_neg c, if_neg c]
theorem atI_old {l : List Stg} (hl : KeysOnce l) {s : Stg} {i : Nat} (h : atO l s.k = some i) (key : Int × ByteArray) : atI (putS l s) key = atI l key := by
  unfold atI
  rw [atO_put hl, h]
  by_cases c : s.k = key
  · rw [if_pos c, ← c, h]
    rfl
  · rw [if_neg c]
theorem atI_new {l : List Stg} (hl : KeysOnce l) {s : Stg} (h : atO l s.k = none) (key : Int × ByteArray) : atI (putS l s) key = if s.k = key then some (l.length : Int) else atI l key := by
  unfold atI
  rw [atO_put hl, h]
  by_cases c : s.k = key
  · rw [if_pos c, if_pos c]
    simp
  · rw [if_neg c, if_neg c]
theorem set_last {l : List Stg} {s : Stg} : (l ++ [s]).set l.length s = l ++ [s] := by
  rw [List.set_append]
  simp
end Go.Proofs.Ytopmdeefcjdadaa

namespace Go.Proofs.Ytopmdeefcjdadaa
open Go.RowKit
set_option linter.unusedVariables false
set_option linter.unusedSimpArgs false

/-- a row of another type stays while a row grows -/
theorem own_type {w w' : World} {base base' : Nat} {T T' : TypeId} {s s' : Nat} {v v' : Value} {n n' : Nat} {xs xs' : List Value} (h : w.ownsRow base T s v n xs) (h' : w.ownsRow base' T' s' v' n' xs') (hT : T ≠ T') (hg : w.grownBy w' v'.ownBlock) : w'.ownsRow base T s v n xs := by
  refine h.kept hg ?_
  rcases h.2 with ⟨rfl, _⟩ | ⟨g, cap, cur, rfl, _, h1, _⟩
  · exact .inl rfl
  · refine .inr ?_
    rcases h'.2 with ⟨rfl, _⟩ | ⟨g', cap', cur', rfl, _, h2, _⟩
    · simp [Value.ownBlock]
    · simp only [Value.ownBlock, ne_eq, Option.some.injEq]
      intro e
      subst e
      rw [h1] at h2
      injection h2 with h2
      injection h2 with _ h3
      exact hT h3
theorem own_below2 {w w' : World} {base : Nat} {T : TypeId} {s : Nat} {v : Value} {n : Nat} {xs : List Value} (h : w.ownsRow base T s v n xs) (hb : Below w.heap.size w w') : w'.ownsRow base T s v n xs := by
  refine ⟨h.1, ?_⟩
  rcases h.2 with h' | ⟨g, cap, cur, e1, h1, h2, h3⟩
  · exact .inl h'
  · exact .inr ⟨g, cap, cur, e1, h1, (hb.block g (World.ownsRow.lt h g (by rw [e1]; rfl)).2).trans h2, h3⟩
theorem own_base {w : World} {base base' : Nat} {T : TypeId} {s : Nat} {v : Value} {n : Nat} {xs : List Value} (h : w.ownsRow base T s v n xs) (hb : base' ≤ base) : w.ownsRow base' T s v n xs := by
  refine ⟨h.1, ?_⟩
  rcases h.2 with h' | ⟨g, cap, cur, e1, h1, h2, h3⟩
  · exact .inl h'
  · exact .inr ⟨g, cap, cur, e1, Nat.le_trans hb h1, h2, h3⟩
theorem own_shape2 {w : World} {base : Nat} {T : TypeId} {s : Nat} {v : Value} {n : Nat} {xs : List Value} (h : w.ownsRow base T s v n xs) : ∃ ao cap, v = .slice ao n cap := by
  rcases h.2 with h' | ⟨g, cap, cur, e1, _⟩
  · exact ⟨none, 0, by rw [h'.1, h'.2]⟩
  · exact ⟨_, cap, e1⟩
theorem own_keeps {B base : Nat} {a w w' : World} {T : TypeId} {s : Nat} {v : Value} {n : Nat} {xs : List Value} (ho : w.ownsRow base T s v n xs) (h : Below B a w) (g : w.grownBy w' v.ownBlock) (hB : B ≤ base) (hs : B ≤ w.heap.size) : Below B a w' :=
  h.grown g hs (fun k hk => by have := (World.ownsRow.lt ho k hk).1; omega)
/-- cells stored into a row, one after the other -/
theorem setCells_row (g : Nat) (T : TypeId) : ∀ (Z : List Value) (o : Nat) (w : World) (cur : Array Value), w.heap[g]? = some (.cells cur T (0, 0)) → o + Z.length ≤ cur.size →
    ∃ cur', (w.setCells g o Z).heap[g]? = some (.cells cur' T (0, 0)) ∧ cur'.toList = cur.toList.take o ++ Z ++ cur.toList.drop (o + Z.length)
  | [], o, w, cur, h, hl => ⟨cur, h, by simp⟩
  | v :: r, o, w, cur, h, hl => by
    simp only [List.length_cons] at hl
    obtain ⟨c, h1, h2⟩ := setCells_row g T r (o + 1) (w.setCell ⟨g, o, none⟩ v) (cur.setIfInBounds o v) (heap_setCell_same w g o cur T v h) (by simp; omega)
    refine ⟨c, h1, ?_⟩
    have ho : o < cur.toList.length := by simp; omega
    have e1 : (cur.toList.set o v).take (o + 1) = cur.toList.take o ++ [v] := by
      rw [List.take_succ_eq_append_getElem (by simpa using ho), List.take_set_of_le (Nat.le_refl o)]
      simp
    have e2 : (cur.toList.set o v).drop (o + 1 + r.length) = cur.toList.drop (o + 1 + r.length) := List.drop_set_of_lt (by omega)
    rw [h2, Array.toList_setIfInBounds, e1, e2]
    simp only [List.length_cons, List.append_assoc, List.cons_append, List.nil_append]
    rw [show o + 1 + r.length = o + (r.length + 1) by omega]
theorem setCells_grown2 (g : Nat) : ∀ (Z : List Value) (o : Nat) (w : World), w.grownBy (w.setCells g o Z) (some g)
  | [], o, w => ⟨rfl, rfl, rfl, Nat.le_refl _, fun _ _ _ => rfl⟩
  | v :: r, o, w => by
    have h1 := setCells_grown2 g r (o + 1) (w.setCell ⟨g, o, none⟩ v)
    exact ⟨h1.os.trans rfl, h1.tape.trans rfl, h1.output.trans rfl, Nat.le_trans (by simp) h1.size, fun k hk hne => (h1.block k (by simpa using hk) hne).trans (heap_setCell_other w ⟨g, o, none⟩ k v (fun e => hne (by simp [e])))⟩
theorem grown_trans {w w1 w2 : World} {r : Option Nat} (h1 : w.grownBy w1 r) (h2 : w1.grownBy w2 r) : w.grownBy w2 r :=
  ⟨h2.os.trans h1.os, h2.tape.trans h1.tape, h2.output.trans h1.output, Nat.le_trans h1.size h2.size, fun k hk hne => (h2.block k (Nat.lt_of_lt_of_le hk h1.size) hne).trans (h1.block k hk hne)⟩
theorem grown_drew (w : World) (r : Option Nat) : w.grownBy w.drew r := ⟨rfl, rfl, rfl, Nat.le_refl _, fun _ _ _ => rfl⟩
theorem grown_weak {w w1 : World} {r : Option Nat} (h1 : w.grownBy w1 none) : w.grownBy w1 r := ⟨h1.os, h1.tape, h1.output, h1.size, fun k hk _ => h1.block k hk (by simp)⟩
theorem grown_of_below2 {w w' : World} {row : Option Nat} (h : Below w.heap.size w w') : w.grownBy w' row := ⟨h.os, h.tape, h.output, h.size, fun k hk _ => h.block k hk⟩
/-- what was made anew may be written: nothing older is -/
theorem grown_new {w w1 w2 : World} {g : Nat} {r : Option Nat} (h1 : w.grownBy w1 r) (h2 : w1.grownBy w2 (some g)) (hg : w.heap.size ≤ g) : w.grownBy w2 r :=
  ⟨h2.os.trans h1.os, h2.tape.trans h1.tape, h2.output.trans h1.output, Nat.le_trans h1.size h2.size, fun k hk hne => (h2.block k (Nat.lt_of_lt_of_le hk h1.size) (by intro e; injection e with e; omega)).trans (h1.block k hk hne)⟩
theorem row_isSome2 {w : World} {g j : Nat} {cur : Array Value} {T : TypeId} (h : w.heap[g]? = some (.cells cur T (0, 0))) (hj : j < cur.size) : (w.cell? ⟨g, j, none⟩).isSome = true := by
  simp [World.cell?, h, hj]
theorem row_cell2 {w : World} {g j : Nat} {cur : Array Value} {T : TypeId} (h : w.heap[g]? = some (.cells cur T (0, 0))) : w.cell? ⟨g, j, none⟩ = cur[j]? := by
  simp [World.cell?, h]
/-- copy at elements of any size: all is read before anything is written -/
theorem run_copy_size {P : Program} (w : World) (dT sT ty elem : TypeId) (size : Nat) (b o dLen dCap : Nat) (a : Addr) (sLen sCap m : Nat) (cs : List Value)
    (hu : P.underlying dT = some (.slice elem)) (hs : (P.info? elem).map (·.size) = some size) (hm : m = Nat.min sLen dLen) (hn : cs.length = m * size)
    (hsrc : ∀ j v, cs[j]? = some v → w.cell? (a.add j) = some v) (hc : ∀ j, j < cs.length → (w.cell? ⟨b, o + j, none⟩).isSome = true) (hf : ∀ j, j < cs.length → w.frozen? ⟨b, o + j, none⟩ = false) (h1 : ∀ v ∈ cs, v.oneCell' = true) :
    (Builtin.copy_ #[dT, sT] ty #[.slice (some ⟨b, o, none⟩) dLen dCap, .slice (some a) sLen sCap]).run P w = .ok (goInt m) (w.setCells b o cs) := by
  have hl := run_loadCells_list (P := P) w a cs hsrc
  have hst := run_storeCells_cells (P := P) b o cs 0 w (by simpa using hc) (by simpa using hf) h1
  cases hq : P.info? elem with
  | none => simp [hq] at hs
  | some i =>
    have hi : i.size = size := by simpa [hq] using hs
    rw [hn] at hl
    simp only [Nat.add_zero] at hst
    simp [Builtin.copy_, run_underlying hu, Builtin.lenOf, Builtin.firstCells, sizeOf, typeInfo, hq, hi, ← hm, hl, hst]
/-- clear at elements of any size -/
theorem run_clear_any {P : Program} (w : World) (t e : TypeId) (z : Value) (m : Nat) (ht : P.underlying t = some (.slice e)) (hv : ∀ w, (zeroValue e).run P w = .ok z w) (hz : z.cells.size = m) (h1 : ∀ u ∈ z.cells, u.oneCell' = true) (b o n c : Nat) (hn : 0 < n)
    (hc : ∀ j, j < n * m → (w.cell? ⟨b, o + j, none⟩).isSome = true) (hf : ∀ j, j < n * m → w.frozen? ⟨b, o + j, none⟩ = false) :
    ∃ Z : List Value, Z.length = n * m ∧ ∀ ty, (Builtin.clear_ #[t] ty #[.slice (some ⟨b, o, none⟩) n c]).run P w = .ok (.tuple #[]) (w.setCells b o Z) := by
  have hlen : (Builtin.zeroCells z.cells n).toList.length = n * m := by
    simp [Builtin.zeroCells, hz, Nat.mul_comm]
  have hone : ∀ v ∈ (Builtin.zeroCells z.cells n).toList, v.oneCell' = true := by
    intro v hv'
    simp [Builtin.zeroCells] at hv'
    obtain ⟨i, hi, rfl⟩ := hv'
    have hpos : 0 < z.cells.size := by
      rcases Nat.eq_zero_or_pos z.cells.size with h | h
      · rw [h] at hi; simp at hi
      · exact h
    have hlt := Nat.mod_lt i hpos
    rw [getElem!_pos z.cells _ hlt]
    exact h1 _ (Array.getElem_mem _)
  have hst := run_storeCells_cells (P := P) b o (Builtin.zeroCells z.cells n).toList 0 w (by rw [hlen]; simpa using hc) (by rw [hlen]; simpa using hf) hone
  simp only [Nat.add_zero] at hst
  obtain ⟨k, rfl⟩ : ∃ k, n = k + 1 := ⟨n - 1, by omega⟩
  refine ⟨_, hlen, fun ty => ?_⟩
  simp [Builtin.clear_, run_underlying ht, hv, hst]
/-- a row behind an element's leaving: the cells moved, the last ones written over -/
theorem row_del {w : World} {g n cap i size : Nat} {cur : Array Value} {T : TypeId} (hg : w.heap[g]? = some (.cells cur T (0, 0))) (hi : i < n) (hn : n ≤ cap) (hc : cur.size = cap * size) (Z : List Value) (hZ : Z.length = size) :
    ∃ cur', ((w.setCells g (i * size) ((cur.toList.take (n * size)).drop ((i + 1) * size))).setCells g ((n - 1) * size) Z).heap[g]? = some (.cells cur' T (0, 0)) ∧ cur'.size = cap * size ∧
      cur'.toList.take ((n - 1) * size) = (cur.toList.take (n * size)).take (i * size) ++ (cur.toList.take (n * size)).drop ((i + 1) * size) := by
  have h1 : n * size ≤ cap * size := Nat.mul_le_mul_right _ hn
  have h2 : (i + 1) * size ≤ n * size := Nat.mul_le_mul_right _ hi
  have h3 : (n - 1) * size + size = n * size := by
    obtain ⟨k, rfl⟩ : ∃ k, n = k + 1 := ⟨n - 1, by omega⟩
    rw [Nat.add_sub_cancel, Nat.succ_mul]
  have h4 : (i + 1) * size = i * size + size := Nat.succ_mul _ _
  have hL : (cur.toList.take (n * size)).length = n * size := by rw [List.length_take]; simp; omega
  have hD : ((cur.toList.take (n * size)).drop ((i + 1) * size)).length = n * size - (i + 1) * size := by rw [List.length_drop, hL]
  obtain ⟨c1, e1, e2⟩ := setCells_row g T ((cur.toList.take (n * size)).drop ((i + 1) * size)) (i * size) w cur hg (by rw [hD]; omega)
  have s1 : c1.size = cur.size := by
    have := congrArg List.length e2
    simp only [List.length_append, hD, List.length_take, List.length_drop, Array.length_toList] at this
    omega
  obtain ⟨c2, f1, f2⟩ := setCells_row g T Z ((n - 1) * size) _ c1 e1 (by rw [hZ]; omega)
  have s2 : c2.size = c1.size := by
    have := congrArg List.length f2
    simp only [List.length_append, List.length_take, List.length_drop, Array.length_toList] at this
    omega
  refine ⟨c2, f1, by omega, ?_⟩
  rw [f2, List.append_assoc, List.take_append_of_le_length (by simp; omega), List.take_take, Nat.min_self, e2, List.take_append_of_le_length (by rw [List.length_append, hD, List.length_take, Array.length_toList]; omega),
    List.take_of_length_le (by rw [List.length_append, hD, List.length_take, Array.length_toList]; omega), List.take_take, Nat.min_eq_left (by omega)]
/-- a row behind an element's coming, in place: the cells behind it moved on first -/
theorem row_ins {w : World} {g n cap i size : Nat} {cur : Array Value} {T : TypeId} (hg : w.heap[g]? = some (.cells cur T (0, 0))) (hi : i ≤ n) (hn : n + 1 ≤ cap) (hc : cur.size = cap * size) (ys : List Value) (hy : ys.length = size) :
    ∃ cur', ((w.setCells g ((i + 1) * size) ((cur.toList.take (n * size)).drop (i * size))).setCells g (i * size) ys).heap[g]? = some (.cells cur' T (0, 0)) ∧ cur'.size = cap * size ∧
      cur'.toList.take ((n + 1) * size) = (cur.toList.take (n * size)).take (i * size) ++ ys ++ (cur.toList.take (n * size)).drop (i * size) := by
  have h1 : (n + 1) * size ≤ cap * size := Nat.mul_le_mul_right _ hn
  have h2 : i * size ≤ n * size := Nat.mul_le_mul_right _ hi
  have h3 : (n + 1) * size = n * size + size := Nat.succ_mul _ _
  have h4 : (i + 1) * size = i * size + size := Nat.succ_mul _ _
  have hL : (cur.toList.take (n * size)).length = n * size := by rw [List.length_take]; simp; omega
  have hD : ((cur.toList.take (n * size)).drop (i * size)).length = n * size - i * size := by rw [List.length_drop, hL]
  obtain ⟨c1, e1, e2⟩ := setCells_row g T ((cur.toList.take (n * size)).drop (i * size)) ((i + 1) * size) w cur hg (by rw [hD]; omega)
  have s1 : c1.size = cur.size := by
    have := congrArg List.length e2
    simp only [List.length_append, hD, List.length_take, List.length_drop, Array.length_toList] at this
    omega
  obtain ⟨c2, f1, f2⟩ := setCells_row g T ys (i * size) _ c1 e1 (by rw [hy]; omega)
  have s2 : c2.size = c1.size := by
    have := congrArg List.length f2
    simp only [List.length_append, List.length_take, List.length_drop, Array.length_toList] at this
    omega
  refine ⟨c2, f1, by omega, ?_⟩
  have d1 : c1.toList.take (i * size) = (cur.toList.take (n * size)).take (i * size) := by
    rw [e2, List.append_assoc, List.take_append_of_le_length (by simp; omega), List.take_take, Nat.min_eq_left (by omega), List.take_take, Nat.min_eq_left (by omega)]
  have d2 : (c1.toList.drop (i * size + ys.length)).take (n * size - i * size) = (cur.toList.take (n * size)).drop (i * size) := by
    rw [hy, ← h4, e2, List.append_assoc, List.drop_append_of_le_length (by simp; omega), List.drop_of_length_le (by simp; omega), List.nil_append, List.take_append_of_le_length (by rw [hD]; omega), List.take_of_length_le (by rw [hD]; omega)]
  rw [f2, d1, List.take_append, ← d2]
  have l1 : ((cur.toList.take (n * size)).take (i * size) ++ ys).length = i * size + size := by rw [List.length_append, hy, List.length_take, hL]; omega
  rw [List.take_of_length_le (by rw [l1]; omega), l1]
  congr 2
  omega
/-- a row written twice, one stretch behind the other -/
theorem row_two {w : World} {g p : Nat} {cur : Array Value} {T : TypeId} (hg : w.heap[g]? = some (.cells cur T (0, 0))) (vs ds : List Value) (h : p + vs.length + ds.length ≤ cur.size) :
    ∃ cur', ((w.setCells g p vs).setCells g (p + vs.length) ds).heap[g]? = some (.cells cur' T (0, 0)) ∧ cur'.size = cur.size ∧ cur'.toList.take (p + vs.length + ds.length) = cur.toList.take p ++ vs ++ ds := by
  obtain ⟨c1, e1, e2⟩ := setCells_row g T vs p w cur hg (by omega)
  have s1 : c1.size = cur.size := by
    have := congrArg List.length e2
    simp only [List.length_append, List.length_take, List.length_drop, Array.length_toList] at this
    omega
  obtain ⟨c2, f1, f2⟩ := setCells_row g T ds (p + vs.length) _ c1 e1 (by omega)
  have s2 : c2.size = c1.size := by
    have := congrArg List.length f2
    simp only [List.length_append, List.length_take, List.length_drop, Array.length_toList] at this
    omega
  refine ⟨c2, f1, by omega, ?_⟩
  have d1 : c1.toList.take (p + vs.length) = cur.toList.take p ++ vs := by
    rw [e2, List.take_append_of_le_length (by simp; omega), List.take_of_length_le (by simp; omega)]
  rw [f2, d1, List.take_append_of_le_length (by simp; omega), List.take_of_length_le (by simp; omega)]
end Go.Proofs.Ytopmdeefcjdadaa
