/- fixture.CheckProfile. (printed by wip/gen/gen_ckprf.py) -/
import Derived.Test.YtppbagllhmeenaaGreatDoorT68M23
import Derived.Test.YtppbagllhmeenaaGreatDoorT68M22

namespace Go.Proofs.YtppbagllhmeenaaGreatDoor
open Go.RowKit
set_option linter.unusedVariables false
set_option linter.unusedSimpArgs false

theorem used_snoc (l : List Par) (k : Nat) (h : k < l.length) : usedS (l.take (k + 1)) = usedS (l.take k) ++ slotsP l[k] := by
  unfold usedS
  rw [List.take_succ_eq_append_getElem h, List.flatMap_append]; simp
set_option maxRecDepth 100000 in
set_option maxHeartbeats 16000000 in
theorem ckProfile_any (p : Prf) (pv : Value) (w : World) (h : ParS w.heap.size w pv p.pars) (hf : PrfFit p) :
    Calls Tryz.prog 42 #[.agg #[.string p.name, .int .i64 p.size, pv]] w fun e w' => e = .returned (.int .i64 (chkPrf p)) ∧ Below w.heap.size w w' := by
  have HG := Lib.hid (ParS.get h)
  have HCR := Lib.hid (fun (v : Value) (l : List Rng) W (hb : Below w.heap.size w W) (hr : RngS w.heap.size w v l) (hfr : ∀ r ∈ l, RngFit r) => ckRanges_any v l W ((hr.below hb).more hb.size) hfr)
  obtain ⟨lv, hlv, hcs, _⟩ := h
  obtain ⟨ao, cap, rfl, _⟩ := CellsS.shape hcs
  have hm := CellsS.len hcs
  rw [show lv.length = p.pars.length by rw [← hlv]; simp] at *
  clear hcs hlv
  obtain ⟨pn, ps, l⟩ := p
  obtain ⟨hps, hpn, hfl⟩ := hf
  have HF := Lib.hid hfl
  simp only at *
  have HC0 := Lib.hid (show chkPrf ⟨pn, ps, l⟩ = if !nameB pn.data.toList then 5 else if !inR ps 1 512 then 1 else if l.length = 0 then 8 else if 40 < l.length then 2 else scanF (parF ps) l 0 from rfl)
  generalize chkPrf ⟨pn, ps, l⟩ = RES at *
  clear hfl hm
  have KC := Lib.hid (show ∀ W, Below (w.heap.size + 1) (w.alloc (.cells #[.string pn, .int .i64 ps, .slice ao l.length cap] 70)) W → (Below w.heap.size w W ∧ w.heap.size < W.heap.size ∧ W.cell? ⟨w.heap.size, 0, none⟩ = some (.string pn) ∧ W.cell? ⟨w.heap.size, 1, none⟩ = some (.int .i64 ps) ∧ W.cell? ⟨w.heap.size, 2, none⟩ = some (.slice ao l.length cap)) from fun W hW => by
    have hz := hW.size
    simp at hz
    exact ⟨((Below.refl _ _).alloc (Nat.le_refl _) _).trans (hW.mono (by omega)), by omega, (hW.cell (p := ⟨w.heap.size, 0, none⟩) (by simp)).trans (by simp [go_sem]), (hW.cell (p := ⟨w.heap.size, 1, none⟩) (by simp)).trans (by simp [go_sem]), (hW.cell (p := ⟨w.heap.size, 2, none⟩) (by simp)).trans (by simp [go_sem])⟩)
  have KA := Lib.hid (show ∀ W o, Below (w.heap.size + 1) (w.alloc (.cells #[.string pn, .int .i64 ps, .slice ao l.length cap] 70)) W → Below (w.heap.size + 1) (w.alloc (.cells #[.string pn, .int .i64 ps, .slice ao l.length cap] 70)) (W.alloc o) from fun W o h => h.alloc (by have := h.size; simp at this; omega) o)
  have HB0 := Lib.hid (KC.out _ (Below.refl _ _)).1
  go_enter Tryz.func42, Tryz.ntmps42
  rcases Bool.eq_false_or_eq_true (nameB pn.data.toList) with k0 | k0
  rotate_left
  · have HV := Lib.hid (show RES = 5 by rw [HC0.out, k0]; rfl)
    go_wp2_with (first | (go_at_call 69; ((with_reducible refine (fLevel_R _ _).mono ?_); rintro e w' ⟨rfl, rfl⟩)) | (go_at_call 46; ((with_reducible refine (within_R _ _ _ _).mono ?_); rintro e w' ⟨rfl, rfl⟩)) | (go_at_call 68; ((with_reducible refine (name_any _ _ (by first | exact HNS.out | exact hpn)).mono ?_); rintro e w' ⟨rfl, rfl⟩)) | fail)
    go_ret
    exact ⟨by rw [HV.out] <;> rfl, HB0.out⟩
  rcases Bool.eq_false_or_eq_true (inR ps 1 512) with k1 | k1
  rotate_left
  · have HV := Lib.hid (show RES = 1 by rw [HC0.out, k0, k1]; rfl)
    go_wp2_with (first | (go_at_call 69; ((with_reducible refine (fLevel_R _ _).mono ?_); rintro e w' ⟨rfl, rfl⟩)) | (go_at_call 46; ((with_reducible refine (within_R _ _ _ _).mono ?_); rintro e w' ⟨rfl, rfl⟩)) | (go_at_call 68; ((with_reducible refine (name_any _ _ (by first | exact HNS.out | exact hpn)).mono ?_); rintro e w' ⟨rfl, rfl⟩)) | fail)
    go_ret
    exact ⟨by rw [HV.out] <;> rfl, HB0.out⟩
  by_cases k2 : l.length = 0
  · have HV := Lib.hid (show RES = 8 by rw [HC0.out, k0, k1, if_pos k2]; rfl)
    have k3 : ((l.length : Int) == 0) = true := by simpa using k2
    clear k2
    go_wp2_with (first | (go_at_call 69; ((with_reducible refine (fLevel_R _ _).mono ?_); rintro e w' ⟨rfl, rfl⟩)) | (go_at_call 46; ((with_reducible refine (within_R _ _ _ _).mono ?_); rintro e w' ⟨rfl, rfl⟩)) | (go_at_call 68; ((with_reducible refine (name_any _ _ (by first | exact HNS.out | exact hpn)).mono ?_); rintro e w' ⟨rfl, rfl⟩)) | fail)
    go_ret
    exact ⟨by rw [HV.out] <;> rfl, HB0.out⟩
  have k3 : ((l.length : Int) == 0) = false := by
    rw [beq_eq_false_iff_ne]; omega
  by_cases k4 : 40 < l.length
  · have HV := Lib.hid (show RES = 2 by rw [HC0.out, k0, k1, if_neg k2, if_pos k4]; rfl)
    go_wp2_with (first | (go_at_call 69; ((with_reducible refine (fLevel_R _ _).mono ?_); rintro e w' ⟨rfl, rfl⟩)) | (go_at_call 46; ((with_reducible refine (within_R _ _ _ _).mono ?_); rintro e w' ⟨rfl, rfl⟩)) | (go_at_call 68; ((with_reducible refine (name_any _ _ (by first | exact HNS.out | exact hpn)).mono ?_); rintro e w' ⟨rfl, rfl⟩)) | fail)
    go_ret
    exact ⟨by rw [HV.out] <;> rfl, HB0.out⟩
  have HC := Lib.hid (show RES = scanF (parF ps) l 0 by rw [HC0.out, k0, k1, if_neg k2, if_neg k4]; rfl)
  have h31 : l.length ≤ 40 := by omega
  clear HC0 k4
  have hmm := @run_makeMap Tryz.prog
  go_wp2_with (first | (go_at_call 69; ((with_reducible refine (fLevel_R _ _).mono ?_); rintro e w' ⟨rfl, rfl⟩)) | (go_at_call 46; ((with_reducible refine (within_R _ _ _ _).mono ?_); rintro e w' ⟨rfl, rfl⟩)) | (go_at_call 68; ((with_reducible refine (name_any _ _ (by first | exact HNS.out | exact hpn)).mono ?_); rintro e w' ⟨rfl, rfl⟩)) | fail)
  clear hmm k0 k1 k3
  go_loopw [33] (fun i wx => ∃ k : Nat, k ≤ l.length ∧ i = .int .i64 k ∧ Hid (RES = scanF (parF ps) l k) ∧ Hid (Below (w.heap.size + 1) (w.alloc (.cells #[.string pn, .int .i64 ps, .slice ao l.length cap] 70)) wx) ∧ Hid (SeenM wx Tryz.prog 9 4 (w.heap.size + 1) k ((l.take k).map (fun y => Lit.string y.nm))) ∧ Hid (SeenM wx Tryz.prog 3 4 (w.heap.size + 1 + 1) (2 * k) ((usedS (l.take k)).map (Lit.int .i64))) ∧ w.heap.size + 1 + 1 < wx.heap.size) (fun i _ => l.length - (intOf i).toNat)
  case atStart => exact ⟨0, Nat.zero_le _, rfl, HC, Lib.hid (((Below.refl _ _).alloc (by simp) _).alloc (by simp) _), Lib.hid (by simpa using (seen_made (w.alloc (.cells #[.string pn, .int .i64 ps, .slice ao l.length cap] 70)) _ _ _).kept (World.grownBy_alloc _ _ none) (by simp)), Lib.hid (by simpa [usedS] using seen_made ((w.alloc (.cells #[.string pn, .int .i64 ps, .slice ao l.length cap] 70)).alloc (.map #[] 0)) _ _ _), by simp⟩
  case round =>
    obtain ⟨k, hk, rfl, HRF, HBW, HSE, HSI, hlw⟩ := hrel
    obtain ⟨hB, hz, p0, p1, p2⟩ := KC.out wr HBW.out
    by_cases hlt : k < l.length
    · obtain ⟨b, off, cap', hsl, hb, _, hc⟩ := HG.out (by omega)
      injection hsl with hs1 hs2 hs3
      subst hs1 hs3
      obtain ⟨rv, hrv, hcc⟩ := hc k hlt
      obtain ⟨d0, d1, d2, d3, d4, d5, d6⟩ := hcc wr hB
      have HBB := Lib.hid hB
      have hbr : b < wr.heap.size := by have := hB.size; omega
      obtain ⟨g0, g1, g2, g3, hns, g5⟩ := HF.out _ (List.getElem_mem hlt)
      have HNS := Lib.hid hns
      have HRC := Lib.hid (fun W hW => HCR.out rv l[k].rngs W hW hrv g5)
      have HSG := Lib.hid (scanF_good (parF ps) l k hlt)
      have HSB := Lib.hid (scanF_bad (parF ps) l k hlt)
      have HFD := Lib.hid (show parF ps (l.take k) l[k] = if !nameB l[k].nm then 5 else if l[k].nm ∈ (l.take k).map Par.nm then 6 else if !inR l[k].grp 1 4 then 4 else if parBad ps l[k] then 1 else if parClash (l.take k) l[k] then 12 else chkRngs l[k].rngs from rfl)
      have HKN := Lib.hid (keyOfS_ hns)
      have HK1 := Lib.hid (keyOfI_ g1)
      have HK2 := Lib.hid (keyOfI_ g2)
      have HIN := Lib.hid (mem_strs Par.nm (l.take k) l[k].nm)
      have HI1 := Lib.hid (mem_ints (usedS (l.take k)) l[k].sl)
      have HI2 := Lib.hid (mem_ints (usedS (l.take k)) l[k].fine)
      have HTK := Lib.hid (strs_snoc Par.nm l k hlt)
      have HUS := Lib.hid (show (usedS (l.take (k + 1))).map (Lit.int .i64) = (usedS (l.take k)).map (Lit.int .i64) ++ (slotsP l[k]).map (Lit.int .i64) by rw [used_snoc l k hlt, List.map_append])
      have HSP := Lib.hid (show slotsP l[k] = if 0 < l[k].fine then [l[k].sl, l[k].fine] else [l[k].sl] from rfl)
      have HBD := Lib.hid (show parBad ps l[k] = (!inR l[k].sl 1 ps || !inR l[k].fine 0 ps || !inR l[k].dflt 0 65535) from rfl)
      have HCL := Lib.hid (show parClash (l.take k) l[k] = (decide (l[k].sl = l[k].fine) || decide (l[k].sl ∈ usedS (l.take k)) || (decide (0 < l[k].fine) && decide (l[k].fine ∈ usedS (l.take k)))) from rfl)
      generalize parClash (l.take k) l[k] = CL at *
      generalize parBad ps l[k] = BD at *
      generalize parF ps (l.take k) l[k] = FF at *
      have hnm : l[k].nm = l[k].name.data.toList := rfl
      rw [hnm] at HFD HIN HTK
      obtain ⟨ro, rcap, rfl, _⟩ := CellsS.shape hrv
      clear hnm hc hcc g0 g1 g2 g3 g5 hrv hB hns HBB HCR
      generalize (l.take k).map Par.nm = SN at *
      generalize (l.take k).map (fun y => Lit.string y.nm) = S at *
      generalize usedS (l.take k) = US at *
      generalize hrk : l[k] = rk at *
      clear hrk
      obtain ⟨xn, xg, xs, xf, xd, xb, xr⟩ := rk
      simp only at *
      have HBX := Lib.hid (KA.out _ (.cells #[.string xn, .int .i64 xg, .int .i64 xs, .int .i64 xf, .int .i64 xd, .bool xb, .slice ro xr.length rcap] 73) HBW.out)
      have HSX := Lib.hid (HSE.out.kept (World.grownBy_alloc wr (.cells #[.string xn, .int .i64 xg, .int .i64 xs, .int .i64 xf, .int .i64 xd, .bool xb, .slice ro xr.length rcap] 73) none) (by simp))
      have HSY := Lib.hid (HSI.out.kept (World.grownBy_alloc wr (.cells #[.string xn, .int .i64 xg, .int .i64 xs, .int .i64 xf, .int .i64 xd, .bool xb, .slice ro xr.length rcap] 73) none) (by simp))
      clear HSE HSI
      rcases Bool.eq_false_or_eq_true (nameB xn.data.toList) with k0 | k0
      rotate_left
      · skip
        have HE : FF = 5 := by rw [HFD.out]; simp [k0]
        have HV := Lib.hid (show RES = 5 by rw [HRF.out, HSB.out (by rw [HE]; decide), HE])
        clear HE
        go_wp2_with (first | (go_at_call 69; ((with_reducible refine (fLevel_R _ _).mono ?_); rintro e w' ⟨rfl, rfl⟩)) | (go_at_call 46; ((with_reducible refine (within_R _ _ _ _).mono ?_); rintro e w' ⟨rfl, rfl⟩)) | (go_at_call 68; ((with_reducible refine (name_any _ _ (by first | exact HNS.out | exact hpn)).mono ?_); rintro e w' ⟨rfl, rfl⟩)) | fail)
        go_ret
        exact ⟨by rw [HV.out] <;> rfl, (KC.out _ HBX.out).1⟩
      by_cases hin : xn.data.toList ∈ SN
      · have hq1 := HSX.out.look_in keyS_ (t := 88) Tryz.underlying88 Tryz.underlying4 (zeroB_ _) HKN.out (HIN.out.2 hin)
        have HE : FF = 6 := by rw [HFD.out]; simp [k0, hin]
        have HV := Lib.hid (show RES = 6 by rw [HRF.out, HSB.out (by rw [HE]; decide), HE])
        clear HE
        go_wp2_with (first | (go_at_call 69; ((with_reducible refine (fLevel_R _ _).mono ?_); rintro e w' ⟨rfl, rfl⟩)) | (go_at_call 46; ((with_reducible refine (within_R _ _ _ _).mono ?_); rintro e w' ⟨rfl, rfl⟩)) | (go_at_call 68; ((with_reducible refine (name_any _ _ (by first | exact HNS.out | exact hpn)).mono ?_); rintro e w' ⟨rfl, rfl⟩)) | fail)
        go_ret
        exact ⟨by rw [HV.out] <;> rfl, (KC.out _ HBX.out).1⟩
      have hq1 := HSX.out.look_out keyS_ (t := 88) Tryz.underlying88 Tryz.underlying4 (zeroB_ _) HKN.out (fun h => hin (HIN.out.1 h))
      rcases Bool.eq_false_or_eq_true (inR xg 1 4) with k1 | k1
      rotate_left
      · skip
        have HE : FF = 4 := by rw [HFD.out]; simp [k0, hin, k1]
        have HV := Lib.hid (show RES = 4 by rw [HRF.out, HSB.out (by rw [HE]; decide), HE])
        clear HE
        go_wp2_with (first | (go_at_call 69; ((with_reducible refine (fLevel_R _ _).mono ?_); rintro e w' ⟨rfl, rfl⟩)) | (go_at_call 46; ((with_reducible refine (within_R _ _ _ _).mono ?_); rintro e w' ⟨rfl, rfl⟩)) | (go_at_call 68; ((with_reducible refine (name_any _ _ (by first | exact HNS.out | exact hpn)).mono ?_); rintro e w' ⟨rfl, rfl⟩)) | fail)
        go_ret
        exact ⟨by rw [HV.out] <;> rfl, (KC.out _ HBX.out).1⟩
      have HFX := Lib.hid (show FF = if BD then 1 else if CL then 12 else chkRngs xr by rw [HFD.out]; simp [k0, hin, k1])
      go_upto_region 19 with (first | (go_at_call 69; ((with_reducible refine (fLevel_R _ _).mono ?_); rintro e w' ⟨rfl, rfl⟩)) | (go_at_call 46; ((with_reducible refine (within_R _ _ _ _).mono ?_); rintro e w' ⟨rfl, rfl⟩)) | (go_at_call 68; ((with_reducible refine (name_any _ _ (by first | exact HNS.out | exact hpn)).mono ?_); rintro e w' ⟨rfl, rfl⟩)) | fail)
      clear HFD k0 k1 hin hq1
      have HFD := HFX
      clear HFX
      go_cut [52] (fun s52 wx => s52 = .bool BD ∧ wx = wr.alloc (.cells #[.string xn, .int .i64 xg, .int .i64 xs, .int .i64 xf, .int .i64 xd, .bool xb, .slice ro xr.length rcap] 73))
      case first =>
        have HQ := HBD
        rcases Bool.eq_false_or_eq_true (inR xs 1 ps) with j0 | j0
        rotate_left
        · skip
          have HV := Lib.hid (show BD = true by rw [HQ.out]; simp [j0])
          go_wp2_with (first | (go_at_call 69; ((with_reducible refine (fLevel_R _ _).mono ?_); rintro e w' ⟨rfl, rfl⟩)) | (go_at_call 46; ((with_reducible refine (within_R _ _ _ _).mono ?_); rintro e w' ⟨rfl, rfl⟩)) | (go_at_call 68; ((with_reducible refine (name_any _ _ (by first | exact HNS.out | exact hpn)).mono ?_); rintro e w' ⟨rfl, rfl⟩)) | fail)
          all_goals go_meet
          all_goals exact ⟨by rw [HV.out] <;> rfl, rfl⟩
        rcases Bool.eq_false_or_eq_true (inR xf 0 ps) with j1 | j1
        rotate_left
        · skip
          have HV := Lib.hid (show BD = true by rw [HQ.out]; simp [j0, j1])
          go_wp2_with (first | (go_at_call 69; ((with_reducible refine (fLevel_R _ _).mono ?_); rintro e w' ⟨rfl, rfl⟩)) | (go_at_call 46; ((with_reducible refine (within_R _ _ _ _).mono ?_); rintro e w' ⟨rfl, rfl⟩)) | (go_at_call 68; ((with_reducible refine (name_any _ _ (by first | exact HNS.out | exact hpn)).mono ?_); rintro e w' ⟨rfl, rfl⟩)) | fail)
          all_goals go_meet
          all_goals exact ⟨by rw [HV.out] <;> rfl, rfl⟩
        rcases Bool.eq_false_or_eq_true (inR xd 0 65535) with j2 | j2
        rotate_left
        · skip
          have HV := Lib.hid (show BD = true by rw [HQ.out]; simp [j0, j1, j2])
          go_wp2_with (first | (go_at_call 69; ((with_reducible refine (fLevel_R _ _).mono ?_); rintro e w' ⟨rfl, rfl⟩)) | (go_at_call 46; ((with_reducible refine (within_R _ _ _ _).mono ?_); rintro e w' ⟨rfl, rfl⟩)) | (go_at_call 68; ((with_reducible refine (name_any _ _ (by first | exact HNS.out | exact hpn)).mono ?_); rintro e w' ⟨rfl, rfl⟩)) | fail)
          all_goals go_meet
          all_goals exact ⟨by rw [HV.out] <;> rfl, rfl⟩
        · skip
          have HV := Lib.hid (show BD = false by rw [HQ.out]; simp [j0, j1, j2])
          go_wp2_with (first | (go_at_call 69; ((with_reducible refine (fLevel_R _ _).mono ?_); rintro e w' ⟨rfl, rfl⟩)) | (go_at_call 46; ((with_reducible refine (within_R _ _ _ _).mono ?_); rintro e w' ⟨rfl, rfl⟩)) | (go_at_call 68; ((with_reducible refine (name_any _ _ (by first | exact HNS.out | exact hpn)).mono ?_); rintro e w' ⟨rfl, rfl⟩)) | fail)
          all_goals go_meet
          all_goals exact ⟨by rw [HV.out] <;> rfl, rfl⟩
      case rest =>
        obtain ⟨rfl, rfl⟩ := hcut
        cases BD
        rotate_left
        · skip
          have HE : FF = 1 := by rw [HFD.out]; rfl
          have HV := Lib.hid (show RES = 1 by rw [HRF.out, HSB.out (by rw [HE]; decide), HE])
          clear HE
          go_wp2_with fail
          go_ret
          exact ⟨by rw [HV.out] <;> rfl, (KC.out _ HBX.out).1⟩
        go_upto_region 21 with fail
        go_cut [73] (fun s73 wx => s73 = .bool CL ∧ wx = wr.alloc (.cells #[.string xn, .int .i64 xg, .int .i64 xs, .int .i64 xf, .int .i64 xd, .bool xb, .slice ro xr.length rcap] 73))
        case first =>
          have HQ := HCL
          by_cases j0 : xs = xf
          · skip
            have HV := Lib.hid (show CL = true by rw [HQ.out]; simp [j0])
            have j3 : (xs == xf) = true := by simpa using j0
            clear j0
            go_wp2_with fail
            all_goals go_meet
            all_goals exact ⟨by rw [HV.out] <;> rfl, rfl⟩
          have j3 : (xs == xf) = false := by simpa using j0
          by_cases hs1 : xs ∈ US
          · have hq1 := HSY.out.look_in keyI_ (t := 113) Tryz.underlying113 Tryz.underlying4 (zeroB_ _) HK1.out (HI1.out.2 hs1)
            have HV := Lib.hid (show CL = true by rw [HQ.out]; simp [j0, hs1])
            go_wp2_with fail
            all_goals go_meet
            all_goals exact ⟨by rw [HV.out] <;> rfl, rfl⟩
          have hq1 := HSY.out.look_out keyI_ (t := 113) Tryz.underlying113 Tryz.underlying4 (zeroB_ _) HK1.out (fun h => hs1 (HI1.out.1 h))
          by_cases j1 : 0 < xf
          rotate_left
          · skip
            have HV := Lib.hid (show CL = false by rw [HQ.out]; simp [j0, hs1, j1])
            go_wp2_with fail
            all_goals go_meet
            all_goals exact ⟨by rw [HV.out] <;> rfl, rfl⟩
          by_cases hs2 : xf ∈ US
          · have hq2 := HSY.out.look_in keyI_ (t := 113) Tryz.underlying113 Tryz.underlying4 (zeroB_ _) HK2.out (HI2.out.2 hs2)
            have HV := Lib.hid (show CL = true by rw [HQ.out]; simp [j0, hs1, j1, hs2])
            go_wp2_with fail
            all_goals go_meet
            all_goals exact ⟨by rw [HV.out] <;> rfl, rfl⟩
          · have hq2 := HSY.out.look_out keyI_ (t := 113) Tryz.underlying113 Tryz.underlying4 (zeroB_ _) HK2.out (fun h => hs2 (HI2.out.1 h))
            have HV := Lib.hid (show CL = false by rw [HQ.out]; simp [j0, hs1, j1, hs2])
            go_wp2_with fail
            all_goals go_meet
            all_goals exact ⟨by rw [HV.out] <;> rfl, rfl⟩
        case rest =>
          obtain ⟨rfl, rfl⟩ := hcut
          cases CL
          rotate_left
          · skip
            have HE : FF = 12 := by rw [HFD.out]; rfl
            have HV := Lib.hid (show RES = 12 by rw [HRF.out, HSB.out (by rw [HE]; decide), HE])
            clear HE
            go_wp2_with fail
            go_ret
            exact ⟨by rw [HV.out] <;> rfl, (KC.out _ HBX.out).1⟩
          have HFX := Lib.hid (show FF = chkRngs xr by rw [HFD.out]; rfl)
          clear HFD HBD HCL HIN HI1 HI2
          have HRX := Lib.hid (HRC.out _ (KC.out _ HBX.out).1)
          generalize chkRngs xr = E at *
          go_wp2_with fail
          refine HRX.out.mono ?_
          rintro e wc ⟨rfl, hbc⟩
          simp only [World.size_alloc] at hbc
          have hzc := hbc.size
          simp only [World.size_alloc] at hzc
          have HBC := Lib.hid (HBX.out.trans (hbc.mono (by omega)))
          have HSN := Lib.hid (HSX.out.below hbc (by omega))
          have HSL := Lib.hid (HSY.out.below hbc (by omega))
          have e0 : wc.cell? ⟨wr.heap.size, 0, none⟩ = some (.string xn) := (hbc.cell (p := ⟨wr.heap.size, 0, none⟩) (by simp)).trans (by simp [go_sem])
          have e2 : wc.cell? ⟨wr.heap.size, 2, none⟩ = some (.int .i64 xs) := (hbc.cell (p := ⟨wr.heap.size, 2, none⟩) (by simp)).trans (by simp [go_sem])
          have e3 : wc.cell? ⟨wr.heap.size, 3, none⟩ = some (.int .i64 xf) := (hbc.cell (p := ⟨wr.heap.size, 3, none⟩) (by simp)).trans (by simp [go_sem])
          clear hbc HRX HRC d0 d1 d2 d3 d4 d5 d6 HSX HSY HBX HBW p0 p1 p2
          by_cases hE : E = 0
          rotate_left
          · have HV := Lib.hid (show RES = E by rw [HRF.out, HSB.out (by rw [HFX.out]; exact hE), HFX.out])
            go_wp2_with fail
            go_ret
            exact ⟨by rw [HV.out] <;> rfl, (KC.out _ HBC.out).1⟩
          have HV := Lib.hid (show RES = scanF (parF ps) l (k + 1) by rw [HRF.out, HSG.out (by rw [HFX.out]; exact hE)])
          subst hE
          go_upto_region 26 with fail
          obtain ⟨wa, ra1, sa, ga⟩ := HSN.out.drew.update keyS_ (t := 88) Tryz.underlying88 Tryz.underlying4 (by unfold maxLen; omega) HKN.out
          obtain ⟨wb, rb1, sb, gb⟩ := HSL.out.drew.update keyI_ (t := 113) Tryz.underlying113 Tryz.underlying4 (by unfold maxLen; omega) HK1.out
          have sa' := HSL.out.drew.kept ga (by simp)
          have sb' := HSN.out.drew.kept gb (by simp)
          obtain ⟨wab, ra2, sab, gab⟩ := sa'.update keyI_ (t := 113) Tryz.underlying113 Tryz.underlying4 (by unfold maxLen; omega) HK1.out
          obtain ⟨wba, rb2, sba, gba⟩ := sb'.update keyS_ (t := 88) Tryz.underlying88 Tryz.underlying4 (by unfold maxLen; omega) HKN.out
          have za := ga.size
          have zb := gb.size
          have zab := gab.size
          have zba := gba.size
          simp only [World.size_drew] at za zb
          have e0d : wc.drew.cell? ⟨wr.heap.size, 0, none⟩ = some (.string xn) := e0
          have e2d : wc.drew.cell? ⟨wr.heap.size, 2, none⟩ = some (.int .i64 xs) := e2
          have ea0 := (grown_cell (off := 0) (b := wr.heap.size) ga (by simp; omega) (by omega)).trans e0d
          have ea2 := (grown_cell (off := 2) (b := wr.heap.size) ga (by simp; omega) (by omega)).trans e2d
          have eb0 := (grown_cell (off := 0) (b := wr.heap.size) gb (by simp; omega) (by omega)).trans e0d
          have eb2 := (grown_cell (off := 2) (b := wr.heap.size) gb (by simp; omega) (by omega)).trans e2d
          have eab0 := (grown_cell (off := 0) (b := wr.heap.size) gab (by omega) (by omega)).trans ea0
          have eab2 := (grown_cell (off := 2) (b := wr.heap.size) gab (by omega) (by omega)).trans ea2
          have eba0 := (grown_cell (off := 0) (b := wr.heap.size) gba (by omega) (by omega)).trans eb0
          have eba2 := (grown_cell (off := 2) (b := wr.heap.size) gba (by omega) (by omega)).trans eb2
          have HAB := Lib.hid (show (SeenM wab Tryz.prog 9 4 (w.heap.size + 1) (k + 1) (S ++ [Lit.string xn.data.toList]) ∧ SeenM wab Tryz.prog 3 4 (w.heap.size + 1 + 1) (2 * k + 1) (US.map (Lit.int .i64) ++ [Lit.int .i64 xs]) ∧ Below (w.heap.size + 1) (w.alloc (.cells #[.string pn, .int .i64 ps, .slice (some ⟨b, off, none⟩) l.length cap] 70)) wab ∧ wc.heap.size ≤ wab.heap.size ∧ wab.cell? ⟨wr.heap.size, 3, none⟩ = some (.int .i64 xf)) from ⟨sa.kept gab (by simp), sab, (HBC.out.drew.grown ga (by simp; omega) (fun j hj => by cases hj; omega)).grown gab (by omega) (fun j hj => by cases hj; omega), by omega, (grown_cell gab (by omega) (by omega)).trans ((grown_cell ga (by simp; omega) (by omega)).trans e3)⟩)
          have HBA := Lib.hid (show (SeenM wba Tryz.prog 9 4 (w.heap.size + 1) (k + 1) (S ++ [Lit.string xn.data.toList]) ∧ SeenM wba Tryz.prog 3 4 (w.heap.size + 1 + 1) (2 * k + 1) (US.map (Lit.int .i64) ++ [Lit.int .i64 xs]) ∧ Below (w.heap.size + 1) (w.alloc (.cells #[.string pn, .int .i64 ps, .slice (some ⟨b, off, none⟩) l.length cap] 70)) wba ∧ wc.heap.size ≤ wba.heap.size ∧ wba.cell? ⟨wr.heap.size, 3, none⟩ = some (.int .i64 xf)) from ⟨sba, sb.kept gba (by simp), (HBC.out.drew.grown gb (by simp; omega) (fun j hj => by cases hj; omega)).grown gba (by omega) (fun j hj => by cases hj; omega), by omega, (grown_cell gba (by omega) (by omega)).trans ((grown_cell gb (by simp; omega) (by omega)).trans e3)⟩)
          clear sa sb sa' sb' sab sba ga gb gab gba za zb zab zba
          go_cut [] (fun wx => SeenM wx Tryz.prog 9 4 (w.heap.size + 1) (k + 1) (S ++ [Lit.string xn.data.toList]) ∧ SeenM wx Tryz.prog 3 4 (w.heap.size + 1 + 1) (2 * k + 1) (US.map (Lit.int .i64) ++ [Lit.int .i64 xs]) ∧ Below (w.heap.size + 1) (w.alloc (.cells #[.string pn, .int .i64 ps, .slice (some ⟨b, off, none⟩) l.length cap] 70)) wx ∧ wc.heap.size ≤ wx.heap.size ∧ wx.cell? ⟨wr.heap.size, 3, none⟩ = some (.int .i64 xf))
          case first =>
            go_region_held3 (fun W => W.cell? ⟨wr.heap.size, 0, none⟩ = some (.string xn) ∧ W.cell? ⟨wr.heap.size, 2, none⟩ = some (.int .i64 xs))
              (constructor <;> assumption)
              (fail)
            all_goals go_wp2_with fail
            all_goals go_meet
            all_goals first | exact HAB.out | exact HBA.out
          case rest =>
            obtain ⟨hs1, hs2, hb6, hz6, c3⟩ := hcut
            have HS1 := Lib.hid hs1
            have HS2 := Lib.hid hs2
            have HB6 := Lib.hid hb6
            have hw6 : w.heap.size + 1 + 1 < wc.heap.size := by omega
            clear HAB HBA hs1 hs2 hb6 ra1 ra2 rb1 rb2 e0 e2 e3 e0d e2d ea0 ea2 eb0 eb2 eab0 eab2 eba0 eba2
            by_cases j1 : 0 < xf
            · obtain ⟨wz, rz, sz, gz⟩ := HS2.out.update keyI_ (t := 113) Tryz.underlying113 Tryz.underlying4 (by unfold maxLen; omega) HK2.out
              have HS3 := Lib.hid (HS1.out.kept gz (by simp))
              have HB7 := Lib.hid (HB6.out.grown gz (by omega) (fun j hj => by cases hj; omega))
              have HZ := Lib.hid (show SeenM wz Tryz.prog 3 4 (w.heap.size + 1 + 1) (2 * (k + 1)) ((usedS (l.take (k + 1))).map (Lit.int .i64)) by
                rw [HUS.out, HSP.out, if_pos j1]
                have := sz.mono (m := 2 * (k + 1)) (by omega)
                simpa using this)
              have hz7 := gz.size
              clear gz sz HS2
              go_wp2_with fail
              go_roundw
              case rel => exact ⟨k + 1, by omega, by first | rfl | go_num, HV, HB7, Lib.hid (by rw [HTK.out]; exact HS3.out), HZ, by omega⟩
              case measure => simp [intOf]; omega
            · have HZ := Lib.hid (show SeenM wc Tryz.prog 3 4 (w.heap.size + 1 + 1) (2 * (k + 1)) ((usedS (l.take (k + 1))).map (Lit.int .i64)) by
                rw [HUS.out, HSP.out, if_neg j1]
                have := HS2.out.mono (m := 2 * (k + 1)) (by omega)
                simpa using this)
              clear HS2
              go_wp2_with fail
              go_roundw
              case rel => exact ⟨k + 1, by omega, by first | rfl | go_num, HV, HB6, Lib.hid (by rw [HTK.out]; exact HS1.out), HZ, by omega⟩
              case measure => simp [intOf]; omega
    · have HV := Lib.hid (show RES = 0 by rw [HRF.out, scanF_end (parF ps) l k (by omega)])
      have HBB := Lib.hid hB
      clear hB
      have hkk : k = l.length := by omega
      subst hkk
      go_wp2_with fail
      go_ret
      exact ⟨by rw [HV.out] <;> rfl, HBB.out⟩
end Go.Proofs.YtppbagllhmeenaaGreatDoor
