/- fixture.CheckRig. (printed by wip/gen/gen_ckrig.py) -/
import Derived.Test.YtppbagllhmeenaaGreatDoorT62M19
import Derived.Test.YtppbagllhmeenaaGreatDoorT62M26
import Derived.Test.YtppbagllhmeenaaGreatDoorT62M28
import Derived.Test.YtppbagllhmeenaaGreatDoorT62M29

namespace Go.Proofs.YtppbagllhmeenaaGreatDoor
open Go.RowKit
set_option linter.unusedVariables false
set_option linter.unusedSimpArgs false

set_option maxRecDepth 100000 in
set_option maxHeartbeats 16000000 in
theorem ckRig_any (x : Rig) (lv uv : Value) (w : World) (h : RigAt w.heap.size w x lv uv) (hf : RigFit x) :
    Calls Tryz.prog 23 #[rigV lv uv] w fun e w' => e = .returned (.int .i64 (chkRig x)) ∧ Below w.heap.size w w' := by
  have CL := Lib.hid (fun W (hb : Below w.heap.size w W) => ckLibrary_any lv x.lib W ((h.lib.below hb).more hb.size) hf.1)
  have CP := Lib.hid (fun (nm : ByteArray) W (hb : Below w.heap.size w W) => profile_any lv x.lib nm W ((h.lib.below hb).more hb.size))
  have HG := Lib.hid (UntS.get h.units)
  have HF := Lib.hid hf.2
  have hm := CellsS.len h.units
  unfold maxLen at hm
  obtain ⟨⟨ll, hll, hlc, _⟩, hu⟩ := h
  obtain ⟨lo, lcap, rfl, _⟩ := CellsS.shape hlc
  obtain ⟨uo, ucap, rfl, _⟩ := CellsS.shape hu
  rw [show ll.length = x.lib.length by rw [← hll]; simp] at *
  clear hll hlc hu hf
  obtain ⟨lib, units⟩ := x
  simp only [rigV] at *
  have HC0 := Lib.hid (show chkRig ⟨lib, units⟩ = if chkLib lib ≠ 0 then chkLib lib else if 400 < units.length then 2 else scanF (untF lib) units 0 from rfl)
  have HCL := Lib.hid (fun (h : chkLib lib = 0) => h)
  have HCF := Lib.hid (@clash_free lib)
  have HCN := Lib.hid (@clash_none lib)
  have HSP := Lib.hid (@size_pos lib)
  generalize chkRig ⟨lib, units⟩ = RES at *
  have KC := Lib.hid (show ∀ W, Below (w.heap.size + 1) (w.alloc (.cells #[.slice lo lib.length lcap, .slice uo units.length ucap] 25)) W → (Below w.heap.size w W ∧ w.heap.size < W.heap.size ∧ W.cell? ⟨w.heap.size, 0, none⟩ = some (.slice lo lib.length lcap) ∧ W.cell? ⟨w.heap.size, 1, none⟩ = some (.slice uo units.length ucap)) from fun W hW => by
    have hz := hW.size
    simp at hz
    exact ⟨((Below.refl _ _).alloc (Nat.le_refl _) _).trans (hW.mono (by omega)), by omega, (hW.cell (p := ⟨w.heap.size, 0, none⟩) (by simp)).trans (by simp [go_sem]), (hW.cell (p := ⟨w.heap.size, 1, none⟩) (by simp)).trans (by simp [go_sem])⟩)
  have KA := Lib.hid (show ∀ W o, Below (w.heap.size + 1) (w.alloc (.cells #[.slice lo lib.length lcap, .slice uo units.length ucap] 25)) W → Below (w.heap.size + 1) (w.alloc (.cells #[.slice lo lib.length lcap, .slice uo units.length ucap] 25)) (W.alloc o) from fun W o h => h.alloc (by have := h.size; simp at this; omega) o)
  have KM := Lib.hid (show ∀ W W1, Below (w.heap.size + 1) (w.alloc (.cells #[.slice lo lib.length lcap, .slice uo units.length ucap] 25)) W → Below W.heap.size W W1 → Below (w.heap.size + 1) (w.alloc (.cells #[.slice lo lib.length lcap, .slice uo units.length ucap] 25)) W1 from fun W W1 h1 h2 => h1.trans (h2.mono (by have := h1.size; simp at this; omega)))
  have HK0 := Lib.hid (Below.refl (w.heap.size + 1) (w.alloc (.cells #[.slice lo lib.length lcap, .slice uo units.length ucap] 25)))
  have CL1 := Lib.hid (CL.out _ (KC.out _ HK0.out).1)
  clear CL
  go_enter Tryz.func23, Tryz.ntmps23
  go_wp2_with fail
  refine CL1.out.mono ?_
  rintro e w2 ⟨rfl, hb2⟩
  have HB2 := Lib.hid (KM.out _ _ HK0.out hb2)
  clear hb2 CL1
  obtain ⟨hB2, hz2, p0, p1⟩ := KC.out _ HB2.out
  by_cases hE : chkLib lib = 0
  rotate_left
  · have HV := Lib.hid (show RES = chkLib lib by rw [HC0.out, if_pos hE])
    have HBB := Lib.hid hB2
    clear hB2 HCL HCF HSP
    generalize chkLib lib = E at *
    go_wp2_with fail
    go_ret
    exact ⟨by rw [HV.out] <;> rfl, HBB.out⟩
  have HCF := Lib.hid (fun pre hp (u : Unt) (p : Prf) hu hb => HCF.out hE pre hp u p hu hb)
  have HSP := Lib.hid (fun (u : Unt) (p : Prf) (hu : profOf lib u.nm = some p) => HSP.out hE hu)
  have hC1 : RES = if 400 < units.length then 2 else scanF (untF lib) units 0 := by rw [HC0.out, if_neg (by simpa using hE)]
  have HC1 := Lib.hid hC1
  clear HC0 HCL hC1
  rw [hE]
  clear hE
  by_cases h4 : 400 < units.length
  · have HV := Lib.hid (show RES = 2 by rw [HC1.out, if_pos h4])
    have HBB := Lib.hid hB2
    clear hB2
    go_wp2_with fail
    go_ret
    exact ⟨by rw [HV.out] <;> rfl, HBB.out⟩
  have HC := Lib.hid (show RES = scanF (untF lib) units 0 by rw [HC1.out, if_neg h4])
  have h31 : units.length ≤ 400 := by omega
  have HBM := Lib.hid (KA.out _ (.map #[] 0) HB2.out)
  clear HC1 h4 hB2
  have hmm := @run_makeMap Tryz.prog
  go_wp2_with fail
  clear hmm p0 p1
  go_loopw [23] (fun i wx => ∃ k : Nat, k ≤ units.length ∧ i = .int .i64 k ∧ Hid (RES = scanF (untF lib) units k) ∧ Hid (Below (w.heap.size + 1) (w.alloc (.cells #[.slice lo lib.length lcap, .slice uo units.length ucap] 25)) wx) ∧ Hid (UsedS w2.heap.size wx w2.heap.size (usOf lib (units.take k))) ∧ Hid (∀ j (hj : j < units.length), j < k → untF lib (units.take j) units[j] = 0) ∧ w2.heap.size < wx.heap.size) (fun i _ => units.length - (intOf i).toNat)
  case atStart => exact ⟨0, Nat.zero_le _, rfl, HC, HBM, Lib.hid (by simpa [usOf] using used_made w2.heap.size w2), Lib.hid (fun j _ h => absurd h (Nat.not_lt_zero _)), by simp⟩
  case round =>
    obtain ⟨k, hk, rfl, HRF, HBW, HUS, HPK, hlw⟩ := hrel
    obtain ⟨hB, hz, p0, p1⟩ := KC.out wr HBW.out
    by_cases hlt : k < units.length
    · obtain ⟨b, off, cap', hsl, hb, _, hc⟩ := HG.out (by omega)
      injection hsl with hs1 hs2 hs3
      subst hs1 hs3
      obtain ⟨d0, d1, d2, d3⟩ := hc k hlt wr hB
      have HPR := Lib.hid (fun (h0 : 0 < k) => hc (k - 1) (by omega) wr hB)
      have hbr : b < wr.heap.size := by have := hB.size; omega
      obtain ⟨g0, g1, g2, g3⟩ := HF.out _ (List.getElem_mem hlt)
      have HG1 := Lib.hid g1
      have HSG := Lib.hid (scanF_good (untF lib) units k hlt)
      have HSB := Lib.hid (scanF_bad (untF lib) units k hlt)
      have HFD := Lib.hid (show untF lib (units.take k) units[k] = if !inR units[k].num 1 9999 then 1 else if untLow (units.take k) units[k] then 7 else if (profOf lib units[k].nm).isNone then 5 else if untBad units[k] (sizeOf' lib units[k]) then 1 else if (units.take k).any (clashU lib units[k]) then 12 else 0 from rfl)
      have HLW0 := Lib.hid (show k = 0 → untLow (units.take k) units[k] = false from fun h0 => by subst h0; rfl)
      have HLW := Lib.hid (show ∀ h0 : 0 < k, untLow (units.take k) units[k] = decide (units[k].num ≤ (units[k - 1]'(by omega)).num) from fun h0 => by unfold untLow; rw [last_take units k hlt h0]; rfl)
      have HKW := Lib.hid (pre_known hk HPK.out)
      have HPK2 := Lib.hid (show untF lib (units.take k) units[k] = 0 → ∀ j (hj : j < units.length), j < k + 1 → untF lib (units.take j) units[j] = 0 from fun h j hj hjk => by
        by_cases c : j = k
        · subst c; exact h
        · exact HPK.out j hj (by omega))
      have HUN := Lib.hid (usOf_snoc lib units k hlt)
      have HCX := Lib.hid (fun (p : Prf) (hu : profOf lib units[k].nm = some p) (hb : untBad units[k] p.size = false) => HCF.out _ HKW.out units[k] p hu hb)
      have HCY := Lib.hid (HCN.out (units.take k) units[k])
      have HSX := Lib.hid (HSP.out units[k])
      have HSO := Lib.hid (show ∀ p, profOf lib units[k].nm = some p → sizeOf' lib units[k] = p.size from fun p hu => size_of hu)
      have HUL := Lib.hid (show (usOf lib (units.take k)).length ≤ 100000 by rw [usOf_len, List.length_take]; omega)
      have hnm : units[k].nm = units[k].prof.data.toList := rfl
      rw [hnm] at HFD HCX HSX HSO
      generalize untLow (units.take k) units[k] = LW at *
      generalize untF lib (units.take k) units[k] = FF at *
      generalize (units.take k).any (clashU lib units[k]) = CH at *
      generalize usOf lib (units.take k) = US at *
      clear hnm hc g0 g1 g2 g3 HKW HPK hB
      generalize hrk : units[k] = rk at *
      clear hrk
      obtain ⟨un, up, uu, ua⟩ := rk
      simp only at *
      have HBX := Lib.hid (KA.out _ (.cells #[.int .i64 un, .string up, .int .i64 uu, .int .i64 ua] 51) HBW.out)
      have HUX := Lib.hid (HUS.out.alloc (.cells #[.int .i64 un, .string up, .int .i64 uu, .int .i64 ua] 51))
      clear HUS
      rcases Bool.eq_false_or_eq_true (inR un 1 9999) with k0 | k0
      rotate_left
      · skip
        have HE : FF = 1 := by rw [HFD.out]; simp [k0]
        have HV := Lib.hid (show RES = 1 by rw [HRF.out, HSB.out (by rw [HE]; decide), HE])
        clear HE
        go_wp2_with (first | (go_at_call 46; ((with_reducible refine (within_R _ _ _ _).mono ?_); rintro e w' ⟨rfl, rfl⟩)) | fail)
        go_ret
        exact ⟨by rw [HV.out] <;> rfl, (KC.out _ HBX.out).1⟩
      have HFX := Lib.hid (show FF = if LW then 7 else if (profOf lib up.data.toList).isNone then 5 else if untBad ⟨un, up, uu, ua⟩ (sizeOf' lib ⟨un, up, uu, ua⟩) then 1 else if CH then 12 else 0 by rw [HFD.out]; simp [k0])
      go_upto_region 12 with (first | (go_at_call 46; ((with_reducible refine (within_R _ _ _ _).mono ?_); rintro e w' ⟨rfl, rfl⟩)) | fail)
      clear HFD k0
      have HFD := HFX
      clear HFX
      go_cut [45] (fun s45 wx => s45 = .bool LW ∧ Below wx.heap.size (wr.alloc (.cells #[.int .i64 un, .string up, .int .i64 uu, .int .i64 ua] 51)) wx ∧ wx.heap.size = wr.heap.size + 1)
      case first =>
        by_cases h0 : k = 0
        · subst h0
          have HV := Lib.hid (HLW0.out rfl)
          clear HPR HLW HLW0
          go_quiet (fail)
          go_wp2_with fail
          all_goals go_meet
          all_goals exact ⟨by rw [HV.out] <;> rfl, bel_drewF (Below.refl _ _) _, by simp⟩
        · obtain ⟨j, rfl⟩ : ∃ j, k = j + 1 := ⟨k - 1, by omega⟩
          have HLX := Lib.hid (HLW.out (by omega))
          obtain ⟨d4, _, _, _⟩ := HPR.out (by omega)
          clear HPR HLW HLW0
          simp only [Nat.add_sub_cancel] at d4
          have hlow : (units[j + 1 - 1]'(by omega)) = units[j] := by simp
          rw [hlow] at HLX
          clear hlow
          generalize units[j] = rj at *
          obtain ⟨jn, jp, ju, ja⟩ := rj
          simp only at d4
          have hji : ((j + 1 : Nat) : Int) - 1 = (j : Int) := by omega
          by_cases hle : un ≤ jn
          · skip
            have HV := Lib.hid (show LW = true by rw [HLX.out]; simpa using hle)
            clear HLX
            go_quiet (fail)
            go_wp2_with fail
            all_goals go_meet
            all_goals exact ⟨by rw [HV.out] <;> rfl, bel_drewF (Below.refl _ _) _, by simp⟩
          · skip
            have HV := Lib.hid (show LW = false by rw [HLX.out]; simpa using hle)
            clear HLX
            have hled : decide (un ≤ jn) = false := by simpa using hle
            go_quiet (fail)
            go_wp2_with fail
            all_goals go_meet
            all_goals exact ⟨by rw [HV.out] <;> rfl, bel_drewF (Below.refl _ _) _, by simp⟩
      case rest =>
        obtain ⟨rfl, hb3, hz3⟩ := hcut
        have HBC := Lib.hid (KM.out _ wc HBX.out (hb3.mono (by simp; omega)))
        have HUC := Lib.hid (HUX.out.below (hb3.mono (by simp; omega)))
        have e0 : wc.cell? ⟨wr.heap.size, 0, none⟩ = some (.int .i64 un) := (hb3.cell (p := ⟨wr.heap.size, 0, none⟩) (by simp; omega)).trans (by simp [go_sem])
        have e1 : wc.cell? ⟨wr.heap.size, 1, none⟩ = some (.string up) := (hb3.cell (p := ⟨wr.heap.size, 1, none⟩) (by simp; omega)).trans (by simp [go_sem])
        have e2 : wc.cell? ⟨wr.heap.size, 2, none⟩ = some (.int .i64 uu) := (hb3.cell (p := ⟨wr.heap.size, 2, none⟩) (by simp; omega)).trans (by simp [go_sem])
        have e3 : wc.cell? ⟨wr.heap.size, 3, none⟩ = some (.int .i64 ua) := (hb3.cell (p := ⟨wr.heap.size, 3, none⟩) (by simp; omega)).trans (by simp [go_sem])
        clear hb3 d0 d1 d2 d3 HLW HLW0 HPR HBX HUX HBW p0 p1
        obtain ⟨hBc, _, p0, p1⟩ := KC.out wc HBC.out
        have hbc : b < wc.heap.size := by omega
        have CP1 := Lib.hid (CP.out up wc hBc)
        clear hBc
        cases LW
        rotate_left
        · have k0 := True.intro
          have HE : FF = 7 := by rw [HFD.out]; simp [k0]
          have HV := Lib.hid (show RES = 7 by rw [HRF.out, HSB.out (by rw [HE]; decide), HE])
          clear HE
          go_wp2_with fail
          go_ret
          exact ⟨by rw [HV.out] <;> rfl, (KC.out _ HBC.out).1⟩
        have HFX := Lib.hid (show FF = if (profOf lib up.data.toList).isNone then 5 else if untBad ⟨un, up, uu, ua⟩ (sizeOf' lib ⟨un, up, uu, ua⟩) then 1 else if CH then 12 else 0 by rw [HFD.out]; rfl)
        clear HFD
        have HFD := HFX
        clear HFX
        generalize profOf lib up.data.toList = PO at *
        go_wp2_with fail
        refine CP1.out.mono ?_
        rintro e w5 ⟨pv, rfl, hpv, hb5⟩
        have hz5 := hb5.size
        have hbu5 : wr.heap.size < w5.heap.size := by omega
        have HB5 := Lib.hid (KM.out _ _ HBC.out hb5)
        have HU5 := Lib.hid (HUC.out.below hb5)
        have f0 : w5.cell? ⟨wr.heap.size, 0, none⟩ = some (.int .i64 un) := (hb5.cell (p := ⟨wr.heap.size, 0, none⟩) (by simp; omega)).trans e0
        have f1 : w5.cell? ⟨wr.heap.size, 1, none⟩ = some (.string up) := (hb5.cell (p := ⟨wr.heap.size, 1, none⟩) (by simp; omega)).trans e1
        have f2 : w5.cell? ⟨wr.heap.size, 2, none⟩ = some (.int .i64 uu) := (hb5.cell (p := ⟨wr.heap.size, 2, none⟩) (by simp; omega)).trans e2
        have f3 : w5.cell? ⟨wr.heap.size, 3, none⟩ = some (.int .i64 ua) := (hb5.cell (p := ⟨wr.heap.size, 3, none⟩) (by simp; omega)).trans e3
        clear hb5 CP1 e0 e1 e2 e3 HBC HUC p0 p1
        cases PO with
        | none =>
          obtain rfl : pv = .agg #[.string ⟨#[]⟩, .int .i64 0, .slice none 0 0] := hpv
          have HB6 := Lib.hid (KA.out _ (.cells #[.string ⟨#[]⟩, .int .i64 0, .slice none 0 0] 70) HB5.out)
          have k0 := True.intro
          have HE : FF = 5 := by rw [HFD.out]; simp [k0]
          have HV := Lib.hid (show RES = 5 by rw [HRF.out, HSB.out (by rw [HE]; decide), HE])
          clear HE
          go_wp2_with fail
          go_ret
          exact ⟨by rw [HV.out] <;> rfl, (KC.out _ HB6.out).1⟩
        | some p =>
          obtain ⟨sv, rfl, hps⟩ := hpv
          obtain ⟨pn, pz, pl⟩ := p
          obtain ⟨po, pcap, rfl⟩ := parS_shape hps
          simp only at hps
          have HB6 := Lib.hid (KA.out _ (.cells #[.string pn, .int .i64 pz, .slice po pl.length pcap] 70) HB5.out)
          have HU6 := Lib.hid (HU5.out.alloc (.cells #[.string pn, .int .i64 pz, .slice po pl.length pcap] 70))
          have HCX := Lib.hid (HCX.out _ rfl)
          obtain ⟨hpz1, hpz2⟩ := HSX.out _ rfl
          have hso := HSO.out _ rfl
          rw [hso] at HUN
          have HFX := Lib.hid (show FF = if untBad ⟨un, up, uu, ua⟩ pz then 1 else if CH then 12 else 0 by rw [HFD.out, hso]; rfl)
          have HBD := Lib.hid (show untBad ⟨un, up, uu, ua⟩ pz = (!inR uu 1 64 || !inR ua 1 512 || decide (512 < ua + pz - 1)) from rfl)
          have HBF := Lib.hid (show untBad ⟨un, up, uu, ua⟩ pz = false → (1 ≤ uu ∧ uu ≤ 64) ∧ (1 ≤ ua ∧ ua ≤ 512) ∧ ua + pz - 1 ≤ 512 from fun h => untBad_false h)
          clear HFD hso HSX HSO HB5 HU5
          have HFD := HFX
          clear HFX
          simp only at HCX hpz1 hpz2 HUN
          generalize untBad ⟨un, up, uu, ua⟩ pz = BD at *
          go_upto_region 17 with fail
          go_cut [74] (fun s74 wx => s74 = .bool BD ∧ wx = w5.alloc (.cells #[.string pn, .int .i64 pz, .slice po pl.length pcap] 70))
          case first =>
            rcases Bool.eq_false_or_eq_true (inR uu 1 64) with j0 | j0
            rotate_left
            · skip
              have HV := Lib.hid (show BD = true by rw [HBD.out]; simp [j0])
              go_wp2_with (first | (go_at_call 46; ((with_reducible refine (within_R _ _ _ _).mono ?_); rintro e w' ⟨rfl, rfl⟩)) | fail)
              all_goals go_meet
              all_goals exact ⟨by rw [HV.out] <;> rfl, rfl⟩
            rcases Bool.eq_false_or_eq_true (inR ua 1 512) with j1 | j1
            rotate_left
            · skip
              have HV := Lib.hid (show BD = true by rw [HBD.out]; simp [j0, j1])
              go_wp2_with (first | (go_at_call 46; ((with_reducible refine (within_R _ _ _ _).mono ?_); rintro e w' ⟨rfl, rfl⟩)) | fail)
              all_goals go_meet
              all_goals exact ⟨by rw [HV.out] <;> rfl, rfl⟩
            obtain ⟨j4, j5⟩ := inR_true j1
            by_cases j2 : 512 < ua + pz - 1
            · skip
              have HV := Lib.hid (show BD = true by rw [HBD.out]; simp [j0, j1, j2])
              go_wp2_with (first | (go_at_call 46; ((with_reducible refine (within_R _ _ _ _).mono ?_); rintro e w' ⟨rfl, rfl⟩)) | fail)
              all_goals go_meet
              all_goals exact ⟨by rw [HV.out] <;> rfl, rfl⟩
            · skip
              have HV := Lib.hid (show BD = false by rw [HBD.out]; simp [j0, j1]; omega)
              have j3 : decide (512 < ua + pz - 1) = false := by simpa using j2
              go_wp2_with (first | (go_at_call 46; ((with_reducible refine (within_R _ _ _ _).mono ?_); rintro e w' ⟨rfl, rfl⟩)) | fail)
              all_goals go_meet
              all_goals exact ⟨by rw [HV.out] <;> rfl, rfl⟩
          case rest =>
            obtain ⟨rfl, rfl⟩ := hcut
            cases BD
            rotate_left
            · have k0 := True.intro
              have HE : FF = 1 := by rw [HFD.out]; simp [k0]
              have HV := Lib.hid (show RES = 1 by rw [HRF.out, HSB.out (by rw [HE]; decide), HE])
              clear HE
              go_wp2_with fail
              go_ret
              exact ⟨by rw [HV.out] <;> rfl, (KC.out _ HB6.out).1⟩
            obtain ⟨⟨i1, i2⟩, ⟨i3, i4⟩, i5⟩ := HBF.out rfl
            have HCX := Lib.hid (HCX.out rfl)
            have HFX := Lib.hid (show FF = if CH then 12 else 0 by rw [HFD.out]; rfl)
            clear HFD HBD HBF
            have HFD := HFX
            clear HFX
            go_upto_region 19 with fail
            go_cut [84] (fun s84 wx => s84 = .bool CH ∧ wx = w5.alloc (.cells #[.string pn, .int .i64 pz, .slice po pl.length pcap] 70))
            case first =>
              obtain ⟨n, f, hn, hM, hU, hI⟩ := HU6.out
              rcases hU uu with ⟨hf, hno⟩ | ⟨g, hf, hbg, hgm, hgl, hS⟩
              · have hq := hM.look false keyI_ (t := 94) Tryz.underlying94 (zeroPtr_ _) (keyOfI_ HG1.out)
                rw [hf] at hq
                simp only [Option.getD_none, Bool.false_eq_true, if_false] at hq
                have HV := Lib.hid (show CH = false from HCY.out hno)
                clear hM hU hI hno hf
                go_wp2_with (first | (go_at_call 48; ((with_reducible refine (free_nil _ _ _ (by omega) (by omega) (by omega) (by omega)).mono ?_); rintro e w' ⟨rfl, rfl⟩)) | fail)
                all_goals go_meet
                all_goals exact ⟨by rw [HV.out] <;> rfl, rfl⟩
              · have hq := hM.look false keyI_ (t := 94) Tryz.underlying94 (zeroPtr_ _) (keyOfI_ HG1.out)
                rw [hf] at hq
                simp only [Option.getD_some, Bool.false_eq_true, if_false, ptrV] at hq
                have HFP := Lib.hid (free_ptr g _ ua pz _ hS hgl (by omega) (by omega) (by omega) (by omega))
                clear hM hU hI hf hS
                go_wp2_with (first | (go_at_call 48; ((with_reducible refine HFP.out.mono ?_); rintro e w' ⟨rfl, rfl⟩)) | fail)
                all_goals go_meet
                all_goals exact ⟨by rw [HCX.out] <;> first | rfl | trivial, rfl⟩
            case rest =>
              obtain ⟨rfl, rfl⟩ := hcut
              cases CH
              rotate_left
              · have k0 := True.intro
                have HE : FF = 12 := by rw [HFD.out]; simp [k0]
                have HV := Lib.hid (show RES = 12 by rw [HRF.out, HSB.out (by rw [HE]; decide), HE])
                clear HE
                go_wp2_with fail
                go_ret
                exact ⟨by rw [HV.out] <;> rfl, (KC.out _ HB6.out).1⟩
              have HE : FF = 0 := by rw [HFD.out]; rfl
              have HV := Lib.hid (show RES = scanF (untF lib) units (k + 1) by rw [HRF.out, HSG.out HE])
              have HPN := Lib.hid (HPK2.out HE)
              have HTK := Lib.hid (take_any w2.heap.size w2.heap.size US ⟨un, up, uu, ua⟩ pz _ HU6.out HUL.out (Nat.le_refl _) HG1.out (by simpa using i3) (by omega) (by simpa using i5))
              simp only at HTK
              clear HE HPK2 HU6
              go_wp2_with fail
              refine HTK.out.mono ?_
              rintro e w7 ⟨rfl, hu7, hb7⟩
              have HB7 := Lib.hid (HB6.out.trans (hb7.mono (by omega)))
              have HU7 := Lib.hid (show UsedS w2.heap.size w7 w2.heap.size (usOf lib (units.take (k + 1))) by rw [HUN.out]; exact hu7)
              have hz7 := hb7.size
              simp only [World.size_alloc] at hz7
              clear hu7 hb7 HTK f0 f1 f2 f3
              go_wp2_with fail
              go_roundw
              case rel => exact ⟨k + 1, by omega, by first | rfl | go_num, HV, HB7, HU7, HPN, by omega⟩
              case measure => simp [intOf]; omega
    · have HV := Lib.hid (show RES = 0 by rw [HRF.out, scanF_end (untF lib) units k (by omega)])
      have HBB := Lib.hid hB
      clear hB
      have hkk : k = units.length := by omega
      subst hkk
      go_wp2_with fail
      go_ret
      exact ⟨by rw [HV.out] <;> rfl, HBB.out⟩
end Go.Proofs.YtppbagllhmeenaaGreatDoor
