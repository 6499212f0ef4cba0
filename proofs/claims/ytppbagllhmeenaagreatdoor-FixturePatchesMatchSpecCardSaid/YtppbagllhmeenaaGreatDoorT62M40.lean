/- The reference's CheckRig. (printed by wip/gen/gen_rckrig.py) -/
import Derived.Test.YtppbagllhmeenaaGreatDoorT62M39
import Derived.Test.YtppbagllhmeenaaGreatDoorT62M30

namespace Go.Proofs.YtppbagllhmeenaaGreatDoor
open Go.RowKit
set_option linter.unusedVariables false
set_option linter.unusedSimpArgs false

theorem unt_sound {lib : List Prf} (hl : chkLib lib = 0) {pre : List Unt} {u : Unt} (h : untF lib pre u = 0) : (1 ≤ u.addr ∧ u.addr ≤ 512) ∧ (1 ≤ sizeOf' lib u ∧ sizeOf' lib u ≤ 512) := by
  obtain ⟨_, _, ⟨p, h1, h2⟩, _⟩ := untF_zero h
  exact ⟨(untBad_false h2).2.1, by rw [size_of h1]; exact size_pos hl h1⟩
theorem any_snoc {α : Type} (f : α → Bool) (l : List α) (k : Nat) (h : k < l.length) : (l.take (k + 1)).any f = ((l.take k).any f || f l[k]) := by
  rw [List.take_succ_eq_append_getElem h, List.any_append]; simp
theorem any_at {α : Type} (f : α → Bool) (l : List α) (k j : Nat) (h : j < l.length) (hj : j < k) (h1 : f l[j] = true) : (l.take k).any f = true := by
  rw [List.any_eq_true]
  refine ⟨l[j], ?_, h1⟩
  have h3 : j < (l.take k).length := by rw [List.length_take]; omega
  have h4 : (l.take k)[j] = l[j] := List.getElem_take
  rw [← h4]; exact List.getElem_mem h3
theorem prfR_shape {B : Nat} {w : World} {o : Option Prf} {v : Value} (h : PrfR B w o v) : ∃ qn qz qo ql qc, v = .agg #[.string qn, .int .i64 qz, .slice qo ql qc] := by
  cases o with
  | none => exact ⟨_, _, _, _, _, h⟩
  | some p =>
    obtain ⟨pv, rfl, hp⟩ := h
    obtain ⟨ao, cap, rfl⟩ := parS_shape hp
    exact ⟨_, _, _, _, _, rfl⟩
set_option maxRecDepth 100000 in
set_option maxHeartbeats 16000000 in
theorem rckRig_any (x : Rig) (lv uv : Value) (w : World) (h : RigAt w.heap.size w x lv uv) (hf : RigFit x) :
    Calls Tryz.prog 28 #[rigV lv uv] w fun e w' => e = .returned (.int .i64 (chkRig x)) ∧ Below w.heap.size w w' := by
  have CL := Lib.hid (fun W (hb : Below w.heap.size w W) => rckLibrary_any lv x.lib W ((h.lib.below hb).more hb.size) hf.1)
  have CP := Lib.hid (fun (nm : ByteArray) W (hb : Below w.heap.size w W) => rprofile_any lv x.lib nm W ((h.lib.below hb).more hb.size))
  have HPL := Lib.hid (fun W (hb : Below w.heap.size w W) => (h.lib.below hb).more hb.size)
  have HG := Lib.hid (UntS.get h.units)
  have HF := Lib.hid hf.2
  obtain ⟨uo, ucap, rfl, _⟩ := CellsS.shape h.units
  obtain ⟨lo, lcap, rfl⟩ := prfS_shape h.lib
  have hcp := untS_cap h.units
  clear h hf
  obtain ⟨lib, units⟩ := x
  simp only [rigV] at *
  have HC0 := Lib.hid (show chkRig ⟨lib, units⟩ = if chkLib lib ≠ 0 then chkLib lib else if 400 < units.length then 2 else scanF (untF lib) units 0 from rfl)
  generalize chkRig ⟨lib, units⟩ = RES at *
  have KC := Lib.hid (show ∀ W, Below (w.heap.size + 1) (w.alloc (.cells #[.slice lo lib.length lcap, .slice uo units.length ucap] 25)) W → (Below w.heap.size w W ∧ w.heap.size < W.heap.size ∧ W.cell? ⟨w.heap.size, 0, none⟩ = some (.slice lo lib.length lcap) ∧ W.cell? ⟨w.heap.size, 1, none⟩ = some (.slice uo units.length ucap)) from fun W hW => by
    have hz := hW.size
    simp at hz
    exact ⟨((Below.refl _ _).alloc (Nat.le_refl _) _).trans (hW.mono (by omega)), by omega, (hW.cell (p := ⟨w.heap.size, 0, none⟩) (by simp)).trans (by simp [go_sem]), (hW.cell (p := ⟨w.heap.size, 1, none⟩) (by simp)).trans (by simp [go_sem])⟩)
  have KA := Lib.hid (show ∀ W o, Below (w.heap.size + 1) (w.alloc (.cells #[.slice lo lib.length lcap, .slice uo units.length ucap] 25)) W → Below (w.heap.size + 1) (w.alloc (.cells #[.slice lo lib.length lcap, .slice uo units.length ucap] 25)) (W.alloc o) from fun W o h => h.alloc (by have := h.size; simp at this; omega) o)
  have KM := Lib.hid (show ∀ W W1, Below (w.heap.size + 1) (w.alloc (.cells #[.slice lo lib.length lcap, .slice uo units.length ucap] 25)) W → Below W.heap.size W W1 → Below (w.heap.size + 1) (w.alloc (.cells #[.slice lo lib.length lcap, .slice uo units.length ucap] 25)) W1 from fun W W1 h1 h2 => h1.trans (h2.mono (by have := h1.size; simp at this; omega)))
  have HK0 := Lib.hid (Below.refl (w.heap.size + 1) (w.alloc (.cells #[.slice lo lib.length lcap, .slice uo units.length ucap] 25)))
  have CL1 := Lib.hid (CL.out _ (KC.out _ HK0.out).1)
  clear CL
  go_enter Tryz.func28, Tryz.ntmps28
  go_wp2_with fail
  refine CL1.out.mono ?_
  rintro e w2 ⟨rfl, hb2⟩
  have HB2 := Lib.hid (KM.out _ _ HK0.out hb2)
  clear hb2 CL1
  obtain ⟨hB2, hz2, p0, p1⟩ := KC.out _ HB2.out
  by_cases hE : chkLib lib = 0
  rotate_left
  · have HV := Lib.hid (show RES = chkLib lib by rw [HC0.out, if_pos hE])
    have HBB := Lib.hid hB2
    clear hB2
    generalize chkLib lib = E at *
    go_wp2_with fail
    go_ret
    exact ⟨by rw [HV.out] <;> rfl, HBB.out⟩
  have hC1 : RES = if 400 < units.length then 2 else scanF (untF lib) units 0 := by rw [HC0.out, if_neg (by simpa using hE)]
  have HC1 := Lib.hid hC1
  have HUS := Lib.hid (fun (pre : List Unt) (u : Unt) (h : untF lib pre u = 0) => unt_sound hE h)
  have HSP := Lib.hid (fun (u : Unt) (p : Prf) (h : profOf lib u.nm = some p) => size_pos hE h)
  clear HC0 hC1
  rw [hE]
  clear hE
  by_cases h4 : 400 < units.length
  · have HV := Lib.hid (show RES = 2 by rw [HC1.out, if_pos h4])
    have HBB := Lib.hid hB2
    clear hB2
    go_wp2_with fail
    go_ret
    exact ⟨by rw [HV.out] <;> rfl, HBB.out⟩
  have HC := Lib.hid (show RES = scanF (untF lib) units 0 by rw [HC1.out, if_neg h4])
  have h31 : units.length ≤ 400 := by omega
  clear HC1 h4 hB2
  go_wp2_with fail
  clear p0 p1 hz2
  go_loopw [23] (fun i wx => ∃ k : Nat, k ≤ units.length ∧ i = .int .i64 k ∧ Hid (RES = scanF (untF lib) units k) ∧ Hid (∀ j (hj : j < units.length), j < k → untF lib (units.take j) units[j] = 0) ∧ Hid (Below (w.heap.size + 1) (w.alloc (.cells #[.slice lo lib.length lcap, .slice uo units.length ucap] 25)) wx)) (fun i _ => units.length - (intOf i).toNat)
  case atStart => exact ⟨0, Nat.zero_le _, rfl, HC, Lib.hid (fun j _ h => absurd h (Nat.not_lt_zero _)), HB2⟩
  case round =>
    clear HC HB2
    obtain ⟨k, hk, rfl, HRF, HPK, HBW⟩ := hrel
    obtain ⟨wo, rfl⟩ : ∃ wo : World, wo = wr := ⟨_, rfl⟩
    obtain ⟨hB, hz, p0, p1⟩ := KC.out wo HBW.out
    by_cases hlt : k < units.length
    · obtain ⟨b, off, cap', hsl, hb, _, hc⟩ := HG.out (by omega)
      injection hsl with hs1 hs2 hs3
      subst hs1 hs3
      obtain ⟨d0, d1, d2, d3⟩ := hc k hlt wo hB
      have HRW := Lib.hid hc
      have hbr : b < wo.heap.size := by have := hB.size; omega
      have HSG := Lib.hid (scanF_good (untF lib) units k hlt)
      have HSB := Lib.hid (scanF_bad (untF lib) units k hlt)
      have HFD := Lib.hid (show untF lib (units.take k) units[k] = if !inR units[k].num 1 9999 then 1 else if untLow (units.take k) units[k] then 7 else if (profOf lib units[k].nm).isNone then 5 else if untBad units[k] (sizeOf' lib units[k]) then 1 else if (units.take k).any (clashU lib units[k]) then 12 else 0 from rfl)
      have HLW0 := Lib.hid (show k = 0 → untLow (units.take k) units[k] = false from fun h0 => by subst h0; rfl)
      have HLW := Lib.hid (show ∀ h0 : 0 < k, untLow (units.take k) units[k] = decide (units[k].num ≤ (units[k - 1]'(by omega)).num) from fun h0 => by unfold untLow; rw [last_take units k hlt h0]; rfl)
      have HPK2 := Lib.hid (show untF lib (units.take k) units[k] = 0 → ∀ j (hj : j < units.length), j < k + 1 → untF lib (units.take j) units[j] = 0 from fun h j hj hjk => by
        by_cases c : j = k
        · subst c; exact h
        · exact HPK.out j hj (by omega))
      have HSX := Lib.hid (show (profOf lib units[k].nm).isSome = true → 1 ≤ sizeOf' lib units[k] ∧ sizeOf' lib units[k] ≤ 512 from fun h => by
        obtain ⟨p, hp⟩ := Option.isSome_iff_exists.1 h
        rw [size_of hp]
        exact HSP.out _ _ hp)
      have HBD := Lib.hid (show untBad units[k] (sizeOf' lib units[k]) = (!inR units[k].univ 1 64 || !inR units[k].addr 1 512 || decide (512 < lastOf lib units[k])) from rfl)
      have HCJ := Lib.hid (fun (y : Unt) => show clashU lib units[k] y = (decide (y.univ = units[k].univ) && decide (y.addr ≤ lastOf lib units[k]) && decide (units[k].addr ≤ lastOf lib y)) from rfl)
      have HLU := Lib.hid (fun W (hb : Below w.heap.size w W) (h1 : 1 ≤ units[k].addr ∧ units[k].addr ≤ 512) (h2 : 1 ≤ sizeOf' lib units[k] ∧ sizeOf' lib units[k] ≤ 512) => rlast_any lo (some ⟨b, off, none⟩) lcap units.length ucap lib units[k] W (HPL.out W hb) (by omega) (by omega) (by omega) (by omega))
      have hnm : units[k].nm = units[k].prof.data.toList := rfl
      rw [hnm] at HFD HSX
      generalize untLow (units.take k) units[k] = LW at *
      generalize untF lib (units.take k) units[k] = FF at *
      generalize untBad units[k] (sizeOf' lib units[k]) = BD at *
      generalize lastOf lib units[k] = LU at *
      generalize sizeOf' lib units[k] = SZ at *
      generalize hCU : clashU lib units[k] = CU at *
      clear hCU hnm hc hB
      generalize hrk : units[k] = rk at *
      clear hrk
      obtain ⟨un, up, uu, ua⟩ := rk
      simp only at *
      have HBX := Lib.hid (KA.out _ (.cells #[.int .i64 un, .string up, .int .i64 uu, .int .i64 ua] 51) HBW.out)
      have CP1 := Lib.hid (CP.out up _ (KC.out _ HBX.out).1)
      generalize profOf lib up.data.toList = PO at *
      go_wp2_with fail
      refine CP1.out.mono ?_
      rintro e w5 ⟨pv, rfl, hpv, hb5⟩
      obtain ⟨qn, qz, qo, ql, qc, rfl⟩ := prfR_shape hpv
      have hz5 := hb5.size
      simp only [World.size_alloc] at hz5
      have hbu5 : wo.heap.size < w5.heap.size := by omega
      have HB5 := Lib.hid (KM.out _ _ HBX.out hb5)
      have KU5 := Lib.hid (show ∀ W, Below w5.heap.size w5 W → (W.cell? ⟨wo.heap.size, 0, none⟩ = some (.int .i64 un) ∧ W.cell? ⟨wo.heap.size, 1, none⟩ = some (.string up) ∧ W.cell? ⟨wo.heap.size, 2, none⟩ = some (.int .i64 uu) ∧ W.cell? ⟨wo.heap.size, 3, none⟩ = some (.int .i64 ua)) from fun W hW => by
        have h := hb5.trans (hW.mono (by simp; omega))
        exact ⟨(h.cell (p := ⟨wo.heap.size, 0, none⟩) (by simp)).trans (by simp [go_sem]), (h.cell (p := ⟨wo.heap.size, 1, none⟩) (by simp)).trans (by simp [go_sem]), (h.cell (p := ⟨wo.heap.size, 2, none⟩) (by simp)).trans (by simp [go_sem]), (h.cell (p := ⟨wo.heap.size, 3, none⟩) (by simp)).trans (by simp [go_sem])⟩)
      obtain ⟨f0, f1, f2, f3⟩ := KU5.out _ (Below.refl _ _)
      have hNI : PO.isNone = !PO.isSome := by cases PO <;> rfl
      rw [hNI] at HFD
      generalize PO.isSome = IS at *
      clear hb5 CP1 hpv hNI d0 d1 d2 d3 HBX HBW p0 p1 hz
      obtain ⟨hB5, hz, p0, p1⟩ := KC.out _ HB5.out
      have HPR := Lib.hid (fun (h0 : 0 < k) => HRW.out (k - 1) (by omega) w5 hB5)
      have hb5 : b < w5.heap.size := by omega
      have HB6 := Lib.hid (KA.out _ (.cells #[.string qn, .int .i64 qz, .slice qo ql qc] 70) HB5.out)
      clear hB5
      rcases Bool.eq_false_or_eq_true (inR un 1 9999) with k0 | k0
      rotate_left
      · skip
        have HE : FF = 1 := by rw [HFD.out]; simp [k0]
        have HV := Lib.hid (show RES = 1 by rw [HRF.out, HSB.out (by rw [HE]; decide), HE])
        clear HE
        go_wp2_with (first | (go_at_call 56; ((with_reducible refine (rwithin_R _ _ _ _).mono ?_); rintro e w' ⟨rfl, rfl⟩)) | fail)
        go_ret
        exact ⟨by rw [HV.out] <;> rfl, (KC.out _ HB6.out).1⟩
      have HFX := Lib.hid (show FF = if LW then 7 else if !IS then 5 else if BD then 1 else if (units.take k).any CU then 12 else 0 by rw [HFD.out]; simp [k0])
      go_upto_region 12 with (first | (go_at_call 56; ((with_reducible refine (rwithin_R _ _ _ _).mono ?_); rintro e w' ⟨rfl, rfl⟩)) | fail)
      clear HFD k0
      have HFD := HFX
      clear HFX
      go_cut [41] (fun s41 wx => s41 = .bool LW ∧ Below wx.heap.size (w5.alloc (.cells #[.string qn, .int .i64 qz, .slice qo ql qc] 70)) wx ∧ wx.heap.size = w5.heap.size + 1)
      case first =>
        by_cases h0 : k = 0
        · subst h0
          have HV := Lib.hid (HLW0.out rfl)
          clear HPR HLW HLW0
          go_quiet (fail)
          go_wp2_with fail
          all_goals go_meet
          all_goals exact ⟨by rw [HV.out] <;> rfl, bel_drewF (Below.refl _ _) _, by simp⟩
        · obtain ⟨j, rfl⟩ : ∃ j, k = j + 1 := ⟨k - 1, by omega⟩
          have HLX := Lib.hid (HLW.out (by omega))
          obtain ⟨d4, _, _, _⟩ := HPR.out (by omega)
          clear HPR HLW HLW0
          simp only [Nat.add_sub_cancel] at d4
          have hlow : (units[j + 1 - 1]'(by omega)) = units[j] := by simp
          rw [hlow] at HLX
          clear hlow
          generalize units[j] = rj at *
          obtain ⟨jn, jp, ju, ja⟩ := rj
          simp only at d4
          have hji : ((j + 1 : Nat) : Int) - 1 = (j : Int) := by omega
          by_cases hle : un ≤ jn
          · skip
            have HV := Lib.hid (show LW = true by rw [HLX.out]; simpa using hle)
            clear HLX
            go_quiet (fail)
            go_wp2_with fail
            all_goals go_meet
            all_goals exact ⟨by rw [HV.out] <;> rfl, bel_drewF (Below.refl _ _) _, by simp⟩
          · skip
            have HV := Lib.hid (show LW = false by rw [HLX.out]; simpa using hle)
            clear HLX
            have hled : decide (un ≤ jn) = false := by simpa using hle
            go_quiet (fail)
            go_wp2_with fail
            all_goals go_meet
            all_goals exact ⟨by rw [HV.out] <;> rfl, bel_drewF (Below.refl _ _) _, by simp⟩
      case rest =>
        obtain ⟨rfl, hb3, hz3⟩ := hcut
        have HBC := Lib.hid (KM.out _ wc HB6.out (hb3.mono (by simp; omega)))
        obtain ⟨e0, e1, e2, e3⟩ := KU5.out wc (((Below.refl _ _).alloc (Nat.le_refl _) _).trans (hb3.mono (by omega)))
        clear hb3 HLW HLW0 HPR HB6 HB5 KU5 p0 p1 f0 f1 f2 f3
        obtain ⟨hBc, _, p0, p1⟩ := KC.out wc HBC.out
        have hbc : b < wc.heap.size := by omega
        have HBc := Lib.hid hBc
        clear hBc
        cases LW
        rotate_left
        · skip
          have HE : FF = 7 := by rw [HFD.out]; rfl
          have HV := Lib.hid (show RES = 7 by rw [HRF.out, HSB.out (by rw [HE]; decide), HE])
          clear HE
          go_wp2_with fail
          go_ret
          exact ⟨by rw [HV.out] <;> rfl, (KC.out _ HBC.out).1⟩
        have HFX := Lib.hid (show FF = if !IS then 5 else if BD then 1 else if (units.take k).any CU then 12 else 0 by rw [HFD.out]; rfl)
        clear HFD
        have HFD := HFX
        clear HFX
        cases IS
        · skip
          have HE : FF = 5 := by rw [HFD.out]; rfl
          have HV := Lib.hid (show RES = 5 by rw [HRF.out, HSB.out (by rw [HE]; decide), HE])
          clear HE
          go_wp2_with fail
          go_ret
          exact ⟨by rw [HV.out] <;> rfl, (KC.out _ HBC.out).1⟩
        have hsx := HSX.out rfl
        have HLU := Lib.hid (fun W hb h1 => HLU.out W hb h1 hsx)
        have HFX := Lib.hid (show FF = if BD then 1 else if (units.take k).any CU then 12 else 0 by rw [HFD.out]; rfl)
        clear HFD HSX
        have HFD := HFX
        clear HFX
        go_upto_region 16 with fail
        go_cut [59] (fun s59 wx => s59 = .bool BD ∧ Below wc.heap.size wc wx ∧ (BD = false → 1 ≤ ua ∧ ua ≤ 512))
        case first =>
          rcases Bool.eq_false_or_eq_true (inR uu 1 64) with j0 | j0
          rotate_left
          · have HV := Lib.hid (show BD = true by rw [HBD.out]; simp [j0])
            go_wp2_with (first | (go_at_call 56; ((with_reducible refine (rwithin_R _ _ _ _).mono ?_); rintro e w' ⟨rfl, rfl⟩)) | fail)
            all_goals go_meet
            all_goals exact ⟨by rw [HV.out] <;> rfl, Below.refl _ _, fun h => by rw [HV.out] at h; cases h⟩
          rcases Bool.eq_false_or_eq_true (inR ua 1 512) with j1 | j1
          rotate_left
          · have HV := Lib.hid (show BD = true by rw [HBD.out]; simp [j0, j1])
            go_wp2_with (first | (go_at_call 56; ((with_reducible refine (rwithin_R _ _ _ _).mono ?_); rintro e w' ⟨rfl, rfl⟩)) | fail)
            all_goals go_meet
            all_goals exact ⟨by rw [HV.out] <;> rfl, Below.refl _ _, fun h => by rw [HV.out] at h; cases h⟩
          have HLV := Lib.hid (HLU.out wc HBc.out (inR_true j1))
          by_cases j2 : 512 < LU
          · have HV := Lib.hid (show BD = true by rw [HBD.out]; simp [j2])
            have j3 : decide (512 < LU) = true := by simpa using j2
            go_wp2_with (first | (first | (go_at_call 56; ((with_reducible refine (rwithin_R _ _ _ _).mono ?_); rintro e w' ⟨rfl, rfl⟩)) | fail) | (go_at_call 57; refine HLV.out.mono ?_; rintro e w' ⟨rfl, hbl⟩))
            all_goals go_meet
            all_goals exact ⟨by rw [HV.out] <;> rfl, by assumption, fun h => by rw [HV.out] at h; cases h⟩
          · have HV := Lib.hid (show BD = false by rw [HBD.out]; simp [j0, j1]; omega)
            have j3 : decide (512 < LU) = false := by simpa using j2
            have HJ1 := Lib.hid (inR_true j1)
            go_wp2_with (first | (first | (go_at_call 56; ((with_reducible refine (rwithin_R _ _ _ _).mono ?_); rintro e w' ⟨rfl, rfl⟩)) | fail) | (go_at_call 57; refine HLV.out.mono ?_; rintro e w' ⟨rfl, hbl⟩))
            all_goals go_meet
            all_goals exact ⟨by rw [HV.out] <;> rfl, by assumption, fun _ => HJ1.out⟩
        case rest =>
          obtain ⟨rfl, hbd, hua⟩ := hcut
          obtain ⟨wd, rfl⟩ : ∃ x, x = wc := ⟨_, rfl⟩
          have HBD2 := Lib.hid (KM.out _ wd HBC.out hbd)
          have hzd := hbd.size
          clear HBc p0 p1
          obtain ⟨hBd, hzz, p0, p1⟩ := KC.out wd HBD2.out
          have HBd := Lib.hid hBd
          have KU := Lib.hid (show ∀ W, Below wd.heap.size wd W → (W.cell? ⟨wo.heap.size, 0, none⟩ = some (.int .i64 un) ∧ W.cell? ⟨wo.heap.size, 1, none⟩ = some (.string up) ∧ W.cell? ⟨wo.heap.size, 2, none⟩ = some (.int .i64 uu) ∧ W.cell? ⟨wo.heap.size, 3, none⟩ = some (.int .i64 ua)) from fun W hW => by
            have h := hbd.trans (hW.mono (by omega))
            exact ⟨(h.cell (p := ⟨wo.heap.size, 0, none⟩) (by simp; omega)).trans e0, (h.cell (p := ⟨wo.heap.size, 1, none⟩) (by simp; omega)).trans e1, (h.cell (p := ⟨wo.heap.size, 2, none⟩) (by simp; omega)).trans e2, (h.cell (p := ⟨wo.heap.size, 3, none⟩) (by simp; omega)).trans e3⟩)
          have hwd : wo.heap.size < wd.heap.size := by omega
          clear hBd hbd e0 e1 e2 e3
          cases BD
          rotate_left
          · skip
            have HE : FF = 1 := by rw [HFD.out]; rfl
            have HV := Lib.hid (show RES = 1 by rw [HRF.out, HSB.out (by rw [HE]; decide), HE])
            clear HE
            go_wp2_with fail
            go_ret
            exact ⟨by rw [HV.out] <;> rfl, (KC.out _ HBD2.out).1⟩
          have hua := hua rfl
          have HLU := Lib.hid (fun W hb => HLU.out W hb hua)
          have HFX := Lib.hid (show FF = if (units.take k).any CU then 12 else 0 by rw [HFD.out]; rfl)
          clear HFD HBD
          have HFD := HFX
          clear HFX
          have hi1 : (0 : Int) ≤ (k : Int) := by omega
          have hi2 : (k : Int) ≤ (ucap : Int) := by omega
          have hi3 : k ≤ ucap := by omega
          go_wp2_with fail
          clear p0 p1
          go_loopw [81] (fun i wx => ∃ j : Nat, j ≤ k ∧ i = .int .i64 j ∧ Hid ((units.take j).any CU = false) ∧ Hid (Below wd.heap.size wd wx)) (fun i _ => k - (intOf i).toNat)
          case atStart => exact ⟨0, Nat.zero_le _, rfl, Lib.hid (by simp), Lib.hid (Below.refl _ _)⟩
          case round =>
            obtain ⟨j, hj, rfl, HNI, HBI⟩ := hrel
            have hzi := HBI.out.size
            obtain ⟨e0, e1, e2, e3⟩ := KU.out wr HBI.out
            have HBN := Lib.hid (KM.out _ _ HBD2.out HBI.out)
            obtain ⟨hBn, _, p0, p1⟩ := KC.out _ HBN.out
            have hbi : b < wr.heap.size := by omega
            have hor : wo.heap.size < wr.heap.size := by omega
            have hor2 : w.heap.size < wr.heap.size := by omega
            by_cases hjlt : j < k
            · have hjl : j < units.length := by omega
              obtain ⟨d0, d1, d2, d3⟩ := HRW.out j hjl wr hBn
              have HS := HUS.out _ _ (HPK.out j hjl hjlt)
              have HLX := Lib.hid (fun W (hb : Below w.heap.size w W) => rlast_any lo (some ⟨b, off, none⟩) lcap units.length ucap lib units[j] W (HPL.out W hb) (by omega) (by omega) (by omega) (by omega))
              have HCD := Lib.hid (HCJ.out units[j])
              have HCN := Lib.hid (any_snoc CU units j hjl)
              have HCX := Lib.hid (any_at CU units k j hjl hjlt)
              generalize CU units[j] = CJ at *
              generalize lastOf lib units[j] = LX at *
              generalize sizeOf' lib units[j] = SX at *
              clear hBn HS
              generalize hrk : units[j] = rk at *
              clear hrk
              obtain ⟨xn, xp, xu, xa⟩ := rk
              simp only at *
              have HBX := Lib.hid (HBI.out.alloc hzi (.cells #[.int .i64 xn, .string xp, .int .i64 xu, .int .i64 xa] 51))
              go_upto_region 21 with fail
              have KQ := Lib.hid (show ∀ W, Below (wr.alloc (.cells #[.int .i64 xn, .string xp, .int .i64 xu, .int .i64 xa] 51)).heap.size (wr.alloc (.cells #[.int .i64 xn, .string xp, .int .i64 xu, .int .i64 xa] 51)) W → (Below w.heap.size w W ∧ Below wd.heap.size wd W ∧ W.cell? ⟨w.heap.size, 0, none⟩ = some (.slice lo lib.length lcap) ∧ W.cell? ⟨w.heap.size, 1, none⟩ = some (.slice (some ⟨b, off, none⟩) units.length ucap) ∧ W.cell? ⟨wo.heap.size, 0, none⟩ = some (.int .i64 un) ∧ W.cell? ⟨wo.heap.size, 1, none⟩ = some (.string up) ∧ W.cell? ⟨wo.heap.size, 2, none⟩ = some (.int .i64 uu) ∧ W.cell? ⟨wo.heap.size, 3, none⟩ = some (.int .i64 ua) ∧ W.cell? ⟨wr.heap.size, 0, none⟩ = some (.int .i64 xn) ∧ W.cell? ⟨wr.heap.size, 1, none⟩ = some (.string xp) ∧ W.cell? ⟨wr.heap.size, 2, none⟩ = some (.int .i64 xu) ∧ W.cell? ⟨wr.heap.size, 3, none⟩ = some (.int .i64 xa)) from fun W hW => by
                have h0 : Below wr.heap.size wr W := ((Below.refl _ _).alloc (Nat.le_refl _) _).trans (hW.mono (by simp))
                obtain ⟨hn1, _, hn2, hn3⟩ := KC.out _ (KM.out _ _ HBN.out h0)
                obtain ⟨g0, g1, g2, g3⟩ := KU.out _ (HBI.out.trans (h0.mono hzi))
                exact ⟨hn1, HBI.out.trans (h0.mono hzi), hn2, hn3, g0, g1, g2, g3, (hW.cell (p := ⟨wr.heap.size, 0, none⟩) (by simp)).trans (by simp [go_sem]), (hW.cell (p := ⟨wr.heap.size, 1, none⟩) (by simp)).trans (by simp [go_sem]), (hW.cell (p := ⟨wr.heap.size, 2, none⟩) (by simp)).trans (by simp [go_sem]), (hW.cell (p := ⟨wr.heap.size, 3, none⟩) (by simp)).trans (by simp [go_sem])⟩)
              clear e0 e1 e2 e3 p0 p1 d0 d1 d2 d3 HBX
              generalize hW0 : wr.alloc (.cells #[.int .i64 xn, .string xp, .int .i64 xu, .int .i64 xa] 51) = W0 at *
              clear hW0
              have KM0 := Lib.hid (show ∀ W W1, Below W0.heap.size W0 W → Below W.heap.size W W1 → Below W0.heap.size W0 W1 from fun W W1 h1 h2 => h1.trans (h2.mono h1.size))
              have KB := Lib.hid (show ∀ W, Below W0.heap.size W0 W → Below w.heap.size w W from fun W hW => (KQ.out W hW).1)
              have hw0 : Below W0.heap.size W0 W0 := Below.refl _ _
              obtain ⟨_, _, p0, p1, e0, e1, e2, e3, x0, x1, x2, x3⟩ := KQ.out _ hw0
              go_cut [105] (fun s105 wx => s105 = .bool CJ ∧ Below W0.heap.size W0 wx)
              case first =>
                by_cases c1 : xu = uu
                rotate_left
                · have c2 : (xu == uu) = false := by simpa using c1
                  have HV := Lib.hid (show CJ = false by rw [HCD.out]; simp [c1])
                  go_quiet (fail)
                  go_wp2_with fail
                  all_goals go_meet
                  all_goals exact ⟨by rw [HV.out] <;> rfl, bel_drewF (by assumption) _⟩
                have c2 : (xu == uu) = true := by simpa using c1
                by_cases c3 : xa ≤ LU
                rotate_left
                · have c4 : decide (xa ≤ LU) = false := by simpa using c3
                  have HV := Lib.hid (show CJ = false by rw [HCD.out]; simp [c3])
                  clear c1 c3
                  refine wp_region_held_drew (S := (fun W => W.cell? ⟨w.heap.size, 0, none⟩ = some (.slice lo lib.length lcap) ∧ W.cell? ⟨w.heap.size, 1, none⟩ = some (.slice (some ⟨b, off, none⟩) units.length ucap) ∧ W.cell? ⟨wo.heap.size, 0, none⟩ = some (.int .i64 un) ∧ W.cell? ⟨wo.heap.size, 1, none⟩ = some (.string up) ∧ W.cell? ⟨wo.heap.size, 2, none⟩ = some (.int .i64 uu) ∧ W.cell? ⟨wo.heap.size, 3, none⟩ = some (.int .i64 ua) ∧ W.cell? ⟨wr.heap.size, 0, none⟩ = some (.int .i64 xn) ∧ W.cell? ⟨wr.heap.size, 1, none⟩ = some (.string xp) ∧ W.cell? ⟨wr.heap.size, 2, none⟩ = some (.int .i64 xu) ∧ W.cell? ⟨wr.heap.size, 3, none⟩ = some (.int .i64 xa))) (by kernel_rfl) (by first | exact (KQ.out _ (by assumption)).2.2 | exact (KQ.out _ (Below.drew (by assumption))).2.2) (fun hHeld => ?_)
                  refine wpAnyH_take (i := 0) (oi := _) (v := ?_) rfl (by kernel_rfl) (by kernel_rfl) (by kernel_rfl) (fun _ _ _ h => h) (Or.inl ⟨by rfl, ?_⟩) (by assumption) ?_
                  rotate_left
                  · (intro w hSw; (try dsimp only at hSw); go_simp <;> with_reducible rfl)
                  try simp only [Act.put, List.getElem_toArray, List.getElem_cons_zero, List.getElem_cons_succ, List.setIfInBounds_toArray, List.set_cons_zero, List.set_cons_succ]
                  refine wpAnyH_take (i := 1) (oi := _) (v := ?_) rfl (by kernel_rfl) (by kernel_rfl) (by kernel_rfl) (fun _ _ _ h => h) (Or.inl ⟨by rfl, ?_⟩) (by assumption) ?_
                  rotate_left
                  · (intro w hSw; (try dsimp only at hSw); go_simp <;> with_reducible rfl)
                  try simp only [Act.put, List.getElem_toArray, List.getElem_cons_zero, List.getElem_cons_succ, List.setIfInBounds_toArray, List.set_cons_zero, List.set_cons_succ]
                  refine wpAnyH_take (i := 2) (oi := _) (v := ?_) rfl (by kernel_rfl) (by kernel_rfl) (by kernel_rfl) (fun _ _ _ h => h) (Or.inl ⟨by rfl, ?_⟩) (by assumption) ?_
                  rotate_left
                  · (intro w hSw; (try dsimp only at hSw); go_simp <;> with_reducible rfl)
                  try simp only [Act.put, List.getElem_toArray, List.getElem_cons_zero, List.getElem_cons_succ, List.setIfInBounds_toArray, List.set_cons_zero, List.set_cons_succ]
                  refine wpAnyH_take (i := 3) (oi := _) (v := ?_) rfl (by kernel_rfl) (by kernel_rfl) (by kernel_rfl) (fun _ _ _ h => h) (Or.inl ⟨by rfl, ?_⟩) (by assumption) ?_
                  rotate_left
                  · (intro w hSw; (try dsimp only at hSw); go_simp <;> with_reducible rfl)
                  try simp only [Act.put, List.getElem_toArray, List.getElem_cons_zero, List.getElem_cons_succ, List.setIfInBounds_toArray, List.set_cons_zero, List.set_cons_succ]
                  refine wpAnyH_take (i := 4) (oi := _) (v := ?_) rfl (by kernel_rfl) (by kernel_rfl) (by kernel_rfl) (fun _ _ _ h => h) (Or.inl ⟨by rfl, ?_⟩) (by assumption) ?_
                  rotate_left
                  · (intro w hSw; (try dsimp only at hSw); go_simp <;> with_reducible rfl)
                  try simp only [Act.put, List.getElem_toArray, List.getElem_cons_zero, List.getElem_cons_succ, List.setIfInBounds_toArray, List.set_cons_zero, List.set_cons_succ]
                  refine wpAnyH_take (i := 5) (oi := _) (v := ?_) rfl (by kernel_rfl) (by kernel_rfl) (by kernel_rfl) (fun _ _ _ h => h) (Or.inl ⟨by rfl, ?_⟩) (by assumption) ?_
                  rotate_left
                  · (intro w hSw; (try dsimp only at hSw); go_simp <;> with_reducible rfl)
                  try simp only [Act.put, List.getElem_toArray, List.getElem_cons_zero, List.getElem_cons_succ, List.setIfInBounds_toArray, List.set_cons_zero, List.set_cons_succ]
                  refine wpAnyH_take (i := 6) (oi := _) (v := ?_) rfl (by kernel_rfl) (by kernel_rfl) (by kernel_rfl) (fun _ _ _ h => h) (Or.inl ⟨by rfl, ?_⟩) (by assumption) ?_
                  rotate_left
                  · (intro w hSw; (try dsimp only at hSw); go_simp <;> with_reducible rfl)
                  try simp only [Act.put, List.getElem_toArray, List.getElem_cons_zero, List.getElem_cons_succ, List.setIfInBounds_toArray, List.set_cons_zero, List.set_cons_succ]
                  refine wpAnyH_take (i := 7) (oi := _) (v := ?_) rfl (by kernel_rfl) (by kernel_rfl) (by kernel_rfl) (fun _ _ _ h => h) (Or.inl ⟨by rfl, ?_⟩) (by assumption) ?_
                  rotate_left
                  · (intro w hSw; (try dsimp only at hSw); go_simp <;> with_reducible rfl)
                  try simp only [Act.put, List.getElem_toArray, List.getElem_cons_zero, List.getElem_cons_succ, List.setIfInBounds_toArray, List.set_cons_zero, List.set_cons_succ]
                  refine wpAnyH_take (i := 8) (oi := _) (v := ?_) rfl (by kernel_rfl) (by kernel_rfl) (by kernel_rfl) (fun _ _ _ h => h) (Or.inl ⟨by rfl, ?_⟩) (by assumption) ?_
                  rotate_left
                  · (intro w hSw; (try dsimp only at hSw); go_simp <;> with_reducible rfl)
                  try simp only [Act.put, List.getElem_toArray, List.getElem_cons_zero, List.getElem_cons_succ, List.setIfInBounds_toArray, List.set_cons_zero, List.set_cons_succ]
                  refine wpAnyH_take (i := 9) (oi := _) (v := ?_) rfl (by kernel_rfl) (by kernel_rfl) (by kernel_rfl) (fun _ _ _ h => h) (Or.inl ⟨by rfl, ?_⟩) (by assumption) ?_
                  rotate_left
                  · (intro w hSw; (try dsimp only at hSw); go_simp <;> with_reducible rfl)
                  try simp only [Act.put, List.getElem_toArray, List.getElem_cons_zero, List.getElem_cons_succ, List.setIfInBounds_toArray, List.set_cons_zero, List.set_cons_succ]
                  refine wpAnyH_ready (rs := [10]) (by kernel_rfl) (by simp) (AllReadyH.cons rfl (fun K hK => ?_) AllReadyH.nil)
                  go_simp
                  (first | (go_at_call 57; (with_reducible refine (HLU.out _ (by first | exact KB.out _ (by assumption) | exact KB.out _ (Below.drew (by assumption)))).mono ?_); rintro e WC ⟨rfl, hbC⟩; have hwC := KM0.out _ _ (by first | assumption | exact Below.drew (by assumption)) hbC; clear hbC) | (go_at_call 57; (with_reducible refine (HLX.out _ (by first | exact KB.out _ (by assumption) | exact KB.out _ (Below.drew (by assumption)))).mono ?_); rintro e WC ⟨rfl, hbC⟩; have hwC := KM0.out _ _ (by first | assumption | exact Below.drew (by assumption)) hbC; clear hbC) | fail)
                  (try go_wp2_with fail)
                  refine hK.out _ _ (by first | exact (KQ.out _ (by assumption)).2.2 | exact (KQ.out _ (Below.drew (by assumption))).2.2) (fun hHeld => ?_)
                  clear hK K
                  try simp only [Act.put, List.getElem_toArray, List.getElem_cons_zero, List.getElem_cons_succ, List.setIfInBounds_toArray, List.set_cons_zero, List.set_cons_succ]
                  refine wpAnyH_take (i := 11) (oi := _) (v := ?_) rfl (by kernel_rfl) (by kernel_rfl) (by kernel_rfl) (fun _ _ _ h => h) (Or.inl ⟨by rfl, ?_⟩) (by assumption) ?_
                  rotate_left
                  · (intro w hSw; (try dsimp only at hSw); go_simp <;> with_reducible rfl)
                  try simp only [Act.put, List.getElem_toArray, List.getElem_cons_zero, List.getElem_cons_succ, List.setIfInBounds_toArray, List.set_cons_zero, List.set_cons_succ]
                  refine wpAnyH_take (i := 12) (oi := _) (v := ?_) rfl (by kernel_rfl) (by kernel_rfl) (by kernel_rfl) (fun _ _ _ h => h) (Or.inl ⟨by rfl, ?_⟩) (by assumption) ?_
                  rotate_left
                  · (intro w hSw; (try dsimp only at hSw); go_simp <;> with_reducible rfl)
                  try simp only [Act.put, List.getElem_toArray, List.getElem_cons_zero, List.getElem_cons_succ, List.setIfInBounds_toArray, List.set_cons_zero, List.set_cons_succ]
                  refine wpAnyH_take (i := 13) (oi := _) (v := ?_) rfl (by kernel_rfl) (by kernel_rfl) (by kernel_rfl) (fun _ _ _ h => h) (Or.inl ⟨by rfl, ?_⟩) (by assumption) ?_
                  rotate_left
                  · (intro w hSw; (try dsimp only at hSw); go_simp <;> with_reducible rfl)
                  try simp only [Act.put, List.getElem_toArray, List.getElem_cons_zero, List.getElem_cons_succ, List.setIfInBounds_toArray, List.set_cons_zero, List.set_cons_succ]
                  refine wpAnyH_take (i := 14) (oi := _) (v := undef) rfl (by kernel_rfl) (by kernel_rfl) (by kernel_rfl) (fun _ _ _ h => h) (Or.inr ⟨by rfl, rfl⟩) (by assumption) ?_
                  try simp only [Act.put, List.getElem_toArray, List.getElem_cons_zero, List.getElem_cons_succ, List.setIfInBounds_toArray, List.set_cons_zero, List.set_cons_succ]
                  refine wpAnyH_take (i := 15) (oi := _) (v := undef) rfl (by kernel_rfl) (by kernel_rfl) (by kernel_rfl) (fun _ _ _ h => h) (Or.inr ⟨by rfl, rfl⟩) (by assumption) ?_
                  try simp only [Act.put, List.getElem_toArray, List.getElem_cons_zero, List.getElem_cons_succ, List.setIfInBounds_toArray, List.set_cons_zero, List.set_cons_succ]
                  refine wpAnyH_take (i := 16) (oi := _) (v := undef) rfl (by kernel_rfl) (by kernel_rfl) (by kernel_rfl) (fun _ _ _ h => h) (Or.inr ⟨by rfl, rfl⟩) (by assumption) ?_
                  try simp only [Act.put, List.getElem_toArray, List.getElem_cons_zero, List.getElem_cons_succ, List.setIfInBounds_toArray, List.set_cons_zero, List.set_cons_succ]
                  refine wpAnyH_take (i := 17) (oi := _) (v := undef) rfl (by kernel_rfl) (by kernel_rfl) (by kernel_rfl) (fun _ _ _ h => h) (Or.inr ⟨by rfl, rfl⟩) (by assumption) ?_
                  try simp only [Act.put, List.getElem_toArray, List.getElem_cons_zero, List.getElem_cons_succ, List.setIfInBounds_toArray, List.set_cons_zero, List.set_cons_succ]
                  refine wpAnyH_take (i := 18) (oi := _) (v := undef) rfl (by kernel_rfl) (by kernel_rfl) (by kernel_rfl) (fun _ _ _ h => h) (Or.inr ⟨by rfl, rfl⟩) (by assumption) ?_
                  try simp only [Act.put, List.getElem_toArray, List.getElem_cons_zero, List.getElem_cons_succ, List.setIfInBounds_toArray, List.set_cons_zero, List.set_cons_succ]
                  refine wpAnyH_take (i := 19) (oi := _) (v := undef) rfl (by kernel_rfl) (by kernel_rfl) (by kernel_rfl) (fun _ _ _ h => h) (Or.inr ⟨by rfl, rfl⟩) (by assumption) ?_
                  try simp only [Act.put, List.getElem_toArray, List.getElem_cons_zero, List.getElem_cons_succ, List.setIfInBounds_toArray, List.set_cons_zero, List.set_cons_succ]
                  refine wpAnyH_take (i := 20) (oi := _) (v := ?_) rfl (by kernel_rfl) (by kernel_rfl) (by kernel_rfl) (fun _ _ _ h => h) (Or.inl ⟨by rfl, ?_⟩) (by assumption) ?_
                  rotate_left
                  · (intro w hSw; (try dsimp only at hSw); go_simp <;> with_reducible rfl)
                  try simp only [Act.put, List.getElem_toArray, List.getElem_cons_zero, List.getElem_cons_succ, List.setIfInBounds_toArray, List.set_cons_zero, List.set_cons_succ]
                  refine wpAnyH_done (by kernel_rfl) ?_ _
                  all_goals go_wp2_with fail
                  all_goals go_meet
                  all_goals exact ⟨by rw [HV.out] <;> rfl, by first | assumption | exact Below.drew (by assumption)⟩
                have c4 : decide (xa ≤ LU) = true := by simpa using c3
                have HV := Lib.hid (show CJ = decide (ua ≤ LX) by rw [HCD.out]; simp [c1, c3])
                clear c1 c3
                go_region_held3 (fun W => W.cell? ⟨w.heap.size, 0, none⟩ = some (.slice lo lib.length lcap) ∧ W.cell? ⟨w.heap.size, 1, none⟩ = some (.slice (some ⟨b, off, none⟩) units.length ucap) ∧ W.cell? ⟨wo.heap.size, 0, none⟩ = some (.int .i64 un) ∧ W.cell? ⟨wo.heap.size, 1, none⟩ = some (.string up) ∧ W.cell? ⟨wo.heap.size, 2, none⟩ = some (.int .i64 uu) ∧ W.cell? ⟨wo.heap.size, 3, none⟩ = some (.int .i64 ua) ∧ W.cell? ⟨wr.heap.size, 0, none⟩ = some (.int .i64 xn) ∧ W.cell? ⟨wr.heap.size, 1, none⟩ = some (.string xp) ∧ W.cell? ⟨wr.heap.size, 2, none⟩ = some (.int .i64 xu) ∧ W.cell? ⟨wr.heap.size, 3, none⟩ = some (.int .i64 xa))
                  (first | exact (KQ.out _ (by assumption)).2.2 | exact (KQ.out _ (Below.drew (by assumption))).2.2)
                  (first | (go_at_call 57; (with_reducible refine (HLU.out _ (by first | exact KB.out _ (by assumption) | exact KB.out _ (Below.drew (by assumption)))).mono ?_); rintro e WC ⟨rfl, hbC⟩; have hwC := KM0.out _ _ (by first | assumption | exact Below.drew (by assumption)) hbC; clear hbC) | (go_at_call 57; (with_reducible refine (HLX.out _ (by first | exact KB.out _ (by assumption) | exact KB.out _ (Below.drew (by assumption)))).mono ?_); rintro e WC ⟨rfl, hbC⟩; have hwC := KM0.out _ _ (by first | assumption | exact Below.drew (by assumption)) hbC; clear hbC) | fail)
                all_goals go_wp2_with fail
                all_goals go_meet
                all_goals exact ⟨by rw [HV.out] <;> rfl, by first | assumption | exact Below.drew (by assumption)⟩
              case rest =>
                obtain ⟨rfl, hbj⟩ := hcut
                have HBJ := Lib.hid (KQ.out _ hbj).2.1
                have HBK := Lib.hid (KQ.out _ hbj).1
                clear hbj KQ KB KM0 hw0 p0 p1 e0 e1 e2 e3 x0 x1 x2 x3
                cases CJ
                rotate_left
                · skip
                  have HE : FF = 12 := by rw [HFD.out]; rw [HCX.out rfl]; rfl
                  have HV := Lib.hid (show RES = 12 by rw [HRF.out, HSB.out (by rw [HE]; decide), HE])
                  clear HE
                  go_wp2_with fail
                  go_ret
                  exact ⟨by rw [HV.out] <;> rfl, HBK.out⟩
                have HV := Lib.hid (show (units.take (j + 1)).any CU = false by rw [HCN.out, HNI.out]; rfl)
                go_wp2_with fail
                go_roundw
                case rel => exact ⟨j + 1, by omega, by go_num, HV, HBJ⟩
                case measure => simp [intOf]; omega
            · have hjk : j = k := by omega
              subst hjk
              have HE : FF = 0 := by rw [HFD.out, HNI.out]; rfl
              have HV := Lib.hid (show RES = scanF (untF lib) units (j + 1) by rw [HRF.out, HSG.out HE])
              have HPN := Lib.hid (HPK2.out HE)
              clear HE HNI hBn HPK2 HPK
              go_wp2_with fail
              go_roundw
              case rel => exact ⟨j + 1, by omega, by go_num, HV, HPN, HBN⟩
              case measure => simp [intOf]; omega
    · have HV := Lib.hid (show RES = 0 by rw [HRF.out, scanF_end (untF lib) units k (by omega)])
      have HBO := Lib.hid hB
      have hkk : k = units.length := by omega
      clear hB
      subst hkk
      go_wp2_with fail
      go_ret
      exact ⟨by rw [HV.out] <;> rfl, HBO.out⟩
end Go.Proofs.YtppbagllhmeenaaGreatDoor
