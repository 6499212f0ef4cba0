/- The reference's Settings. (printed by wip/gen/gen_rsettings.py) -/
import Derived.Test.YtabalicembhjmaaRCkRig
import Derived.Test.YtabalicembhjmaaProfB
import Derived.Test.YtabalicembhjmaaRCkProf
import Derived.Test.YtabalicembhjmaaTBox
namespace Go.Proofs.Ytabalicembhjmaa
open Go.RowKit
set_option linter.unusedVariables false
set_option linter.unusedSimpArgs false

set_option maxRecDepth 100000 in
set_option maxHeartbeats 16000000 in
theorem setR_fun {l : List Frm} (h : chkFrms l = 0) (lib : List Prf) : setR lib l = setU lib l := funext (setR_eq h lib)
theorem filter_snoc {α : Type} (p : α → Bool) (l : List α) (k : Nat) (h : k < l.length) : (l.take (k + 1)).filter p = if p l[k] then (l.take k).filter p ++ [l[k]] else (l.take k).filter p := by
  rw [List.take_succ_eq_append_getElem h, List.filter_append]
  by_cases c : p l[k] = true
  · rw [if_pos c]; simp [c]
  · rw [if_neg c]; simp [c]
theorem filter_len {l : List Frm} (p : Frm → Bool) (k : Nat) (h : l.length ≤ 64) (pl : List Par) (hp : pl.length ≤ 40) (u : Unt) : (((l.take k).filter p).flatMap (fun f => pl.map (setO u f))).length ≤ 2560 := by
  have h1 := flat_le (fun f => pl.map (setO u f)) 40 ((l.take k).filter p) (fun x _ => by rw [List.length_map]; exact hp)
  have h2 := List.length_filter_le p (l.take k)
  rw [List.length_take] at h2
  omega
set_option maxRecDepth 100000 in
set_option maxHeartbeats 16000000 in
theorem rsettings_any (x : Rig) (lv uv : Value) (l : List Frm) (fv : Value) (w : World) (h : RigAt w.heap.size w x lv uv) (hf : RigFit x) (hF : FrmS w.heap.size w fv l) (hff : ∀ f ∈ l, FrmFit f) :
    Calls Try.prog 11 #[rigV lv uv, fv] w fun e w' => ∃ sv, e = .returned (.tuple #[sv, .int .i64 (chkSet x l)]) ∧ StgS w'.heap.size w' sv (setsV x l) ∧ Below w.heap.size w w' := by
  have CL := Lib.hid (fun W (hb : Below w.heap.size w W) => rckRig_any x lv uv W ((h.below hb).more hb.size) hf)
  have CP := Lib.hid (fun (nm : ByteArray) W (hb : Below w.heap.size w W) => rprofile_base w.heap.size lv x.lib nm W hb.size (h.lib.below hb))
  have HGU := Lib.hid (UntS.get h.units)
  have HUF := Lib.hid hf.2
  obtain ⟨uo, ucap, rfl, _⟩ := CellsS.shape h.units
  obtain ⟨lo, lcap, rfl⟩ := prfS_shape h.lib
  have hcp := untS_cap h.units
  obtain ⟨fl, hfl, hfc, hfb⟩ := hF
  have HFB := Lib.hid hfb
  have HGF := Lib.hid (frmC_get hfc)
  have hfn := CellsS.len hfc
  unfold maxLen at hfn
  obtain ⟨fo, fcap, rfl, _⟩ := CellsS.shape hfc
  have hll : l.length = fl.length := by rw [← hfl]; simp
  have HLK := Lib.hid (show ∀ k (h : k < fl.length), l[k]'(by omega) = fl[k].1 from fun k h => by subst hfl; simp)
  have HFI := Lib.hid (show ∀ k (h : k < fl.length), FrmFit fl[k].1 from fun k h => by rw [← HLK.out k h]; exact hff _ (List.getElem_mem _))
  clear h hf hfc hfb hff
  obtain ⟨lib, units⟩ := x
  simp only [rigV] at *
  have HC0 := Lib.hid (show chkSet ⟨lib, units⟩ l = if chkRig ⟨lib, units⟩ ≠ 0 then chkRig ⟨lib, units⟩ else chkFrms l from rfl)
  have HS0 := Lib.hid (show chkSet ⟨lib, units⟩ l = 0 → setsV ⟨lib, units⟩ l = setV lib units l ∧ chkFrms l = 0 from fun h => ⟨by unfold setsV; rw [if_pos h], (chkSet_zero h).2⟩)
  have HS1 := Lib.hid (show ¬ chkSet ⟨lib, units⟩ l = 0 → setsV ⟨lib, units⟩ l = [] from fun h => by unfold setsV; rw [if_neg h])
  generalize setsV ⟨lib, units⟩ l = SV at *
  generalize chkSet ⟨lib, units⟩ l = RES at *
  have KC := Lib.hid (show ∀ W, Below (w.heap.size + 1) (w.alloc (.cells #[.slice lo lib.length lcap, .slice uo units.length ucap] 25)) W → (Below w.heap.size w W ∧ w.heap.size < W.heap.size ∧ W.cell? ⟨w.heap.size, 0, none⟩ = some (.slice lo lib.length lcap) ∧ W.cell? ⟨w.heap.size, 1, none⟩ = some (.slice uo units.length ucap)) from fun W hW => by
    have hz := hW.size
    simp at hz
    exact ⟨((Below.refl _ _).alloc (Nat.le_refl _) _).trans (hW.mono (by omega)), by omega, (hW.cell (p := ⟨w.heap.size, 0, none⟩) (by simp)).trans (by simp [go_sem]), (hW.cell (p := ⟨w.heap.size, 1, none⟩) (by simp)).trans (by simp [go_sem])⟩)
  have KA := Lib.hid (show ∀ W o, Below (w.heap.size + 1) (w.alloc (.cells #[.slice lo lib.length lcap, .slice uo units.length ucap] 25)) W → Below (w.heap.size + 1) (w.alloc (.cells #[.slice lo lib.length lcap, .slice uo units.length ucap] 25)) (W.alloc o) from fun W o h => h.alloc (by have := h.size; simp at this; omega) o)
  have KM := Lib.hid (show ∀ W W1, Below (w.heap.size + 1) (w.alloc (.cells #[.slice lo lib.length lcap, .slice uo units.length ucap] 25)) W → Below W.heap.size W W1 → Below (w.heap.size + 1) (w.alloc (.cells #[.slice lo lib.length lcap, .slice uo units.length ucap] 25)) W1 from fun W W1 h1 h2 => h1.trans (h2.mono (by have := h1.size; simp at this; omega)))
  have HK0 := Lib.hid (Below.refl (w.heap.size + 1) (w.alloc (.cells #[.slice lo lib.length lcap, .slice uo units.length ucap] 25)))
  have CL1 := Lib.hid (CL.out _ (KC.out _ HK0.out).1)
  clear CL
  go_enter Try.func11, Try.ntmps11
  go_wp2_with fail
  refine CL1.out.mono ?_
  rintro e w2 ⟨rfl, hb2⟩
  have HB2 := Lib.hid (KM.out _ _ HK0.out hb2)
  clear hb2 CL1
  obtain ⟨hB2, hz2, p0, p1⟩ := KC.out _ HB2.out
  have HBB := Lib.hid hB2
  clear hB2
  by_cases hE : chkRig ⟨lib, units⟩ = 0
  rotate_left
  · have HV := Lib.hid (show RES = chkRig ⟨lib, units⟩ by rw [HC0.out, if_pos hE])
    have HSV := Lib.hid (HS1.out (by rw [HV.out]; exact hE))
    generalize chkRig ⟨lib, units⟩ = E at *
    go_wp2_with fail
    exact bodyPost_ret (v := .tuple #[.slice none 0 0, .int .i64 E]) (by simp [results, Try.results11, go_sem]) rfl ⟨.slice none 0 0, by rw [HV.out] <;> rfl, by rw [HSV.out]; exact stgS_nil _ _, HBB.out⟩
  have HC := Lib.hid (show RES = scanF frmF l 0 by rw [HC0.out, if_neg (by simpa using hE)]; rfl)
  have HPR := Lib.hid (show ∀ u ∈ units, ∃ p, profOf lib u.nm = some p ∧ p.pars.length ≤ 40 ∧ (1 ≤ u.addr ∧ u.addr + p.size - 1 ≤ 512) ∧ ∀ q ∈ p.pars, (1 ≤ q.sl ∧ q.sl ≤ p.size) ∧ (0 ≤ q.fine ∧ q.fine ≤ p.size) from fun u hu => par_right hE hu)
  have HSL := Lib.hid (show ∀ k, ((units.take k).flatMap (setU lib l)).length ≤ 16000 from fun k => setV_len hE l k)
  have hun : units.length ≤ 400 := (chkRig_zero hE).2.1
  rw [hE]
  clear HC0 hE HBB
  go_wp2_with fail
  clear p0 p1
  go_loopw [27] (fun i wx => ∃ k : Nat, k ≤ fl.length ∧ i = .int .i64 k ∧ Hid (RES = scanF frmF l k) ∧ Hid (Below (w.heap.size + 1) (w.alloc (.cells #[.slice lo lib.length lcap, .slice uo units.length ucap] 25)) wx)) (fun i _ => fl.length - (intOf i).toNat)
  case atStart => exact ⟨0, Nat.zero_le _, rfl, HC, HB2⟩
  case round =>
    clear HC HB2
    obtain ⟨k, hk, rfl, HRF, HBW⟩ := hrel
    obtain ⟨hB, hz, p0, p1⟩ := KC.out wr HBW.out
    by_cases hlt : k < fl.length
    · obtain ⟨b, off, cap', hsl, hb, _, hc⟩ := HGF.out (by omega)
      injection hsl with hs1 hs2 hs3
      subst hs1 hs3
      obtain ⟨d0, d1⟩ := hc k hlt wr hB
      have HPV := Lib.hid (fun (h0 : 0 < k) => hc (k - 1) (by omega) wr hB)
      have hbr : b < wr.heap.size := by have := hB.size; omega
      have hfit := HFI.out k hlt
      have HSG := Lib.hid (scanF_good frmF l k (by omega))
      have HSB := Lib.hid (scanF_bad frmF l k (by omega))
      have HFD := Lib.hid (show frmF (l.take k) (l[k]'(by omega)) = if !inR (l[k]'(by omega)).univ 1 64 then 1 else if (l[k]'(by omega)).sl.length ≠ 512 then 3 else if frmLow (l.take k) (l[k]'(by omega)) then 7 else 0 from rfl)
      have HLW0 := Lib.hid (show k = 0 → frmLow (l.take k) (l[k]'(by omega)) = false from fun h0 => by subst h0; rfl)
      have HLW := Lib.hid (show ∀ h0 : 0 < k, frmLow (l.take k) (l[k]'(by omega)) = decide ((l[k]'(by omega)).univ ≤ (l[k - 1]'(by omega)).univ) from fun h0 => by unfold frmLow; rw [last_take l k (by omega) h0]; rfl)
      have HLP := Lib.hid (show ∀ h0 : 0 < k, l[k - 1]'(by omega) = fl[k - 1].1 from fun h0 => HLK.out (k - 1) (by omega))
      have hlk := HLK.out k hlt
      rw [hlk] at HSG HSB HFD HLW0 HLW
      obtain ⟨so, scap, hsv⟩ := bytS_shape (HFB.out _ (List.getElem_mem hlt))
      generalize frmLow (l.take k) fl[k].1 = LW at *
      generalize frmF (l.take k) fl[k].1 = FF at *
      clear hc hfit hlk hB
      generalize hrk : fl[k] = rk at *
      clear hrk
      obtain ⟨⟨fu, fs⟩, fv⟩ := rk
      simp only at *
      subst hsv
      have HBA := Lib.hid (KA.out _ (.cells #[.int .i64 fu, .slice so fs.length scap] 64) HBW.out)
      rcases Bool.eq_false_or_eq_true (inR fu 1 64) with k0 | k0
      rotate_left
      · skip
        have HE : FF = 1 := by rw [HFD.out]; simp [k0]
        have HV := Lib.hid (show RES = 1 by rw [HRF.out, HSB.out (by rw [HE]; decide), HE])
        have HSV := Lib.hid (HS1.out (by rw [HV.out]; decide))
        clear HE
        go_wp2_with (first | (go_at_call 33; ((with_reducible refine (rwithin_R _ _ _ _).mono ?_); rintro e w' ⟨rfl, rfl⟩)) | fail)
        exact bodyPost_ret (v := .tuple #[.slice none 0 0, .int .i64 1]) (by simp [results, Try.results11, go_sem]) rfl ⟨.slice none 0 0, by rw [HV.out] <;> rfl, by rw [HSV.out]; exact stgS_nil _ _, (KC.out _ HBA.out).1⟩
      by_cases k1 : fs.length = 512
      rotate_left
      · have k2 : ((fs.length : Int) == 512) = false := by simp; omega
        have k3 : ¬ (fs.length : Int) = 512 := by omega
        have HE : FF = 3 := by rw [HFD.out]; simp [k0, k1]
        have HV := Lib.hid (show RES = 3 by rw [HRF.out, HSB.out (by rw [HE]; decide), HE])
        have HSV := Lib.hid (HS1.out (by rw [HV.out]; decide))
        clear HE
        go_wp2_with (first | (go_at_call 33; ((with_reducible refine (rwithin_R _ _ _ _).mono ?_); rintro e w' ⟨rfl, rfl⟩)) | fail)
        exact bodyPost_ret (v := .tuple #[.slice none 0 0, .int .i64 3]) (by simp [results, Try.results11, go_sem]) rfl ⟨.slice none 0 0, by rw [HV.out] <;> rfl, by rw [HSV.out]; exact stgS_nil _ _, (KC.out _ HBA.out).1⟩
      have k2 : ((fs.length : Int) == 512) = true := by simp; omega
      have k3 : (fs.length : Int) = 512 := by omega
      have HFX := Lib.hid (show FF = if LW then 7 else 0 by rw [HFD.out]; simp [k0, k1])
      clear k1
      go_upto_region 11 with (first | (go_at_call 33; ((with_reducible refine (rwithin_R _ _ _ _).mono ?_); rintro e w' ⟨rfl, rfl⟩)) | fail)
      clear HFD k0 k2 k3
      have HFD := HFX
      clear HFX
      go_cut [42] (fun s42 wx => s42 = .bool LW ∧ Below wx.heap.size (wr.alloc (.cells #[.int .i64 fu, .slice so fs.length scap] 64)) wx ∧ wx.heap.size = wr.heap.size + 1)
      case first =>
        by_cases h0 : k = 0
        · subst h0
          have HV := Lib.hid (HLW0.out rfl)
          clear HPV HLW HLW0
          go_quiet (fail)
          go_wp2_with fail
          all_goals go_meet
          all_goals exact ⟨by rw [HV.out] <;> rfl, bel_drewF (Below.refl _ _) _, by simp⟩
        · obtain ⟨j, rfl⟩ : ∃ j, k = j + 1 := ⟨k - 1, by omega⟩
          have HLX := Lib.hid (HLW.out (by omega))
          obtain ⟨d4, _⟩ := HPV.out (by omega)
          have hlp := HLP.out (by omega)
          rw [hlp] at HLX
          clear HPV HLW HLW0 hlp HLP
          simp only [Nat.add_sub_cancel] at d4 HLX
          generalize fl[j] = rj at *
          obtain ⟨⟨ju, js⟩, jv⟩ := rj
          simp only at d4 HLX
          have hji : ((j + 1 : Nat) : Int) - 1 = (j : Int) := by omega
          by_cases hle : fu ≤ ju
          · skip
            have HV := Lib.hid (show LW = true by rw [HLX.out]; simpa using hle)
            clear HLX
            go_quiet (fail)
            go_wp2_with fail
            all_goals go_meet
            all_goals exact ⟨by rw [HV.out] <;> rfl, bel_drewF (Below.refl _ _) _, by simp⟩
          · skip
            have HV := Lib.hid (show LW = false by rw [HLX.out]; simpa using hle)
            clear HLX
            have hled : decide (fu ≤ ju) = false := by simpa using hle
            go_quiet (fail)
            go_wp2_with fail
            all_goals go_meet
            all_goals exact ⟨by rw [HV.out] <;> rfl, bel_drewF (Below.refl _ _) _, by simp⟩
      case rest =>
        obtain ⟨rfl, hb3, hz3⟩ := hcut
        have HBC := Lib.hid (KM.out _ wc HBA.out (hb3.mono (by simp; omega)))
        clear hb3 d0 d1 HLW HLW0 HPV HBA HBW p0 p1
        cases LW
        rotate_left
        · skip
          have HE : FF = 7 := by rw [HFD.out]; rfl
          have HV := Lib.hid (show RES = 7 by rw [HRF.out, HSB.out (by rw [HE]; decide), HE])
          have HSV := Lib.hid (HS1.out (by rw [HV.out]; decide))
          clear HE
          go_wp2_with fail
          exact bodyPost_ret (v := .tuple #[.slice none 0 0, .int .i64 7]) (by simp [results, Try.results11, go_sem]) rfl ⟨.slice none 0 0, by rw [HV.out] <;> rfl, by rw [HSV.out]; exact stgS_nil _ _, (KC.out _ HBC.out).1⟩
        have HE : FF = 0 := by rw [HFD.out]; rfl
        have HV := Lib.hid (show RES = scanF frmF l (k + 1) by rw [HRF.out, HSG.out HE])
        clear HE
        go_wp2_with fail
        go_roundw
        case rel => exact ⟨k + 1, by omega, by first | rfl | go_num, HV, HBC⟩
        case measure => simp [intOf]; omega
    · have HV := Lib.hid (show RES = 0 by rw [HRF.out, scanF_end frmF l k (by omega)])
      have hkk : k = fl.length := by omega
      subst hkk
      obtain ⟨HSV', hck⟩ := HS0.out HV.out
      have HFT := Lib.hid (show ∀ k (h : k < fl.length), fl[k].1.sl.length = 512 ∧ BytS w.heap.size w fl[k].2 fl[k].1.sl ∧ (∀ b ∈ fl[k].1.sl, 0 ≤ b ∧ b ≤ 255) from fun k h => ⟨by rw [← HLK.out k h]; exact frm_long hck (List.getElem_mem _), HFB.out _ (List.getElem_mem h), (HFI.out k h).2⟩)
      have HSR := Lib.hid (fun (u : Unt) (p : Prf) (hp : profOf lib u.nm = some p) => show setR lib l u = (l.filter (isU u)).flatMap (fun f => p.pars.map (setO u f)) from by unfold setR parsOf; rw [hp]; rfl)
      have HSN := Lib.hid (flat_snoc' (setR lib l) units)
      have HSL2 := Lib.hid (show ∀ k, ((units.take k).flatMap (setR lib l)).length ≤ 16000 from fun k => by rw [setR_fun hck lib]; exact HSL.out k)
      have HVE := Lib.hid (show (units.take units.length).flatMap (setR lib l) = SV by rw [HSV', List.take_length, setR_fun hck lib]; rfl)
      have h64 := frms_few hck
      obtain ⟨w3, rfl⟩ : ∃ w3 : World, w3 = wr := ⟨_, rfl⟩
      have K3 := Lib.hid (show ∀ W, Below w3.heap.size w3 W → (Below w.heap.size w W ∧ w.heap.size < W.heap.size ∧ W.cell? ⟨w.heap.size, 0, none⟩ = some (.slice lo lib.length lcap) ∧ W.cell? ⟨w.heap.size, 1, none⟩ = some (.slice uo units.length ucap)) from fun W hW => KC.out W (KM.out _ _ HBW.out hW))
      clear HSV' hck HRF HS0 HS1 HFB HFI HBW HSL hB
      generalize setR lib l = SU at *
      go_wp2_with fail
      clear p0 p1 hz
      go_loopw [60, 9] (fun i ov wx => ∃ j : Nat, j ≤ units.length ∧ i = .int .i64 j ∧ Hid (OwnS w3.heap.size wx ov ((units.take j).flatMap SU)) ∧ Hid (Below w3.heap.size w3 wx)) (fun i _ _ => units.length - (intOf i).toNat)
      case atStart => exact ⟨0, Nat.zero_le _, rfl, Lib.hid (OwnS.nil _ _), Lib.hid (Below.refl _ _)⟩
      case round =>
        obtain ⟨j, hj, rfl, HOW, HBW⟩ := hrel
        obtain ⟨wo, rfl⟩ : ∃ wo : World, wo = wr := ⟨_, rfl⟩
        obtain ⟨hB, hz, p0, p1⟩ := K3.out wo HBW.out
        have hzo := HBW.out.size
        have HLN := Lib.hid (HSL2.out j)
        by_cases hlt : j < units.length
        · have HSN1 := Lib.hid (HSN.out j hlt)
          generalize (units.take j).flatMap SU = SL at *
          obtain ⟨oo, ocap, rfl⟩ := HOW.out.shape
          obtain ⟨b, off, cap', hsl, hb, _, hc⟩ := HGU.out (by omega)
          injection hsl with hs1 hs2 hs3
          subst hs1 hs3
          obtain ⟨d0, d1, d2, d3⟩ := hc j hlt wo hB
          have hbr : b < wo.heap.size := by have := hB.size; omega
          have HP := Lib.hid (HPR.out _ (List.getElem_mem hlt))
          have HUS := Lib.hid (HSR.out units[j])
          have HCU := Lib.hid (show ∀ f : Frm, isU units[j] f = decide (f.univ = units[j].univ) from fun f => rfl)
          have hnm : units[j].nm = units[j].prof.data.toList := rfl
          rw [hnm] at HP HUS
          clear hc hnm
          generalize SU units[j] = SJ at *
          generalize isU units[j] = PU at *
          generalize hrk : units[j] = rk at *
          clear hrk
          obtain ⟨un, up, uu, ua⟩ := rk
          simp only at *
          have HBX := Lib.hid (HBW.out.alloc hzo (.cells #[.int .i64 un, .string up, .int .i64 uu, .int .i64 ua] 67))
          have HTU := Lib.hid (TBox.new wo #[.int .i64 un, .string up, .int .i64 uu, .int .i64 ua] 67)
          have HOX := Lib.hid (HOW.out.below ((Below.refl _ _).alloc (Nat.le_refl _) (.cells #[.int .i64 un, .string up, .int .i64 uu, .int .i64 ua] 67)))
          obtain ⟨hBx, _, q0, q1⟩ := K3.out _ HBX.out
          obtain ⟨p, hpo, hp40, ⟨ha1, ha2⟩, hpq⟩ := HP.out
          have HE := Lib.hid (HUS.out p hpo)
          have HPQ := Lib.hid hpq
          have CP1 := Lib.hid (CP.out up _ hBx)
          rw [hpo] at CP1
          clear HUS HP hpo hpq hBx hB HOW
          obtain ⟨pn, pz, pl⟩ := p
          simp only at *
          go_wp2_with fail
          refine CP1.out.mono ?_
          rintro e w5 ⟨pv, rfl, ⟨qv, rfl, hps⟩, hb5⟩
          obtain ⟨po, pcap, rfl⟩ := parS_shape hps
          have hz5 := hb5.size
          simp only [World.size_alloc] at hz5
          have HPS := Lib.hid (ParS.get hps)
          have hpl := parS_cap hps
          simp only at HPS hpl
          have HT5 := Lib.hid (HTU.out.below hb5)
          have HO5 := Lib.hid (HOX.out.below hb5)
          have HB5 := Lib.hid (HBX.out.trans (hb5.mono (by simp; omega)))
          have HT6 := Lib.hid (HT5.out.alloc (.cells #[.string pn, .int .i64 pz, .slice po pl.length pcap] 70))
          have HTP := Lib.hid (TBox.new w5 #[.string pn, .int .i64 pz, .slice po pl.length pcap] 70)
          have HO6 := Lib.hid (HO5.out.below ((Below.refl _ _).alloc (Nat.le_refl _) (.cells #[.string pn, .int .i64 pz, .slice po pl.length pcap] 70)))
          have HB6 := Lib.hid (HB5.out.alloc (by omega) (.cells #[.string pn, .int .i64 pz, .slice po pl.length pcap] 70))
          have HPS6 := Lib.hid (show ∀ W, Below w3.heap.size (w5.alloc (.cells #[.string pn, .int .i64 pz, .slice po pl.length pcap] 70)) W → Below w.heap.size w5 W from fun W hW => (((Below.refl _ _).alloc (Nat.le_refl _) _).mono (by omega)).trans (hW.mono (by have := (K3.out _ (Below.refl _ _)).2.1; omega)))
          have HBK6 := Lib.hid (show ∀ W, Below w3.heap.size (w5.alloc (.cells #[.string pn, .int .i64 pz, .slice po pl.length pcap] 70)) W → Below w.heap.size w W from fun W hW => (K3.out _ (HB6.out.trans hW)).1)
          have hz6 : w3.heap.size ≤ (w5.alloc (.cells #[.string pn, .int .i64 pz, .slice po pl.length pcap] 70)).heap.size := by simp; omega
          clear hps hb5 CP1 HBX HTU HOX HT5 HO5 HB5 q0 q1 d0 d1 d2 d3
          go_wp2_with fail
          generalize hW6 : w5.alloc (.cells #[.string pn, .int .i64 pz, .slice po pl.length pcap] 70) = w6 at *
          clear hW6
          have hw3 := (K3.out _ (Below.refl _ _)).2.1
          have HFL := Lib.hid (filter_len PU (l := l) (pl := pl) (u := ⟨un, up, uu, ua⟩) (h := h64) (hp := hp40))
          have HFS := Lib.hid (filter_snoc PU l)
          go_loopw [74, 9] (fun i o wx => ∃ (m : Nat) (ov : Value), m ≤ fl.length ∧ i = .int .i64 m ∧ ov = o ∧ Hid (OwnS w3.heap.size wx ov (SL ++ ((l.take m).filter PU).flatMap (fun f => pl.map (setO ⟨un, up, uu, ua⟩ f)))) ∧ Hid (Below w3.heap.size w6 wx) ∧ Hid (TBox wx wo.heap.size 67 #[.int .i64 un, .string up, .int .i64 uu, .int .i64 ua]) ∧ Hid (TBox wx w5.heap.size 70 #[.string pn, .int .i64 pz, .slice po pl.length pcap])) (fun i _ _ => fl.length - (intOf i).toNat)
          case atStart => exact ⟨0, _, Nat.zero_le _, rfl, rfl, Lib.hid (by simpa using HO6.out), Lib.hid (Below.refl _ _), HT6, HTP⟩
          case round =>
            obtain ⟨m, ov, hm, rfl, rfl, HOW, HBN, HTN, HTQ⟩ := hrel
            obtain ⟨wf, rfl⟩ : ∃ wf : World, wf = wr := ⟨_, rfl⟩
            have hzf := HBN.out.size
            have hBf := HBK6.out wf HBN.out
            have hof := HTN.out.lt
            have hqf := HTQ.out.lt
            by_cases hml : m < fl.length
            · obtain ⟨b3, off3, cap3, hsl, hb3, _, hc⟩ := HGF.out (by omega)
              injection hsl with hs1 hs2 hs3
              subst hs1 hs3
              obtain ⟨d0, d1⟩ := hc m hml wf hBf
              have hbr3 : b3 < wf.heap.size := by omega
              have HFF := Lib.hid (HFT.out m hml)
              have HFN := Lib.hid (HFS.out m (by omega))
              have hlk := HLK.out m hml
              rw [hlk, HCU.out] at HFN
              obtain ⟨so, scap, hsv⟩ := bytS_shape HFF.out.2.1
              have HLM := Lib.hid (HFL.out m)
              clear hc hlk
              generalize (l.take m).filter PU = FM at *
              generalize hrk : fl[m] = rk at *
              clear hrk
              obtain ⟨⟨fu, fs⟩, fv⟩ := rk
              simp only at *
              subst hsv
              have HBF := Lib.hid (HBN.out.alloc (by omega) (.cells #[.int .i64 fu, .slice so fs.length scap] 64))
              have HTF := Lib.hid (HTN.out.alloc (.cells #[.int .i64 fu, .slice so fs.length scap] 64))
              have HTG := Lib.hid (HTQ.out.alloc (.cells #[.int .i64 fu, .slice so fs.length scap] 64))
              have HTH := Lib.hid (TBox.new wf #[.int .i64 fu, .slice so fs.length scap] 64)
              have HOF := Lib.hid (HOW.out.below ((Below.refl _ _).alloc (Nat.le_refl _) (.cells #[.int .i64 fu, .slice so fs.length scap] 64)))
              have t2 := HTN.out.cell (i := 2) rfl
              have s2 := HTQ.out.cell (i := 2) rfl
              clear HBN HTN HTQ HOW
              by_cases hfu : fu = uu
              rotate_left
              · have h2 : (fu == uu) = false := by simpa using hfu
                have HV := Lib.hid (show OwnS w3.heap.size (wf.alloc (.cells #[.int .i64 fu, .slice so fs.length scap] 64)) ov (SL ++ ((l.take (m + 1)).filter PU).flatMap (fun f => pl.map (setO ⟨un, up, uu, ua⟩ f))) by rw [HFN.out, if_neg (by simpa using hfu)]; exact HOF.out)
                go_wp2_with fail
                go_roundw
                case rel => exact ⟨m + 1, _, by omega, by first | rfl | go_num, rfl, HV, HBF, HTF, HTG⟩
                case measure => simp [intOf]; omega
              · have hfv := Eq.symm hfu
                clear hfu
                subst hfv
                obtain ⟨h512, hby, hbt⟩ := HFF.out
                obtain ⟨bb, boff, bcap, hbs, hbb, _, hbc⟩ := BytS.get hby (by omega)
                injection hbs with hbs1 _ hbs3
                subst hbs1 hbs3
                have HBC := Lib.hid hbc
                have HBT := Lib.hid hbt
                have HFX := Lib.hid (show (l.take (m + 1)).filter PU = FM ++ [⟨uu, fs⟩] by rw [HFN.out, if_pos (by simp)])
                have H512 := Lib.hid h512
                clear h512
                clear hbt hby hbc HFF HFN
                go_wp2_with fail
                have HMP := Lib.hid (map_snoc' (setO ⟨un, up, uu, ua⟩ ⟨uu, fs⟩) pl)
                have HGX := Lib.hid (show (FM ++ [(⟨uu, fs⟩ : Frm)]).flatMap (fun f => pl.map (setO ⟨un, up, uu, ua⟩ f)) = FM.flatMap (fun f => pl.map (setO ⟨un, up, uu, ua⟩ f)) ++ pl.map (setO ⟨un, up, uu, ua⟩ ⟨uu, fs⟩) from by rw [List.flatMap_append]; simp)
                generalize FM.flatMap (fun f => pl.map (setO ⟨un, up, uu, ua⟩ f)) = GM at *
                have hgl : (SL ++ GM).length ≤ 20000 := by rw [List.length_append]; have := HLN.out; have := HLM.out; omega
                have HLQ := Lib.hid (show (SL ++ GM).length ≤ 20000 from hgl)
                clear hgl HLM
                have HOG := HOF
                go_loopw [86, 9] (fun i o wx => ∃ (n : Nat) (ov : Value), n ≤ pl.length ∧ i = .int .i64 n ∧ ov = o ∧ Hid (OwnS w3.heap.size wx ov ((SL ++ GM) ++ (pl.take n).map (setO ⟨un, up, uu, ua⟩ ⟨uu, fs⟩))) ∧ Hid (Below w3.heap.size w6 wx) ∧ Hid (TBox wx wo.heap.size 67 #[.int .i64 un, .string up, .int .i64 uu, .int .i64 ua]) ∧ Hid (TBox wx w5.heap.size 70 #[.string pn, .int .i64 pz, .slice po pl.length pcap]) ∧ Hid (TBox wx wf.heap.size 64 #[.int .i64 uu, .slice (some ⟨bb, boff, none⟩) fs.length scap])) (fun i _ _ => pl.length - (intOf i).toNat)
                case atStart => exact ⟨0, _, Nat.zero_le _, rfl, rfl, Lib.hid (by simpa using HOG.out), HBF, HTF, HTG, HTH⟩
                case round =>
                  clear HOG HOF HBF HTF HTG HTH t2 s2
                  obtain ⟨n, ov, hn, rfl, rfl, HOW, HBN, HTN, HTQ, HTH⟩ := hrel
                  have hzr := HBN.out.size
                  have hBw := HBK6.out wr HBN.out
                  have hor := HTN.out.lt
                  have hfr := HTH.out.lt
                  by_cases hnl : n < pl.length
                  · obtain ⟨b2, off2, cap2, hsl, hb2, _, hc⟩ := HPS.out (by omega)
                    injection hsl with hs1 hs2 hs3
                    subst hs1 hs3
                    obtain ⟨rv, hrv, hcc⟩ := hc n hnl
                    obtain ⟨d0, d1, d2, d3, d4, d5, d6⟩ := hcc wr (HPS6.out wr HBN.out)
                    obtain ⟨ro, rcap, rfl, _⟩ := CellsS.shape hrv
                    have hbr2 : b2 < wr.heap.size := by omega
                    have hbbr : bb < wr.heap.size := by omega
                    obtain ⟨⟨g1, g2⟩, g3, g4⟩ := HPQ.out _ (List.getElem_mem hnl)
                    have HMN := Lib.hid (HMP.out n hnl)
                    have hml2 : ((pl.take n).map (setO ⟨un, up, uu, ua⟩ ⟨uu, fs⟩)).length ≤ 40 := by rw [List.length_map, List.length_take]; omega
                    have HLV := Lib.hid (show setO ⟨un, up, uu, ua⟩ ⟨uu, fs⟩ pl[n] = ⟨un, pl[n].name, if pl[n].fine = 0 then atF ⟨uu, fs⟩ (ua + pl[n].sl - 2) * 257 else 256 * atF ⟨uu, fs⟩ (ua + pl[n].sl - 2) + atF ⟨uu, fs⟩ (ua + pl[n].fine - 2)⟩ from rfl)
                    rw [HLV.out] at HMN
                    generalize (pl.take n).map (setO ⟨un, up, uu, ua⟩ ⟨uu, fs⟩) = ML at *
                    clear hc hcc hrv HLV
                    generalize hrk : pl[n] = rk at *
                    clear hrk
                    obtain ⟨xn, xg, xs, xf, xd, xb, xl⟩ := rk
                    simp only at *
                    obtain ⟨i1, hi1⟩ : ∃ i : Nat, ua + xs - 2 = (i : Int) := ⟨(ua + xs - 2).toNat, by omega⟩
                    have hi1b : i1 < fs.length := by have := H512.out; omega
                    have HA1 := Lib.hid (at_val (f := ⟨uu, fs⟩) hi1b hi1)
                    have c1 := HBC.out i1 hi1b wr hBw
                    obtain ⟨v10, v11⟩ := HBT.out _ (List.getElem_mem hi1b)
                    simp only at HA1
                    have HA2 := Lib.hid (show 0 < xf → ∃ (i2 : Nat) (h : i2 < fs.length), ua + xf - 2 = (i2 : Int) ∧ atF ⟨uu, fs⟩ (ua + xf - 2) = fs[i2] from fun h => ⟨(ua + xf - 2).toNat, by have := H512.out; omega, by omega, at_val (f := ⟨uu, fs⟩) (by have := H512.out; simp; omega) (by omega)⟩)
                    generalize fs[i1] = v1 at *
                    generalize hLV : (if xf = 0 then atF ⟨uu, fs⟩ (ua + xs - 2) * 257 else 256 * atF ⟨uu, fs⟩ (ua + xs - 2) + atF ⟨uu, fs⟩ (ua + xf - 2)) = LV at *
                    have HLV := Lib.hid hLV
                    clear hLV
                    have t0 := HTN.out.cell (i := 0) rfl
                    have t3 := HTN.out.cell (i := 3) rfl
                    have z1 := HTH.out.cell (i := 1) rfl
                    have HBX := Lib.hid (HBN.out.alloc (by omega) (.cells #[.string xn, .int .i64 xg, .int .i64 xs, .int .i64 xf, .int .i64 xd, .bool xb, .slice ro xl.length rcap] 42))
                    have HTX := Lib.hid (HTN.out.alloc (.cells #[.string xn, .int .i64 xg, .int .i64 xs, .int .i64 xf, .int .i64 xd, .bool xb, .slice ro xl.length rcap] 42))
                    have HTY := Lib.hid (HTQ.out.alloc (.cells #[.string xn, .int .i64 xg, .int .i64 xs, .int .i64 xf, .int .i64 xd, .bool xb, .slice ro xl.length rcap] 42))
                    have HTZ := Lib.hid (HTH.out.alloc (.cells #[.string xn, .int .i64 xg, .int .i64 xs, .int .i64 xf, .int .i64 xd, .bool xb, .slice ro xl.length rcap] 42))
                    have HOX := Lib.hid (HOW.out.below ((Below.refl _ _).alloc (Nat.le_refl _) (.cells #[.string xn, .int .i64 xg, .int .i64 xs, .int .i64 xf, .int .i64 xd, .bool xb, .slice ro xl.length rcap] 42)))
                    have a1 : IntKind.i64.wrap (ua + xs) = ua + xs := IntWalk.i64_in _ (by omega)
                    have a2 : IntKind.i64.wrap (ua + xs - 2) = (i1 : Int) := by rw [hi1]; exact IntWalk.i64_in _ (by omega)
                    have hi512 : (i1 : Int) < (fs.length : Int) := by omega
                    clear HBN HTN HTQ HTH HOW
                    go_upto_if 104 with (first | (go_at_call 35; refine (rfromOct_any v1 v10 v11 _).mono ?_; rintro e w' ⟨rfl, rfl⟩) | fail)
                    go_cut [19] (fun s19 wx => s19 = .int .i64 LV ∧ Below (wr.alloc (.cells #[.string xn, .int .i64 xg, .int .i64 xs, .int .i64 xf, .int .i64 xd, .bool xb, .slice ro xl.length rcap] 42)).heap.size (wr.alloc (.cells #[.string xn, .int .i64 xg, .int .i64 xs, .int .i64 xf, .int .i64 xd, .bool xb, .slice ro xl.length rcap] 42)) wx)
                    case first =>
                      by_cases hxf : 0 < xf
                      · obtain ⟨i2, hi2b, hi2, h2v⟩ := HA2.out hxf
                        have c2 := HBC.out i2 hi2b wr hBw
                        obtain ⟨v20, v21⟩ := HBT.out _ (List.getElem_mem hi2b)
                        have HV := Lib.hid (show LV = 256 * v1 + fs[i2] by rw [← HLV.out, if_neg (by omega), HA1.out, h2v])
                        clear h2v
                        generalize fs[i2] = v2 at *
                        have a3 : IntKind.i64.wrap (ua + xf) = ua + xf := IntWalk.i64_in _ (by omega)
                        have a4 : IntKind.i64.wrap (ua + xf - 2) = (i2 : Int) := by rw [hi2]; exact IntWalk.i64_in _ (by omega)
                        have a5 : IntKind.i64.wrap v1 = v1 := IntWalk.i64_in _ (by omega)
                        have a6 : IntKind.i64.wrap v2 = v2 := IntWalk.i64_in _ (by omega)
                        have a7 : IntKind.i64.wrap (256 * v1) = 256 * v1 := IntWalk.i64_in _ (by omega)
                        have a8 : IntKind.i64.wrap (256 * v1 + v2) = 256 * v1 + v2 := IntWalk.i64_in _ (by omega)
                        have hi612 : (i2 : Int) < (fs.length : Int) := by omega
                        have hx1 : (xf == 0) = false := by simp; omega
                        have hx2 : ¬ xf = 0 := by omega
                        clear hi1 hi2
                        go_wp2_with fail
                        all_goals go_meet
                        all_goals exact ⟨by rw [HV.out] <;> rfl, by first | exact Below.refl _ _ | exact bel_drewF (Below.refl _ _) _⟩
                      · have HV := Lib.hid (show LV = v1 * 257 by rw [← HLV.out, if_pos (by omega), HA1.out])
                        have hx1 : (xf == 0) = true := by simp; omega
                        have hx2 : xf = 0 := by omega
                        clear hi1 hxf
                        go_wp2_with fail
                        all_goals go_meet
                        all_goals exact ⟨by rw [HV.out] <;> rfl, Below.refl _ _⟩
                    case rest =>
                      obtain ⟨rfl, hbc⟩ := hcut
                      have hzc := hbc.size
                      simp only [World.size_alloc] at hzc
                      have HOC := Lib.hid (HOX.out.below hbc)
                      have HTC := Lib.hid (HTX.out.below hbc)
                      have HTD := Lib.hid (HTY.out.below hbc)
                      have HTE := Lib.hid (HTZ.out.below hbc)
                      have HBC2 := Lib.hid (HBX.out.trans (hbc.mono (by simp; omega)))
                      have x0 : wc.cell? ⟨wr.heap.size, 0, none⟩ = some (.string xn) := (hbc.cell (p := ⟨wr.heap.size, 0, none⟩) (by simp)).trans (by simp [go_sem])
                      have u0 := HTC.out.cell (i := 0) rfl
                      have hOA := Lib.hid (HOC.out.below ((Below.refl _ _).alloc (Nat.le_refl _) (.cells #[.int .i64 un, .string xn, .int .i64 LV] 35)))
                      have hTA := Lib.hid (HTC.out.alloc (.cells #[.int .i64 un, .string xn, .int .i64 LV] 35))
                      have hTB := Lib.hid (HTD.out.alloc (.cells #[.int .i64 un, .string xn, .int .i64 LV] 35))
                      have hTC := Lib.hid (HTE.out.alloc (.cells #[.int .i64 un, .string xn, .int .i64 LV] 35))
                      have hBA := Lib.hid (HBC2.out.alloc (by omega) (.cells #[.int .i64 un, .string xn, .int .i64 LV] 35))
                      have hln : ((SL ++ GM) ++ ML).length ≤ 10000000 := by rw [List.length_append]; have := HLQ.out; omega
                      clear hbc HOC HTC HTD HTE HBC2 HBX HTX HTY HTZ HOX d0 d1 d2 d3 d4 d5 d6 t0 t3 c1 z1
                      go_wp2_with (first | (at_builtin; refine wpList_ownS rfl _ _ rfl w3.heap.size 1 _ _ ⟨un, xn, LV⟩ ⟨wc.heap.size, 0, none⟩ rfl rfl hOA.out (ownS_new wc ⟨un, xn, LV⟩ _) hln (by simp; omega) ?_; intro v' w' hown hgrow) | fail)
                      have HV := Lib.hid (show OwnS w3.heap.size w' v' ((SL ++ GM) ++ (pl.take (n + 1)).map (setO ⟨un, up, uu, ua⟩ ⟨uu, fs⟩)) by rw [HMN.out, ← List.append_assoc]; exact hown)
                      have HBV := Lib.hid (hOA.out.keeps hBA.out hgrow (Nat.le_refl _) (by simp; omega))
                      have HTV := Lib.hid (hTA.out.grownS hOA.out hgrow (by decide))
                      have HTW := Lib.hid (hTB.out.grownS hOA.out hgrow (by decide))
                      have HTU := Lib.hid (hTC.out.grownS hOA.out hgrow (by decide))
                      clear hown hgrow
                      go_roundw
                      case rel => exact ⟨n + 1, _, by omega, by first | rfl | go_num, rfl, HV, HBV, HTV, HTW, HTU⟩
                      case measure => simp [intOf]; omega
                  · have hnn : n = pl.length := by omega
                    subst hnn
                    have HV := Lib.hid (show OwnS w3.heap.size wr ov (SL ++ ((l.take (m + 1)).filter PU).flatMap (fun f => pl.map (setO ⟨un, up, uu, ua⟩ f))) by
                      have h := HOW.out
                      rw [List.take_length] at h
                      rw [HFX.out, HGX.out]
                      rw [List.append_assoc] at h
                      exact h)
                    clear HOW HTH
                    go_wp2_with fail
                    go_roundw
                    case rel => exact ⟨m + 1, _, by omega, by first | rfl | go_num, rfl, HV, HBN, HTN, HTQ⟩
                    case measure => simp [intOf]; omega
            · have hmm : m = fl.length := by omega
              subst hmm
              have HV := Lib.hid (show OwnS w3.heap.size wf ov ((units.take (j + 1)).flatMap SU) by rw [HSN1.out, HE.out]; have h := HOW.out; rw [List.take_of_length_le (by omega)] at h; exact h)
              have HBO := Lib.hid (HB6.out.trans HBN.out)
              clear HOW HBN HTN HTQ
              go_wp2_with fail
              go_roundw
              case rel => exact ⟨j + 1, by omega, by first | rfl | go_num, HV, HBO⟩
              case measure => simp [intOf]; omega
        · have hjj : j = units.length := by omega
          subst hjj
          rw [HVE.out] at HOW
          have HBO := Lib.hid hB
          have HSS := Lib.hid HOW.out.stgS
          have HR0 := Lib.hid HV.out
          clear hB
          obtain ⟨oo, ocap, rfl⟩ := HOW.out.shape
          go_wp2_with fail
          exact bodyPost_ret (v := .tuple #[.slice oo SV.length ocap, .int .i64 0]) (by simp [results, Try.results11, go_sem]) rfl ⟨.slice oo SV.length ocap, by rw [HR0.out] <;> rfl, HSS.out, HBO.out⟩
end Go.Proofs.Ytabalicembhjmaa
