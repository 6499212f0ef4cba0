/- fixture.Settings. (printed by wip/gen/gen_settings.py) -/
import Derived.Test.YtabalicembhjmaaT32M23
import Derived.Test.YtabalicembhjmaaT32M15
import Derived.Test.YtabalicembhjmaaT32M13
import Derived.Test.YtabalicembhjmaaT32M19

namespace Go.Proofs.Ytabalicembhjmaa
open Go.RowKit
set_option linter.unusedVariables false
set_option linter.unusedSimpArgs false

set_option maxRecDepth 100000 in
set_option maxHeartbeats 16000000 in
theorem settings_any (x : Rig) (lv uv : Value) (l : List Frm) (fv : Value) (w : World) (h : RigAt w.heap.size w x lv uv) (hf : RigFit x) (hF : FrmS w.heap.size w fv l) (hff : ∀ f ∈ l, FrmFit f) :
    Calls Try.prog 10 #[rigV lv uv, fv] w fun e w' => ∃ sv, e = .returned (.tuple #[sv, .int .i64 (chkSet x l)]) ∧ StgS w'.heap.size w' sv (setsV x l) ∧ Below w.heap.size w w' := by
  have CL := Lib.hid (fun W (hb : Below w.heap.size w W) => ckRig_any x lv uv W ((h.below hb).more hb.size) hf)
  have CP := Lib.hid (fun (nm : ByteArray) W (hb : Below w.heap.size w W) => profile_base w.heap.size lv x.lib nm W hb.size (h.lib.below hb))
  have HGU := Lib.hid (UntS.get h.units)
  have HUF := Lib.hid hf.2
  obtain ⟨uo, ucap, rfl, _⟩ := CellsS.shape h.units
  obtain ⟨lo, lcap, rfl⟩ := prfS_shape h.lib
  have hcp := untS_cap h.units
  obtain ⟨fl, hfl, hfc, hfb⟩ := hF
  have HFB := Lib.hid hfb
  have HGF := Lib.hid (frmC_get hfc)
  have hfn := CellsS.len hfc
  unfold maxLen at hfn
  obtain ⟨fo, fcap, rfl, _⟩ := CellsS.shape hfc
  have hll : l.length = fl.length := by rw [← hfl]; simp
  have HLK := Lib.hid (show ∀ k (h : k < fl.length), l[k]'(by omega) = fl[k].1 from fun k h => by subst hfl; simp)
  have HFI := Lib.hid (show ∀ k (h : k < fl.length), FrmFit fl[k].1 from fun k h => by rw [← HLK.out k h]; exact hff _ (List.getElem_mem _))
  clear h hf hfc hfb hff
  obtain ⟨lib, units⟩ := x
  simp only [rigV] at *
  have HC0 := Lib.hid (show chkSet ⟨lib, units⟩ l = if chkRig ⟨lib, units⟩ ≠ 0 then chkRig ⟨lib, units⟩ else chkFrms l from rfl)
  have HS0 := Lib.hid (show chkSet ⟨lib, units⟩ l = 0 → setsV ⟨lib, units⟩ l = setV lib units l ∧ chkFrms l = 0 from fun h => ⟨by unfold setsV; rw [if_pos h], (chkSet_zero h).2⟩)
  have HS1 := Lib.hid (show ¬ chkSet ⟨lib, units⟩ l = 0 → setsV ⟨lib, units⟩ l = [] from fun h => by unfold setsV; rw [if_neg h])
  generalize setsV ⟨lib, units⟩ l = SV at *
  generalize chkSet ⟨lib, units⟩ l = RES at *
  have KC := Lib.hid (show ∀ W, Below (w.heap.size + 1) (w.alloc (.cells #[.slice lo lib.length lcap, .slice uo units.length ucap] 25)) W → (Below w.heap.size w W ∧ w.heap.size < W.heap.size ∧ W.cell? ⟨w.heap.size, 0, none⟩ = some (.slice lo lib.length lcap) ∧ W.cell? ⟨w.heap.size, 1, none⟩ = some (.slice uo units.length ucap)) from fun W hW => by
    have hz := hW.size
    simp at hz
    exact ⟨((Below.refl _ _).alloc (Nat.le_refl _) _).trans (hW.mono (by omega)), by omega, (hW.cell (p := ⟨w.heap.size, 0, none⟩) (by simp)).trans (by simp [go_sem]), (hW.cell (p := ⟨w.heap.size, 1, none⟩) (by simp)).trans (by simp [go_sem])⟩)
  have KA := Lib.hid (show ∀ W o, Below (w.heap.size + 1) (w.alloc (.cells #[.slice lo lib.length lcap, .slice uo units.length ucap] 25)) W → Below (w.heap.size + 1) (w.alloc (.cells #[.slice lo lib.length lcap, .slice uo units.length ucap] 25)) (W.alloc o) from fun W o h => h.alloc (by have := h.size; simp at this; omega) o)
  have KM := Lib.hid (show ∀ W W1, Below (w.heap.size + 1) (w.alloc (.cells #[.slice lo lib.length lcap, .slice uo units.length ucap] 25)) W → Below W.heap.size W W1 → Below (w.heap.size + 1) (w.alloc (.cells #[.slice lo lib.length lcap, .slice uo units.length ucap] 25)) W1 from fun W W1 h1 h2 => h1.trans (h2.mono (by have := h1.size; simp at this; omega)))
  have HK0 := Lib.hid (Below.refl (w.heap.size + 1) (w.alloc (.cells #[.slice lo lib.length lcap, .slice uo units.length ucap] 25)))
  have CL1 := Lib.hid (CL.out _ (KC.out _ HK0.out).1)
  clear CL
  go_enter Try.func10, Try.ntmps10
  go_wp2_with fail
  refine CL1.out.mono ?_
  rintro e w2 ⟨rfl, hb2⟩
  have HB2 := Lib.hid (KM.out _ _ HK0.out hb2)
  clear hb2 CL1
  obtain ⟨hB2, hz2, p0, p1⟩ := KC.out _ HB2.out
  have HBB := Lib.hid hB2
  clear hB2
  by_cases hE : chkRig ⟨lib, units⟩ = 0
  rotate_left
  · have HV := Lib.hid (show RES = chkRig ⟨lib, units⟩ by rw [HC0.out, if_pos hE])
    have HSV := Lib.hid (HS1.out (by rw [HV.out]; exact hE))
    generalize chkRig ⟨lib, units⟩ = E at *
    go_wp2_with fail
    exact bodyPost_ret (v := .tuple #[.slice none 0 0, .int .i64 E]) (by simp [results, Try.results10, go_sem]) rfl ⟨.slice none 0 0, by rw [HV.out] <;> rfl, by rw [HSV.out]; exact stgS_nil _ _, HBB.out⟩
  have HC := Lib.hid (show RES = scanF frmF l 0 by rw [HC0.out, if_neg (by simpa using hE)]; rfl)
  have HPR := Lib.hid (show ∀ u ∈ units, ∃ p, profOf lib u.nm = some p ∧ p.pars.length ≤ 40 ∧ (1 ≤ u.addr ∧ u.addr + p.size - 1 ≤ 512) ∧ ∀ q ∈ p.pars, (1 ≤ q.sl ∧ q.sl ≤ p.size) ∧ (0 ≤ q.fine ∧ q.fine ≤ p.size) from fun u hu => par_right hE hu)
  have HSL := Lib.hid (show ∀ k, ((units.take k).flatMap (setU lib l)).length ≤ 16000 from fun k => setV_len hE l k)
  have hun : units.length ≤ 400 := (chkRig_zero hE).2.1
  rw [hE]
  clear HC0 hE HBB
  have HBM := Lib.hid (KA.out _ (.map #[] 0) HB2.out)
  have hmm := @run_makeMap Try.prog
  go_wp2_with fail
  clear hmm p0 p1
  go_loopw [27] (fun i wx => ∃ k : Nat, k ≤ fl.length ∧ i = .int .i64 k ∧ Hid (RES = scanF frmF l k) ∧ Hid (Below (w.heap.size + 1) (w.alloc (.cells #[.slice lo lib.length lcap, .slice uo units.length ucap] 25)) wx) ∧ (∃ f, Hid (MapM wx Try.prog 3 w2.heap.size k f) ∧ Hid (∀ U : Int, f (.int .i64 U) = ((fl.take k).reverse.find? (isF U)).map (·.2))) ∧ w2.heap.size < wx.heap.size) (fun i _ => fl.length - (intOf i).toNat)
  case atStart => exact ⟨0, Nat.zero_le _, rfl, HC, HBM, ⟨_, Lib.hid (mapM_made w2 _ _), Lib.hid (fun U => by simp)⟩, by simp⟩
  case round =>
    clear HC HBM HB2
    obtain ⟨k, hk, rfl, HRF, HBW, ⟨f, HM, HMF⟩, hlw⟩ := hrel
    obtain ⟨hB, hz, p0, p1⟩ := KC.out wr HBW.out
    by_cases hlt : k < fl.length
    · obtain ⟨b, off, cap', hsl, hb, _, hc⟩ := HGF.out (by omega)
      injection hsl with hs1 hs2 hs3
      subst hs1 hs3
      obtain ⟨d0, d1⟩ := hc k hlt wr hB
      have HPV := Lib.hid (fun (h0 : 0 < k) => hc (k - 1) (by omega) wr hB)
      have hbr : b < wr.heap.size := by have := hB.size; omega
      have hfit := HFI.out k hlt
      have HSG := Lib.hid (scanF_good frmF l k (by omega))
      have HSB := Lib.hid (scanF_bad frmF l k (by omega))
      have HFD := Lib.hid (show frmF (l.take k) (l[k]'(by omega)) = if !inR (l[k]'(by omega)).univ 1 64 then 1 else if (l[k]'(by omega)).sl.length ≠ 512 then 3 else if frmLow (l.take k) (l[k]'(by omega)) then 7 else 0 from rfl)
      have HLW0 := Lib.hid (show k = 0 → frmLow (l.take k) (l[k]'(by omega)) = false from fun h0 => by subst h0; rfl)
      have HLW := Lib.hid (show ∀ h0 : 0 < k, frmLow (l.take k) (l[k]'(by omega)) = decide ((l[k]'(by omega)).univ ≤ (l[k - 1]'(by omega)).univ) from fun h0 => by unfold frmLow; rw [last_take l k (by omega) h0]; rfl)
      have HLP := Lib.hid (show ∀ h0 : 0 < k, l[k - 1]'(by omega) = fl[k - 1].1 from fun h0 => HLK.out (k - 1) (by omega))
      have HNF := Lib.hid (put_rev hlt HMF.out)
      have HKEY := Lib.hid (keyOfI_ hfit.1)
      have hlk := HLK.out k hlt
      rw [hlk] at HSG HSB HFD HLW0 HLW
      obtain ⟨so, scap, hsv⟩ := bytS_shape (HFB.out _ (List.getElem_mem hlt))
      generalize frmLow (l.take k) fl[k].1 = LW at *
      generalize frmF (l.take k) fl[k].1 = FF at *
      clear hc hfit hlk HMF hB
      generalize hrk : fl[k] = rk at *
      clear hrk
      obtain ⟨⟨fu, fs⟩, fv⟩ := rk
      simp only at *
      subst hsv
      have HBA := Lib.hid (KA.out _ (.cells #[.int .i64 fu, .slice so fs.length scap] 64) HBW.out)
      rcases Bool.eq_false_or_eq_true (inR fu 1 64) with k0 | k0
      rotate_left
      · skip
        have HE : FF = 1 := by rw [HFD.out]; simp [k0]
        have HV := Lib.hid (show RES = 1 by rw [HRF.out, HSB.out (by rw [HE]; decide), HE])
        have HSV := Lib.hid (HS1.out (by rw [HV.out]; decide))
        clear HE
        go_wp2_with (first | (go_at_call 29; ((with_reducible refine (within_R _ _ _ _).mono ?_); rintro e w' ⟨rfl, rfl⟩)) | fail)
        exact bodyPost_ret (v := .tuple #[.slice none 0 0, .int .i64 1]) (by simp [results, Try.results10, go_sem]) rfl ⟨.slice none 0 0, by rw [HV.out] <;> rfl, by rw [HSV.out]; exact stgS_nil _ _, (KC.out _ HBA.out).1⟩
      by_cases k1 : fs.length = 512
      rotate_left
      · have k2 : ((fs.length : Int) == 512) = false := by simp; omega
        have k3 : ¬ (fs.length : Int) = 512 := by omega
        have HE : FF = 3 := by rw [HFD.out]; simp [k0, k1]
        have HV := Lib.hid (show RES = 3 by rw [HRF.out, HSB.out (by rw [HE]; decide), HE])
        have HSV := Lib.hid (HS1.out (by rw [HV.out]; decide))
        clear HE
        go_wp2_with (first | (go_at_call 29; ((with_reducible refine (within_R _ _ _ _).mono ?_); rintro e w' ⟨rfl, rfl⟩)) | fail)
        exact bodyPost_ret (v := .tuple #[.slice none 0 0, .int .i64 3]) (by simp [results, Try.results10, go_sem]) rfl ⟨.slice none 0 0, by rw [HV.out] <;> rfl, by rw [HSV.out]; exact stgS_nil _ _, (KC.out _ HBA.out).1⟩
      have k2 : ((fs.length : Int) == 512) = true := by simp; omega
      have k3 : (fs.length : Int) = 512 := by omega
      have HFX := Lib.hid (show FF = if LW then 7 else 0 by rw [HFD.out]; simp [k0, k1])
      clear k1
      go_upto_region 12 with (first | (go_at_call 29; ((with_reducible refine (within_R _ _ _ _).mono ?_); rintro e w' ⟨rfl, rfl⟩)) | fail)
      clear HFD k0 k2 k3
      have HFD := HFX
      clear HFX
      go_cut [42] (fun s42 wx => s42 = .bool LW ∧ Below wx.heap.size (wr.alloc (.cells #[.int .i64 fu, .slice so fs.length scap] 64)) wx ∧ wx.heap.size = wr.heap.size + 1)
      case first =>
        by_cases h0 : k = 0
        · subst h0
          have HV := Lib.hid (HLW0.out rfl)
          clear HPV HLW HLW0
          go_quiet (fail)
          go_wp2_with fail
          all_goals go_meet
          all_goals exact ⟨by rw [HV.out] <;> rfl, bel_drewF (Below.refl _ _) _, by simp⟩
        · obtain ⟨j, rfl⟩ : ∃ j, k = j + 1 := ⟨k - 1, by omega⟩
          have HLX := Lib.hid (HLW.out (by omega))
          obtain ⟨d4, _⟩ := HPV.out (by omega)
          have hlp := HLP.out (by omega)
          rw [hlp] at HLX
          clear HPV HLW HLW0 hlp HLP
          simp only [Nat.add_sub_cancel] at d4 HLX
          generalize fl[j] = rj at *
          obtain ⟨⟨ju, js⟩, jv⟩ := rj
          simp only at d4 HLX
          have hji : ((j + 1 : Nat) : Int) - 1 = (j : Int) := by omega
          by_cases hle : fu ≤ ju
          · skip
            have HV := Lib.hid (show LW = true by rw [HLX.out]; simpa using hle)
            clear HLX
            go_quiet (fail)
            go_wp2_with fail
            all_goals go_meet
            all_goals exact ⟨by rw [HV.out] <;> rfl, bel_drewF (Below.refl _ _) _, by simp⟩
          · skip
            have HV := Lib.hid (show LW = false by rw [HLX.out]; simpa using hle)
            clear HLX
            have hled : decide (fu ≤ ju) = false := by simpa using hle
            go_quiet (fail)
            go_wp2_with fail
            all_goals go_meet
            all_goals exact ⟨by rw [HV.out] <;> rfl, bel_drewF (Below.refl _ _) _, by simp⟩
      case rest =>
        obtain ⟨rfl, hb3, hz3⟩ := hcut
        have HBC := Lib.hid (KM.out _ wc HBA.out (hb3.mono (by simp; omega)))
        have e0 : wc.cell? ⟨wr.heap.size, 0, none⟩ = some (.int .i64 fu) := (hb3.cell (p := ⟨wr.heap.size, 0, none⟩) (by simp; omega)).trans (by simp [go_sem])
        have e1 : wc.cell? ⟨wr.heap.size, 1, none⟩ = some (.slice so fs.length scap) := (hb3.cell (p := ⟨wr.heap.size, 1, none⟩) (by simp; omega)).trans (by simp [go_sem])
        have HMC := Lib.hid (HM.out.below (((Below.refl wr.heap.size wr).alloc (Nat.le_refl _) (.cells #[.int .i64 fu, .slice so fs.length scap] 64)).trans (hb3.mono (by omega))) hlw)
        clear hb3 d0 d1 HLW HLW0 HPV HBA HBW HM p0 p1
        cases LW
        rotate_left
        · skip
          have HE : FF = 7 := by rw [HFD.out]; rfl
          have HV := Lib.hid (show RES = 7 by rw [HRF.out, HSB.out (by rw [HE]; decide), HE])
          have HSV := Lib.hid (HS1.out (by rw [HV.out]; decide))
          clear HE
          go_wp2_with fail
          exact bodyPost_ret (v := .tuple #[.slice none 0 0, .int .i64 7]) (by simp [results, Try.results10, go_sem]) rfl ⟨.slice none 0 0, by rw [HV.out] <;> rfl, by rw [HSV.out]; exact stgS_nil _ _, (KC.out _ HBC.out).1⟩
        have HE : FF = 0 := by rw [HFD.out]; rfl
        have HV := Lib.hid (show RES = scanF frmF l (k + 1) by rw [HRF.out, HSG.out HE])
        obtain ⟨wz, rz, sz, gz⟩ := HMC.out.update keyI_ (t := 61) Try.underlying61 (by unfold maxLen; omega) HKEY.out (val := .slice so fs.length scap)
        have HBZ := Lib.hid (HBC.out.grown gz (by omega) (fun j hj => by cases hj; omega))
        have HSZ := Lib.hid sz
        have hzz := gz.size
        clear HE HMC gz sz
        go_wp2_with fail
        go_roundw
        case rel => exact ⟨k + 1, by omega, by first | rfl | go_num, HV, HBZ, ⟨_, HSZ, HNF⟩, by omega⟩
        case measure => simp [intOf]; omega
    · have HV := Lib.hid (show RES = 0 by rw [HRF.out, scanF_end frmF l k (by omega)])
      have hkk : k = fl.length := by omega
      subst hkk
      obtain ⟨HSV', hck⟩ := HS0.out HV.out
      have HSV := Lib.hid HSV'
      have HMN := Lib.hid (show ∀ U : Int, f (.int .i64 U) = (fl.reverse.find? (isF U)).map (·.2) from fun U => by rw [HMF.out U, List.take_length])
      have HRN := Lib.hid (show ∀ U : Int, fl.reverse.find? (isF U) = none → l.find? (fun f => decide (f.univ = U)) = none from fun U h => by rw [← hfl]; exact rev_none (by rw [hfl]; exact hck) U h)
      have HRS := Lib.hid (show ∀ (U : Int) y, fl.reverse.find? (isF U) = some y → l.find? (fun f => decide (f.univ = U)) = some y.1 ∧ y.1.sl.length = 512 ∧ BytS w.heap.size w y.2 y.1.sl ∧ (∀ b ∈ y.1.sl, 0 ≤ b ∧ b ≤ 255) from fun U y h => by
        obtain ⟨h1, h2⟩ := rev_some (lv := fl) (by rw [hfl]; exact hck) U h
        obtain ⟨j, hj, rfl⟩ := List.getElem_of_mem h2
        have h3 := HLK.out j hj
        exact ⟨by rw [← hfl]; exact h1, by rw [← h3]; exact frm_long hck (List.getElem_mem _), HFB.out _ h2, (HFI.out j hj).2⟩)
      have HU0 := Lib.hid (fun (u : Unt) (h : l.find? (isU u) = none) => setU_none (lib := lib) h)
      have HU1 := Lib.hid (fun (u : Unt) (f : Frm) (p : Prf) (h : l.find? (isU u) = some f) (hp : profOf lib u.nm = some p) => setU_some h hp)
      have HSN := Lib.hid (flat_snoc' (setU lib l) units)
      have HVE := Lib.hid (show (units.take units.length).flatMap (setU lib l) = SV by rw [HSV', List.take_length]; rfl)
      obtain ⟨w3, rfl⟩ : ∃ w3 : World, w3 = wr := ⟨_, rfl⟩
      have K3 := Lib.hid (show ∀ W, Below w3.heap.size w3 W → (Below w.heap.size w W ∧ w.heap.size < W.heap.size ∧ W.cell? ⟨w.heap.size, 0, none⟩ = some (.slice lo lib.length lcap) ∧ W.cell? ⟨w.heap.size, 1, none⟩ = some (.slice uo units.length ucap) ∧ MapM W Try.prog 3 w2.heap.size fl.length f) from fun W hW => by
        obtain ⟨h1, h2, h3, h4⟩ := KC.out W (KM.out _ _ HBW.out hW)
        exact ⟨h1, h2, h3, h4, HM.out.below hW hlw⟩)
      clear HSV' hck HMF HRF HS0 HS1 HGF HFB HFI HLK HSV HBW HM hB
      generalize setU lib l = SU at *
      go_wp2_with fail
      clear p0 p1 hz
      go_loopw [65, 10] (fun i ov wx => ∃ j : Nat, j ≤ units.length ∧ i = .int .i64 j ∧ Hid (OwnS w3.heap.size wx ov ((units.take j).flatMap SU)) ∧ Hid (Below w3.heap.size w3 wx)) (fun i _ _ => units.length - (intOf i).toNat)
      case atStart => exact ⟨0, Nat.zero_le _, rfl, Lib.hid (OwnS.nil _ _), Lib.hid (Below.refl _ _)⟩
      case round =>
        obtain ⟨j, hj, rfl, HOW, HBW⟩ := hrel
        obtain ⟨wo, rfl⟩ : ∃ wo : World, wo = wr := ⟨_, rfl⟩
        obtain ⟨hB, hz, p0, p1, hM⟩ := K3.out wo HBW.out
        have hzo := HBW.out.size
        have HLN := Lib.hid (HSL.out j)
        by_cases hlt : j < units.length
        · have HSN1 := Lib.hid (HSN.out j hlt)
          generalize (units.take j).flatMap SU = SL at *
          obtain ⟨oo, ocap, rfl⟩ := HOW.out.shape
          obtain ⟨b, off, cap', hsl, hb, _, hc⟩ := HGU.out (by omega)
          injection hsl with hs1 hs2 hs3
          subst hs1 hs3
          obtain ⟨d0, d1, d2, d3⟩ := hc j hlt wo hB
          have hbr : b < wo.heap.size := by have := hB.size; omega
          obtain ⟨_, hui, _, _⟩ := HUF.out _ (List.getElem_mem hlt)
          have HKEY := Lib.hid (keyOfI_ hui)
          have HP := Lib.hid (HPR.out _ (List.getElem_mem hlt))
          have HUN := Lib.hid (HU0.out units[j])
          have HUS := Lib.hid (HU1.out units[j])
          have HF0 := Lib.hid (show (fl.reverse.find? (isF units[j].univ)) = none → l.find? (isU units[j]) = none from fun h => HRN.out _ h)
          have HF1 := Lib.hid (show ∀ y, fl.reverse.find? (isF units[j].univ) = some y → l.find? (isU units[j]) = some y.1 ∧ y.1.sl.length = 512 ∧ BytS w.heap.size w y.2 y.1.sl ∧ (∀ b ∈ y.1.sl, 0 ≤ b ∧ b ≤ 255) from fun y h => HRS.out _ y h)
          have HFM := Lib.hid (HMN.out units[j].univ)
          have hnm : units[j].nm = units[j].prof.data.toList := rfl
          rw [hnm] at HP HUS
          clear hc hui hnm
          generalize SU units[j] = SJ at *
          generalize hrk : units[j] = rk at *
          clear hrk
          obtain ⟨un, up, uu, ua⟩ := rk
          simp only at *
          have HBX := Lib.hid (HBW.out.alloc hzo (.cells #[.int .i64 un, .string up, .int .i64 uu, .int .i64 ua] 67))
          have HTU := Lib.hid (TBox.new wo #[.int .i64 un, .string up, .int .i64 uu, .int .i64 ua] 67)
          have HOX := Lib.hid (HOW.out.below ((Below.refl _ _).alloc (Nat.le_refl _) (.cells #[.int .i64 un, .string up, .int .i64 uu, .int .i64 ua] 67)))
          obtain ⟨hBx, _, q0, q1, hMx⟩ := K3.out _ HBX.out
          have hq := hMx.look false keyI_ (t := 61) Try.underlying61 (zeroBy_ _) HKEY.out
          rw [HFM.out] at hq
          have HMX := Lib.hid hBx
          clear HFM hM hMx hBx hB HOW
          have q22 : ∀ (w : World) (a : Option Addr) (n c n' c' : Nat), (binOp .eql 62 (.slice a n c) (.slice none n' c')).run Try.prog w = .ok (.bool a.isNone) w := fun w a n c n' c' => Lib.run_eql_slice_nil w _ _ a n c n' c' Try.underlying62
          have hn0 : (none : Option Addr).isNone = true := rfl
          cases hfy : fl.reverse.find? (isF uu) with
          | none =>
            have HE := Lib.hid (HUN.out (HF0.out hfy))
            have HV := Lib.hid (show OwnS w3.heap.size (wo.alloc (.cells #[.int .i64 un, .string up, .int .i64 uu, .int .i64 ua] 67)) (.slice oo SL.length ocap) ((units.take (j + 1)).flatMap SU) by rw [HSN1.out, HE.out, List.append_nil]; exact HOX.out)
            rw [hfy] at hq
            simp only [Option.map_none, Option.getD_none, Bool.false_eq_true, if_false] at hq
            clear hfy HE HF0 HF1 HUN HUS HP
            go_wp2_with fail
            go_roundw
            case rel => exact ⟨j + 1, by omega, by first | rfl | go_num, HV, HBX⟩
            case measure => simp [intOf]; omega
          | some y =>
            rw [hfy] at hq
            obtain ⟨hfo, h512, hby, hbt⟩ := HF1.out y hfy
            obtain ⟨p, hpo, hp40, ⟨ha1, ha2⟩, hpq⟩ := HP.out
            have HE := Lib.hid (HUS.out y.1 p hfo hpo)
            obtain ⟨⟨yu, ys⟩, yv⟩ := y
            simp only at h512 hby hbt HE
            obtain ⟨bb, boff, bcap, rfl, hbb, _, hbc⟩ := BytS.get hby (by omega)
            have HBC := Lib.hid hbc
            have HBT := Lib.hid hbt
            have HPQ := Lib.hid hpq
            have hn1 : (some (⟨bb, boff, none⟩ : Addr)).isNone = false := rfl
            rw [h512] at hq
            simp only [Option.map_some, Option.getD_some, Bool.false_eq_true, if_false] at hq
            have CP1 := Lib.hid (CP.out up _ HMX.out)
            rw [hpo] at CP1
            clear hfy HF0 HF1 HUN HUS HP hfo hpo hby hbt hpq hbc
            obtain ⟨pn, pz, pl⟩ := p
            simp only at *
            go_wp2_with fail
            refine CP1.out.mono ?_
            rintro e w5 ⟨pv, rfl, ⟨qv, rfl, hps⟩, hb5⟩
            obtain ⟨po, pcap, rfl⟩ := parS_shape hps
            have hz5 := hb5.size
            simp only [World.size_alloc] at hz5
            have HPS := Lib.hid (ParS.get hps)
            have hpl := parS_cap hps
            simp only at HPS hpl
            have HT5 := Lib.hid (HTU.out.below hb5)
            have HO5 := Lib.hid (HOX.out.below hb5)
            have HB5 := Lib.hid (HBX.out.trans (hb5.mono (by simp; omega)))
            have HT6 := Lib.hid (HT5.out.alloc (.cells #[.string pn, .int .i64 pz, .slice po pl.length pcap] 70))
            have HO6 := Lib.hid (HO5.out.below ((Below.refl _ _).alloc (Nat.le_refl _) (.cells #[.string pn, .int .i64 pz, .slice po pl.length pcap] 70)))
            have HB6 := Lib.hid (HB5.out.alloc (by omega) (.cells #[.string pn, .int .i64 pz, .slice po pl.length pcap] 70))
            have HPS6 := Lib.hid (show ∀ W, Below w3.heap.size (w5.alloc (.cells #[.string pn, .int .i64 pz, .slice po pl.length pcap] 70)) W → Below w.heap.size w5 W from fun W hW => (((Below.refl _ _).alloc (Nat.le_refl _) _).mono (by omega)).trans (hW.mono (by have := (K3.out _ (Below.refl _ _)).2.1; omega)))
            have HBK6 := Lib.hid (show ∀ W, Below w3.heap.size (w5.alloc (.cells #[.string pn, .int .i64 pz, .slice po pl.length pcap] 70)) W → Below w.heap.size w W from fun W hW => (K3.out _ (HB6.out.trans hW)).1)
            have hz6 : w3.heap.size ≤ (w5.alloc (.cells #[.string pn, .int .i64 pz, .slice po pl.length pcap] 70)).heap.size := by simp; omega
            clear hps hb5 CP1 HBX HTU HOX HT5 HO5 HB5 q0 q1 d0 d1 d2 d3
            go_wp2_with fail
            generalize hW6 : w5.alloc (.cells #[.string pn, .int .i64 pz, .slice po pl.length pcap] 70) = w6 at *
            clear hW6
            clear hn0 hn1 q22
            have HMP := Lib.hid (map_snoc' (setO ⟨un, up, uu, ua⟩ ⟨yu, ys⟩) pl)
            have hw3 := (K3.out _ (Below.refl _ _)).2.1
            go_loopw [86, 10] (fun i o wx => ∃ (n : Nat) (ov : Value), n ≤ pl.length ∧ i = .int .i64 n ∧ ov = o ∧ Hid (OwnS w3.heap.size wx ov (SL ++ (pl.take n).map (setO ⟨un, up, uu, ua⟩ ⟨yu, ys⟩))) ∧ Hid (Below w3.heap.size w6 wx) ∧ Hid (TBox wx wo.heap.size 67 #[.int .i64 un, .string up, .int .i64 uu, .int .i64 ua])) (fun i _ _ => pl.length - (intOf i).toNat)
            case atStart => exact ⟨0, _, Nat.zero_le _, rfl, rfl, Lib.hid (by simpa using HO6.out), Lib.hid (Below.refl _ _), HT6⟩
            case round =>
              obtain ⟨n, ov, hn, rfl, rfl, HOW, HBN, HTN⟩ := hrel
              have hzr := HBN.out.size
              have hBw := HBK6.out wr HBN.out
              have hor := HTN.out.lt
              by_cases hnl : n < pl.length
              · obtain ⟨b2, off2, cap2, hsl, hb2, _, hc⟩ := HPS.out (by omega)
                injection hsl with hs1 hs2 hs3
                subst hs1 hs3
                obtain ⟨rv, hrv, hcc⟩ := hc n hnl
                obtain ⟨d0, d1, d2, d3, d4, d5, d6⟩ := hcc wr (HPS6.out wr HBN.out)
                obtain ⟨ro, rcap, rfl, _⟩ := CellsS.shape hrv
                have hbr2 : b2 < wr.heap.size := by omega
                have hbbr : bb < wr.heap.size := by omega
                obtain ⟨⟨g1, g2⟩, g3, g4⟩ := HPQ.out _ (List.getElem_mem hnl)
                have HMN := Lib.hid (HMP.out n hnl)
                have hml : ((pl.take n).map (setO ⟨un, up, uu, ua⟩ ⟨yu, ys⟩)).length ≤ 40 := by rw [List.length_map, List.length_take]; omega
                have HLV := Lib.hid (show setO ⟨un, up, uu, ua⟩ ⟨yu, ys⟩ pl[n] = ⟨un, pl[n].name, if pl[n].fine = 0 then atF ⟨yu, ys⟩ (ua + pl[n].sl - 2) * 257 else 256 * atF ⟨yu, ys⟩ (ua + pl[n].sl - 2) + atF ⟨yu, ys⟩ (ua + pl[n].fine - 2)⟩ from rfl)
                rw [HLV.out] at HMN
                generalize (pl.take n).map (setO ⟨un, up, uu, ua⟩ ⟨yu, ys⟩) = ML at *
                clear hc hcc hrv HLV
                generalize hrk : pl[n] = rk at *
                clear hrk
                obtain ⟨xn, xg, xs, xf, xd, xb, xl⟩ := rk
                simp only at *
                obtain ⟨i1, hi1⟩ : ∃ i : Nat, ua + xs - 2 = (i : Int) := ⟨(ua + xs - 2).toNat, by omega⟩
                have hi1b : i1 < ys.length := by omega
                have HA1 := Lib.hid (at_val (f := ⟨yu, ys⟩) hi1b hi1)
                have c1 := HBC.out i1 hi1b wr hBw
                obtain ⟨v10, v11⟩ := HBT.out _ (List.getElem_mem hi1b)
                simp only at HA1
                have HA2 := Lib.hid (show 0 < xf → ∃ (i2 : Nat) (h : i2 < ys.length), ua + xf - 2 = (i2 : Int) ∧ atF ⟨yu, ys⟩ (ua + xf - 2) = ys[i2] from fun h => ⟨(ua + xf - 2).toNat, by omega, by omega, at_val (f := ⟨yu, ys⟩) (by simp; omega) (by omega)⟩)
                generalize ys[i1] = v1 at *
                generalize hLV : (if xf = 0 then atF ⟨yu, ys⟩ (ua + xs - 2) * 257 else 256 * atF ⟨yu, ys⟩ (ua + xs - 2) + atF ⟨yu, ys⟩ (ua + xf - 2)) = LV at *
                have HLV := Lib.hid hLV
                clear hLV
                have t0 := HTN.out.cell (i := 0) rfl
                have t3 := HTN.out.cell (i := 3) rfl
                have HBX := Lib.hid (HBN.out.alloc (by omega) (.cells #[.string xn, .int .i64 xg, .int .i64 xs, .int .i64 xf, .int .i64 xd, .bool xb, .slice ro xl.length rcap] 42))
                have HTX := Lib.hid (HTN.out.alloc (.cells #[.string xn, .int .i64 xg, .int .i64 xs, .int .i64 xf, .int .i64 xd, .bool xb, .slice ro xl.length rcap] 42))
                have HOX := Lib.hid (HOW.out.below ((Below.refl _ _).alloc (Nat.le_refl _) (.cells #[.string xn, .int .i64 xg, .int .i64 xs, .int .i64 xf, .int .i64 xd, .bool xb, .slice ro xl.length rcap] 42)))
                have a1 : IntKind.i64.wrap (ua + xs) = ua + xs := IntWalk.i64_in _ (by omega)
                have a2 : IntKind.i64.wrap (ua + xs - 2) = (i1 : Int) := by rw [hi1]; exact IntWalk.i64_in _ (by omega)
                have hi512 : (i1 : Int) < 512 := by omega
                have hi5 : i1 < 512 := by omega
                clear HBN HTN HOW
                go_upto_if 102 with (first | (go_at_call 31; refine (fromOct_any v1 v10 v11 _).mono ?_; rintro e w' ⟨rfl, rfl⟩) | fail)
                go_cut [18] (fun s18 wx => s18 = .int .i64 LV ∧ Below (wr.alloc (.cells #[.string xn, .int .i64 xg, .int .i64 xs, .int .i64 xf, .int .i64 xd, .bool xb, .slice ro xl.length rcap] 42)).heap.size (wr.alloc (.cells #[.string xn, .int .i64 xg, .int .i64 xs, .int .i64 xf, .int .i64 xd, .bool xb, .slice ro xl.length rcap] 42)) wx)
                case first =>
                  by_cases hxf : 0 < xf
                  · obtain ⟨i2, hi2b, hi2, h2v⟩ := HA2.out hxf
                    have c2 := HBC.out i2 hi2b wr hBw
                    obtain ⟨v20, v21⟩ := HBT.out _ (List.getElem_mem hi2b)
                    have HV := Lib.hid (show LV = 256 * v1 + ys[i2] by rw [← HLV.out, if_neg (by omega), HA1.out, h2v])
                    clear h2v
                    generalize ys[i2] = v2 at *
                    have a3 : IntKind.i64.wrap (ua + xf) = ua + xf := IntWalk.i64_in _ (by omega)
                    have a4 : IntKind.i64.wrap (ua + xf - 2) = (i2 : Int) := by rw [hi2]; exact IntWalk.i64_in _ (by omega)
                    have a5 : IntKind.i64.wrap v1 = v1 := IntWalk.i64_in _ (by omega)
                    have a6 : IntKind.i64.wrap v2 = v2 := IntWalk.i64_in _ (by omega)
                    have a7 : IntKind.i64.wrap (256 * v1) = 256 * v1 := IntWalk.i64_in _ (by omega)
                    have a8 : IntKind.i64.wrap (256 * v1 + v2) = 256 * v1 + v2 := IntWalk.i64_in _ (by omega)
                    have hi612 : (i2 : Int) < 512 := by omega
                    have hi6 : i2 < 512 := by omega
                    clear hi1 hi2
                    go_wp2_with fail
                    go_quiet (fail)
                    go_wp2_with fail
                    all_goals go_meet
                    all_goals exact ⟨by rw [HV.out] <;> rfl, bel_drewF (Below.refl _ _) _⟩
                  · have HV := Lib.hid (show LV = v1 * 257 by rw [← HLV.out, if_pos (by omega), HA1.out])
                    have hxg : decide (0 < xf) = false := by simpa using hxf
                    clear hi1
                    go_wp2_with fail
                    all_goals go_meet
                    all_goals exact ⟨by rw [HV.out] <;> rfl, Below.refl _ _⟩
                case rest =>
                  obtain ⟨rfl, hbc⟩ := hcut
                  have hzc := hbc.size
                  simp only [World.size_alloc] at hzc
                  have HOC := Lib.hid (HOX.out.below hbc)
                  have HTC := Lib.hid (HTX.out.below hbc)
                  have HBC2 := Lib.hid (HBX.out.trans (hbc.mono (by simp; omega)))
                  have x0 : wc.cell? ⟨wr.heap.size, 0, none⟩ = some (.string xn) := (hbc.cell (p := ⟨wr.heap.size, 0, none⟩) (by simp)).trans (by simp [go_sem])
                  have u0 := HTC.out.cell (i := 0) rfl
                  have hOA := Lib.hid (HOC.out.below ((Below.refl _ _).alloc (Nat.le_refl _) (.cells #[.int .i64 un, .string xn, .int .i64 LV] 35)))
                  have hTA := Lib.hid (HTC.out.alloc (.cells #[.int .i64 un, .string xn, .int .i64 LV] 35))
                  have hBA := Lib.hid (HBC2.out.alloc (by omega) (.cells #[.int .i64 un, .string xn, .int .i64 LV] 35))
                  have hln : (SL ++ ML).length ≤ 10000000 := by rw [List.length_append]; have := HLN.out; omega
                  clear hbc HOC HTC HBC2 HBX HTX HOX d0 d1 d2 d3 d4 d5 d6 t0 t3 c1
                  go_wp2_with (first | (at_builtin; refine wpList_ownS rfl _ _ rfl w3.heap.size 1 _ _ ⟨un, xn, LV⟩ ⟨wc.heap.size, 0, none⟩ rfl rfl hOA.out (ownS_new wc ⟨un, xn, LV⟩ _) hln (by simp; omega) ?_; intro v' w' hown hgrow) | fail)
                  have HV := Lib.hid (show OwnS w3.heap.size w' v' (SL ++ (pl.take (n + 1)).map (setO ⟨un, up, uu, ua⟩ ⟨yu, ys⟩)) by rw [HMN.out, ← List.append_assoc]; exact hown)
                  have HBV := Lib.hid (hOA.out.keeps hBA.out hgrow (Nat.le_refl _) (by simp; omega))
                  have HTV := Lib.hid (hTA.out.grownS hOA.out hgrow (by decide))
                  clear hown hgrow
                  go_roundw
                  case rel => exact ⟨n + 1, _, by omega, by first | rfl | go_num, rfl, HV, HBV, HTV⟩
                  case measure => simp [intOf]; omega
              · have hnn : n = pl.length := by omega
                subst hnn
                have HV := Lib.hid (show OwnS w3.heap.size wr ov ((units.take (j + 1)).flatMap SU) by rw [HSN1.out, HE.out]; have h := HOW.out; rwa [List.take_length] at h)
                have HBO := Lib.hid (HB6.out.trans HBN.out)
                clear HOW HBN HTN
                go_wp2_with fail
                go_roundw
                case rel => exact ⟨j + 1, by omega, by first | rfl | go_num, HV, HBO⟩
                case measure => simp [intOf]; omega
        · have hjj : j = units.length := by omega
          subst hjj
          rw [HVE.out] at HOW
          have HBO := Lib.hid hB
          have HSS := Lib.hid HOW.out.stgS
          have HR0 := Lib.hid HV.out
          clear hB hM
          obtain ⟨oo, ocap, rfl⟩ := HOW.out.shape
          go_wp2_with fail
          exact bodyPost_ret (v := .tuple #[.slice oo SV.length ocap, .int .i64 0]) (by simp [results, Try.results10, go_sem]) rfl ⟨.slice oo SV.length ocap, by rw [HR0.out] <;> rfl, HSS.out, HBO.out⟩
end Go.Proofs.Ytabalicembhjmaa
