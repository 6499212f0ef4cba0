/- fixture.CheckLibrary. (printed by wip/gen/gen_ckprf.py) -/
import Derived.Test.YtppbagllhmeenaaGreatDoorT68M35

namespace Go.Proofs.YtppbagllhmeenaaGreatDoor
open Go.RowKit
set_option linter.unusedVariables false
set_option linter.unusedSimpArgs false

set_option maxRecDepth 100000 in
set_option maxHeartbeats 16000000 in
theorem ckLibrary_any (v : Value) (l : List Prf) (w : World) (h : PrfS w.heap.size w v l) (hf : ∀ p ∈ l, PrfFit p) :
    Calls Tryz.prog 16 #[v] w fun e w' => e = .returned (.int .i64 (chkLib l)) ∧ Below w.heap.size w w' := by
  have HG := Lib.hid (PrfS.get h)
  have HF := Lib.hid hf
  obtain ⟨lv, hlv, hcs, _⟩ := h
  obtain ⟨ao, cap, rfl, _⟩ := CellsS.shape hcs
  have hm := CellsS.len hcs
  rw [show lv.length = l.length by rw [← hlv]; simp] at *
  clear hcs hlv hf
  unfold maxLen at hm
  have HC0 := Lib.hid (show chkLib l = if 60 < l.length then 2 else scanF prfF l 0 from rfl)
  generalize chkLib l = RES at *
  go_enter Tryz.func16, Tryz.ntmps16
  by_cases h30 : 60 < l.length
  · have HV := Lib.hid (show RES = 2 by rw [HC0.out, if_pos h30])
    go_wp2_with fail
    go_ret
    exact ⟨by rw [HV.out] <;> rfl, Below.refl _ _⟩
  have HC := Lib.hid (show RES = scanF prfF l 0 by rw [HC0.out, if_neg h30])
  have h31 : l.length ≤ 60 := by omega
  clear HC0 h30
  have hmm := @run_makeMap Tryz.prog
  go_wp2_with fail
  clear hmm
  go_loopw [13] (fun i wx => ∃ k : Nat, k ≤ l.length ∧ i = .int .i64 k ∧ Hid (RES = scanF prfF l k) ∧ Hid (Below w.heap.size w wx) ∧ Hid (SeenM wx Tryz.prog 9 4 w.heap.size k ((l.take k).map (fun y => Lit.string y.nm))) ∧ w.heap.size < wx.heap.size) (fun i _ => l.length - (intOf i).toNat)
  case atStart => exact ⟨0, Nat.zero_le _, rfl, HC, Lib.hid ((Below.refl _ _).alloc (Nat.le_refl _) _), Lib.hid (by simpa using seen_made w _ _ _), by simp⟩
  case round =>
    obtain ⟨k, hk, rfl, HRF, HBW, HSE, hlw⟩ := hrel
    by_cases hlt : k < l.length
    · obtain ⟨b, off, cap', hsl, hb, _, hc⟩ := HG.out (by omega)
      injection hsl with hs1 hs2 hs3
      subst hs1 hs3
      obtain ⟨pv, hpv, hcc⟩ := hc k hlt
      obtain ⟨d0, d1, d2⟩ := hcc wr HBW.out
      have hbr : b < wr.heap.size := by have := HBW.out.size; omega
      have hfit := HF.out _ (List.getElem_mem hlt)
      have HKN := Lib.hid (keyOfS_ hfit.2.1)
      have HCP := Lib.hid (fun W (hW : Below w.heap.size w W) => ckProfile_any l[k] pv W ((hpv.below hW).more hW.size) hfit)
      have HSG := Lib.hid (scanF_good prfF l k hlt)
      have HSB := Lib.hid (scanF_bad prfF l k hlt)
      have HFD := Lib.hid (show prfF (l.take k) l[k] = if chkPrf l[k] ≠ 0 then chkPrf l[k] else if l[k].nm ∈ (l.take k).map Prf.nm then 6 else 0 from rfl)
      have HIN := Lib.hid (mem_strs Prf.nm (l.take k) l[k].nm)
      have HTK := Lib.hid (strs_snoc Prf.nm l k hlt)
      generalize prfF (l.take k) l[k] = FF at *
      generalize chkPrf l[k] = E at *
      have hnm : l[k].nm = l[k].name.data.toList := rfl
      rw [hnm] at HFD HIN HTK
      obtain ⟨lv, hlv, hcs, _⟩ := hpv
      obtain ⟨po, pcap, rfl, _⟩ := CellsS.shape hcs
      rw [show lv.length = l[k].pars.length by rw [← hlv]; simp] at *
      clear hnm hc hcc hfit hcs hlv
      generalize (l.take k).map Prf.nm = SN at *
      generalize (l.take k).map (fun y => Lit.string y.nm) = S at *
      generalize hrk : l[k] = rk at *
      clear hrk
      obtain ⟨pn, pz, pl⟩ := rk
      simp only at *
      have HBX := Lib.hid (HBW.out.alloc (Nat.le_of_lt hlw) (.cells #[.string pn, .int .i64 pz, .slice po pl.length pcap] 70))
      have HSX := Lib.hid (HSE.out.kept (World.grownBy_alloc wr (.cells #[.string pn, .int .i64 pz, .slice po pl.length pcap] 70) none) (by simp))
      have HCX := Lib.hid (HCP.out _ HBX.out)
      clear HCP HSE
      go_wp2_with fail
      refine HCX.out.mono ?_
      rintro e wc ⟨rfl, hbc⟩
      simp only [World.size_alloc] at hbc
      have hzc := hbc.size
      simp only [World.size_alloc] at hzc
      have HBC := Lib.hid (HBX.out.trans (hbc.mono (by omega)))
      have HSC := Lib.hid (HSX.out.below hbc (by omega))
      have e0 : wc.cell? ⟨wr.heap.size, 0, none⟩ = some (.string pn) := (hbc.cell (p := ⟨wr.heap.size, 0, none⟩) (by simp)).trans (by simp [go_sem])
      have hw6 : w.heap.size < wc.heap.size := by omega
      clear hbc HCX d0 d1 d2 HSX HBX HBW
      by_cases hE : E = 0
      rotate_left
      · skip
        have HE : FF = E := by rw [HFD.out]; simp [hE]
        have HV := Lib.hid (show RES = E by rw [HRF.out, HSB.out (by rw [HE]; first | decide | exact hE), HE])
        clear HE
        go_wp2_with fail
        go_ret
        exact ⟨by rw [HV.out] <;> rfl, HBC.out⟩
      by_cases hin : pn.data.toList ∈ SN
      · have hq1 := HSC.out.look_in keyS_ (t := 88) Tryz.underlying88 Tryz.underlying4 (zeroB_ _) HKN.out (HIN.out.2 hin)
        have HE : FF = 6 := by rw [HFD.out]; simp [hE, hin]
        have HV := Lib.hid (show RES = 6 by rw [HRF.out, HSB.out (by rw [HE]; first | decide | exact hE), HE])
        clear HE
        go_wp2_with fail
        go_ret
        exact ⟨by rw [HV.out] <;> rfl, HBC.out⟩
      have hq1 := HSC.out.look_out keyS_ (t := 88) Tryz.underlying88 Tryz.underlying4 (zeroB_ _) HKN.out (fun h => hin (HIN.out.1 h))
      have HV := Lib.hid (show RES = scanF prfF l (k + 1) by rw [HRF.out, HSG.out (by rw [HFD.out]; simp [hE, hin])])
      subst hE
      obtain ⟨wz, rz, sz, gz⟩ := HSC.out.update keyS_ (t := 88) Tryz.underlying88 Tryz.underlying4 (by unfold maxLen; omega) HKN.out
      have HB7 := Lib.hid (HBC.out.grown gz (by omega) (fun j hj => by cases hj; omega))
      have HZ := Lib.hid sz
      have hz7 := gz.size
      clear gz sz HSC
      go_wp2_with fail
      go_roundw
      case rel => exact ⟨k + 1, by omega, by first | rfl | go_num, HV, HB7, Lib.hid (by rw [HTK.out]; exact HZ.out), by omega⟩
      case measure => simp [intOf]; omega
    · have HV := Lib.hid (show RES = 0 by rw [HRF.out, scanF_end prfF l k (by omega)])
      have hkk : k = l.length := by omega
      subst hkk
      go_wp2_with fail
      go_ret
      exact ⟨by rw [HV.out] <;> rfl, HBW.out⟩
end Go.Proofs.YtppbagllhmeenaaGreatDoor
