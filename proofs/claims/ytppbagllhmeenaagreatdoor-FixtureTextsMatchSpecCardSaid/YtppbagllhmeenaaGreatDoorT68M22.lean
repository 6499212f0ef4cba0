/- fixture.checkRanges: the first fault of named ranges. (printed by wip/gen/gen_ckrng.py) -/
import Derived.Test.YtppbagllhmeenaaGreatDoorT68M21
import Derived.Deep.RegionHeld3
import Derived.WalkSpells
import Derived.Deep.QuietTactic
import Derived.Deep.DeepCutAuto
import Derived.BigQuiet

namespace Go.Proofs.YtppbagllhmeenaaGreatDoor
open Go.RowKit
set_option linter.unusedVariables false
set_option linter.unusedSimpArgs false

theorem bel_drewF {B : Nat} {w W : World} (h : Below B w W) (n : Nat) : Below B w (W.drewN n) := ⟨h.os, h.tape, h.output, h.size, h.block⟩
set_option maxRecDepth 100000 in
set_option maxHeartbeats 16000000 in
theorem ckRanges_any (v : Value) (l : List Rng) (w : World) (h : RngS w.heap.size w v l) (hf : ∀ r ∈ l, RngFit r) :
    Calls Tryz.prog 70 #[v] w fun e w' => e = .returned (.int .i64 (chkRngs l)) ∧ Below w.heap.size w w' := by
  have hm := CellsS.len h
  unfold maxLen at hm
  have HG := Lib.hid (RngS.get h)
  have HF := Lib.hid hf
  obtain ⟨ao, cap, rfl, _⟩ := CellsS.shape h
  clear h hf
  have HC0 := Lib.hid (show chkRngs l = if 30 < l.length then 2 else scanF rngF l 0 from rfl)
  generalize chkRngs l = RES at *
  go_enter Tryz.func70, Tryz.ntmps70
  by_cases h30 : 30 < l.length
  · have HV := Lib.hid (show RES = 2 by rw [HC0.out, if_pos h30])
    go_wp2_with fail
    go_ret
    exact ⟨by rw [HV.out] <;> rfl, Below.refl _ _⟩
  have HC := Lib.hid (show RES = scanF rngF l 0 by rw [HC0.out, if_neg h30])
  have h31 : l.length ≤ 30 := by omega
  clear HC0 h30
  have hmm := @run_makeMap Tryz.prog
  go_wp2_with fail
  clear hmm
  go_loopw [12] (fun i wr => ∃ k : Nat, k ≤ l.length ∧ i = .int .i64 k ∧ Hid (RES = scanF rngF l k) ∧ Hid (Below w.heap.size w wr) ∧ Hid (SeenM wr Tryz.prog 9 4 w.heap.size k ((l.take k).map (fun y => Lit.string y.nm))) ∧ w.heap.size < wr.heap.size) (fun i _ => l.length - (intOf i).toNat)
  case atStart => exact ⟨0, Nat.zero_le _, rfl, HC, Lib.hid ((Below.refl _ _).alloc (Nat.le_refl _) _), Lib.hid (by simpa using seen_made w _ _ _), by simp⟩
  case round =>
    obtain ⟨k, hk, rfl, HRF, HBW, HSE, hlw⟩ := hrel
    by_cases hlt : k < l.length
    · obtain ⟨b, off, cap', hsl, hb, _, hc⟩ := HG.out (by omega)
      injection hsl with hs1 hs2 hs3
      subst hs1 hs3
      obtain ⟨d0, d1, d2⟩ := hc k hlt wr HBW.out
      have HPR := Lib.hid (fun (h0 : 0 < k) => hc (k - 1) (by omega))
      have hbr : b < wr.heap.size := by have := HBW.out.size; omega
      obtain ⟨g0, g1, hns⟩ := HF.out _ (List.getElem_mem hlt)
      have HSG := Lib.hid (scanF_good rngF l k hlt)
      have HSB := Lib.hid (scanF_bad rngF l k hlt)
      have HFD := Lib.hid (show rngF (l.take k) l[k] = if rngBad l[k] then 1 else if rngLow (l.take k) l[k] then 7 else if !nameB l[k].nm then 5 else if l[k].nm ∈ (l.take k).map Rng.nm then 6 else 0 from rfl)
      have HKEY := Lib.hid (keyOfS_ hns)
      have HIN := Lib.hid (mem_strs Rng.nm (l.take k) l[k].nm)
      have HTK := Lib.hid (strs_snoc Rng.nm l k hlt)
      have HKV := Lib.hid (show ∀ o, SeenM (wr.alloc o) Tryz.prog 9 4 w.heap.size k ((l.take k).map (fun y => Lit.string y.nm)) from fun o => HSE.out.kept (World.grownBy_alloc _ _ none) (by simp))
      have HLW0 := Lib.hid (show k = 0 → rngLow (l.take k) l[k] = false from fun h0 => by subst h0; rfl)
      have HLW := Lib.hid (show ∀ h0 : 0 < k, rngLow (l.take k) l[k] = decide (l[k].low ≤ (l[k - 1]'(by omega)).high) from fun h0 => by unfold rngLow; rw [last_take l k hlt h0]; rfl)
      have HBD := Lib.hid (show rngBad l[k] = (!inR l[k].low 0 65535 || !inR l[k].high 0 65535 || decide (l[k].high < l[k].low)) from rfl)
      generalize rngLow (l.take k) l[k] = LW at *
      generalize rngBad l[k] = BD at *
      generalize rngF (l.take k) l[k] = FF at *
      have hnm : l[k].nm = l[k].name.data.toList := rfl
      rw [hnm] at HFD HIN HTK
      clear hnm hc g0 g1
      generalize (l.take k).map Rng.nm = SN at *
      generalize (l.take k).map (fun y => Lit.string y.nm) = S at *
      generalize hrk : l[k] = rk at *
      clear hrk
      obtain ⟨rlo, rhi, rnm⟩ := rk
      simp only at d0 d1 d2 hns
      go_upto_region 7 with fail
      have HKA := Lib.hid (HKV.out (.cells #[.int .i64 rlo, .int .i64 rhi, .string rnm] 75))
      have HBA := Lib.hid (HBW.out.alloc (Nat.le_of_lt hlw) (.cells #[.int .i64 rlo, .int .i64 rhi, .string rnm] 75))
      go_cut [17] (fun s17 wx => s17 = .bool BD ∧ wx = wr.alloc (.cells #[.int .i64 rlo, .int .i64 rhi, .string rnm] 75))
      case first =>
        rcases Bool.eq_false_or_eq_true (inR rlo 0 65535) with k0 | k0
        rotate_left
        · skip
          have HV := Lib.hid (show BD = true by rw [HBD.out]; simp [k0])
          go_wp2_with (first | (go_at_call 69; ((with_reducible refine (fLevel_R _ _).mono ?_); rintro e w' ⟨rfl, rfl⟩)) | (go_at_call 68; ((with_reducible refine (name_any _ _ hns).mono ?_); rintro e w' ⟨rfl, rfl⟩)) | fail)
          all_goals go_meet
          all_goals exact ⟨by rw [HV.out] <;> rfl, rfl⟩
        rcases Bool.eq_false_or_eq_true (inR rhi 0 65535) with k1 | k1
        rotate_left
        · skip
          have HV := Lib.hid (show BD = true by rw [HBD.out]; simp [k0, k1])
          go_wp2_with (first | (go_at_call 69; ((with_reducible refine (fLevel_R _ _).mono ?_); rintro e w' ⟨rfl, rfl⟩)) | (go_at_call 68; ((with_reducible refine (name_any _ _ hns).mono ?_); rintro e w' ⟨rfl, rfl⟩)) | fail)
          all_goals go_meet
          all_goals exact ⟨by rw [HV.out] <;> rfl, rfl⟩
        by_cases k2 : rhi < rlo
        · skip
          have HV := Lib.hid (show BD = true by rw [HBD.out]; simp [k0, k1, k2])
          go_wp2_with (first | (go_at_call 69; ((with_reducible refine (fLevel_R _ _).mono ?_); rintro e w' ⟨rfl, rfl⟩)) | (go_at_call 68; ((with_reducible refine (name_any _ _ hns).mono ?_); rintro e w' ⟨rfl, rfl⟩)) | fail)
          all_goals go_meet
          all_goals exact ⟨by rw [HV.out] <;> rfl, rfl⟩
        · skip
          have HV := Lib.hid (show BD = false by rw [HBD.out]; simp [k0, k1]; omega)
          have k3 : decide (rhi < rlo) = false := by simpa using k2
          go_wp2_with (first | (go_at_call 69; ((with_reducible refine (fLevel_R _ _).mono ?_); rintro e w' ⟨rfl, rfl⟩)) | (go_at_call 68; ((with_reducible refine (name_any _ _ hns).mono ?_); rintro e w' ⟨rfl, rfl⟩)) | fail)
          all_goals go_meet
          all_goals exact ⟨by rw [HV.out] <;> rfl, rfl⟩
      case rest =>
        obtain ⟨rfl, rfl⟩ := hcut
        cases BD
        rotate_left
        · have HE : FF = 1 := by rw [HFD.out]; rfl
          have HV := Lib.hid (show RES = 1 by rw [HRF.out, HSB.out (by rw [HE]; decide), HE])
          clear HE
          go_wp2_with fail
          go_ret
          exact ⟨by rw [HV.out] <;> rfl, HBA.out⟩
        have HFE := Lib.hid (show FF = if LW then 7 else if !nameB rnm.data.toList then 5 else if rnm.data.toList ∈ SN then 6 else 0 by rw [HFD.out]; rfl)
        clear HFD HBD
        go_upto_region 9 with fail
        go_cut [35] (fun s35 wx => s35 = .bool LW ∧ Below wx.heap.size (wr.alloc (.cells #[.int .i64 rlo, .int .i64 rhi, .string rnm] 75)) wx ∧ wx.heap.size = wr.heap.size + 1)
        case first =>
          by_cases h0 : k = 0
          · subst h0
            have HV := Lib.hid (HLW0.out rfl)
            clear HPR HLW HLW0
            go_quiet (fail)
            go_wp2_with fail
            all_goals go_meet
            all_goals exact ⟨by rw [HV.out] <;> rfl, bel_drewF (Below.refl _ _) _, by simp⟩
          · obtain ⟨j, rfl⟩ : ∃ j, k = j + 1 := ⟨k - 1, by omega⟩
            have HLX := Lib.hid (HLW.out (by omega))
            obtain ⟨_, d4, _⟩ := HPR.out (by omega) wr HBW.out
            clear HPR HLW HLW0
            simp only [Nat.add_sub_cancel] at d4
            have hlow : (l[j + 1 - 1]'(by omega)) = l[j] := by simp
            rw [hlow] at HLX
            clear hlow
            generalize l[j] = rj at *
            obtain ⟨jl, jh, jn⟩ := rj
            simp only at d4
            have hji : ((j + 1 : Nat) : Int) - 1 = (j : Int) := by omega
            by_cases hle : rlo ≤ jh
            · skip
              have HV := Lib.hid (show LW = true by rw [HLX.out]; simpa using hle)
              clear HLX
              go_quiet (fail)
              go_wp2_with fail
              all_goals go_meet
              all_goals exact ⟨by rw [HV.out] <;> rfl, bel_drewF (Below.refl _ _) _, by simp⟩
            · skip
              have HV := Lib.hid (show LW = false by rw [HLX.out]; simpa using hle)
              clear HLX
              have hled : decide (rlo ≤ jh) = false := by simpa using hle
              go_quiet (fail)
              go_wp2_with fail
              all_goals go_meet
              all_goals exact ⟨by rw [HV.out] <;> rfl, bel_drewF (Below.refl _ _) _, by simp⟩
        case rest =>
          obtain ⟨rfl, hb3, hz3⟩ := hcut
          have HBC := Lib.hid (HBA.out.trans (hb3.mono (by omega)))
          have HKW := Lib.hid (HKA.out.below hb3 (by omega))
          have e2 : wc.cell? ⟨wr.heap.size, 2, none⟩ = some (.string rnm) := (hb3.cell (p := ⟨wr.heap.size, 2, none⟩) (by simp; omega)).trans (by simp [go_sem])
          have hwc : w.heap.size < wc.heap.size := by omega
          clear hb3 d0 d1 d2 HLW HLW0 HPR HKA HBA HKV HBW HSE
          cases LW
          rotate_left
          · skip
            have HE : FF = 7 := by rw [HFE.out]; rfl
            have HV := Lib.hid (show RES = 7 by rw [HRF.out, HSB.out (by rw [HE]; decide), HE])
            clear HE
            go_wp2_with fail
            go_ret
            exact ⟨by rw [HV.out] <;> rfl, HBC.out⟩
          rcases Bool.eq_false_or_eq_true (nameB rnm.data.toList) with k0 | k0
          rotate_left
          · skip
            have HE : FF = 5 := by rw [HFE.out]; simp [k0]
            have HV := Lib.hid (show RES = 5 by rw [HRF.out, HSB.out (by rw [HE]; decide), HE])
            clear HE
            go_wp2_with (first | (go_at_call 69; ((with_reducible refine (fLevel_R _ _).mono ?_); rintro e w' ⟨rfl, rfl⟩)) | (go_at_call 68; ((with_reducible refine (name_any _ _ hns).mono ?_); rintro e w' ⟨rfl, rfl⟩)) | fail)
            go_ret
            exact ⟨by rw [HV.out] <;> rfl, HBC.out⟩
          by_cases hin : rnm.data.toList ∈ SN
          · skip
            have HE : FF = 6 := by rw [HFE.out]; simp [k0, hin]
            have HV := Lib.hid (show RES = 6 by rw [HRF.out, HSB.out (by rw [HE]; decide), HE])
            clear HE
            go_wp2_with (first | (at_lookup; refine wpList_seen _ rfl _ _ 88 rfl 9 4 keyS_ Tryz.underlying88 Tryz.underlying4 (zeroB_ _) w.heap.size _ S rfl HKW.out (.string rnm) (.string rnm.data.toList) rfl HKEY.out ?_; intro c hc; obtain rfl : c = true := hc.2 (HIN.out.2 hin); clear hc) | (first | (go_at_call 69; ((with_reducible refine (fLevel_R _ _).mono ?_); rintro e w' ⟨rfl, rfl⟩)) | (go_at_call 68; ((with_reducible refine (name_any _ _ hns).mono ?_); rintro e w' ⟨rfl, rfl⟩)) | fail))
            go_ret
            exact ⟨by rw [HV.out] <;> rfl, HBC.out⟩
          · have HE : FF = 0 := by rw [HFE.out]; simp [k0, hin]
            have HV := Lib.hid (show RES = scanF rngF l (k + 1) by rw [HRF.out, HSG.out HE])
            clear HE
            go_wp2_with (first | (at_lookup; refine wpList_seen _ rfl _ _ 88 rfl 9 4 keyS_ Tryz.underlying88 Tryz.underlying4 (zeroB_ _) w.heap.size _ S rfl HKW.out (.string rnm) (.string rnm.data.toList) rfl HKEY.out ?_; intro c hc; obtain rfl : c = false := (by cases c; rfl; exact absurd (HIN.out.1 (hc.1 rfl)) hin); clear hc) | (at_mapUpdate; refine wpList_seen_put _ rfl _ _ _ 88 rfl 9 4 keyS_ Tryz.underlying88 Tryz.underlying4 w.heap.size _ S rfl HKW.out (by unfold maxLen; omega) (.string rnm) (.string rnm.data.toList) rfl rfl HKEY.out ?_; intro w3 hown3 hgrow3) | (first | (go_at_call 69; ((with_reducible refine (fLevel_R _ _).mono ?_); rintro e w' ⟨rfl, rfl⟩)) | (go_at_call 68; ((with_reducible refine (name_any _ _ hns).mono ?_); rintro e w' ⟨rfl, rfl⟩)) | fail))
            go_roundw
            case rel => exact ⟨k + 1, by omega, by first | rfl | go_num, HV, Lib.hid (HBC.out.grown hgrow3 (by omega) (fun j hj => by cases hj; omega)), Lib.hid (by rw [HTK.out]; exact hown3), hown3.lt⟩
            case measure => simp [intOf]; omega
    · have HV := Lib.hid (show RES = 0 by rw [HRF.out, scanF_end rngF l k (by omega)])
      have hkk : k = l.length := by omega
      subst hkk
      go_wp2_with fail
      go_ret
      exact ⟨by rw [HV.out] <;> rfl, HBW.out⟩
end Go.Proofs.YtppbagllhmeenaaGreatDoor
