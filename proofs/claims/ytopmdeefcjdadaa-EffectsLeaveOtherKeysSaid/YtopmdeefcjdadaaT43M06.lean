/- fixture.checkRanges: the first fault of named ranges. (printed by wip/gen/gen_ckrng.py) The reference's slots, Profile, last. (printed by wip/gen/gen_rfix.py) Prefixes of slices of records. No walk in it. -/
import Derived.Test.YtopmdeefcjdadaaT43M04
import Derived.Deep.RegionHeld3
import Derived.WalkSpells
import Derived.Deep.QuietTactic
import Derived.Deep.DeepCutAuto
import Derived.BigQuiet
import Derived.Test.YtopmdeefcjdadaaShelf
import Derived.Test.YtopmdeefcjdadaaT43M05

namespace Go.Proofs.Ytopmdeefcjdadaa
open Go.RowKit
set_option linter.unusedVariables false
set_option linter.unusedSimpArgs false

theorem bel_drewF {B : Nat} {w W : World} (h : Below B w W) (n : Nat) : Below B w (W.drewN n) := ⟨h.os, h.tape, h.output, h.size, h.block⟩
set_option maxRecDepth 100000 in
set_option maxHeartbeats 16000000 in
theorem ckRanges_any (v : Value) (l : List Rng) (w : World) (h : RngS w.heap.size w v l) (hf : ∀ r ∈ l, RngFit r) :
    Calls Try.prog 129 #[v] w fun e w' => e = .returned (.int .i64 (chkRngs l)) ∧ Below w.heap.size w w' := by
  have hm := CellsS.len h
  unfold maxLen at hm
  have HG := Lib.hid (RngS.get h)
  have HF := Lib.hid hf
  obtain ⟨ao, cap, rfl, _⟩ := CellsS.shape h
  clear h hf
  have HC0 := Lib.hid (show chkRngs l = if 30 < l.length then 2 else scanF rngF l 0 from rfl)
  generalize chkRngs l = RES at *
  go_enter Try.func129, Try.ntmps129
  by_cases h30 : 30 < l.length
  · have HV := Lib.hid (show RES = 2 by rw [HC0.out, if_pos h30])
    go_wp2_with fail
    go_ret
    exact ⟨by rw [HV.out] <;> rfl, Below.refl _ _⟩
  have HC := Lib.hid (show RES = scanF rngF l 0 by rw [HC0.out, if_neg h30])
  have h31 : l.length ≤ 30 := by omega
  clear HC0 h30
  have hmm := @run_makeMap Try.prog
  go_wp2_with fail
  clear hmm
  go_loopw [12] (fun i wr => ∃ k : Nat, k ≤ l.length ∧ i = .int .i64 k ∧ Hid (RES = scanF rngF l k) ∧ Hid (Below w.heap.size w wr) ∧ Hid (SeenM wr Try.prog 9 4 w.heap.size k ((l.take k).map (fun y => Lit.string y.nm))) ∧ w.heap.size < wr.heap.size) (fun i _ => l.length - (intOf i).toNat)
  case atStart => exact ⟨0, Nat.zero_le _, rfl, HC, Lib.hid ((Below.refl _ _).alloc (Nat.le_refl _) _), Lib.hid (by simpa using seen_made w _ _ _), by simp⟩
  case round =>
    obtain ⟨k, hk, rfl, HRF, HBW, HSE, hlw⟩ := hrel
    by_cases hlt : k < l.length
    · obtain ⟨b, off, cap', hsl, hb, _, hc⟩ := HG.out (by omega)
      injection hsl with hs1 hs2 hs3
      subst hs1 hs3
      obtain ⟨d0, d1, d2⟩ := hc k hlt wr HBW.out
      have HPR := Lib.hid (fun (h0 : 0 < k) => hc (k - 1) (by omega))
      have hbr : b < wr.heap.size := by have := HBW.out.size; omega
      obtain ⟨g0, g1, hns⟩ := HF.out _ (List.getElem_mem hlt)
      have HSG := Lib.hid (scanF_good rngF l k hlt)
      have HSB := Lib.hid (scanF_bad rngF l k hlt)
      have HFD := Lib.hid (show rngF (l.take k) l[k] = if rngBad l[k] then 1 else if rngLow (l.take k) l[k] then 7 else if !nameB l[k].nm then 5 else if l[k].nm ∈ (l.take k).map Rng.nm then 6 else 0 from rfl)
      have HKEY := Lib.hid (keyOfS_ hns)
      have HIN := Lib.hid (mem_strs Rng.nm (l.take k) l[k].nm)
      have HTK := Lib.hid (strs_snoc Rng.nm l k hlt)
      have HKV := Lib.hid (show ∀ o, SeenM (wr.alloc o) Try.prog 9 4 w.heap.size k ((l.take k).map (fun y => Lit.string y.nm)) from fun o => HSE.out.kept (World.grownBy_alloc _ _ none) (by simp))
      have HLW0 := Lib.hid (show k = 0 → rngLow (l.take k) l[k] = false from fun h0 => by subst h0; rfl)
      have HLW := Lib.hid (show ∀ h0 : 0 < k, rngLow (l.take k) l[k] = decide (l[k].low ≤ (l[k - 1]'(by omega)).high) from fun h0 => by unfold rngLow; rw [last_take l k hlt h0]; rfl)
      have HBD := Lib.hid (show rngBad l[k] = (!inR l[k].low 0 65535 || !inR l[k].high 0 65535 || decide (l[k].high < l[k].low)) from rfl)
      generalize rngLow (l.take k) l[k] = LW at *
      generalize rngBad l[k] = BD at *
      generalize rngF (l.take k) l[k] = FF at *
      have hnm : l[k].nm = l[k].name.data.toList := rfl
      rw [hnm] at HFD HIN HTK
      clear hnm hc g0 g1
      generalize (l.take k).map Rng.nm = SN at *
      generalize (l.take k).map (fun y => Lit.string y.nm) = S at *
      generalize hrk : l[k] = rk at *
      clear hrk
      obtain ⟨rlo, rhi, rnm⟩ := rk
      simp only at d0 d1 d2 hns
      go_upto_region 7 with fail
      have HKA := Lib.hid (HKV.out (.cells #[.int .i64 rlo, .int .i64 rhi, .string rnm] 185))
      have HBA := Lib.hid (HBW.out.alloc (Nat.le_of_lt hlw) (.cells #[.int .i64 rlo, .int .i64 rhi, .string rnm] 185))
      go_cut [17] (fun s17 wx => s17 = .bool BD ∧ wx = wr.alloc (.cells #[.int .i64 rlo, .int .i64 rhi, .string rnm] 185))
      case first =>
        rcases Bool.eq_false_or_eq_true (inR rlo 0 65535) with k0 | k0
        rotate_left
        · skip
          have HV := Lib.hid (show BD = true by rw [HBD.out]; simp [k0])
          go_wp2_with (first | (go_at_call 128; ((with_reducible refine (fLevel_R _ _).mono ?_); rintro e w' ⟨rfl, rfl⟩)) | (go_at_call 127; ((with_reducible refine (name_any _ _ hns).mono ?_); rintro e w' ⟨rfl, rfl⟩)) | fail)
          all_goals go_meet
          all_goals exact ⟨by rw [HV.out] <;> rfl, rfl⟩
        rcases Bool.eq_false_or_eq_true (inR rhi 0 65535) with k1 | k1
        rotate_left
        · skip
          have HV := Lib.hid (show BD = true by rw [HBD.out]; simp [k0, k1])
          go_wp2_with (first | (go_at_call 128; ((with_reducible refine (fLevel_R _ _).mono ?_); rintro e w' ⟨rfl, rfl⟩)) | (go_at_call 127; ((with_reducible refine (name_any _ _ hns).mono ?_); rintro e w' ⟨rfl, rfl⟩)) | fail)
          all_goals go_meet
          all_goals exact ⟨by rw [HV.out] <;> rfl, rfl⟩
        by_cases k2 : rhi < rlo
        · skip
          have HV := Lib.hid (show BD = true by rw [HBD.out]; simp [k0, k1, k2])
          go_wp2_with (first | (go_at_call 128; ((with_reducible refine (fLevel_R _ _).mono ?_); rintro e w' ⟨rfl, rfl⟩)) | (go_at_call 127; ((with_reducible refine (name_any _ _ hns).mono ?_); rintro e w' ⟨rfl, rfl⟩)) | fail)
          all_goals go_meet
          all_goals exact ⟨by rw [HV.out] <;> rfl, rfl⟩
        · skip
          have HV := Lib.hid (show BD = false by rw [HBD.out]; simp [k0, k1]; omega)
          have k3 : decide (rhi < rlo) = false := by simpa using k2
          go_wp2_with (first | (go_at_call 128; ((with_reducible refine (fLevel_R _ _).mono ?_); rintro e w' ⟨rfl, rfl⟩)) | (go_at_call 127; ((with_reducible refine (name_any _ _ hns).mono ?_); rintro e w' ⟨rfl, rfl⟩)) | fail)
          all_goals go_meet
          all_goals exact ⟨by rw [HV.out] <;> rfl, rfl⟩
      case rest =>
        obtain ⟨rfl, rfl⟩ := hcut
        cases BD
        rotate_left
        · have HE : FF = 1 := by rw [HFD.out]; rfl
          have HV := Lib.hid (show RES = 1 by rw [HRF.out, HSB.out (by rw [HE]; decide), HE])
          clear HE
          go_wp2_with fail
          go_ret
          exact ⟨by rw [HV.out] <;> rfl, HBA.out⟩
        have HFE := Lib.hid (show FF = if LW then 7 else if !nameB rnm.data.toList then 5 else if rnm.data.toList ∈ SN then 6 else 0 by rw [HFD.out]; rfl)
        clear HFD HBD
        go_upto_region 9 with fail
        go_cut [35] (fun s35 wx => s35 = .bool LW ∧ Below wx.heap.size (wr.alloc (.cells #[.int .i64 rlo, .int .i64 rhi, .string rnm] 185)) wx ∧ wx.heap.size = wr.heap.size + 1)
        case first =>
          by_cases h0 : k = 0
          · subst h0
            have HV := Lib.hid (HLW0.out rfl)
            clear HPR HLW HLW0
            go_quiet (fail)
            go_wp2_with fail
            all_goals go_meet
            all_goals exact ⟨by rw [HV.out] <;> rfl, bel_drewF (Below.refl _ _) _, by simp⟩
          · obtain ⟨j, rfl⟩ : ∃ j, k = j + 1 := ⟨k - 1, by omega⟩
            have HLX := Lib.hid (HLW.out (by omega))
            obtain ⟨_, d4, _⟩ := HPR.out (by omega) wr HBW.out
            clear HPR HLW HLW0
            simp only [Nat.add_sub_cancel] at d4
            have hlow : (l[j + 1 - 1]'(by omega)) = l[j] := by simp
            rw [hlow] at HLX
            clear hlow
            generalize l[j] = rj at *
            obtain ⟨jl, jh, jn⟩ := rj
            simp only at d4
            have hji : ((j + 1 : Nat) : Int) - 1 = (j : Int) := by omega
            by_cases hle : rlo ≤ jh
            · skip
              have HV := Lib.hid (show LW = true by rw [HLX.out]; simpa using hle)
              clear HLX
              go_quiet (fail)
              go_wp2_with fail
              all_goals go_meet
              all_goals exact ⟨by rw [HV.out] <;> rfl, bel_drewF (Below.refl _ _) _, by simp⟩
            · skip
              have HV := Lib.hid (show LW = false by rw [HLX.out]; simpa using hle)
              clear HLX
              have hled : decide (rlo ≤ jh) = false := by simpa using hle
              go_quiet (fail)
              go_wp2_with fail
              all_goals go_meet
              all_goals exact ⟨by rw [HV.out] <;> rfl, bel_drewF (Below.refl _ _) _, by simp⟩
        case rest =>
          obtain ⟨rfl, hb3, hz3⟩ := hcut
          have HBC := Lib.hid (HBA.out.trans (hb3.mono (by omega)))
          have HKW := Lib.hid (HKA.out.below hb3 (by omega))
          have e2 : wc.cell? ⟨wr.heap.size, 2, none⟩ = some (.string rnm) := (hb3.cell (p := ⟨wr.heap.size, 2, none⟩) (by simp; omega)).trans (by simp [go_sem])
          have hwc : w.heap.size < wc.heap.size := by omega
          clear hb3 d0 d1 d2 HLW HLW0 HPR HKA HBA HKV HBW HSE
          cases LW
          rotate_left
          · skip
            have HE : FF = 7 := by rw [HFE.out]; rfl
            have HV := Lib.hid (show RES = 7 by rw [HRF.out, HSB.out (by rw [HE]; decide), HE])
            clear HE
            go_wp2_with fail
            go_ret
            exact ⟨by rw [HV.out] <;> rfl, HBC.out⟩
          rcases Bool.eq_false_or_eq_true (nameB rnm.data.toList) with k0 | k0
          rotate_left
          · skip
            have HE : FF = 5 := by rw [HFE.out]; simp [k0]
            have HV := Lib.hid (show RES = 5 by rw [HRF.out, HSB.out (by rw [HE]; decide), HE])
            clear HE
            go_wp2_with (first | (go_at_call 128; ((with_reducible refine (fLevel_R _ _).mono ?_); rintro e w' ⟨rfl, rfl⟩)) | (go_at_call 127; ((with_reducible refine (name_any _ _ hns).mono ?_); rintro e w' ⟨rfl, rfl⟩)) | fail)
            go_ret
            exact ⟨by rw [HV.out] <;> rfl, HBC.out⟩
          by_cases hin : rnm.data.toList ∈ SN
          · skip
            have HE : FF = 6 := by rw [HFE.out]; simp [k0, hin]
            have HV := Lib.hid (show RES = 6 by rw [HRF.out, HSB.out (by rw [HE]; decide), HE])
            clear HE
            go_wp2_with (first | (at_lookup; refine wpList_seen _ rfl _ _ 168 rfl 9 4 keyS_ Try.underlying168 Try.underlying4 (zeroB_ _) w.heap.size _ S rfl HKW.out (.string rnm) (.string rnm.data.toList) rfl HKEY.out ?_; intro c hc; obtain rfl : c = true := hc.2 (HIN.out.2 hin); clear hc) | (first | (go_at_call 128; ((with_reducible refine (fLevel_R _ _).mono ?_); rintro e w' ⟨rfl, rfl⟩)) | (go_at_call 127; ((with_reducible refine (name_any _ _ hns).mono ?_); rintro e w' ⟨rfl, rfl⟩)) | fail))
            go_ret
            exact ⟨by rw [HV.out] <;> rfl, HBC.out⟩
          · have HE : FF = 0 := by rw [HFE.out]; simp [k0, hin]
            have HV := Lib.hid (show RES = scanF rngF l (k + 1) by rw [HRF.out, HSG.out HE])
            clear HE
            go_wp2_with (first | (at_lookup; refine wpList_seen _ rfl _ _ 168 rfl 9 4 keyS_ Try.underlying168 Try.underlying4 (zeroB_ _) w.heap.size _ S rfl HKW.out (.string rnm) (.string rnm.data.toList) rfl HKEY.out ?_; intro c hc; obtain rfl : c = false := (by cases c; rfl; exact absurd (HIN.out.1 (hc.1 rfl)) hin); clear hc) | (at_mapUpdate; refine wpList_seen_put _ rfl _ _ _ 168 rfl 9 4 keyS_ Try.underlying168 Try.underlying4 w.heap.size _ S rfl HKW.out (by unfold maxLen; omega) (.string rnm) (.string rnm.data.toList) rfl rfl HKEY.out ?_; intro w3 hown3 hgrow3) | (first | (go_at_call 128; ((with_reducible refine (fLevel_R _ _).mono ?_); rintro e w' ⟨rfl, rfl⟩)) | (go_at_call 127; ((with_reducible refine (name_any _ _ hns).mono ?_); rintro e w' ⟨rfl, rfl⟩)) | fail))
            go_roundw
            case rel => exact ⟨k + 1, by omega, by first | rfl | go_num, HV, Lib.hid (HBC.out.grown hgrow3 (by omega) (fun j hj => by cases hj; omega)), Lib.hid (by rw [HTK.out]; exact hown3), hown3.lt⟩
            case measure => simp [intOf]; omega
    · have HV := Lib.hid (show RES = 0 by rw [HRF.out, scanF_end rngF l k (by omega)])
      have hkk : k = l.length := by omega
      subst hkk
      go_wp2_with fail
      go_ret
      exact ⟨by rw [HV.out] <;> rfl, HBW.out⟩
end Go.Proofs.Ytopmdeefcjdadaa

namespace Go.Proofs.Ytopmdeefcjdadaa
open Go.RowKit
set_option linter.unusedVariables false
set_option linter.unusedSimpArgs false

set_option maxRecDepth 100000 in
set_option maxHeartbeats 8000000 in
theorem rprofile_any (v : Value) (l : List Prf) (nm : ByteArray) (w : World) (h : PrfS w.heap.size w v l) :
    Calls Try.prog 119 #[v, .string nm] w fun e w' => ∃ pv, e = .returned (.tuple #[pv, .bool (profOf l nm.data.toList).isSome]) ∧ PrfR w.heap.size w' (profOf l nm.data.toList) pv ∧ Below w.heap.size w w' := by
  have HG := Lib.hid (PrfS.get h)
  obtain ⟨ao, cap, rfl⟩ := prfS_shape h
  have hm : l.length ≤ 9223372036854775807 := by
    by_cases c : 0 < l.length
    · obtain ⟨_, _, _, _, _, hm, _⟩ := PrfS.get h c
      unfold maxLen at hm; exact hm
    · omega
  have HS := Lib.hid (idxF_spec (hasNm nm.data.toList) l)
  have HSP := Lib.hid (show (idxF (hasNm nm.data.toList) l 0 = -1 → profOf l nm.data.toList = none) ∧ ∀ (k : Nat) (h : k < l.length), idxF (hasNm nm.data.toList) l 0 = (k : Int) → profOf l nm.data.toList = some l[k] from by
    rcases HS.out with ⟨h1, h2⟩ | ⟨k, hk, h1, h2⟩
    · exact ⟨fun _ => h2, fun k hk h => by rw [h1] at h; omega⟩
    · refine ⟨fun h => by rw [h1] at h; omega, fun j hj h => ?_⟩
      rw [h1] at h
      have : j = k := by omega
      subst this
      exact h2)
  have HC := Lib.hid (show idxF (hasNm nm.data.toList) l 0 = idxF (hasNm nm.data.toList) (l.drop 0) 0 by simp)
  generalize idxF (hasNm nm.data.toList) l 0 = IX at *
  generalize hPO : profOf l nm.data.toList = PO at *
  clear hPO HS h
  go_enter Try.func119, Try.ntmps119
  go_wp2_with fail
  go_loopw [10] (fun i wr => ∃ k : Nat, k ≤ l.length ∧ i = .int .i64 k ∧ Hid (IX = idxF (hasNm nm.data.toList) (l.drop k) k) ∧ Hid (Below (w.heap.size + 1) (w.alloc (.cells #[.string ⟨#[]⟩, .int .i64 0, .slice none 0 0] 137)) wr)) (fun i _ => l.length - (intOf i).toNat)
  case atStart => exact ⟨0, Nat.zero_le _, rfl, HC, Lib.hid (Below.refl _ _)⟩
  case round =>
    obtain ⟨k, hk, rfl, HR, HBW⟩ := hrel
    have hzr := HBW.out.size
    simp only [World.size_alloc] at hzr
    have hBB : Below w.heap.size w wr := ((Below.refl _ _).alloc (Nat.le_refl _) _).trans (HBW.out.mono (by omega))
    have z0 : wr.cell? ⟨w.heap.size, 0, none⟩ = some (.string ⟨#[]⟩) := (HBW.out.cell (p := ⟨w.heap.size, 0, none⟩) (by simp)).trans (by simp [go_sem])
    have z1 : wr.cell? ⟨w.heap.size, 1, none⟩ = some (.int .i64 0) := (HBW.out.cell (p := ⟨w.heap.size, 1, none⟩) (by simp)).trans (by simp [go_sem])
    have z2 : wr.cell? ⟨w.heap.size, 2, none⟩ = some (.slice none 0 0) := (HBW.out.cell (p := ⟨w.heap.size, 2, none⟩) (by simp)).trans (by simp [go_sem])
    have y0 : wr.frozen? ⟨w.heap.size, 0, none⟩ = false := (HBW.out.frozen (p := ⟨w.heap.size, 0, none⟩) (by simp)).trans (by simp [go_sem])
    have y1 : wr.frozen? ⟨w.heap.size, 1, none⟩ = false := (HBW.out.frozen (p := ⟨w.heap.size, 1, none⟩) (by simp)).trans (by simp [go_sem])
    have y2 : wr.frozen? ⟨w.heap.size, 2, none⟩ = false := (HBW.out.frozen (p := ⟨w.heap.size, 2, none⟩) (by simp)).trans (by simp [go_sem])
    have hwr : w.heap.size < wr.heap.size := by omega
    have KSB := Lib.hid (show ∀ W, Below w.heap.size w W → ∀ u0 u1 u2, Below w.heap.size w (((W.setCell ⟨w.heap.size, 0, none⟩ u0).setCell ⟨w.heap.size, 1, none⟩ u1).setCell ⟨w.heap.size, 2, none⟩ u2) from fun W hW u0 u1 u2 => ((hW.setCell (p := ⟨w.heap.size, 0, none⟩) (by simp) u0).setCell (p := ⟨w.heap.size, 1, none⟩) (by simp) u1).setCell (p := ⟨w.heap.size, 2, none⟩) (by simp) u2)
    by_cases hlt : k < l.length
    · obtain ⟨b, off, cap', hsl, hbb, _, hc⟩ := HG.out (by omega)
      injection hsl with hs1 hs2 hs3
      subst hs1 hs3
      obtain ⟨pv, hpv, hcc⟩ := hc k hlt
      obtain ⟨d0, d1, d2⟩ := hcc wr hBB
      have HPV := Lib.hid hpv
      have hbr : b < wr.heap.size := by omega
      have HY := Lib.hid (idxF_yes (hasNm nm.data.toList) l k hlt)
      have HN := Lib.hid (idxF_no (hasNm nm.data.toList) l k hlt)
      have HT := Lib.hid (show hasNm nm.data.toList l[k] = decide (l[k].name.data.toList = nm.data.toList) from rfl)
      have HPS := Lib.hid (HSP.out.2 k hlt)
      obtain ⟨po, pcap, rfl⟩ := parS_shape hpv
      have HBB := Lib.hid hBB
      clear hc hcc hpv HSP hBB
      generalize hasNm nm.data.toList l[k] = T at *
      generalize hrk : l[k] = rk at *
      clear hrk
      obtain ⟨pn, pz, pl⟩ := rk
      simp only at *
      by_cases he : pn.data.toList = nm.data.toList
      · have h2 : (pn.toList == nm.toList) = true := by rw [Lib.toList_data, Lib.toList_data]; simpa using he
        have HV := Lib.hid (HPS.out (HR.out.trans (HY.out (by rw [HT.out]; simpa using he))))
        clear he
        have HV1 : PO = some ⟨pn, pz, pl⟩ := HV.out
        go_wp2_with fail
        exact bodyPost_ret (v := .tuple #[.agg #[.string pn, .int .i64 pz, .slice po pl.length pcap], .bool true]) (by simp [results, Try.results119, go_sem, z0, z1, z2, hwr]) rfl ⟨_, by rw [HV.out] <;> rfl, by rw [HV.out]; exact ⟨_, rfl, HPV.out.below ((KSB.out _ HBB.out _ _ _).alloc (by simp; omega) _)⟩, (KSB.out _ HBB.out _ _ _).alloc (by simp; omega) _⟩
      · have h2 : (pn.toList == nm.toList) = false := by rw [Lib.toList_data, Lib.toList_data]; simpa using he
        have HV := Lib.hid (HR.out.trans (HN.out (by rw [HT.out]; simpa using he)))
        clear he
        have HBW2 := Lib.hid (HBW.out.alloc (by omega) (.cells #[.string pn, .int .i64 pz, .slice po pl.length pcap] 137))
        go_wp2_with fail
        go_roundw
        case rel => exact ⟨k + 1, by omega, by go_num, HV, HBW2⟩
        case measure => simp [intOf]; omega
    · have HV := Lib.hid (HSP.out.1 (by rw [HR.out, idxF_end _ l k (by omega)]))
      have HBB := Lib.hid hBB
      clear hBB
      have hkk : k = l.length := by omega
      subst hkk
      go_wp2_with fail
      exact bodyPost_ret (v := .tuple #[.agg #[.string ⟨#[]⟩, .int .i64 0, .slice none 0 0], .bool false]) (by simp [results, Try.results119, go_sem, z0, z1, z2]) rfl ⟨_, by rw [HV.out] <;> rfl, by rw [HV.out]; rfl, KSB.out _ HBB.out _ _ _⟩
end Go.Proofs.Ytopmdeefcjdadaa

namespace Go.Proofs.Ytopmdeefcjdadaa
open Go.RowKit
set_option linter.unusedVariables false
set_option linter.unusedSimpArgs false

theorem CellsS.take {α : Type} {f : α → List Value} {n : Nat} {B : Nat} {w : World} {ao : Option Addr} {cap : Nat} {l : List α} (hn : ∀ y, (f y).length = n) (h : CellsS B w (.slice ao l.length cap) l.length (l.flatMap f)) (k : Nat) (hk : k ≤ l.length) : CellsS B w (.slice ao k cap) (l.take k).length ((l.take k).flatMap f) := by
  obtain ⟨ao', cap', e, h1, h2, h3⟩ := h
  injection e with e1 _ e3
  subst e1 e3
  rw [List.length_take, Nat.min_eq_left hk]
  refine ⟨ao, cap, rfl, by omega, h2, fun hp => ?_⟩
  obtain ⟨b, off, rfl, h4, h5⟩ := h3 (by omega)
  refine ⟨b, off, rfl, h4, fun j u hu => h5 j u ?_⟩
  rw [← flat_take f n hn l k hk] at hu
  rw [List.getElem?_take] at hu
  split at hu
  · exact hu
  · cases hu
theorem RngS.take {B : Nat} {w : World} {ao : Option Addr} {cap : Nat} {l : List Rng} (h : RngS B w (.slice ao l.length cap) l) (k : Nat) (hk : k ≤ l.length) : RngS B w (.slice ao k cap) (l.take k) := CellsS.take (n := 3) (fun _ => rfl) h k hk
theorem UntS.take {B : Nat} {w : World} {ao : Option Addr} {cap : Nat} {l : List Unt} (h : UntS B w (.slice ao l.length cap) l) (k : Nat) (hk : k ≤ l.length) : UntS B w (.slice ao k cap) (l.take k) := CellsS.take (n := 4) (fun _ => rfl) h k hk
theorem ParS.take {B : Nat} {w : World} {ao : Option Addr} {cap : Nat} {l : List Par} (h : ParS B w (.slice ao l.length cap) l) (k : Nat) (hk : k ≤ l.length) : ParS B w (.slice ao k cap) (l.take k) := by
  obtain ⟨lv, rfl, h1, h2⟩ := h
  refine ⟨lv.take k, by rw [List.map_take], ?_, fun y hy => h2 y (List.mem_of_mem_take hy)⟩
  rw [List.length_map] at h1 hk
  exact CellsS.take (n := 7) (fun _ => rfl) h1 k hk
theorem PrfS.take {B : Nat} {w : World} {ao : Option Addr} {cap : Nat} {l : List Prf} (h : PrfS B w (.slice ao l.length cap) l) (k : Nat) (hk : k ≤ l.length) : PrfS B w (.slice ao k cap) (l.take k) := by
  obtain ⟨lv, rfl, h1, h2⟩ := h
  refine ⟨lv.take k, by rw [List.map_take], ?_, fun y hy => h2 y (List.mem_of_mem_take hy)⟩
  rw [List.length_map] at h1 hk
  exact CellsS.take (n := 3) (fun _ => rfl) h1 k hk
theorem not_mem_snoc {α : Type} (f : α → List UInt8) (l : List α) (k : Nat) (h : k < l.length) (x : List UInt8) (h1 : x ∉ (l.take k).map f) (h2 : ¬ f l[k] = x) : x ∉ (l.take (k + 1)).map f := by
  rw [List.take_succ_eq_append_getElem h, List.map_append, List.mem_append]
  rintro (h3 | h3)
  · exact h1 h3
  · simp at h3; exact h2 h3.symm
theorem mem_at {α : Type} (f : α → List UInt8) (l : List α) (k : Nat) (h : k < l.length) (x : List UInt8) (h2 : f l[k] = x) : x ∈ l.map f := List.mem_map.2 ⟨_, List.getElem_mem h, h2⟩
end Go.Proofs.Ytopmdeefcjdadaa
