/- The reference's Place. (printed by wip/gen/gen_place.py) -/
import Derived.Test.YtabalicembhjmaaT38M37

namespace Go.Proofs.Ytabalicembhjmaa
open Go.RowKit
set_option linter.unusedVariables false
set_option linter.unusedSimpArgs false
set_option maxRecDepth 100000 in
set_option maxHeartbeats 16000000 in
theorem rplace_any (x : Rig) (lv uv : Value) (nm : ByteArray) (n : Int) (w : World) (h : RigAt w.heap.size w x lv uv) (hf : RigFit x) (hn : I64 n) :
    Calls Try.prog 26 #[rigV lv uv, .string nm, .int .i64 n] w fun e w' => ∃ lv' uv', e = .returned (.tuple #[rigV lv' uv', .int .i64 (placeF x nm n)]) ∧ RigAt w'.heap.size w' (placeR x nm n) lv' uv' ∧ Below w.heap.size w w' := by
  have CC := Lib.hid (fun W (hb : Below w.heap.size w W) => rckRig_any x lv uv W ((h.below hb).more hb.size) hf)
  have CP := Lib.hid (fun (nm : ByteArray) W (hb : Below w.heap.size w W) => rprofile_base w.heap.size lv x.lib nm W hb.size (h.lib.below hb))
  have CU := Lib.hid (fun W (hb : Below w.heap.size w W) => runit_any x lv uv n W ((h.below hb).more hb.size))
  have CT := Lib.hid (fun (hx : chkRig x = 0) (s : Int) (h1 : 1 ≤ s) (h2 : s ≤ 512) W (hb : Below w.heap.size w W) => rroom_any x lv uv s 0 W ((h.below hb).more hb.size) hx h1 h2)
  have CY := Lib.hid (fun (hx : chkRig x = 0) W (hb : Below w.heap.size w W) => units_clone w.heap.size uv x.units.length (x.units.flatMap untC) W hb.size (rig_sizes hx).2 (flat_len untC 4 (fun _ => rfl) _) (one_untC' _) (rowC_of (h.units.below hb)))
  have HLL := Lib.hid h.lib
  have HG := Lib.hid (UntS.get h.units)
  have CI := Lib.hid (fun (i : Nat) (v : Value) (y : Unt) W (ho : OwnU (w.heap.size + 2) W v x.units) (hi : i ≤ x.units.length) (hl : x.units.length ≤ 100000) (hz : w.heap.size + 2 ≤ W.heap.size) => units_insert (w.heap.size + 2) W.heap.size i v x.units y #[.int .i64 y.num, .string y.prof, .int .i64 y.univ, .int .i64 y.addr] 67 (W.alloc (.cells #[.int .i64 y.num, .string y.prof, .int .i64 y.univ, .int .i64 y.addr] 67)) (ho.below ((Below.refl _ _).alloc (Nat.le_refl _) _)) (by simp; omega) hi hl (unt_cells W y 67) rfl (fun e => by have := (World.ownsRow.lt ho _ e).2; omega))
  have HR1 := Lib.hid (fun (h : ¬ chkRig x = 0) => placeR_no (n := n) (nm := nm) (placeF_bad h) h)
  have HRN := Lib.hid (fun (h : chkRig x = 0) (hp : profOf x.lib nm.data.toList = none) => placeR_no (n := n) (placeF_name h hp) (by decide))
  have HRW := Lib.hid (fun (h : chkRig x = 0) (p : Prf) (hp : profOf x.lib nm.data.toList = some p) (k : inR n 1 9999 = false) => placeR_no (n := n) (show placeF x nm n = 1 by rw [placeF_some h hp, k]; rfl) (by decide))
  have HRH := Lib.hid (fun (h : chkRig x = 0) (p : Prf) (hp : profOf x.lib nm.data.toList = some p) (k : inR n 1 9999 = true) (k2 : hasU x.units n = true) => placeR_no (n := n) (show placeF x nm n = 6 by rw [placeF_some h hp, k, k2]; rfl) (by decide))
  have HRL := Lib.hid (fun (h : chkRig x = 0) (p : Prf) (hp : profOf x.lib nm.data.toList = some p) (k : inR n 1 9999 = true) (k2 : hasU x.units n = false) (k3 : x.units.length = 400) => placeR_no (n := n) (show placeF x nm n = 2 by rw [placeF_some h hp, k, k2, if_pos k3]; rfl) (by decide))
  have HRF := Lib.hid (fun (h : chkRig x = 0) (p : Prf) (hp : profOf x.lib nm.data.toList = some p) (k : inR n 1 9999 = true) (k2 : hasU x.units n = false) (k3 : ¬ x.units.length = 400) (hr : roomO (usBut x 0) p.size = none) => placeR_no (n := n) (show placeF x nm n = 13 by rw [placeF_some h hp, k, k2, if_neg k3, hr]; rfl) (by decide))
  have HRS := Lib.hid (fun (h : chkRig x = 0) (p : Prf) (hp : profOf x.lib nm.data.toList = some p) (k : inR n 1 9999 = true) (k2 : hasU x.units n = false) (k3 : ¬ x.units.length = 400) (r : Int × Int) (hr : roomO (usBut x 0) p.size = some r) => (show placeF x nm n = 0 ∧ placeR x nm n = ⟨x.lib, insU x.units (posU x.units n) ⟨n, nm, r.1, r.2⟩⟩ from by
    have h0 : placeF x nm n = 0 := by rw [placeF_some h hp, k, k2, if_neg k3, hr]; rfl
    exact ⟨h0, placeR_some h0 hp hr⟩))
  have H4 := Lib.hid (fun (h : chkRig x = 0) => (chkRig_zero h).2.1)
  have HPZ := Lib.hid (fun (h : chkRig x = 0) (p : Prf) (hp : profOf x.lib nm.data.toList = some p) => (show 1 ≤ p.size ∧ p.size ≤ 512 from size_pos (u := ⟨0, nm, 0, 0⟩) (chkRig_zero h).1 hp))
  have HIX := Lib.hid (fun (h : chkRig x = 0) => idxU_has (asc_units h) n)
  have HPU := Lib.hid (posU_le x.units n)
  have HLT := Lib.hid (fun (i : Nat) (h : i < x.units.length) (hp : i < posU x.units n) => posU_lt n x.units i h hp)
  have HGE := Lib.hid (fun (h : posU x.units n < x.units.length) => posU_at n x.units h)
  obtain ⟨uo, ucap, rfl, _⟩ := CellsS.shape h.units
  obtain ⟨lo, lcap, rfl⟩ := prfS_shape h.lib
  unfold rigV at *
  have HB0 := Lib.hid (RigBox.start w (.slice lo x.lib.length lcap) (.slice uo x.units.length ucap))
  have C1 := Lib.hid (CC.out _ HB0.out.bel)
  clear CC
  clear h hf hn
  generalize placeF x nm n = FF at *
  generalize placeR x nm n = RR at *
  go_enter Try.func26, Try.ntmps26
  go_wp2_with fail
  refine C1.out.mono ?_
  rintro e w1 ⟨rfl, hb⟩
  have HB1 := Lib.hid (HB0.out.next hb)
  clear hb C1 HB0
  have p0 := HB1.out.par.cell (i := 0) rfl
  have p1 := HB1.out.par.cell (i := 1) rfl
  have hz1 := HB1.out.size
  by_cases hE : chkRig x = 0
  rotate_left
  · skip
    have HV := Lib.hid (show FF = (chkRig x) ∧ RR = noRig from HR1.out hE)
    have r0 := HB1.out.res.cell (i := 0) rfl
    have r1 := HB1.out.res.cell (i := 1) rfl
    have fr0 := HB1.out.res.frozen 0
    have fr1 := HB1.out.res.frozen 1
    have hrs := HB1.out.size
    go_wp2_with fail
    exact bodyPost_ret (v := .tuple #[.agg #[.slice none 0 0, .slice none 0 0], .int .i64 (chkRig x)]) (by simp [results, Try.results26, go_sem, r0, r1]) rfl ⟨.slice none 0 0, .slice none 0 0, by rw [HV.out.1], by rw [HV.out.2]; exact noRig_at _ _, HB1.out.done _ _⟩
  rw [hE]
  cases hP : profOf x.lib nm.data.toList with
  | none =>
    have CP1 := Lib.hid (CP.out nm _ HB1.out.bel)
    rw [hP] at CP1
    clear CP
    go_wp2_with fail
    refine CP1.out.mono ?_
    rintro e w2 ⟨pv, rfl, hpr, hb⟩
    obtain rfl : pv = .agg #[.string ⟨#[]⟩, .int .i64 0, .slice none 0 0] := hpr
    have HB2 := Lib.hid ((HB1.out.next hb).alloc (.cells #[.string ⟨#[]⟩, .int .i64 0, .slice none 0 0] 70))
    have HT2 := Lib.hid (TBox.new w2 #[.string ⟨#[]⟩, .int .i64 0, .slice none 0 0] 70)
    have HS2 := Lib.hid (HB1.out.next hb).size
    clear hb CP1 p0 p1 hz1 HB1
    have p0 := HB2.out.par.cell (i := 0) rfl
    have p1 := HB2.out.par.cell (i := 1) rfl
    have hz2 := HS2.out
    simp only [Option.isSome_none, Option.isSome_some] at *
    have HV := Lib.hid (show FF = 5 ∧ RR = noRig from HRN.out hE hP)
    have r0 := HB2.out.res.cell (i := 0) rfl
    have r1 := HB2.out.res.cell (i := 1) rfl
    have fr0 := HB2.out.res.frozen 0
    have fr1 := HB2.out.res.frozen 1
    have hrs := HB2.out.size
    go_wp2_with (first | (go_at_call 33; ((with_reducible refine (rwithin_R _ _ _ _).mono ?_); rintro e w' ⟨rfl, rfl⟩)) | fail)
    exact bodyPost_ret (v := .tuple #[.agg #[.slice none 0 0, .slice none 0 0], .int .i64 5]) (by simp [results, Try.results26, go_sem, r0, r1]) rfl ⟨.slice none 0 0, .slice none 0 0, by rw [HV.out.1], by rw [HV.out.2]; exact noRig_at _ _, HB2.out.done _ _⟩
  | some p =>
    have CP1 := Lib.hid (CP.out nm _ HB1.out.bel)
    rw [hP] at CP1
    clear CP
    go_wp2_with fail
    refine CP1.out.mono ?_
    rintro e w2 ⟨pv, rfl, hpr, hb⟩
    obtain ⟨qv, rfl, hps⟩ := hpr
    obtain ⟨po, pcap, rfl⟩ := parS_shape hps
    clear hps
    have HB2 := Lib.hid ((HB1.out.next hb).alloc (.cells #[.string p.name, .int .i64 p.size, .slice po p.pars.length pcap] 70))
    have HT2 := Lib.hid (TBox.new w2 #[.string p.name, .int .i64 p.size, .slice po p.pars.length pcap] 70)
    have HS2 := Lib.hid (HB1.out.next hb).size
    clear hb CP1 p0 p1 hz1 HB1
    have p0 := HB2.out.par.cell (i := 0) rfl
    have p1 := HB2.out.par.cell (i := 1) rfl
    have hz2 := HS2.out
    simp only [Option.isSome_none, Option.isSome_some] at *
    rcases Bool.eq_false_or_eq_true (inR n 1 9999) with k0 | k0
    rotate_left
    · skip
      have HV := Lib.hid (show FF = 1 ∧ RR = noRig from HRW.out hE p hP k0)
      have r0 := HB2.out.res.cell (i := 0) rfl
      have r1 := HB2.out.res.cell (i := 1) rfl
      have fr0 := HB2.out.res.frozen 0
      have fr1 := HB2.out.res.frozen 1
      have hrs := HB2.out.size
      go_wp2_with (first | (go_at_call 33; ((with_reducible refine (rwithin_R _ _ _ _).mono ?_); rintro e w' ⟨rfl, rfl⟩)) | fail)
      exact bodyPost_ret (v := .tuple #[.agg #[.slice none 0 0, .slice none 0 0], .int .i64 1]) (by simp [results, Try.results26, go_sem, r0, r1]) rfl ⟨.slice none 0 0, .slice none 0 0, by rw [HV.out.1], by rw [HV.out.2]; exact noRig_at _ _, HB2.out.done _ _⟩
    obtain ⟨hn1, hn2⟩ := inR_true k0
    have CU1 := Lib.hid (CU.out _ HB2.out.bel)
    clear CU
    go_wp2_with (first | (go_at_call 33; ((with_reducible refine (rwithin_R _ _ _ _).mono ?_); rintro e w' ⟨rfl, rfl⟩)) | fail)
    refine CU1.out.mono ?_
    rintro e w3 ⟨rfl, hb⟩
    have HB3 := Lib.hid (HB2.out.next hb)
    have HT3 := Lib.hid (HT2.out.below hb)
    clear hb CU1 p0 p1 HB2 HT2 hz2
    have p0 := HB3.out.par.cell (i := 0) rfl
    have p1 := HB3.out.par.cell (i := 1) rfl
    have hz3 := HB3.out.size
    cases hH : hasU x.units n with
    | true =>
      rw [(HIX.out hE).1 hH]
      have HV := Lib.hid (show FF = 6 ∧ RR = noRig from HRH.out hE p hP k0 hH)
      have r0 := HB3.out.res.cell (i := 0) rfl
      have r1 := HB3.out.res.cell (i := 1) rfl
      have fr0 := HB3.out.res.frozen 0
      have fr1 := HB3.out.res.frozen 1
      have hrs := HB3.out.size
      go_wp2_with (first | (go_at_call 33; ((with_reducible refine (rwithin_R _ _ _ _).mono ?_); rintro e w' ⟨rfl, rfl⟩)) | fail)
      exact bodyPost_ret (v := .tuple #[.agg #[.slice none 0 0, .slice none 0 0], .int .i64 6]) (by simp [results, Try.results26, go_sem, r0, r1]) rfl ⟨.slice none 0 0, .slice none 0 0, by rw [HV.out.1], by rw [HV.out.2]; exact noRig_at _ _, HB3.out.done _ _⟩
    | false =>
    rw [(HIX.out hE).2 hH]
    by_cases h4 : x.units.length = 400
    · have h4i : ((x.units.length : Int) == 400) = true := by rw [h4]; rfl
      have h4j : (x.units.length : Int) = 400 := by omega
      have HV := Lib.hid (show FF = 2 ∧ RR = noRig from HRL.out hE p hP k0 hH h4)
      have r0 := HB3.out.res.cell (i := 0) rfl
      have r1 := HB3.out.res.cell (i := 1) rfl
      have fr0 := HB3.out.res.frozen 0
      have fr1 := HB3.out.res.frozen 1
      have hrs := HB3.out.size
      go_wp2_with (first | (go_at_call 33; ((with_reducible refine (rwithin_R _ _ _ _).mono ?_); rintro e w' ⟨rfl, rfl⟩)) | fail)
      exact bodyPost_ret (v := .tuple #[.agg #[.slice none 0 0, .slice none 0 0], .int .i64 2]) (by simp [results, Try.results26, go_sem, r0, r1]) rfl ⟨.slice none 0 0, .slice none 0 0, by rw [HV.out.1], by rw [HV.out.2]; exact noRig_at _ _, HB3.out.done _ _⟩
    have h4i : ((x.units.length : Int) == 400) = false := by simp; omega
    have h4j : ¬ (x.units.length : Int) = 400 := by omega
    obtain ⟨hp1, hp2⟩ := HPZ.out hE p hP
    have h400 := H4.out hE
    have t1 := HT3.out.cell (i := 1) rfl
    have ht3 := HT3.out.lt
    have CT1 := Lib.hid (CT.out hE p.size hp1 hp2 _ HB3.out.bel)
    have CY1 := Lib.hid (CY.out hE)
    have HRF1 := Lib.hid (HRF.out hE p hP k0 hH h4)
    have HRS1 := Lib.hid (HRS.out hE p hP k0 hH h4)
    clear CT CY HRF HRS HRW HRH HRL HRN HR1 HPZ H4 HIX hP hE
    cases hR : roomO (usBut x 0) p.size with
    | none =>
      have HV := Lib.hid (HRF1.out hR)
      rw [hR] at CT1
      have CT2 := Lib.hid (show Calls Try.prog 54 _ w3 fun e w' => e = .returned (.tuple #[.int .i64 0, .int .i64 0, .bool false]) ∧ Below w3.heap.size w3 w' from CT1.out)
      clear HRF1 HRS1 hR CI CY1 CT1
      go_wp2_with fail
      refine CT2.out.mono ?_
      rintro e w5 ⟨rfl, hb⟩
      have HB5 := Lib.hid (HB3.out.next hb)
      clear hb p0 p1 t1 hz3 ht3 HB3 HT3 CT2
      have r0 := HB5.out.res.cell (i := 0) rfl
      have r1 := HB5.out.res.cell (i := 1) rfl
      have fr0 := HB5.out.res.frozen 0
      have fr1 := HB5.out.res.frozen 1
      have hrs := HB5.out.size
      go_wp2_with fail
      exact bodyPost_ret (v := .tuple #[.agg #[.slice none 0 0, .slice none 0 0], .int .i64 13]) (by simp [results, Try.results26, go_sem, r0, r1]) rfl ⟨.slice none 0 0, .slice none 0 0, by rw [HV.out.1], by rw [HV.out.2]; exact noRig_at _ _, HB5.out.done _ _⟩
    | some r =>
      have HV := Lib.hid (HRS1.out r hR)
      rw [hR] at CT1
      obtain ⟨rn, ra⟩ := r
      simp only at HV
      have CT2 := Lib.hid (show Calls Try.prog 54 _ w3 fun e w' => e = .returned (.tuple #[.int .i64 rn, .int .i64 ra, .bool true]) ∧ Below w3.heap.size w3 w' from CT1.out)
      clear HRF1 HRS1 hR CT1
      go_wp2_with fail
      refine CT2.out.mono ?_
      rintro e w5 ⟨rfl, hb⟩
      have HB5 := Lib.hid (HB3.out.next hb)
      clear hb p0 p1 t1 hz3 ht3 HB3 HT3 CT2
      have HIL := Lib.hid (insU_len x.units HPU.out ⟨n, nm, rn, ra⟩)
      have hpu := HPU.out
      generalize hps : posU x.units n = ps at *
      go_wp2_with fail
      go_loopw [13] (fun i wx => ∃ k : Nat, k ≤ ps ∧ i = .int .i64 k ∧ Hid (RigBox w (.slice lo x.lib.length lcap) (.slice uo x.units.length ucap) wx)) (fun i _ => ps - (intOf i).toNat)
      case atStart => exact ⟨0, Nat.zero_le _, rfl, HB5⟩
      case round =>
        obtain ⟨k, hk, rfl, HBR⟩ := hrel
        have p0 := HBR.out.par.cell (i := 0) rfl
        have p1 := HBR.out.par.cell (i := 1) rfl
        have hzr := HBR.out.size
        go_upto_region 17 with fail
        go_cut [73] (fun s wx => s = .bool (decide (k < ps)) ∧ RigBox w (.slice lo x.lib.length lcap) (.slice uo x.units.length ucap) wx)
        case first =>
          by_cases hlt : k < ps
          · obtain ⟨b, off, cap', hsl, hb, _, hc⟩ := HG.out (by omega)
            injection hsl with hs1 hs2 hs3
            subst hs1 hs3
            obtain ⟨d0, _⟩ := hc k (by omega) wr HBR.out.bel
            have hbr : b < wr.heap.size := by omega
            have hu := HLT.out k (by omega) hlt
            have hkl : (k : Int) < (x.units.length : Int) := by omega
            have hd : decide (k < ps) = true := by simpa using hlt
            clear hc
            generalize (x.units[k]'(by omega)).num = un at *
            go_wp2_with fail
            all_goals go_meet
            all_goals exact ⟨by rw [hd], HBR.out⟩
          · have hk2 : k = ps := by omega
            subst hk2
            have hd : decide (k < k) = false := by simp
            by_cases hkl : k < x.units.length
            · obtain ⟨b, off, cap', hsl, hb, _, hc⟩ := HG.out (by omega)
              injection hsl with hs1 hs2 hs3
              subst hs1 hs3
              obtain ⟨d0, _⟩ := hc k hkl wr HBR.out.bel
              have hbr : b < wr.heap.size := by omega
              have hu : n ≤ (x.units[k]'hkl).num := HGE.out hkl
              have hki : (k : Int) < (x.units.length : Int) := by omega
              clear hc
              generalize (x.units[k]'hkl).num = un at *
              have hv : decide (un < n) = false := by simp; omega
              go_wp2_with fail
              all_goals go_meet
              all_goals exact ⟨by first | rw [hd]; done | rw [hd, hv], HBR.out⟩
            · have hki : ¬ (k : Int) < (x.units.length : Int) := by omega
              go_wp2_with fail
              all_goals go_meet
              all_goals exact ⟨by rw [hd], HBR.out⟩
        case rest =>
          obtain ⟨rfl, hbc⟩ := hcut
          have HBC := Lib.hid hbc
          clear hbc HBR p0 p1 hzr
          by_cases hlt : k < ps
          · have hd : decide (k < ps) = true := by simpa using hlt
            rw [hd]
            go_wp2_with fail
            go_roundw
            case rel => exact ⟨k + 1, by omega, by first | rfl | go_num, HBC⟩
            case measure => simp [intOf]; omega
          · have hk2 : k = ps := by omega
            subst hk2
            have hd : decide (k < k) = false := by simp
            rw [hd]
            have p0 := HBC.out.par.cell (i := 0) rfl
            have p1 := HBC.out.par.cell (i := 1) rfl
            have hzc := HBC.out.size
            have CY2 := Lib.hid (CY1.out _ HBC.out.bel)
            clear CY1 HG HLT HGE HB5
            go_wp2_with fail
            refine CY2.out.mono ?_
            rintro e w6 ⟨v6, rfl, hown, hb⟩
            have HB6 := Lib.hid (HBC.out.next hb)
            have HU6 := Lib.hid (show OwnU (w.heap.size + 2) w6 v6 x.units from own_base hown HBC.out.size)
            obtain ⟨uo', ucap', rfl⟩ := HU6.out.shape
            clear hb hown CY2 p0 p1 hzc HBC
            have CI1 := Lib.hid (CI.out k _ ⟨n, nm, rn, ra⟩ w6 HU6.out hpu (by omega) HB6.out.size)
            have hav := (Below.refl w6.heap.size w6).alloc (Nat.le_refl _) (.cells #[.int .i64 n, .string nm, .int .i64 rn, .int .i64 ra] 67)
            have HB7 := Lib.hid (HB6.out.next hav)
            have HU7 := Lib.hid (HU6.out.below hav)
            have hz6 := HB6.out.size
            clear hav CI HB6 HU6
            go_wp2_with fail
            refine CI1.out.mono ?_
            rintro e w8 ⟨v8, rfl, hu8, hg8⟩
            have HB8 := Lib.hid (HB7.out.grown HU7.out hg8 (Nat.le_refl _))
            obtain ⟨uo2, ucap2, rfl⟩ := hu8.shape
            generalize (insU x.units k ⟨n, nm, rn, ra⟩).length = il at *
            have HU9 := Lib.hid (hu8.other (Other.box HB8.out.par (i := 1) (.slice uo2 il ucap2)) (by decide))
            have HP9 := Lib.hid (HB8.out.par.set 1 (.slice uo2 il ucap2))
            simp only [List.setIfInBounds_toArray, List.set_cons_succ, List.set_cons_zero] at HP9
            have hne : TBox (w8.setCell ⟨w.heap.size, 1, none⟩ (.slice uo2 il ucap2)) (w.heap.size + 1) 25 #[.slice none 0 0, .slice none 0 0] := (Below.heap_setCell w8 ⟨w.heap.size, 1, none⟩ _ (w.heap.size + 1) (by simp)).trans HB8.out.res
            have HR9 := Lib.hid hne
            have HBL := Lib.hid (HB8.out.bel.setCell (p := ⟨w.heap.size, 1, none⟩) (Nat.le_refl _) (.slice uo2 il ucap2))
            have p1 := HB8.out.par.cell (i := 1) rfl
            have f1 := HB8.out.par.frozen 1
            have hz8 := HB8.out.size
            clear hne hu8 hg8 CI1 HU7 HB7 hz6 HIL
            go_upto_region 20 with fail
            generalize hW9 : w8.setCell ⟨w.heap.size, 1, none⟩ (.slice uo2 il ucap2) = w9 at *
            have hz9 : w.heap.size + 2 ≤ w9.heap.size := by rw [← hW9]; simpa using hz8
            clear hW9 p1 f1 hz8 HB8
            have q0 := HP9.out.cell (i := 0) rfl
            have q1 := HP9.out.cell (i := 1) rfl
            have r0 := HR9.out.cell (i := 0) rfl
            have r1 := HR9.out.cell (i := 1) rfl
            have fr0 := HR9.out.frozen 0
            have fr1 := HR9.out.frozen 1
            have HE := Lib.hid (show ∀ a b, RigAt ((w9.setCell ⟨w.heap.size + 1, 0, none⟩ a).setCell ⟨w.heap.size + 1, 1, none⟩ b).heap.size ((w9.setCell ⟨w.heap.size + 1, 0, none⟩ a).setCell ⟨w.heap.size + 1, 1, none⟩ b) RR (.slice lo x.lib.length lcap) (.slice uo2 il ucap2) ∧ Below w.heap.size w ((w9.setCell ⟨w.heap.size + 1, 0, none⟩ a).setCell ⟨w.heap.size + 1, 1, none⟩ b) from fun a b => by
              have hbl := (HBL.out.setCell (p := ⟨w.heap.size + 1, 0, none⟩) (by simp) a).setCell (p := ⟨w.heap.size + 1, 1, none⟩) (by simp) b
              rw [HV.out.2]
              exact ⟨⟨(HLL.out.below hbl).more hbl.size, (HU9.out.res HR9.out a b).untS⟩, hbl⟩)
            clear HU9 HP9 HR9 HBL HLL
            go_wp2_with fail
            exact bodyPost_ret (v := .tuple #[.agg #[.slice lo x.lib.length lcap, .slice uo2 il ucap2], .int .i64 0]) (by simp [results, Try.results26, go_sem, r0, r1]) rfl ⟨_, _, by rw [HV.out.1], (HE.out _ _).1, (HE.out _ _).2⟩
end Go.Proofs.Ytabalicembhjmaa
