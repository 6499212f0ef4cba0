/- The reference's KeysOf and Keys. (printed by wip/gen/gen_keys.py) -/
import Derived.Test.YtabalicembhjmaaDoorT39M25
import Derived.Test.YtabalicembhjmaaDoorT39M26

namespace Go.Proofs.YtabalicembhjmaaDoor
open Go.RowKit
set_option linter.unusedVariables false
set_option linter.unusedSimpArgs false
set_option maxRecDepth 100000 in
set_option maxHeartbeats 16000000 in
theorem rkeysOf_any (x : Rig) (lv uv : Value) (w : World) (h : RigAt w.heap.size w x lv uv) (hE : chkRig x = 0) :
    Calls Tryd.prog 42 #[rigV lv uv] w fun e w' => ∃ kv, e = .returned kv ∧ KeyRS w'.heap.size w' kv (keysL x.lib x.units) ∧ Below w.heap.size w w' := by
  have CP := Lib.hid (fun (nm : ByteArray) W (hb : Below w.heap.size w W) => rprofile_base w.heap.size lv x.lib nm W hb.size (h.lib.below hb))
  have HGU := Lib.hid (UntS.get h.units)
  obtain ⟨lo, lcap, uo, ucap, rfl, rfl⟩ := rig_shape h
  obtain ⟨lib, units⟩ := x
  simp only [rigV] at *
  have HB1 := Lib.hid (RBox.start w (.slice lo lib.length lcap) (.slice uo units.length ucap))
  clear h
  go_enter Tryd.func42, Tryd.ntmps42
  go_upto_region 1 with fail
  obtain ⟨w1, hw1⟩ : ∃ w1 : World, w1 = w.alloc (.cells #[.slice lo lib.length lcap, .slice uo units.length ucap] 36) := ⟨_, rfl⟩
  rw [← hw1] at HB1 ⊢
  clear hw1
  have p0 := HB1.out.par.cell (i := 0) rfl
  have p1 := HB1.out.par.cell (i := 1) rfl
  have hp0 := HB1.out.par.lt
  have HPR := Lib.hid (show ∀ u ∈ units, ∃ p, profOf lib u.nm = some p ∧ p.pars.length ≤ 40 from fun u hu => by
    obtain ⟨p, h1, h2, _⟩ := par_right hE hu
    exact ⟨p, h1, h2⟩)
  have HSL := Lib.hid (show ∀ k, (keysL lib (units.take k)).length ≤ 16000 from fun k => keys_len hE k)
  have hun : units.length ≤ 400 := (chkRig_zero hE).2.1
  have HKT := Lib.hid (keys_take lib units)
  have HKU := Lib.hid (fun (u : Unt) (p : Prf) (hp : profOf lib u.nm = some p) => keysU_some hp)
  have HSN := Lib.hid (show keysL lib (units.take 0) = [] from rfl)
  have hw1 : w.heap.size + 1 ≤ w1.heap.size := HB1.out.size
  go_wp2_with fail
  clear p0 p1
  go_loopw [13, 3] (fun i o wx => ∃ (j : Nat) (ov : Value), j ≤ units.length ∧ i = .int .i64 j ∧ ov = o ∧ Hid (RBox w (.slice lo lib.length lcap) (.slice uo units.length ucap) wx) ∧ Hid (Below w1.heap.size w1 wx) ∧ Hid (OwnK w1.heap.size wx ov (keysL lib (units.take j)))) (fun i _ _ => units.length - (intOf i).toNat)
  case atStart => exact ⟨0, _, Nat.zero_le _, rfl, rfl, HB1, Lib.hid (Below.refl _ _), Lib.hid (by rw [HSN.out]; exact OwnK.nil _ _)⟩
  case round =>
    obtain ⟨wo, rfl⟩ : ∃ wo : World, wo = wr := ⟨_, rfl⟩
    obtain ⟨j, ov, hj, rfl, rfl, HBO, HWO, HOO⟩ := hrel
    have hzo := HWO.out.size
    by_cases hlt : j < units.length
    · obtain ⟨b, off, cap', hsl, hb, _, hc⟩ := HGU.out (by omega)
      injection hsl with hs1 hs2 hs3
      subst hs1 hs3
      obtain ⟨d0, d1, d2, d3⟩ := hc j hlt wo HBO.out.bel
      have hbr : b < wo.heap.size := by omega
      obtain ⟨p, hpo, h40⟩ := HPR.out _ (List.getElem_mem hlt)
      have HK1 := Lib.hid (HKT.out j hlt)
      have HK2 := Lib.hid (HKU.out _ p hpo)
      have hnm : units[j].nm = units[j].prof.data.toList := rfl
      rw [hnm] at hpo
      have HLN := Lib.hid (HSL.out j)
      clear hc hnm
      generalize keysU lib units[j] = SJ at *
      generalize hS1 : keysL lib (units.take (j + 1)) = S1 at *
      have HS1 := Lib.hid hS1
      clear hS1
      generalize keysL lib (units.take j) = S0 at *
      generalize hrk : units[j] = rk at *
      clear hrk
      obtain ⟨un, up, uu, ua⟩ := rk
      simp only at *
      have p0 := HBO.out.par.cell (i := 0) rfl
      have p1 := HBO.out.par.cell (i := 1) rfl
      have hpl0 := HBO.out.par.lt
      have hba := (Below.refl wo.heap.size wo).alloc (Nat.le_refl _) (.cells #[.int .i64 un, .string up, .int .i64 uu, .int .i64 ua] 78)
      have CP1 := Lib.hid (CP.out up _ (HBO.out.next hba).bel)
      rw [hpo] at CP1
      have HTU := Lib.hid (TBox.new wo #[.int .i64 un, .string up, .int .i64 uu, .int .i64 ua] 78)
      have HBA := Lib.hid hba
      clear hba hpo
      obtain ⟨pn, pz, pl⟩ := p
      simp only at *
      go_wp2_with fail
      refine CP1.out.mono ?_
      rintro e w5 ⟨pv, rfl, ⟨qv, rfl, hps⟩, hb5⟩
      obtain ⟨po, pcap, rfl⟩ := parS_shape hps
      have ha6 := (Below.refl w5.heap.size w5).alloc (Nat.le_refl _) (.cells #[.string pn, .int .i64 pz, .slice po pl.length pcap] 29)
      have HB6 := Lib.hid ((HBA.out.trans (hb5.mono HBA.out.size)).trans (ha6.mono (Nat.le_trans HBA.out.size hb5.size)))
      have HT6 := Lib.hid ((HTU.out.below hb5).below ha6)
      have HO6 := Lib.hid (HOO.out.below HB6.out)
      have HR6 := Lib.hid (HBO.out.next HB6.out)
      have HW6 := Lib.hid (HWO.out.trans (HB6.out.mono hzo))
      have HPS := Lib.hid (ParS.get (hps.below (ha6.mono (by have := HB6.out.size; have := HBO.out.bel.size; have := hb5.size; have := HBA.out.size; omega))))
      simp only at HPS
      have hpl5 : wo.heap.size ≤ w5.heap.size := by have := hb5.size; have := HBA.out.size; omega
      clear hps hb5 CP1 HBA HTU ha6 p0 p1 d0 d1 d2 d3 hpl0
      go_upto_region 6 with fail
      obtain ⟨w6, hw6⟩ : ∃ w6 : World, w6 = w5.alloc (.cells #[.string pn, .int .i64 pz, .slice po pl.length pcap] 29) := ⟨_, rfl⟩
      have t2 : w6.cell? ⟨w5.heap.size, 2, none⟩ = some (.slice po pl.length pcap) := by rw [hw6]; simp [go_sem]
      have hl6 : w5.heap.size < w6.heap.size := by rw [hw6]; simp
      rw [← hw6] at HT6 HO6 HR6 HW6 HPS HB6 ⊢
      clear hw6
      go_wp2_with fail
      clear t2
      go_loopw [28, 3] (fun i o wx => ∃ (n : Nat) (ov : Value), n ≤ pl.length ∧ i = .int .i64 n ∧ ov = o ∧ Hid (Below w1.heap.size w6 wx) ∧ Hid (TBox wx wo.heap.size 78 #[.int .i64 un, .string up, .int .i64 uu, .int .i64 ua]) ∧ Hid (OwnK w1.heap.size wx ov (S0 ++ (pl.take n).map (fun q => (⟨un, q.name⟩ : KeyR))))) (fun i _ _ => pl.length - (intOf i).toNat)
      case atStart => exact ⟨0, _, Nat.zero_le _, rfl, rfl, Lib.hid (Below.refl _ _), HT6, Lib.hid (by simpa using HO6.out)⟩
      case round =>
        obtain ⟨wi, rfl⟩ : ∃ wi : World, wi = wr := ⟨_, rfl⟩
        obtain ⟨n, qv, hn, rfl, rfl, HBI, HTI, HOI⟩ := hrel
        have hzi := HBI.out.size
        have hti := HTI.out.lt
        by_cases hnl : n < pl.length
        · obtain ⟨b2, off2, cap2, hsl, hb2, _, hc⟩ := HPS.out (by omega)
          injection hsl with hs1 hs2 hs3
          subst hs1 hs3
          obtain ⟨rv, hrv, hcc⟩ := hc n hnl
          obtain ⟨d0, d1, d2, d3, d4, d5, d6⟩ := hcc wi (HBI.out.mono (by omega))
          have hbr2 : b2 < wi.heap.size := by omega
          have HPT := Lib.hid (pk_take un pl n hnl)
          obtain ⟨ro, rcap, rfl, _⟩ := CellsS.shape hrv
          clear hc hcc hrv
          generalize hrk : pl[n] = rk at *
          clear hrk
          obtain ⟨xn, xg, xs, xf, xd, xb, xl⟩ := rk
          simp only at *
          have u0 := HTI.out.cell (i := 0) rfl
          have hln : (S0 ++ (pl.take n).map (fun q => (⟨un, q.name⟩ : KeyR))).length ≤ 10000000 := by rw [List.length_append, List.length_map, List.length_take]; have := HLN.out; omega
          generalize hML : (pl.take n).map (fun q => (⟨un, q.name⟩ : KeyR)) = ML at *
          clear hML
          have hA1 := (Below.refl wi.heap.size wi).alloc (Nat.le_refl _) (.cells #[.string xn, .int .i64 xg, .int .i64 xs, .int .i64 xf, .int .i64 xd, .bool xb, .slice ro xl.length rcap] 46)
          have HOX := Lib.hid (HOI.out.below hA1)
          have HTX := Lib.hid (HTI.out.below hA1)
          have HBX := Lib.hid (HBI.out.trans (hA1.mono (show w1.heap.size ≤ wi.heap.size by have := HW6.out.size; omega)))
          clear hA1
          go_upto_region 9 with fail
          obtain ⟨w7, hw7⟩ : ∃ w7 : World, w7 = wi.alloc (.cells #[.string xn, .int .i64 xg, .int .i64 xs, .int .i64 xf, .int .i64 xd, .bool xb, .slice ro xl.length rcap] 46) := ⟨_, rfl⟩
          have x0 : w7.cell? ⟨wi.heap.size, 0, none⟩ = some (.string xn) := by rw [hw7]; simp [go_sem]
          have hl7 : wi.heap.size < w7.heap.size := by rw [hw7]; simp
          rw [← hw7] at HOX HTX HBX ⊢
          clear hw7 d0 d1 d2 d3 d4 d5 d6 u0
          have u0 := HTX.out.cell (i := 0) rfl
          have hut := HTX.out.lt
          have hA2 := (Below.refl w7.heap.size w7).alloc (Nat.le_refl _) (.cells #[.int .i64 un, .string xn] 38)
          have HOY := Lib.hid (HOX.out.below hA2)
          have HTY := Lib.hid (HTX.out.below hA2)
          have hz7 : w1.heap.size ≤ w7.heap.size := by have := HBX.out.size; have := HW6.out.size; omega
          have HBY := Lib.hid (HBX.out.trans (hA2.mono hz7))
          have hz8 : w1.heap.size ≤ (w7.alloc (.cells #[.int .i64 un, .string xn] 38)).heap.size := by simp; omega
          clear hA2 HOX HTX HBX
          go_wp2_with (first | (at_builtin; refine wpList_ownK rfl _ _ rfl w1.heap.size 1 _ _ ⟨un, xn⟩ ⟨w7.heap.size, 0, none⟩ rfl rfl HOY.out (ownK_new w7 ⟨un, xn⟩ _) hln hz8 ?_) | fail)
          intro v10 w10 hown hgrow
          have HTZ := Lib.hid (HTY.out.grownK HOY.out hgrow (by decide))
          have HBZ := Lib.hid (HOY.out.keeps HBY.out hgrow (Nat.le_refl _) hz8)
          have HOZ := Lib.hid (show OwnK w1.heap.size w10 v10 (S0 ++ (pl.take (n + 1)).map (fun q => (⟨un, q.name⟩ : KeyR))) by rw [HPT.out]; first | exact hown | (rw [← List.append_assoc]; exact hown))
          clear hown hgrow HOY HTY HBY u0 x0
          go_wp2_with fail
          go_roundw
          case rel => exact ⟨n + 1, _, by omega, by first | rfl | go_num, rfl, HBZ, HTZ, HOZ⟩
          case measure => simp [intOf]; omega
        · have hnn : n = pl.length := by omega
          subst hnn
          have HOF := Lib.hid (show OwnK w1.heap.size wi qv (keysL lib (units.take (j + 1))) by rw [HS1.out, HK1.out, HK2.out]; have h := HOI.out; rwa [List.take_length] at h)
          have HBF := Lib.hid (show RBox w _ _ wi from Below.trans HR6.out (HBI.out.mono hw1))
          have HWF := Lib.hid (HW6.out.trans HBI.out)
          clear HOI HBI HTI
          go_wp2_with fail
          go_roundw
          case rel => exact ⟨j + 1, _, by omega, by first | rfl | go_num, rfl, HBF, HWF, HOF⟩
          case measure => simp [intOf]; omega
    · have hjj : j = units.length := by omega
      subst hjj
      rw [List.take_length] at HOO
      obtain ⟨oo, ocap, rfl⟩ := HOO.out.shape
      have HKS := Lib.hid HOO.out.keyS'
      have HBF := Lib.hid HBO.out.bel
      clear HOO HBO HWO
      go_wp2_with fail
      exact bodyPost_ret (v := .slice oo (keysL lib units).length ocap) (by simp [results, Tryd.results42, go_sem]) rfl ⟨_, rfl, HKS.out, HBF.out⟩
set_option maxRecDepth 100000 in
set_option maxHeartbeats 4000000 in
theorem rkeys_any (x : Rig) (lv uv : Value) (w : World) (h : RigAt w.heap.size w x lv uv) (hf : RigFit x) :
    Calls Tryd.prog 14 #[rigV lv uv] w fun e w' => ∃ kv, e = .returned (.tuple #[kv, .int .i64 (chkRig x)]) ∧ KeyRS w'.heap.size w' kv (keysV x) ∧ Below w.heap.size w w' := by
  have CC := Lib.hid (fun W (hb : Below w.heap.size w W) => rckRig_any x lv uv W ((h.below hb).more hb.size) hf)
  have CK := Lib.hid (fun (hE : chkRig x = 0) W (hb : Below w.heap.size w W) => rkeysOf_any x lv uv W ((h.below hb).more hb.size) hE)
  obtain ⟨lo, lcap, uo, ucap, rfl, rfl⟩ := rig_shape h
  unfold rigV at *
  have HB0 := Lib.hid (RBox.start w (.slice lo x.lib.length lcap) (.slice uo x.units.length ucap))
  have C1 := Lib.hid (CC.out _ HB0.out.bel)
  clear CC h hf
  go_enter Tryd.func14, Tryd.ntmps14
  go_wp2_with fail
  refine C1.out.mono ?_
  rintro e w1 ⟨rfl, hb⟩
  have HB1 := Lib.hid (HB0.out.next hb)
  clear hb C1 HB0
  have p0 := HB1.out.par.cell (i := 0) rfl
  have p1 := HB1.out.par.cell (i := 1) rfl
  have hp0 := HB1.out.par.lt
  by_cases hE : chkRig x = 0
  rotate_left
  · have HV := Lib.hid (keysV_bad hE)
    have HBB := Lib.hid HB1.out.bel
    generalize hEV : chkRig x = E at *
    go_wp2_with fail
    exact bodyPost_ret (v := .tuple #[.slice none 0 0, .int .i64 E]) (by simp [results, Tryd.results14, go_sem]) rfl ⟨.slice none 0 0, by rw [hEV], by rw [HV.out]; exact CellsS.nil _ _, HBB.out⟩
  have HVV := Lib.hid (keysV_ok hE)
  have C2 := Lib.hid (CK.out hE _ HB1.out.bel)
  rw [hE]
  clear CK
  go_wp2_with fail
  refine C2.out.mono ?_
  rintro e w2 ⟨kv, rfl, hk, hb⟩
  obtain ⟨ao, kcap, rfl, _⟩ := CellsS.shape hk
  have HK := Lib.hid hk
  have HBB := Lib.hid (HB1.out.next hb).bel
  clear hk hb C2 HB1 p0 p1 hp0
  go_wp2_with fail
  exact bodyPost_ret (v := .tuple #[.slice ao (keysL x.lib x.units).length kcap, .int .i64 0]) (by simp [results, Tryd.results14, go_sem]) rfl ⟨_, by rw [hE], by rw [HVV.out]; exact HK.out, HBB.out⟩
end Go.Proofs.YtabalicembhjmaaDoor
