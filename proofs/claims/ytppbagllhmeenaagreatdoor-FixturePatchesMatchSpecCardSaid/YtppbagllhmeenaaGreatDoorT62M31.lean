/- fixture.copied: the deep copy of a rig. (printed by wip/gen/gen_copiedrig.py) -/
import Derived.Test.YtppbagllhmeenaaGreatDoorT62M25
import Derived.Test.YtppbagllhmeenaaGreatDoorT62M30

namespace Go.Proofs.YtppbagllhmeenaaGreatDoor
open Go.RowKit
set_option linter.unusedVariables false
set_option linter.unusedSimpArgs false

theorem rowC_of {B : Nat} {w : World} {v : Value} {n : Nat} {xs : List Value} (h : CellsS B w v n xs) : RowC B w v n xs := by
  obtain ⟨ao, cap, rfl, h1, h2, h3⟩ := h
  exact ⟨ao, cap, rfl, h3⟩
theorem rngC_len (l : List Rng) : (l.flatMap rngC).length = l.length * 3 := flat_len rngC 3 (fun _ => rfl) l
theorem one_rngC (l : List Rng) : ∀ u ∈ l.flatMap rngC, u.oneCell' = true := by
  intro u hu
  obtain ⟨y, _, hy⟩ := List.mem_flatMap.1 hu
  simp [rngC] at hy
  rcases hy with rfl | rfl | rfl <;> rfl
theorem one_untC' (l : List Unt) : ∀ u ∈ l.flatMap untC, u.oneCell' = true := by
  intro u hu
  obtain ⟨y, _, hy⟩ := List.mem_flatMap.1 hu
  simp [untC] at hy
  rcases hy with rfl | rfl | rfl | rfl <;> rfl
theorem chkRngs_len {l : List Rng} (h : chkRngs l = 0) : l.length ≤ 30 := by
  unfold chkRngs at h
  by_cases c : 30 < l.length
  · rw [if_pos c] at h; cases h
  · omega
theorem lib_sizes {lib : List Prf} (h : chkLib lib = 0) : lib.length ≤ 60 ∧ ∀ p ∈ lib, p.pars.length ≤ 40 ∧ ∀ q ∈ p.pars, q.rngs.length ≤ 30 := by
  refine ⟨(chkLib_zero h).1, fun p hp => ?_⟩
  obtain ⟨_, _, _, h4, h5⟩ := chkPrf_zero (chkLib_prf h hp)
  refine ⟨h4, fun q hq => ?_⟩
  obtain ⟨k, hk, rfl⟩ := List.getElem_of_mem hq
  obtain ⟨_, _, _, _, _, h6⟩ := parF_zero (scanF_zero _ _ h5 k hk)
  exact chkRngs_len h6
theorem par_take (l : List Par) (k : Nat) (h : k < l.length) : l.take (k + 1) = l.take k ++ [l[k]] := List.take_succ_eq_append_getElem h
theorem prf_take (l : List Prf) (k : Nat) (h : k < l.length) : l.take (k + 1) = l.take k ++ [l[k]] := List.take_succ_eq_append_getElem h
set_option maxRecDepth 100000 in
set_option maxHeartbeats 16000000 in
theorem copied_any (x : Rig) (lv uv : Value) (w : World) (h : RigAt w.heap.size w x lv uv) (hs : (x.lib.length ≤ 60 ∧ ∀ p ∈ x.lib, p.pars.length ≤ 40 ∧ ∀ q ∈ p.pars, q.rngs.length ≤ 30) ∧ x.units.length ≤ 1000) :
    Calls Tryz.prog 24 #[rigV lv uv] w fun e w' => ∃ lv' uv', e = .returned (rigV lv' uv') ∧ OwnL w.heap.size w' lv' x.lib ∧ OwnU w.heap.size w' uv' x.units ∧ Below w.heap.size w w' := by
  have HGL := Lib.hid (PrfS.get h.lib)
  have CU := Lib.hid (fun W (hb : Below w.heap.size w W) => units_clone w.heap.size uv x.units.length (x.units.flatMap untC) W hb.size hs.2 (flat_len untC 4 (fun _ => rfl) _) (one_untC' _) (rowC_of (h.units.below hb)))
  have HSZ := Lib.hid hs.1.2
  have hlib := hs.1.1
  have CR := Lib.hid (fun (B : Nat) (rv : Value) (l : List Rng) W (hB : B ≤ W.heap.size) (hl : l.length ≤ 30) (hr : RngS B W rv l) => ranges_clone B rv l.length (l.flatMap rngC) W hB (by omega) (rngC_len l) (one_rngC l) (rowC_of hr))
  obtain ⟨uo, ucap, rfl, _⟩ := CellsS.shape h.units
  obtain ⟨lo, lcap, rfl⟩ := prfS_shape h.lib
  obtain ⟨lib, units⟩ := x
  simp only [rigV] at *
  clear h hs
  have HT := Lib.hid (fun (j : Nat) (h : j < lib.length) => prf_take lib j h)
  have KC := Lib.hid (show ∀ W, Below (w.heap.size + 2) ((w.alloc (.cells #[.slice lo lib.length lcap, .slice uo units.length ucap] 25)).alloc (.cells #[.slice none 0 0, .slice none 0 0] 25)) W → (Below w.heap.size w W ∧ w.heap.size + 1 < W.heap.size ∧ W.cell? ⟨w.heap.size, 0, none⟩ = some (.slice lo lib.length lcap) ∧ W.cell? ⟨w.heap.size, 1, none⟩ = some (.slice uo units.length ucap) ∧ TBox W (w.heap.size + 1) 25 #[.slice none 0 0, .slice none 0 0]) from fun W hW => by
    have hz := hW.size
    simp at hz
    refine ⟨(((Below.refl _ _).alloc (Nat.le_refl _) _).alloc (by simp) _).trans (hW.mono (by omega)), by omega, (hW.cell (p := ⟨w.heap.size, 0, none⟩) (by simp)).trans (by simp [go_sem, World.cell?_alloc_past]), (hW.cell (p := ⟨w.heap.size, 1, none⟩) (by simp)).trans (by simp [go_sem, World.cell?_alloc_past]), ?_⟩
    have := TBox.new (w.alloc (.cells #[.slice lo lib.length lcap, .slice uo units.length ucap] 25)) #[.slice none 0 0, .slice none 0 0] 25
    simp only [World.size_alloc] at this
    exact (hW.block (w.heap.size + 1) (by omega)).trans this)
  have KM := Lib.hid (show ∀ W W1, Below (w.heap.size + 2) ((w.alloc (.cells #[.slice lo lib.length lcap, .slice uo units.length ucap] 25)).alloc (.cells #[.slice none 0 0, .slice none 0 0] 25)) W → Below W.heap.size W W1 → Below (w.heap.size + 2) ((w.alloc (.cells #[.slice lo lib.length lcap, .slice uo units.length ucap] 25)).alloc (.cells #[.slice none 0 0, .slice none 0 0] 25)) W1 from fun W W1 h1 h2 => h1.trans (h2.mono (by have := h1.size; simp at this; omega)))
  have HK0 := Lib.hid (Below.refl (w.heap.size + 2) ((w.alloc (.cells #[.slice lo lib.length lcap, .slice uo units.length ucap] 25)).alloc (.cells #[.slice none 0 0, .slice none 0 0] 25)))
  have CU1 := Lib.hid (CU.out _ (KC.out _ HK0.out).1)
  clear CU
  go_enter Tryz.func24, Tryz.ntmps24
  go_wp2_with fail
  refine CU1.out.mono ?_
  rintro e w2 ⟨v2, rfl, hown2, hb2⟩
  have HB2 := Lib.hid (KM.out _ _ HK0.out hb2)
  obtain ⟨uo', ucap', hsh⟩ := own_shape2 hown2
  subst hsh
  have HU2 := Lib.hid (show OwnU (w.heap.size + 2) w2 (.slice uo' units.length ucap') units from own_base hown2 (by simp))
  obtain ⟨hB2, hz2, p0, p1, _⟩ := KC.out _ HB2.out
  clear hb2 hown2 CU1
  have HB3 := Lib.hid (HB2.out.alloc (by omega) (.cells #[.slice none 0 0, .slice uo' units.length ucap'] 25))
  have HT3 := Lib.hid (TBox.new w2 #[.slice none 0 0, .slice uo' units.length ucap'] 25)
  have HU3 := Lib.hid (HU2.out.below ((Below.refl _ _).alloc (Nat.le_refl _) (.cells #[.slice none 0 0, .slice uo' units.length ucap'] 25)))
  have hob : w.heap.size + 2 ≤ w2.heap.size := by omega
  go_upto_region 2 with fail
  clear HB2 HU2 p0 p1 hB2 hz2
  generalize hW3 : w2.alloc (.cells #[.slice none 0 0, .slice uo' units.length ucap'] 25) = w3 at *
  clear hW3
  generalize w2.heap.size = ob at *
  obtain ⟨hB3, hz3, p0, p1, _⟩ := KC.out _ HB3.out
  go_wp2_with fail
  clear p0 p1
  go_loopw [16] (fun i wx => ∃ (j : Nat) (ov : Value), j ≤ lib.length ∧ i = .int .i64 j ∧ Hid (Below (w.heap.size + 2) ((w.alloc (.cells #[.slice lo lib.length lcap, .slice uo units.length ucap] 25)).alloc (.cells #[.slice none 0 0, .slice none 0 0] 25)) wx) ∧ Hid (TBox wx ob 25 #[ov, .slice uo' units.length ucap']) ∧ Hid (OwnL (w.heap.size + 2) wx ov (lib.take j)) ∧ Hid (OwnU (w.heap.size + 2) wx (.slice uo' units.length ucap') units)) (fun i _ => lib.length - (intOf i).toNat)
  case atStart => exact ⟨0, _, Nat.zero_le _, rfl, HB3, HT3, Lib.hid (by rw [List.take_zero]; exact OwnL.nil _ _), HU3⟩
  case round =>
    clear HB3 HT3 HU3 hB3 hz3
    obtain ⟨wo, rfl⟩ : ∃ wo : World, wo = wr := ⟨_, rfl⟩
    obtain ⟨j, ov, hj, rfl, HBO, HTO, HLO, HUO⟩ := hrel
    obtain ⟨hB, hz, p0, p1, _⟩ := KC.out wo HBO.out
    by_cases hlt : j < lib.length
    · obtain ⟨b, off, cap', hsl, hb, _, hc⟩ := HGL.out (by omega)
      injection hsl with hs1 hs2 hs3
      subst hs1 hs3
      obtain ⟨pv, hpv, hcc⟩ := hc j hlt
      obtain ⟨d0, d1, d2⟩ := hcc wo hB
      have hbr : b < wo.heap.size := by omega
      obtain ⟨hp40, hq30⟩ := HSZ.out _ (List.getElem_mem hlt)
      have HQ := Lib.hid hq30
      have HTK := Lib.hid (HT.out j hlt)
      obtain ⟨po, pcap, rfl⟩ := parS_shape hpv
      have HPS := Lib.hid (ParS.get hpv)
      clear hc hcc hpv hq30
      generalize hrk : lib[j] = rk at *
      clear hrk
      obtain ⟨pn, pz, pl⟩ := rk
      simp only at *
      have hBo := hB
      have HB := Lib.hid hB
      clear hB p0 p1
      go_upto_region 7 with fail
      clear d0 d1 d2
      have HB5 := Lib.hid (show Below wo.heap.size wo ((wo.alloc (.cells #[.string pn, .int .i64 pz, .slice po pl.length pcap] 70)).alloc (.cells #[.string pn, .int .i64 pz, .slice none 0 0] 70)) from ((Below.refl _ _).alloc (Nat.le_refl _) _).alloc (by simp) _)
      have HT5 := Lib.hid (show TBox ((wo.alloc (.cells #[.string pn, .int .i64 pz, .slice po pl.length pcap] 70)).alloc (.cells #[.string pn, .int .i64 pz, .slice none 0 0] 70)) (wo.heap.size + 1) 70 #[.string pn, .int .i64 pz, .slice none 0 0] by
        have := TBox.new (wo.alloc (.cells #[.string pn, .int .i64 pz, .slice po pl.length pcap] 70)) #[.string pn, .int .i64 pz, .slice none 0 0] 70
        simpa only [World.size_alloc] using this)
      go_wp2_with fail
      generalize hW5 : ((wo.alloc (.cells #[.string pn, .int .i64 pz, .slice po pl.length pcap] 70)).alloc (.cells #[.string pn, .int .i64 pz, .slice none 0 0] 70)) = w5 at *
      clear hW5
      go_loopw [25] (fun i wx => ∃ (k : Nat) (qv : Value), k ≤ pl.length ∧ i = .int .i64 k ∧ Hid (Below wo.heap.size wo wx) ∧ Hid (TBox wx (wo.heap.size + 1) 70 #[.string pn, .int .i64 pz, qv]) ∧ Hid (OwnP wo.heap.size wx qv (pl.take k))) (fun i _ => pl.length - (intOf i).toNat)
      case atStart => exact ⟨0, _, Nat.zero_le _, rfl, HB5, HT5, Lib.hid (by rw [List.take_zero]; exact OwnP.nil _ _)⟩
      case round =>
        clear HB5 HT5
        obtain ⟨wi, rfl⟩ : ∃ wi : World, wi = wr := ⟨_, rfl⟩
        obtain ⟨k, qv, hk, rfl, HBI, HTI, HPI⟩ := hrel
        have hzi := HBI.out.size
        have hqb := HTI.out.lt
        have hBi : Below w.heap.size w wi := HB.out.trans (HBI.out.mono (by have := HB.out.size; omega))
        by_cases hkl : k < pl.length
        · obtain ⟨b2, off2, cap2, hsl, hb2, _, hc⟩ := HPS.out (by omega)
          injection hsl with hs1 hs2 hs3
          subst hs1 hs3
          obtain ⟨rv, hrv, hcc⟩ := hc k hkl
          obtain ⟨d0, d1, d2, d3, d4, d5, d6⟩ := hcc wi hBi
          have hbr2 : b2 < wi.heap.size := by omega
          have hr30 := HQ.out _ (List.getElem_mem hkl)
          have HPT := Lib.hid (par_take pl k hkl)
          have CR1 := Lib.hid (fun W (hb : Below w.heap.size w W) => CR.out w.heap.size rv pl[k].rngs W hb.size hr30 (hrv.below hb))
          obtain ⟨ro, rcap, rfl, _⟩ := CellsS.shape hrv
          clear hc hcc hrv
          generalize hrk : pl[k] = rk at *
          clear hrk
          obtain ⟨xn, xg, xs, xf, xd, xb, xl⟩ := rk
          simp only at *
          have HBX := Lib.hid (hBi.alloc hBi.size (.cells #[.string xn, .int .i64 xg, .int .i64 xs, .int .i64 xf, .int .i64 xd, .bool xb, .slice ro xl.length rcap] 73))
          have CR2 := Lib.hid (CR1.out _ HBX.out)
          have HTX := Lib.hid (TBox.new wi #[.string xn, .int .i64 xg, .int .i64 xs, .int .i64 xf, .int .i64 xd, .bool xb, .slice ro xl.length rcap] 73)
          have HBW := Lib.hid (Below.refl wi.heap.size wi |>.alloc (Nat.le_refl _) (.cells #[.string xn, .int .i64 xg, .int .i64 xs, .int .i64 xf, .int .i64 xd, .bool xb, .slice ro xl.length rcap] 73))
          clear hBi CR1 HBX
          go_wp2_with fail
          refine CR2.out.mono ?_
          rintro e w7 ⟨v7, rfl, hown7, hb7⟩
          obtain ⟨ro', rcap', hsh⟩ := own_shape2 hown7
          subst hsh
          have HR7 := Lib.hid (show OwnR wi.heap.size w7 (.slice ro' xl.length rcap') xl from own_base hown7 (by simp))
          have HT7 := Lib.hid (HTX.out.below hb7)
          have HB7 := Lib.hid (HBW.out.trans (hb7.mono (by simp)))
          clear hown7 hb7 CR2 HTX HBW d0 d1 d2 d3 d4 d5 d6
          have HT8 := Lib.hid (HT7.out.set 6 (.slice ro' xl.length rcap'))
          simp only [List.setIfInBounds_toArray, List.set_cons_succ, List.set_cons_zero] at HT8
          have HB8 := Lib.hid (HB7.out.setCell (p := ⟨wi.heap.size, 6, none⟩) (Nat.le_refl _) (.slice ro' xl.length rcap'))
          have HR8 := Lib.hid (HR7.out.other (Other.box HT7.out (i := 6) (.slice ro' xl.length rcap')) (by decide))
          have c6 := HT7.out.cell (i := 6) rfl
          have f6 := HT7.out.frozen 6
          have l6 := HT7.out.lt
          go_upto_region 11 with fail
          generalize hW8 : w7.setCell ⟨wi.heap.size, 6, none⟩ (.slice ro' xl.length rcap') = w8 at *
          clear hW8 HT7 HB7 HR7 c6 f6 l6
          have x0 := HT8.out.cell (i := 0) rfl
          have x1 := HT8.out.cell (i := 1) rfl
          have x2 := HT8.out.cell (i := 2) rfl
          have x3 := HT8.out.cell (i := 3) rfl
          have x4 := HT8.out.cell (i := 4) rfl
          have x5 := HT8.out.cell (i := 5) rfl
          have x6 := HT8.out.cell (i := 6) rfl
          have HTQ := Lib.hid (HTI.out.below HB8.out)
          have y2 := HTQ.out.cell (i := 2) rfl
          have hx8 := HT8.out.lt
          have hq8 := HTQ.out.lt
          have HP8 := Lib.hid (HPI.out.below HB8.out)
          have HBO8 := Lib.hid (HBI.out.trans (HB8.out.mono hzi))
          have HA9 := Lib.hid ((Below.refl w8.heap.size w8).alloc (Nat.le_refl _) (.cells #[.string xn, .int .i64 xg, .int .i64 xs, .int .i64 xf, .int .i64 xd, .bool xb, .slice ro' xl.length rcap'] 73))
          have HP9 := Lib.hid (HP8.out.below HA9.out)
          have HR9 := Lib.hid ((HR8.out.below HA9.out).less hzi)
          have HTQ9 := Lib.hid (HTQ.out.below HA9.out)
          have HBO9 := Lib.hid (HBO8.out.trans (HA9.out.mono (by omega)))
          have hlk : (pl.take k).length = k := by rw [List.length_take]; omega
          have hln : (pl.take k).length ≤ 100000 := by omega
          have hz9 : wo.heap.size ≤ (w8.alloc (.cells #[.string xn, .int .i64 xg, .int .i64 xs, .int .i64 xf, .int .i64 xd, .bool xb, .slice ro' xl.length rcap'] 73)).heap.size := by simp; omega
          obtain ⟨qo, qcap, hsh⟩ := HP8.out.shape
          rw [hlk] at hsh
          subst hsh
          go_wp2_with (first | (at_builtin; refine wpList_ownP rfl _ _ rfl wo.heap.size 1 _ _ (⟨xn, xg, xs, xf, xd, xb, xl⟩, .slice ro' xl.length rcap') ⟨w8.heap.size, 0, none⟩ rfl rfl HP9.out HR9.out (ownP_new w8 (⟨xn, xg, xs, xf, xd, xb, xl⟩, .slice ro' xl.length rcap') _) hln hz9 ?_) | fail)
          intro v10 w10 hown hgrow hoth
          obtain ⟨vo, vcap, hsh⟩ := hown.shape
          rw [List.length_append, hlk, List.length_singleton] at hsh
          subst hsh
          have HTA := Lib.hid (hoth.tbox HTQ9.out (by decide))
          have HBA := Lib.hid (HBO9.out.grown hgrow (by simp; omega) (by
            obtain ⟨lv, _, g2, _⟩ := HP9.out
            intro g hg
            exact (World.ownsRow.lt g2 g hg).1))
          have HTB := Lib.hid (HTA.out.set 2 (.slice vo (k + 1) vcap))
          simp only [List.setIfInBounds_toArray, List.set_cons_succ, List.set_cons_zero] at HTB
          have HBB := Lib.hid (HBA.out.setCell (p := ⟨wo.heap.size + 1, 2, none⟩) (by simp) (.slice vo (k + 1) vcap))
          have HOB := Lib.hid (hown.other (Other.box HTA.out (i := 2) (.slice vo (k + 1) vcap)) (by decide) (by decide))
          have hq10 := HTA.out.lt
          have z2 := HTA.out.cell (i := 2) rfl
          have f2 := HTA.out.frozen 2
          clear hown hgrow hoth HP9 HP8 HR9 HR8 HTQ9 HBO9 HTA HBA x0 x1 x2 x3 x4 x5 x6 y2
          rw [← HPT.out] at HOB
          go_wp2_with fail
          go_roundw
          case rel => exact ⟨k + 1, _, by omega, by first | rfl | go_num, HBB, HTB, HOB⟩
          case measure => simp [intOf]; omega
        · have hkk : k = pl.length := by omega
          subst hkk
          have HPI' := Lib.hid (show OwnP wo.heap.size wi qv pl by have h := HPI.out; rwa [List.take_length] at h)
          obtain ⟨qo, qcap, rfl⟩ := HPI'.out.shape
          have HLI := Lib.hid (HLO.out.below HBI.out)
          have HUI := Lib.hid (HUO.out.below HBI.out)
          have HTOI := Lib.hid (HTO.out.below HBI.out)
          have hlj : (lib.take j).length = j := by rw [List.length_take]; omega
          obtain ⟨oo, ocap, hsh⟩ := HLI.out.shape
          rw [hlj] at hsh
          subst hsh
          have HBOI := Lib.hid (KM.out _ _ HBO.out HBI.out)
          have y0 := HTOI.out.cell (i := 0) rfl
          have q0 := HTI.out.cell (i := 0) rfl
          have q1 := HTI.out.cell (i := 1) rfl
          have q2 := HTI.out.cell (i := 2) rfl
          have hol := HTOI.out.lt
          have HA9 := Lib.hid ((Below.refl wi.heap.size wi).alloc (Nat.le_refl _) (.cells #[.string pn, .int .i64 pz, .slice qo pl.length qcap] 70))
          have HL9 := Lib.hid (HLI.out.below HA9.out)
          have HU9 := Lib.hid (HUI.out.below HA9.out)
          have HT9 := Lib.hid (HTOI.out.below HA9.out)
          have HP9 := Lib.hid ((HPI'.out.below HA9.out).less (show w.heap.size + 2 ≤ wo.heap.size by omega))
          have HB9 := Lib.hid (KM.out _ _ HBOI.out HA9.out)
          have hln : (lib.take j).length ≤ 100000 := by omega
          have hz9 : w.heap.size + 2 ≤ (wi.alloc (.cells #[.string pn, .int .i64 pz, .slice qo pl.length qcap] 70)).heap.size := by simp; omega
          clear HPI HLI HUI HTOI HBOI hBi
          go_wp2_with (first | (at_builtin; refine wpList_ownL rfl _ _ rfl (w.heap.size + 2) 1 _ _ (⟨pn, pz, pl⟩, .slice qo pl.length qcap) ⟨wi.heap.size, 0, none⟩ rfl rfl HL9.out HP9.out (ownL_new wi (⟨pn, pz, pl⟩, .slice qo pl.length qcap) _) hln hz9 ?_) | fail)
          intro v10 w10 hown hgrow hoth
          obtain ⟨vo, vcap, hsh⟩ := hown.shape
          rw [List.length_append, hlj, List.length_singleton] at hsh
          subst hsh
          have HTA := Lib.hid (hoth.tbox HT9.out (by decide))
          have HUA := Lib.hid (HU9.out.other hoth (by decide))
          have HBA := Lib.hid (HB9.out.grown hgrow (by have := (KC.out _ HB9.out).2.1; omega) (by
            obtain ⟨lv, _, g2, _⟩ := HL9.out
            intro g hg
            exact (World.ownsRow.lt g2 g hg).1))
          have HTB := Lib.hid (HTA.out.set 0 (.slice vo (j + 1) vcap))
          simp only [List.setIfInBounds_toArray, List.set_cons_succ, List.set_cons_zero] at HTB
          have HBB := Lib.hid (HBA.out.setCell (p := ⟨ob, 0, none⟩) hob (.slice vo (j + 1) vcap))
          have HLB := Lib.hid (hown.other (Other.box HTA.out (i := 0) (.slice vo (j + 1) vcap)) (by decide) (by decide) (by decide))
          have HUB := Lib.hid (HUA.out.other (Other.box HTA.out (i := 0) (.slice vo (j + 1) vcap)) (by decide))
          have ho10 := HTA.out.lt
          have z0 := HTA.out.cell (i := 0) rfl
          have f0 := HTA.out.frozen 0
          clear hown hgrow hoth HL9 HU9 HT9 HP9 HB9 HTA HUA HBA HPI' y0 q0 q1 q2 HA9 HBI HTI HLO HUO HTO HBO
          rw [← HTK.out] at HLB
          go_wp2_with fail
          go_roundw
          case rel => exact ⟨j + 1, _, by omega, by first | rfl | go_num, HBB, HTB, HLB, HUB⟩
          case measure => simp [intOf]; omega
    · have hjj : j = lib.length := by omega
      subst hjj
      rw [List.take_length] at HLO
      obtain ⟨oo, ocap, rfl⟩ := HLO.out.shape
      obtain ⟨_, _, _, _, HR⟩ := KC.out wo HBO.out
      have y0 := HTO.out.cell (i := 0) rfl
      have y1 := HTO.out.cell (i := 1) rfl
      have r0 := HR.cell (i := 0) rfl
      have r1 := HR.cell (i := 1) rfl
      have fr0 := HR.frozen 0
      have fr1 := HR.frozen 1
      have hr := HR.lt
      have hol := HTO.out.lt
      have hfin := Lib.hid (show OwnL w.heap.size ((wo.setCell ⟨w.heap.size + 1, 0, none⟩ (.slice oo lib.length ocap)).setCell ⟨w.heap.size + 1, 1, none⟩ (.slice uo' units.length ucap')) (.slice oo lib.length ocap) lib ∧ OwnU w.heap.size ((wo.setCell ⟨w.heap.size + 1, 0, none⟩ (.slice oo lib.length ocap)).setCell ⟨w.heap.size + 1, 1, none⟩ (.slice uo' units.length ucap')) (.slice uo' units.length ucap') units ∧ Below w.heap.size w ((wo.setCell ⟨w.heap.size + 1, 0, none⟩ (.slice oo lib.length ocap)).setCell ⟨w.heap.size + 1, 1, none⟩ (.slice uo' units.length ucap')) from by
        have k1 := Other.box HR (i := 0) (.slice oo lib.length ocap)
        have k2 := Other.box (HR.set 0 (.slice oo lib.length ocap)) (i := 1) (.slice uo' units.length ucap')
        refine ⟨((HLO.out.other k1 (by decide) (by decide) (by decide)).other k2 (by decide) (by decide) (by decide)).less (by omega), own_base ((HUO.out.other k1 (by decide)).other k2 (by decide)) (by omega), (hB.setCell (p := ⟨w.heap.size + 1, 0, none⟩) (by simp) _).setCell (p := ⟨w.heap.size + 1, 1, none⟩) (by simp) _⟩)
      clear HLO HUO HTO HBO HR hB
      go_wp2_with fail
      exact bodyPost_ret (v := .agg #[.slice oo lib.length ocap, .slice uo' units.length ucap']) (by simp [results, Tryz.results24, go_sem, r0, r1]) rfl ⟨_, _, rfl, hfin.out.1, hfin.out.2.1, hfin.out.2.2⟩
end Go.Proofs.YtppbagllhmeenaaGreatDoor
