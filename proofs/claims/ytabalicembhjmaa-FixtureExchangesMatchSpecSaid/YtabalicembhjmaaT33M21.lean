/- fixture.copied: the deep copy of a rig. (printed by wip/gen/gen_copiedrig.py) slices.Insert and slices.Delete at own rows of units (walks after the kit's of int and string rows). -/
import Derived.Test.YtabalicembhjmaaT33M20
import Derived.Test.YtabalicembhjmaaT33M10
import Derived.Test.YtabalicembhjmaaT33M15
import Derived.Shelf.Spec.SlicesInsert

namespace Go.Proofs.Ytabalicembhjmaa
open Go.RowKit
set_option linter.unusedVariables false
set_option linter.unusedSimpArgs false

theorem rowC_of {B : Nat} {w : World} {v : Value} {n : Nat} {xs : List Value} (h : CellsS B w v n xs) : RowC B w v n xs := by
  obtain ⟨ao, cap, rfl, h1, h2, h3⟩ := h
  exact ⟨ao, cap, rfl, h3⟩
theorem rngC_len (l : List Rng) : (l.flatMap rngC).length = l.length * 3 := flat_len rngC 3 (fun _ => rfl) l
theorem one_rngC (l : List Rng) : ∀ u ∈ l.flatMap rngC, u.oneCell' = true := by
  intro u hu
  obtain ⟨y, _, hy⟩ := List.mem_flatMap.1 hu
  simp [rngC] at hy
  rcases hy with rfl | rfl | rfl <;> rfl
theorem one_untC' (l : List Unt) : ∀ u ∈ l.flatMap untC, u.oneCell' = true := by
  intro u hu
  obtain ⟨y, _, hy⟩ := List.mem_flatMap.1 hu
  simp [untC] at hy
  rcases hy with rfl | rfl | rfl | rfl <;> rfl
theorem chkRngs_len {l : List Rng} (h : chkRngs l = 0) : l.length ≤ 30 := by
  unfold chkRngs at h
  by_cases c : 30 < l.length
  · rw [if_pos c] at h; cases h
  · omega
theorem lib_sizes {lib : List Prf} (h : chkLib lib = 0) : lib.length ≤ 60 ∧ ∀ p ∈ lib, p.pars.length ≤ 40 ∧ ∀ q ∈ p.pars, q.rngs.length ≤ 30 := by
  refine ⟨(chkLib_zero h).1, fun p hp => ?_⟩
  obtain ⟨_, _, _, h4, h5⟩ := chkPrf_zero (chkLib_prf h hp)
  refine ⟨h4, fun q hq => ?_⟩
  obtain ⟨k, hk, rfl⟩ := List.getElem_of_mem hq
  obtain ⟨_, _, _, _, _, h6⟩ := parF_zero (scanF_zero _ _ h5 k hk)
  exact chkRngs_len h6
theorem par_take (l : List Par) (k : Nat) (h : k < l.length) : l.take (k + 1) = l.take k ++ [l[k]] := List.take_succ_eq_append_getElem h
theorem prf_take (l : List Prf) (k : Nat) (h : k < l.length) : l.take (k + 1) = l.take k ++ [l[k]] := List.take_succ_eq_append_getElem h
set_option maxRecDepth 100000 in
set_option maxHeartbeats 16000000 in
theorem copied_any (x : Rig) (lv uv : Value) (w : World) (h : RigAt w.heap.size w x lv uv) (hs : (x.lib.length ≤ 60 ∧ ∀ p ∈ x.lib, p.pars.length ≤ 40 ∧ ∀ q ∈ p.pars, q.rngs.length ≤ 30) ∧ x.units.length ≤ 1000) :
    Calls Try.prog 48 #[rigV lv uv] w fun e w' => ∃ lv' uv', e = .returned (rigV lv' uv') ∧ OwnL w.heap.size w' lv' x.lib ∧ OwnU w.heap.size w' uv' x.units ∧ Below w.heap.size w w' := by
  have HGL := Lib.hid (PrfS.get h.lib)
  have CU := Lib.hid (fun W (hb : Below w.heap.size w W) => units_clone w.heap.size uv x.units.length (x.units.flatMap untC) W hb.size hs.2 (flat_len untC 4 (fun _ => rfl) _) (one_untC' _) (rowC_of (h.units.below hb)))
  have HSZ := Lib.hid hs.1.2
  have hlib := hs.1.1
  have CR := Lib.hid (fun (B : Nat) (rv : Value) (l : List Rng) W (hB : B ≤ W.heap.size) (hl : l.length ≤ 30) (hr : RngS B W rv l) => ranges_clone B rv l.length (l.flatMap rngC) W hB (by omega) (rngC_len l) (one_rngC l) (rowC_of hr))
  obtain ⟨uo, ucap, rfl, _⟩ := CellsS.shape h.units
  obtain ⟨lo, lcap, rfl⟩ := prfS_shape h.lib
  obtain ⟨lib, units⟩ := x
  simp only [rigV] at *
  clear h hs
  have HT := Lib.hid (fun (j : Nat) (h : j < lib.length) => prf_take lib j h)
  have KC := Lib.hid (show ∀ W, Below (w.heap.size + 2) ((w.alloc (.cells #[.slice lo lib.length lcap, .slice uo units.length ucap] 25)).alloc (.cells #[.slice none 0 0, .slice none 0 0] 25)) W → (Below w.heap.size w W ∧ w.heap.size + 1 < W.heap.size ∧ W.cell? ⟨w.heap.size, 0, none⟩ = some (.slice lo lib.length lcap) ∧ W.cell? ⟨w.heap.size, 1, none⟩ = some (.slice uo units.length ucap) ∧ TBox W (w.heap.size + 1) 25 #[.slice none 0 0, .slice none 0 0]) from fun W hW => by
    have hz := hW.size
    simp at hz
    refine ⟨(((Below.refl _ _).alloc (Nat.le_refl _) _).alloc (by simp) _).trans (hW.mono (by omega)), by omega, (hW.cell (p := ⟨w.heap.size, 0, none⟩) (by simp)).trans (by simp [go_sem, World.cell?_alloc_past]), (hW.cell (p := ⟨w.heap.size, 1, none⟩) (by simp)).trans (by simp [go_sem, World.cell?_alloc_past]), ?_⟩
    have := TBox.new (w.alloc (.cells #[.slice lo lib.length lcap, .slice uo units.length ucap] 25)) #[.slice none 0 0, .slice none 0 0] 25
    simp only [World.size_alloc] at this
    exact (hW.block (w.heap.size + 1) (by omega)).trans this)
  have KM := Lib.hid (show ∀ W W1, Below (w.heap.size + 2) ((w.alloc (.cells #[.slice lo lib.length lcap, .slice uo units.length ucap] 25)).alloc (.cells #[.slice none 0 0, .slice none 0 0] 25)) W → Below W.heap.size W W1 → Below (w.heap.size + 2) ((w.alloc (.cells #[.slice lo lib.length lcap, .slice uo units.length ucap] 25)).alloc (.cells #[.slice none 0 0, .slice none 0 0] 25)) W1 from fun W W1 h1 h2 => h1.trans (h2.mono (by have := h1.size; simp at this; omega)))
  have HK0 := Lib.hid (Below.refl (w.heap.size + 2) ((w.alloc (.cells #[.slice lo lib.length lcap, .slice uo units.length ucap] 25)).alloc (.cells #[.slice none 0 0, .slice none 0 0] 25)))
  have CU1 := Lib.hid (CU.out _ (KC.out _ HK0.out).1)
  clear CU
  go_enter Try.func48, Try.ntmps48
  go_wp2_with fail
  refine CU1.out.mono ?_
  rintro e w2 ⟨v2, rfl, hown2, hb2⟩
  have HB2 := Lib.hid (KM.out _ _ HK0.out hb2)
  obtain ⟨uo', ucap', hsh⟩ := own_shape2 hown2
  subst hsh
  have HU2 := Lib.hid (show OwnU (w.heap.size + 2) w2 (.slice uo' units.length ucap') units from own_base hown2 (by simp))
  obtain ⟨hB2, hz2, p0, p1, _⟩ := KC.out _ HB2.out
  clear hb2 hown2 CU1
  have HB3 := Lib.hid (HB2.out.alloc (by omega) (.cells #[.slice none 0 0, .slice uo' units.length ucap'] 25))
  have HT3 := Lib.hid (TBox.new w2 #[.slice none 0 0, .slice uo' units.length ucap'] 25)
  have HU3 := Lib.hid (HU2.out.below ((Below.refl _ _).alloc (Nat.le_refl _) (.cells #[.slice none 0 0, .slice uo' units.length ucap'] 25)))
  have hob : w.heap.size + 2 ≤ w2.heap.size := by omega
  go_upto_region 2 with fail
  clear HB2 HU2 p0 p1 hB2 hz2
  generalize hW3 : w2.alloc (.cells #[.slice none 0 0, .slice uo' units.length ucap'] 25) = w3 at *
  clear hW3
  generalize w2.heap.size = ob at *
  obtain ⟨hB3, hz3, p0, p1, _⟩ := KC.out _ HB3.out
  go_wp2_with fail
  clear p0 p1
  go_loopw [16] (fun i wx => ∃ (j : Nat) (ov : Value), j ≤ lib.length ∧ i = .int .i64 j ∧ Hid (Below (w.heap.size + 2) ((w.alloc (.cells #[.slice lo lib.length lcap, .slice uo units.length ucap] 25)).alloc (.cells #[.slice none 0 0, .slice none 0 0] 25)) wx) ∧ Hid (TBox wx ob 25 #[ov, .slice uo' units.length ucap']) ∧ Hid (OwnL (w.heap.size + 2) wx ov (lib.take j)) ∧ Hid (OwnU (w.heap.size + 2) wx (.slice uo' units.length ucap') units)) (fun i _ => lib.length - (intOf i).toNat)
  case atStart => exact ⟨0, _, Nat.zero_le _, rfl, HB3, HT3, Lib.hid (by rw [List.take_zero]; exact OwnL.nil _ _), HU3⟩
  case round =>
    clear HB3 HT3 HU3 hB3 hz3
    obtain ⟨wo, rfl⟩ : ∃ wo : World, wo = wr := ⟨_, rfl⟩
    obtain ⟨j, ov, hj, rfl, HBO, HTO, HLO, HUO⟩ := hrel
    obtain ⟨hB, hz, p0, p1, _⟩ := KC.out wo HBO.out
    by_cases hlt : j < lib.length
    · obtain ⟨b, off, cap', hsl, hb, _, hc⟩ := HGL.out (by omega)
      injection hsl with hs1 hs2 hs3
      subst hs1 hs3
      obtain ⟨pv, hpv, hcc⟩ := hc j hlt
      obtain ⟨d0, d1, d2⟩ := hcc wo hB
      have hbr : b < wo.heap.size := by omega
      obtain ⟨hp40, hq30⟩ := HSZ.out _ (List.getElem_mem hlt)
      have HQ := Lib.hid hq30
      have HTK := Lib.hid (HT.out j hlt)
      obtain ⟨po, pcap, rfl⟩ := parS_shape hpv
      have HPS := Lib.hid (ParS.get hpv)
      clear hc hcc hpv hq30
      generalize hrk : lib[j] = rk at *
      clear hrk
      obtain ⟨pn, pz, pl⟩ := rk
      simp only at *
      have hBo := hB
      have HB := Lib.hid hB
      clear hB p0 p1
      go_upto_region 7 with fail
      clear d0 d1 d2
      have HB5 := Lib.hid (show Below wo.heap.size wo ((wo.alloc (.cells #[.string pn, .int .i64 pz, .slice po pl.length pcap] 70)).alloc (.cells #[.string pn, .int .i64 pz, .slice none 0 0] 70)) from ((Below.refl _ _).alloc (Nat.le_refl _) _).alloc (by simp) _)
      have HT5 := Lib.hid (show TBox ((wo.alloc (.cells #[.string pn, .int .i64 pz, .slice po pl.length pcap] 70)).alloc (.cells #[.string pn, .int .i64 pz, .slice none 0 0] 70)) (wo.heap.size + 1) 70 #[.string pn, .int .i64 pz, .slice none 0 0] by
        have := TBox.new (wo.alloc (.cells #[.string pn, .int .i64 pz, .slice po pl.length pcap] 70)) #[.string pn, .int .i64 pz, .slice none 0 0] 70
        simpa only [World.size_alloc] using this)
      go_wp2_with fail
      generalize hW5 : ((wo.alloc (.cells #[.string pn, .int .i64 pz, .slice po pl.length pcap] 70)).alloc (.cells #[.string pn, .int .i64 pz, .slice none 0 0] 70)) = w5 at *
      clear hW5
      go_loopw [25] (fun i wx => ∃ (k : Nat) (qv : Value), k ≤ pl.length ∧ i = .int .i64 k ∧ Hid (Below wo.heap.size wo wx) ∧ Hid (TBox wx (wo.heap.size + 1) 70 #[.string pn, .int .i64 pz, qv]) ∧ Hid (OwnP wo.heap.size wx qv (pl.take k))) (fun i _ => pl.length - (intOf i).toNat)
      case atStart => exact ⟨0, _, Nat.zero_le _, rfl, HB5, HT5, Lib.hid (by rw [List.take_zero]; exact OwnP.nil _ _)⟩
      case round =>
        clear HB5 HT5
        obtain ⟨wi, rfl⟩ : ∃ wi : World, wi = wr := ⟨_, rfl⟩
        obtain ⟨k, qv, hk, rfl, HBI, HTI, HPI⟩ := hrel
        have hzi := HBI.out.size
        have hqb := HTI.out.lt
        have hBi : Below w.heap.size w wi := HB.out.trans (HBI.out.mono (by have := HB.out.size; omega))
        by_cases hkl : k < pl.length
        · obtain ⟨b2, off2, cap2, hsl, hb2, _, hc⟩ := HPS.out (by omega)
          injection hsl with hs1 hs2 hs3
          subst hs1 hs3
          obtain ⟨rv, hrv, hcc⟩ := hc k hkl
          obtain ⟨d0, d1, d2, d3, d4, d5, d6⟩ := hcc wi hBi
          have hbr2 : b2 < wi.heap.size := by omega
          have hr30 := HQ.out _ (List.getElem_mem hkl)
          have HPT := Lib.hid (par_take pl k hkl)
          have CR1 := Lib.hid (fun W (hb : Below w.heap.size w W) => CR.out w.heap.size rv pl[k].rngs W hb.size hr30 (hrv.below hb))
          obtain ⟨ro, rcap, rfl, _⟩ := CellsS.shape hrv
          clear hc hcc hrv
          generalize hrk : pl[k] = rk at *
          clear hrk
          obtain ⟨xn, xg, xs, xf, xd, xb, xl⟩ := rk
          simp only at *
          have HBX := Lib.hid (hBi.alloc hBi.size (.cells #[.string xn, .int .i64 xg, .int .i64 xs, .int .i64 xf, .int .i64 xd, .bool xb, .slice ro xl.length rcap] 42))
          have CR2 := Lib.hid (CR1.out _ HBX.out)
          have HTX := Lib.hid (TBox.new wi #[.string xn, .int .i64 xg, .int .i64 xs, .int .i64 xf, .int .i64 xd, .bool xb, .slice ro xl.length rcap] 42)
          have HBW := Lib.hid (Below.refl wi.heap.size wi |>.alloc (Nat.le_refl _) (.cells #[.string xn, .int .i64 xg, .int .i64 xs, .int .i64 xf, .int .i64 xd, .bool xb, .slice ro xl.length rcap] 42))
          clear hBi CR1 HBX
          go_wp2_with fail
          refine CR2.out.mono ?_
          rintro e w7 ⟨v7, rfl, hown7, hb7⟩
          obtain ⟨ro', rcap', hsh⟩ := own_shape2 hown7
          subst hsh
          have HR7 := Lib.hid (show OwnR wi.heap.size w7 (.slice ro' xl.length rcap') xl from own_base hown7 (by simp))
          have HT7 := Lib.hid (HTX.out.below hb7)
          have HB7 := Lib.hid (HBW.out.trans (hb7.mono (by simp)))
          clear hown7 hb7 CR2 HTX HBW d0 d1 d2 d3 d4 d5 d6
          have HT8 := Lib.hid (HT7.out.set 6 (.slice ro' xl.length rcap'))
          simp only [List.setIfInBounds_toArray, List.set_cons_succ, List.set_cons_zero] at HT8
          have HB8 := Lib.hid (HB7.out.setCell (p := ⟨wi.heap.size, 6, none⟩) (Nat.le_refl _) (.slice ro' xl.length rcap'))
          have HR8 := Lib.hid (HR7.out.other (Other.box HT7.out (i := 6) (.slice ro' xl.length rcap')) (by decide))
          have c6 := HT7.out.cell (i := 6) rfl
          have f6 := HT7.out.frozen 6
          have l6 := HT7.out.lt
          go_upto_region 11 with fail
          generalize hW8 : w7.setCell ⟨wi.heap.size, 6, none⟩ (.slice ro' xl.length rcap') = w8 at *
          clear hW8 HT7 HB7 HR7 c6 f6 l6
          have x0 := HT8.out.cell (i := 0) rfl
          have x1 := HT8.out.cell (i := 1) rfl
          have x2 := HT8.out.cell (i := 2) rfl
          have x3 := HT8.out.cell (i := 3) rfl
          have x4 := HT8.out.cell (i := 4) rfl
          have x5 := HT8.out.cell (i := 5) rfl
          have x6 := HT8.out.cell (i := 6) rfl
          have HTQ := Lib.hid (HTI.out.below HB8.out)
          have y2 := HTQ.out.cell (i := 2) rfl
          have hx8 := HT8.out.lt
          have hq8 := HTQ.out.lt
          have HP8 := Lib.hid (HPI.out.below HB8.out)
          have HBO8 := Lib.hid (HBI.out.trans (HB8.out.mono hzi))
          have HA9 := Lib.hid ((Below.refl w8.heap.size w8).alloc (Nat.le_refl _) (.cells #[.string xn, .int .i64 xg, .int .i64 xs, .int .i64 xf, .int .i64 xd, .bool xb, .slice ro' xl.length rcap'] 42))
          have HP9 := Lib.hid (HP8.out.below HA9.out)
          have HR9 := Lib.hid ((HR8.out.below HA9.out).less hzi)
          have HTQ9 := Lib.hid (HTQ.out.below HA9.out)
          have HBO9 := Lib.hid (HBO8.out.trans (HA9.out.mono (by omega)))
          have hlk : (pl.take k).length = k := by rw [List.length_take]; omega
          have hln : (pl.take k).length ≤ 100000 := by omega
          have hz9 : wo.heap.size ≤ (w8.alloc (.cells #[.string xn, .int .i64 xg, .int .i64 xs, .int .i64 xf, .int .i64 xd, .bool xb, .slice ro' xl.length rcap'] 42)).heap.size := by simp; omega
          obtain ⟨qo, qcap, hsh⟩ := HP8.out.shape
          rw [hlk] at hsh
          subst hsh
          go_wp2_with (first | (at_builtin; refine wpList_ownP rfl _ _ rfl wo.heap.size 1 _ _ (⟨xn, xg, xs, xf, xd, xb, xl⟩, .slice ro' xl.length rcap') ⟨w8.heap.size, 0, none⟩ rfl rfl HP9.out HR9.out (ownP_new w8 (⟨xn, xg, xs, xf, xd, xb, xl⟩, .slice ro' xl.length rcap') _) hln hz9 ?_) | fail)
          intro v10 w10 hown hgrow hoth
          obtain ⟨vo, vcap, hsh⟩ := hown.shape
          rw [List.length_append, hlk, List.length_singleton] at hsh
          subst hsh
          have HTA := Lib.hid (hoth.tbox HTQ9.out (by decide))
          have HBA := Lib.hid (HBO9.out.grown hgrow (by simp; omega) (by
            obtain ⟨lv, _, g2, _⟩ := HP9.out
            intro g hg
            exact (World.ownsRow.lt g2 g hg).1))
          have HTB := Lib.hid (HTA.out.set 2 (.slice vo (k + 1) vcap))
          simp only [List.setIfInBounds_toArray, List.set_cons_succ, List.set_cons_zero] at HTB
          have HBB := Lib.hid (HBA.out.setCell (p := ⟨wo.heap.size + 1, 2, none⟩) (by simp) (.slice vo (k + 1) vcap))
          have HOB := Lib.hid (hown.other (Other.box HTA.out (i := 2) (.slice vo (k + 1) vcap)) (by decide) (by decide))
          have hq10 := HTA.out.lt
          have z2 := HTA.out.cell (i := 2) rfl
          have f2 := HTA.out.frozen 2
          clear hown hgrow hoth HP9 HP8 HR9 HR8 HTQ9 HBO9 HTA HBA x0 x1 x2 x3 x4 x5 x6 y2
          rw [← HPT.out] at HOB
          go_wp2_with fail
          go_roundw
          case rel => exact ⟨k + 1, _, by omega, by first | rfl | go_num, HBB, HTB, HOB⟩
          case measure => simp [intOf]; omega
        · have hkk : k = pl.length := by omega
          subst hkk
          have HPI' := Lib.hid (show OwnP wo.heap.size wi qv pl by have h := HPI.out; rwa [List.take_length] at h)
          obtain ⟨qo, qcap, rfl⟩ := HPI'.out.shape
          have HLI := Lib.hid (HLO.out.below HBI.out)
          have HUI := Lib.hid (HUO.out.below HBI.out)
          have HTOI := Lib.hid (HTO.out.below HBI.out)
          have hlj : (lib.take j).length = j := by rw [List.length_take]; omega
          obtain ⟨oo, ocap, hsh⟩ := HLI.out.shape
          rw [hlj] at hsh
          subst hsh
          have HBOI := Lib.hid (KM.out _ _ HBO.out HBI.out)
          have y0 := HTOI.out.cell (i := 0) rfl
          have q0 := HTI.out.cell (i := 0) rfl
          have q1 := HTI.out.cell (i := 1) rfl
          have q2 := HTI.out.cell (i := 2) rfl
          have hol := HTOI.out.lt
          have HA9 := Lib.hid ((Below.refl wi.heap.size wi).alloc (Nat.le_refl _) (.cells #[.string pn, .int .i64 pz, .slice qo pl.length qcap] 70))
          have HL9 := Lib.hid (HLI.out.below HA9.out)
          have HU9 := Lib.hid (HUI.out.below HA9.out)
          have HT9 := Lib.hid (HTOI.out.below HA9.out)
          have HP9 := Lib.hid ((HPI'.out.below HA9.out).less (show w.heap.size + 2 ≤ wo.heap.size by omega))
          have HB9 := Lib.hid (KM.out _ _ HBOI.out HA9.out)
          have hln : (lib.take j).length ≤ 100000 := by omega
          have hz9 : w.heap.size + 2 ≤ (wi.alloc (.cells #[.string pn, .int .i64 pz, .slice qo pl.length qcap] 70)).heap.size := by simp; omega
          clear HPI HLI HUI HTOI HBOI hBi
          go_wp2_with (first | (at_builtin; refine wpList_ownL rfl _ _ rfl (w.heap.size + 2) 1 _ _ (⟨pn, pz, pl⟩, .slice qo pl.length qcap) ⟨wi.heap.size, 0, none⟩ rfl rfl HL9.out HP9.out (ownL_new wi (⟨pn, pz, pl⟩, .slice qo pl.length qcap) _) hln hz9 ?_) | fail)
          intro v10 w10 hown hgrow hoth
          obtain ⟨vo, vcap, hsh⟩ := hown.shape
          rw [List.length_append, hlj, List.length_singleton] at hsh
          subst hsh
          have HTA := Lib.hid (hoth.tbox HT9.out (by decide))
          have HUA := Lib.hid (HU9.out.other hoth (by decide))
          have HBA := Lib.hid (HB9.out.grown hgrow (by have := (KC.out _ HB9.out).2.1; omega) (by
            obtain ⟨lv, _, g2, _⟩ := HL9.out
            intro g hg
            exact (World.ownsRow.lt g2 g hg).1))
          have HTB := Lib.hid (HTA.out.set 0 (.slice vo (j + 1) vcap))
          simp only [List.setIfInBounds_toArray, List.set_cons_succ, List.set_cons_zero] at HTB
          have HBB := Lib.hid (HBA.out.setCell (p := ⟨ob, 0, none⟩) hob (.slice vo (j + 1) vcap))
          have HLB := Lib.hid (hown.other (Other.box HTA.out (i := 0) (.slice vo (j + 1) vcap)) (by decide) (by decide) (by decide))
          have HUB := Lib.hid (HUA.out.other (Other.box HTA.out (i := 0) (.slice vo (j + 1) vcap)) (by decide))
          have ho10 := HTA.out.lt
          have z0 := HTA.out.cell (i := 0) rfl
          have f0 := HTA.out.frozen 0
          clear hown hgrow hoth HL9 HU9 HT9 HP9 HB9 HTA HUA HBA HPI' y0 q0 q1 q2 HA9 HBI HTI HLO HUO HTO HBO
          rw [← HTK.out] at HLB
          go_wp2_with fail
          go_roundw
          case rel => exact ⟨j + 1, _, by omega, by first | rfl | go_num, HBB, HTB, HLB, HUB⟩
          case measure => simp [intOf]; omega
    · have hjj : j = lib.length := by omega
      subst hjj
      rw [List.take_length] at HLO
      obtain ⟨oo, ocap, rfl⟩ := HLO.out.shape
      obtain ⟨_, _, _, _, HR⟩ := KC.out wo HBO.out
      have y0 := HTO.out.cell (i := 0) rfl
      have y1 := HTO.out.cell (i := 1) rfl
      have r0 := HR.cell (i := 0) rfl
      have r1 := HR.cell (i := 1) rfl
      have fr0 := HR.frozen 0
      have fr1 := HR.frozen 1
      have hr := HR.lt
      have hol := HTO.out.lt
      have hfin := Lib.hid (show OwnL w.heap.size ((wo.setCell ⟨w.heap.size + 1, 0, none⟩ (.slice oo lib.length ocap)).setCell ⟨w.heap.size + 1, 1, none⟩ (.slice uo' units.length ucap')) (.slice oo lib.length ocap) lib ∧ OwnU w.heap.size ((wo.setCell ⟨w.heap.size + 1, 0, none⟩ (.slice oo lib.length ocap)).setCell ⟨w.heap.size + 1, 1, none⟩ (.slice uo' units.length ucap')) (.slice uo' units.length ucap') units ∧ Below w.heap.size w ((wo.setCell ⟨w.heap.size + 1, 0, none⟩ (.slice oo lib.length ocap)).setCell ⟨w.heap.size + 1, 1, none⟩ (.slice uo' units.length ucap')) from by
        have k1 := Other.box HR (i := 0) (.slice oo lib.length ocap)
        have k2 := Other.box (HR.set 0 (.slice oo lib.length ocap)) (i := 1) (.slice uo' units.length ucap')
        refine ⟨((HLO.out.other k1 (by decide) (by decide) (by decide)).other k2 (by decide) (by decide) (by decide)).less (by omega), own_base ((HUO.out.other k1 (by decide)).other k2 (by decide)) (by omega), (hB.setCell (p := ⟨w.heap.size + 1, 0, none⟩) (by simp) _).setCell (p := ⟨w.heap.size + 1, 1, none⟩) (by simp) _⟩)
      clear HLO HUO HTO HBO HR hB
      go_wp2_with fail
      exact bodyPost_ret (v := .agg #[.slice oo lib.length ocap, .slice uo' units.length ucap']) (by simp [results, Try.results48, go_sem, r0, r1]) rfl ⟨_, _, rfl, hfin.out.1, hfin.out.2.1, hfin.out.2.2⟩
end Go.Proofs.Ytabalicembhjmaa

namespace Go.Proofs.Ytabalicembhjmaa
open Go.RowKit Go.Lib
open Go (info_parts)
set_option linter.unusedVariables false
set_option linter.unusedSimpArgs false

theorem zeroUnit_ (w : World) : (zeroValue 67).run Try.prog w = .ok (.agg #[.int .i64 0, .string ⟨#[]⟩, .int .i64 0, .int .i64 0]) w := by kernel_rfl
theorem sizeUnit_ (w : World) : (Go.sizeOf 67).run Try.prog w = .ok 4 w := by kernel_rfl
theorem infoUnit4 : (Try.prog.info? 67).map (·.size) = some 4 := by kernel_rfl
theorem one_untC (l : List Unt) : ∀ u ∈ l.flatMap untC, u.oneCell' = true := by
  intro u hu
  obtain ⟨y, _, hy⟩ := List.mem_flatMap.1 hu
  simp [untC] at hy
  rcases hy with rfl | rfl | rfl | rfl <;> rfl
theorem flat_unt_len (l : List Unt) : (l.flatMap untC).length = l.length * 4 := flat_len untC 4 (fun _ => rfl) l
theorem insU_flat (l : List Unt) (i : Nat) (hi : i ≤ l.length) (y : Unt) : (insU l i y).flatMap untC = (l.flatMap untC).take (i * 4) ++ untC y ++ (l.flatMap untC).drop (i * 4) := by
  unfold insU
  rw [flat_take untC 4 (fun _ => rfl) l i hi]
  have h : l.flatMap untC = (l.take i).flatMap untC ++ (l.drop i).flatMap untC := by rw [← List.flatMap_append, List.take_append_drop]
  have hd : (l.flatMap untC).drop (i * 4) = (l.drop i).flatMap untC := by
    rw [h, List.drop_append_of_le_length (by rw [flat_unt_len, List.length_take]; omega), List.drop_of_length_le (by rw [flat_unt_len, List.length_take]; omega), List.nil_append]
  rw [hd]
  simp
theorem delU_flat (l : List Unt) (i : Nat) (hi : i < l.length) : (delU l i).flatMap untC = (l.flatMap untC).take (i * 4) ++ (l.flatMap untC).drop ((i + 1) * 4) := by
  unfold delU
  rw [flat_take untC 4 (fun _ => rfl) l i (by omega)]
  have h : l.flatMap untC = (l.take (i + 1)).flatMap untC ++ (l.drop (i + 1)).flatMap untC := by rw [← List.flatMap_append, List.take_append_drop]
  have hd : (l.flatMap untC).drop ((i + 1) * 4) = (l.drop (i + 1)).flatMap untC := by
    rw [h, List.drop_append_of_le_length (by rw [flat_unt_len, List.length_take]; omega), List.drop_of_length_le (by rw [flat_unt_len, List.length_take]; omega), List.nil_append]
  rw [hd, List.flatMap_append]
theorem delU_len (l : List Unt) {i : Nat} (hi : i < l.length) : (delU l i).length = l.length - 1 := by
  unfold delU
  simp
  omega
set_option maxHeartbeats 4000000 in
set_option maxRecDepth 1000000 in
theorem units_delete (base : Nat) (v : Value) (l : List Unt) (i : Nat) (w : World) (h : OwnU base w v l) (hi : i < l.length) (hl : l.length ≤ 100000) :
    Calls Try.prog 65 #[v, .int .i64 i, .int .i64 ((i : Int) + 1)] w fun e w' => ∃ v', e = .returned v' ∧ OwnU base w' v' (delU l i) ∧ w.grownBy w' v.ownBlock := by
  obtain ⟨g, cap, cur, rfl, hbg, hg, hnc, hcm, hcs, htake⟩ : ∃ g cap cur, v = .slice (some ⟨g, 0, none⟩) l.length cap ∧ base ≤ g ∧ w.heap[g]? = some (.cells cur 67 (0, 0)) ∧ l.length ≤ cap ∧ cap ≤ maxLen ∧ cur.size = cap * 4 ∧ cur.toList.take (l.length * 4) = l.flatMap untC := by
    rcases h.2 with ⟨_, h'⟩ | h'
    · omega
    · exact h'
  obtain ⟨i0, hi0, hz0, hz1, hz2⟩ := info_parts units_info
  have hDF := Lib.hid (delU_flat l i hi)
  have hDL := Lib.hid (delU_len l hi)
  generalize hn : l.length = n at *
  obtain ⟨news, hnews⟩ : ∃ news, news = (l.flatMap untC).drop ((i + 1) * 4) := ⟨_, rfl⟩
  have hxl : (l.flatMap untC).length = n * 4 := by rw [flat_unt_len, hn]
  have hlen : news.length = (n - (i + 1)) * 4 := by rw [hnews, List.length_drop, hxl]; omega
  have hget : ∀ t u, news[t]? = some u → w.drew.cell? ⟨g, (i + 1) * 4 + t, none⟩ = some u := by
    intro t u ht
    rw [hnews, List.getElem?_drop, ← htake, List.getElem?_take] at ht
    split at ht
    · show w.cell? _ = _
      rw [row_cell2 hg]
      simpa using ht
    · cases ht
  obtain ⟨A, hA, hsrc⟩ : ∃ A : Addr, (if cap = i + 1 then some (⟨g, 0, none⟩ : Addr) else some ⟨g, (i + 1) * 4, none⟩) = some A ∧ Hid (∀ t u, news[t]? = some u → w.drew.cell? (A.add t) = some u) := by
    by_cases h : cap = i + 1
    · refine ⟨⟨g, 0, none⟩, by simp [h], fun t u hu => ?_⟩
      have h0 : news.length = 0 := by rw [hlen]; omega
      rw [List.length_eq_zero_iff.1 h0] at hu
      simp at hu
    · exact ⟨⟨g, (i + 1) * 4, none⟩, by simp [h], fun t u hu => by rw [addr_plus]; exact hget t u hu⟩
  have s1 : Hid (news.length = (n - (i + 1)) * 4) := hlen
  have s2 : Hid (∀ u ∈ news, u.oneCell' = true) := fun u hu => one_untC l u (List.mem_of_mem_drop (by rw [← hnews]; exact hu))
  have s3 : Hid (∀ t, t < news.length → (w.drew.cell? ⟨g, 0 + i * 4 + t, none⟩).isSome = true ∧ w.drew.frozen? ⟨g, 0 + i * 4 + t, none⟩ = false) := by
    intro t ht
    rw [hlen] at ht
    exact ⟨row_isSome2 (w := w) hg (by omega), frozen_of_row w g _ cur _ hg⟩
  obtain ⟨W1, hW1⟩ : ∃ W1, W1 = w.drew.setCells g (0 + i * 4) news := ⟨_, rfl⟩
  have hgd : w.drew.heap[g]? = some (.cells cur 67 (0, 0)) := hg
  obtain ⟨c1, e1, e2⟩ := setCells_row g 67 news (0 + i * 4) w.drew cur hgd (by rw [hlen]; omega)
  rw [← hW1] at e1
  have sc1 : c1.size = cap * 4 := by
    have := congrArg List.length e2
    simp only [List.length_append, List.length_take, List.length_drop, Array.length_toList, hlen] at this
    omega
  obtain ⟨Z, hZ, hcl⟩ := run_clear_any (P := Try.prog) W1 23 67 (.agg #[.int .i64 0, .string ⟨#[]⟩, .int .i64 0, .int .i64 0]) 4 Try.underlying23 zeroUnit_ rfl (by intro u hu; simp [Value.cells] at hu; rcases hu with rfl | rfl | rfl | rfl <;> rfl) g ((n - 1) * 4) (n - (n - 1)) (cap - (n - 1)) (by omega) (fun j hj => row_isSome2 e1 (by omega)) (fun j hj => frozen_of_row W1 g _ c1 _ e1)
  have hnn : n - (n - 1) = 1 := by omega
  rw [hnn] at hZ
  have hin : i + (n - (i + 1)) = n - 1 := by omega
  have hcl0 := hcl 0
  have hfin : Hid (∃ v', v' = (Value.slice (some ⟨g, 0, none⟩) (n - 1) cap) ∧ OwnU base (W1.setCells g ((n - 1) * 4) Z) v' (delU l i) ∧ w.grownBy (W1.setCells g ((n - 1) * 4) Z) (some g)) := by
    refine ⟨_, rfl, ?_, ?_⟩
    · obtain ⟨c, f1, f2, f3⟩ := row_del (size := 4) hgd hi hnc hcs Z (by simpa using hZ)
      rw [htake, ← hnews] at f1 f3
      rw [hW1, Nat.zero_add]
      unfold OwnU
      rw [hDL.out, hDF.out]
      refine ⟨by rw [List.length_append, List.length_take, ← hnews, hlen, hxl]; omega, .inr ⟨g, cap, c, rfl, hbg, f1, by omega, hcm, f2, ?_⟩⟩
      rw [f3, hnews]
    · rw [hW1]
      exact grown_trans (grown_trans (grown_drew w _) (setCells_grown2 g _ _ _)) (setCells_grown2 g _ _ _)
  have hW : Hid (W1 = w.drew.setCells g (0 + i * 4) news) := hW1
  have hic : i ≤ cap := by omega
  have hjc : i + 1 ≤ cap := by omega
  have hne : ¬ ((i : Int) = (i : Int) + 1) := by omega
  have hb5 : (0 : Int) ≤ (i : Int) + 1 ∧ (i : Int) + 1 ≤ (n : Int) := by omega
  have hb6 : (0 : Int) ≤ (i : Int) + 1 := by omega
  have hb7 : (i : Int) + 1 ≤ (n : Int) := by omega
  have mixed : Try.prog.follows Departure.mixedOrders = true := by kernel_rfl
  have hii : ((i : Int) + 1).toNat = i + 1 := by omega
  rw [← hin] at hcl0 hfin
  unfold maxLen at hcm
  clear hW1 hget hnews hlen hg hgd e1 e2 sc1 hcl hZ h htake hcs hnn hin
  go_enter Try.func65, Try.ntmps65
  go_wp2_with fail
  go_region_law_o (refine step_append_room rfl (.tmp 22) (.tmp 25) 23 rfl 67 i0 4 Try.underlying23 hi0 hz1 g 0 i cap (by simp [Act.eval, Act.put]) A (n - (i + 1)) (cap - (i + 1)) news (by simp [Act.eval, Act.put]) s1.out hsrc.out s2.out (by omega) s3.out ?_; rw [← hW.out])
  go_wp2_with fail
  go_ret
  obtain ⟨v', rfl, f1, f2⟩ := hfin.out
  exact ⟨_, rfl, f1, f2⟩
theorem shape_row {w : World} {g : Nat} {cur : Array Value} {T : TypeId} (h : w.heap[g]? = some (.cells cur T (0, 0))) : w.shape? g = some (T, cur.size) := by simp [World.shape?, h]
set_option maxHeartbeats 4000000 in
set_option maxRecDepth 100000 in
theorem units_insert_shift (base g cap i vb : Nat) (l : List Unt) (y : Unt) (cur vcs : Array Value) (T : TypeId) (w : World) (hbg : base ≤ g) (hg : w.heap[g]? = some (.cells cur 67 (0, 0))) (hi : i < l.length) (hnc : l.length + 1 ≤ cap) (hcm : cap ≤ maxLen) (hcs : cur.size = cap * 4) (htake : cur.toList.take (l.length * 4) = l.flatMap untC) (hl : l.length ≤ 100000)
    (hv : w.heap[vb]? = some (.cells vcs T (0, 0))) (hvc : vcs.toList = untC y) (hne : vb ≠ g) :
    Calls Try.prog 62 #[.slice (some ⟨g, 0, none⟩) l.length cap, .int .i64 i, .slice (some ⟨vb, 0, none⟩) 1 1] w fun e w' => ∃ v', e = .returned v' ∧ OwnU base w' v' (insU l i y) ∧ w.grownBy w' (some g) := by
  have hov : ∀ lb cb, (callFunc 90 #[.slice (some ⟨vb, 0, none⟩) 1 1, .slice (some ⟨g, (i + 1) * 4, none⟩) lb cb]).run Try.prog w = .ok (.value (.bool false)) w := fun lb cb => by
    rw [run_callFunc_extern Try.func90 (by kernel_rfl) (by kernel_rfl) (by kernel_rfl) (e := Extern.SlicesOverlaps.overlaps #[23, 23] #[4]) (by kernel_rfl),
      Lib.run_overlaps_apart w 23 4 67 Try.underlying23 4 sizeUnit_ ⟨vb, 0, none⟩ ⟨g, (i + 1) * 4, none⟩ 1 1 lb cb hne T 67 vcs.size cur.size (shape_row hv) (shape_row hg) (by omega) (frozen_of_row w vb _ vcs _ hv) (frozen_of_row w vb _ vcs _ hv)]
    rfl
  generalize hn : l.length = n at *
  have hxl : (l.flatMap untC).length = n * 4 := by rw [flat_unt_len, hn]
  obtain ⟨ds, hds⟩ : ∃ ds, ds = (l.flatMap untC).drop (i * 4) := ⟨_, rfl⟩
  have hdl : ds.length = (n - i) * 4 := by rw [hds, List.length_drop, hxl]; omega
  have hget : ∀ t u, ds[t]? = some u → w.cell? ⟨g, i * 4 + t, none⟩ = some u := by
    intro t u ht
    rw [hds, List.getElem?_drop, ← htake, List.getElem?_take] at ht
    split at ht
    · rw [row_cell2 hg]
      simpa using ht
    · cases ht
  have hcp1 : ∀ ty dc sc, (Builtin.copy_ #[23, 23] ty #[.slice (some ⟨g, (i + 1) * 4, none⟩) (n - i) dc, .slice (some ⟨g, i * 4, none⟩) (n + 1 - i) sc]).run Try.prog w.drew = .ok (goInt (n - i : Nat)) (w.drew.setCells g ((i + 1) * 4) ds) := fun ty dc sc =>
    run_copy_size w.drew _ _ ty 67 4 g ((i + 1) * 4) (n - i) dc ⟨g, i * 4, none⟩ (n + 1 - i) sc (n - i) ds Try.underlying23 infoUnit4 (by simp only [Nat.min_def]; split <;> omega) hdl
      (fun j v hj => by rw [addr_plus]; exact hget j v hj)
      (fun j hj => row_isSome2 (w := w) hg (by omega)) (fun j hj => frozen_of_row w g _ cur _ hg) (fun v hv => one_untC l v (List.mem_of_mem_drop (by rw [← hds]; exact hv)))
  obtain ⟨W1, hW1⟩ : ∃ W1, W1 = w.drew.setCells g ((i + 1) * 4) ds := ⟨_, rfl⟩
  have hgd : w.drew.heap[g]? = some (.cells cur 67 (0, 0)) := hg
  obtain ⟨c1, e1, e2⟩ := setCells_row g 67 ds ((i + 1) * 4) w.drew cur hgd (by rw [hdl]; omega)
  rw [← hW1] at e1
  have sc1 : c1.size = cap * 4 := by
    have := congrArg List.length e2
    simp only [List.length_append, List.length_take, List.length_drop, Array.length_toList, hdl] at this
    omega
  have hv1 : W1.heap[vb]? = some (.cells vcs T (0, 0)) := by
    rw [hW1]
    exact ((setCells_grown2 g ds _ w.drew).block vb (by have := (Array.getElem?_eq_some_iff.1 hv).1; exact this) (by intro e; injection e with e; exact hne e)).trans hv
  have hcp2 : ∀ (W : World), (∀ x, W.cell? x = W1.cell? x) → (∀ x, W.frozen? x = W1.frozen? x) → ∀ ty dc, (Builtin.copy_ #[23, 23] ty #[.slice (some ⟨g, i * 4, none⟩) (n + 1 - i) dc, .slice (some ⟨vb, 0, none⟩) 1 1]).run Try.prog W = .ok (goInt (1 : Nat)) (W.setCells g (i * 4) (untC y)) := fun W hWc hWf ty dc =>
    run_copy_size W _ _ ty 67 4 g (i * 4) (n + 1 - i) dc ⟨vb, 0, none⟩ 1 1 1 (untC y) Try.underlying23 infoUnit4 (by simp only [Nat.min_def]; split <;> omega) rfl
      (fun j v hj => by rw [addr_plus, hWc, row_cell2 hv1, Nat.zero_add, ← Array.getElem?_toList, hvc]; exact hj)
      (fun j hj => by rw [hWc]; exact row_isSome2 e1 (by rw [sc1]; simp [untC] at hj; omega)) (fun j hj => by rw [hWf]; exact frozen_of_row W1 g _ c1 _ e1) (fun v hv => one_untC [y] v (by simpa using hv))
  have hfin : Hid (∃ v', v' = (Value.slice (some ⟨g, 0, none⟩) (n + 1) cap) ∧ OwnU base (W1.setCells g (i * 4) (untC y)) v' (insU l i y) ∧ w.grownBy (W1.setCells g (i * 4) (untC y)) (some g)) := by
    refine ⟨_, rfl, ?_, ?_⟩
    · obtain ⟨c, f1, f2, f3⟩ := row_ins (size := 4) hgd (i := i) (n := n) (by omega) hnc hcs (untC y) rfl
      rw [htake, ← hds, ← hW1] at f1
      rw [htake] at f3
      unfold OwnU
      rw [insU_len l (by omega), insU_flat l i (by omega), hn]
      refine ⟨by simp only [List.length_append, List.length_take, List.length_drop, hxl]; simp [untC]; omega, .inr ⟨g, cap, c, rfl, hbg, f1, by omega, hcm, f2, f3⟩⟩
    · rw [hW1]
      exact grown_trans (grown_trans (grown_drew w _) (setCells_grown2 g _ _ _)) (setCells_grown2 g _ _ _)
  rw [← hW1] at hcp1
  have mixed : Try.prog.follows Departure.mixedOrders = true := by kernel_rfl
  have hz2 : ¬ ((i : Int) = (n : Int)) := by omega
  have hz3 : ¬ ((cap : Int) < (n : Int) + 1) := by omega
  have hw1 : IntKind.i64.wrap ((i : Int) + 1) = (i : Int) + 1 := by rw [IntKind.wrap_i64]; omega
  have hw2 : IntKind.i64.wrap ((n : Int) + 1) = (n : Int) + 1 := by rw [IntKind.wrap_i64]; omega
  have hb1 : (0 : Int) ≤ (i : Int) + 1 := by omega
  have hin : i ≤ n := by omega
  have htn : ((i : Int) + 1).toNat = i + 1 := by omega
  have hb2 : ¬ (cap = i + 1) := by omega
  have hb3 : (i : Int) ≤ (n : Int) + 1 := by omega
  have hb4 : ¬ (cap = i) := by omega
  unfold maxLen at hcm
  clear hg hgd e1 e2 sc1 hv hv1 htake hcs hget hds hdl hvc
  go_enter Try.func62, Try.ntmps62
  go_wp2_with (simp only [hov])
  go_region_law_o (refine step_copy_runI rfl _ _ 23 23 rfl _ _ (by simp [Act.eval, Act.put]) (by simp [Act.eval, Act.put]) (hcp1 _ _ _) ?_)
  go_wp2_with (at_builtin; refine wpList_copy_runI _ rfl _ _ 23 23 rfl _ _ rfl rfl (hcp2 _ (fun _ => rfl) (fun _ => rfl) _ _) ?_)
  go_ret
  subst hW1
  obtain ⟨v', rfl, f1, f2⟩ := hfin.out
  exact ⟨_, rfl, f1, f2⟩
end Go.Proofs.Ytabalicembhjmaa
