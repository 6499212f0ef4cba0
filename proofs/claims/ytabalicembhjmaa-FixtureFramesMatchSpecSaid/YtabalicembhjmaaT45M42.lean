/- The reference's FramesOf. (printed by wip/gen/gen_rframes.py) -/
import Derived.Test.YtabalicembhjmaaT45M31
import Derived.Test.YtabalicembhjmaaT45M33
import Derived.Test.YtabalicembhjmaaT45M40
import Derived.Test.YtabalicembhjmaaT45M41
import Derived.Test.YtabalicembhjmaaT45M28

namespace Go.Proofs.Ytabalicembhjmaa
open Go.RowKit
set_option linter.unusedVariables false
set_option linter.unusedSimpArgs false

theorem TBox.gro3 {w w' : World} {b g : Nat} {T : TypeId} {cs : Array Value} (h : TBox w b T cs) (hg : w.grownBy w' (some g)) (hne : b ≠ g) : TBox w' b T cs := (hg.block b h.lt (by intro e; injection e with e; exact hne e)).trans h
theorem RBox.gro3 {w W W' : World} {lv uv : Value} {g : Nat} (h : RBox w lv uv W) (hg : W.grownBy W' (some g)) (hlt : w.heap.size + 1 ≤ g) : RBox w lv uv W' := bel_grown3 h hg h.size hlt
theorem OwnF.gro3 {base : Nat} {w w' : World} {v : Value} {l : List (Frm × Value)} {g : Nat} (h : OwnF base w v l) (hg : w.grownBy w' (some g)) (hne : ∀ q, v.ownBlock = some q → q ≠ g) : OwnF base w' v l := by
  refine ⟨h.1, ?_⟩
  rcases h.2 with h' | ⟨q, cap, cur, e1, h1, h2, h3⟩
  · exact .inl h'
  · exact .inr ⟨q, cap, cur, e1, h1, (hg.block q (World.ownsRow.lt h q (by rw [e1]; rfl)).2 (by intro e; injection e with e; exact hne q (by rw [e1]; rfl) e)).trans h2, h3⟩
set_option maxRecDepth 100000 in
set_option maxHeartbeats 16000000 in
theorem rframesOf_any (x : Rig) (lv uv : Value) (l : List Stg) (sv : Value) (w : World) (h : RigAt w.heap.size w x lv uv) (hf : RigFit x) (hx : chkRig x = 0) (hS : StgS w.heap.size w sv l) (hc : chkStgs x l = 0) :
    Calls Try.prog 66 #[rigV lv uv, sv] w fun e w' => ∃ fv, e = .returned fv ∧ FrmS w'.heap.size w' fv (framesV x l) ∧ Below w.heap.size w w' := by
  have CU := Lib.hid (fun W (hb : Below w.heap.size w W) => runis_any x lv uv l W ((h.below hb).more hb.size) hx)
  have CP := Lib.hid (fun (nm : ByteArray) W (hb : Below w.heap.size w W) => rprofile_base w.heap.size lv x.lib nm W hb.size (h.lib.below hb))
  have CL := Lib.hid (fun (n : Int) (nm : ByteArray) (df : Int) W (hb : Below w.heap.size w W) => rlevelIn_any w.heap.size sv l n nm df W hb.size (hS.below hb))
  have HGU := Lib.hid (UntS.get h.units)
  have HPR := Lib.hid (fun u (hu : u ∈ x.units) => par_right hx hu)
  have HPD := Lib.hid (show ∀ nm p, profOf x.lib nm = some p → ∀ q ∈ p.pars, (0 ≤ q.dflt ∧ q.dflt ≤ 65535) ∧ q.sl ≠ q.fine from fun nm p hp q hq => ⟨(par_chk (chkLib_prf (chkRig_zero hx).1 (profOf_some hp).1) hq).2.2.2.1, par_ne (chkLib_prf (chkRig_zero hx).1 (profOf_some hp).1) hq⟩)
  have HUL := Lib.hid ((chkRig_zero hx).2.1)
  have HSL := Lib.hid (show ∀ s ∈ l, 0 ≤ s.lv ∧ s.lv ≤ 65535 from fun s hs => (((stgs_iff x l).1 hc).1 s hs).2)
  have HLI := Lib.hid (fun (n : Int) (q : Par) => lvIn_of hc n q)
  have HLR := Lib.hid (fun (n : Int) (q : Par) (hq : 0 ≤ q.dflt ∧ q.dflt ≤ 65535) => lvOf_range (x := x) (l := l) (fun s hs => (((stgs_iff x l).1 hc).1 s hs).2) n hq)
  have HUF := Lib.hid (show ∀ U ∈ unisL x l, 1 ≤ U ∧ U ≤ 64 from fun U hU => unis_range hU)
  have HUN := Lib.hid (unis_len x l)
  have HFV := Lib.hid (unis_frames x l)
  have hul := HUL.out
  have hun := HUN.out
  obtain ⟨lo, lcap, uo, ucap, rfl, rfl⟩ := rig_shape h
  obtain ⟨so, scap, rfl, _⟩ := CellsS.shape hS
  have hcp := untS_cap h.units
  clear h hf hS hx hc
  unfold rigV at *
  generalize framesV x l = FV at *
  generalize unisL x l = UL at *
  have HB0 := Lib.hid (RBox.start w (.slice lo x.lib.length lcap) (.slice uo x.units.length ucap))
  have C1 := Lib.hid (CU.out _ HB0.out.bel)
  clear CU
  go_enter Try.func66, Try.ntmps66
  go_wp2_with fail
  refine C1.out.mono ?_
  rintro e w2 ⟨uvv, rfl, ⟨ao, cap, rfl, hlc, hcm, hrow⟩, hb⟩
  have HB2 := Lib.hid (HB0.out.next hb)
  have HROW := Lib.hid hrow
  have hz2 := HB2.out.size
  clear hb hrow C1 HB0
  go_wp2_with fail
  go_loopw [19, 5] (fun i o wx => ∃ (n : Nat) (ov : Value), n ≤ UL.length ∧ i = .int .i64 n ∧ ov = o ∧ Hid (∃ ls, OwnF w2.heap.size wx ov ls ∧ ls.map (·.1) = (UL.take n).map (frmAt x l) ∧ ∀ y ∈ ls, ∃ g, y.2 = frmV g ∧ BytesAt wx g y.1.sl) ∧ Hid (Below w2.heap.size w2 wx)) (fun i _ _ => UL.length - (intOf i).toNat)
  case atStart => exact ⟨0, _, Nat.zero_le _, rfl, rfl, Lib.hid ⟨[], OwnF.nil _ _, rfl, by simp⟩, Lib.hid (Below.refl _ _)⟩
  case round =>
    obtain ⟨n, ov, hn, rfl, rfl, HOW, HBN⟩ := hrel
    obtain ⟨wp, rfl⟩ : ∃ wp : World, wp = wr := ⟨_, rfl⟩
    have hzn := HBN.out.size
    by_cases hnl : n < UL.length
    · obtain ⟨ub0, off0, rfl, hub0, hr0⟩ := HROW.out (by omega)
      have c0 := (HBN.out.cell (p := ⟨ub0, off0 + n, none⟩) hub0).trans (hr0 n hnl)
      have hubl : ub0 < wp.heap.size := by omega
      have HTK := Lib.hid (map_snoc' (frmAt x l) UL n hnl)
      have HUR := Lib.hid (HUF.out _ (List.getElem_mem hnl))
      clear hr0
      obtain ⟨U, hU⟩ : ∃ U, U = UL[n] := ⟨_, rfl⟩
      rw [← hU] at c0 HTK HUR
      clear hU
      obtain ⟨g, hg⟩ : ∃ g, g = wp.heap.size := ⟨_, rfl⟩
      have hA1 := (Below.refl wp.heap.size wp).alloc (Nat.le_refl _) (.cells (bytA noB) 5)
      have hA2 := hA1.alloc hA1.size (.cells #[.int .i64 U, .slice (some ⟨wp.heap.size, 0, none⟩) 512 512] 64)
      have HBA := Lib.hid (show BytesAt ((wp.alloc (.cells (bytA noB) 5)).alloc (.cells #[.int .i64 U, .slice (some ⟨wp.heap.size, 0, none⟩) 512 512] 64)) wp.heap.size noB from ⟨by unfold noB; exact List.length_replicate, (TBox.new wp _ _).alloc _⟩)
      have HTF := Lib.hid (show TBox ((wp.alloc (.cells (bytA noB) 5)).alloc (.cells #[.int .i64 U, .slice (some ⟨wp.heap.size, 0, none⟩) 512 512] 64)) (wp.heap.size + 1) 64 #[.int .i64 U, .slice (some ⟨wp.heap.size, 0, none⟩) 512 512] from by
        have h := TBox.new (wp.alloc (.cells (bytA noB) 5)) #[.int .i64 U, .slice (some ⟨wp.heap.size, 0, none⟩) 512 512] 64
        simpa only [World.size_alloc] using h)
      have HWA := Lib.hid (HBN.out.trans (hA2.mono hzn))
      have HRA := Lib.hid hA2
      have hmk := make512_
      clear hA1 hA2
      go_upto_region 6 with fail
      clear hmk c0
      obtain ⟨wA, hwA⟩ : ∃ wA : World, wA = (wp.alloc (.cells (bytA noB) 5)).alloc (.cells #[.int .i64 U, .slice (some ⟨wp.heap.size, 0, none⟩) 512 512] 64) := ⟨_, rfl⟩
      rw [← hwA] at HBA HTF HWA HRA ⊢
      rw [← hg] at HBA HTF ⊢
      have hzA : wA.heap.size = g + 2 := by rw [hwA, hg]; simp
      have HGQ := Lib.hid hg
      have hgp : g ≤ wA.heap.size ∧ w2.heap.size ≤ g := by omega
      clear hwA hg
      have HBX := Lib.hid (HB2.out.next HWA.out)
      have p1 := HBX.out.par.cell (i := 1) rfl
      have hzx := HBX.out.size
      have HU0 := Lib.hid (show (uniO x.lib l (x.units.take 0) U).getD noB = noB from rfl)
      go_wp2_with fail
      clear p1
      go_loopw [29] (fun i wx => ∃ j : Nat, j ≤ x.units.length ∧ i = .int .i64 j ∧ Hid (wA.grownBy wx (some g)) ∧ Hid (BytesAt wx g ((uniO x.lib l (x.units.take j) U).getD noB))) (fun i _ => x.units.length - (intOf i).toNat)
      case atStart => exact ⟨0, Nat.zero_le _, rfl, Lib.hid (World.grownBy.refl _ _), by rw [HU0.out]; exact HBA⟩
      case round =>
        obtain ⟨j, hj, rfl, HGA, HBJ⟩ := hrel
        obtain ⟨wo, rfl⟩ : ∃ wo : World, wo = wr := ⟨_, rfl⟩
        have hzo := HGA.out.size
        have HBO := Lib.hid (HBX.out.gro3 HGA.out (by omega))
        have hgo : g < wo.heap.size := by omega
        by_cases hlt : j < x.units.length
        · obtain ⟨b, off, cap', hsl, hbb, _, hc⟩ := HGU.out (by omega)
          injection hsl with hs1 hs2 hs3
          subst hs1 hs3
          obtain ⟨d0, d1, d2, d3⟩ := hc j hlt wo HBO.out.bel
          have hbr : b < wo.heap.size := by have := HBO.out.size; omega
          have HP := Lib.hid (HPR.out _ (List.getElem_mem hlt))
          have HSTEP := Lib.hid (uniO_take x.lib l x.units U j hlt)
          clear hc
          generalize hrk : x.units[j] = rk at *
          clear hrk
          obtain ⟨un, up, uu, ua⟩ := rk
          simp only at *
          obtain ⟨p, hpo, hp40, ⟨ha1, ha2⟩, hpq⟩ := HP.out
          have HPOF := Lib.hid (show parsOf x.lib ⟨un, up, uu, ua⟩ = p.pars by unfold parsOf; rw [show profOf x.lib (Unt.nm ⟨un, up, uu, ua⟩) = some p from hpo]; rfl)
          have HPQ := Lib.hid hpq
          have HPX := Lib.hid (HPD.out _ p hpo)
          obtain ⟨ub, hub⟩ : ∃ ub, ub = wo.heap.size := ⟨_, rfl⟩
          have hA := (Below.refl wo.heap.size wo).alloc (Nat.le_refl _) (.cells #[.int .i64 un, .string up, .int .i64 uu, .int .i64 ua] 67)
          have HTU := Lib.hid (TBox.new wo #[.int .i64 un, .string up, .int .i64 uu, .int .i64 ua] 67)
          have HB8 := Lib.hid (HBO.out.next hA)
          have HG8 := Lib.hid (grown_bel3 HGA.out hA)
          have HJ8 := Lib.hid (HBJ.out.below hA)
          have hz8 := hA.size
          simp only [World.size_alloc] at hz8
          clear hA hpq HP
          go_upto_region 9 with fail
          clear d0 d1 d2 d3
          obtain ⟨w8, hw8⟩ : ∃ w8 : World, w8 = wo.alloc (.cells #[.int .i64 un, .string up, .int .i64 uu, .int .i64 ua] 67) := ⟨_, rfl⟩
          rw [← hub] at HTU ⊢
          rw [← hw8] at HTU HB8 HG8 HJ8 ⊢
          have hz8 : w8.heap.size = ub + 1 := by rw [hw8, hub]; simp
          have hubo : g < ub := by omega
          clear hw8 hub
          have t2 := HTU.out.cell (i := 2) rfl
          have t1 := HTU.out.cell (i := 1) rfl
          have tl := HTU.out.lt
          have hubg : ub ≠ g := by omega
          have hfl : g + 1 < w8.heap.size := by omega
          by_cases hUU : uu = U
          rotate_left
          · have HN := Lib.hid (show (uniO x.lib l (x.units.take (j + 1)) U).getD noB = (uniO x.lib l (x.units.take j) U).getD noB by rw [HSTEP.out, if_neg hUU])
            have hU1 : (uu != U) = true := by simpa using hUU
            clear HSTEP HPOF HPQ HPX t1
            go_wp2_with fail
            go_roundw
            case rel => first | exact ⟨j + 1, by omega, by first | rfl | go_num, HG8, by rw [HN.out]; exact HJ8⟩ | ((repeat apply Exists.intro); refine ⟨⟨j + 1, by omega, by first | rfl | go_num, HG8, by rw [HN.out]; exact HJ8⟩, ?_⟩; rfl)
            case measure => simp [intOf]; omega
          subst hUU
          obtain ⟨b0, hb0⟩ : ∃ b0, b0 = (uniO x.lib l (x.units.take j) uu).getD noB := ⟨_, rfl⟩
          have HN := Lib.hid (show (uniO x.lib l (x.units.take (j + 1)) uu).getD noB = p.pars.foldl (putP l ⟨un, up, uu, ua⟩) b0 by
            rw [HSTEP.out, if_pos rfl, hb0]
            show putU x.lib l _ ⟨un, up, uu, ua⟩ = _
            unfold putU
            rw [HPOF.out])
          rw [← hb0] at HJ8
          clear hb0 HBJ HSTEP HPOF
          have p0 := HB8.out.par.cell (i := 0) rfl
          have hzb := HB8.out.size
          have C8 := Lib.hid (CP.out up _ HB8.out.bel)
          rw [show profOf x.lib up.data.toList = some p from hpo] at C8
          clear hpo
          obtain ⟨pn, pz, pl⟩ := p
          simp only at *
          have hU2 : (uu != uu) = false := by simp
          go_wp2_with fail
          refine C8.out.mono ?_
          rintro e w9 ⟨pv, rfl, ⟨qv, rfl, hps⟩, hb9⟩
          obtain ⟨po, pcap, rfl⟩ := parS_shape hps
          have HPS := Lib.hid hps
          have hpl := parS_cap hps
          have hA := (Below.refl w9.heap.size w9).alloc (Nat.le_refl _) (.cells #[.string pn, .int .i64 pz, .slice po pl.length pcap] 70)
          have hb9a := hb9.trans (hA.mono hb9.size)
          have HTU9 := Lib.hid (HTU.out.below hb9a)
          have HB9 := Lib.hid (HB8.out.next hb9a)
          have HG9 := Lib.hid (grown_bel3 HG8.out hb9a)
          have HJ9 := Lib.hid (HJ8.out.below hb9a)
          have hz9 := hb9a.size
          have HTP := Lib.hid (TBox.new w9 #[.string pn, .int .i64 pz, .slice po pl.length pcap] 70)
          have HB9W := Lib.hid (HB8.out.next hb9).bel
          have hz9b := hb9.size
          clear hps hb9 hb9a hA C8 HTU HB8 HG8 HJ8 p0 t1 t2 tl hU2
          go_upto_region 11 with fail
          obtain ⟨pb, hpb⟩ : ∃ pb, pb = w9.heap.size := ⟨_, rfl⟩
          obtain ⟨wC, hwC⟩ : ∃ wC : World, wC = w9.alloc (.cells #[.string pn, .int .i64 pz, .slice po pl.length pcap] 70) := ⟨_, rfl⟩
          rw [← hpb] at HTP ⊢
          rw [← hwC] at HTU9 HB9 HG9 HJ9 HTP hz9 ⊢
          have hzC : wC.heap.size = pb + 1 := by rw [hwC, hpb]; simp
          have hpbo : ub < pb := by omega
          have H9C := Lib.hid (show Below w9.heap.size w9 wC from by rw [hwC]; exact (Below.refl _ _).alloc (Nat.le_refl _) _)
          clear hwC hpb
          have q2 := HTP.out.cell (i := 2) rfl
          have ql := HTP.out.lt
          go_wp2_with fail
          clear q2 ql
          have HPT := Lib.hid (fun k (h : k < pl.length) => putU_take l ⟨un, up, uu, ua⟩ b0 pl k h)
          go_loopw [48] (fun i wx => ∃ k : Nat, k ≤ pl.length ∧ i = .int .i64 k ∧ Hid (wC.grownBy wx (some g)) ∧ Hid (BytesAt wx g ((pl.take k).foldl (putP l ⟨un, up, uu, ua⟩) b0))) (fun i _ => pl.length - (intOf i).toNat)
          case atStart => exact ⟨0, Nat.zero_le _, rfl, Lib.hid (World.grownBy.refl _ _), HJ9⟩
          case round =>
            obtain ⟨k, hk, rfl, HGR, HBY⟩ := hrel
            have hzr := HGR.out.size
            have HBr := Lib.hid (HB9.out.gro3 HGR.out (by omega))
            have HTR := Lib.hid (HTU9.out.gro3 HGR.out hubg)
            have HFR := Lib.hid ((HTF.out.gro3 HG9.out (by omega)).gro3 HGR.out (by omega))
            by_cases hkl : k < pl.length
            · obtain ⟨b2, off2, cap2, hsl, hb2, _, hc⟩ := (ParS.get HPS.out) (by omega)
              injection hsl with hs1 hs2 hs3
              subst hs1 hs3
              obtain ⟨rv, hrv, hcc⟩ := hc k hkl
              obtain ⟨d0, d1, d2, d3, d4, d5, d6⟩ := hcc wr (below_mid HB9W.out HBr.out.bel (by have := H9C.out.size; omega))
              obtain ⟨ro, rcap, rfl, _⟩ := CellsS.shape hrv
              have hbr2 : b2 < wr.heap.size := by have := HBr.out.size; omega
              obtain ⟨⟨g1, g2⟩, g3, g4⟩ := HPQ.out _ (List.getElem_mem hkl)
              obtain ⟨hdf, hne⟩ := HPX.out _ (List.getElem_mem hkl)
              have hlr := HLR.out un pl[k] hdf
              have HST := Lib.hid (HPT.out k hkl)
              have HLV := Lib.hid (HLI.out un pl[k])
              have HPP := Lib.hid (show ∀ b, putP l ⟨un, up, uu, ua⟩ b pl[k] = if pl[k].fine = 0 then b.set (ua + pl[k].sl - 2).toNat (rnd (lvOf l un pl[k] * 255) 65535) else (b.set (ua + pl[k].sl - 2).toNat (lvOf l un pl[k] / 256)).set (ua + pl[k].fine - 2).toNat (lvOf l un pl[k] % 256) from fun b => rfl)
              generalize lvOf l un pl[k] = LV at *
              clear hc hcc hrv hdf
              generalize hbn : (pl.take (k + 1)).foldl (putP l ⟨un, up, uu, ua⟩) b0 = BN at *
              have HBN := Lib.hid hbn
              clear hbn
              generalize hbk : (pl.take k).foldl (putP l ⟨un, up, uu, ua⟩) b0 = BK at *
              clear hbk
              generalize hrk : pl[k] = rk at *
              clear hrk
              obtain ⟨xn, xg, xs, xf, xd, xb, xl⟩ := rk
              simp only at *
              obtain ⟨xb9, hxb9⟩ : ∃ xb9, xb9 = wr.heap.size := ⟨_, rfl⟩
              have hA := (Below.refl wr.heap.size wr).alloc (Nat.le_refl _) (.cells #[.string xn, .int .i64 xg, .int .i64 xs, .int .i64 xf, .int .i64 xd, .bool xb, .slice ro xl.length rcap] 42)
              have HXX := Lib.hid (TBox.new wr #[.string xn, .int .i64 xg, .int .i64 xs, .int .i64 xf, .int .i64 xd, .bool xb, .slice ro xl.length rcap] 42)
              have HBX9 := Lib.hid (HBr.out.next hA)
              have HBYX := Lib.hid (HBY.out.below hA)
              have HGX := Lib.hid (grown_bel3 HGR.out hA)
              have HTX := Lib.hid (HTR.out.below hA)
              have HFX := Lib.hid (HFR.out.below hA)
              clear hA HBY HTR HFR HBr
              go_upto_region 14 with fail
              clear d0 d1 d2 d3 d4 d5 d6
              obtain ⟨wX, hwX⟩ : ∃ wX : World, wX = wr.alloc (.cells #[.string xn, .int .i64 xg, .int .i64 xs, .int .i64 xf, .int .i64 xd, .bool xb, .slice ro xl.length rcap] 42) := ⟨_, rfl⟩
              rw [← hxb9] at HXX ⊢
              rw [← hwX] at HXX HBX9 HBYX HGX HTX HFX ⊢
              have hxbo : pb < xb9 := by omega
              clear hwX hxb9
              have x0 := HXX.out.cell (i := 0) rfl
              have x4 := HXX.out.cell (i := 4) rfl
              have xl' := HXX.out.lt
              have t0 := HTX.out.cell (i := 0) rfl
              have tl := HTX.out.lt
              have CL1 := Lib.hid (CL.out un xn xd _ HBX9.out.bel)
              rw [HLV.out] at CL1
              have hxg : xb9 ≠ g := by omega
              go_wp2_with fail
              refine CL1.out.mono ?_
              rintro e wD ⟨rfl, hbD⟩
              have HXD := Lib.hid (HXX.out.below hbD)
              have HBD := Lib.hid (HBX9.out.next hbD)
              have HYD := Lib.hid (HBYX.out.below hbD)
              have HGD := Lib.hid (grown_bel3 HGX.out hbD)
              have HTD := Lib.hid (HTX.out.below hbD)
              have HFD := Lib.hid (HFX.out.below hbD)
              clear hbD CL1 HXX HBX9 HBYX HGX HTX HFX x0 x4 xl' t0 tl HLV
              obtain ⟨i1, hi1⟩ : ∃ i : Nat, ua + xs - 2 = (i : Int) := ⟨(ua + xs - 2).toNat, by omega⟩
              have hi5 : i1 < 512 := by omega
              have hi6 : (i1 : Int) < 512 := by omega
              have hgb : g < wD.heap.size := HYD.out.lt
              have f1 := HYD.out.frozen i1
              have c1 := HYD.out.cell i1 hi5
              obtain ⟨v1, hv1⟩ : ∃ v, (BK[i1]'(by rw [HYD.out.1]; exact hi5)) = v := ⟨_, rfl⟩
              rw [hv1] at c1
              clear hv1
              obtain ⟨l0, l1⟩ := hlr
              have x3 := HXD.out.cell (i := 3) rfl
              have x2 := HXD.out.cell (i := 2) rfl
              have xl' := HXD.out.lt
              have t3 := HTD.out.cell (i := 3) rfl
              have tl := HTD.out.lt
              have z1 := HFD.out.cell (i := 1) rfl
              have zl := HFD.out.lt
              by_cases hxf : xf = 0
              · subst hxf
                have a1 : IntKind.i64.wrap (ua + xs) = ua + xs := IntWalk.i64_in _ (by omega)
                have a2 : IntKind.i64.wrap (ua + xs - 2) = (i1 : Int) := by rw [hi1]; exact IntWalk.i64_in _ (by omega)
                have HOC := Lib.hid (fun W => rOctet_any LV W)
                have HE := Lib.hid (show octR LV = rnd (LV * 255) 65535 from if_pos ⟨l0, l1⟩)
                have HNB := Lib.hid (show BK.set i1 (octR LV) = BN by rw [HE.out, HST.out, HPP.out, if_pos rfl, hi1]; rfl)
                generalize octR LV = OV at *
                generalize octE LV = OE at *
                clear hi1 HE
                go_upto_region 16 with fail
                clear c1 f1 x3 x2 xl' t3 tl z1 zl
                have KS := Lib.hid (show ∀ W, Below wD.heap.size wD W → (W.cell? ⟨g + 1, 1, none⟩ = some (.slice (some ⟨g, 0, none⟩) 512 512) ∧ W.cell? ⟨ub, 3, none⟩ = some (.int .i64 ua) ∧ W.cell? ⟨xb9, 2, none⟩ = some (.int .i64 xs)) from fun W hW => ⟨(HFD.out.below hW).cell (i := 1) rfl, (HTD.out.below hW).cell (i := 3) rfl, (HXD.out.below hW).cell (i := 2) rfl⟩)
                have KS2 := Lib.hid (show ∀ W v, Below wD.heap.size wD W → ((W.setCell ⟨g, i1, none⟩ v).cell? ⟨g + 1, 1, none⟩ = some (.slice (some ⟨g, 0, none⟩) 512 512) ∧ (W.setCell ⟨g, i1, none⟩ v).cell? ⟨ub, 3, none⟩ = some (.int .i64 ua) ∧ (W.setCell ⟨g, i1, none⟩ v).cell? ⟨xb9, 2, none⟩ = some (.int .i64 xs)) from fun W v hW => ⟨(World.cell?_setCell_other _ _ _ _ (by intro e; injection e with e; omega)).trans (KS.out W hW).1, (World.cell?_setCell_other _ _ _ _ (by intro e; injection e with e; omega)).trans (KS.out W hW).2.1, (World.cell?_setCell_other _ _ _ _ (by intro e; injection e with e; omega)).trans (KS.out W hW).2.2⟩)
                have KV := Lib.hid (show ∀ W, Below wD.heap.size wD W → BytesAt (W.setCell ⟨g, i1, none⟩ (.int .u8 OV)) g BN from fun W hW => by
                  rw [← HNB.out]
                  exact BytesAt.put (HYD.out.below hW) i1 _)
                have KG := Lib.hid (show ∀ W, Below wD.heap.size wD W → wC.grownBy (W.setCell ⟨g, i1, none⟩ (.int .u8 OV)) (some g) from fun W hW => grown_tr3 (grown_bel3 HGD.out hW) (grown_set3 _ _ _ _))
                have KC := Lib.hid (show ∀ W, Below wD.heap.size wD W → (∃ v, W.cell? ⟨g, i1, none⟩ = some v) ∧ W.frozen? ⟨g, i1, none⟩ = false ∧ g < W.heap.size from fun W hW => ⟨⟨_, (HYD.out.below hW).cell i1 hi5⟩, (HYD.out.below hW).frozen i1, (HYD.out.below hW).lt⟩)
                have hgl : g + 1 < wD.heap.size := HFD.out.lt
                have hul2 : ub < wD.heap.size := HTD.out.lt
                have hxl2 : xb9 < wD.heap.size := HXD.out.lt
                clear HYD HGD HXD HTD HFD HNB
                have hw0 : Below wD.heap.size wD wD.drew := (Below.refl _ _).drew
                go_region_held3 (fun W => W.cell? ⟨g + 1, 1, none⟩ = some (.slice (some ⟨g, 0, none⟩) 512 512) ∧ W.cell? ⟨ub, 3, none⟩ = some (.int .i64 ua) ∧ W.cell? ⟨xb9, 2, none⟩ = some (.int .i64 xs))
                  (with_reducible first | assumption | exact KS.out _ (by assumption) | exact KS.out _ (Below.refl _ _) | exact KS.out _ (Below.drew (by assumption)) | exact KS2.out _ _ (by assumption) | exact KS2.out _ _ (Below.drew (by assumption)))
                  (first
                    | (go_at_call 95; (with_reducible refine (HOC.out _).mono ?_); rintro e w' ⟨rfl, hb1⟩; have hw1 := hw0.trans (hb1.mono hw0.size); obtain ⟨⟨v1, c1⟩, f1, hgw⟩ := KC.out _ hw1; clear hb1)
                    | fail)
                all_goals have HV1 := Lib.hid (KV.out _ hw1)
                all_goals have HV2 := Lib.hid (KG.out _ hw1)
                all_goals go_wp2_with fail
                all_goals go_roundw
                all_goals first
                  | (case rel => first | exact ⟨k + 1, by omega, by first | rfl | go_num, HV2, Lib.hid (by rw [HBN.out]; exact HV1.out)⟩ | exact ⟨k + 1, by omega, by first | rfl | go_num, Lib.hid (grown_bel3 HV2.out (Below.refl _ _).drew), Lib.hid (by rw [HBN.out]; exact HV1.out.same rfl)⟩ | ((repeat apply Exists.intro); refine ⟨⟨k + 1, by omega, by first | rfl | go_num, HV2, Lib.hid (by rw [HBN.out]; exact HV1.out)⟩, ?_⟩; rfl))
                  | skip
                all_goals (simp [intOf]; omega)
              · have hx2 : ¬ (ua + xf - 2 = (i1 : Int)) := by omega
                obtain ⟨i2, hi2⟩ : ∃ i : Nat, ua + xf - 2 = (i : Int) := ⟨(ua + xf - 2).toNat, by omega⟩
                have hi7 : i2 < 512 := by omega
                have hi8 : (i2 : Int) < 512 := by omega
                have a1 : wrap64 (ua + xs) = ua + xs := IntWalk.wrap64_in _ (by omega)
                have a2 : wrap64 (ua + xs - 2) = (i1 : Int) := by rw [hi1]; exact IntWalk.wrap64_in _ (by omega)
                have a3 : wrap64 (ua + xf) = ua + xf := IntWalk.wrap64_in _ (by omega)
                have a4 : wrap64 (ua + xf - 2) = (i2 : Int) := by rw [hi2]; exact IntWalk.wrap64_in _ (by omega)
                have HNB := Lib.hid (show (BK.set i1 (LV / 256)).set i2 (LV % 256) = BN by rw [HST.out, HPP.out, if_neg hxf, hi1, hi2]; rfl)
                have hq1 : LV.tdiv 256 = LV / 256 := Int.tdiv_eq_ediv_of_nonneg l0
                have hq2 : LV.tmod 256 = LV % 256 := Int.tmod_eq_emod_of_nonneg l0
                have hQ0 : 0 ≤ LV / 256 ∧ LV / 256 ≤ 255 := by omega
                have hM0 : 0 ≤ LV % 256 ∧ LV % 256 ≤ 255 := by omega
                generalize LV / 256 = q at *
                generalize LV % 256 = m at *
                have a5 : wrap64 q = q := IntWalk.wrap64_in _ (by omega)
                have a6 : IntKind.u8.wrap q = q := IntWalk.u8_in _ (by omega)
                have a7 : wrap64 m = m := IntWalk.wrap64_in _ (by omega)
                have a8 : IntKind.u8.wrap m = m := IntWalk.u8_in _ (by omega)
                have hxf2 : (xf == 0) = false := by simpa using hxf
                have HSS := Lib.hid (grown_set3 wD g i1 (.int .u8 q))
                have HY1 := Lib.hid (BytesAt.put HYD.out i1 q)
                have HG1 := Lib.hid (show wC.grownBy (wD.setCell ⟨g, i1, none⟩ (.int .u8 q)) (some g) from grown_tr3 HGD.out HSS.out)
                have HX1 := Lib.hid (HXD.out.gro3 HSS.out hxg)
                have HT1 := Lib.hid (HTD.out.gro3 HSS.out hubg)
                have HF1 := Lib.hid (HFD.out.gro3 HSS.out (by omega))
                clear hx2
                go_upto_region 18 with fail
                clear c1 f1 x3 x2 xl' t3 tl z1 zl hgb
                generalize hwF : wD.setCell ⟨g, i1, none⟩ (.int .u8 q) = wF at *
                clear hwF HYD HGD HXD HTD HFD HSS
                have hgb : g < wF.heap.size := HY1.out.lt
                have f2 := HY1.out.frozen i2
                have c2 := HY1.out.cell i2 hi7
                obtain ⟨v2, hv2⟩ : ∃ v, ((BK.set i1 q)[i2]'(by rw [HY1.out.1]; exact hi7)) = v := ⟨_, rfl⟩
                rw [hv2] at c2
                clear hv2
                have x3 := HX1.out.cell (i := 3) rfl
                have xl' := HX1.out.lt
                have t3 := HT1.out.cell (i := 3) rfl
                have tl := HT1.out.lt
                have z1 := HF1.out.cell (i := 1) rfl
                have zl := HF1.out.lt
                have HV1 := Lib.hid (show BytesAt (wF.setCell ⟨g, i2, none⟩ (.int .u8 m)) g BN from by
                  rw [← HNB.out]
                  exact BytesAt.put HY1.out i2 _)
                have HV2 := Lib.hid (show wC.grownBy (wF.setCell ⟨g, i2, none⟩ (.int .u8 m)) (some g) from grown_tr3 HG1.out (grown_set3 _ _ _ _))
                go_wp2_with fail
                go_roundw
                case rel => first | exact ⟨k + 1, by omega, by first | rfl | go_num, HV2, Lib.hid (by rw [HBN.out]; exact HV1.out)⟩ | ((repeat apply Exists.intro); refine ⟨⟨k + 1, by omega, by first | rfl | go_num, HV2, Lib.hid (by rw [HBN.out]; exact HV1.out)⟩, ?_⟩; rfl)
                case measure => simp [intOf]; omega
            · have hkk : k = pl.length := by omega
              subst hkk
              have HB2' := Lib.hid (show BytesAt wr g ((pl.take pl.length).foldl (putP l ⟨un, up, uu, ua⟩) b0) from HBY.out)
              rw [List.take_length] at HB2'
              have HG2 := Lib.hid (grown_tr3 HG9.out HGR.out)
              go_wp2_with fail
              go_roundw
              case rel => first | exact ⟨j + 1, by omega, by first | rfl | go_num, HG2, by rw [HN.out]; exact HB2'⟩ | ((repeat apply Exists.intro); refine ⟨⟨j + 1, by omega, by first | rfl | go_num, HG2, by rw [HN.out]; exact HB2'⟩, ?_⟩; rfl)
              case measure => simp [intOf]; omega
        · have hjj : j = x.units.length := by omega
          subst hjj
          have HBF := Lib.hid (show BytesAt wo g (frmAt x l U).sl from by
            have h := HBJ.out
            rwa [List.take_length] at h)
          obtain ⟨ls, hol, hlm, hly⟩ := HOW.out
          have hlen : ls.length ≤ 10000000 := by have h1 := congrArg List.length hlm; rw [List.length_map, List.length_map, List.length_take] at h1; omega
          have hob : ∀ q, ov.ownBlock = some q → q < g := fun q hq => by rw [HGQ.out]; exact (World.ownsRow.lt hol q hq).2
          have hol2 := (hol.below HRA.out).gro3 HGA.out (fun q hq e => by have := hob q hq; omega)
          obtain ⟨oo, oc, rfl⟩ := hol2.shape
          have HOA := Lib.hid (hol2.below ((Below.refl _ _).alloc (Nat.le_refl _) (.cells #[.int .i64 U, frmV g] 64)))
          have HBW := Lib.hid (bel_grown3 HWA.out HGA.out HWA.out.size (show w2.heap.size ≤ g by omega))
          have HBA' := Lib.hid (HBW.out.alloc HBW.out.size (.cells #[.int .i64 U, frmV g] 64))
          have HLM := Lib.hid hlm
          have HLY := Lib.hid (show ∀ y ∈ ls, ∃ g', y.2 = frmV g' ∧ BytesAt wo g' y.1.sl from fun y hy => by
            obtain ⟨g', e1, e2⟩ := hly y hy
            have hlt := e2.lt
            have hgq := HGQ.out
            exact ⟨g', e1, (e2.below HRA.out).same (HGA.out.block g' (by omega) (by intro e; injection e with e; omega))⟩)
          have HTFo := Lib.hid (HTF.out.gro3 HGA.out (by omega))
          have z0 := HTFo.out.cell (i := 0) rfl
          have z1 := HTFo.out.cell (i := 1) rfl
          have zl := HTFo.out.lt
          clear hol hol2 hlm hly HOW hob HBJ
          unfold frmV at HOA HBA'
          go_wp2_with (first | (at_builtin; refine wpList_ownF rfl _ _ rfl w2.heap.size 1 _ _ U (frmAt x l U).sl g ⟨wo.heap.size, 0, none⟩ rfl rfl HOA.out (ownF_new wo U (frmAt x l U).sl g _) hlen (by have := HBW.out.size; simp; omega) ?_; intro v' w' hown hgrow) | fail)
          have HKB := Lib.hid (show ∀ g' b', BytesAt wo g' b' → BytesAt w' g' b' from fun g' b' h => ⟨h.1, (Other.row (T' := 64) HOA.out hgrow).tbox (h.2.alloc _) (by decide)⟩)
          have HV := Lib.hid (show ∃ ls, OwnF w2.heap.size w' v' ls ∧ ls.map (·.1) = (UL.take (n + 1)).map (frmAt x l) ∧ ∀ y ∈ ls, ∃ g, y.2 = frmV g ∧ BytesAt w' g y.1.sl from ⟨_, hown, by rw [List.map_append, HLM.out, HTK.out]; rfl, fun y hy => by
            rcases List.mem_append.1 hy with h | h
            · obtain ⟨g', e1, e2⟩ := HLY.out y h
              exact ⟨g', e1, HKB.out _ _ e2⟩
            · simp at h
              subst h
              exact ⟨g, rfl, HKB.out _ _ HBF.out⟩⟩)
          have HBV := Lib.hid (HOA.out.keeps HBA'.out hgrow (Nat.le_refl _) (by have := HBW.out.size; simp; omega))
          clear hown hgrow z0 z1 zl
          go_wp2_with fail
          go_roundw
          case rel => exact ⟨n + 1, _, by omega, by first | rfl | go_num, rfl, HV, HBV⟩
          case measure => simp [intOf]; omega
    · have hnn : n = UL.length := by omega
      subst hnn
      have HBE := Lib.hid (HB2.out.next HBN.out).bel
      have HR2 := Lib.hid (show (UL.take UL.length).map (frmAt x l) = FV from by rw [List.take_length]; exact HFV.out)
      go_wp2_with fail
      exact bodyPost_ret (v := ov) (by simp [results, Try.results66, go_sem]) rfl ⟨ov, rfl, by
        obtain ⟨ls, hol, hlm, hly⟩ := HOW.out
        rw [← HR2.out, ← hlm]
        refine hol.frmS fun y hy => ?_
        obtain ⟨g, e1, e2⟩ := hly y hy
        rw [e1]
        exact e2.bytS, HBE.out⟩
end Go.Proofs.Ytabalicembhjmaa
