/- The reference's Exchange. (printed by wip/gen/gen_rexchange.py) -/
import Derived.Test.YtabalicembhjmaaT33M26
import Derived.Test.YtabalicembhjmaaT33M29
import Derived.Test.YtabalicembhjmaaT33M28
import Derived.Test.YtabalicembhjmaaT33M24
import Derived.Test.YtabalicembhjmaaT33M25
import Derived.Test.YtabalicembhjmaaT33M42
import Derived.Test.YtabalicembhjmaaT33M18
import Derived.Test.YtabalicembhjmaaT33M16
import Derived.Test.YtabalicembhjmaaT33M14
import Derived.Test.YtabalicembhjmaaT33M19
import Derived.Test.YtabalicembhjmaaT33M21
import Derived.Test.YtabalicembhjmaaT33M27
import Derived.Deep.DeepCutAuto

namespace Go.Proofs.Ytabalicembhjmaa
open Go.RowKit
set_option linter.unusedVariables false
set_option linter.unusedSimpArgs false

set_option maxRecDepth 100000 in
set_option maxHeartbeats 32000000 in
theorem rexchange_any (x : Rig) (lv uv sv : Value) (n : Int) (nm : ByteArray) (l : List Stg) (w : World) (h : RigAt w.heap.size w x lv uv) (hf : RigFit x) (hn : I64 n) (hS : StgS w.heap.size w sv l) (hs : ∀ s ∈ l, StgFit s) :
    Calls Try.prog 18 #[rigV lv uv, .int .i64 n, .string nm, sv] w fun e w' => ∃ lv' uv' kv qv, e = .returned (.tuple #[rigV lv' uv', kv, qv, .int .i64 (exF x n nm l)]) ∧ ExR w' x n nm l lv' uv' kv qv ∧ Below w.heap.size w w' := by
  have CC := Lib.hid (fun W (hb : Below w.heap.size w W) => rckRig_any x lv uv W ((h.below hb).more hb.size) hf)
  have CP := Lib.hid (fun (nm : ByteArray) W (hb : Below w.heap.size w W) => rprofile_base w.heap.size lv x.lib nm W hb.size (h.lib.below hb))
  have CU := Lib.hid (fun W (hb : Below w.heap.size w W) => runit_any x lv uv n W ((h.below hb).more hb.size))
  have CK := Lib.hid (fun (hx : chkRig x = 0) W (hb : Below w.heap.size w W) => rckStgs_any x lv uv l sv W ((h.below hb).more hb.size) hx ((hS.below hb).more hb.size) hs)
  have CF := Lib.hid (fun (hx : chkRig x = 0) (U a s : Int) (h1 : 1 ≤ a) (h2 : a ≤ 512) (h3 : 1 ≤ s) (h4 : s ≤ 512) W (hb : Below w.heap.size w W) => rfits_any x lv uv U a s n W ((h.below hb).more hb.size) hx h1 h2 h3 h4)
  have CT := Lib.hid (fun (hx : chkRig x = 0) (s : Int) (h1 : 1 ≤ s) (h2 : s ≤ 512) W (hb : Below w.heap.size w W) => rroom_any x lv uv s n W ((h.below hb).more hb.size) hx h1 h2)
  have CY := Lib.hid (fun (hx : chkRig x = 0) W (hb : Below w.heap.size w W) => units_clone w.heap.size uv x.units.length (x.units.flatMap untC) W hb.size (rig_sizes hx).2 (flat_len untC 4 (fun _ => rfl) _) (one_untC' _) (rowC_of (h.units.below hb)))
  have HLL := Lib.hid h.lib
  have V1 := Lib.hid (fun (h : ¬ chkRig x = 0) => exF_bad (n := n) (nm := nm) (l := l) h)
  have V2 := Lib.hid (fun (h : chkRig x = 0) hu => exF_none (n := n) (nm := nm) (l := l) h hu)
  have V3 := Lib.hid (fun (h : chkRig x = 0) u hu hp => exF_name (n := n) (nm := nm) (l := l) (u := u) h hu hp)
  have V4 := Lib.hid (fun (h : chkRig x = 0) u p hu hp => exF_some (n := n) (nm := nm) (l := l) (u := u) (p := p) h hu hp)
  have HPU := Lib.hid (fun (hx : chkRig x = 0) (hh : hasU x.units n = true) => find_pos (asc_units hx) hh)
  have HNU := Lib.hid (fun (hh : hasU x.units n = false) => find_no hh)
  have HIX := Lib.hid (fun (h : chkRig x = 0) => idxU_has (asc_units h) n)
  have HGU := Lib.hid (UntS.get h.units)
  have HSG := Lib.hid hS
  obtain ⟨uo, ucap, rfl, _⟩ := CellsS.shape h.units
  obtain ⟨lo, lcap, rfl⟩ := prfS_shape h.lib
  obtain ⟨so, scap, rfl, _⟩ := CellsS.shape hS
  unfold rigV at *
  have HB0 := Lib.hid (RigBox.start w (.slice lo x.lib.length lcap) (.slice uo x.units.length ucap))
  have C1 := Lib.hid (CC.out _ HB0.out.bel)
  clear CC h hf hS hs
  unfold ExR
  generalize exF x n nm l = FF at *
  go_enter Try.func18, Try.ntmps18
  go_wp2_with fail
  refine C1.out.mono ?_
  rintro e w1 ⟨rfl, hb⟩
  have HB1 := Lib.hid (HB0.out.next hb)
  clear hb C1 HB0
  have p0 := HB1.out.par.cell (i := 0) rfl
  have p1 := HB1.out.par.cell (i := 1) rfl
  have hz1 := HB1.out.size
  by_cases hE : chkRig x = 0
  rotate_left
  · skip
    have HV := Lib.hid (show FF = (chkRig x) from V1.out hE)
    have HNE := Lib.hid hE
    have r0 := HB1.out.res.cell (i := 0) rfl
    have r1 := HB1.out.res.cell (i := 1) rfl
    have fr0 := HB1.out.res.frozen 0
    have fr1 := HB1.out.res.frozen 1
    have hrs := HB1.out.size
    go_wp2_with fail
    exact bodyPost_ret (v := .tuple #[.agg #[.slice none 0 0, .slice none 0 0], .slice none 0 0, .slice none 0 0, .int .i64 (chkRig x)]) (by simp [results, Try.results18, go_sem, r0, r1]) rfl ⟨.slice none 0 0, .slice none 0 0, .slice none 0 0, .slice none 0 0, by rw [HV.out], ⟨fun _ => ⟨rfl, rfl, rfl, rfl⟩, fun h0 => absurd (HV.out.symm.trans h0) (by first | exact HNE.out | decide)⟩, HB1.out.done _ _⟩
  rw [hE]
  have CU1 := Lib.hid (CU.out _ HB1.out.bel)
  clear CU V1
  go_wp2_with fail
  refine CU1.out.mono ?_
  rintro e w2 ⟨rfl, hb⟩
  have HB2 := Lib.hid (HB1.out.next hb)
  clear hb CU1 p0 p1 HB1 hz1
  have p0 := HB2.out.par.cell (i := 0) rfl
  have p1 := HB2.out.par.cell (i := 1) rfl
  have hz2 := HB2.out.size
  cases hP : profOf x.lib nm.data.toList with
  | none =>
    have CP1 := Lib.hid (CP.out nm _ HB2.out.bel)
    rw [hP] at CP1
    simp only [Option.isSome_none, Option.isSome_some] at *
    cases hH : hasU x.units n with
    | false =>
      rw [(HIX.out hE).2 hH]
      have HV := Lib.hid (show FF = 8 from V2.out hE (HNU.out hH))
      have HNE : Hid True := trivial
      go_wp2_with fail
      refine CP1.out.mono ?_
      rintro e w3 ⟨pv, rfl, hpr, hb⟩
      obtain rfl : pv = .agg #[.string ⟨#[]⟩, .int .i64 0, .slice none 0 0] := hpr
      have HB3 := Lib.hid ((HB2.out.next hb).alloc (.cells #[.string ⟨#[]⟩, .int .i64 0, .slice none 0 0] 70))
      have hs3 := (HB2.out.next hb).size
      clear hb CP1 p0 p1 hz2 HB2
      have r0 := HB3.out.res.cell (i := 0) rfl
      have r1 := HB3.out.res.cell (i := 1) rfl
      have fr0 := HB3.out.res.frozen 0
      have fr1 := HB3.out.res.frozen 1
      have hrs := HB3.out.size
      go_wp2_with fail
      exact bodyPost_ret (v := .tuple #[.agg #[.slice none 0 0, .slice none 0 0], .slice none 0 0, .slice none 0 0, .int .i64 8]) (by simp [results, Try.results18, go_sem, r0, r1]) rfl ⟨.slice none 0 0, .slice none 0 0, .slice none 0 0, .slice none 0 0, by rw [HV.out], ⟨fun _ => ⟨rfl, rfl, rfl, rfl⟩, fun h0 => absurd (HV.out.symm.trans h0) (by first | exact HNE.out | decide)⟩, HB3.out.done _ _⟩
    | true =>
      obtain ⟨hk, hfd, hnum⟩ := HPU.out hE hH
      rw [(HIX.out hE).1 hH]
      have HV := Lib.hid (show FF = 5 from V3.out hE _ hfd hP)
      have HNE : Hid True := trivial
      go_wp2_with fail
      refine CP1.out.mono ?_
      rintro e w3 ⟨pv, rfl, hpr, hb⟩
      obtain rfl : pv = .agg #[.string ⟨#[]⟩, .int .i64 0, .slice none 0 0] := hpr
      have HB3 := Lib.hid ((HB2.out.next hb).alloc (.cells #[.string ⟨#[]⟩, .int .i64 0, .slice none 0 0] 70))
      have hs3 := (HB2.out.next hb).size
      clear hb CP1 p0 p1 hz2 HB2
      have r0 := HB3.out.res.cell (i := 0) rfl
      have r1 := HB3.out.res.cell (i := 1) rfl
      have fr0 := HB3.out.res.frozen 0
      have fr1 := HB3.out.res.frozen 1
      have hrs := HB3.out.size
      go_wp2_with fail
      exact bodyPost_ret (v := .tuple #[.agg #[.slice none 0 0, .slice none 0 0], .slice none 0 0, .slice none 0 0, .int .i64 5]) (by simp [results, Try.results18, go_sem, r0, r1]) rfl ⟨.slice none 0 0, .slice none 0 0, .slice none 0 0, .slice none 0 0, by rw [HV.out], ⟨fun _ => ⟨rfl, rfl, rfl, rfl⟩, fun h0 => absurd (HV.out.symm.trans h0) (by first | exact HNE.out | decide)⟩, HB3.out.done _ _⟩
  | some p =>
    have CP1 := Lib.hid (CP.out nm _ HB2.out.bel)
    rw [hP] at CP1
    simp only [Option.isSome_none, Option.isSome_some] at *
    go_wp2_with fail
    refine CP1.out.mono ?_
    rintro e w3 ⟨pv, rfl, hpr, hb⟩
    obtain ⟨qv, rfl, hps⟩ := hpr
    obtain ⟨po, pcap, rfl⟩ := parS_shape hps
    have HPS := Lib.hid hps
    have HB3X := Lib.hid (HB2.out.next hb).bel
    have HEE := Lib.hid (show chkRig x = 0 from hE)
    have HB3 := Lib.hid ((HB2.out.next hb).alloc (.cells #[.string p.name, .int .i64 p.size, .slice po p.pars.length pcap] 70))
    have HT3 := Lib.hid (TBox.new w3 #[.string p.name, .int .i64 p.size, .slice po p.pars.length pcap] 70)
    have hs3 := (HB2.out.next hb).size
    have HS3 := Lib.hid hs3
    clear hb CP1 p0 p1 hz2 HB2 hps
    have p0 := HB3.out.par.cell (i := 0) rfl
    have p1 := HB3.out.par.cell (i := 1) rfl
    cases hH : hasU x.units n with
    | false =>
      rw [(HIX.out hE).2 hH]
      have HV := Lib.hid (show FF = 8 from V2.out hE (HNU.out hH))
      have HNE : Hid True := trivial
      have r0 := HB3.out.res.cell (i := 0) rfl
      have r1 := HB3.out.res.cell (i := 1) rfl
      have fr0 := HB3.out.res.frozen 0
      have fr1 := HB3.out.res.frozen 1
      have hrs := HB3.out.size
      go_wp2_with fail
      exact bodyPost_ret (v := .tuple #[.agg #[.slice none 0 0, .slice none 0 0], .slice none 0 0, .slice none 0 0, .int .i64 8]) (by simp [results, Try.results18, go_sem, r0, r1]) rfl ⟨.slice none 0 0, .slice none 0 0, .slice none 0 0, .slice none 0 0, by rw [HV.out], ⟨fun _ => ⟨rfl, rfl, rfl, rfl⟩, fun h0 => absurd (HV.out.symm.trans h0) (by first | exact HNE.out | decide)⟩, HB3.out.done _ _⟩
    | true =>
    obtain ⟨hk, hfd, hnum⟩ := HPU.out hE hH
    rw [(HIX.out hE).1 hH]
    have hr9 : 1 ≤ n ∧ n ≤ 9999 := by have := num_range hE (List.getElem_mem hk); rw [hnum] at this; exact this
    have HFD := Lib.hid hfd
    have HNM := Lib.hid hnum
    have CK1 := Lib.hid (CK.out hE)
    have HEV := Lib.hid (V4.out hE _ p HFD.out hP)
    have CK2 := Lib.hid (CK1.out _ HB3.out.bel)
    clear hfd hnum hH HPU HNU V2 V3 V4 CK HIX
    go_wp2_with fail
    refine CK2.out.mono ?_
    rintro e w5 ⟨rfl, hb⟩
    have HB5 := Lib.hid (HB3.out.next hb)
    have HT5 := Lib.hid (HT3.out.below hb)
    have HS5 := Lib.hid (show w.heap.size + 2 ≤ w3.heap.size ∧ w3.heap.size < w5.heap.size from ⟨HS3.out, HT5.out.lt⟩)
    clear hb CK1 CK2 p0 p1 HB3 HT3 hs3 HS3
    by_cases hC : chkStgs x l = 0
    rotate_left
    · have HV := Lib.hid (show FF = chkStgs x l by rw [HEV.out, if_pos hC])
      have HNE := Lib.hid hC
      have r0 := HB5.out.res.cell (i := 0) rfl
      have r1 := HB5.out.res.cell (i := 1) rfl
      have fr0 := HB5.out.res.frozen 0
      have fr1 := HB5.out.res.frozen 1
      have hrs := HB5.out.size
      go_wp2_with fail
      exact bodyPost_ret (v := .tuple #[.agg #[.slice none 0 0, .slice none 0 0], .slice none 0 0, .slice none 0 0, .int .i64 (chkStgs x l)]) (by simp [results, Try.results18, go_sem, r0, r1]) rfl ⟨.slice none 0 0, .slice none 0 0, .slice none 0 0, .slice none 0 0, by rw [HV.out], ⟨fun _ => ⟨rfl, rfl, rfl, rfl⟩, fun h0 => absurd (HV.out.symm.trans h0) (by first | exact HNE.out | decide)⟩, HB5.out.done _ _⟩
    rw [hC]
    have HEW := Lib.hid (show FF = if (exAt x n p.size (x.units[posU x.units n]'hk)).isNone then 13 else 0 by rw [HEV.out, if_neg (by simpa using hC)])
    have HCQ := Lib.hid hC
    have HPQ := Lib.hid hP
    have CY1 := Lib.hid (CY.out hE)
    clear hC hP HEV CY
    obtain ⟨old, hop, hob⟩ := par_right hE (List.getElem_mem hk)
    have hpz := size_pos (chkRig_zero hE).1 (u := ⟨0, nm, 0, 0⟩) HPQ.out
    obtain ⟨_, q', hq', hub⟩ := ((chkRig_iff x).1 hE).2.2.1 _ (List.getElem_mem hk)
    obtain ⟨b1, b2, _⟩ := untBad_false hub
    obtain ⟨b, off, cap', hsl, hbb, _, hc⟩ := HGU.out (by omega)
    injection hsl with hs1 hs2 hs3
    subst hs1
    subst hs3
    obtain ⟨d0, d1, d2, d3⟩ := hc _ hk w5 HB5.out.bel
    have hbr : b < w5.heap.size := by have := HB5.out.size; omega
    clear hc hub hq'
    have HOP := Lib.hid hop
    clear hop HGU
    generalize hug : x.units[posU x.units n]'hk = u at *
    have HUG := Lib.hid hug
    clear hug
    obtain ⟨un, up, uu, ua⟩ := u
    simp only at *
    have p0 := HB5.out.par.cell (i := 0) rfl
    have p1 := HB5.out.par.cell (i := 1) rfl
    have hz5 : w.heap.size < w5.heap.size := by have := HB5.out.size; omega
    have HTU5 := Lib.hid (TBox.new w5 #[.int .i64 un, .string up, .int .i64 uu, .int .i64 ua] 67)
    have HB6 := Lib.hid (HB5.out.alloc (.cells #[.int .i64 un, .string up, .int .i64 uu, .int .i64 ua] 67))
    have H56 := Lib.hid ((Below.refl w5.heap.size w5).alloc (Nat.le_refl _) (.cells #[.int .i64 un, .string up, .int .i64 uu, .int .i64 ua] 67))
    have CP2 := Lib.hid (CP.out up _ HB6.out.bel)
    rw [show profOf x.lib up.data.toList = some old from HOP.out] at CP2
    simp only [Option.isSome_some] at CP2
    clear CP
    go_wp2_with fail
    refine CP2.out.mono ?_
    rintro e w7 ⟨pv2, rfl, hpr, hb⟩
    obtain ⟨qv2, rfl, hps⟩ := hpr
    obtain ⟨qo, qcap, rfl⟩ := parS_shape hps
    have HB7 := Lib.hid (HB6.out.next hb)
    have HB7X := Lib.hid HB7.out.bel
    have HS7 := Lib.hid HB7.out.size
    have HTU7 := Lib.hid (HTU5.out.below hb)
    have HOS := Lib.hid hps
    have H77 := Lib.hid (H56.out.trans (hb.mono (by simp)))
    have HT7 := Lib.hid ((HT5.out.below H56.out).below hb)
    clear hb hps CP2 p0 p1 hz5 hbr d0 d1 d2 d3 HB6
    have h77 := HTU7.out.lt
    have HBa := Lib.hid (HB7.out.alloc (.cells #[.string old.name, .int .i64 old.size, .slice qo old.pars.length qcap] 70))
    have HTUa := Lib.hid (HTU7.out.alloc (.cells #[.string old.name, .int .i64 old.size, .slice qo old.pars.length qcap] 70))
    have HTa := Lib.hid (HT7.out.alloc (.cells #[.string old.name, .int .i64 old.size, .slice qo old.pars.length qcap] 70))
    have HOa := Lib.hid (TBox.new w7 #[.string old.name, .int .i64 old.size, .slice qo old.pars.length qcap] 70)
    have H5a := Lib.hid (H77.out.alloc (by omega) (.cells #[.string old.name, .int .i64 old.size, .slice qo old.pars.length qcap] 70))
    go_upto_region 15 with fail
    obtain ⟨wy, hwy⟩ : ∃ wy : World, wy = w7.alloc (.cells #[.string old.name, .int .i64 old.size, .slice qo old.pars.length qcap] 70) := ⟨_, rfl⟩
    rw [← hwy] at HBa HTUa HTa HOa H5a ⊢
    clear hwy HTU7 HT7 HB7 H77
    have hltu := HTUa.out.lt
    have fz1 := HTUa.out.frozen 1
    have x1 := HTUa.out.cell (i := 1) rfl
    have h3y := HTa.out.lt
    have h7y := HOa.out.lt
    have h35 := HT5.out.lt
    have hb5 := HB5.out.size
    have HB8 := Lib.hid (HBa.out.set (b := w5.heap.size) (by omega) 1 (.string nm))
    have H58 := Lib.hid (H5a.out.setCell (p := ⟨w5.heap.size, 1, none⟩) (Nat.le_refl _) (.string nm))
    have HTU8 := Lib.hid (show TBox (wy.setCell ⟨w5.heap.size, 1, none⟩ (.string nm)) w5.heap.size 67 #[.int .i64 un, .string nm, .int .i64 uu, .int .i64 ua] from HTUa.out.set 1 (.string nm))
    have HT8 := Lib.hid (HTa.out.setOther (b' := w5.heap.size) (i := 1) (by omega) (.string nm))
    have HTO8 := Lib.hid (HOa.out.setOther (b' := w5.heap.size) (i := 1) (by omega) (.string nm))
    clear h35 hb5
    go_upto_region 16 with fail
    obtain ⟨w8, hw8⟩ : ∃ w8 : World, w8 = wy.setCell ⟨w5.heap.size, 1, none⟩ (.string nm) := ⟨_, rfl⟩
    rw [← hw8] at HB8 H58 HTU8 HT8 HTO8 ⊢
    clear hw8 x1 fz1 hltu h3y h7y HBa HTUa HTa HOa H5a
    have cf := CF.out hE uu ua p.size (by omega) (by omega) hpz.1 hpz.2 w8 HB8.out.bel
    rw [fits_free' hE uu ua p.size n hpz.1] at cf
    have CF1 := Lib.hid cf
    clear cf CF
    have p0 := HB8.out.par.cell (i := 0) rfl
    have p1 := HB8.out.par.cell (i := 1) rfl
    have x2 := HTU8.out.cell (i := 2) rfl
    have x3 := HTU8.out.cell (i := 3) rfl
    have hxl := HTU8.out.lt
    have y1 := HT8.out.cell (i := 1) rfl
    have hyl := HT8.out.lt
    have hz8 : w.heap.size < w8.heap.size := by have := HB8.out.size; omega
    go_wp2_with fail
    refine CF1.out.mono ?_
    rintro e wb ⟨rfl, hb⟩
    have HBb := Lib.hid (HB8.out.next hb)
    have H5b := Lib.hid (H58.out.trans (hb.mono (by omega)))
    have HTUb := Lib.hid (HTU8.out.below hb)
    have HTb := Lib.hid (HT8.out.below hb)
    have HOb := Lib.hid (HTO8.out.below hb)
    have CT1 := Lib.hid (CT.out hE p.size hpz.1 hpz.2 wb HBb.out.bel)
    clear CF1 hb HB8 H58 HTU8 HT8 HTO8 p0 p1 x2 x3 y1 hxl hyl hz8 CT
    go_upto_if 88 with fail
    go_cut [] (fun wx => ∃ r : Int × Int, exAt x n p.size ⟨un, up, uu, ua⟩ = some r ∧ RigBox w (.slice lo x.lib.length lcap) (.slice (some ⟨b, off, none⟩) x.units.length ucap) wx ∧ Below w5.heap.size w5 wx ∧ TBox wx w5.heap.size 67 #[.int .i64 un, .string nm, .int .i64 r.1, .int .i64 r.2] ∧ TBox wx w3.heap.size 70 #[.string p.name, .int .i64 p.size, .slice po p.pars.length pcap] ∧ TBox wx w7.heap.size 70 #[.string old.name, .int .i64 old.size, .slice qo old.pars.length qcap])
    case first =>
      cases hfa : freeAt (usBut x n) uu ua p.size
      · have HXR := Lib.hid (show exAt x n p.size ⟨un, up, uu, ua⟩ = roomO (usBut x n) p.size from exAt_room (u := ⟨un, up, uu, ua⟩) hfa)
        have p0 := HBb.out.par.cell (i := 0) rfl
        have p1 := HBb.out.par.cell (i := 1) rfl
        have y1 := HTb.out.cell (i := 1) rfl
        have hyl := HTb.out.lt
        have hzb : w.heap.size < wb.heap.size := by have := HBb.out.size; omega
        cases hro : roomO (usBut x n) p.size with
        | none =>
          have HV := Lib.hid (show FF = 13 by rw [HEW.out, HXR.out, hro]; rfl)
          have HNE : Hid True := trivial
          rw [hro] at CT1
          unfold roomV at CT1
          go_wp2_with fail
          refine CT1.out.mono ?_
          rintro e w' ⟨rfl, hb⟩
          have HB9 := Lib.hid (HBb.out.next hb)
          clear hb p0 p1 y1 hyl hzb
          have r0 := HB9.out.res.cell (i := 0) rfl
          have r1 := HB9.out.res.cell (i := 1) rfl
          have fr0 := HB9.out.res.frozen 0
          have fr1 := HB9.out.res.frozen 1
          have hrs := HB9.out.size
          go_wp2_with fail
          exact bodyPost_ret (v := .tuple #[.agg #[.slice none 0 0, .slice none 0 0], .slice none 0 0, .slice none 0 0, .int .i64 13]) (by simp [results, Try.results18, go_sem, r0, r1]) rfl ⟨.slice none 0 0, .slice none 0 0, .slice none 0 0, .slice none 0 0, by rw [HV.out], ⟨fun _ => ⟨rfl, rfl, rfl, rfl⟩, fun h0 => absurd (HV.out.symm.trans h0) (by first | exact HNE.out | decide)⟩, HB9.out.done _ _⟩
        | some r =>
          obtain ⟨r1, r2⟩ := r
          rw [hro] at CT1 HXR
          unfold roomV at CT1
          go_wp2_with fail
          refine CT1.out.mono ?_
          rintro e w' ⟨rfl, hb⟩
          have HBd := Lib.hid (HBb.out.next hb)
          have HTUd := Lib.hid (HTUb.out.below hb)
          have HTd := Lib.hid (HTb.out.below hb)
          have HOd := Lib.hid (HOb.out.below hb)
          have H5d := Lib.hid (H5b.out.trans (hb.mono (by have := H5b.out.size; omega)))
          clear hb p0 p1 y1 hyl hzb
          have x2 := HTUd.out.cell (i := 2) rfl
          have x3 := HTUd.out.cell (i := 3) rfl
          have f2 := HTUd.out.frozen 2
          have f3 := HTUd.out.frozen 3
          have hxl := HTUd.out.lt
          have HB9 := Lib.hid ((HBd.out.set (b := w5.heap.size) (by have := HB5.out.size; omega) 2 (.int .i64 r1)).set (b := w5.heap.size) (by have := HB5.out.size; omega) 3 (.int .i64 r2))
          have H59 := Lib.hid ((H5d.out.setCell (p := ⟨w5.heap.size, 2, none⟩) (Nat.le_refl _) (.int .i64 r1)).setCell (p := ⟨w5.heap.size, 3, none⟩) (Nat.le_refl _) (.int .i64 r2))
          have HTU9 := Lib.hid ((HTUd.out.set 2 (.int .i64 r1)).set 3 (.int .i64 r2))
          have HT9 := Lib.hid ((HTd.out.setOther (b' := w5.heap.size) (i := 2) (by have := HT5.out.lt; omega) (.int .i64 r1)).setOther (b' := w5.heap.size) (i := 3) (by have := HT5.out.lt; omega) (.int .i64 r2))
          have HTO9 := Lib.hid ((HOd.out.setOther (b' := w5.heap.size) (i := 2) (by omega) (.int .i64 r1)).setOther (b' := w5.heap.size) (i := 3) (by omega) (.int .i64 r2))
          go_wp2_with fail
          go_meet
          exact ⟨(r1, r2), HXR.out, HB9.out, H59.out, HTU9.out, HT9.out, HTO9.out⟩
      · have HXR := Lib.hid (show exAt x n p.size ⟨un, up, uu, ua⟩ = some (uu, ua) from exAt_free (u := ⟨un, up, uu, ua⟩) hfa)
        go_wp2_with fail
        go_meet
        exact ⟨(uu, ua), HXR.out, HBb.out, H5b.out, HTUb.out, HTb.out, HOb.out⟩
    case rest =>
      obtain ⟨r, hxr, hbx, hb5, htu, htp, hto⟩ := hcut
      obtain ⟨w9, rfl⟩ : ∃ y, y = wc := ⟨wc, rfl⟩
      obtain ⟨r1, r2⟩ := r
      simp only at htu
      have HXR := Lib.hid hxr
      have HB9 := Lib.hid hbx
      have HTU9 := Lib.hid htu
      have HTP9 := Lib.hid htp
      have HTO9 := Lib.hid hto
      clear hxr hbx hb5 htu htp hto HBb H5b HTUb HTb HOb h77 CT1
      have p0 := HB9.out.par.cell (i := 0) rfl
      have p1 := HB9.out.par.cell (i := 1) rfl
      have hz9 : w.heap.size < w9.heap.size := by have := HB9.out.size; omega
      have CY2 := Lib.hid (CY1.out _ HB9.out.bel)
      clear CY1
      go_wp2_with fail
      refine CY2.out.mono ?_
      rintro e w10 ⟨v', rfl, hown, hb⟩
      have HB10 := Lib.hid (HB9.out.next hb)
      have HOU := Lib.hid (show OwnU (w.heap.size + 2) w10 v' x.units from own_base hown HB9.out.size)
      have HTU10 := Lib.hid (HTU9.out.below hb)
      have HTP10 := Lib.hid (HTP9.out.below hb)
      have HTO10 := Lib.hid (HTO9.out.below hb)
      obtain ⟨vl, vc, rfl⟩ := HOU.out.shape
      clear hb CY2 p0 p1 hz9 HTU9 HTP9 HTO9 hown
      have hou := HOU.out
      unfold OwnU at hou
      obtain ⟨_, ⟨_, h0⟩ | ⟨g, cap2, cur, e1, hbg, hgc, hnc, hcm, hcs, _⟩⟩ := hou
      · omega
      injection e1 with e1 e2 e3
      subst e1
      subst e3
      have hk4 : posU x.units n * 4 + 3 < cur.size := by have := Nat.mul_le_mul_right 4 hnc; omega
      have h5s : w.heap.size + 2 ≤ w5.heap.size := HB5.out.size
      have h7s : w.heap.size + 2 ≤ w7.heap.size := HS7.out
      have HB11 := Lib.hid (HB10.out.setPar (.slice (some ⟨g, 0, none⟩) x.units.length vc))
      have HOU11 := Lib.hid (HOU.out.other (Other.box HB10.out.par (i := 1) (.slice (some ⟨g, 0, none⟩) x.units.length vc)) (by decide))
      have HTU11 := Lib.hid (HTU10.out.setOther (b' := w.heap.size) (i := 1) (by omega) (.slice (some ⟨g, 0, none⟩) x.units.length vc))
      have HTP11 := Lib.hid (HTP10.out.setOther (b' := w.heap.size) (i := 1) (by have := HS5.out.1; omega) (.slice (some ⟨g, 0, none⟩) x.units.length vc))
      have HTO11 := Lib.hid (HTO10.out.setOther (b' := w.heap.size) (i := 1) (by omega) (.slice (some ⟨g, 0, none⟩) x.units.length vc))
      have hgc2 : TBox (w10.setCell ⟨w.heap.size, 1, none⟩ (.slice (some ⟨g, 0, none⟩) x.units.length vc)) g 67 cur := (show TBox w10 g 67 cur from hgc).setOther (b' := w.heap.size) (i := 1) (by omega) (.slice (some ⟨g, 0, none⟩) x.units.length vc)
      have p1 := HB10.out.par.cell (i := 1) rfl
      have f1' := HB10.out.par.frozen 1
      have hz10 : w.heap.size < w10.heap.size := by have := HB10.out.size; omega
      go_upto_region 22 with fail
      obtain ⟨w11, hw11⟩ : ∃ w11 : World, w11 = w10.setCell ⟨w.heap.size, 1, none⟩ (.slice (some ⟨g, 0, none⟩) x.units.length vc) := ⟨_, rfl⟩
      rw [← hw11] at HB11 HTU11 HOU11 HTP11 HTO11 hgc2 ⊢
      clear hw11 p1 f1' hz10 hgc
      have z1 := HB11.out.par.cell (i := 1) rfl
      have zl : w.heap.size < w11.heap.size := by have := HB11.out.size; omega
      have u0' := HTU11.out.cell (i := 0) rfl
      have u1' := HTU11.out.cell (i := 1) rfl
      have u2' := HTU11.out.cell (i := 2) rfl
      have u3' := HTU11.out.cell (i := 3) rfl
      have ul := HTU11.out.lt
      have hg11 : g < w11.heap.size := hgc2.lt
      have hgc3 : w11.heap[g]? = some (.cells cur 67 (0, 0)) := hgc2
      have s0 : w11.cell? ⟨g, posU x.units n * 4, none⟩ = some (cur[posU x.units n * 4]'(by omega)) := (row_cell2 hgc3).trans (Array.getElem?_eq_getElem (by omega))
      have s1 : w11.cell? ⟨g, posU x.units n * 4 + 1, none⟩ = some (cur[posU x.units n * 4 + 1]'(by omega)) := (row_cell2 hgc3).trans (Array.getElem?_eq_getElem (by omega))
      have s2 : w11.cell? ⟨g, posU x.units n * 4 + 2, none⟩ = some (cur[posU x.units n * 4 + 2]'(by omega)) := (row_cell2 hgc3).trans (Array.getElem?_eq_getElem (by omega))
      have s3 : w11.cell? ⟨g, posU x.units n * 4 + 3, none⟩ = some (cur[posU x.units n * 4 + 3]'(by omega)) := (row_cell2 hgc3).trans (Array.getElem?_eq_getElem (by omega))
      have f0 := frozen_of_row w11 g (posU x.units n * 4) cur _ hgc3
      have f1 := frozen_of_row w11 g (posU x.units n * 4 + 1) cur _ hgc3
      have f2 := frozen_of_row w11 g (posU x.units n * 4 + 2) cur _ hgc3
      have f3 := frozen_of_row w11 g (posU x.units n * 4 + 3) cur _ hgc3
      have HGU2 := Lib.hid (show TBox w11 g 67 cur from hgc2)
      clear hgc2 hgc3
      go_upto_region 23 with fail
      have hun : n = un := by have h := HNM.out; simpa using h.symm
      subst hun
      have hbg2 : w.heap.size + 2 ≤ g := hbg
      have HOT := Lib.hid (Other.box4 HGU2.out (posU x.units n * 4) (posU x.units n * 4 + 1) (posU x.units n * 4 + 2) (posU x.units n * 4 + 3) (.int .i64 n) (.string nm) (.int .i64 r1) (.int .i64 r2))
      have HBP := Lib.hid ((((HB11.out.set hbg2 (posU x.units n * 4) (.int .i64 n)).set hbg2 (posU x.units n * 4 + 1) (.string nm)).set hbg2 (posU x.units n * 4 + 2) (.int .i64 r1)).set hbg2 (posU x.units n * 4 + 3) (.int .i64 r2))
      have HPT := Lib.hid (HOU11.out.put (posU x.units n) hk ⟨n, nm, r1, r2⟩)
      rw [show untC ⟨n, nm, r1, r2⟩ = [.int .i64 n, .string nm, .int .i64 r1, .int .i64 r2] from rfl] at HPT
      simp only [World.setCells] at HPT
      obtain ⟨w12, hw12⟩ : ∃ w12 : World, w12 = ((((w11.setCell ⟨g, posU x.units n * 4, none⟩ (.int .i64 n)).setCell ⟨g, posU x.units n * 4 + 1, none⟩ (.string nm)).setCell ⟨g, posU x.units n * 4 + 2, none⟩ (.int .i64 r1)).setCell ⟨g, posU x.units n * 4 + 3, none⟩ (.int .i64 r2)) := ⟨_, rfl⟩
      rw [← hw12] at HOT HBP HPT ⊢
      clear hw12
      have HKA := Lib.hid (show ExK w (.slice lo x.lib.length lcap) (.slice (some ⟨g, 0, none⟩) x.units.length vc) w3.heap.size w7.heap.size w.heap.size #[.string p.name, .int .i64 p.size, .slice po p.pars.length pcap] #[.string old.name, .int .i64 old.size, .slice qo old.pars.length qcap] #[.slice lo x.lib.length lcap, .slice (some ⟨g, 0, none⟩) x.units.length vc] (.slice none 0 0) (.slice (some ⟨g, 0, none⟩) x.units.length vc) [] (x.units.set (posU x.units n) ⟨n, nm, r1, r2⟩) w12 from ⟨HBP.out, HOT.out.tbox HTP11.out (by decide), HOT.out.tbox HTO11.out (by decide), HOT.out.tbox HB11.out.par (by decide), OwnL.nil _ _, HPT.out⟩)
      have HFEW := Lib.hid (fun k => kept_few n old p l k (stgs_few HEE.out HCQ.out))
      have hl16 : l.length ≤ 16000 := stgs_few HEE.out HCQ.out
      have HRL := Lib.hid ((stgs_iff x l).1 HCQ.out).1
      have HCO := Lib.hid (show chkPrf old = 0 from chkLib_prf (chkRig_zero HEE.out).1 (profOf_some HOP.out).1)
      have HCP := Lib.hid (show chkPrf p = 0 from chkLib_prf (chkRig_zero HEE.out).1 (profOf_some HPQ.out).1)
      have HPP := Lib.hid (show ∀ W, ExK w (.slice lo x.lib.length lcap) (.slice (some ⟨g, 0, none⟩) x.units.length vc) w3.heap.size w7.heap.size w.heap.size #[.string p.name, .int .i64 p.size, .slice po p.pars.length pcap] #[.string old.name, .int .i64 old.size, .slice qo old.pars.length qcap] #[.slice lo x.lib.length lcap, .slice (some ⟨g, 0, none⟩) x.units.length vc] (.slice none 0 0) (.slice (some ⟨g, 0, none⟩) x.units.length vc) [] (x.units.set (posU x.units n) ⟨n, nm, r1, r2⟩) W → ParS w.heap.size W (.slice po p.pars.length pcap) p.pars from fun W hW => HPS.out.below (below_mid HB3X.out hW.box.bel (Nat.le_of_lt hW.t3.lt)))
      have HPO := Lib.hid (show ∀ W, ExK w (.slice lo x.lib.length lcap) (.slice (some ⟨g, 0, none⟩) x.units.length vc) w3.heap.size w7.heap.size w.heap.size #[.string p.name, .int .i64 p.size, .slice po p.pars.length pcap] #[.string old.name, .int .i64 old.size, .slice qo old.pars.length qcap] #[.slice lo x.lib.length lcap, .slice (some ⟨g, 0, none⟩) x.units.length vc] (.slice none 0 0) (.slice (some ⟨g, 0, none⟩) x.units.length vc) [] (x.units.set (posU x.units n) ⟨n, nm, r1, r2⟩) W → ParS w.heap.size W (.slice qo old.pars.length qcap) old.pars from fun W hW => HOS.out.below (below_mid HB7X.out hW.box.bel (Nat.le_of_lt hW.t7.lt)))
      have CPP := Lib.hid (fun (q : ByteArray) W (hW : ExK w (.slice lo x.lib.length lcap) (.slice (some ⟨g, 0, none⟩) x.units.length vc) w3.heap.size w7.heap.size w.heap.size #[.string p.name, .int .i64 p.size, .slice po p.pars.length pcap] #[.string old.name, .int .i64 old.size, .slice qo old.pars.length qcap] #[.slice lo x.lib.length lcap, .slice (some ⟨g, 0, none⟩) x.units.length vc] (.slice none 0 0) (.slice (some ⟨g, 0, none⟩) x.units.length vc) [] (x.units.set (posU x.units n) ⟨n, nm, r1, r2⟩) W) => rparam_any w.heap.size p.name p.size _ p.pars q W hW.box.bel.size (HPP.out W hW))
      have CPO := Lib.hid (fun (q : ByteArray) W (hW : ExK w (.slice lo x.lib.length lcap) (.slice (some ⟨g, 0, none⟩) x.units.length vc) w3.heap.size w7.heap.size w.heap.size #[.string p.name, .int .i64 p.size, .slice po p.pars.length pcap] #[.string old.name, .int .i64 old.size, .slice qo old.pars.length qcap] #[.slice lo x.lib.length lcap, .slice (some ⟨g, 0, none⟩) x.units.length vc] (.slice none 0 0) (.slice (some ⟨g, 0, none⟩) x.units.length vc) [] (x.units.set (posU x.units n) ⟨n, nm, r1, r2⟩) W) => rparam_any w.heap.size old.name old.size _ old.pars q W hW.box.bel.size (HPO.out W hW))
      have HRP := Lib.hid (rngs_right HCP.out)
      have HRO := Lib.hid (rngs_right HCO.out)
      have HFIN2 := Lib.hid (show ∃ (hk : posU x.units n < x.units.length) (p old : Prf) (r : Int × Int), (x.units[posU x.units n]'hk).num = n ∧ True ∧ True ∧ True from ⟨hk, p, old, (r1, r2), by rw [HUG.out], trivial, trivial, trivial⟩)
      have HPQ2 := Lib.hid HPQ.out
      have HOP2 := Lib.hid (show ∀ hk : posU x.units n < x.units.length, profOf x.lib (x.units[posU x.units n]'hk).nm = some old from fun hk => by rw [HUG.out]; exact HOP.out)
      have HXR2 := Lib.hid (show ∀ hk : posU x.units n < x.units.length, exAt x n p.size (x.units[posU x.units n]'hk) = some (r1, r2) from fun hk => by rw [HUG.out]; exact HXR.out)
      have HF0 := Lib.hid (show FF = 0 by rw [HEW.out, HXR.out]; rfl)
      clear HPP HPO HCO HCP HPS HOS HB3X HB7X HEE HCQ HPQ HOP HUG HXR HEW HOT HBP HPT HTP11 HTO11 HOU11 HOU h5s h7s z1 zl u0' u1' u2' u3' ul hg11 s0 s1 s2 s3 f0 f1 f2 f3 HGU2
      go_wp2_with fail
      go_loopw [116, 23, 24] (fun i kv qv wx => ∃ (k : Nat) (kv' qv' : Value), k ≤ l.length ∧ i = .int .i64 k ∧ kv' = kv ∧ qv' = qv ∧ Hid (OwnS (w.heap.size + 2) wx kv' (keptS n old p (l.take k))) ∧ Hid (OwnK (w.heap.size + 2) wx qv' (keyRs (lostS n old p (l.take k)))) ∧ Hid (ExK w (.slice lo x.lib.length lcap) (.slice (some ⟨g, 0, none⟩) x.units.length vc) w3.heap.size w7.heap.size w.heap.size #[.string p.name, .int .i64 p.size, .slice po p.pars.length pcap] #[.string old.name, .int .i64 old.size, .slice qo old.pars.length qcap] #[.slice lo x.lib.length lcap, .slice (some ⟨g, 0, none⟩) x.units.length vc] (.slice none 0 0) (.slice (some ⟨g, 0, none⟩) x.units.length vc) [] (x.units.set (posU x.units n) ⟨n, nm, r1, r2⟩) wx)) (fun i _ _ _ => l.length - (intOf i).toNat)
      case atStart => exact ⟨0, _, _, Nat.zero_le _, rfl, rfl, rfl, Lib.hid (OwnS.nil _ _), Lib.hid (OwnK.nil _ _), HKA⟩
      case round =>
        clear HKA
        obtain ⟨k, kv, qv, hkl, rfl, rfl, rfl, HO, HQ, HK⟩ := hrel
        have hzr := HK.out.box.size
        by_cases hlt : k < l.length
        · obtain ⟨b2, off2, cap2, hsl, hb2, _, hc⟩ := (StgS.get HSG.out) (by omega)
          injection hsl with hs1 hs2 hs3
          subst hs1 hs3
          obtain ⟨d0, d1, d2⟩ := hc k hlt wr HK.out.box.bel
          have hbr : b2 < wr.heap.size := by omega
          obtain ⟨_, hl0, hl1⟩ := HRL.out _ (List.getElem_mem hlt)
          clear hc
          generalize hrk : l[k] = rk at *
          have HRK := Lib.hid hrk
          clear hrk
          obtain ⟨su, sp, sl⟩ := rk
          simp only at *
          have HS := Lib.hid (TBox.new wr #[.int .i64 su, .string sp, .int .i64 sl] 35)
          have HBc := Lib.hid ((Below.refl wr.heap.size wr).alloc (Nat.le_refl _) (.cells #[.int .i64 su, .string sp, .int .i64 sl] 35))
          have HK1 := Lib.hid (HK.out.alloc (.cells #[.int .i64 su, .string sp, .int .i64 sl] 35))
          by_cases hsn : su = n
          · have hsn2 : n = su := hsn.symm
            subst hsn2
            clear hsn
            have CA := Lib.hid (CPO.out sp _ HK1.out)
            have y0 := HK1.out.t7.cell (i := 0) rfl
            have y1 := HK1.out.t7.cell (i := 1) rfl
            have y2 := HK1.out.t7.cell (i := 2) rfl
            have yl := HK1.out.t7.lt
            have HRA := Lib.hid (HRO.out sp.data.toList)
            have HRB0 := Lib.hid (HRP.out sp.data.toList)
            have HKG := Lib.hid (keep_gone (n := n) (s := ⟨n, sp, sl⟩) old (p := p) rfl)
            have HKW := Lib.hid (fun b v hb => keep_way (n := n) (s := ⟨n, sp, sl⟩) (old := old) (p := p) (b := b) rfl hb (v := v))
            have HKL := Lib.hid (fun b v hb => keep_lost (n := n) (s := ⟨n, sp, sl⟩) (old := old) (p := p) (b := b) rfl hb (v := v))
            simp only at HKG HKW HKL
            generalize hra0 : ((parOf old.pars sp.data.toList).map Par.rngs).getD [] = RA at *
            have HRAE := Lib.hid hra0
            clear hra0
            generalize hrb0 : ((parOf p.pars sp.data.toList).map Par.rngs).getD [] = RB at *
            have HRBE := Lib.hid hrb0
            clear hrb0
            go_upto_region 30 with fail
            clear d0 d1 d2
            generalize hwz : wr.alloc (.cells #[.int .i64 n, .string sp, .int .i64 sl] 35) = wz at *
            clear hwz
            have s1 := HS.out.cell (i := 1) rfl
            have sl' := HS.out.lt
            go_wp2_with fail
            refine CA.out.mono ?_
            rintro e wa ⟨xva, rfl, hpra, hb⟩
            obtain ⟨an, ag, ax, af, ad, ab, arv, rfl, hra⟩ := parR_rngs hpra
            rw [HRAE.out] at hra
            obtain ⟨ao, ac, rfl⟩ := rngS_shape hra
            have HRNA := Lib.hid hra
            have HBa := Lib.hid ((HBc.out.trans (hb.mono (by have := HBc.out.size; omega))).alloc (by have := HBc.out.size; have := hb.size; omega) (.cells #[.string an, .int .i64 ag, .int .i64 ax, .int .i64 af, .int .i64 ad, .bool ab, .slice ao RA.length ac] 42))
            have HSa := Lib.hid ((HS.out.below hb).alloc (.cells #[.string an, .int .i64 ag, .int .i64 ax, .int .i64 af, .int .i64 ad, .bool ab, .slice ao RA.length ac] 42))
            have HTa := Lib.hid (TBox.new wa #[.string an, .int .i64 ag, .int .i64 ax, .int .i64 af, .int .i64 ad, .bool ab, .slice ao RA.length ac] 42)
            have hbA := (Below.refl wa.heap.size wa).alloc (Nat.le_refl _) (.cells #[.string an, .int .i64 ag, .int .i64 ax, .int .i64 af, .int .i64 ad, .bool ab, .slice ao RA.length ac] 42)
            have HKa := Lib.hid ((HK1.out.below hb).alloc (.cells #[.string an, .int .i64 ag, .int .i64 ax, .int .i64 af, .int .i64 ad, .bool ab, .slice ao RA.length ac] 42))
            have CB := Lib.hid (CPP.out sp _ HKa.out)
            have HRNB := Lib.hid (HRNA.out.below (hbA.mono (by have := HKa.out.box.bel.size; have := (HK1.out.below hb).box.bel.size; omega)))
            generalize hso : (parOf p.pars sp.data.toList).isSome = SO at *
            have HSO := Lib.hid hso
            clear hb hpra hra hbA CA y0 y1 y2 yl s1 sl' hso
            go_upto_region 31 with fail
            generalize hwz : wa.alloc (.cells #[.string an, .int .i64 ag, .int .i64 ax, .int .i64 af, .int .i64 ad, .bool ab, .slice ao RA.length ac] 42) = wb at *
            clear hwz
            have s1 := HSa.out.cell (i := 1) rfl
            have sl' := HSa.out.lt
            have y0 := HKa.out.t3.cell (i := 0) rfl
            have y1 := HKa.out.t3.cell (i := 1) rfl
            have y2 := HKa.out.t3.cell (i := 2) rfl
            have yl := HKa.out.t3.lt
            go_wp2_with fail
            refine CB.out.mono ?_
            rintro e wd ⟨xvb, rfl, hprb, hb⟩
            obtain ⟨bn, bg, bx, bf, bd, bb, brv, rfl, hrb⟩ := parR_rngs hprb
            rw [HRBE.out] at hrb
            obtain ⟨bo, bc, rfl⟩ := rngS_shape hrb
            have HRN2 := Lib.hid hrb
            have HBd := Lib.hid ((HBa.out.trans (hb.mono (by have := HBa.out.size; omega))).alloc (by have := HBa.out.size; have := hb.size; omega) (.cells #[.string bn, .int .i64 bg, .int .i64 bx, .int .i64 bf, .int .i64 bd, .bool bb, .slice bo RB.length bc] 42))
            have HSd := Lib.hid ((HSa.out.below hb).alloc (.cells #[.string bn, .int .i64 bg, .int .i64 bx, .int .i64 bf, .int .i64 bd, .bool bb, .slice bo RB.length bc] 42))
            have HTd := Lib.hid (TBox.new wd #[.string bn, .int .i64 bg, .int .i64 bx, .int .i64 bf, .int .i64 bd, .bool bb, .slice bo RB.length bc] 42)
            have HTa2 := Lib.hid ((HTa.out.below hb).alloc (.cells #[.string bn, .int .i64 bg, .int .i64 bx, .int .i64 bf, .int .i64 bd, .bool bb, .slice bo RB.length bc] 42))
            have HRA2 := Lib.hid ((HRNB.out.below (hb.mono (by have := HKa.out.box.bel.size; omega))).below ((Below.refl wd.heap.size wd).alloc (Nat.le_refl _) (.cells #[.string bn, .int .i64 bg, .int .i64 bx, .int .i64 bf, .int .i64 bd, .bool bb, .slice bo RB.length bc] 42) |>.mono (by have := HKa.out.box.bel.size; have := hb.size; omega)))
            have HRB2 := Lib.hid (HRN2.out.below ((Below.refl wd.heap.size wd).alloc (Nat.le_refl _) (.cells #[.string bn, .int .i64 bg, .int .i64 bx, .int .i64 bf, .int .i64 bd, .bool bb, .slice bo RB.length bc] 42) |>.mono (by have := HKa.out.box.bel.size; have := hb.size; omega)))
            have hwz2 : w.heap.size ≤ (wd.alloc (.cells #[.string bn, .int .i64 bg, .int .i64 bx, .int .i64 bf, .int .i64 bd, .bool bb, .slice bo RB.length bc] 42)).heap.size := by have := HKa.out.box.bel.size; have := hb.size; simp; omega
            have CR := Lib.hid (rcarried_any w.heap.size an bn ag ax af ad bg bx bf bd sl ab bb _ _ RA RB _ hwz2 HRA2.out HRB2.out HRA.out HRB0.out hl0 hl1)
            obtain ⟨⟨v, c⟩, hcv⟩ : ∃ z : Int × Bool, carV RA RB sl = z := ⟨_, rfl⟩
            rw [hcv] at CR
            simp only at CR
            have HCV := Lib.hid hcv
            clear hcv hb hrb hprb HBc HS HBa HSa HTa s1 sl' y0 y1 y2 yl hwz2 CB
            go_upto_region 32 with fail
            generalize hwz : wd.alloc (.cells #[.string bn, .int .i64 bg, .int .i64 bx, .int .i64 bf, .int .i64 bd, .bool bb, .slice bo RB.length bc] 42) = we at *
            clear hwz
            have z0 := HTa2.out.cell (i := 0) rfl
            have z1 := HTa2.out.cell (i := 1) rfl
            have z2 := HTa2.out.cell (i := 2) rfl
            have z3 := HTa2.out.cell (i := 3) rfl
            have z4 := HTa2.out.cell (i := 4) rfl
            have z5 := HTa2.out.cell (i := 5) rfl
            have z6 := HTa2.out.cell (i := 6) rfl
            have zl := HTa2.out.lt
            have e0 := HTd.out.cell (i := 0) rfl
            have e1 := HTd.out.cell (i := 1) rfl
            have e2' := HTd.out.cell (i := 2) rfl
            have e3 := HTd.out.cell (i := 3) rfl
            have e4 := HTd.out.cell (i := 4) rfl
            have e5 := HTd.out.cell (i := 5) rfl
            have e6 := HTd.out.cell (i := 6) rfl
            have el := HTd.out.lt
            have s2 := HSd.out.cell (i := 2) rfl
            have sl' := HSd.out.lt
            go_wp2_with fail
            refine CR.out.mono ?_
            rintro e wf ⟨rfl, hb⟩
            have HS := Lib.hid (HSd.out.below hb)
            have HBc := Lib.hid (HBd.out.trans (hb.mono (by have := HBd.out.size; omega)))
            clear hb z0 z1 z2 z3 z4 z5 z6 zl e0 e1 e2' e3 e4 e5 e6 el s2 sl' HTa2 HTd HRA2 HRB2 CR HSd HBd
            cases SO with
            | false =>
              have HKP := Lib.hid (HKG.out (by have h := HSO.out; simpa using h))
              go_upto_region 35 with fail
              have HOw := Lib.hid (HO.out.below HBc.out)
              have HQw := Lib.hid (HQ.out.below HBc.out)
              have HKw := Lib.hid (HK.out.below HBc.out)
              have s0 := HS.out.cell (i := 0) rfl
              have s1 := HS.out.cell (i := 1) rfl
              have s2 := HS.out.cell (i := 2) rfl
              have sl' := HS.out.lt
              have hOA := Lib.hid (HOw.out.below ((Below.refl _ _).alloc (Nat.le_refl _) (.cells #[.int .i64 n, .string sp] 33)))
              have hQA := Lib.hid (HQw.out.below ((Below.refl _ _).alloc (Nat.le_refl _) (.cells #[.int .i64 n, .string sp] 33)))
              have hKA := Lib.hid (HKw.out.alloc (.cells #[.int .i64 n, .string sp] 33))
              have hln := (HFEW.out k).2
              have hbz := hKA.out.box.size
              have HST := Lib.hid (kept_none hlt (show keepS n old p l[k] = none from by rw [HRK.out]; exact HKP.out))
              have HLK := Lib.hid (show (⟨l[k].unit, l[k].par⟩ : KeyR) = ⟨n, sp⟩ by rw [HRK.out])
              obtain ⟨ko, kc, hsh⟩ := HQw.out.shape
              subst hsh
              go_wp2_with (first | (at_builtin; refine wpList_ownK rfl _ _ rfl (w.heap.size + 2) 1 _ _ ⟨n, sp⟩ ⟨(wf).heap.size, 0, none⟩ rfl rfl hQA.out (ownK_new (wf) ⟨n, sp⟩ _) hln hbz ?_; intro v' w' hown hgrow) | fail)
              have HV := Lib.hid (show OwnS (w.heap.size + 2) w' kv (keptS n old p (l.take (k + 1))) by rw [HST.out.1]; exact hOA.out.grownK hQA.out hgrow)
              have HQV := Lib.hid (show OwnK (w.heap.size + 2) w' v' (keyRs (lostS n old p (l.take (k + 1)))) by rw [HST.out.2, HLK.out]; exact hown)
              have HKV := Lib.hid (hKA.out.grownK hQA.out hgrow)
              clear hown hgrow
              go_wp2_with fail
              go_roundw
              case rel => exact ⟨k + 1, _, _, by omega, by first | rfl | go_num, rfl, rfl, HV, HQV, HKV⟩
              case measure => simp [intOf]; omega
            | true =>
              have HQX := Lib.hid (Option.isSome_iff_exists.1 HSO.out)
              cases c with
              | false =>
                have HKP := Lib.hid (show keepS n old p ⟨n, sp, sl⟩ = none from by
                  obtain ⟨q, hq⟩ := HQX.out
                  refine HKL.out q v hq ?_
                  have h := HRBE.out
                  rw [hq] at h
                  rw [show q.rngs = RB from h]
                  exact HCV.out)
                go_upto_region 35 with fail
                have HOw := Lib.hid (HO.out.below HBc.out)
                have HQw := Lib.hid (HQ.out.below HBc.out)
                have HKw := Lib.hid (HK.out.below HBc.out)
                have s0 := HS.out.cell (i := 0) rfl
                have s1 := HS.out.cell (i := 1) rfl
                have s2 := HS.out.cell (i := 2) rfl
                have sl' := HS.out.lt
                have hOA := Lib.hid (HOw.out.below ((Below.refl _ _).alloc (Nat.le_refl _) (.cells #[.int .i64 n, .string sp] 33)))
                have hQA := Lib.hid (HQw.out.below ((Below.refl _ _).alloc (Nat.le_refl _) (.cells #[.int .i64 n, .string sp] 33)))
                have hKA := Lib.hid (HKw.out.alloc (.cells #[.int .i64 n, .string sp] 33))
                have hln := (HFEW.out k).2
                have hbz := hKA.out.box.size
                have HST := Lib.hid (kept_none hlt (show keepS n old p l[k] = none from by rw [HRK.out]; exact HKP.out))
                have HLK := Lib.hid (show (⟨l[k].unit, l[k].par⟩ : KeyR) = ⟨n, sp⟩ by rw [HRK.out])
                obtain ⟨ko, kc, hsh⟩ := HQw.out.shape
                subst hsh
                go_wp2_with (first | (at_builtin; refine wpList_ownK rfl _ _ rfl (w.heap.size + 2) 1 _ _ ⟨n, sp⟩ ⟨(wf).heap.size, 0, none⟩ rfl rfl hQA.out (ownK_new (wf) ⟨n, sp⟩ _) hln hbz ?_; intro v' w' hown hgrow) | fail)
                have HV := Lib.hid (show OwnS (w.heap.size + 2) w' kv (keptS n old p (l.take (k + 1))) by rw [HST.out.1]; exact hOA.out.grownK hQA.out hgrow)
                have HQV := Lib.hid (show OwnK (w.heap.size + 2) w' v' (keyRs (lostS n old p (l.take (k + 1)))) by rw [HST.out.2, HLK.out]; exact hown)
                have HKV := Lib.hid (hKA.out.grownK hQA.out hgrow)
                clear hown hgrow
                go_wp2_with fail
                go_roundw
                case rel => exact ⟨k + 1, _, _, by omega, by first | rfl | go_num, rfl, rfl, HV, HQV, HKV⟩
                case measure => simp [intOf]; omega
              | true =>
                have HKP := Lib.hid (show keepS n old p ⟨n, sp, sl⟩ = some ⟨n, sp, v⟩ from by
                  obtain ⟨q, hq⟩ := HQX.out
                  refine HKW.out q v hq ?_
                  have h := HRBE.out
                  rw [hq] at h
                  rw [show q.rngs = RB from h]
                  exact HCV.out)
                go_upto_region 34 with fail
                have HOw := Lib.hid (HO.out.below HBc.out)
                have HQw := Lib.hid (HQ.out.below HBc.out)
                have HKw := Lib.hid (HK.out.below HBc.out)
                have s0 := HS.out.cell (i := 0) rfl
                have s1 := HS.out.cell (i := 1) rfl
                have s2 := HS.out.cell (i := 2) rfl
                have sl' := HS.out.lt
                have hOA := Lib.hid (HOw.out.below ((Below.refl _ _).alloc (Nat.le_refl _) (.cells #[.int .i64 n, .string sp, .int .i64 v] 35)))
                have hQA := Lib.hid (HQw.out.below ((Below.refl _ _).alloc (Nat.le_refl _) (.cells #[.int .i64 n, .string sp, .int .i64 v] 35)))
                have hKA := Lib.hid (HKw.out.alloc (.cells #[.int .i64 n, .string sp, .int .i64 v] 35))
                have hln := (HFEW.out k).1
                have hbz := hKA.out.box.size
                have HST := Lib.hid (kept_some hlt (show keepS n old p l[k] = some ⟨n, sp, v⟩ from by rw [HRK.out]; exact HKP.out))
                obtain ⟨ko, kc, hsh⟩ := HOw.out.shape
                subst hsh
                go_wp2_with (first | (at_builtin; refine wpList_ownS rfl _ _ rfl (w.heap.size + 2) 1 _ _ ⟨n, sp, v⟩ ⟨(wf).heap.size, 0, none⟩ rfl rfl hOA.out (ownS_new (wf) ⟨n, sp, v⟩ _) hln hbz ?_; intro v' w' hown hgrow) | fail)
                have HV := Lib.hid (show OwnS (w.heap.size + 2) w' v' (keptS n old p (l.take (k + 1))) by rw [HST.out.1]; exact hown)
                have HQV := Lib.hid (show OwnK (w.heap.size + 2) w' qv (keyRs (lostS n old p (l.take (k + 1)))) by rw [HST.out.2]; exact hQA.out.grownS hOA.out hgrow)
                have HKV := Lib.hid (hKA.out.grownS hOA.out hgrow)
                clear hown hgrow
                go_wp2_with fail
                go_roundw
                case rel => exact ⟨k + 1, _, _, by omega, by first | rfl | go_num, rfl, rfl, HV, HQV, HKV⟩
                case measure => simp [intOf]; omega
          · go_upto_region 29 with fail
            clear d0 d1 d2
            generalize hwz : wr.alloc (.cells #[.int .i64 su, .string sp, .int .i64 sl] 35) = wz at *
            clear hwz
            have HOw := Lib.hid (HO.out.below HBc.out)
            have HQw := Lib.hid (HQ.out.below HBc.out)
            have HKw := Lib.hid (HK.out.below HBc.out)
            have s0 := HS.out.cell (i := 0) rfl
            have s1 := HS.out.cell (i := 1) rfl
            have s2 := HS.out.cell (i := 2) rfl
            have sl' := HS.out.lt
            have hOA := Lib.hid (HOw.out.below ((Below.refl _ _).alloc (Nat.le_refl _) (.cells #[.int .i64 su, .string sp, .int .i64 sl] 35)))
            have hQA := Lib.hid (HQw.out.below ((Below.refl _ _).alloc (Nat.le_refl _) (.cells #[.int .i64 su, .string sp, .int .i64 sl] 35)))
            have hKA := Lib.hid (HKw.out.alloc (.cells #[.int .i64 su, .string sp, .int .i64 sl] 35))
            have hln := (HFEW.out k).1
            have hbz := hKA.out.box.size
            have HST := Lib.hid (kept_some hlt (show keepS n old p l[k] = some ⟨su, sp, sl⟩ from by rw [HRK.out]; exact keep_other old p hsn))
            obtain ⟨ko, kc, hsh⟩ := HOw.out.shape
            subst hsh
            go_wp2_with (first | (at_builtin; refine wpList_ownS rfl _ _ rfl (w.heap.size + 2) 1 _ _ ⟨su, sp, sl⟩ ⟨(wz).heap.size, 0, none⟩ rfl rfl hOA.out (ownS_new (wz) ⟨su, sp, sl⟩ _) hln hbz ?_; intro v' w' hown hgrow) | fail)
            have HV := Lib.hid (show OwnS (w.heap.size + 2) w' v' (keptS n old p (l.take (k + 1))) by rw [HST.out.1]; exact hown)
            have HQV := Lib.hid (show OwnK (w.heap.size + 2) w' qv (keyRs (lostS n old p (l.take (k + 1)))) by rw [HST.out.2]; exact hQA.out.grownS hOA.out hgrow)
            have HKV := Lib.hid (hKA.out.grownS hOA.out hgrow)
            clear hown hgrow
            go_wp2_with fail
            go_roundw
            case rel => exact ⟨k + 1, _, _, by omega, by first | rfl | go_num, rfl, rfl, HV, HQV, HKV⟩
            case measure => simp [intOf]; omega
        · have hkk : k = l.length := by omega
          subst hkk
          have y0 := HK.out.t10.cell (i := 0) rfl
          have y1 := HK.out.t10.cell (i := 1) rfl
          have yl := HK.out.t10.lt
          have r0 := HK.out.box.res.cell (i := 0) rfl
          have r1' := HK.out.box.res.cell (i := 1) rfl
          have fr0 := HK.out.box.res.frozen 0
          have fr1 := HK.out.box.res.frozen 1
          have hrs := HK.out.box.size
          have HT0 := Lib.hid (show keptS n old p (l.take l.length) = keptS n old p l by rw [List.take_length])
          have HT1 := Lib.hid (show keyRs (lostS n old p (l.take l.length)) = keyRs (lostS n old p l) by rw [List.take_length])
          go_wp2_with fail
          exact bodyPost_ret (v := .tuple #[.agg #[.slice lo x.lib.length lcap, .slice (some ⟨g, 0, none⟩) x.units.length vc], kv, qv, .int .i64 0]) (by simp [results, Try.results18, go_sem, r0, r1']) rfl ⟨_, _, kv, qv, by rw [HF0.out], ⟨fun h0 => absurd HF0.out h0, fun _ => by
            obtain ⟨hk, p', old', rr, q1, q2, q3, q4⟩ := HFIN2.out
            exact ⟨hk, p, old, (r1, r2), q1, HPQ2.out, HOP2.out hk, HXR2.out hk, ⟨(HLL.out.below (HK.out.box.done _ _)).more (HK.out.box.done _ _).size, (HK.out.done _ _).2.untS⟩, by rw [← HT0.out]; exact (HO.out.res HK.out.box.res _ _).stgS, by rw [← HT1.out]; exact (HQ.out.res HK.out.box.res _ _).keyS⟩⟩, HK.out.box.done _ _⟩
end Go.Proofs.Ytabalicembhjmaa
