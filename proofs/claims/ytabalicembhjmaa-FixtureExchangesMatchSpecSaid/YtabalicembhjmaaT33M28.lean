/- fixture.Exchange. (printed by wip/gen/gen_exchange.py) -/
import Derived.Test.YtabalicembhjmaaT33M26
import Derived.Test.YtabalicembhjmaaT33M24
import Derived.Test.YtabalicembhjmaaT33M27
import Derived.Test.YtabalicembhjmaaT33M21
import Derived.Test.YtabalicembhjmaaT33M25
import Derived.Test.YtabalicembhjmaaT33M18
import Derived.Test.YtabalicembhjmaaT33M17
import Derived.Test.YtabalicembhjmaaT33M16
import Derived.Deep.DeepCutAuto

namespace Go.Proofs.Ytabalicembhjmaa
open Go.RowKit
set_option linter.unusedVariables false
set_option linter.unusedSimpArgs false

/-- what Exchange's answer is -/
def ExR (w' : World) (x : Rig) (n : Int) (nm : ByteArray) (l : List Stg) (lv' uv' kv qv : Value) : Prop :=
  (exF x n nm l ≠ 0 → lv' = .slice none 0 0 ∧ uv' = .slice none 0 0 ∧ kv = .slice none 0 0 ∧ qv = .slice none 0 0) ∧
  (exF x n nm l = 0 → ∃ (hk : posU x.units n < x.units.length) (p old : Prf) (r : Int × Int), (x.units[posU x.units n]'hk).num = n ∧ profOf x.lib nm.data.toList = some p ∧ profOf x.lib (x.units[posU x.units n]'hk).nm = some old ∧ exAt x n p.size (x.units[posU x.units n]'hk) = some r ∧
    RigAt w'.heap.size w' (setUn x n ⟨n, nm, r.1, r.2⟩) lv' uv' ∧ StgS w'.heap.size w' kv (keptS n old p l) ∧ KeyRS w'.heap.size w' qv (keyRs (lostS n old p l)))
set_option maxRecDepth 100000 in
set_option maxHeartbeats 32000000 in
theorem exchange_any (x : Rig) (lv uv sv : Value) (n : Int) (nm : ByteArray) (l : List Stg) (w : World) (h : RigAt w.heap.size w x lv uv) (hf : RigFit x) (hn : I64 n) (hS : StgS w.heap.size w sv l) (hs : ∀ s ∈ l, StgFit s) :
    Calls Try.prog 17 #[rigV lv uv, .int .i64 n, .string nm, sv] w fun e w' => ∃ lv' uv' kv qv, e = .returned (.tuple #[rigV lv' uv', kv, qv, .int .i64 (exF x n nm l)]) ∧ ExR w' x n nm l lv' uv' kv qv ∧ Below w.heap.size w w' := by
  have CC := Lib.hid (fun W (hb : Below w.heap.size w W) => ckRig_any x lv uv W ((h.below hb).more hb.size) hf)
  have CP := Lib.hid (fun (nm : ByteArray) W (hb : Below w.heap.size w W) => profile_base w.heap.size lv x.lib nm W hb.size (h.lib.below hb))
  have CU := Lib.hid (fun (hx : chkRig x = 0) W (hb : Below w.heap.size w W) => unit_any x lv uv n W ((h.below hb).more hb.size) hx hn)
  have CK := Lib.hid (fun (hx : chkRig x = 0) W (hb : Below w.heap.size w W) => ckStgs_any x lv uv l sv W ((h.below hb).more hb.size) hx ((hS.below hb).more hb.size) hs)
  have CT := Lib.hid (fun (hx : chkRig x = 0) W (hb : Below w.heap.size w W) => taken2_any x lv uv n W ((h.below hb).more hb.size) hx hf)
  have CY := Lib.hid (fun (hx : chkRig x = 0) W (hb : Below w.heap.size w W) => copied_any x lv uv W ((h.below hb).more hb.size) (rig_sizes hx))
  have V1 := Lib.hid (fun (h : ¬ chkRig x = 0) => exF_bad (n := n) (nm := nm) (l := l) h)
  have V2 := Lib.hid (fun (h : chkRig x = 0) hu => exF_none (n := n) (nm := nm) (l := l) h hu)
  have V3 := Lib.hid (fun (h : chkRig x = 0) u hu hp => exF_name (n := n) (nm := nm) (l := l) (u := u) h hu hp)
  have V4 := Lib.hid (fun (h : chkRig x = 0) u p hu hp => exF_some (n := n) (nm := nm) (l := l) (u := u) (p := p) h hu hp)
  have HPU := Lib.hid (fun (hx : chkRig x = 0) (hh : hasU x.units n = true) => find_pos (asc_units hx) hh)
  have HNU := Lib.hid (fun (hh : hasU x.units n = false) => find_no hh)
  have HGU := Lib.hid (UntS.get h.units)
  have HSG := Lib.hid hS
  obtain ⟨uo, ucap, rfl, _⟩ := CellsS.shape h.units
  obtain ⟨lo, lcap, rfl⟩ := prfS_shape h.lib
  obtain ⟨so, scap, rfl, _⟩ := CellsS.shape hS
  unfold rigV at *
  have HB0 := Lib.hid (RigBox.start w (.slice lo x.lib.length lcap) (.slice uo x.units.length ucap))
  have C1 := Lib.hid (CC.out _ HB0.out.bel)
  have hcf := exFail_call
  clear CC h hf hS hs
  unfold ExR
  generalize exF x n nm l = FF at *
  go_enter Try.func17, Try.ntmps17
  go_wp2_with fail
  refine C1.out.mono ?_
  rintro e w1 ⟨rfl, hb⟩
  have HB1 := Lib.hid (HB0.out.next hb)
  clear hb C1 HB0
  have p0 := HB1.out.par.cell (i := 0) rfl
  have p1 := HB1.out.par.cell (i := 1) rfl
  have hz1 := HB1.out.size
  by_cases hE : chkRig x = 0
  rotate_left
  · skip
    have HV := Lib.hid (show FF = (chkRig x) from V1.out hE)
    have HNE := Lib.hid hE
    go_wp2_with fail
    refine (exFail_any (chkRig x) _).mono ?_
    rintro e wf ⟨rfl, hb⟩
    have HBX := Lib.hid (HB1.out.next hb)
    clear hb
    have r0 := HBX.out.res.cell (i := 0) rfl
    have r1 := HBX.out.res.cell (i := 1) rfl
    have fr0 := HBX.out.res.frozen 0
    have fr1 := HBX.out.res.frozen 1
    have hrs := HBX.out.size
    go_wp2_with fail
    exact bodyPost_ret (v := .tuple #[.agg #[.slice none 0 0, .slice none 0 0], .slice none 0 0, .slice none 0 0, .int .i64 (chkRig x)]) (by simp [results, Try.results17, go_sem, r0, r1]) rfl ⟨.slice none 0 0, .slice none 0 0, .slice none 0 0, .slice none 0 0, by rw [HV.out], ⟨fun _ => ⟨rfl, rfl, rfl, rfl⟩, fun h0 => absurd (HV.out.symm.trans h0) (by first | exact HNE.out | decide)⟩, HBX.out.done _ _⟩
  rw [hE]
  have CU1 := Lib.hid (CU.out hE _ HB1.out.bel)
  clear CU V1
  go_wp2_with fail
  refine CU1.out.mono ?_
  rintro e w2 ⟨pp, rfl, hple, hpos, hb⟩
  have HB2 := Lib.hid (HB1.out.next hb)
  clear hb CU1 p0 p1 HB1 hz1
  have p0 := HB2.out.par.cell (i := 0) rfl
  have p1 := HB2.out.par.cell (i := 1) rfl
  have hz2 := HB2.out.size
  cases hH : hasU x.units n
  · have HV := Lib.hid (show FF = 8 from V2.out hE (HNU.out hH))
    have HNE : Hid True := trivial
    go_wp2_with fail
    refine (exFail_any 8 _).mono ?_
    rintro e wf ⟨rfl, hb⟩
    have HBX := Lib.hid (HB2.out.next hb)
    clear hb
    have r0 := HBX.out.res.cell (i := 0) rfl
    have r1 := HBX.out.res.cell (i := 1) rfl
    have fr0 := HBX.out.res.frozen 0
    have fr1 := HBX.out.res.frozen 1
    have hrs := HBX.out.size
    go_wp2_with fail
    exact bodyPost_ret (v := .tuple #[.agg #[.slice none 0 0, .slice none 0 0], .slice none 0 0, .slice none 0 0, .int .i64 8]) (by simp [results, Try.results17, go_sem, r0, r1]) rfl ⟨.slice none 0 0, .slice none 0 0, .slice none 0 0, .slice none 0 0, by rw [HV.out], ⟨fun _ => ⟨rfl, rfl, rfl, rfl⟩, fun h0 => absurd (HV.out.symm.trans h0) (by first | exact HNE.out | decide)⟩, HBX.out.done _ _⟩
  obtain ⟨hk, hfd, hnum⟩ := HPU.out hE hH
  have hr9 : 1 ≤ n ∧ n ≤ 9999 := by have := num_range hE (List.getElem_mem hk); rw [hnum] at this; exact this
  obtain rfl := hpos hr9.1 hr9.2
  have HFD := Lib.hid hfd
  have HNM := Lib.hid hnum
  have hEQ := Lib.hid hE
  clear hfd hnum hH HPU HNU V2
  cases hP : profOf x.lib nm.data.toList with
  | none =>
    have HV := Lib.hid (show FF = 5 from V3.out hE _ HFD.out hP)
    have HNE : Hid True := trivial
    have CP1 := Lib.hid (CP.out nm _ HB2.out.bel)
    rw [hP] at CP1
    simp only [Option.isSome_none, Option.isSome_some] at *
    go_wp2_with fail
    refine CP1.out.mono ?_
    rintro e w3 ⟨pv, rfl, hpr, hb⟩
    obtain rfl : pv = .agg #[.string ⟨#[]⟩, .int .i64 0, .slice none 0 0] := hpr
    have HB3 := Lib.hid ((HB2.out.next hb).alloc (.cells #[.string ⟨#[]⟩, .int .i64 0, .slice none 0 0] 70))
    clear hb CP1 p0 p1 hz2 HB2
    go_wp2_with fail
    refine (exFail_any 5 _).mono ?_
    rintro e wf ⟨rfl, hb⟩
    have HBX := Lib.hid (HB3.out.next hb)
    clear hb
    have r0 := HBX.out.res.cell (i := 0) rfl
    have r1 := HBX.out.res.cell (i := 1) rfl
    have fr0 := HBX.out.res.frozen 0
    have fr1 := HBX.out.res.frozen 1
    have hrs := HBX.out.size
    go_wp2_with fail
    exact bodyPost_ret (v := .tuple #[.agg #[.slice none 0 0, .slice none 0 0], .slice none 0 0, .slice none 0 0, .int .i64 5]) (by simp [results, Try.results17, go_sem, r0, r1]) rfl ⟨.slice none 0 0, .slice none 0 0, .slice none 0 0, .slice none 0 0, by rw [HV.out], ⟨fun _ => ⟨rfl, rfl, rfl, rfl⟩, fun h0 => absurd (HV.out.symm.trans h0) (by first | exact HNE.out | decide)⟩, HBX.out.done _ _⟩
  | some p =>
    have CP1 := Lib.hid (CP.out nm _ HB2.out.bel)
    rw [hP] at CP1
    have CK1 := Lib.hid (CK.out hE)
    have HEV := Lib.hid (V4.out hE _ p HFD.out hP)
    clear V3 V4 CK
    simp only [Option.isSome_none, Option.isSome_some] at *
    go_wp2_with fail
    refine CP1.out.mono ?_
    rintro e w3 ⟨pv, rfl, hpr, hb⟩
    obtain ⟨qv, rfl, hps⟩ := hpr
    obtain ⟨po, pcap, rfl⟩ := parS_shape hps
    have HPS := Lib.hid hps
    have HB3X := Lib.hid (HB2.out.next hb).bel
    have HEE := Lib.hid (show chkRig x = 0 from hE)
    have ha := (Below.refl w3.heap.size w3).alloc (Nat.le_refl _) (.cells #[.string p.name, .int .i64 p.size, .slice po p.pars.length pcap] 70)
    have HB3 := Lib.hid ((HB2.out.next hb).alloc (.cells #[.string p.name, .int .i64 p.size, .slice po p.pars.length pcap] 70))
    have HT3 := Lib.hid (TBox.new w3 #[.string p.name, .int .i64 p.size, .slice po p.pars.length pcap] 70)
    have hs3 := (HB2.out.next hb).size
    have HS3 := Lib.hid hs3
    clear hb CP1 p0 p1 hz2 HB2 hps ha hs3
    have p0 := HB3.out.par.cell (i := 0) rfl
    have p1 := HB3.out.par.cell (i := 1) rfl
    have hz3 := HS3.out
    have CK2 := Lib.hid (CK1.out _ HB3.out.bel)
    go_wp2_with fail
    refine CK2.out.mono ?_
    rintro e w4 ⟨mv, rfl, hmv, hb⟩
    have HB4 := Lib.hid (HB3.out.next hb)
    have HT4 := Lib.hid (HT3.out.below hb)
    have HS4 := Lib.hid (show w.heap.size + 2 ≤ w3.heap.size ∧ w3.heap.size < w4.heap.size from ⟨HS3.out, HT4.out.lt⟩)
    clear hb CK1 CK2 p0 p1 HB3 HT3 hz3 HS3 hmv
    by_cases hC : chkStgs x l = 0
    rotate_left
    · have HV := Lib.hid (show FF = chkStgs x l by rw [HEV.out, if_pos hC])
      have HNE := Lib.hid hC
      go_wp2_with fail
      refine (exFail_any (chkStgs x l) _).mono ?_
      rintro e wf ⟨rfl, hb⟩
      have HBX := Lib.hid (HB4.out.next hb)
      clear hb
      have r0 := HBX.out.res.cell (i := 0) rfl
      have r1 := HBX.out.res.cell (i := 1) rfl
      have fr0 := HBX.out.res.frozen 0
      have fr1 := HBX.out.res.frozen 1
      have hrs := HBX.out.size
      go_wp2_with fail
      exact bodyPost_ret (v := .tuple #[.agg #[.slice none 0 0, .slice none 0 0], .slice none 0 0, .slice none 0 0, .int .i64 (chkStgs x l)]) (by simp [results, Try.results17, go_sem, r0, r1]) rfl ⟨.slice none 0 0, .slice none 0 0, .slice none 0 0, .slice none 0 0, by rw [HV.out], ⟨fun _ => ⟨rfl, rfl, rfl, rfl⟩, fun h0 => absurd (HV.out.symm.trans h0) (by first | exact HNE.out | decide)⟩, HBX.out.done _ _⟩
    rw [hC]
    have HEW := Lib.hid (show FF = if (exAt x n p.size (x.units[posU x.units n]'hk)).isNone then 13 else 0 by rw [HEV.out, if_neg (by simpa using hC)])
    have HCQ := Lib.hid hC
    have HPQ := Lib.hid hP
    have p0 := HB4.out.par.cell (i := 0) rfl
    have p1 := HB4.out.par.cell (i := 1) rfl
    have hz4 := HB4.out.size
    have CT1 := Lib.hid (CT.out hE _ HB4.out.bel)
    have CY1 := Lib.hid (CY.out hE)
    clear hC hP HEV CT CY
    go_wp2_with fail
    refine CT1.out.mono ?_
    rintro e w5 ⟨mb, rfl, hm1, hm2, hus, hb⟩
    have HB5 := Lib.hid (HB4.out.next hb)
    have HT5 := Lib.hid (HT4.out.below hb)
    have HUS := Lib.hid hus
    have hs5 := hb.size
    obtain ⟨old, hop, hob⟩ := par_right hE (List.getElem_mem hk)
    have hpz := size_pos (chkRig_zero hE).1 (u := ⟨0, nm, 0, 0⟩) HPQ.out
    obtain ⟨_, q', hq', hub⟩ := ((chkRig_iff x).1 hE).2.2.1 _ (List.getElem_mem hk)
    obtain ⟨b1, b2, _⟩ := untBad_false hub
    obtain ⟨b, off, cap', hsl, hbb, _, hc⟩ := HGU.out (by omega)
    injection hsl with hs1 hs2 hs3
    subst hs1
    subst hs3
    obtain ⟨d0, d1, d2, d3⟩ := hc _ hk w5 HB5.out.bel
    have hbr : b < w5.heap.size := by have := HB5.out.size; omega
    clear hc hub hq'
    have HOP := Lib.hid hop
    clear hop hb hus p0 p1 hz4 HGU
    generalize hug : x.units[posU x.units n]'hk = u at *
    have HUG := Lib.hid hug
    clear hug
    obtain ⟨un, up, uu, ua⟩ := u
    simp only at *
    have p0 := HB5.out.par.cell (i := 0) rfl
    have p1 := HB5.out.par.cell (i := 1) rfl
    have hz5 : w.heap.size < w5.heap.size := by have := HB5.out.size; omega
    have HTU5 := Lib.hid (TBox.new w5 #[.int .i64 un, .string up, .int .i64 uu, .int .i64 ua] 67)
    have HB6 := Lib.hid (HB5.out.alloc (.cells #[.int .i64 un, .string up, .int .i64 uu, .int .i64 ua] 67))
    have H56 := Lib.hid ((Below.refl w5.heap.size w5).alloc (Nat.le_refl _) (.cells #[.int .i64 un, .string up, .int .i64 uu, .int .i64 ua] 67))
    have CP2 := Lib.hid (CP.out up _ HB6.out.bel)
    rw [show profOf x.lib up.data.toList = some old from HOP.out] at CP2
    simp only [Option.isSome_some] at CP2
    clear CP
    go_wp2_with fail
    refine CP2.out.mono ?_
    rintro e w7 ⟨pv2, rfl, hpr, hb⟩
    obtain ⟨qv2, rfl, hps⟩ := hpr
    obtain ⟨qo, qcap, rfl⟩ := parS_shape hps
    have HB7 := Lib.hid (HB6.out.next hb)
    have HB7X := Lib.hid HB7.out.bel
    have HTU7 := Lib.hid (HTU5.out.below hb)
    have hltu := HTU7.out.lt
    have fz1 := HTU7.out.frozen 1
    have x0 := HTU7.out.cell (i := 0) rfl
    have x1 := HTU7.out.cell (i := 1) rfl
    have x2 := HTU7.out.cell (i := 2) rfl
    have x3 := HTU7.out.cell (i := 3) rfl
    have HOS := Lib.hid hps
    have H77 := Lib.hid (H56.out.trans (hb.mono (by simp)))
    have HT7 := Lib.hid ((HT5.out.below H56.out).below hb)
    have HTO := Lib.hid (TBox.new w7 #[.string old.name, .int .i64 old.size, .slice qo old.pars.length qcap] 70)
    clear hb hps CP2 p0 p1 hz5 hbr d0 d1 d2 d3 HB6
    have h77 := HTU7.out.lt
    have HB8 := Lib.hid ((HB7.out.set (b := w5.heap.size) (by have := HB5.out.size; omega) 1 (.string nm)).alloc (.cells #[.string old.name, .int .i64 old.size, .slice qo old.pars.length qcap] 70))
    have H58 := Lib.hid ((H77.out.setCell (p := ⟨w5.heap.size, 1, none⟩) (Nat.le_refl _) (.string nm)).alloc (by simp; omega) (.cells #[.string old.name, .int .i64 old.size, .slice qo old.pars.length qcap] 70))
    have HTU8 := Lib.hid (show TBox ((w7.setCell ⟨w5.heap.size, 1, none⟩ (.string nm)).alloc (.cells #[.string old.name, .int .i64 old.size, .slice qo old.pars.length qcap] 70)) w5.heap.size 67 #[.int .i64 un, .string nm, .int .i64 uu, .int .i64 ua] from (HTU7.out.set 1 (.string nm)).alloc _)
    have HT8 := Lib.hid ((HT7.out.setOther (b' := w5.heap.size) (i := 1) (by have := HT5.out.lt; omega) (.string nm)).alloc (.cells #[.string old.name, .int .i64 old.size, .slice qo old.pars.length qcap] 70))
    have HTO8 := Lib.hid (show TBox ((w7.setCell ⟨w5.heap.size, 1, none⟩ (.string nm)).alloc (.cells #[.string old.name, .int .i64 old.size, .slice qo old.pars.length qcap] 70)) w7.heap.size 70 #[.string old.name, .int .i64 old.size, .slice qo old.pars.length qcap] from by
      have h1 := TBox.new (w7.setCell ⟨w5.heap.size, 1, none⟩ (.string nm)) #[.string old.name, .int .i64 old.size, .slice qo old.pars.length qcap] 70
      have h2 : (w7.setCell ⟨w5.heap.size, 1, none⟩ (.string nm)).heap.size = w7.heap.size := by simp
      rw [h2] at h1
      exact h1)
    clear HTO
    go_upto_region 18 with fail
    obtain ⟨w8, hw8⟩ : ∃ w8 : World, w8 = (w7.setCell ⟨w5.heap.size, 1, none⟩ (.string nm)).alloc (.cells #[.string old.name, .int .i64 old.size, .slice qo old.pars.length qcap] 70) := ⟨_, rfl⟩
    rw [← hw8] at HB8 H58 HTU8 HT8 HTO8 ⊢
    clear hw8 x0 x1 x2 x3 fz1 hltu HTU7 HT7 HB7 H77
    have HUS8 := Lib.hid (HUS.out.below H58.out)
    obtain ⟨pvq, hlk, hfr⟩ := used_free HUS8.out uu ua p.size (by unfold I64; omega) (by omega) (by omega) (by omega) (by omega)
    have x2 := HTU8.out.cell (i := 2) rfl
    have x3 := HTU8.out.cell (i := 3) rfl
    have hxl := HTU8.out.lt
    have y1 := HT8.out.cell (i := 1) rfl
    have hyl := HT8.out.lt
    have HFR := Lib.hid hfr
    clear hfr
    go_upto_if 114 with (first | (go_at_call 46; (with_reducible refine HFR.out.mono ?_); rintro e w' ⟨rfl, rfl⟩) | fail)
    have hx9 := hxl
    clear HFR hlk
    go_cut [15] (fun s15 wx => ∃ (c : Bool) (r : Int × Int), s15 = .bool c ∧ exAt x n p.size ⟨un, up, uu, ua⟩ = some r ∧ RigBox w (.slice lo x.lib.length lcap) (.slice (some ⟨b, off, none⟩) x.units.length ucap) wx ∧ Below w5.heap.size w5 wx ∧ TBox wx w5.heap.size 67 #[.int .i64 un, .string nm, .int .i64 r.1, .int .i64 r.2] ∧ TBox wx w3.heap.size 70 #[.string p.name, .int .i64 p.size, .slice po p.pars.length pcap] ∧ TBox wx w7.heap.size 70 #[.string old.name, .int .i64 old.size, .slice qo old.pars.length qcap])
    case first =>
      cases hfa : freeAt (usBut x n) uu ua p.size
      · have HXR := Lib.hid (show exAt x n p.size ⟨un, up, uu, ua⟩ = roomO (usBut x n) p.size from exAt_room (u := ⟨un, up, uu, ua⟩) hfa)
        have CRM := Lib.hid (room_any mb mb (usBut x n) p.size w8 HUS8.out hpz.1 hpz.2)
        cases hro : roomO (usBut x n) p.size with
        | none =>
          have HV := Lib.hid (show FF = 13 by rw [HEW.out, HXR.out, hro]; rfl)
          have HNE : Hid True := trivial
          rw [hro] at CRM
          unfold roomV at CRM
          have f2 := HTU8.out.frozen 2
          have f3 := HTU8.out.frozen 3
          go_wp2_with fail
          refine CRM.out.mono ?_
          rintro e w' ⟨rfl, rfl⟩
          have HB9 := Lib.hid ((HB8.out.set (b := w5.heap.size) (by have := HB5.out.size; omega) 2 (.int .i64 0)).set (b := w5.heap.size) (by have := HB5.out.size; omega) 3 (.int .i64 0))
          go_wp2_with fail
          refine (exFail_any 13 _).mono ?_
          rintro e wf ⟨rfl, hb⟩
          have HBX := Lib.hid (HB9.out.next hb)
          clear hb
          have r0 := HBX.out.res.cell (i := 0) rfl
          have r1 := HBX.out.res.cell (i := 1) rfl
          have fr0 := HBX.out.res.frozen 0
          have fr1 := HBX.out.res.frozen 1
          have hrs := HBX.out.size
          go_wp2_with fail
          exact bodyPost_ret (v := .tuple #[.agg #[.slice none 0 0, .slice none 0 0], .slice none 0 0, .slice none 0 0, .int .i64 13]) (by simp [results, Try.results17, go_sem, r0, r1]) rfl ⟨.slice none 0 0, .slice none 0 0, .slice none 0 0, .slice none 0 0, by rw [HV.out], ⟨fun _ => ⟨rfl, rfl, rfl, rfl⟩, fun h0 => absurd (HV.out.symm.trans h0) (by first | exact HNE.out | decide)⟩, HBX.out.done _ _⟩
        | some r =>
          obtain ⟨r1, r2⟩ := r
          rw [hro] at CRM HXR
          unfold roomV at CRM
          have f2 := HTU8.out.frozen 2
          have f3 := HTU8.out.frozen 3
          go_wp2_with fail
          refine CRM.out.mono ?_
          rintro e w' ⟨rfl, rfl⟩
          have HB9 := Lib.hid ((HB8.out.set (b := w5.heap.size) (by have := HB5.out.size; omega) 2 (.int .i64 r1)).set (b := w5.heap.size) (by have := HB5.out.size; omega) 3 (.int .i64 r2))
          have H59 := Lib.hid ((H58.out.setCell (p := ⟨w5.heap.size, 2, none⟩) (Nat.le_refl _) (.int .i64 r1)).setCell (p := ⟨w5.heap.size, 3, none⟩) (Nat.le_refl _) (.int .i64 r2))
          have HTU9 := Lib.hid ((HTU8.out.set 2 (.int .i64 r1)).set 3 (.int .i64 r2))
          have HT9 := Lib.hid ((HT8.out.setOther (b' := w5.heap.size) (i := 2) (by have := HT5.out.lt; omega) (.int .i64 r1)).setOther (b' := w5.heap.size) (i := 3) (by have := HT5.out.lt; omega) (.int .i64 r2))
          have HTO9 := Lib.hid ((HTO8.out.setOther (b' := w5.heap.size) (i := 2) (by omega) (.int .i64 r1)).setOther (b' := w5.heap.size) (i := 3) (by omega) (.int .i64 r2))
          go_wp2_with fail
          go_meet
          exact ⟨_, (r1, r2), rfl, HXR.out, HB9.out, H59.out, HTU9.out, HT9.out, HTO9.out⟩
      · have HXR := Lib.hid (show exAt x n p.size ⟨un, up, uu, ua⟩ = some (uu, ua) from exAt_free (u := ⟨un, up, uu, ua⟩) hfa)
        go_wp2_with fail
        go_meet
        exact ⟨_, (uu, ua), rfl, HXR.out, HB8.out, H58.out, HTU8.out, HT8.out, HTO8.out⟩
    case rest =>
      obtain ⟨c15, r, rfl, hxr, hbx, hb5, htu, htp, hto⟩ := hcut
      obtain ⟨w9, rfl⟩ : ∃ y, y = wc := ⟨wc, rfl⟩
      obtain ⟨r1, r2⟩ := r
      simp only at htu
      have HXR := Lib.hid hxr
      have HB9 := Lib.hid hbx
      have H59 := Lib.hid hb5
      have HTU9 := Lib.hid htu
      have HTP9 := Lib.hid htp
      have HTO9 := Lib.hid hto
      clear hxr hbx hb5 htu htp hto HB8 H58 HTU8 HT8 HTO8 HUS8 HUS x2 x3 y1 hyl hxl hx9 h77
      have p0 := HB9.out.par.cell (i := 0) rfl
      have p1 := HB9.out.par.cell (i := 1) rfl
      have hz9 : w.heap.size < w9.heap.size := by have := HB9.out.size; omega
      have CY2 := Lib.hid (CY1.out _ HB9.out.bel)
      clear CY1
      go_wp2_with fail
      refine CY2.out.mono ?_
      rintro e w10 ⟨lv', uv', rfl, hol, hou, hb⟩
      have HB10 := Lib.hid (HB9.out.next hb)
      have HOL := Lib.hid hol
      have HOU := Lib.hid hou
      obtain ⟨ol, oc, rfl⟩ := hol.shape
      obtain ⟨vl, vc, rfl⟩ := hou.shape
      have HTU10 := Lib.hid (HTU9.out.below hb)
      have HTP10 := Lib.hid (HTP9.out.below hb)
      have HTO10 := Lib.hid (HTO9.out.below hb)
      clear hb hol hou CY2 p0 p1 hz9 HTU9 HTP9 HTO9
      have hou := HOU.out
      unfold OwnU at hou
      obtain ⟨_, ⟨_, h0⟩ | ⟨g, cap2, cur, e1, hbg, hgc, hnc, hcm, hcs, _⟩⟩ := hou
      · omega
      injection e1 with e1 e2 e3
      subst e1
      subst e3
      have hk4 : posU x.units n * 4 + 3 < cur.size := by have := Nat.mul_le_mul_right 4 hnc; omega
      have HB11 := Lib.hid (HB10.out.alloc (.cells #[.slice ol x.lib.length oc, .slice (some ⟨g, 0, none⟩) x.units.length vc] 25))
      have HBC := Lib.hid (TBox.new w10 #[.slice ol x.lib.length oc, .slice (some ⟨g, 0, none⟩) x.units.length vc] 25)
      have HTU11 := Lib.hid (HTU10.out.alloc (.cells #[.slice ol x.lib.length oc, .slice (some ⟨g, 0, none⟩) x.units.length vc] 25))
      have hgl : g < w10.heap.size := (Array.getElem?_eq_some_iff.1 hgc).1
      have hgc2 : (w10.alloc (.cells #[.slice ol x.lib.length oc, .slice (some ⟨g, 0, none⟩) x.units.length vc] 25)).heap[g]? = some (.cells cur 67 (0, 0)) := (((Below.refl w10.heap.size w10).alloc (Nat.le_refl _) _).block g hgl).trans hgc
      go_upto_region 23 with fail
      have HOU11 := Lib.hid (HOU.out.below ((Below.refl w10.heap.size w10).alloc (Nat.le_refl _) (.cells #[.slice ol x.lib.length oc, .slice (some ⟨g, 0, none⟩) x.units.length vc] 25)))
      have HOL11 := Lib.hid (HOL.out.below ((Below.refl w10.heap.size w10).alloc (Nat.le_refl _) (.cells #[.slice ol x.lib.length oc, .slice (some ⟨g, 0, none⟩) x.units.length vc] 25)))
      have HTP11 := Lib.hid (HTP10.out.alloc (.cells #[.slice ol x.lib.length oc, .slice (some ⟨g, 0, none⟩) x.units.length vc] 25))
      have HTO11 := Lib.hid (HTO10.out.alloc (.cells #[.slice ol x.lib.length oc, .slice (some ⟨g, 0, none⟩) x.units.length vc] 25))
      obtain ⟨w11, hw11⟩ : ∃ w11 : World, w11 = w10.alloc (.cells #[.slice ol x.lib.length oc, .slice (some ⟨g, 0, none⟩) x.units.length vc] 25) := ⟨_, rfl⟩
      rw [← hw11] at HB11 HBC HTU11 HOU11 HOL11 HTP11 HTO11 hgc2 ⊢
      clear hw11
      have z1 := HBC.out.cell (i := 1) rfl
      have zl := HBC.out.lt
      have u0' := HTU11.out.cell (i := 0) rfl
      have u1' := HTU11.out.cell (i := 1) rfl
      have u2' := HTU11.out.cell (i := 2) rfl
      have u3' := HTU11.out.cell (i := 3) rfl
      have ul := HTU11.out.lt
      have hg11 : g < w11.heap.size := (Array.getElem?_eq_some_iff.1 hgc2).1
      have s0 : w11.cell? ⟨g, posU x.units n * 4, none⟩ = some (cur[posU x.units n * 4]'(by omega)) := (row_cell2 hgc2).trans (Array.getElem?_eq_getElem (by omega))
      have s1 : w11.cell? ⟨g, posU x.units n * 4 + 1, none⟩ = some (cur[posU x.units n * 4 + 1]'(by omega)) := (row_cell2 hgc2).trans (Array.getElem?_eq_getElem (by omega))
      have s2 : w11.cell? ⟨g, posU x.units n * 4 + 2, none⟩ = some (cur[posU x.units n * 4 + 2]'(by omega)) := (row_cell2 hgc2).trans (Array.getElem?_eq_getElem (by omega))
      have s3 : w11.cell? ⟨g, posU x.units n * 4 + 3, none⟩ = some (cur[posU x.units n * 4 + 3]'(by omega)) := (row_cell2 hgc2).trans (Array.getElem?_eq_getElem (by omega))
      have f0 := frozen_of_row w11 g (posU x.units n * 4) cur _ hgc2
      have f1 := frozen_of_row w11 g (posU x.units n * 4 + 1) cur _ hgc2
      have f2 := frozen_of_row w11 g (posU x.units n * 4 + 2) cur _ hgc2
      have f3 := frozen_of_row w11 g (posU x.units n * 4 + 3) cur _ hgc2
      have HGU2 := Lib.hid (show TBox w11 g 67 cur from hgc2)
      clear hgc hgc2 hgl
      go_upto_region 26 with fail
      have hun : n = un := by have h := HNM.out; simpa using h.symm
      subst hun
      have hbg2 : w.heap.size + 2 ≤ g := by have := HB9.out.size; omega
      have HOT := Lib.hid (Other.box4 HGU2.out (posU x.units n * 4) (posU x.units n * 4 + 1) (posU x.units n * 4 + 2) (posU x.units n * 4 + 3) (.int .i64 n) (.string nm) (.int .i64 r1) (.int .i64 r2))
      have HBP := Lib.hid ((((HB11.out.set hbg2 (posU x.units n * 4) (.int .i64 n)).set hbg2 (posU x.units n * 4 + 1) (.string nm)).set hbg2 (posU x.units n * 4 + 2) (.int .i64 r1)).set hbg2 (posU x.units n * 4 + 3) (.int .i64 r2))
      have HPT := Lib.hid (HOU11.out.put (posU x.units n) hk ⟨n, nm, r1, r2⟩)
      rw [show untC ⟨n, nm, r1, r2⟩ = [.int .i64 n, .string nm, .int .i64 r1, .int .i64 r2] from rfl] at HPT
      simp only [World.setCells] at HPT
      obtain ⟨w12, hw12⟩ : ∃ w12 : World, w12 = ((((w11.setCell ⟨g, posU x.units n * 4, none⟩ (.int .i64 n)).setCell ⟨g, posU x.units n * 4 + 1, none⟩ (.string nm)).setCell ⟨g, posU x.units n * 4 + 2, none⟩ (.int .i64 r1)).setCell ⟨g, posU x.units n * 4 + 3, none⟩ (.int .i64 r2)) := ⟨_, rfl⟩
      rw [← hw12] at HOT HBP HPT ⊢
      clear hw12
      have HKA := Lib.hid (show ExK w (.slice lo x.lib.length lcap) (.slice (some ⟨b, off, none⟩) x.units.length ucap) w3.heap.size w7.heap.size w10.heap.size #[.string p.name, .int .i64 p.size, .slice po p.pars.length pcap] #[.string old.name, .int .i64 old.size, .slice qo old.pars.length qcap] #[.slice ol x.lib.length oc, .slice (some ⟨g, 0, none⟩) x.units.length vc] (.slice ol x.lib.length oc) (.slice (some ⟨g, 0, none⟩) x.units.length vc) x.lib (x.units.set (posU x.units n) ⟨n, nm, r1, r2⟩) w12 from ⟨HBP.out, HOT.out.tbox HTP11.out (by decide), HOT.out.tbox HTO11.out (by decide), HOT.out.tbox HBC.out (by decide), (HOL11.out.other HOT.out (by decide) (by decide) (by decide)).less (by have := HB9.out.size; omega), own_base HPT.out (by have := HB9.out.size; omega)⟩)
      have HFEW := Lib.hid (fun k => kept_few n old p l k (stgs_few HEE.out HCQ.out))
      have hl16 : l.length ≤ 16000 := stgs_few HEE.out HCQ.out
      have HRL := Lib.hid ((stgs_iff x l).1 HCQ.out).1
      have HCO := Lib.hid (show chkPrf old = 0 from chkLib_prf (chkRig_zero HEE.out).1 (profOf_some HOP.out).1)
      have HCP := Lib.hid (show chkPrf p = 0 from chkLib_prf (chkRig_zero HEE.out).1 (profOf_some HPQ.out).1)
      have hs37 := (HTP11.out).lt
      have hs77 := (HTO11.out).lt
      have HPP := Lib.hid (show ∀ W, ExK w (.slice lo x.lib.length lcap) (.slice (some ⟨b, off, none⟩) x.units.length ucap) w3.heap.size w7.heap.size w10.heap.size #[.string p.name, .int .i64 p.size, .slice po p.pars.length pcap] #[.string old.name, .int .i64 old.size, .slice qo old.pars.length qcap] #[.slice ol x.lib.length oc, .slice (some ⟨g, 0, none⟩) x.units.length vc] (.slice ol x.lib.length oc) (.slice (some ⟨g, 0, none⟩) x.units.length vc) x.lib (x.units.set (posU x.units n) ⟨n, nm, r1, r2⟩) W → ParS w.heap.size W (.slice po p.pars.length pcap) p.pars from fun W hW => HPS.out.below (below_mid HB3X.out hW.box.bel (Nat.le_of_lt hW.t3.lt)))
      have HPO := Lib.hid (show ∀ W, ExK w (.slice lo x.lib.length lcap) (.slice (some ⟨b, off, none⟩) x.units.length ucap) w3.heap.size w7.heap.size w10.heap.size #[.string p.name, .int .i64 p.size, .slice po p.pars.length pcap] #[.string old.name, .int .i64 old.size, .slice qo old.pars.length qcap] #[.slice ol x.lib.length oc, .slice (some ⟨g, 0, none⟩) x.units.length vc] (.slice ol x.lib.length oc) (.slice (some ⟨g, 0, none⟩) x.units.length vc) x.lib (x.units.set (posU x.units n) ⟨n, nm, r1, r2⟩) W → ParS w.heap.size W (.slice qo old.pars.length qcap) old.pars from fun W hW => HOS.out.below (below_mid HB7X.out hW.box.bel (Nat.le_of_lt hW.t7.lt)))
      have CPP := Lib.hid (fun (q : ByteArray) W (hW : ExK w (.slice lo x.lib.length lcap) (.slice (some ⟨b, off, none⟩) x.units.length ucap) w3.heap.size w7.heap.size w10.heap.size #[.string p.name, .int .i64 p.size, .slice po p.pars.length pcap] #[.string old.name, .int .i64 old.size, .slice qo old.pars.length qcap] #[.slice ol x.lib.length oc, .slice (some ⟨g, 0, none⟩) x.units.length vc] (.slice ol x.lib.length oc) (.slice (some ⟨g, 0, none⟩) x.units.length vc) x.lib (x.units.set (posU x.units n) ⟨n, nm, r1, r2⟩) W) => parameter_any w.heap.size p.name p.size _ p.pars q W hW.box.bel.size (HPP.out W hW))
      have CPO := Lib.hid (fun (q : ByteArray) W (hW : ExK w (.slice lo x.lib.length lcap) (.slice (some ⟨b, off, none⟩) x.units.length ucap) w3.heap.size w7.heap.size w10.heap.size #[.string p.name, .int .i64 p.size, .slice po p.pars.length pcap] #[.string old.name, .int .i64 old.size, .slice qo old.pars.length qcap] #[.slice ol x.lib.length oc, .slice (some ⟨g, 0, none⟩) x.units.length vc] (.slice ol x.lib.length oc) (.slice (some ⟨g, 0, none⟩) x.units.length vc) x.lib (x.units.set (posU x.units n) ⟨n, nm, r1, r2⟩) W) => parameter_any w.heap.size old.name old.size _ old.pars q W hW.box.bel.size (HPO.out W hW))
      have HRP := Lib.hid (rngs_right HCP.out)
      have HRO := Lib.hid (rngs_right HCO.out)
      have HFIN2 := Lib.hid (show ∃ (hk : posU x.units n < x.units.length) (p old : Prf) (r : Int × Int), (x.units[posU x.units n]'hk).num = n ∧ True ∧ True ∧ True from ⟨hk, p, old, (r1, r2), by rw [HUG.out], trivial, trivial, trivial⟩)
      have HPQ2 := Lib.hid HPQ.out
      have HOP2 := Lib.hid (show ∀ hk : posU x.units n < x.units.length, profOf x.lib (x.units[posU x.units n]'hk).nm = some old from fun hk => by rw [HUG.out]; exact HOP.out)
      have HXR2 := Lib.hid (show ∀ hk : posU x.units n < x.units.length, exAt x n p.size (x.units[posU x.units n]'hk) = some (r1, r2) from fun hk => by rw [HUG.out]; exact HXR.out)
      have HF0 := Lib.hid (show FF = 0 by rw [HEW.out, HXR.out]; rfl)
      clear HPP HPO HCO HCP HPS HOS HB3X HB7X HEE HCQ HPQ HOP HUG HXR HEW HOT HBP HPT hs37 hs77 HTP11 HTO11 HBC HOL11 HOU11 HOU HOL
      go_wp2_with fail
      go_loopw [142, 24, 25] (fun i kv qv wx => ∃ (k : Nat) (kv' qv' : Value), k ≤ l.length ∧ i = .int .i64 k ∧ kv' = kv ∧ qv' = qv ∧ Hid (OwnS (w.heap.size + 2) wx kv' (keptS n old p (l.take k))) ∧ Hid (OwnK (w.heap.size + 2) wx qv' (keyRs (lostS n old p (l.take k)))) ∧ Hid (ExK w (.slice lo x.lib.length lcap) (.slice (some ⟨b, off, none⟩) x.units.length ucap) w3.heap.size w7.heap.size w10.heap.size #[.string p.name, .int .i64 p.size, .slice po p.pars.length pcap] #[.string old.name, .int .i64 old.size, .slice qo old.pars.length qcap] #[.slice ol x.lib.length oc, .slice (some ⟨g, 0, none⟩) x.units.length vc] (.slice ol x.lib.length oc) (.slice (some ⟨g, 0, none⟩) x.units.length vc) x.lib (x.units.set (posU x.units n) ⟨n, nm, r1, r2⟩) wx)) (fun i _ _ _ => l.length - (intOf i).toNat)
      case atStart => exact ⟨0, _, _, Nat.zero_le _, rfl, rfl, rfl, Lib.hid (OwnS.nil _ _), Lib.hid (OwnK.nil _ _), HKA⟩
      case round =>
        clear HKA
        obtain ⟨k, kv, qv, hkl, rfl, rfl, rfl, HO, HQ, HK⟩ := hrel
        have hzr := HK.out.box.size
        by_cases hlt : k < l.length
        · obtain ⟨b2, off2, cap2, hsl, hb2, _, hc⟩ := (StgS.get HSG.out) (by omega)
          injection hsl with hs1 hs2 hs3
          subst hs1 hs3
          obtain ⟨d0, d1, d2⟩ := hc k hlt wr HK.out.box.bel
          have hbr : b2 < wr.heap.size := by omega
          obtain ⟨_, hl0, hl1⟩ := HRL.out _ (List.getElem_mem hlt)
          clear hc
          generalize hrk : l[k] = rk at *
          have HRK := Lib.hid hrk
          clear hrk
          obtain ⟨su, sp, sl⟩ := rk
          simp only at *
          have HS := Lib.hid (TBox.new wr #[.int .i64 su, .string sp, .int .i64 sl] 35)
          have HBc := Lib.hid ((Below.refl wr.heap.size wr).alloc (Nat.le_refl _) (.cells #[.int .i64 su, .string sp, .int .i64 sl] 35))
          have HK1 := Lib.hid (HK.out.alloc (.cells #[.int .i64 su, .string sp, .int .i64 sl] 35))
          by_cases hsn : su = n
          · have hsn2 : n = su := hsn.symm
            subst hsn2
            clear hsn
            have CA := Lib.hid (CPO.out sp _ HK1.out)
            have y0 := HK1.out.t7.cell (i := 0) rfl
            have y1 := HK1.out.t7.cell (i := 1) rfl
            have y2 := HK1.out.t7.cell (i := 2) rfl
            have yl := HK1.out.t7.lt
            have HRA := Lib.hid (HRO.out sp.data.toList)
            have HKG := Lib.hid (keep_gone (n := n) (s := ⟨n, sp, sl⟩) old (p := p) rfl)
            have HKW := Lib.hid (fun b v hb => keep_way (n := n) (s := ⟨n, sp, sl⟩) (old := old) (p := p) (b := b) rfl hb (v := v))
            have HKL := Lib.hid (fun b v hb => keep_lost (n := n) (s := ⟨n, sp, sl⟩) (old := old) (p := p) (b := b) rfl hb (v := v))
            have HRB := Lib.hid (fun (q : Par) (hq : parOf p.pars sp.data.toList = some q) => (show RngsOk q.rngs from by have h := HRP.out sp.data.toList; rw [hq] at h; exact h))
            simp only at HKG HKW HKL
            generalize hra0 : ((parOf old.pars sp.data.toList).map Par.rngs).getD [] = RA at *
            have HRAE := Lib.hid hra0
            clear hra0
            go_upto_region 30 with fail
            clear d0 d1 d2
            generalize hwz : wr.alloc (.cells #[.int .i64 n, .string sp, .int .i64 sl] 35) = wz at *
            clear hwz
            have s1 := HS.out.cell (i := 1) rfl
            have sl' := HS.out.lt
            go_wp2_with fail
            refine CA.out.mono ?_
            rintro e wa ⟨xva, rfl, hpra, hb⟩
            obtain ⟨an, ag, ax, af, ad, ab, arv, rfl, hra⟩ := parR_rngs hpra
            rw [HRAE.out] at hra
            obtain ⟨ao, ac, rfl⟩ := rngS_shape hra
            have HRNA := Lib.hid hra
            have HBa := Lib.hid ((HBc.out.trans (hb.mono (by have := HBc.out.size; omega))).alloc (by have := HBc.out.size; have := hb.size; omega) (.cells #[.string an, .int .i64 ag, .int .i64 ax, .int .i64 af, .int .i64 ad, .bool ab, .slice ao RA.length ac] 42))
            have HSa := Lib.hid ((HS.out.below hb).alloc (.cells #[.string an, .int .i64 ag, .int .i64 ax, .int .i64 af, .int .i64 ad, .bool ab, .slice ao RA.length ac] 42))
            have HTa := Lib.hid (TBox.new wa #[.string an, .int .i64 ag, .int .i64 ax, .int .i64 af, .int .i64 ad, .bool ab, .slice ao RA.length ac] 42)
            have hbA := (Below.refl wa.heap.size wa).alloc (Nat.le_refl _) (.cells #[.string an, .int .i64 ag, .int .i64 ax, .int .i64 af, .int .i64 ad, .bool ab, .slice ao RA.length ac] 42)
            have HKa := Lib.hid ((HK1.out.below hb).alloc (.cells #[.string an, .int .i64 ag, .int .i64 ax, .int .i64 af, .int .i64 ad, .bool ab, .slice ao RA.length ac] 42))
            have CB := Lib.hid (CPP.out sp _ HKa.out)
            have HRNB := Lib.hid (HRNA.out.below (hbA.mono (by have := HKa.out.box.bel.size; have := (HK1.out.below hb).box.bel.size; omega)))
            clear hb hpra hra hbA CA y0 y1 y2 yl s1 sl'
            go_upto_region 31 with fail
            generalize hwz : wa.alloc (.cells #[.string an, .int .i64 ag, .int .i64 ax, .int .i64 af, .int .i64 ad, .bool ab, .slice ao RA.length ac] 42) = wb at *
            clear hwz
            have s1 := HSa.out.cell (i := 1) rfl
            have sl' := HSa.out.lt
            have y0 := HKa.out.t3.cell (i := 0) rfl
            have y1 := HKa.out.t3.cell (i := 1) rfl
            have y2 := HKa.out.t3.cell (i := 2) rfl
            have yl := HKa.out.t3.lt
            cases hpb : parOf p.pars sp.data.toList with
            | none =>
              rw [hpb] at CB
              simp only [Option.isSome_none] at CB
              have HKP := Lib.hid (HKG.out hpb)
              go_wp2_with fail
              refine CB.out.mono ?_
              rintro e wd ⟨xvb, rfl, hprb, hb⟩
              obtain rfl : xvb = .agg #[.string ⟨#[]⟩, .int .i64 0, .int .i64 0, .int .i64 0, .int .i64 0, .bool false, .slice none 0 0] := hprb
              have HBc2 := Lib.hid ((HBa.out.trans (hb.mono (by have := HBa.out.size; omega))).alloc (by have := HBa.out.size; have := hb.size; omega) (.cells #[.string ⟨#[]⟩, .int .i64 0, .int .i64 0, .int .i64 0, .int .i64 0, .bool false, .slice none 0 0] 42))
              have HS2 := Lib.hid ((HSa.out.below hb).alloc (.cells #[.string ⟨#[]⟩, .int .i64 0, .int .i64 0, .int .i64 0, .int .i64 0, .bool false, .slice none 0 0] 42))
              clear hb HBc HS HBa HSa s1 sl' y0 y1 y2 yl
              have HBc := HBc2
              have HS := HS2
              clear HBc2 HS2
              go_upto_region 35 with fail
              generalize hwz : wd.alloc (.cells #[.string ⟨#[]⟩, .int .i64 0, .int .i64 0, .int .i64 0, .int .i64 0, .bool false, .slice none 0 0] 42) = wz at *
              clear hwz
              have HOw := Lib.hid (HO.out.below HBc.out)
              have HQw := Lib.hid (HQ.out.below HBc.out)
              have HKw := Lib.hid (HK.out.below HBc.out)
              have s0 := HS.out.cell (i := 0) rfl
              have s1 := HS.out.cell (i := 1) rfl
              have s2 := HS.out.cell (i := 2) rfl
              have sl' := HS.out.lt
              have hOA := Lib.hid (HOw.out.below ((Below.refl _ _).alloc (Nat.le_refl _) (.cells #[.int .i64 n, .string sp] 33)))
              have hQA := Lib.hid (HQw.out.below ((Below.refl _ _).alloc (Nat.le_refl _) (.cells #[.int .i64 n, .string sp] 33)))
              have hKA := Lib.hid (HKw.out.alloc (.cells #[.int .i64 n, .string sp] 33))
              have hln := (HFEW.out k).2
              have hbz := hKA.out.box.size
              have HST := Lib.hid (kept_none hlt (show keepS n old p l[k] = none from by rw [HRK.out]; exact HKP.out))
              have HLK := Lib.hid (show (⟨l[k].unit, l[k].par⟩ : KeyR) = ⟨n, sp⟩ by rw [HRK.out])
              obtain ⟨ko, kc, hsh⟩ := HQw.out.shape
              subst hsh
              go_wp2_with (first | (at_builtin; refine wpList_ownK rfl _ _ rfl (w.heap.size + 2) 1 _ _ ⟨n, sp⟩ ⟨(wz).heap.size, 0, none⟩ rfl rfl hQA.out (ownK_new (wz) ⟨n, sp⟩ _) hln hbz ?_; intro v' w' hown hgrow) | fail)
              have HV := Lib.hid (show OwnS (w.heap.size + 2) w' kv (keptS n old p (l.take (k + 1))) by rw [HST.out.1]; exact hOA.out.grownK hQA.out hgrow)
              have HQV := Lib.hid (show OwnK (w.heap.size + 2) w' v' (keyRs (lostS n old p (l.take (k + 1)))) by rw [HST.out.2, HLK.out]; exact hown)
              have HKV := Lib.hid (hKA.out.grownK hQA.out hgrow)
              clear hown hgrow
              go_wp2_with fail
              go_roundw
              case rel => exact ⟨k + 1, _, _, by omega, by first | rfl | go_num, rfl, rfl, HV, HQV, HKV⟩
              case measure => simp [intOf]; omega
            | some q =>
              rw [hpb] at CB
              simp only [Option.isSome_some] at CB
              have HRQ := Lib.hid (HRB.out q hpb)
              have HKV := Lib.hid (fun v => HKW.out q v hpb)
              have HKV2 := Lib.hid (fun v => HKL.out q v hpb)
              go_wp2_with fail
              refine CB.out.mono ?_
              rintro e wd ⟨xvb, rfl, ⟨brv, rfl, hrb⟩, hb⟩
              obtain ⟨bo, bc, rfl⟩ := rngS_shape hrb
              obtain ⟨bn, bg, bx, bf, bd, bb, bl⟩ := q
              simp only at *
              have HRN2 := Lib.hid hrb
              have HBd := Lib.hid ((HBa.out.trans (hb.mono (by have := HBa.out.size; omega))).alloc (by have := HBa.out.size; have := hb.size; omega) (.cells #[.string bn, .int .i64 bg, .int .i64 bx, .int .i64 bf, .int .i64 bd, .bool bb, .slice bo bl.length bc] 42))
              have HSd := Lib.hid ((HSa.out.below hb).alloc (.cells #[.string bn, .int .i64 bg, .int .i64 bx, .int .i64 bf, .int .i64 bd, .bool bb, .slice bo bl.length bc] 42))
              have HTd := Lib.hid (TBox.new wd #[.string bn, .int .i64 bg, .int .i64 bx, .int .i64 bf, .int .i64 bd, .bool bb, .slice bo bl.length bc] 42)
              have HTa2 := Lib.hid ((HTa.out.below hb).alloc (.cells #[.string bn, .int .i64 bg, .int .i64 bx, .int .i64 bf, .int .i64 bd, .bool bb, .slice bo bl.length bc] 42))
              have HRA2 := Lib.hid ((HRNB.out.below (hb.mono (by have := HKa.out.box.bel.size; omega))).below ((Below.refl wd.heap.size wd).alloc (Nat.le_refl _) (.cells #[.string bn, .int .i64 bg, .int .i64 bx, .int .i64 bf, .int .i64 bd, .bool bb, .slice bo bl.length bc] 42) |>.mono (by have := HKa.out.box.bel.size; have := hb.size; omega)))
              have HRB2 := Lib.hid (HRN2.out.below ((Below.refl wd.heap.size wd).alloc (Nat.le_refl _) (.cells #[.string bn, .int .i64 bg, .int .i64 bx, .int .i64 bf, .int .i64 bd, .bool bb, .slice bo bl.length bc] 42) |>.mono (by have := HKa.out.box.bel.size; have := hb.size; omega)))
              have hwz2 : w.heap.size ≤ (wd.alloc (.cells #[.string bn, .int .i64 bg, .int .i64 bx, .int .i64 bf, .int .i64 bd, .bool bb, .slice bo bl.length bc] 42)).heap.size := by have := HKa.out.box.bel.size; have := hb.size; simp; omega
              have CR := Lib.hid (carried_any w.heap.size an bn ag ax af ad bg bx bf bd sl ab bb _ _ RA bl _ hwz2 HRA2.out HRB2.out HRA.out HRQ.out hl0 hl1)
              obtain ⟨⟨v, c⟩, hcv⟩ : ∃ z : Int × Bool, carV RA bl sl = z := ⟨_, rfl⟩
              rw [hcv] at CR
              simp only at CR
              have HCV := Lib.hid hcv
              clear hcv hb hrb HBc HS HBa HSa HTa s1 sl' y0 y1 y2 yl hwz2
              go_upto_region 33 with fail
              generalize hwz : wd.alloc (.cells #[.string bn, .int .i64 bg, .int .i64 bx, .int .i64 bf, .int .i64 bd, .bool bb, .slice bo bl.length bc] 42) = we at *
              clear hwz
              have z0 := HTa2.out.cell (i := 0) rfl
              have z1 := HTa2.out.cell (i := 1) rfl
              have z2 := HTa2.out.cell (i := 2) rfl
              have z3 := HTa2.out.cell (i := 3) rfl
              have z4 := HTa2.out.cell (i := 4) rfl
              have z5 := HTa2.out.cell (i := 5) rfl
              have z6 := HTa2.out.cell (i := 6) rfl
              have zl := HTa2.out.lt
              have e0 := HTd.out.cell (i := 0) rfl
              have e1 := HTd.out.cell (i := 1) rfl
              have e2' := HTd.out.cell (i := 2) rfl
              have e3 := HTd.out.cell (i := 3) rfl
              have e4 := HTd.out.cell (i := 4) rfl
              have e5 := HTd.out.cell (i := 5) rfl
              have e6 := HTd.out.cell (i := 6) rfl
              have el := HTd.out.lt
              have s2 := HSd.out.cell (i := 2) rfl
              have sl' := HSd.out.lt
              go_wp2_with fail
              refine CR.out.mono ?_
              rintro e wf ⟨rfl, hb⟩
              have HSe := Lib.hid (HSd.out.below hb)
              have HBe := Lib.hid (HBd.out.trans (hb.mono (by have := HBd.out.size; omega)))
              have s2' := HSe.out.cell (i := 2) rfl
              have f2' := HSe.out.frozen 2
              have sle := HSe.out.lt
              clear hb z0 z1 z2 z3 z4 z5 z6 zl e0 e1 e2' e3 e4 e5 e6 el s2 sl' HTa2 HTd HRA2 HRB2 CR HSd HBd
              have HBc := Lib.hid (HBe.out.setCell (p := ⟨wr.heap.size, 2, none⟩) (Nat.le_refl _) (.int .i64 v))
              have HS := Lib.hid (show TBox (wf.setCell ⟨wr.heap.size, 2, none⟩ (.int .i64 v)) wr.heap.size 35 #[.int .i64 n, .string sp, .int .i64 v] from HSe.out.set 2 (.int .i64 v))
              cases c
              · have HKP := Lib.hid (HKV2.out v HCV.out)
                go_upto_region 35 with fail
                generalize hwz : wf.setCell ⟨wr.heap.size, 2, none⟩ (.int .i64 v) = wz at *
                clear hwz s2' f2' sle HBe HSe
                have HOw := Lib.hid (HO.out.below HBc.out)
                have HQw := Lib.hid (HQ.out.below HBc.out)
                have HKw := Lib.hid (HK.out.below HBc.out)
                have s0 := HS.out.cell (i := 0) rfl
                have s1 := HS.out.cell (i := 1) rfl
                have s2 := HS.out.cell (i := 2) rfl
                have sl' := HS.out.lt
                have hOA := Lib.hid (HOw.out.below ((Below.refl _ _).alloc (Nat.le_refl _) (.cells #[.int .i64 n, .string sp] 33)))
                have hQA := Lib.hid (HQw.out.below ((Below.refl _ _).alloc (Nat.le_refl _) (.cells #[.int .i64 n, .string sp] 33)))
                have hKA := Lib.hid (HKw.out.alloc (.cells #[.int .i64 n, .string sp] 33))
                have hln := (HFEW.out k).2
                have hbz := hKA.out.box.size
                have HST := Lib.hid (kept_none hlt (show keepS n old p l[k] = none from by rw [HRK.out]; exact HKP.out))
                have HLK := Lib.hid (show (⟨l[k].unit, l[k].par⟩ : KeyR) = ⟨n, sp⟩ by rw [HRK.out])
                obtain ⟨ko, kc, hsh⟩ := HQw.out.shape
                subst hsh
                go_wp2_with (first | (at_builtin; refine wpList_ownK rfl _ _ rfl (w.heap.size + 2) 1 _ _ ⟨n, sp⟩ ⟨(wz).heap.size, 0, none⟩ rfl rfl hQA.out (ownK_new (wz) ⟨n, sp⟩ _) hln hbz ?_; intro v' w' hown hgrow) | fail)
                have HV := Lib.hid (show OwnS (w.heap.size + 2) w' kv (keptS n old p (l.take (k + 1))) by rw [HST.out.1]; exact hOA.out.grownK hQA.out hgrow)
                have HQV := Lib.hid (show OwnK (w.heap.size + 2) w' v' (keyRs (lostS n old p (l.take (k + 1)))) by rw [HST.out.2, HLK.out]; exact hown)
                have HKV := Lib.hid (hKA.out.grownK hQA.out hgrow)
                clear hown hgrow
                go_wp2_with fail
                go_roundw
                case rel => exact ⟨k + 1, _, _, by omega, by first | rfl | go_num, rfl, rfl, HV, HQV, HKV⟩
                case measure => simp [intOf]; omega
              · have HKP := Lib.hid (HKV.out v HCV.out)
                go_upto_region 36 with fail
                generalize hwz : wf.setCell ⟨wr.heap.size, 2, none⟩ (.int .i64 v) = wz at *
                clear hwz s2' f2' sle HBe HSe
                have HOw := Lib.hid (HO.out.below HBc.out)
                have HQw := Lib.hid (HQ.out.below HBc.out)
                have HKw := Lib.hid (HK.out.below HBc.out)
                have s0 := HS.out.cell (i := 0) rfl
                have s1 := HS.out.cell (i := 1) rfl
                have s2 := HS.out.cell (i := 2) rfl
                have sl' := HS.out.lt
                have hOA := Lib.hid (HOw.out.below ((Below.refl _ _).alloc (Nat.le_refl _) (.cells #[.int .i64 n, .string sp, .int .i64 v] 35)))
                have hQA := Lib.hid (HQw.out.below ((Below.refl _ _).alloc (Nat.le_refl _) (.cells #[.int .i64 n, .string sp, .int .i64 v] 35)))
                have hKA := Lib.hid (HKw.out.alloc (.cells #[.int .i64 n, .string sp, .int .i64 v] 35))
                have hln := (HFEW.out k).1
                have hbz := hKA.out.box.size
                have HST := Lib.hid (kept_some hlt (show keepS n old p l[k] = some ⟨n, sp, v⟩ from by rw [HRK.out]; exact HKP.out))
                obtain ⟨ko, kc, hsh⟩ := HOw.out.shape
                subst hsh
                go_wp2_with (first | (at_builtin; refine wpList_ownS rfl _ _ rfl (w.heap.size + 2) 1 _ _ ⟨n, sp, v⟩ ⟨(wz).heap.size, 0, none⟩ rfl rfl hOA.out (ownS_new (wz) ⟨n, sp, v⟩ _) hln hbz ?_; intro v' w' hown hgrow) | fail)
                have HV := Lib.hid (show OwnS (w.heap.size + 2) w' v' (keptS n old p (l.take (k + 1))) by rw [HST.out.1]; exact hown)
                have HQV := Lib.hid (show OwnK (w.heap.size + 2) w' qv (keyRs (lostS n old p (l.take (k + 1)))) by rw [HST.out.2]; exact hQA.out.grownS hOA.out hgrow)
                have HKV := Lib.hid (hKA.out.grownS hOA.out hgrow)
                clear hown hgrow
                go_wp2_with fail
                go_roundw
                case rel => exact ⟨k + 1, _, _, by omega, by first | rfl | go_num, rfl, rfl, HV, HQV, HKV⟩
                case measure => simp [intOf]; omega
          · go_upto_region 36 with fail
            clear d0 d1 d2
            generalize hwz : wr.alloc (.cells #[.int .i64 su, .string sp, .int .i64 sl] 35) = wz at *
            clear hwz
            have HOw := Lib.hid (HO.out.below HBc.out)
            have HQw := Lib.hid (HQ.out.below HBc.out)
            have HKw := Lib.hid (HK.out.below HBc.out)
            have s0 := HS.out.cell (i := 0) rfl
            have s1 := HS.out.cell (i := 1) rfl
            have s2 := HS.out.cell (i := 2) rfl
            have sl' := HS.out.lt
            have hOA := Lib.hid (HOw.out.below ((Below.refl _ _).alloc (Nat.le_refl _) (.cells #[.int .i64 su, .string sp, .int .i64 sl] 35)))
            have hQA := Lib.hid (HQw.out.below ((Below.refl _ _).alloc (Nat.le_refl _) (.cells #[.int .i64 su, .string sp, .int .i64 sl] 35)))
            have hKA := Lib.hid (HKw.out.alloc (.cells #[.int .i64 su, .string sp, .int .i64 sl] 35))
            have hln := (HFEW.out k).1
            have hbz := hKA.out.box.size
            have HST := Lib.hid (kept_some hlt (show keepS n old p l[k] = some ⟨su, sp, sl⟩ from by rw [HRK.out]; exact keep_other old p hsn))
            obtain ⟨ko, kc, hsh⟩ := HOw.out.shape
            subst hsh
            go_wp2_with (first | (at_builtin; refine wpList_ownS rfl _ _ rfl (w.heap.size + 2) 1 _ _ ⟨su, sp, sl⟩ ⟨(wz).heap.size, 0, none⟩ rfl rfl hOA.out (ownS_new (wz) ⟨su, sp, sl⟩ _) hln hbz ?_; intro v' w' hown hgrow) | fail)
            have HV := Lib.hid (show OwnS (w.heap.size + 2) w' v' (keptS n old p (l.take (k + 1))) by rw [HST.out.1]; exact hown)
            have HQV := Lib.hid (show OwnK (w.heap.size + 2) w' qv (keyRs (lostS n old p (l.take (k + 1)))) by rw [HST.out.2]; exact hQA.out.grownS hOA.out hgrow)
            have HKV := Lib.hid (hKA.out.grownS hOA.out hgrow)
            clear hown hgrow
            go_wp2_with fail
            go_roundw
            case rel => exact ⟨k + 1, _, _, by omega, by first | rfl | go_num, rfl, rfl, HV, HQV, HKV⟩
            case measure => simp [intOf]; omega
        · have hkk : k = l.length := by omega
          subst hkk
          have y0 := HK.out.t10.cell (i := 0) rfl
          have y1 := HK.out.t10.cell (i := 1) rfl
          have yl := HK.out.t10.lt
          have r0 := HK.out.box.res.cell (i := 0) rfl
          have r1' := HK.out.box.res.cell (i := 1) rfl
          have fr0 := HK.out.box.res.frozen 0
          have fr1 := HK.out.box.res.frozen 1
          have hrs := HK.out.box.size
          have HT0 := Lib.hid (show keptS n old p (l.take l.length) = keptS n old p l by rw [List.take_length])
          have HT1 := Lib.hid (show keyRs (lostS n old p (l.take l.length)) = keyRs (lostS n old p l) by rw [List.take_length])
          go_wp2_with fail
          exact bodyPost_ret (v := .tuple #[.agg #[.slice ol x.lib.length oc, .slice (some ⟨g, 0, none⟩) x.units.length vc], kv, qv, .int .i64 0]) (by simp [results, Try.results17, go_sem, r0, r1']) rfl ⟨_, _, kv, qv, by rw [HF0.out], ⟨fun h0 => absurd HF0.out h0, fun _ => by
            obtain ⟨hk, p', old', rr, q1, q2, q3, q4⟩ := HFIN2.out
            exact ⟨hk, p, old, (r1, r2), q1, HPQ2.out, HOP2.out hk, HXR2.out hk, ⟨(HK.out.done _ _).1.prfS, (HK.out.done _ _).2.untS⟩, by rw [← HT0.out]; exact (HO.out.res HK.out.box.res _ _).stgS, by rw [← HT1.out]; exact (HQ.out.res HK.out.box.res _ _).keyS⟩⟩, HK.out.box.done _ _⟩
end Go.Proofs.Ytabalicembhjmaa
