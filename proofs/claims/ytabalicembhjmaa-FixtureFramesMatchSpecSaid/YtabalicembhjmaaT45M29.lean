/- fixture.Frames. (printed by wip/gen/gen_frames.py) -/
import Derived.Test.YtabalicembhjmaaT45M16
import Derived.Test.YtabalicembhjmaaT45M27
import Derived.Test.YtabalicembhjmaaT45M28
import Derived.Deep.DeepCutAuto
import Derived.Deep.RegionWith
import Derived.BigRegion

namespace Go.Proofs.Ytabalicembhjmaa
open Go.RowKit
set_option linter.unusedVariables false
set_option linter.unusedSimpArgs false

def framesR (x : Rig) (l : List Stg) : List Frm := if framesF x l = 0 then framesV x l else []
theorem frmS_nil (B : Nat) (w : World) : FrmS B w (.slice none 0 0) [] := ⟨[], rfl, CellsS.nil _ _, by simp⟩
theorem uni_none (lib : List Prf) (l : List Stg) (us : List Unt) (U : Int) : uniO lib l (us.take 0) U = none := rfl
theorem par_ne {p : Prf} (h : chkPrf p = 0) {q : Par} (hq : q ∈ p.pars) : q.sl ≠ q.fine := by
  obtain ⟨k, hk, rfl⟩ := List.getElem_of_mem hq
  obtain ⟨h1, h2, h3, h4, h5⟩ := chkPrf_zero h
  obtain ⟨_, _, _, _, g5, _⟩ := parF_zero (scanF_zero _ _ h5 k hk)
  unfold parClash at g5
  simp only [Bool.or_eq_false_iff, decide_eq_false_iff_not] at g5
  exact g5.1.1
set_option maxRecDepth 100000 in
set_option maxHeartbeats 16000000 in
theorem frames_any (x : Rig) (lv uv : Value) (l : List Stg) (sv : Value) (w : World) (h : RigAt w.heap.size w x lv uv) (hf : RigFit x) (hS : StgS w.heap.size w sv l) (hs : ∀ s ∈ l, StgFit s) :
    Calls Try.prog 13 #[rigV lv uv, sv] w fun e w' => ∃ fv, e = .returned (.tuple #[fv, .int .i64 (framesF x l)]) ∧ FrmS w'.heap.size w' fv (framesR x l) ∧ Below w.heap.size w w' := by
  have CL := Lib.hid (fun W (hb : Below w.heap.size w W) => ckRig_any x lv uv W ((h.below hb).more hb.size) hf)
  have CP := Lib.hid (fun (nm : ByteArray) W (hb : Below w.heap.size w W) => profile_base w.heap.size lv x.lib nm W hb.size (h.lib.below hb))
  have CK := Lib.hid (fun (hx : chkRig x = 0) W (hb : Below w.heap.size w W) => ckStgs_any x lv uv l sv W ((h.below hb).more hb.size) hx ((hS.below hb).more hb.size) hs)
  have HGU := Lib.hid (UntS.get h.units)
  have HUF := Lib.hid hf
  obtain ⟨uo, ucap, rfl, _⟩ := CellsS.shape h.units
  obtain ⟨lo, lcap, rfl⟩ := prfS_shape h.lib
  have hcp := untS_cap h.units
  obtain ⟨so, scap, rfl, _⟩ := CellsS.shape hS
  clear h hf hS hs
  have HF0 := Lib.hid (framesF_bad (x := x) (l := l))
  have HF1 := Lib.hid (framesF_ok (x := x) (l := l))
  have HR0 := Lib.hid (show framesF x l = 0 → framesR x l = framesV x l from fun h => if_pos h)
  have HR1 := Lib.hid (show ¬ framesF x l = 0 → framesR x l = [] from fun h => if_neg h)
  generalize framesF x l = RES at *
  generalize framesR x l = RV at *
  have HPR := Lib.hid (show chkRig x = 0 → ∀ u ∈ x.units, ∃ p, profOf x.lib u.nm = some p ∧ p.pars.length ≤ 40 ∧ (1 ≤ u.addr ∧ u.addr + p.size - 1 ≤ 512) ∧ ∀ q ∈ p.pars, (1 ≤ q.sl ∧ q.sl ≤ p.size) ∧ (0 ≤ q.fine ∧ q.fine ≤ p.size) from fun hE u hu => par_right hE hu)
  have HPD := Lib.hid (show chkRig x = 0 → ∀ nm p, profOf x.lib nm = some p → ∀ q ∈ p.pars, (0 ≤ q.dflt ∧ q.dflt ≤ 65535) ∧ q.sl ≠ q.fine from fun hE nm p hp q hq => ⟨(par_chk (chkLib_prf (chkRig_zero hE).1 (profOf_some hp).1) hq).2.2.2.1, par_ne (chkLib_prf (chkRig_zero hE).1 (profOf_some hp).1) hq⟩)
  have HUL := Lib.hid (show chkRig x = 0 → x.units.length ≤ 400 from fun hE => (chkRig_zero hE).2.1)
  have HSL := Lib.hid (show chkStgs x l = 0 → ∀ s ∈ l, 0 ≤ s.lv ∧ s.lv ≤ 65535 from fun hC s hs => (((stgs_iff x l).1 hC).1 s hs).2)
  obtain ⟨lib, units⟩ := x
  simp only [rigV] at *
  have KC := Lib.hid (show ∀ W, Below (w.heap.size + 1) (w.alloc (.cells #[.slice lo lib.length lcap, .slice uo units.length ucap] 25)) W → (Below w.heap.size w W ∧ w.heap.size < W.heap.size ∧ W.cell? ⟨w.heap.size, 0, none⟩ = some (.slice lo lib.length lcap) ∧ W.cell? ⟨w.heap.size, 1, none⟩ = some (.slice uo units.length ucap)) from fun W hW => by
    have hz := hW.size
    simp at hz
    exact ⟨((Below.refl _ _).alloc (Nat.le_refl _) _).trans (hW.mono (by omega)), by omega, (hW.cell (p := ⟨w.heap.size, 0, none⟩) (by simp)).trans (by simp [go_sem]), (hW.cell (p := ⟨w.heap.size, 1, none⟩) (by simp)).trans (by simp [go_sem])⟩)
  have KA := Lib.hid (show ∀ W o, Below (w.heap.size + 1) (w.alloc (.cells #[.slice lo lib.length lcap, .slice uo units.length ucap] 25)) W → Below (w.heap.size + 1) (w.alloc (.cells #[.slice lo lib.length lcap, .slice uo units.length ucap] 25)) (W.alloc o) from fun W o h => h.alloc (by have := h.size; simp at this; omega) o)
  have KM := Lib.hid (show ∀ W W1, Below (w.heap.size + 1) (w.alloc (.cells #[.slice lo lib.length lcap, .slice uo units.length ucap] 25)) W → Below W.heap.size W W1 → Below (w.heap.size + 1) (w.alloc (.cells #[.slice lo lib.length lcap, .slice uo units.length ucap] 25)) W1 from fun W W1 h1 h2 => h1.trans (h2.mono (by have := h1.size; simp at this; omega)))
  have HK0 := Lib.hid (Below.refl (w.heap.size + 1) (w.alloc (.cells #[.slice lo lib.length lcap, .slice uo units.length ucap] 25)))
  have CL1 := Lib.hid (CL.out _ (KC.out _ HK0.out).1)
  clear CL
  go_enter Try.func13, Try.ntmps13
  go_wp2_with fail
  refine CL1.out.mono ?_
  rintro e w2 ⟨rfl, hb2⟩
  have HB2 := Lib.hid (KM.out _ _ HK0.out hb2)
  clear hb2 CL1
  obtain ⟨hB2, hz2, p0, p1⟩ := KC.out _ HB2.out
  have HBB := Lib.hid hB2
  clear hB2
  by_cases hE : chkRig ⟨lib, units⟩ = 0
  rotate_left
  · have HV := Lib.hid (HF0.out hE)
    have HSV := Lib.hid (HR1.out (by rw [HV.out]; exact hE))
    generalize chkRig ⟨lib, units⟩ = E at *
    go_wp2_with fail
    exact bodyPost_ret (v := .tuple #[.slice none 0 0, .int .i64 E]) (by simp [results, Try.results13, go_sem]) rfl ⟨.slice none 0 0, by rw [HV.out] <;> rfl, by rw [HSV.out]; exact frmS_nil _ _, HBB.out⟩
  have HFE := Lib.hid (HF1.out hE)
  have HPR2 := Lib.hid (HPR.out hE)
  have HPD2 := Lib.hid (HPD.out hE)
  have hul := HUL.out hE
  have CK1 := Lib.hid (CK.out hE _ HBB.out)
  rw [hE]
  clear HF0 HF1 HPR HPD HUL CK hE HBB
  go_wp2_with fail
  refine CK1.out.mono ?_
  rintro e w3 ⟨mv, rfl, hmv, hb3⟩
  have HB3 := Lib.hid (KM.out _ _ HB2.out hb3)
  clear hb3 CK1 p0 p1 hz2 HB2
  obtain ⟨hB3, hz3, p0, p1⟩ := KC.out _ HB3.out
  have HBB := Lib.hid hB3
  clear hB3
  by_cases hC : chkStgs ⟨lib, units⟩ l = 0
  rotate_left
  · have HV := Lib.hid HFE.out
    have HSV := Lib.hid (HR1.out (by rw [HV.out]; exact hC))
    clear hmv
    generalize chkStgs ⟨lib, units⟩ l = E at *
    go_wp2_with fail
    exact bodyPost_ret (v := .tuple #[.slice none 0 0, .int .i64 E]) (by simp [results, Try.results13, go_sem]) rfl ⟨.slice none 0 0, by rw [HV.out] <;> rfl, by rw [HSV.out]; exact frmS_nil _ _, HBB.out⟩
  have HV := Lib.hid (show RES = 0 by rw [HFE.out]; exact hC)
  have HRV := Lib.hid (HR0.out HV.out)
  have HSL2 := Lib.hid (HSL.out hC)
  obtain ⟨lb, ln, lf, rfl, hlb1, hlb2, hln, hlm, hlf⟩ := hmv hC
  have HLF := Lib.hid hlf
  have K3 := Lib.hid (show ∀ W, Below w3.heap.size w3 W → (Below w.heap.size w W ∧ w.heap.size < W.heap.size ∧ W.cell? ⟨w.heap.size, 0, none⟩ = some (.slice lo lib.length lcap) ∧ W.cell? ⟨w.heap.size, 1, none⟩ = some (.slice uo units.length ucap) ∧ MapM W Try.prog 33 lb ln lf) from fun W hW => by
    obtain ⟨h1, h2, h3, h4⟩ := KC.out W (KM.out _ _ HB3.out hW)
    exact ⟨h1, h2, h3, h4, hlm.below hW hlb2⟩)
  have HB3W := Lib.hid (show ∀ W, Below w3.heap.size w3 W → ∀ u : World, Below w.heap.size w u → u.heap.size ≤ W.heap.size → Below w.heap.size u W from fun W hW u hu hs => below_mid hu (K3.out W hW).1 hs)
  rw [hC]
  clear hmv hlm hlf HR0 HR1 HFE HSL hC HBB
  have HBM := Lib.hid ((Below.refl w3.heap.size w3).alloc (Nat.le_refl _) (.map #[] 0))
  have HFM := Lib.hid (frs_made w3.heap.size w3)
  have hmm := @run_makeMap Try.prog
  go_wp2_with fail
  clear hmm p0 p1 hz3
  go_loopw [40] (fun i wx => ∃ j : Nat, j ≤ units.length ∧ i = .int .i64 j ∧ Hid (Below w3.heap.size w3 wx) ∧ Hid (FrS w3.heap.size wx w3.heap.size j (uniO lib l (units.take j)))) (fun i _ => units.length - (intOf i).toNat)
  case atStart => exact ⟨0, Nat.zero_le _, rfl, HBM, HFM⟩
  case round =>
    obtain ⟨j, hj, rfl, HBW, HFS⟩ := hrel
    obtain ⟨wo, rfl⟩ : ∃ wo : World, wo = wr := ⟨_, rfl⟩
    clear HBM HFM
    obtain ⟨hB, hz, p0, p1, hM⟩ := K3.out wo HBW.out
    have hzo := HBW.out.size
    by_cases hlt : j < units.length
    · obtain ⟨b, off, cap', hsl, hb, _, hc⟩ := HGU.out (by omega)
      injection hsl with hs1 hs2 hs3
      subst hs1 hs3
      obtain ⟨d0, d1, d2, d3⟩ := hc j hlt wo hB
      have hbr : b < wo.heap.size := by omega
      obtain ⟨huf, hui, _, _⟩ := HUF.out.2 _ (List.getElem_mem hlt)
      have HP := Lib.hid (HPR2.out _ (List.getElem_mem hlt))
      have HSAME := Lib.hid (uniO_same lib l units j hlt)
      have HOTH := Lib.hid (fun U (hU : units[j].univ ≠ U) => uniO_other lib l units j hlt hU)
      have HUI := Lib.hid hui
      have HUFI := Lib.hid huf
      clear hc hui huf hM hB
      generalize hrk : units[j] = rk at *
      clear hrk
      obtain ⟨un, up, uu, ua⟩ := rk
      simp only at *
      obtain ⟨p, hpo, hp40, ⟨ha1, ha2⟩, hpq⟩ := HP.out
      have hpu : putU lib l = fun b u => (parsOf lib u).foldl (putP l u) b := rfl
      have HPOF := Lib.hid (show parsOf lib ⟨un, up, uu, ua⟩ = p.pars by unfold parsOf; rw [show profOf lib (Unt.nm ⟨un, up, uu, ua⟩) = some p from hpo]; rfl)
      have HPQ := Lib.hid hpq
      have HPX := Lib.hid (HPD2.out _ p hpo)
      have HPFIT := Lib.hid (HUF.out.1 p (profOf_some hpo).1).2.2
      have HBX := Lib.hid (HBW.out.alloc hzo (.cells #[.int .i64 un, .string up, .int .i64 uu, .int .i64 ua] 67))
      have HTU := Lib.hid (TBox.new wo #[.int .i64 un, .string up, .int .i64 uu, .int .i64 ua] 67)
      have HFX := Lib.hid (HFS.out.alloc (.cells #[.int .i64 un, .string up, .int .i64 uu, .int .i64 ua] 67))
      have CP1 := Lib.hid (CP.out up _ (K3.out _ HBX.out).1)
      rw [show profOf lib up.data.toList = some p from hpo] at CP1
      have hmb : w3.heap.size < wo.heap.size := HFS.out.lt
      clear hpo hpq HP hpu HFS
      obtain ⟨pn, pz, pl⟩ := p
      simp only at *
      go_wp2_with fail
      refine CP1.out.mono ?_
      rintro e w5 ⟨pv, rfl, ⟨qv, rfl, hps⟩, hb5⟩
      obtain ⟨po, pcap, rfl⟩ := parS_shape hps
      have hz5 := hb5.size
      simp only [World.size_alloc] at hz5
      have HPS := Lib.hid hps
      have hpl := parS_cap hps
      have HT5 := Lib.hid (HTU.out.below hb5)
      have HF5 := Lib.hid (HFX.out.below hb5)
      have HB5 := Lib.hid (HBX.out.trans (hb5.mono (by simp; omega)))
      have HB5W := Lib.hid (K3.out _ HB5.out).1
      have HT6 := Lib.hid (HT5.out.alloc (.cells #[.string pn, .int .i64 pz, .slice po pl.length pcap] 70))
      have HF6 := Lib.hid (HF5.out.alloc (.cells #[.string pn, .int .i64 pz, .slice po pl.length pcap] 70))
      have HB6 := Lib.hid (HB5.out.alloc (by omega) (.cells #[.string pn, .int .i64 pz, .slice po pl.length pcap] 70))
      have HTP := Lib.hid (TBox.new w5 #[.string pn, .int .i64 pz, .slice po pl.length pcap] 70)
      have h56 : w5.heap.size ≤ (w5.alloc (.cells #[.string pn, .int .i64 pz, .slice po pl.length pcap] 70)).heap.size := by simp
      clear hps hb5 CP1 HBX HTU HFX HT5 HF5 HB5 d0 d1 d2 d3
      go_upto_region 12 with fail
      generalize hW6 : w5.alloc (.cells #[.string pn, .int .i64 pz, .slice po pl.length pcap] 70) = w6 at *
      clear hW6 p0 p1
      have hz6 := HB6.out.size
      obtain ⟨fa, fn, fc, hq, hfv⟩ := HF6.out.look uu HUI.out
      have HFV := Lib.hid hfv
      clear hfv
      have t2 := HT6.out.cell (i := 2) rfl
      have tl := HT6.out.lt
      have q22 : ∀ (w : World) (a : Option Addr) (n c n' c' : Nat), (binOp .eql 62 (.slice a n c) (.slice none n' c')).run Try.prog w = .ok (.bool a.isNone) w := fun w a n c n' c' => Lib.run_eql_slice_nil w _ _ a n c n' c' Try.underlying62
      go_upto_if 57 with fail
      go_cut [14] (fun s14 wx => ∃ (g : Nat) (b0 : List Int), s14 = .slice (some ⟨g, 0, none⟩) 512 512 ∧ ((uniO lib l (units.take j) uu).getD noB) = b0 ∧ w3.heap.size ≤ g ∧ g ≠ w3.heap.size ∧ Hid (FrG w3.heap.size wx w3.heap.size (j + 1) (uniO lib l (units.take j)) uu g) ∧ Hid (BytesAt wx g b0) ∧ Hid (Below w3.heap.size w3 wx) ∧ Hid (TBox wx wo.heap.size 67 #[.int .i64 un, .string up, .int .i64 uu, .int .i64 ua]) ∧ Hid (TBox wx w5.heap.size 70 #[.string pn, .int .i64 pz, .slice po pl.length pcap]))
      case first =>
        rcases HFV.out with ⟨hP0, rfl⟩ | ⟨g, b0, hP1, rfl, rfl, rfl, hg1, hg2, hba, hfg⟩
        · have hn0 : (none : Option Addr).isNone = true := rfl
          obtain ⟨w8, hu8, hg8, hfg8, hba8⟩ := HF6.out.put_new uu HUI.out hP0 (by unfold maxLen; omega) hz6 (w1 := w6.alloc (.cells (bytA noB) 5)) ((Below.refl _ _).alloc (Nat.le_refl _) _) (TBox.new _ _ _)
          have HFG := Lib.hid hfg8
          have HBA := Lib.hid hba8
          have HE := Lib.hid (show (uniO lib l (units.take j) uu).getD noB = noB by rw [hP0]; rfl)
          have HB8 := Lib.hid (bel_grown3 (HB6.out.alloc hz6 (.cells (bytA noB) 5)) hg8 (by simp; omega) (Nat.le_refl _))
          have HT8 := Lib.hid ((hg8.block wo.heap.size (HT6.out.alloc _).lt (by intro e; injection e with e; omega)).trans (HT6.out.alloc (.cells (bytA noB) 5)))
          have HTP8 := Lib.hid ((hg8.block w5.heap.size (HTP.out.alloc _).lt (by intro e; injection e with e; omega)).trans (HTP.out.alloc (.cells (bytA noB) 5)))
          unfold frmV at hu8
          have hmk := make512_
          clear hfg8 hba8 hg8 hP0
          go_wp2_with fail
          clear hmk
          go_meet
          exact ⟨w6.heap.size, noB, rfl, HE.out, hz6, by omega, HFG, HBA, HB8, HT8, HTP8⟩
        · have hn1 : (some (⟨g, 0, none⟩ : Addr)).isNone = false := rfl
          have HFG := Lib.hid (show FrG w3.heap.size w6 w3.heap.size (j + 1) (uniO lib l (units.take j)) uu g from by obtain ⟨n, f, k1, k⟩ := hfg; exact ⟨n, f, by omega, k⟩)
          have HBA := Lib.hid hba
          have HE := Lib.hid (show (uniO lib l (units.take j) uu).getD noB = b0 by rw [hP1]; rfl)
          clear hfg hba hP1
          go_wp2_with fail
          go_meet
          exact ⟨g, b0, rfl, HE.out, hg1, hg2, HFG, HBA, HB6, HT6, HTP⟩
      case rest =>
        obtain ⟨g, b0, rfl, HE, hg1, hg2, HFG, HBA, HBC, HTUC, HTPC⟩ := hcut
        have q2 := HTPC.out.cell (i := 2) rfl
        have ql := HTPC.out.lt
        have HE2 := Lib.hid HE
        have hgu : wo.heap.size ≠ g := fun e => by
          have h1 := HTUC.out
          have h2 := HBA.out.2
          rw [e] at h1
          unfold TBox at h1 h2
          rw [h1] at h2
          injection h2 with h2
          injection h2 with _ h2
          exact absurd h2 (by decide)
        clear HB6 HT6 HTP HF6 HFV hq t2 tl q22 HE
        go_wp2_with fail
        clear q2 ql
        generalize hu : putU lib l = PU at HSAME
        have HPU := Lib.hid hu
        clear hu
        have HPT := Lib.hid (fun k (h : k < pl.length) => putU_take l ⟨un, up, uu, ua⟩ b0 pl k h)
        go_loopw [66] (fun i wx => ∃ k : Nat, k ≤ pl.length ∧ i = .int .i64 k ∧ Hid (wc.grownBy wx (some g)) ∧ Hid (BytesAt wx g ((pl.take k).foldl (putP l ⟨un, up, uu, ua⟩) b0))) (fun i _ => pl.length - (intOf i).toNat)
        case atStart => exact ⟨0, Nat.zero_le _, rfl, Lib.hid (World.grownBy.refl _ _), HBA⟩
        case round =>
          obtain ⟨k, hk, rfl, HGR, HBY⟩ := hrel
          have HBr := Lib.hid (bel_grown3 HBC.out HGR.out HBC.out.size hg1)
          obtain ⟨hBw, hzw, p0, p1, hM⟩ := K3.out wr HBr.out
          have hzr := HGR.out.size
          have htr := (HGR.out.block wo.heap.size HTUC.out.lt (by intro e; injection e with e; exact hgu e)).trans HTUC.out
          have HTR := Lib.hid (show TBox wr wo.heap.size 67 #[.int .i64 un, .string up, .int .i64 uu, .int .i64 ua] from htr)
          clear htr
          by_cases hkl : k < pl.length
          · obtain ⟨b2, off2, cap2, hsl, hb2, _, hc⟩ := (ParS.get HPS.out) (by omega)
            injection hsl with hs1 hs2 hs3
            subst hs1 hs3
            obtain ⟨rv, hrv, hcc⟩ := hc k hkl
            obtain ⟨d0, d1, d2, d3, d4, d5, d6⟩ := hcc wr (HB3W.out wr HBr.out w5 HB5W.out (by have := HTPC.out.lt; omega))
            obtain ⟨ro, rcap, rfl, _⟩ := CellsS.shape hrv
            have hbr2 : b2 < wr.heap.size := by omega
            obtain ⟨⟨g1, g2⟩, g3, g4⟩ := HPQ.out _ (List.getElem_mem hkl)
            obtain ⟨hdf, hne⟩ := HPX.out _ (List.getElem_mem hkl)
            have hnf := (HPFIT _ (List.getElem_mem hkl)).2.2.2.2.1
            have HLR := Lib.hid (lvOf_range (x := ⟨lib, units⟩) HSL2.out un hdf)
            have HSTEP := Lib.hid (HPT.out k hkl)
            have HLV := Lib.hid (show lvOf l un pl[k] = ((l.reverse.find? (isK (un, pl[k].name))).map Stg.lv).getD pl[k].dflt from rfl)
            have HPP := Lib.hid (show ∀ b, putP l ⟨un, up, uu, ua⟩ b pl[k] = if pl[k].fine = 0 then b.set (ua + pl[k].sl - 2).toNat (rnd (lvOf l un pl[k] * 255) 65535) else (b.set (ua + pl[k].sl - 2).toNat (lvOf l un pl[k] / 256)).set (ua + pl[k].fine - 2).toNat (lvOf l un pl[k] % 256) from fun b => rfl)
            have HKEY := Lib.hid (keyOf_key (show KeyFit (un, pl[k].name) from ⟨HUFI.out, hnf⟩))
            have HLK := Lib.hid (HLF.out (un, pl[k].name) ⟨HUFI.out, hnf⟩)
            generalize lvOf l un pl[k] = LV at *
            clear hc hcc hrv hnf hdf
            generalize hbn : (pl.take (k + 1)).foldl (putP l ⟨un, up, uu, ua⟩) b0 = BN at *
            have HBN := Lib.hid hbn
            clear hbn
            generalize hbk : (pl.take k).foldl (putP l ⟨un, up, uu, ua⟩) b0 = BK at *
            generalize hrk : pl[k] = rk at *
            clear hrk
            obtain ⟨xn, xg, xs, xf, xd, xb, xl⟩ := rk
            simp only at *
            have HBX := Lib.hid (HBr.out.alloc HBr.out.size (.cells #[.string xn, .int .i64 xg, .int .i64 xs, .int .i64 xf, .int .i64 xd, .bool xb, .slice ro xl.length rcap] 42))
            obtain ⟨hBx, hzx, _, _, hMx⟩ := K3.out _ HBX.out
            have hq := hMx.look true keyed_ (t := 74) Try.underlying74 (zeroI_ _) HKEY.out
            rw [HLK.out] at hq
            unfold keyV at hq
            simp only [if_true] at hq
            have HBYX := Lib.hid (HBY.out.below ((Below.refl _ _).alloc (Nat.le_refl _) (.cells #[.string xn, .int .i64 xg, .int .i64 xs, .int .i64 xf, .int .i64 xd, .bool xb, .slice ro xl.length rcap] 42)))
            have HGX := Lib.hid (grown_bel3 HGR.out ((Below.refl _ _).alloc (Nat.le_refl _) (.cells #[.string xn, .int .i64 xg, .int .i64 xs, .int .i64 xf, .int .i64 xd, .bool xb, .slice ro xl.length rcap] 42)))
            have HTX := Lib.hid (HTR.out.alloc (.cells #[.string xn, .int .i64 xg, .int .i64 xs, .int .i64 xf, .int .i64 xd, .bool xb, .slice ro xl.length rcap] 42))
            have HXX := Lib.hid (TBox.new wr #[.string xn, .int .i64 xg, .int .i64 xs, .int .i64 xf, .int .i64 xd, .bool xb, .slice ro xl.length rcap] 42)
            generalize l.reverse.find? (isK (un, xn)) = FO at *
            have t0 := HTX.out.cell (i := 0) rfl
            clear hM hBw hBx hMx hbk
            go_upto_region 20 with fail
            clear hq d0 d1 d2 d3 d4 d5 d6 t0 p0 p1
            generalize hW9 : wr.alloc (.cells #[.string xn, .int .i64 xg, .int .i64 xs, .int .i64 xf, .int .i64 xd, .bool xb, .slice ro xl.length rcap] 42) = wX at *
            clear hW9
            have x2 := HXX.out.cell (i := 2) rfl
            have x3 := HXX.out.cell (i := 3) rfl
            have x4 := HXX.out.cell (i := 4) rfl
            have xl' := HXX.out.lt
            have t3 := HTX.out.cell (i := 3) rfl
            have tl := HTX.out.lt
            go_upto_if 81 with fail
            go_cut [17] (fun s17 wx => s17 = .int .i64 LV ∧ wX = wx)
            case first =>
              cases FO with
              | none =>
                have HE := Lib.hid (show LV = xd from HLV.out)
                simp only [Option.map_none, Option.isSome_none, Option.getD_none] at *
                go_wp2_with fail
                go_meet
                exact ⟨by rw [HE.out] <;> rfl, rfl⟩
              | some s =>
                have HE := Lib.hid (show LV = s.lv from HLV.out)
                simp only [Option.map_some, Option.isSome_some, Option.getD_some] at *
                unfold lvV
                go_wp2_with fail
                go_meet
                exact ⟨by rw [HE.out] <;> rfl, rfl⟩
            case rest =>
              obtain ⟨rfl, rfl⟩ := hcut
              clear HLV HLK HKEY
              obtain ⟨i1, hi1⟩ : ∃ i : Nat, ua + xs - 2 = (i : Int) := ⟨(ua + xs - 2).toNat, by omega⟩
              have hi5 : i1 < 512 := by omega
              have hi6 : (i1 : Int) < 512 := by omega
              have a1 : IntKind.i64.wrap (ua + xs) = ua + xs := IntWalk.i64_in _ (by omega)
              have a2 : IntKind.i64.wrap (ua + xs - 2) = (i1 : Int) := by rw [hi1]; exact IntWalk.i64_in _ (by omega)
              have hgb : g < wX.heap.size := HBYX.out.lt
              have f1 := HBYX.out.frozen i1
              have c1 := HBYX.out.cell i1 hi5
              obtain ⟨v1, hv1⟩ : ∃ v, (BK[i1]'(by rw [HBYX.out.1]; exact hi5)) = v := ⟨_, rfl⟩
              rw [hv1] at c1
              clear hv1
              obtain ⟨l0, l1⟩ := HLR.out
              by_cases hxf : xf = 0
              · subst hxf
                have HOC := Lib.hid (fun W => Octet_any LV W)
                have HE := Lib.hid (show octR LV = rnd (LV * 255) 65535 from if_pos ⟨l0, l1⟩)
                have HN := Lib.hid (show BK.set i1 (octR LV) = BN by rw [HE.out, HSTEP.out, HPP.out, if_pos rfl, hi1]; rfl)
                have HV1 := Lib.hid (show BytesAt (wX.setCell ⟨g, i1, none⟩ (.int .u8 (octR LV))) g BN from by
                  rw [← HN.out]
                  exact BytesAt.put HBYX.out i1 _)
                have HV2 := Lib.hid (show wc.grownBy (wX.setCell ⟨g, i1, none⟩ (.int .u8 (octR LV))) (some g) from grown_tr3 HGX.out (grown_set3 _ _ _ _))
                have HV3 := Lib.hid (show BytesAt (wX.drew.setCell ⟨g, i1, none⟩ (.int .u8 (octR LV))) g BN from by
                  rw [← HN.out]
                  exact BytesAt.put (HBYX.out.same rfl) i1 _)
                have HV4 := Lib.hid (show wc.grownBy (wX.drew.setCell ⟨g, i1, none⟩ (.int .u8 (octR LV))) (some g) from grown_tr3 (grown_bel3 HGX.out (Below.refl _ _).drew) (grown_set3 _ _ _ _))
                generalize octR LV = OV at *
                generalize octE LV = OE at *
                clear hi1 HE HN
                go_upto_region 23 with fail
                go_cut [87] (fun s87 wx => BytesAt wx g BN ∧ wc.grownBy wx (some g))
                case first =>
                  go_region_with (first | (go_at_call 37; refine (HOC.out _).mono ?_; rintro e w' ⟨rfl, rfl⟩) | fail)
                  all_goals go_wp2_with fail
                  all_goals go_meet
                  all_goals first | exact ⟨HV1.out.same rfl, grown_bel3 HV2.out (Below.refl _ _).drew⟩ | exact ⟨HV3.out.same rfl, HV4.out⟩ | exact ⟨HV1.out.same rfl, HV2.out⟩
                case rest =>
                  obtain ⟨hy1, hy2⟩ := hcut
                  have HY1 := Lib.hid hy1
                  have HY2 := Lib.hid hy2
                  clear hy1 hy2
                  go_wp2_with fail
                  go_roundw
                  case rel => exact ⟨k + 1, by omega, by first | rfl | go_num, HY2, Lib.hid (by rw [HBN.out]; exact HY1.out)⟩
                  case measure => simp [intOf]; omega
              · have hx2 : ¬ (ua + xf - 2 = (i1 : Int)) := by omega
                obtain ⟨i2, hi2⟩ : ∃ i : Nat, ua + xf - 2 = (i : Int) := ⟨(ua + xf - 2).toNat, by omega⟩
                have hi7 : i2 < 512 := by omega
                have hi8 : (i2 : Int) < 512 := by omega
                have a3 : IntKind.i64.wrap (ua + xf) = ua + xf := IntWalk.i64_in _ (by omega)
                have a4 : IntKind.i64.wrap (ua + xf - 2) = (i2 : Int) := by rw [hi2]; exact IntWalk.i64_in _ (by omega)
                have f2 := HBYX.out.frozen i2
                have c2 := HBYX.out.cell i2 hi7
                obtain ⟨v2, hv2⟩ : ∃ v, (BK[i2]'(by rw [HBYX.out.1]; exact hi7)) = v := ⟨_, rfl⟩
                rw [hv2] at c2
                clear hv2
                have hni : ¬ i1 = i2 := by omega
                have HN := Lib.hid (show (BK.set i1 (LV / 256)).set i2 (LV % 256) = BN by rw [HSTEP.out, HPP.out, if_neg hxf, hi1, hi2]; rfl)
                have hq1 : LV.tdiv 256 = LV / 256 := Int.tdiv_eq_ediv_of_nonneg l0
                have hq2 : LV.tmod 256 = LV % 256 := Int.tmod_eq_emod_of_nonneg l0
                have hQ0 : 0 ≤ LV / 256 ∧ LV / 256 ≤ 255 := by omega
                have hM0 : 0 ≤ LV % 256 ∧ LV % 256 ≤ 255 := by omega
                have HV1 := Lib.hid (show BytesAt ((wX.setCell ⟨g, i1, none⟩ (.int .u8 (LV / 256))).setCell ⟨g, i2, none⟩ (.int .u8 (LV % 256))) g BN from by
                  rw [← HN.out]
                  exact BytesAt.put (BytesAt.put HBYX.out i1 _) i2 _)
                have HV2 := Lib.hid (show wc.grownBy ((wX.setCell ⟨g, i1, none⟩ (.int .u8 (LV / 256))).setCell ⟨g, i2, none⟩ (.int .u8 (LV % 256))) (some g) from grown_tr3 (grown_tr3 HGX.out (grown_set3 _ _ _ _)) (grown_set3 _ _ _ _))
                generalize LV / 256 = q at *
                generalize LV % 256 = m at *
                have a5 : IntKind.i64.wrap q = q := IntWalk.i64_in _ (by omega)
                have a6 : IntKind.u8.wrap q = q := IntWalk.u8_in _ (by omega)
                have a7 : IntKind.i64.wrap m = m := IntWalk.i64_in _ (by omega)
                have a8 : IntKind.u8.wrap m = m := IntWalk.u8_in _ (by omega)
                clear hi1 hi2 HN hx2
                go_upto_region 24 with fail
                have cX : ∀ (i : Nat) (v : Value) (b o : Nat), b ≠ g → (wX.setCell ⟨g, i, none⟩ v).cell? ⟨b, o, none⟩ = wX.cell? ⟨b, o, none⟩ := fun i v b o hb => World.cell?_setCell_other _ _ _ _ (by intro e; injection e with e; exact hb e.symm)
                have hrg : wr.heap.size ≠ g := fun e => by have := HBY.out.lt; omega
                have x3a := (cX i1 (.int .u8 q) wr.heap.size 3 hrg).trans x3
                have t3a := (cX i1 (.int .u8 q) wo.heap.size 3 hgu).trans t3
                have x2b := (cX i2 (.int .u8 m) wr.heap.size 2 hrg).trans x2
                have t3b := (cX i2 (.int .u8 m) wo.heap.size 3 hgu).trans t3
                have c2a : (wX.setCell ⟨g, i1, none⟩ (.int .u8 q)).cell? ⟨g, i2, none⟩ = _ := (World.cell?_setCell_other _ _ _ _ (by intro e; injection e with _ e; exact hni e)).trans c2
                have c1b : (wX.setCell ⟨g, i2, none⟩ (.int .u8 m)).cell? ⟨g, i1, none⟩ = _ := (World.cell?_setCell_other _ _ _ _ (by intro e; injection e with _ e; exact hni e.symm)).trans c1
                have f2a : (wX.setCell ⟨g, i1, none⟩ (.int .u8 q)).frozen? ⟨g, i2, none⟩ = false := (World.frozen?_setCell _ _ _ _).trans f2
                have f1b : (wX.setCell ⟨g, i2, none⟩ (.int .u8 m)).frozen? ⟨g, i1, none⟩ = false := (World.frozen?_setCell _ _ _ _).trans f1
                clear cX
                go_region
                go_wp2_with fail
                go_roundw
                case rel => exact ⟨k + 1, by omega, by first | rfl | go_num, by first | exact Lib.hid (grown_bel3 HV2.out (Below.refl _ _).drew) | exact HV2, Lib.hid (by rw [HBN.out]; exact HV1.out.same rfl)⟩
                case measure => simp [intOf]; omega
          · have hkk : k = pl.length := by omega
            subst hkk
            have HBY2 := Lib.hid (show BytesAt wr g ((pl.take pl.length).foldl (putP l ⟨un, up, uu, ua⟩) b0) from HBY.out)
            rw [List.take_length] at HBY2
            have HFR := Lib.hid ((HFG.out.grown HGR.out).back HBY2.out (P' := uniO lib l (units.take (j + 1))) (by rw [HSAME.out, ← HPU.out]; unfold putU; rw [HPOF.out, HE2.out]) (fun V hV => HOTH.out V (Ne.symm hV)))
            clear hM hBw
            go_wp2_with fail
            go_roundw
            case rel => exact ⟨j + 1, by omega, by first | rfl | go_num, HBr, HFR⟩
            case measure => simp [intOf]; omega
    · have hjj : j = units.length := by omega
      subst hjj
      obtain ⟨w7, rfl⟩ : ∃ w7 : World, w7 = wo := ⟨_, rfl⟩
      have HF7 := Lib.hid (show FrS w3.heap.size w7 w3.heap.size units.length (uniO lib l units) from by have h := HFS.out; rwa [List.take_length] at h)
      have HM0 := Lib.hid (fun n => @framesTo_none ⟨lib, units⟩ l n)
      have HM1 := Lib.hid (fun n b => @framesTo_some ⟨lib, units⟩ l n b)
      have HML := Lib.hid (framesTo_len ⟨lib, units⟩ l)
      have HMV := Lib.hid (show framesTo ⟨lib, units⟩ l 64 = framesV ⟨lib, units⟩ l from rfl)
      have HM00 := Lib.hid (show framesTo ⟨lib, units⟩ l 0 = [] from rfl)
      simp only at HM0 HM1
      have HB7 := Lib.hid HBW.out
      generalize framesTo ⟨lib, units⟩ l = FT at *
      generalize uniO lib l units = P at *
      clear HFS HBW hM hB HGU HUF HPR2 HPD2 HSL2 HLF
      go_wp2_with fail
      clear p0 p1
      go_loopw [20, 19] (fun i o wx => ∃ (n : Nat) (ov : Value), n ≤ 64 ∧ i = .int .i64 ((n : Int) + 1) ∧ ov = o ∧ Hid (∃ lv, OwnF w7.heap.size wx ov lv ∧ lv.map (·.1) = FT n ∧ ∀ y ∈ lv, ∃ g, y.2 = frmV g ∧ BytesAt wx g y.1.sl) ∧ Hid (Below w7.heap.size w7 wx)) (fun i _ _ => 65 - (intOf i).toNat)
      case atStart => exact ⟨0, _, Nat.zero_le _, rfl, rfl, Lib.hid ⟨[], OwnF.nil _ _, HM00.out.symm, by simp⟩, Lib.hid (Below.refl _ _)⟩
      case round =>
        obtain ⟨n, ov, hn, rfl, rfl, HOW, HBN⟩ := hrel
        have hzn := HBN.out.size
        by_cases hnl : n < 64
        · have hn64 : (n : Int) + 1 ≤ 64 := by omega
          obtain ⟨fa, fn, fc, hq, hfv⟩ := (HF7.out.below HBN.out).look ((n : Int) + 1) (by unfold I64; omega)
          have q22 := fun (w : World) (a : Option Addr) (n c : Nat) => run_neq_slice_nil (P := Try.prog) w 62 5 a n c Try.underlying62
          have a1 : IntKind.i64.wrap ((n : Int) + 1 + 1) = (n : Int) + 1 + 1 := IntWalk.i64_in _ (by omega)
          rcases hfv with ⟨hP0, rfl⟩ | ⟨g, b, hP1, rfl, rfl, rfl, hg1, hg2, hba, _⟩
          · have hn0 : (none : Option Addr).isNone = true := rfl
            have HOW2 := Lib.hid (show ∃ lv, OwnF w7.heap.size wr ov lv ∧ lv.map (·.1) = FT (n + 1) ∧ ∀ y ∈ lv, ∃ g, y.2 = frmV g ∧ BytesAt wr g y.1.sl from by rw [HM0.out _ hP0]; exact HOW.out)
            clear hP0 HOW
            go_wp2_with fail
            go_roundw
            case rel => exact ⟨n + 1, _, by omega, by first | rfl | go_num, rfl, HOW2, HBN⟩
            case measure => simp [intOf]; omega
          · have hn1 : (some (⟨g, 0, none⟩ : Addr)).isNone = false := rfl
            obtain ⟨lv, hol, hlm, hly⟩ := HOW.out
            have HOL := Lib.hid hol
            have HLM := Lib.hid hlm
            have HLY := Lib.hid hly
            have hlen : lv.length ≤ 10000000 := by have h1 := congrArg List.length hlm; rw [List.length_map] at h1; have := HML.out n; omega
            obtain ⟨oo, oc, rfl⟩ := hol.shape
            have HOA := Lib.hid (hol.below ((Below.refl _ _).alloc (Nat.le_refl _) (.cells #[.int .i64 ((n : Int) + 1), frmV g] 64)))
            have HBA := Lib.hid (HBN.out.alloc HBN.out.size (.cells #[.int .i64 ((n : Int) + 1), frmV g] 64))
            have HN1 := Lib.hid (HM1.out _ _ hP1)
            have HB7G := Lib.hid hba
            clear hol hlm hly HOW hba hP1
            unfold frmV at HOA HBA
            go_wp2_with (first | (at_builtin; refine wpList_ownF rfl _ _ rfl w7.heap.size 1 _ _ ((n : Int) + 1) b g ⟨wr.heap.size, 0, none⟩ rfl rfl HOA.out (ownF_new wr ((n : Int) + 1) b g _) hlen (by simp; omega) ?_; intro v' w' hown hgrow) | fail)
            have HKB := Lib.hid (show ∀ g' b', BytesAt wr g' b' → BytesAt w' g' b' from fun g' b' h => ⟨h.1, (Other.row (T' := 64) HOA.out hgrow).tbox (h.2.alloc _) (by decide)⟩)
            have HV := Lib.hid (show ∃ lv, OwnF w7.heap.size w' v' lv ∧ lv.map (·.1) = FT (n + 1) ∧ ∀ y ∈ lv, ∃ g, y.2 = frmV g ∧ BytesAt w' g y.1.sl from ⟨_, hown, by rw [List.map_append, HLM.out, HN1.out]; rfl, fun y hy => by
              rcases List.mem_append.1 hy with h | h
              · obtain ⟨g', e1, e2⟩ := HLY.out y h
                exact ⟨g', e1, HKB.out _ _ e2⟩
              · simp at h
                subst h
                exact ⟨g, rfl, HKB.out _ _ HB7G.out⟩⟩)
            have HBV := Lib.hid (HOA.out.keeps HBA.out hgrow (Nat.le_refl _) (by simp; omega))
            clear hown hgrow
            go_wp2_with fail
            go_roundw
            case rel => exact ⟨n + 1, _, by omega, by first | rfl | go_num, rfl, HV, HBV⟩
            case measure => simp [intOf]; omega
        · have hnn : n = 64 := by omega
          subst hnn
          have HR2 := Lib.hid (show RV = FT 64 by rw [HRV.out, HMV.out])
          have HR0 := Lib.hid HV.out
          have HBE := Lib.hid ((K3.out wr (HB7.out.trans (HBN.out.mono hzo))).1)
          go_wp2_with fail
          exact bodyPost_ret (v := .tuple #[ov, .int .i64 0]) (by simp [results, Try.results13, go_sem]) rfl ⟨ov, by rw [HR0.out] <;> rfl, by
            obtain ⟨lv, hol, hlm, hly⟩ := HOW.out
            rw [HR2.out, ← hlm]
            refine hol.frmS fun y hy => ?_
            obtain ⟨g, e1, e2⟩ := hly y hy
            rw [e1]
            exact e2.bytS, HBE.out⟩
end Go.Proofs.Ytabalicembhjmaa
