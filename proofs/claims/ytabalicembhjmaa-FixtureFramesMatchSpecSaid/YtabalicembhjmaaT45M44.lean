/- The reference's CheckSettings. (printed by wip/gen/gen_rckstg.py) The reference's Frames. (printed by wip/gen/gen_rframes.py) slices.Equal at alike bytes; sameFrame, sameFrames at alike frames. (printed by wip/gen/gen_frmback.py) The walk of cycloramalaw2.FixtureFramesMatchSpec. (printed by wip/gen/gen_rframes.py) -/
import Derived.Test.YtabalicembhjmaaT45M15
import Derived.Test.YtabalicembhjmaaT45M43
import Derived.Test.YtabalicembhjmaaT45M24
import Derived.Test.YtabalicembhjmaaT45M42
import Derived.Test.YtabalicembhjmaaT45M27
import Derived.Test.YtabalicembhjmaaT45M14

namespace Go.Proofs.Ytabalicembhjmaa
open Go.RowKit
set_option linter.unusedVariables false
set_option linter.unusedSimpArgs false

set_option maxRecDepth 100000 in
set_option maxHeartbeats 16000000 in
theorem rckStgs_any (x : Rig) (lv uv : Value) (l : List Stg) (sv : Value) (w : World) (h : RigAt w.heap.size w x lv uv) (hx : chkRig x = 0) (hS : StgS w.heap.size w sv l) (hs : ∀ s ∈ l, StgFit s) :
    Calls Try.prog 52 #[rigV lv uv, sv] w fun e w' => e = .returned (.int .i64 (chkStgs x l)) ∧ Below w.heap.size w w' := by
  have CF := Lib.hid (fun (n : Int) (nm : ByteArray) W (hb : Below w.heap.size w W) (hn : I64 n) => rfind_any x lv uv w.heap.size n nm W hb.size (h.below hb) hx hn)
  have HG := Lib.hid (StgS.get hS)
  have hml := CellsS.len hS
  unfold maxLen at hml
  have HSF := Lib.hid hs
  obtain ⟨uo, ucap, rfl, _⟩ := CellsS.shape h.units
  obtain ⟨lo, lcap, rfl⟩ := prfS_shape h.lib
  obtain ⟨so, scap, rfl, hsc, hsm⟩ := CellsS.shape hS
  unfold maxLen at hsm
  unfold rigV at *
  have HC := Lib.hid (show chkStgs x l = scanF (stgF x) l 0 from rfl)
  clear h hS hs hx
  generalize chkStgs x l = RES at *
  have KC := Lib.hid (show ∀ W, Below (w.heap.size + 1) (w.alloc (.cells #[.slice lo x.lib.length lcap, .slice uo x.units.length ucap] 25)) W → (Below w.heap.size w W ∧ w.heap.size < W.heap.size ∧ W.cell? ⟨w.heap.size, 0, none⟩ = some (.slice lo x.lib.length lcap) ∧ W.cell? ⟨w.heap.size, 1, none⟩ = some (.slice uo x.units.length ucap)) from fun W hW => by
    have hz := hW.size
    simp at hz
    exact ⟨((Below.refl _ _).alloc (Nat.le_refl _) _).trans (hW.mono (by omega)), by omega, (hW.cell (p := ⟨w.heap.size, 0, none⟩) (by simp)).trans (by simp [go_sem]), (hW.cell (p := ⟨w.heap.size, 1, none⟩) (by simp)).trans (by simp [go_sem])⟩)
  have KM := Lib.hid (show ∀ W W1, Below (w.heap.size + 1) (w.alloc (.cells #[.slice lo x.lib.length lcap, .slice uo x.units.length ucap] 25)) W → Below W.heap.size W W1 → Below (w.heap.size + 1) (w.alloc (.cells #[.slice lo x.lib.length lcap, .slice uo x.units.length ucap] 25)) W1 from fun W W1 h1 h2 => h1.trans (h2.mono (by have := h1.size; simp at this; omega)))
  have KA := Lib.hid (show ∀ W o, Below (w.heap.size + 1) (w.alloc (.cells #[.slice lo x.lib.length lcap, .slice uo x.units.length ucap] 25)) W → Below (w.heap.size + 1) (w.alloc (.cells #[.slice lo x.lib.length lcap, .slice uo x.units.length ucap] 25)) (W.alloc o) from fun W o h => h.alloc (by have := h.size; simp at this; omega) o)
  have HB0 := Lib.hid (Below.refl (w.heap.size + 1) (w.alloc (.cells #[.slice lo x.lib.length lcap, .slice uo x.units.length ucap] 25)))
  go_enter Try.func52, Try.ntmps52
  go_wp2_with fail
  go_loopw [13] (fun i wx => ∃ k : Nat, k ≤ l.length ∧ i = .int .i64 k ∧ Hid (RES = scanF (stgF x) l k) ∧ Hid (Below (w.heap.size + 1) (w.alloc (.cells #[.slice lo x.lib.length lcap, .slice uo x.units.length ucap] 25)) wx)) (fun i _ => l.length - (intOf i).toNat)
  case atStart => exact ⟨0, Nat.zero_le _, rfl, HC, HB0⟩
  case round =>
    clear HC HB0
    obtain ⟨k, hk, rfl, HRF, HBW⟩ := hrel
    obtain ⟨wo, rfl⟩ : ∃ wo : World, wo = wr := ⟨_, rfl⟩
    obtain ⟨hB, hz, p0, p1⟩ := KC.out wo HBW.out
    by_cases hlt : k < l.length
    · obtain ⟨b, off, cap', hsl, hb, _, hc⟩ := HG.out (by omega)
      injection hsl with hs1 hs2 hs3
      subst hs1 hs3
      obtain ⟨d0, d1, d2⟩ := hc k hlt wo hB
      have HRW := Lib.hid hc
      have hbr : b < wo.heap.size := by have := hB.size; omega
      have HUI := Lib.hid (HSF.out _ (List.getElem_mem hlt)).1
      have HSG := Lib.hid (scanF_good (stgF x) l k hlt)
      have HSB := Lib.hid (scanF_bad (stgF x) l k hlt)
      have HFD := Lib.hid (show stgF x (l.take k) l[k] = if (findO x l[k].unit l[k].par.data.toList).isNone then 8 else if !inR l[k].lv 0 65535 then 1 else if (l.take k).any (isK (l[k].unit, l[k].par)) then 6 else 0 from rfl)
      generalize stgF x (l.take k) l[k] = FF at *
      clear hc hB
      generalize hrk : l[k] = rk at *
      clear hrk
      obtain ⟨su, sp, sl⟩ := rk
      simp only at *
      have HBX := Lib.hid (KA.out _ (.cells #[.int .i64 su, .string sp, .int .i64 sl] 35) HBW.out)
      have CX := Lib.hid (CF.out su sp _ (KC.out _ HBX.out).1 HUI.out)
      generalize findO x su sp.data.toList = PO at *
      go_wp2_with fail
      refine CX.out.mono ?_
      rintro e w5 ⟨xv, rfl, hxr, hb5⟩
      obtain ⟨qn, qg, qs, qf, qd, qb, qo, ql, qc, rfl⟩ := parR_shape hxr
      have hz5 := hb5.size
      simp only [World.size_alloc] at hz5
      have hwr5 : wo.heap.size < w5.heap.size := by omega
      have HB5 := Lib.hid (KM.out _ _ HBX.out hb5)
      have KU5 := Lib.hid (show ∀ W, Below w5.heap.size w5 W → W.cell? ⟨wo.heap.size, 0, none⟩ = some (.int .i64 su) ∧ W.cell? ⟨wo.heap.size, 1, none⟩ = some (.string sp) ∧ W.cell? ⟨wo.heap.size, 2, none⟩ = some (.int .i64 sl) from fun W hW => by
        have h := hb5.trans (hW.mono (by simp; omega))
        exact ⟨(h.cell (p := ⟨wo.heap.size, 0, none⟩) (by simp)).trans (by simp [go_sem]), (h.cell (p := ⟨wo.heap.size, 1, none⟩) (by simp)).trans (by simp [go_sem]), (h.cell (p := ⟨wo.heap.size, 2, none⟩) (by simp)).trans (by simp [go_sem])⟩)
      obtain ⟨f0, f1, f2⟩ := KU5.out _ (Below.refl _ _)
      have hnI : PO.isNone = !PO.isSome := by cases PO <;> rfl
      rw [hnI] at HFD
      generalize PO.isSome = IS at *
      clear hb5 hxr CX HBX HBW hnI p0 p1 d0 d1 d2 hz
      have HB6 := Lib.hid (KA.out _ (.cells #[.string qn, .int .i64 qg, .int .i64 qs, .int .i64 qf, .int .i64 qd, .bool qb, .slice qo ql qc] 42) HB5.out)
      have hs6 : wo.heap.size < (w5.alloc (.cells #[.string qn, .int .i64 qg, .int .i64 qs, .int .i64 qf, .int .i64 qd, .bool qb, .slice qo ql qc] 42)).heap.size := by simp; omega
      have KU6 := Lib.hid (show ∀ W, Below (w5.alloc (.cells #[.string qn, .int .i64 qg, .int .i64 qs, .int .i64 qf, .int .i64 qd, .bool qb, .slice qo ql qc] 42)).heap.size (w5.alloc (.cells #[.string qn, .int .i64 qg, .int .i64 qs, .int .i64 qf, .int .i64 qd, .bool qb, .slice qo ql qc] 42)) W → W.cell? ⟨wo.heap.size, 0, none⟩ = some (.int .i64 su) ∧ W.cell? ⟨wo.heap.size, 1, none⟩ = some (.string sp) from fun W hW => by
        have h := KU5.out W (((Below.refl _ _).alloc (Nat.le_refl _) _).trans (hW.mono (by simp)))
        exact ⟨h.1, h.2.1⟩)
      clear HB5 KU5
      cases IS
      · skip
        have HE : FF = 8 := by rw [HFD.out]; rfl
        have HV := Lib.hid (show RES = 8 by rw [HRF.out, HSB.out (by rw [HE]; decide), HE])
        clear HE
        go_wp2_with fail
        go_ret
        exact ⟨by rw [HV.out] <;> rfl, (KC.out _ HB6.out).1⟩
      rcases Bool.eq_false_or_eq_true (inR sl 0 65535) with k0 | k0
      rotate_left
      · skip
        have HE : FF = 1 := by rw [HFD.out]; simp [k0]
        have HV := Lib.hid (show RES = 1 by rw [HRF.out, HSB.out (by rw [HE]; decide), HE])
        clear HE
        go_wp2_with (first | (go_at_call 83; ((with_reducible refine (rLevel_R _ _).mono ?_); rintro e w' ⟨rfl, rfl⟩)) | fail)
        go_ret
        exact ⟨by rw [HV.out] <;> rfl, (KC.out _ HB6.out).1⟩
      have HFX := Lib.hid (show FF = if (l.take k).any (isK (su, sp)) then 6 else 0 by rw [HFD.out]; simp [k0])
      clear HFD
      have HFD := HFX
      clear HFX
      have hi1 : (0 : Int) ≤ (k : Int) := by omega
      have hi2 : (k : Int) ≤ (scap : Int) := by omega
      have hi3 : k ≤ scap := by omega
      go_wp2_with (first | (go_at_call 83; ((with_reducible refine (rLevel_R _ _).mono ?_); rintro e w' ⟨rfl, rfl⟩)) | fail)
      clear k0 f0 f1 f2
      generalize hW6 : w5.alloc (.cells #[.string qn, .int .i64 qg, .int .i64 qs, .int .i64 qf, .int .i64 qd, .bool qb, .slice qo ql qc] 42) = wd at *
      clear hW6
      go_loopw [35] (fun i wx => ∃ j : Nat, j ≤ k ∧ i = .int .i64 j ∧ Hid ((l.take j).any (isK (su, sp)) = false) ∧ Hid (Below wd.heap.size wd wx)) (fun i _ => k - (intOf i).toNat)
      case atStart => exact ⟨0, Nat.zero_le _, rfl, Lib.hid (by simp), Lib.hid (Below.refl _ _)⟩
      case round =>
        obtain ⟨j, hj, rfl, HNI, HBI⟩ := hrel
        have hzi := HBI.out.size
        obtain ⟨e0, e1⟩ := KU6.out wr HBI.out
        have HBN := Lib.hid (KM.out _ _ HB6.out HBI.out)
        have hor : wo.heap.size < wr.heap.size := by omega
        have hbi : b < wr.heap.size := by omega
        by_cases hjlt : j < k
        · have hjl : j < l.length := by omega
          obtain ⟨d0, d1, d2⟩ := HRW.out j hjl wr (KC.out _ HBN.out).1
          have HCN := Lib.hid (any_snoc (isK (su, sp)) l j hjl)
          have HCX := Lib.hid (any_at (isK (su, sp)) l k j hjl hjlt)
          have HCD := Lib.hid (show isK (su, sp) l[j] = decide ((l[j].unit, l[j].par) = (su, sp)) from rfl)
          generalize isK (su, sp) l[j] = CJ at *
          generalize hrk : l[j] = rk at *
          clear hrk
          obtain ⟨yu, yp, yl⟩ := rk
          simp only at *
          have HBX := Lib.hid (HBI.out.alloc hzi (.cells #[.int .i64 yu, .string yp, .int .i64 yl] 35))
          have HBY := Lib.hid (KA.out _ (.cells #[.int .i64 yu, .string yp, .int .i64 yl] 35) HBN.out)
          by_cases h1 : yu = su
          · by_cases h2 : yp = sp
            · have HCJ := Lib.hid (show CJ = true by rw [HCD.out, h1, h2]; simp)
              have HE : FF = 6 := by rw [HFD.out]; rw [HCX.out HCJ.out]; rfl
              have HV := Lib.hid (show RES = 6 by rw [HRF.out, HSB.out (by rw [HE]; decide), HE])
              clear HE
              have h1' := Eq.symm h1
              have h2' := Eq.symm h2
              clear h1 h2
              subst h1' h2'
              have h3 : (sp.toList == sp.toList) = true := by simp
              have HBZ := Lib.hid (KC.out _ HBY.out).1
              go_wp2_with fail
              go_ret
              exact ⟨by rw [HV.out] <;> rfl, HBZ.out⟩
            · have HCJ := Lib.hid (show CJ = false by rw [HCD.out]; simp [h2])
              have h3 : ¬ yp.toList = sp.toList := fun h => h2 (ByteArray.ext (Array.toList_inj.1 (by rw [← Lib.toList_data, ← Lib.toList_data]; exact h)))
              have h4 : (yp.toList == sp.toList) = false := beq_eq_false_iff_ne.2 h3
              have h5 : ¬ sp.toList = yp.toList := fun h => h3 h.symm
              have h6 : (sp.toList == yp.toList) = false := beq_eq_false_iff_ne.2 h5
              have h1' := Eq.symm h1
              clear h1 h2
              subst h1'
              have HV := Lib.hid (show (l.take (j + 1)).any (isK (su, sp)) = false by rw [HCN.out, HNI.out, HCJ.out]; rfl)
              go_wp2_with fail
              go_roundw
              case rel => exact ⟨j + 1, by omega, by go_num, HV, HBX⟩
              case measure => simp [intOf]; omega
          · have HCJ := Lib.hid (show CJ = false by rw [HCD.out]; simp [h1])
            have h7 : (yu == su) = false := by simpa using h1
            have HV := Lib.hid (show (l.take (j + 1)).any (isK (su, sp)) = false by rw [HCN.out, HNI.out, HCJ.out]; rfl)
            go_wp2_with fail
            go_roundw
            case rel => exact ⟨j + 1, by omega, by go_num, HV, HBX⟩
            case measure => simp [intOf]; omega
        · have hjk : j = k := by omega
          subst hjk
          have HE : FF = 0 := by rw [HFD.out, HNI.out]; rfl
          have HV := Lib.hid (show RES = scanF (stgF x) l (j + 1) by rw [HRF.out, HSG.out HE])
          clear HE HNI
          go_wp2_with fail
          go_roundw
          case rel => exact ⟨j + 1, by omega, by go_num, HV, HBN⟩
          case measure => simp [intOf]; omega
    · have HV := Lib.hid (show RES = 0 by rw [HRF.out, scanF_end (stgF x) l k (by omega)])
      have HBO := Lib.hid hB
      have hkk : k = l.length := by omega
      clear hB
      subst hkk
      go_wp2_with fail
      go_ret
      exact ⟨by rw [HV.out] <;> rfl, HBO.out⟩
end Go.Proofs.Ytabalicembhjmaa

namespace Go.Proofs.Ytabalicembhjmaa
open Go.RowKit
set_option linter.unusedVariables false
set_option linter.unusedSimpArgs false

set_option maxRecDepth 100000 in
set_option maxHeartbeats 8000000 in
theorem rframes_any (x : Rig) (lv uv : Value) (l : List Stg) (sv : Value) (w : World) (h : RigAt w.heap.size w x lv uv) (hf : RigFit x) (hS : StgS w.heap.size w sv l) (hs : ∀ s ∈ l, StgFit s) :
    Calls Try.prog 28 #[rigV lv uv, sv] w fun e w' => ∃ fv, e = .returned (.tuple #[fv, .int .i64 (framesF x l)]) ∧ FrmS w'.heap.size w' fv (framesR x l) ∧ Below w.heap.size w w' := by
  have C1 := Lib.hid (fun W (hb : Below w.heap.size w W) => rckRig_any x lv uv W ((h.below hb).more hb.size) hf)
  have C2 := Lib.hid (fun (hx : chkRig x = 0) W (hb : Below w.heap.size w W) => rckStgs_any x lv uv l sv W ((h.below hb).more hb.size) hx ((hS.below hb).more hb.size) hs)
  have C3 := Lib.hid (fun (hx : chkRig x = 0) (hc : chkStgs x l = 0) W (hb : Below w.heap.size w W) => rframesOf_any x lv uv l sv W ((h.below hb).more hb.size) hf hx ((hS.below hb).more hb.size) hc)
  have HF0 := Lib.hid (framesF_bad (x := x) (l := l))
  have HF1 := Lib.hid (framesF_ok (x := x) (l := l))
  have HR0 := Lib.hid (show framesF x l = 0 → framesR x l = framesV x l from fun h => if_pos h)
  have HR1 := Lib.hid (show ¬ framesF x l = 0 → framesR x l = [] from fun h => if_neg h)
  obtain ⟨lo, lcap, uo, ucap, rfl, rfl⟩ := rig_shape h
  obtain ⟨so, scap, rfl, _⟩ := CellsS.shape hS
  clear h hf hS hs
  unfold rigV at *
  generalize framesF x l = FF at *
  generalize framesR x l = FR at *
  have HB0 := Lib.hid (RBox.start w (.slice lo x.lib.length lcap) (.slice uo x.units.length ucap))
  have K1 := Lib.hid (C1.out _ HB0.out.bel)
  clear C1
  go_enter Try.func28, Try.ntmps28
  go_wp2_with fail
  refine K1.out.mono ?_
  rintro e w1 ⟨rfl, hb⟩
  have HB1 := Lib.hid (HB0.out.next hb)
  clear hb K1 HB0
  by_cases hE : chkRig x = 0
  rotate_left
  · have HV := Lib.hid (HF0.out hE)
    have HRV := Lib.hid (HR1.out (by rw [HV.out]; exact hE))
    have HBE := Lib.hid HB1.out.bel
    clear HF0 HF1 HR0 HR1 C2 C3
    generalize chkRig x = E at *
    go_wp2_with fail
    exact bodyPost_ret (v := .tuple #[.slice none 0 0, .int .i64 E]) (by simp [results, Try.results28, go_sem]) rfl ⟨_, by rw [HV.out] <;> rfl, by rw [HRV.out]; exact frmS_nil _ _, HBE.out⟩
  have K2 := Lib.hid (C2.out hE _ HB1.out.bel)
  have p0 := HB1.out.par.cell (i := 0) rfl
  have p1 := HB1.out.par.cell (i := 1) rfl
  have hz1 := HB1.out.size
  have HFE := Lib.hid (HF1.out hE)
  have K3 := Lib.hid (C3.out hE)
  rw [hE]
  clear HF0 HF1 C2 C3 hE
  go_wp2_with fail
  refine K2.out.mono ?_
  rintro e w2 ⟨rfl, hb⟩
  have HB2 := Lib.hid (HB1.out.next hb)
  clear hb K2 HB1 p0 p1 hz1
  by_cases hC : chkStgs x l = 0
  rotate_left
  · have HV := Lib.hid HFE.out
    have HRV := Lib.hid (HR1.out (by rw [HV.out]; exact hC))
    have HBE := Lib.hid HB2.out.bel
    clear HR0 HR1 K3 HFE
    generalize chkStgs x l = E at *
    go_wp2_with fail
    exact bodyPost_ret (v := .tuple #[.slice none 0 0, .int .i64 E]) (by simp [results, Try.results28, go_sem]) rfl ⟨_, by rw [HV.out] <;> rfl, by rw [HRV.out]; exact frmS_nil _ _, HBE.out⟩
  have HV := Lib.hid (show FF = 0 by rw [HFE.out]; exact hC)
  have HRV := Lib.hid (HR0.out HV.out)
  have K4 := Lib.hid (K3.out hC _ HB2.out.bel)
  have p0 := HB2.out.par.cell (i := 0) rfl
  have p1 := HB2.out.par.cell (i := 1) rfl
  have hz2 := HB2.out.size
  rw [hC]
  clear HFE K3 HR0 HR1 hC
  go_wp2_with fail
  refine K4.out.mono ?_
  rintro e w3 ⟨fv, rfl, hfr, hb⟩
  have HBE := Lib.hid (HB2.out.next hb).bel
  have HFR := Lib.hid hfr
  clear hb hfr K4 HB2 p0 p1 hz2
  go_wp2_with fail
  exact bodyPost_ret (v := .tuple #[fv, .int .i64 0]) (by simp [results, Try.results28, go_sem]) rfl ⟨fv, by rw [HV.out] <;> rfl, by rw [HRV.out]; exact HFR.out, HBE.out⟩
end Go.Proofs.Ytabalicembhjmaa

namespace Go.Proofs.Ytabalicembhjmaa
open Go.RowKit
set_option linter.unusedVariables false
set_option linter.unusedSimpArgs false

set_option maxHeartbeats 2000000 in
theorem bytes_same (v u : Value) (l : List Int) (w : World) (hv : BytS w.heap.size w v l) (hu : BytS w.heap.size w u l) :
    Calls Try.prog 74 #[v, u] w fun e w' => e = .returned (.bool true) ∧ Below w.heap.size w w' := by
  have HX := Lib.hid (BytS.get hv)
  have HY := Lib.hid (BytS.get hu)
  have hl := bytS_len hv
  obtain ⟨ao, cap, rfl⟩ := bytS_shape hv
  obtain ⟨bo, cap2, rfl⟩ := bytS_shape hu
  clear hv hu
  go_enter Try.func74, Try.ntmps74
  go_wp2
  go_loopw [13] (fun i wr => ∃ k : Nat, k ≤ l.length ∧ i = .int .i64 k ∧ ∃ n, wr = w.drewN n) (fun i _ => l.length - (intOf i).toNat)
  case atStart => exact ⟨0, Nat.zero_le _, rfl, 0, rfl⟩
  case round =>
    obtain ⟨k, hk, rfl, n, rfl⟩ := hrel
    by_cases hlt : k < l.length
    · obtain ⟨b, off, _, e0, hbb, _, hc⟩ := HX.out (by omega)
      injection e0 with e1 _ e3
      subst e1 e3
      obtain ⟨b', off', _, e0, hbb', _, hc'⟩ := HY.out (by omega)
      injection e0 with e1 _ e3
      subst e1 e3
      have c0 := hc k hlt w (Below.refl _ _)
      have d0 := hc' k hlt w (Below.refl _ _)
      clear hc hc' HX HY
      generalize l[k] = z0 at *
      go_wp2
      go_quiet (fail)
      go_wp2
      go_roundw
      case rel => exact ⟨k + 1, by omega, by go_num, _, rfl⟩
      case measure => simp [intOf]; omega
    · obtain rfl : k = l.length := by omega
      go_wp2
      go_ret
      exact ⟨rfl, bel_drewF (Below.refl _ _) _⟩
set_option maxRecDepth 100000 in
set_option maxHeartbeats 2000000 in
theorem sameFrame_any (x : Frm) (v u : Value) (w : World) (hv : BytS w.heap.size w v x.sl) (hu : BytS w.heap.size w u x.sl) :
    Calls Try.prog 39 #[.agg #[.int .i64 x.univ, v], .agg #[.int .i64 x.univ, u]] w fun e w' => e = .returned (.bool true) ∧ Below w.heap.size w w' := by
  have CE := Lib.hid (fun W (hb : Below w.heap.size w W) => bytes_same v u x.sl W ((hv.below hb).more hb.size) ((hu.below hb).more hb.size))
  obtain ⟨fu, fl⟩ := x
  simp only at *
  obtain ⟨vo, vcap, rfl⟩ := bytS_shape hv
  obtain ⟨uo, ucap, rfl⟩ := bytS_shape hu
  clear hv hu
  have hB2 : Below w.heap.size w ((w.alloc (.cells #[.int .i64 fu, .slice vo fl.length vcap] 64)).alloc (.cells #[.int .i64 fu, .slice uo fl.length ucap] 64)) := ((Below.refl _ _).alloc (Nat.le_refl _) _).alloc (by simp) _
  have CE1 := Lib.hid (CE.out _ hB2)
  have HB2 := Lib.hid hB2
  clear CE hB2
  go_enter Try.func39, Try.ntmps39
  go_wp2_with fail
  refine CE1.out.mono ?_
  rintro e w1 ⟨rfl, hb⟩
  have HB := Lib.hid (HB2.out.trans (hb.mono HB2.out.size))
  clear hb CE1
  go_wp2_with fail
  go_ret
  exact ⟨by simp, HB.out⟩
theorem sameFrame_call (args : Array Value) (W : World) : Sem.run Try.prog (callFunc 39 args) W = .ok (.enter 39 args) W := by simp [go_sem]
set_option maxRecDepth 100000 in
set_option maxHeartbeats 4000000 in
theorem frames_same (v u : Value) (l : List Frm) (w : World) (hv : FrmS w.heap.size w v l) (hu : FrmS w.heap.size w u l) :
    Calls Try.prog 38 #[v, u, .func (.func 39) #[] #[]] w fun e w' => e = .returned (.bool true) ∧ Below w.heap.size w w' := by
  have HX := Lib.hid (FrmS.get hv)
  have HY := Lib.hid (FrmS.get hu)
  obtain ⟨ao, cap, rfl⟩ := frmS_shape hv
  obtain ⟨bo, cap2, rfl⟩ := frmS_shape hu
  have hl := frmS_len hv
  have hcf := sameFrame_call
  clear hv hu
  go_enter Try.func38, Try.ntmps38
  go_wp2_with fail
  go_loopw [17] (fun i wx => ∃ k : Nat, k ≤ l.length ∧ i = .int .i64 k ∧ Hid (Below w.heap.size w wx)) (fun i _ => l.length - (intOf i).toNat)
  case atStart => exact ⟨0, Nat.zero_le _, rfl, Lib.hid (Below.refl _ _)⟩
  case round =>
    obtain ⟨k, hk, rfl, HBW⟩ := hrel
    have hzr := HBW.out.size
    by_cases hlt : k < l.length
    · obtain ⟨b, off, _, e0, hbb, _, hc⟩ := HX.out (by omega)
      injection e0 with e1 _ e3
      subst e1 e3
      obtain ⟨b', off', _, e0, hbb', _, hc'⟩ := HY.out (by omega)
      injection e0 with e1 _ e3
      subst e1 e3
      obtain ⟨rv, hrv, hcc⟩ := hc k hlt
      obtain ⟨sv, hsv, hcc'⟩ := hc' k hlt
      obtain ⟨c0, c1⟩ := hcc wr HBW.out
      obtain ⟨d0, d1⟩ := hcc' wr HBW.out
      have hbr : b < wr.heap.size := by omega
      have hbr' : b' < wr.heap.size := by omega
      obtain ⟨ro, rcap, rfl⟩ := bytS_shape hrv
      obtain ⟨so, scap, rfl⟩ := bytS_shape hsv
      have CS := Lib.hid (fun W (hb : Below w.heap.size w W) => sameFrame_any l[k] _ _ W ((hrv.below hb).more hb.size) ((hsv.below hb).more hb.size))
      clear hc hc' hcc hcc' hrv hsv
      generalize hrk : l[k] = rk at *
      clear hrk
      obtain ⟨fu, fl⟩ := rk
      simp only at *
      have HBX := Lib.hid ((HBW.out.alloc hzr (.cells #[.int .i64 fu, .slice ro fl.length rcap] 64)).alloc (by simp; omega) (.cells #[.int .i64 fu, .slice so fl.length scap] 64))
      have CX := Lib.hid (CS.out _ HBX.out)
      clear CS
      go_wp2_with fail
      refine CX.out.mono ?_
      rintro e w1 ⟨rfl, hb⟩
      have HB1 := Lib.hid (HBX.out.trans (hb.mono HBX.out.size))
      clear hb CX
      go_wp2_with fail
      go_roundw
      case rel => exact ⟨k + 1, by omega, by go_num, HB1⟩
      case measure => simp [intOf]; omega
    · obtain rfl : k = l.length := by omega
      go_wp2_with fail
      go_ret
      exact ⟨rfl, HBW.out⟩
set_option maxHeartbeats 2000000 in
theorem sameFrames_any (v u : Value) (l : List Frm) (w : World) (hv : FrmS w.heap.size w v l) (hu : FrmS w.heap.size w u l) :
    Calls Try.prog 14 #[v, u] w fun e w' => e = .returned (.bool true) ∧ Below w.heap.size w w' := by
  have CE := Lib.hid (frames_same v u l w hv hu)
  obtain ⟨ao, cap, rfl⟩ := frmS_shape hv
  obtain ⟨bo, cap2, rfl⟩ := frmS_shape hu
  clear hv hu
  go_enter Try.func14, Try.ntmps14
  go_wp2_with fail
  refine CE.out.mono ?_
  rintro e w1 ⟨rfl, hb⟩
  have HB := Lib.hid hb
  clear hb CE
  go_wp2_with fail
  go_ret
  exact ⟨by simp, HB.out⟩
end Go.Proofs.Ytabalicembhjmaa

namespace Go.Proofs.Ytabalicembhjmaa.fixtureFramesMatchSpec
open Go.RowKit
set_option linter.unusedVariables false
set_option linter.unusedSimpArgs false

set_option maxRecDepth 100000 in
set_option maxHeartbeats 16000000 in
theorem walk (a0 a1 : Value) (w : World) (w0 : RigW w a0) (w1 : StgW w a1) :
    Calls Try.prog 9 #[a0, a1] w fun e w' => e = .returned (.bool true) ∧ Below w.heap.size w w' := by
  obtain ⟨x, lv, uv, rfl, hx, hf⟩ := w0
  obtain ⟨l, hl, hfl⟩ := w1
  have C1 := Lib.hid (fun W (hb : Below w.heap.size w W) => frames_any x lv uv l a1 W ((hx.below hb).more hb.size) hf ((hl.below hb).more hb.size) hfl)
  have C2 := Lib.hid (fun W (hb : Below w.heap.size w W) => rframes_any x lv uv l a1 W ((hx.below hb).more hb.size) hf ((hl.below hb).more hb.size) hfl)
  obtain ⟨lo, lcap, uo, ucap, rfl, rfl⟩ := rig_shape hx
  obtain ⟨so, scap, rfl, _⟩ := CellsS.shape hl
  clear hx hf hl hfl
  unfold rigV at *
  generalize framesR x l = F at *
  generalize framesF x l = FF at *
  have HB0 := Lib.hid (RBox.start w (.slice lo x.lib.length lcap) (.slice uo x.units.length ucap))
  have K1 := Lib.hid (C1.out _ HB0.out.bel)
  clear C1
  go_enter Try.func9, Try.ntmps9
  go_wp2_with fail
  refine K1.out.mono ?_
  rintro e w3 ⟨fv, rfl, hfr, hb⟩
  have HB1 := Lib.hid (HB0.out.next hb)
  have HFR := Lib.hid hfr
  have hz3 := HB1.out.size
  obtain ⟨fo, fc, rfl⟩ := frmS_shape hfr
  have K2 := Lib.hid (C2.out _ HB1.out.bel)
  have p0 := HB1.out.par.cell (i := 0) rfl
  have p1 := HB1.out.par.cell (i := 1) rfl
  clear hb hfr K1 HB0 C2
  go_wp2_with fail
  refine K2.out.mono ?_
  rintro e w4 ⟨gv, rfl, hgr, hb⟩
  have HB2 := Lib.hid (HB1.out.next hb)
  have KE := Lib.hid (sameFrames_any _ gv F w4 ((HFR.out.below hb).more hb.size) hgr)
  obtain ⟨go2, gc2, rfl⟩ := frmS_shape hgr
  clear hb hgr K2 HB1 HFR p0 p1 hz3
  go_wp2_with fail
  refine KE.out.mono ?_
  rintro e w5 ⟨rfl, hb⟩
  have HBE := Lib.hid (HB2.out.next hb).bel
  clear hb KE HB2
  go_wp2_with fail
  go_ret
  exact ⟨by first | rfl | simp, HBE.out⟩
end Go.Proofs.Ytabalicembhjmaa.fixtureFramesMatchSpec
