/- The walk of cycloramalaw2.FixturePlacesMatchSpec. (printed by wip/gen/gen_placewalk.py) -/
import Derived.Test.YtabalicembhjmaaT38M38
import Derived.Test.YtabalicembhjmaaT38M39
import Derived.Test.YtabalicembhjmaaT38M40
import Derived.Test.YtabalicembhjmaaT38M41
import Derived.Test.YtabalicembhjmaaT38M43

namespace Go.Proofs.Ytabalicembhjmaa.fixturePlacesMatchSpec
open Go.RowKit
set_option linter.unusedVariables false
set_option linter.unusedSimpArgs false

theorem roomT_shape (x : Rig) (s : Int) : ∃ a b c : Int, roomT x s = .tuple #[.int .i64 a, .int .i64 b, .int .i64 c] := by
  by_cases h : chkRig x = 0
  · rcases Bool.eq_false_or_eq_true (inR s 1 512) with k | k
    · cases hr : roomO (usBut x 0) s with
      | none => exact ⟨_, _, _, roomT_none h k hr⟩
      | some r => exact ⟨_, _, _, roomT_some h k hr⟩
    · exact ⟨_, _, _, roomT_range h k⟩
  · exact ⟨_, _, _, roomT_bad h⟩
set_option maxRecDepth 100000 in
set_option maxHeartbeats 16000000 in
theorem walk (a0 : Value) (a1 : Int) (a2 : ByteArray) (a3 : Int) (w : World) (w0 : RigW w a0) (w1 : (Lit.int .i64 a1).wf = true) (w2 : a2.size ≤ maxLen) (w3 : (Lit.int .i64 a3).wf = true) :
    Calls Try.prog 8 #[a0, .int .i64 a1, .string a2, .int .i64 a3] w fun e w' => e = .returned (.bool true) ∧ Below w.heap.size w w' := by
  obtain ⟨x, lv, uv, rfl, hx, hf⟩ := w0
  have hn : I64 a3 := i64_of_wf w3
  have K1 := Lib.hid (fun W (hb : Below w.heap.size w W) => roomTop_any x lv uv a1 W ((hx.below hb).more hb.size) hf)
  have K2 := Lib.hid (fun W (hb : Below w.heap.size w W) => rroomTop_any x lv uv a1 W ((hx.below hb).more hb.size) hf)
  have K3 := Lib.hid (fun W (hb : Below w.heap.size w W) => place_any x lv uv a2 a3 W ((hx.below hb).more hb.size) hf hn)
  have K4 := Lib.hid (fun W (hb : Below w.heap.size w W) => rplace_any x lv uv a2 a3 W ((hx.below hb).more hb.size) hf hn)
  have K5 := Lib.hid (fun W (hb : Below w.heap.size w W) => remove_new w.heap.size x lv uv a3 W (hx.below hb) hb.size hf hn)
  have K6 := Lib.hid (fun W (hb : Below w.heap.size w W) => rremove_new w.heap.size x lv uv a3 W (hx.below hb) hb.size hf hn)
  obtain ⟨lo, lcap, uo, ucap, rfl, rfl⟩ := rig_shape hx
  obtain ⟨r1, r2, r3, hro⟩ := roomT_shape x a1
  rw [hro] at K1 K2
  clear hx hf w1 w2 w3 hn hro
  unfold rigV at *
  generalize placeF x a2 a3 = PF at *
  generalize placeR x a2 a3 = PR at *
  generalize remF x a3 = MF at *
  generalize remR x a3 = MR at *
  have HB0 := Lib.hid (RBox.start w (.slice lo x.lib.length lcap) (.slice uo x.units.length ucap))
  have K1 := Lib.hid (K1.out _ HB0.out.bel)
  go_enter Try.func8, Try.ntmps8
  go_wp2_with fail
  refine K1.out.mono ?_
  rintro e w4 ⟨rfl, hb⟩
  have HB1 := Lib.hid (HB0.out.next hb)
  have p0 := HB1.out.par.cell (i := 0) rfl
  have p1 := HB1.out.par.cell (i := 1) rfl
  have hz1 : w.heap.size < w4.heap.size := HB1.out.size
  have K2 := Lib.hid (K2.out _ HB1.out.bel)
  clear hb K1 HB0
  go_wp2_with fail
  refine K2.out.mono ?_
  rintro e w5 ⟨rfl, hb⟩
  have HB2 := Lib.hid (HB1.out.next hb)
  clear hb K2 HB1 p0 p1 hz1
  have p0 := HB2.out.par.cell (i := 0) rfl
  have p1 := HB2.out.par.cell (i := 1) rfl
  have hz2 : w.heap.size < w5.heap.size := HB2.out.size
  have K3 := Lib.hid (K3.out _ HB2.out.bel)
  go_wp2_with fail
  refine K3.out.mono ?_
  rintro e wA ⟨lvA, uvA, rfl, hrA, hb⟩
  have HB3 := Lib.hid (HB2.out.next hb)
  obtain ⟨loA, lcapA, uoA, ucapA, rfl, rfl⟩ := rig_shape hrA
  have ha := (Below.refl wA.heap.size wA).alloc (Nat.le_refl _) (.cells #[.slice loA PR.lib.length lcapA, .slice uoA PR.units.length ucapA] 25)
  have HBA := Lib.hid (HB3.out.next ha)
  have HRA := Lib.hid (show RigAt wA.heap.size (wA.alloc (.cells #[.slice loA PR.lib.length lcapA, .slice uoA PR.units.length ucapA] 25)) PR (.slice loA PR.lib.length lcapA) (.slice uoA PR.units.length ucapA) from hrA.below ha)
  have HTA := Lib.hid (TBox.new wA #[.slice loA PR.lib.length lcapA, .slice uoA PR.units.length ucapA] 25)
  have hzA : w.heap.size < wA.heap.size := HB3.out.size
  clear hb hrA ha K3 HB2 HB3 p0 p1 hz2
  go_upto_region 6 with fail
  obtain ⟨w6, hw6⟩ : ∃ w6 : World, w6 = wA.alloc (.cells #[.slice loA PR.lib.length lcapA, .slice uoA PR.units.length ucapA] 25) := ⟨_, rfl⟩
  rw [← hw6] at HBA HRA HTA ⊢
  clear hw6
  have p0 := HBA.out.par.cell (i := 0) rfl
  have p1 := HBA.out.par.cell (i := 1) rfl
  have hz6 : w.heap.size < w6.heap.size := HBA.out.size
  have K4 := Lib.hid (K4.out _ HBA.out.bel)
  go_wp2_with fail
  refine K4.out.mono ?_
  rintro e wB ⟨lvB, uvB, rfl, hrB, hb⟩
  have HB4 := Lib.hid (HBA.out.next hb)
  obtain ⟨loB, lcapB, uoB, ucapB, rfl, rfl⟩ := rig_shape hrB
  have ha := (Below.refl wB.heap.size wB).alloc (Nat.le_refl _) (.cells #[.slice loB PR.lib.length lcapB, .slice uoB PR.units.length ucapB] 25)
  have HBB := Lib.hid (HB4.out.next ha)
  have HTA2 := Lib.hid ((HTA.out.below hb).below ha)
  have HTB := Lib.hid (TBox.new wB #[.slice loB PR.lib.length lcapB, .slice uoB PR.units.length ucapB] 25)
  have hab : wA.heap.size < wB.heap.size := (HTA.out.below hb).lt
  have KS := Lib.hid (sameRig_any PR _ _ _ _ _ ((((HRA.out.more (by have := HTA.out.lt; omega)).below hb).below (ha.mono hb.size)).more (Nat.le_trans hb.size ha.size)) ((hrB.below ha).more ha.size))
  unfold rigV at KS
  clear hb hrB ha K4 HBA HB4 HRA HTA p0 p1 hz6
  go_upto_region 7 with fail
  obtain ⟨w7, hw7⟩ : ∃ w7 : World, w7 = wB.alloc (.cells #[.slice loB PR.lib.length lcapB, .slice uoB PR.units.length ucapB] 25) := ⟨_, rfl⟩
  rw [← hw7] at HBB HTA2 HTB KS ⊢
  clear hw7
  have ta0 := HTA2.out.cell (i := 0) rfl
  have ta1 := HTA2.out.cell (i := 1) rfl
  have tb0 := HTB.out.cell (i := 0) rfl
  have tb1 := HTB.out.cell (i := 1) rfl
  have hla := HTA2.out.lt
  have hlb := HTB.out.lt
  go_wp2_with fail
  refine KS.out.mono ?_
  rintro e w8 ⟨rfl, hb⟩
  have HB8 := Lib.hid (HBB.out.next hb)
  have HTA8 := Lib.hid (HTA2.out.below hb)
  have HTB8 := Lib.hid (HTB.out.below hb)
  clear hb KS HBB HTA2 HTB ta0 ta1 tb0 tb1 hla hlb
  have p0 := HB8.out.par.cell (i := 0) rfl
  have p1 := HB8.out.par.cell (i := 1) rfl
  have hz8 : w.heap.size < w8.heap.size := HB8.out.size
  have K5 := Lib.hid (K5.out _ HB8.out.bel)
  have hla8 := HTA8.out.lt
  have hlb8 := HTB8.out.lt
  go_wp2_with fail
  refine K5.out.mono ?_
  rintro e wC ⟨lvC, uvC, rfl, hrC, hb⟩
  have hshC := hrC.at
  obtain ⟨loC, lcapC, uoC, ucapC, rfl, rfl⟩ := rig_shape hshC
  have HBC := Lib.hid (HB8.out.next hb)
  have HTAC := Lib.hid (HTA8.out.below hb)
  have HTBC := Lib.hid (HTB8.out.below hb)
  have HTAD := Lib.hid ((HTAC.out.set 0 (.slice loC MR.lib.length lcapC)).set 1 (.slice uoC MR.units.length ucapC))
  simp only [List.setIfInBounds_toArray, List.set_cons_succ, List.set_cons_zero] at HTAD
  have HBD := Lib.hid ((HBC.out.set (b := wA.heap.size) (by omega) 0 (.slice loC MR.lib.length lcapC)).set (b := wA.heap.size) (by omega) 1 (.slice uoC MR.units.length ucapC))
  have HTBD := Lib.hid (show TBox ((wC.setCell ⟨wA.heap.size, 0, none⟩ (.slice loC MR.lib.length lcapC)).setCell ⟨wA.heap.size, 1, none⟩ (.slice uoC MR.units.length ucapC)) wB.heap.size 25 #[.slice loB PR.lib.length lcapB, .slice uoB PR.units.length ucapB] from
    ((Below.heap_setCell _ ⟨wA.heap.size, 1, none⟩ _ wB.heap.size (by simp; omega)).trans (Below.heap_setCell _ ⟨wA.heap.size, 0, none⟩ _ wB.heap.size (by simp; omega))).trans HTBC.out)
  have HD1 := Lib.hid (show ∀ k, k ≠ wA.heap.size → ((wC.setCell ⟨wA.heap.size, 0, none⟩ (.slice loC MR.lib.length lcapC)).setCell ⟨wA.heap.size, 1, none⟩ (.slice uoC MR.units.length ucapC)).heap[k]? = wC.heap[k]? from fun k hk =>
    (Below.heap_setCell _ ⟨wA.heap.size, 1, none⟩ _ k hk).trans (Below.heap_setCell _ ⟨wA.heap.size, 0, none⟩ _ k hk))
  have HD2 := Lib.hid (show Below w.heap.size wC ((wC.setCell ⟨wA.heap.size, 0, none⟩ (.slice loC MR.lib.length lcapC)).setCell ⟨wA.heap.size, 1, none⟩ (.slice uoC MR.units.length ucapC)) from ((Below.refl _ _).setCell (p := ⟨wA.heap.size, 0, none⟩) (by simp; omega) _).setCell (p := ⟨wA.heap.size, 1, none⟩) (by simp; omega) _)
  have HRC := Lib.hid hrC
  have ca0 := HTAC.out.cell (i := 0) rfl
  have ca1 := HTAC.out.cell (i := 1) rfl
  have ga0 := HTAC.out.frozen 0
  have ga1 := HTAC.out.frozen 1
  have hlaC := HTAC.out.lt
  have h8C := hb.size
  clear hb hrC hshC K5 HB8 HTA8 HTB8 p0 p1 hz8 HTBC
  go_upto_region 10 with fail
  obtain ⟨wD, hwD⟩ : ∃ wD : World, wD = (wC.setCell ⟨wA.heap.size, 0, none⟩ (.slice loC MR.lib.length lcapC)).setCell ⟨wA.heap.size, 1, none⟩ (.slice uoC MR.units.length ucapC) := ⟨_, rfl⟩
  rw [← hwD] at HTAD HBD HTBD HD1 HD2 ⊢
  clear hwD ca0 ca1 ga0 ga1 hlaC HTAC HBC
  have p0 := HBD.out.par.cell (i := 0) rfl
  have p1 := HBD.out.par.cell (i := 1) rfl
  have hzD : w.heap.size < wD.heap.size := HBD.out.size
  have K6 := Lib.hid (K6.out _ HBD.out.bel)
  have hlaD := HTAD.out.lt
  have hlbD := HTBD.out.lt
  go_wp2_with fail
  refine K6.out.mono ?_
  rintro e wE ⟨lvE, uvE, rfl, hrE, hb⟩
  have hshE := hrE.at
  obtain ⟨loE, lcapE, uoE, ucapE, rfl, rfl⟩ := rig_shape hshE
  have HBE := Lib.hid (HBD.out.next hb)
  have HTAE := Lib.hid (HTAD.out.below hb)
  have HTBE := Lib.hid (HTBD.out.below hb)
  have HTBF := Lib.hid ((HTBE.out.set 0 (.slice loE MR.lib.length lcapE)).set 1 (.slice uoE MR.units.length ucapE))
  simp only [List.setIfInBounds_toArray, List.set_cons_succ, List.set_cons_zero] at HTBF
  have HBF := Lib.hid ((HBE.out.set (b := wB.heap.size) (by omega) 0 (.slice loE MR.lib.length lcapE)).set (b := wB.heap.size) (by omega) 1 (.slice uoE MR.units.length ucapE))
  have hne : ∀ k, k ≠ wB.heap.size → ((wE.setCell ⟨wB.heap.size, 0, none⟩ (.slice loE MR.lib.length lcapE)).setCell ⟨wB.heap.size, 1, none⟩ (.slice uoE MR.units.length ucapE)).heap[k]? = wE.heap[k]? := fun k hk =>
    (Below.heap_setCell _ ⟨wB.heap.size, 1, none⟩ _ k hk).trans (Below.heap_setCell _ ⟨wB.heap.size, 0, none⟩ _ k hk)
  have HTAF := Lib.hid (show TBox ((wE.setCell ⟨wB.heap.size, 0, none⟩ (.slice loE MR.lib.length lcapE)).setCell ⟨wB.heap.size, 1, none⟩ (.slice uoE MR.units.length ucapE)) wA.heap.size 25 #[.slice loC MR.lib.length lcapC, .slice uoC MR.units.length ucapC] from (hne _ (by omega)).trans HTAE.out)
  have hbf : Below w.heap.size wE ((wE.setCell ⟨wB.heap.size, 0, none⟩ (.slice loE MR.lib.length lcapE)).setCell ⟨wB.heap.size, 1, none⟩ (.slice uoE MR.units.length ucapE)) := ((Below.refl _ _).setCell (p := ⟨wB.heap.size, 0, none⟩) (by simp; omega) _).setCell (p := ⟨wB.heap.size, 1, none⟩) (by simp; omega) _
  have hsD := HD2.out.size
  have HRE2 := hrE _ hbf (fun k h1 h2 => hne k (by omega))
  have HRC2 := HRC.out _ ((HD2.out.trans (hb.mono (by omega))).trans hbf) (fun k h1 h2 => (hne k (by omega)).trans ((hb.block k (by omega)).trans (HD1.out k (by omega))))
  have KS := Lib.hid (sameRig_any MR _ _ _ _ _ HRC2 HRE2)
  unfold rigV at KS
  have cb0 := HTBE.out.cell (i := 0) rfl
  have cb1 := HTBE.out.cell (i := 1) rfl
  have gb0 := HTBE.out.frozen 0
  have gb1 := HTBE.out.frozen 1
  have hlbE := HTBE.out.lt
  clear hb hrE hshE hne hbf HRE2 HRC2 K6 HBD HTAD HTBD HTAE HD1 HD2 HRC p0 p1 hzD hlaD hlbD
  go_upto_region 11 with fail
  obtain ⟨wF, hwF⟩ : ∃ wF : World, wF = (wE.setCell ⟨wB.heap.size, 0, none⟩ (.slice loE MR.lib.length lcapE)).setCell ⟨wB.heap.size, 1, none⟩ (.slice uoE MR.units.length ucapE) := ⟨_, rfl⟩
  rw [← hwF] at HTBF HBF HTAF KS ⊢
  clear hwF cb0 cb1 gb0 gb1 hlbE HTBE HBE
  have ta0 := HTAF.out.cell (i := 0) rfl
  have ta1 := HTAF.out.cell (i := 1) rfl
  have tb0 := HTBF.out.cell (i := 0) rfl
  have tb1 := HTBF.out.cell (i := 1) rfl
  have hla := HTAF.out.lt
  have hlb := HTBF.out.lt
  go_wp2_with fail
  refine KS.out.mono ?_
  rintro e wG ⟨rfl, hb⟩
  have HBG := Lib.hid (HBF.out.next hb).bel
  clear hb KS HBF HTAF HTBF
  go_wp2_with fail
  go_ret
  exact ⟨by simp, HBG.out⟩
end Go.Proofs.Ytabalicembhjmaa.fixturePlacesMatchSpec
