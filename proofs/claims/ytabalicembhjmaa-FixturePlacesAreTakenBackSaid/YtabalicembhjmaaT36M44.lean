/- The walk of cycloramalaw2.FixturePlacesAreTakenBack. (printed by wip/gen/gen_placewalk.py) -/
import Derived.Test.YtabalicembhjmaaT36M40
import Derived.Test.YtabalicembhjmaaT36M41
import Derived.Test.YtabalicembhjmaaT36M43

namespace Go.Proofs.Ytabalicembhjmaa.fixturePlacesAreTakenBack
open Go.RowKit
set_option linter.unusedVariables false
set_option linter.unusedSimpArgs false

set_option maxRecDepth 100000 in
set_option maxHeartbeats 16000000 in
theorem walk (a0 : Value) (a1 : ByteArray) (a2 : Int) (w : World) (w0 : RigW w a0) (w1 : a1.size ≤ maxLen) (w2 : (Lit.int .i64 a2).wf = true) :
    Calls Try.prog 7 #[a0, .string a1, .int .i64 a2] w fun e w' => e = .returned (.bool true) ∧ Below w.heap.size w w' := by
  obtain ⟨x, lv, uv, rfl, hx, hf⟩ := w0
  have hn : I64 a2 := i64_of_wf w2
  have CP := Lib.hid (fun W (hb : Below w.heap.size w W) => place_any x lv uv a1 a2 W ((hx.below hb).more hb.size) hf hn)
  have HXA := Lib.hid hx
  have HPR := Lib.hid (fun (h : placeF x a1 a2 = 0) => place_right h)
  have HTB := Lib.hid (fun (h : placeF x a1 a2 = 0) => taken_back h)
  have HPF := Lib.hid (fun (h : placeF x a1 a2 = 0) => place_fit hf w1 h)
  have HPB := Lib.hid (fun (h : ¬ placeF x a1 a2 = 0) => placeR_bad h)
  obtain ⟨lo, lcap, uo, ucap, rfl, rfl⟩ := rig_shape hx
  clear hx hf w1 w2
  unfold rigV at *
  generalize placeF x a1 a2 = FF at *
  generalize placeR x a1 a2 = RR at *
  have HB0 := Lib.hid (RBox.start w (.slice lo x.lib.length lcap) (.slice uo x.units.length ucap))
  have C1 := Lib.hid (CP.out _ HB0.out.bel)
  clear CP
  go_enter Try.func7, Try.ntmps7
  go_wp2_with fail
  refine C1.out.mono ?_
  rintro e w3 ⟨lv1, uv1, rfl, hr, hb⟩
  have HB1 := Lib.hid (HB0.out.next hb)
  obtain ⟨lo1, lcap1, uo1, ucap1, rfl, rfl⟩ := rig_shape hr
  have ha := (Below.refl w3.heap.size w3).alloc (Nat.le_refl _) (.cells #[.slice lo1 RR.lib.length lcap1, .slice uo1 RR.units.length ucap1] 25)
  have HB2 := Lib.hid (HB1.out.next ha)
  have HR2 := Lib.hid (show RigAt w3.heap.size (w3.alloc (.cells #[.slice lo1 RR.lib.length lcap1, .slice uo1 RR.units.length ucap1] 25)) RR (.slice lo1 RR.lib.length lcap1) (.slice uo1 RR.units.length ucap1) from hr.below ha)
  have HT2 := Lib.hid (TBox.new w3 #[.slice lo1 RR.lib.length lcap1, .slice uo1 RR.units.length ucap1] 25)
  have hz3 := HB1.out.size
  clear hb hr C1 HB0 HB1 ha
  go_upto_region 2 with fail
  obtain ⟨w4, hw4⟩ : ∃ w4 : World, w4 = w3.alloc (.cells #[.slice lo1 RR.lib.length lcap1, .slice uo1 RR.units.length ucap1] 25) := ⟨_, rfl⟩
  rw [← hw4] at HB2 HR2 HT2 ⊢
  clear hw4
  have t0 := HT2.out.cell (i := 0) rfl
  have t1 := HT2.out.cell (i := 1) rfl
  have ht := HT2.out.lt
  by_cases hE : FF = 0
  rotate_left
  · have HV := Lib.hid (show RR.units.length = 0 by rw [HPB.out hE]; rfl)
    have hl0 : ((RR.units.length : Int) == 0) = true := by rw [HV.out]; rfl
    have HBB := Lib.hid HB2.out.bel
    clear HR2 HT2 HB2 HPR HTB HPF HPB HXA
    go_wp2_with fail
    go_ret
    exact ⟨by first | rfl | (rw [HV.out]; rfl), HBB.out⟩
  have hck := HPR.out hE
  obtain ⟨hrf, hrr, hln⟩ := HTB.out hE
  have hft := HPF.out hE
  have C2 := Lib.hid (ckRig_any RR _ _ w4 (HR2.out.more (by omega)) hft)
  rw [hck] at C2
  subst hE
  have HX := Lib.hid hft
  have HRR := Lib.hid hrr
  have HRF := Lib.hid hrf
  have HLU := Lib.hid (show (RR.units.length : Int) = (x.units.length : Int) + 1 by omega)
  clear hln HPR HTB HPF HPB hft hrr hrf hck
  go_upto_region 4 with fail
  go_cut [35] (fun s wx => s = .bool false ∧ Below w4.heap.size w4 wx)
  case first =>
    have KP := Lib.hid (show ∀ W, Below w4.heap.size w4 W → (W.cell? ⟨w3.heap.size, 0, none⟩ = some (.slice lo1 RR.lib.length lcap1) ∧ W.cell? ⟨w3.heap.size, 1, none⟩ = some (.slice uo1 RR.units.length ucap1) ∧ W.cell? ⟨w.heap.size, 1, none⟩ = some (.slice uo x.units.length ucap)) from fun W hW => ⟨(HT2.out.below hW).cell (i := 0) rfl, (HT2.out.below hW).cell (i := 1) rfl, (HB2.out.next hW).par.cell (i := 1) rfl⟩)
    go_wp2_with fail
    refine C2.out.mono ?_
    rintro e w5 ⟨rfl, hb⟩
    obtain ⟨k0, k1, k2⟩ := KP.out _ hb
    have hz5 := hb.size
    have HBB := Lib.hid hb
    have hm := CellsS.len HR2.out.units
    unfold maxLen at hm
    have hlu := HLU.out
    clear hb C2 HR2 HT2 HB2 t0 t1
    generalize RR.units.length = rl at *
    generalize x.units.length = xl at *
    obtain rfl : rl = xl + 1 := by omega
    clear hlu HLU
    go_wp2_with fail
    all_goals go_meet
    all_goals exact ⟨by first | rfl | (simp; done) | (simp; omega), HBB.out⟩
  case rest =>
    obtain ⟨rfl, hbc⟩ := hcut
    have HBC := Lib.hid (HB2.out.next hbc)
    have HTC := Lib.hid (HT2.out.below hbc)
    have HRC := Lib.hid ((HR2.out.below (hbc.mono (by omega))).more (show w3.heap.size ≤ wc.heap.size by have := hbc.size; omega))
    have t0 := HTC.out.cell (i := 0) rfl
    have t1 := HTC.out.cell (i := 1) rfl
    have htc := HTC.out.lt
    have C3 := Lib.hid (remove_any RR _ _ a2 wc HRC.out HX.out hn)
    rw [HRF.out] at C3
    unfold rigV at C3
    clear hbc HB2 HT2 HR2 C2
    go_wp2_with fail
    refine C3.out.mono ?_
    rintro e w6 ⟨lv2, uv2, rfl, hr, hb⟩
    rw [HRR.out] at hr
    obtain ⟨lo2, lcap2, uo2, ucap2, rfl, rfl⟩ := rig_shape hr
    have HB6 := Lib.hid (HBC.out.next hb)
    have ha := (Below.refl w6.heap.size w6).alloc (Nat.le_refl _) (.cells #[.slice lo2 x.lib.length lcap2, .slice uo2 x.units.length ucap2] 25)
    have HB7 := Lib.hid (HB6.out.next ha)
    have hx7 := HXA.out.below HB7.out.bel
    have CS := Lib.hid (sameRig_any x _ _ _ _ _ ((hr.below ha).more ha.size) (hx7.more HB7.out.bel.size))
    unfold rigV at CS
    have p0 := HB6.out.par.cell (i := 0) rfl
    have p1 := HB6.out.par.cell (i := 1) rfl
    have hz6 : w.heap.size < w6.heap.size := HB6.out.size
    clear hb hr ha hx7 C3 HBC HTC HRC t0 t1 HB6
    go_wp2_with fail
    refine CS.out.mono ?_
    rintro e w8 ⟨rfl, hb⟩
    have HBB := Lib.hid (HB7.out.next hb).bel
    clear hb CS HB7
    go_wp2_with fail
    go_ret
    exact ⟨by simp, HBB.out⟩
end Go.Proofs.Ytabalicembhjmaa.fixturePlacesAreTakenBack
