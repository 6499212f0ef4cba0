/- The walk of cycloramalaw2.FixturePatchesComeBack. (printed by wip/gen/gen_patchwalk.py) -/
import Derived.Test.YtppbagllhmeenaaGreatDoorT64M23
import Derived.Test.YtppbagllhmeenaaGreatDoorT64M35
import Derived.Test.YtppbagllhmeenaaGreatDoorT64M37
import Derived.Test.YtppbagllhmeenaaGreatDoorT64M43

namespace Go.Proofs.YtppbagllhmeenaaGreatDoor.fixturePatchesComeBack
open Go.RowKit
set_option linter.unusedVariables false
set_option linter.unusedSimpArgs false

set_option maxRecDepth 100000 in
set_option maxHeartbeats 16000000 in
theorem walk (a0 : Value) (s : ByteArray) (w : World) (w0 : RigW w a0) (w1 : s.size ≤ maxLen) (hT : TextW w) :
    Calls Tryz.prog 4 #[a0, .string s] w fun e w' => e = .returned (.bool true) ∧ Below w.heap.size w w' := by
  obtain ⟨x, lv, uv, rfl, hx, hf⟩ := w0
  have hs : s.size ≤ 9223372036854775807 := by unfold maxLen at w1; omega
  have HF := Lib.hid hf
  have HT := Lib.hid hT
  have K1 := Lib.hid (fun W (hb : Below w.heap.size w W) => patchText_any x lv uv W (hT.below hb) ((hx.below hb).more hb.size) hf)
  have KR := Lib.hid (fun (t : ByteArray) (ht : t.size ≤ 9223372036854775807) W (hb : Below w.heap.size w W) => readPatch_any x.lib lv t W (hT.below hb) ht ((hx.lib.below hb).more hb.size) hf.1)
  have KS := Lib.hid (fun lv2 uv2 W (hb : Below w.heap.size w W) (h2 : RigAt W.heap.size W x lv2 uv2) => sameRig_any x lv2 uv2 lv uv W h2 ((hx.below hb).more hb.size))
  have HC := Lib.hid (rp_cases x.lib s)
  have HBK := Lib.hid (fun (h : chkRig x = 0) => patch_back h hf.2)
  have HLE := Lib.hid (fun (h : chkRig x = 0) => show (patchB x.units).size ≤ 9223372036854775807 by
    have := patchB_le h hf.2 x.units.length (Nat.le_refl _)
    rw [List.take_length] at this
    have := (chkRig_zero h).2.1
    omega)
  unfold RpPost at KR
  obtain ⟨lo, lcap, uo, ucap, rfl, rfl⟩ := rig_shape hx
  unfold rigV at *
  have HB0 := Lib.hid (RBox.start w (.slice lo x.lib.length lcap) (.slice uo x.units.length ucap))
  have C1 := Lib.hid (K1.out _ HB0.out.bel)
  clear K1 hx hf hT w1
  by_cases hE : chkRig x = 0
  · rw [patchT_ok hE, hE] at C1
    have KR1 := Lib.hid (KR.out (patchB x.units) (HLE.out hE))
    rw [HBK.out hE] at KR1
    simp only at KR1
    generalize patchB x.units = bt1 at *
    clear HBK HLE hE
    go_enter Tryz.func4, Tryz.ntmps4
    go_wp2_with fail
    refine C1.out.mono ?_
    rintro e w1 ⟨rfl, hb⟩
    have HB1 := Lib.hid (HB0.out.next hb)
    clear hb C1 HB0
    have p0 := HB1.out.par.cell (i := 0) rfl
    have p1 := HB1.out.par.cell (i := 1) rfl
    have hp1 := HB1.out.size
    have CR1 := Lib.hid (KR1.out _ HB1.out.bel)
    clear KR1
    go_wp2_with fail
    refine CR1.out.mono ?_
    rintro e w2 ⟨lv2, uv2, rfl, hr, hb⟩
    have HRA := Lib.hid hr
    obtain ⟨lo2, lc2, uo2, uc2, rfl, rfl⟩ := rig_shape hr
    have HB2 := Lib.hid (HB1.out.next hb)
    clear hb hr p0 p1 hp1 HB1 CR1
    have hA1 := (Below.refl w2.heap.size w2).alloc (Nat.le_refl _) (.cells #[.slice lo2 x.lib.length lc2, .slice uo2 x.units.length uc2] 25)
    have HB3 := Lib.hid (HB2.out.next hA1)
    have HRB := Lib.hid ((HRA.out.below hA1).more hA1.size)
    have TB := TBox.new w2 #[.slice lo2 x.lib.length lc2, .slice uo2 x.units.length uc2] 25
    clear hA1 HRA
    go_upto_region 4 with fail
    obtain ⟨w3, hw3⟩ : ∃ w3 : World, w3 = w2.alloc (.cells #[.slice lo2 x.lib.length lc2, .slice uo2 x.units.length uc2] 25) := ⟨_, rfl⟩
    rw [← hw3] at TB HB3 HRB ⊢
    clear hw3
    have p0 := HB3.out.par.cell (i := 0) rfl
    have p1 := HB3.out.par.cell (i := 1) rfl
    have hp1 := HB3.out.size
    have q0 := TB.cell (i := 0) rfl
    have q1 := TB.cell (i := 1) rfl
    have CS := Lib.hid (KS.out _ _ _ HB3.out.bel HRB.out)
    clear KS HRB TB HB2
    go_upto_if 36 with (first
      | (go_at_call 9; (refine CS.out.mono ?_); rintro e w4 ⟨rfl, hb⟩; have HB4 := Lib.hid (HB3.out.next hb); clear hb)
      | fail)
    clear p0 p1 hp1 q0 q1 HB3 CS
    have p0 := HB4.out.par.cell (i := 0) rfl
    have p1 := HB4.out.par.cell (i := 1) rfl
    have hps := HB4.out.size
    have C6 := Lib.hid (KR.out s hs _ HB4.out.bel)
    rcases HC.out with ⟨hne, hno⟩ | ⟨he, _, hch, hpt, hlu⟩
    · rw [hno] at C6
      generalize rpX x.lib s = rp at *
      obtain ⟨f, ln, rr⟩ := rp
      simp only at hne C6
      have hf1 : (f != 0) = true := by simpa using hne
      have hf2 : (f == 0) = false := by simpa using hne
      clear HC hno hne
      go_wp2_with fail
      refine C6.out.mono ?_
      rintro e wA ⟨lv2, uv2, rfl, hr, hb⟩
      obtain ⟨lo2, lc2, uo2, uc2, rfl, rfl⟩ := rig_shape hr
      have HBA := Lib.hid (HB4.out.next hb)
      clear hb hr
      have HZ := Lib.hid (HBA.out.bel.alloc HBA.out.bel.size (.cells #[.slice lo2 noRigP.lib.length lc2, .slice uo2 noRigP.units.length uc2] 25))
      have TB := TBox.new wA #[.slice lo2 noRigP.lib.length lc2, .slice uo2 noRigP.units.length uc2] 25
      go_wp2_with fail
      exact bodyPost_ret (v := .bool true) (by simp [results, Tryz.results4, go_sem, noRigP]) rfl ⟨rfl, HZ.out⟩
    · rw [he] at C6
      have HFR := Lib.hid (show RigFit (rpR x.lib s) from ⟨HF.out.1, fun u hu => by
        obtain ⟨y, hy, rfl⟩ := List.mem_map.1 hu
        have := linesL_size s y hy
        exact unt_fit (hlu y hy) (by omega)⟩)
      have KP := Lib.hid (fun lv2 uv2 W (hb : Below w.heap.size w W) (h : RigAt W.heap.size W (rpR x.lib s) lv2 uv2) => patchText_any (rpR x.lib s) lv2 uv2 W (HT.out.below hb) h HFR.out)
      rw [patchT_ok hch, hpt, hch] at KP
      clear HC hpt hch hlu HFR he
      generalize rpR x.lib s = rr at *
      simp only at C6
      go_wp2_with fail
      refine C6.out.mono ?_
      rintro e wA ⟨lv2, uv2, rfl, hr, hb⟩
      have HRA := Lib.hid hr
      obtain ⟨lo2, lc2, uo2, uc2, rfl, rfl⟩ := rig_shape hr
      have HBA := Lib.hid (HB4.out.next hb)
      clear hb hr
      unfold rigV at KP
      have HZ := Lib.hid (HBA.out.bel.alloc HBA.out.bel.size (.cells #[.slice lo2 rr.lib.length lc2, .slice uo2 rr.units.length uc2] 25))
      have TB := TBox.new wA #[.slice lo2 rr.lib.length lc2, .slice uo2 rr.units.length uc2] 25
      have hA1 := (Below.refl wA.heap.size wA).alloc (Nat.le_refl _) (.cells #[.slice lo2 rr.lib.length lc2, .slice uo2 rr.units.length uc2] 25)
      have C9 := Lib.hid (KP.out _ _ _ HZ.out ((HRA.out.below hA1).more hA1.size))
      clear hA1 HRA
      go_wp2_with fail
      refine C9.out.mono ?_
      rintro e wB ⟨rfl, hb⟩
      have HZ2 := Lib.hid (bt HZ.out hb)
      clear hb
      go_upto_region 10 with fail
      go_wp2_with fail
      exact bodyPost_ret (v := .bool true) (by simp [results, Tryz.results4, go_sem]) rfl ⟨rfl, HZ2.out⟩

  · have he2 : (chkRig x == 0) = false := by simpa using hE
    rw [patchT_bad hE] at C1
    clear HBK HLE KS
    generalize chkRig x = cx at *
    go_enter Tryz.func4, Tryz.ntmps4
    go_wp2_with fail
    refine C1.out.mono ?_
    rintro e w1 ⟨rfl, hb⟩
    have HB1 := Lib.hid (HB0.out.next hb)
    clear hb C1 HB0
    have p0 := HB1.out.par.cell (i := 0) rfl
    have p1 := HB1.out.par.cell (i := 1) rfl
    have hps := HB1.out.size
    have C6 := Lib.hid (KR.out s hs _ HB1.out.bel)
    rcases HC.out with ⟨hne, hno⟩ | ⟨he, _, hch, hpt, hlu⟩
    · rw [hno] at C6
      generalize rpX x.lib s = rp at *
      obtain ⟨f, ln, rr⟩ := rp
      simp only at hne C6
      have hf1 : (f != 0) = true := by simpa using hne
      have hf2 : (f == 0) = false := by simpa using hne
      clear HC hno hne
      go_wp2_with fail
      refine C6.out.mono ?_
      rintro e wA ⟨lv2, uv2, rfl, hr, hb⟩
      obtain ⟨lo2, lc2, uo2, uc2, rfl, rfl⟩ := rig_shape hr
      have HBA := Lib.hid (HB1.out.next hb)
      clear hb hr
      have HZ := Lib.hid (HBA.out.bel.alloc HBA.out.bel.size (.cells #[.slice lo2 noRigP.lib.length lc2, .slice uo2 noRigP.units.length uc2] 25))
      have TB := TBox.new wA #[.slice lo2 noRigP.lib.length lc2, .slice uo2 noRigP.units.length uc2] 25
      go_wp2_with fail
      exact bodyPost_ret (v := .bool true) (by simp [results, Tryz.results4, go_sem, noRigP]) rfl ⟨rfl, HZ.out⟩
    · rw [he] at C6
      have HFR := Lib.hid (show RigFit (rpR x.lib s) from ⟨HF.out.1, fun u hu => by
        obtain ⟨y, hy, rfl⟩ := List.mem_map.1 hu
        have := linesL_size s y hy
        exact unt_fit (hlu y hy) (by omega)⟩)
      have KP := Lib.hid (fun lv2 uv2 W (hb : Below w.heap.size w W) (h : RigAt W.heap.size W (rpR x.lib s) lv2 uv2) => patchText_any (rpR x.lib s) lv2 uv2 W (HT.out.below hb) h HFR.out)
      rw [patchT_ok hch, hpt, hch] at KP
      clear HC hpt hch hlu HFR he
      generalize rpR x.lib s = rr at *
      simp only at C6
      go_wp2_with fail
      refine C6.out.mono ?_
      rintro e wA ⟨lv2, uv2, rfl, hr, hb⟩
      have HRA := Lib.hid hr
      obtain ⟨lo2, lc2, uo2, uc2, rfl, rfl⟩ := rig_shape hr
      have HBA := Lib.hid (HB1.out.next hb)
      clear hb hr
      unfold rigV at KP
      have HZ := Lib.hid (HBA.out.bel.alloc HBA.out.bel.size (.cells #[.slice lo2 rr.lib.length lc2, .slice uo2 rr.units.length uc2] 25))
      have TB := TBox.new wA #[.slice lo2 rr.lib.length lc2, .slice uo2 rr.units.length uc2] 25
      have hA1 := (Below.refl wA.heap.size wA).alloc (Nat.le_refl _) (.cells #[.slice lo2 rr.lib.length lc2, .slice uo2 rr.units.length uc2] 25)
      have C9 := Lib.hid (KP.out _ _ _ HZ.out ((HRA.out.below hA1).more hA1.size))
      clear hA1 HRA
      go_wp2_with fail
      refine C9.out.mono ?_
      rintro e wB ⟨rfl, hb⟩
      have HZ2 := Lib.hid (bt HZ.out hb)
      clear hb
      go_upto_region 10 with fail
      go_wp2_with fail
      exact bodyPost_ret (v := .bool true) (by simp [results, Tryz.results4, go_sem]) rfl ⟨rfl, HZ2.out⟩

end Go.Proofs.YtppbagllhmeenaaGreatDoor.fixturePatchesComeBack
