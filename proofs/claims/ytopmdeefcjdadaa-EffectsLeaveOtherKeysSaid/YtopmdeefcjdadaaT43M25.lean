/- effect.way of the form triangle. (printed by wip/gen/gen_wayfn.py) -/
import Derived.Test.YtopmdeefcjdadaaT43M24
import Derived.Test.YtopmdeefcjdadaaT43M17

namespace Go.Proofs.Ytopmdeefcjdadaa
open Go.RowKit
set_option linter.unusedVariables false
set_option linter.unusedSimpArgs false

theorem nilA_1 (W : World) : Sem.run Try.prog (nilAhead (Try.prog.types.size + Made.depth) 153 (.agg #[]) "cyclorama/effect.way") W = .ok (some false) W := by kernel_rfl
theorem meth_1 (W : World) : Sem.run Try.prog (method (Try.prog.types.size + Made.depth) 153 (.agg #[]) "cyclorama/effect.way") W = .ok (148, .agg #[]) W := by kernel_rfl
set_option maxRecDepth 100000 in
set_option maxHeartbeats 8000000 in
theorem way_1 (low high cycle width spread : Int) (back rel : Bool) (ao : Option Addr) (cap : Nat) (l : List Stp) (index count clock c pn pd pk : Int) (w : World) (hs : StepsAt w.heap.size w ao l) (hl : l.length ≤ 50) (hall : l.all stpB = true) (hc : 0 ≤ cycle ∧ cycle ≤ 3600000)
    (hcc : cycle + sumS l = c) (c0 : 1 ≤ c) (c1 : c ≤ 3600000) (n0 : 1 ≤ count) (n1 : count ≤ 400) (i0 : 0 ≤ index) (i1 : index ≤ 400) (k0 : 0 ≤ clock) (k1 : clock ≤ 36360000000) (s0 : -10000 ≤ spread) (s1 : spread ≤ 10000) 
    (hpn : whN back (whY c spread index count clock) (whD c count) = pn) (hpd : whD c count = pd) (hpk : whY c spread index count clock / whD c count = pk) :
    Calls Try.prog 44 #[.agg #[.int .i64 1, .int .i64 low, .int .i64 high, .int .i64 cycle, .int .i64 width, .int .i64 spread, .bool back, .bool rel, .slice ao l.length cap], .int .i64 index, .int .i64 count, .int .i64 clock] w fun e w' => e = .returned (.tuple #[.agg #[.int .u64 (hw 0 (peakV pn pd)), .int .u64 (hw 1 (peakV pn pd)), .int .u64 (hw 2 (peakV pn pd)), .int .u64 (hw 3 (peakV pn pd)), .int .u64 (hw 4 (peakV pn pd)), .int .u64 (hw 5 (peakV pn pd))], .agg #[.int .u64 (hw 0 pd), .int .u64 (hw 1 pd), .int .u64 (hw 2 pd), .int .u64 (hw 3 pd), .int .u64 (hw 4 pd), .int .u64 (hw 5 pd)]]) ∧ Below w.heap.size w w' := by
  obtain ⟨hpd0, hpd2⟩ := whD_range c0 c1 n0 n1
  have hpr := whN_range back (whY c spread index count clock) (d := whD c count) (by omega)
  have CW := Lib.hid (fun (W : World) (hb : Below w.heap.size w W) => where_any 1 low high cycle width spread back rel ao cap l index count clock c W (stepsAt_up hs hb) hl hall hc hcc c0 c1 n0 n1 i0 i1 k0 k1 s0 s1)
  rw [hpn, hpk, hpd] at CW
  rw [hpn, hpd] at hpr
  rw [hpd] at hpd0 hpd2
  obtain ⟨hpn0, hpn1⟩ := hpr
  have hpd1 : pd ≤ 1000000000000000000 := by omega
  have hpd9 : pd ≤ 1000000000000000 := by omega
  have hc00 : 0 ≤ c := by omega
  have hc9 : c ≤ 3600000 := c1
  have HS := Lib.hid (fun (W : World) (hb : Below w.heap.size w W) => stepsAt_up hs hb)
  clear hpn hpk hpd hs
  have HT := Lib.hid (show TBox (((w.alloc (.cells #[.int .i64 1, .int .i64 low, .int .i64 high, .int .i64 cycle, .int .i64 width, .int .i64 spread, .bool back, .bool rel, .slice ao l.length cap] 24)).alloc (.cells #[.int .u64 0, .int .u64 0, .int .u64 0, .int .u64 0, .int .u64 0, .int .u64 0] 77)).alloc (.cells #[.int .u64 0, .int .u64 0, .int .u64 0, .int .u64 0, .int .u64 0, .int .u64 0] 77)) w.heap.size 24 #[.int .i64 1, .int .i64 low, .int .i64 high, .int .i64 cycle, .int .i64 width, .int .i64 spread, .bool back, .bool rel, .slice ao l.length cap] from ((TBox.new w _ _).alloc _).alloc _)
  have HT2 := Lib.hid (show TBox (((w.alloc (.cells #[.int .i64 1, .int .i64 low, .int .i64 high, .int .i64 cycle, .int .i64 width, .int .i64 spread, .bool back, .bool rel, .slice ao l.length cap] 24)).alloc (.cells #[.int .u64 0, .int .u64 0, .int .u64 0, .int .u64 0, .int .u64 0, .int .u64 0] 77)).alloc (.cells #[.int .u64 0, .int .u64 0, .int .u64 0, .int .u64 0, .int .u64 0, .int .u64 0] 77)) (w.heap.size + 1) 77 #[.int .u64 0, .int .u64 0, .int .u64 0, .int .u64 0, .int .u64 0, .int .u64 0] from by
    have h := (TBox.new (w.alloc (.cells #[.int .i64 1, .int .i64 low, .int .i64 high, .int .i64 cycle, .int .i64 width, .int .i64 spread, .bool back, .bool rel, .slice ao l.length cap] 24)) #[.int .u64 0, .int .u64 0, .int .u64 0, .int .u64 0, .int .u64 0, .int .u64 0] 77).alloc (.cells #[.int .u64 0, .int .u64 0, .int .u64 0, .int .u64 0, .int .u64 0, .int .u64 0] 77)
    simpa only [World.size_alloc] using h)
  have HT3 := Lib.hid (show TBox (((w.alloc (.cells #[.int .i64 1, .int .i64 low, .int .i64 high, .int .i64 cycle, .int .i64 width, .int .i64 spread, .bool back, .bool rel, .slice ao l.length cap] 24)).alloc (.cells #[.int .u64 0, .int .u64 0, .int .u64 0, .int .u64 0, .int .u64 0, .int .u64 0] 77)).alloc (.cells #[.int .u64 0, .int .u64 0, .int .u64 0, .int .u64 0, .int .u64 0, .int .u64 0] 77)) (w.heap.size + 2) 77 #[.int .u64 0, .int .u64 0, .int .u64 0, .int .u64 0, .int .u64 0, .int .u64 0] from by
    have h := TBox.new ((w.alloc (.cells #[.int .i64 1, .int .i64 low, .int .i64 high, .int .i64 cycle, .int .i64 width, .int .i64 spread, .bool back, .bool rel, .slice ao l.length cap] 24)).alloc (.cells #[.int .u64 0, .int .u64 0, .int .u64 0, .int .u64 0, .int .u64 0, .int .u64 0] 77)) #[.int .u64 0, .int .u64 0, .int .u64 0, .int .u64 0, .int .u64 0, .int .u64 0] 77
    simpa only [World.size_alloc] using h)
  have HB := Lib.hid (show Below w.heap.size w (((w.alloc (.cells #[.int .i64 1, .int .i64 low, .int .i64 high, .int .i64 cycle, .int .i64 width, .int .i64 spread, .bool back, .bool rel, .slice ao l.length cap] 24)).alloc (.cells #[.int .u64 0, .int .u64 0, .int .u64 0, .int .u64 0, .int .u64 0, .int .u64 0] 77)).alloc (.cells #[.int .u64 0, .int .u64 0, .int .u64 0, .int .u64 0, .int .u64 0, .int .u64 0] 77)) from (((Below.refl _ _).alloc (Nat.le_refl _) _).alloc (by simp) _).alloc (by simp; omega) _)
  have hzB : w.heap.size ≤ ((((w.alloc (.cells #[.int .i64 1, .int .i64 low, .int .i64 high, .int .i64 cycle, .int .i64 width, .int .i64 spread, .bool back, .bool rel, .slice ao l.length cap] 24)).alloc (.cells #[.int .u64 0, .int .u64 0, .int .u64 0, .int .u64 0, .int .u64 0, .int .u64 0] 77)).alloc (.cells #[.int .u64 0, .int .u64 0, .int .u64 0, .int .u64 0, .int .u64 0, .int .u64 0] 77))).heap.size := HB.out.size
  go_enter Try.func44, Try.ntmps44
  go_upto_region 1 with fail
  generalize hw1 : (((w.alloc (.cells #[.int .i64 1, .int .i64 low, .int .i64 high, .int .i64 cycle, .int .i64 width, .int .i64 spread, .bool back, .bool rel, .slice ao l.length cap] 24)).alloc (.cells #[.int .u64 0, .int .u64 0, .int .u64 0, .int .u64 0, .int .u64 0, .int .u64 0] 77)).alloc (.cells #[.int .u64 0, .int .u64 0, .int .u64 0, .int .u64 0, .int .u64 0, .int .u64 0] 77)) = w1 at *
  clear hw1
  refine region_heads (by kernel_rfl) 13 (by simp) (by kernel_rfl) (by kernel_rfl) (by kernel_rfl) (by kernel_rfl) (fun jx vx wx => match jx with | 0 => vx = (.agg #[.int .i64 1, .int .i64 low, .int .i64 high, .int .i64 cycle, .int .i64 width, .int .i64 spread, .bool back, .bool rel, .slice ao l.length cap]) | 1 => vx = (.iface 153 (.agg #[])) | 2 => vx = (.agg #[.int .i64 1, .int .i64 low, .int .i64 high, .int .i64 cycle, .int .i64 width, .int .i64 spread, .bool back, .bool rel, .slice ao l.length cap]) | 3 => vx = (.int .i64 index) | 4 => vx = (.int .i64 count) | 5 => vx = (.int .i64 clock) | 6 => vx = (.agg #[.int .i64 pn, .int .i64 pd, .int .i64 pk, .int .i64 index]) | 7 => vx = (.func (.method "cyclorama/effect.way") #[.iface 153 (.agg #[])] #[]) | 8 => vx = (.func (.method "cyclorama/effect.way") #[.iface 153 (.agg #[])] #[]) | 9 => vx = (.iface 153 (.agg #[])) | 10 => vx = (.tuple #[.agg #[.int .u64 (hw 0 (peakV pn pd)), .int .u64 (hw 1 (peakV pn pd)), .int .u64 (hw 2 (peakV pn pd)), .int .u64 (hw 3 (peakV pn pd)), .int .u64 (hw 4 (peakV pn pd)), .int .u64 (hw 5 (peakV pn pd))], .agg #[.int .u64 (hw 0 pd), .int .u64 (hw 1 pd), .int .u64 (hw 2 pd), .int .u64 (hw 3 pd), .int .u64 (hw 4 pd), .int .u64 (hw 5 pd)]]) | 11 => vx = (.agg #[.int .u64 (hw 0 (peakV pn pd)), .int .u64 (hw 1 (peakV pn pd)), .int .u64 (hw 2 (peakV pn pd)), .int .u64 (hw 3 (peakV pn pd)), .int .u64 (hw 4 (peakV pn pd)), .int .u64 (hw 5 (peakV pn pd))]) | 12 => vx = (.agg #[.int .u64 (hw 0 pd), .int .u64 (hw 1 pd), .int .u64 (hw 2 pd), .int .u64 (hw 3 pd), .int .u64 (hw 4 pd), .int .u64 (hw 5 pd)]) | _ => True) (fun W => Below w1.heap.size w1 W) (fun wx wy => Below wx.heap.size wx wy) (Below.refl _ _).drew ?_ ?_ ?_ ?_
  · intro jx vx wx wy h g
    match jx, h with
    | 0, h => exact h
    | 1, h => exact h
    | 2, h => exact h
    | 3, h => exact h
    | 4, h => exact h
    | 5, h => exact h
    | 6, h => exact h
    | 7, h => exact h
    | 8, h => exact h
    | 9, h => exact h
    | 10, h => exact h
    | 11, h => exact h
    | 12, h => exact h
    | jx + 13, h => exact trivial
  · intro jx ox dx hj ho hd
    exact insN_of (by kernel_rfl) hj ho hd
  · intro ix ox ax W hi hio hsh hW hpre
    have hsz : w1.heap.size ≤ W.heap.size := hW.size
    have GA : ∀ ob, Below W.heap.size W (W.alloc ob) := fun ob => (Below.refl _ _).alloc (Nat.le_refl _) ob
    have WA : ∀ ob, Below w1.heap.size w1 (W.alloc ob) := fun ob => hW.alloc hsz ob
    have t1 : ax.tmps[1]?.getD undef = (.int .i64 index) := (Array.getD_eq_getD_getElem? ..).symm.trans ((hsh.2.2 1 (notN_of (by kernel_rfl))).trans rfl)
    have t2 : ax.tmps[2]?.getD undef = (.int .i64 count) := (Array.getD_eq_getD_getElem? ..).symm.trans ((hsh.2.2 2 (notN_of (by kernel_rfl))).trans rfl)
    have t3 : ax.tmps[3]?.getD undef = (.int .i64 clock) := (Array.getD_eq_getD_getElem? ..).symm.trans ((hsh.2.2 3 (notN_of (by kernel_rfl))).trans rfl)
    have t4 : ax.tmps[4]?.getD undef = (.pointer (some ⟨w.heap.size, 0, none⟩)) := (Array.getD_eq_getD_getElem? ..).symm.trans ((hsh.2.2 4 (notN_of (by kernel_rfl))).trans rfl)
    obtain ⟨q0, q1, q2, q3, q4, q5, q6, q7, q8⟩ : W.cell? ⟨w.heap.size, 0, none⟩ = some (.int .i64 1) ∧ W.cell? ⟨w.heap.size, 1, none⟩ = some (.int .i64 low) ∧ W.cell? ⟨w.heap.size, 2, none⟩ = some (.int .i64 high) ∧ W.cell? ⟨w.heap.size, 3, none⟩ = some (.int .i64 cycle) ∧ W.cell? ⟨w.heap.size, 4, none⟩ = some (.int .i64 width) ∧ W.cell? ⟨w.heap.size, 5, none⟩ = some (.int .i64 spread) ∧ W.cell? ⟨w.heap.size, 6, none⟩ = some (.bool back) ∧ W.cell? ⟨w.heap.size, 7, none⟩ = some (.bool rel) ∧ W.cell? ⟨w.heap.size, 8, none⟩ = some (.slice ao l.length cap) := ⟨(HT.out.below hW).cell (i := 0) rfl, (HT.out.below hW).cell (i := 1) rfl, (HT.out.below hW).cell (i := 2) rfl, (HT.out.below hW).cell (i := 3) rfl, (HT.out.below hW).cell (i := 4) rfl, (HT.out.below hW).cell (i := 5) rfl, (HT.out.below hW).cell (i := 6) rfl, (HT.out.below hW).cell (i := 7) rfl, (HT.out.below hW).cell (i := 8) rfl⟩
    have hna := nilA_1 W
    have hme := meth_1 W
    simp [go_sem] at hna hme
    clear hsh
    match ix, hi, hio with
    | 0, _, hio =>
      cases hio
      exact hwp_val (v := .agg #[.int .i64 1, .int .i64 low, .int .i64 high, .int .i64 cycle, .int .i64 width, .int .i64 spread, .bool back, .bool rel, .slice ao l.length cap]) (w' := W) (by simp [execOp, Act.eval, t4, q0, q1, q2, q3, q4, q5, q6, q7, q8, go_sem]) ⟨_, rfl, rfl, hW, Below.refl _ _⟩
    | 1, _, hio =>
      cases hio
      have p0 := hpre ⟨0, .data⟩ (by simp) (by rfl) _ _ rfl rfl
      have f0 : ax.tmps[10]?.getD undef = (.agg #[.int .i64 1, .int .i64 low, .int .i64 high, .int .i64 cycle, .int .i64 width, .int .i64 spread, .bool back, .bool rel, .slice ao l.length cap]) := (Array.getD_eq_getD_getElem? ..).symm.trans p0
      refine hwp_enter (f := 74) (args := #[.agg #[.int .i64 1, .int .i64 low, .int .i64 high, .int .i64 cycle, .int .i64 width, .int .i64 spread, .bool back, .bool rel, .slice ao l.length cap]]) (by simp [execOp, Act.eval, f0, go_sem]) ?_
      refine (waveOf_1 low high cycle width spread back rel ao cap l W).mono ?_
      rintro ex wy ⟨rfl, hb⟩
      exact ⟨_, rfl, _, rfl, rfl, hW.trans (hb.mono hsz), hb⟩
    | 2, _, hio =>
      cases hio
      exact hwp_val (v := .agg #[.int .i64 1, .int .i64 low, .int .i64 high, .int .i64 cycle, .int .i64 width, .int .i64 spread, .bool back, .bool rel, .slice ao l.length cap]) (w' := W) (by simp [execOp, Act.eval, t4, q0, q1, q2, q3, q4, q5, q6, q7, q8, go_sem]) ⟨_, rfl, rfl, hW, Below.refl _ _⟩
    | 3, _, hio =>
      cases hio
      exact hwp_val (v := .int .i64 index) (w' := W) (by simp [execOp, Act.eval, t1, go_sem]) ⟨_, rfl, rfl, hW, Below.refl _ _⟩
    | 4, _, hio =>
      cases hio
      exact hwp_val (v := .int .i64 count) (w' := W) (by simp [execOp, Act.eval, t2, go_sem]) ⟨_, rfl, rfl, hW, Below.refl _ _⟩
    | 5, _, hio =>
      cases hio
      exact hwp_val (v := .int .i64 clock) (w' := W) (by simp [execOp, Act.eval, t3, go_sem]) ⟨_, rfl, rfl, hW, Below.refl _ _⟩
    | 6, _, hio =>
      cases hio
      have p2 := hpre ⟨2, .data⟩ (by simp) (by rfl) _ _ rfl rfl
      have f2 : ax.tmps[12]?.getD undef = (.agg #[.int .i64 1, .int .i64 low, .int .i64 high, .int .i64 cycle, .int .i64 width, .int .i64 spread, .bool back, .bool rel, .slice ao l.length cap]) := (Array.getD_eq_getD_getElem? ..).symm.trans p2
      have p3 := hpre ⟨3, .data⟩ (by simp) (by rfl) _ _ rfl rfl
      have f3 : ax.tmps[13]?.getD undef = (.int .i64 index) := (Array.getD_eq_getD_getElem? ..).symm.trans p3
      have p4 := hpre ⟨4, .data⟩ (by simp) (by rfl) _ _ rfl rfl
      have f4 : ax.tmps[14]?.getD undef = (.int .i64 count) := (Array.getD_eq_getD_getElem? ..).symm.trans p4
      have p5 := hpre ⟨5, .data⟩ (by simp) (by rfl) _ _ rfl rfl
      have f5 : ax.tmps[15]?.getD undef = (.int .i64 clock) := (Array.getD_eq_getD_getElem? ..).symm.trans p5
      refine hwp_enter (f := 75) (args := #[.agg #[.int .i64 1, .int .i64 low, .int .i64 high, .int .i64 cycle, .int .i64 width, .int .i64 spread, .bool back, .bool rel, .slice ao l.length cap], .int .i64 index, .int .i64 count, .int .i64 clock]) (by simp [execOp, Act.eval, f2, f3, f4, f5, go_sem]) ?_
      refine (CW.out W (HB.out.trans (hW.mono hzB))).mono ?_
      rintro ex wy ⟨rfl, hb⟩
      exact ⟨_, rfl, _, rfl, rfl, hW.trans (hb.mono hsz), hb⟩
    | 7, _, hio =>
      cases hio
      have p1 := hpre ⟨1, .data⟩ (by simp) (by rfl) _ _ rfl rfl
      have f1 : ax.tmps[11]?.getD undef = (.iface 153 (.agg #[])) := (Array.getD_eq_getD_getElem? ..).symm.trans p1
      exact hwp_val (v := .func (.method "cyclorama/effect.way") #[.iface 153 (.agg #[])] #[]) (w' := W) (by simp [execOp, Act.eval, f1, go_sem]) ⟨_, rfl, rfl, hW, Below.refl _ _⟩
    | 8, _, hio =>
      cases hio
      have p7 := hpre ⟨7, .data⟩ (by simp) (by rfl) _ _ rfl rfl
      have f7 : ax.tmps[17]?.getD undef = (.func (.method "cyclorama/effect.way") #[.iface 153 (.agg #[])] #[]) := (Array.getD_eq_getD_getElem? ..).symm.trans p7
      exact hwp_val (v := .func (.method "cyclorama/effect.way") #[.iface 153 (.agg #[])] #[]) (w' := W) (by simp [execOp, Act.eval, hna, f7, go_sem]) ⟨_, rfl, rfl, hW, Below.refl _ _⟩
    | 9, _, hio =>
      cases hio
      have p1 := hpre ⟨1, .data⟩ (by simp) (by rfl) _ _ rfl rfl
      have f1 : ax.tmps[11]?.getD undef = (.iface 153 (.agg #[])) := (Array.getD_eq_getD_getElem? ..).symm.trans p1
      exact hwp_val (v := .iface 153 (.agg #[])) (w' := W) (by simp [execOp, Act.eval, f1, go_sem]) ⟨_, rfl, rfl, hW, Below.refl _ _⟩
    | 10, _, hio =>
      cases hio
      have p9 := hpre ⟨9, .data⟩ (by simp) (by rfl) _ _ rfl rfl
      have f9 : ax.tmps[19]?.getD undef = (.iface 153 (.agg #[])) := (Array.getD_eq_getD_getElem? ..).symm.trans p9
      have p6 := hpre ⟨6, .data⟩ (by simp) (by rfl) _ _ rfl rfl
      have f6 : ax.tmps[16]?.getD undef = (.agg #[.int .i64 pn, .int .i64 pd, .int .i64 pk, .int .i64 index]) := (Array.getD_eq_getD_getElem? ..).symm.trans p6
      refine hwp_enter (f := 148) (args := #[.agg #[], .agg #[.int .i64 pn, .int .i64 pd, .int .i64 pk, .int .i64 index]]) (by simp [execOp, Act.eval, hme, f9, f6, go_sem]) ?_
      refine (triangle_any pn pd pk index W hpn0 hpn1 hpd1).mono ?_
      rintro ex wy ⟨rfl, hb⟩
      exact ⟨_, rfl, _, rfl, rfl, hW.trans (hb.mono hsz), hb⟩
    | 11, _, hio =>
      cases hio
      have p10 := hpre ⟨10, .data⟩ (by simp) (by rfl) _ _ rfl rfl
      have f10 : ax.tmps[20]?.getD undef = (.tuple #[.agg #[.int .u64 (hw 0 (peakV pn pd)), .int .u64 (hw 1 (peakV pn pd)), .int .u64 (hw 2 (peakV pn pd)), .int .u64 (hw 3 (peakV pn pd)), .int .u64 (hw 4 (peakV pn pd)), .int .u64 (hw 5 (peakV pn pd))], .agg #[.int .u64 (hw 0 pd), .int .u64 (hw 1 pd), .int .u64 (hw 2 pd), .int .u64 (hw 3 pd), .int .u64 (hw 4 pd), .int .u64 (hw 5 pd)]]) := (Array.getD_eq_getD_getElem? ..).symm.trans p10
      exact hwp_val (v := .agg #[.int .u64 (hw 0 (peakV pn pd)), .int .u64 (hw 1 (peakV pn pd)), .int .u64 (hw 2 (peakV pn pd)), .int .u64 (hw 3 (peakV pn pd)), .int .u64 (hw 4 (peakV pn pd)), .int .u64 (hw 5 (peakV pn pd))]) (w' := W) (by simp [execOp, Act.eval, f10, go_sem]) ⟨_, rfl, rfl, hW, Below.refl _ _⟩
    | 12, _, hio =>
      cases hio
      have p10 := hpre ⟨10, .data⟩ (by simp) (by rfl) _ _ rfl rfl
      have f10 : ax.tmps[20]?.getD undef = (.tuple #[.agg #[.int .u64 (hw 0 (peakV pn pd)), .int .u64 (hw 1 (peakV pn pd)), .int .u64 (hw 2 (peakV pn pd)), .int .u64 (hw 3 (peakV pn pd)), .int .u64 (hw 4 (peakV pn pd)), .int .u64 (hw 5 (peakV pn pd))], .agg #[.int .u64 (hw 0 pd), .int .u64 (hw 1 pd), .int .u64 (hw 2 pd), .int .u64 (hw 3 pd), .int .u64 (hw 4 pd), .int .u64 (hw 5 pd)]]) := (Array.getD_eq_getD_getElem? ..).symm.trans p10
      exact hwp_val (v := .agg #[.int .u64 (hw 0 pd), .int .u64 (hw 1 pd), .int .u64 (hw 2 pd), .int .u64 (hw 3 pd), .int .u64 (hw 4 pd), .int .u64 (hw 5 pd)]) (w' := W) (by simp [execOp, Act.eval, f10, go_sem]) ⟨_, rfl, rfl, hW, Below.refl _ _⟩
    | ix + 13, hi, _ => exact absurd hi (by omega)
  · intro ax W hsh hW hφ
    have e0 : ax.tmps.getD 10 undef = (.agg #[.int .i64 1, .int .i64 low, .int .i64 high, .int .i64 cycle, .int .i64 width, .int .i64 spread, .bool back, .bool rel, .slice ao l.length cap]) := hφ 0 _ _ (by omega) rfl rfl
    have e1 : ax.tmps.getD 11 undef = (.iface 153 (.agg #[])) := hφ 1 _ _ (by omega) rfl rfl
    have e2 : ax.tmps.getD 12 undef = (.agg #[.int .i64 1, .int .i64 low, .int .i64 high, .int .i64 cycle, .int .i64 width, .int .i64 spread, .bool back, .bool rel, .slice ao l.length cap]) := hφ 2 _ _ (by omega) rfl rfl
    have e3 : ax.tmps.getD 13 undef = (.int .i64 index) := hφ 3 _ _ (by omega) rfl rfl
    have e4 : ax.tmps.getD 14 undef = (.int .i64 count) := hφ 4 _ _ (by omega) rfl rfl
    have e5 : ax.tmps.getD 15 undef = (.int .i64 clock) := hφ 5 _ _ (by omega) rfl rfl
    have e6 : ax.tmps.getD 16 undef = (.agg #[.int .i64 pn, .int .i64 pd, .int .i64 pk, .int .i64 index]) := hφ 6 _ _ (by omega) rfl rfl
    have e7 : ax.tmps.getD 17 undef = (.func (.method "cyclorama/effect.way") #[.iface 153 (.agg #[])] #[]) := hφ 7 _ _ (by omega) rfl rfl
    have e8 : ax.tmps.getD 18 undef = (.func (.method "cyclorama/effect.way") #[.iface 153 (.agg #[])] #[]) := hφ 8 _ _ (by omega) rfl rfl
    have e9 : ax.tmps.getD 19 undef = (.iface 153 (.agg #[])) := hφ 9 _ _ (by omega) rfl rfl
    have e10 : ax.tmps.getD 20 undef = (.tuple #[.agg #[.int .u64 (hw 0 (peakV pn pd)), .int .u64 (hw 1 (peakV pn pd)), .int .u64 (hw 2 (peakV pn pd)), .int .u64 (hw 3 (peakV pn pd)), .int .u64 (hw 4 (peakV pn pd)), .int .u64 (hw 5 (peakV pn pd))], .agg #[.int .u64 (hw 0 pd), .int .u64 (hw 1 pd), .int .u64 (hw 2 pd), .int .u64 (hw 3 pd), .int .u64 (hw 4 pd), .int .u64 (hw 5 pd)]]) := hφ 10 _ _ (by omega) rfl rfl
    have e11 : ax.tmps.getD 21 undef = (.agg #[.int .u64 (hw 0 (peakV pn pd)), .int .u64 (hw 1 (peakV pn pd)), .int .u64 (hw 2 (peakV pn pd)), .int .u64 (hw 3 (peakV pn pd)), .int .u64 (hw 4 (peakV pn pd)), .int .u64 (hw 5 (peakV pn pd))]) := hφ 11 _ _ (by omega) rfl rfl
    have e12 : ax.tmps.getD 22 undef = (.agg #[.int .u64 (hw 0 pd), .int .u64 (hw 1 pd), .int .u64 (hw 2 pd), .int .u64 (hw 3 pd), .int .u64 (hw 4 pd), .int .u64 (hw 5 pd)]) := hφ 12 _ _ (by omega) rfl rfl
    rw [shape_puts hsh [(10, .agg #[.int .i64 1, .int .i64 low, .int .i64 high, .int .i64 cycle, .int .i64 width, .int .i64 spread, .bool back, .bool rel, .slice ao l.length cap]), (11, .iface 153 (.agg #[])), (12, .agg #[.int .i64 1, .int .i64 low, .int .i64 high, .int .i64 cycle, .int .i64 width, .int .i64 spread, .bool back, .bool rel, .slice ao l.length cap]), (13, .int .i64 index), (14, .int .i64 count), (15, .int .i64 clock), (16, .agg #[.int .i64 pn, .int .i64 pd, .int .i64 pk, .int .i64 index]), (17, .func (.method "cyclorama/effect.way") #[.iface 153 (.agg #[])] #[]), (18, .func (.method "cyclorama/effect.way") #[.iface 153 (.agg #[])] #[]), (19, .iface 153 (.agg #[])), (20, .tuple #[.agg #[.int .u64 (hw 0 (peakV pn pd)), .int .u64 (hw 1 (peakV pn pd)), .int .u64 (hw 2 (peakV pn pd)), .int .u64 (hw 3 (peakV pn pd)), .int .u64 (hw 4 (peakV pn pd)), .int .u64 (hw 5 (peakV pn pd))], .agg #[.int .u64 (hw 0 pd), .int .u64 (hw 1 pd), .int .u64 (hw 2 pd), .int .u64 (hw 3 pd), .int .u64 (hw 4 pd), .int .u64 (hw 5 pd)]]), (21, .agg #[.int .u64 (hw 0 (peakV pn pd)), .int .u64 (hw 1 (peakV pn pd)), .int .u64 (hw 2 (peakV pn pd)), .int .u64 (hw 3 (peakV pn pd)), .int .u64 (hw 4 (peakV pn pd)), .int .u64 (hw 5 (peakV pn pd))]), (22, .agg #[.int .u64 (hw 0 pd), .int .u64 (hw 1 pd), .int .u64 (hw 2 pd), .int .u64 (hw 3 pd), .int .u64 (hw 4 pd), .int .u64 (hw 5 pd)])] [10, 11, 12, 13, 14, 15, 16, 17, 18, 19, 20, 21, 22] rfl (by kernel_rfl) ⟨e0, e1, e2, e3, e4, e5, e6, e7, e8, e9, e10, e11, e12, trivial⟩]
    clear hφ hsh e0 e1 e2 e3 e4 e5 e6 e7 e8 e9 e10 e11 e12
    simp only [putsN, List.foldl_cons, List.foldl_nil, List.drop_succ_cons, List.drop_zero, Act.put, List.setIfInBounds_toArray, List.set_cons_succ, List.set_cons_zero]
    have HBW := Lib.hid (HB.out.trans (hW.mono hzB))
    have r2 := HT2.out.below hW
    have r3 := HT3.out.below hW
    clear hW
    refine wpList_storeH W rfl _ _ rfl (w.heap.size + 1) rfl rfl r2 ?_
    intro wy t2 g2
    simp only [Act.put]
    refine wpList_storeH wy rfl _ _ rfl (w.heap.size + 2) rfl rfl (r3.gro g2 (by omega)) ?_
    intro wz t3 g3
    simp only [Act.put]
    have t2' := t2.gro g3 (by omega)
    have HBE := Lib.hid (below_gro (below_gro HBW.out g2 HBW.out.size (by omega)) g3 (by have := HBW.out.size; have := g2.size; omega) (by omega))
    have x0 := t2'.cell (i := 0) rfl
    have y0 := t3.cell (i := 0) rfl
    have x1 := t2'.cell (i := 1) rfl
    have y1 := t3.cell (i := 1) rfl
    have x2 := t2'.cell (i := 2) rfl
    have y2 := t3.cell (i := 2) rfl
    have x3 := t2'.cell (i := 3) rfl
    have y3 := t3.cell (i := 3) rfl
    have x4 := t2'.cell (i := 4) rfl
    have y4 := t3.cell (i := 4) rfl
    have x5 := t2'.cell (i := 5) rfl
    have y5 := t3.cell (i := 5) rfl
    clear t2 t2' t3 g2 g3 r2 r3 HBW
    go_wp2_with fail
    exact bodyPost_ret (v := .tuple #[.agg #[.int .u64 (hw 0 (peakV pn pd)), .int .u64 (hw 1 (peakV pn pd)), .int .u64 (hw 2 (peakV pn pd)), .int .u64 (hw 3 (peakV pn pd)), .int .u64 (hw 4 (peakV pn pd)), .int .u64 (hw 5 (peakV pn pd))], .agg #[.int .u64 (hw 0 pd), .int .u64 (hw 1 pd), .int .u64 (hw 2 pd), .int .u64 (hw 3 pd), .int .u64 (hw 4 pd), .int .u64 (hw 5 pd)]]) (by simp [results, Try.results44, go_sem, x0, y0, x1, y1, x2, y2, x3, y3, x4, y4, x5, y5]) rfl ⟨rfl, HBE.out⟩
end Go.Proofs.Ytopmdeefcjdadaa
