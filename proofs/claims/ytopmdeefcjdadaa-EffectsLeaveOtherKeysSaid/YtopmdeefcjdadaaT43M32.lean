/- The wave of steps. (printed by wip/gen/gen_wavesteps.py) -/
import Derived.Test.YtopmdeefcjdadaaT43M17

namespace Go.Proofs.Ytopmdeefcjdadaa
open Go.RowKit
set_option linter.unusedVariables false
set_option linter.unusedSimpArgs false

set_option maxRecDepth 100000 in
set_option maxHeartbeats 16000000 in
theorem steps_any (lo : Option Addr) (cap : Nat) (L : List Stp) (cyc n d k i : Int) (w : World) (hs : StepsAt w.heap.size w lo L) (hL : L.length ≤ 50) (hall : L.all stpB = true) (hc0 : 0 ≤ cyc) (hc9 : cyc ≤ 3600000) (hn0 : 0 ≤ n) (hnd : n ≤ d) (hd9 : d ≤ 1000000000000000) :
    Calls Try.prog 154 #[.agg #[.slice lo L.length cap, .int .i64 cyc], .agg #[.int .i64 n, .int .i64 d, .int .i64 k, .int .i64 i]] w fun e w' => e = .returned (.tuple #[.agg #[.int .u64 (hw 0 (stW L (n * cyc) d L.length 0 0).1), .int .u64 (hw 1 (stW L (n * cyc) d L.length 0 0).1), .int .u64 (hw 2 (stW L (n * cyc) d L.length 0 0).1), .int .u64 (hw 3 (stW L (n * cyc) d L.length 0 0).1), .int .u64 (hw 4 (stW L (n * cyc) d L.length 0 0).1), .int .u64 (hw 5 (stW L (n * cyc) d L.length 0 0).1)], .agg #[.int .u64 (hw 0 (stW L (n * cyc) d L.length 0 0).2), .int .u64 (hw 1 (stW L (n * cyc) d L.length 0 0).2), .int .u64 (hw 2 (stW L (n * cyc) d L.length 0 0).2), .int .u64 (hw 3 (stW L (n * cyc) d L.length 0 0).2), .int .u64 (hw 4 (stW L (n * cyc) d L.length 0 0).2), .int .u64 (hw 5 (stW L (n * cyc) d L.length 0 0).2)]]) ∧ Below w.heap.size w w' := by
  have HS := Lib.hid hs
  have HA := Lib.hid (fun k (h : k < L.length) => stpB_le (List.all_eq_true.1 hall _ (List.getElem_mem h)))
  have hbig := powW6_big
  have hd0 : 0 ≤ d := by omega
  have hd2 : d ≤ 9223372036854775807 := by omega
  have hn1 : n ≤ 9223372036854775807 := by omega
  have hc1 : cyc ≤ 9223372036854775807 := by omega
  have hp1 : n < powW 6 := by omega
  have hp0 : 0 ≤ n * cyc := Int.mul_nonneg hn0 hc0
  have hp9 : n * cyc ≤ 1000000000000000 * 3600000 := Int.le_trans (Int.mul_le_mul_of_nonneg_right (show n ≤ 1000000000000000 by omega) hc0) (Int.mul_le_mul_of_nonneg_left hc9 (by omega))
  have hp2 : n * cyc < powW 6 := by omega
  generalize hres : stW L (n * cyc) d L.length 0 0 = RES at *
  have HRES := Lib.hid hres.symm
  clear hres
  have HM := Lib.hid (fun (b : Int) (h0 : 0 ≤ b) (h1 : b ≤ 400000000) => (show 0 ≤ d * b ∧ d * b < powW 6 from ⟨Int.mul_nonneg hd0 h0, by
    have h2 : d * b ≤ 1000000000000000 * 400000000 := Int.le_trans (Int.mul_le_mul_of_nonneg_right hd9 h0) (Int.mul_le_mul_of_nonneg_left h1 (by omega))
    omega⟩))
  clear hs hall
  have HT0 := Lib.hid (show TBox ((((w.alloc (.cells #[.slice lo L.length cap, .int .i64 cyc] 161)).alloc (.cells #[.int .i64 n, .int .i64 d, .int .i64 k, .int .i64 i] 119)).alloc (.cells #[.int .u64 0, .int .u64 0, .int .u64 0, .int .u64 0, .int .u64 0, .int .u64 0] 77)).alloc (.cells #[.int .u64 0, .int .u64 0, .int .u64 0, .int .u64 0, .int .u64 0, .int .u64 0] 77)) w.heap.size 161 #[.slice lo L.length cap, .int .i64 cyc] from (((TBox.new w #[.slice lo L.length cap, .int .i64 cyc] 161).alloc _).alloc _).alloc _)
  have HT1 := Lib.hid (show TBox ((((w.alloc (.cells #[.slice lo L.length cap, .int .i64 cyc] 161)).alloc (.cells #[.int .i64 n, .int .i64 d, .int .i64 k, .int .i64 i] 119)).alloc (.cells #[.int .u64 0, .int .u64 0, .int .u64 0, .int .u64 0, .int .u64 0, .int .u64 0] 77)).alloc (.cells #[.int .u64 0, .int .u64 0, .int .u64 0, .int .u64 0, .int .u64 0, .int .u64 0] 77)) (w.heap.size + 1) 119 #[.int .i64 n, .int .i64 d, .int .i64 k, .int .i64 i] from by
    have h := ((TBox.new (w.alloc (.cells #[.slice lo L.length cap, .int .i64 cyc] 161)) #[.int .i64 n, .int .i64 d, .int .i64 k, .int .i64 i] 119).alloc (.cells #[.int .u64 0, .int .u64 0, .int .u64 0, .int .u64 0, .int .u64 0, .int .u64 0] 77)).alloc (.cells #[.int .u64 0, .int .u64 0, .int .u64 0, .int .u64 0, .int .u64 0, .int .u64 0] 77)
    simpa only [World.size_alloc] using h)
  have HT2 := Lib.hid (show TBox ((((w.alloc (.cells #[.slice lo L.length cap, .int .i64 cyc] 161)).alloc (.cells #[.int .i64 n, .int .i64 d, .int .i64 k, .int .i64 i] 119)).alloc (.cells #[.int .u64 0, .int .u64 0, .int .u64 0, .int .u64 0, .int .u64 0, .int .u64 0] 77)).alloc (.cells #[.int .u64 0, .int .u64 0, .int .u64 0, .int .u64 0, .int .u64 0, .int .u64 0] 77)) (w.heap.size + 2) 77 #[.int .u64 0, .int .u64 0, .int .u64 0, .int .u64 0, .int .u64 0, .int .u64 0] from by
    have h := (TBox.new ((w.alloc (.cells #[.slice lo L.length cap, .int .i64 cyc] 161)).alloc (.cells #[.int .i64 n, .int .i64 d, .int .i64 k, .int .i64 i] 119)) #[.int .u64 0, .int .u64 0, .int .u64 0, .int .u64 0, .int .u64 0, .int .u64 0] 77).alloc (.cells #[.int .u64 0, .int .u64 0, .int .u64 0, .int .u64 0, .int .u64 0, .int .u64 0] 77)
    simpa only [World.size_alloc] using h)
  have HT3 := Lib.hid (show TBox ((((w.alloc (.cells #[.slice lo L.length cap, .int .i64 cyc] 161)).alloc (.cells #[.int .i64 n, .int .i64 d, .int .i64 k, .int .i64 i] 119)).alloc (.cells #[.int .u64 0, .int .u64 0, .int .u64 0, .int .u64 0, .int .u64 0, .int .u64 0] 77)).alloc (.cells #[.int .u64 0, .int .u64 0, .int .u64 0, .int .u64 0, .int .u64 0, .int .u64 0] 77)) (w.heap.size + 3) 77 #[.int .u64 0, .int .u64 0, .int .u64 0, .int .u64 0, .int .u64 0, .int .u64 0] from by
    have h := TBox.new (((w.alloc (.cells #[.slice lo L.length cap, .int .i64 cyc] 161)).alloc (.cells #[.int .i64 n, .int .i64 d, .int .i64 k, .int .i64 i] 119)).alloc (.cells #[.int .u64 0, .int .u64 0, .int .u64 0, .int .u64 0, .int .u64 0, .int .u64 0] 77)) #[.int .u64 0, .int .u64 0, .int .u64 0, .int .u64 0, .int .u64 0, .int .u64 0] 77
    simpa only [World.size_alloc] using h)
  have HB := Lib.hid (show Below w.heap.size w ((((w.alloc (.cells #[.slice lo L.length cap, .int .i64 cyc] 161)).alloc (.cells #[.int .i64 n, .int .i64 d, .int .i64 k, .int .i64 i] 119)).alloc (.cells #[.int .u64 0, .int .u64 0, .int .u64 0, .int .u64 0, .int .u64 0, .int .u64 0] 77)).alloc (.cells #[.int .u64 0, .int .u64 0, .int .u64 0, .int .u64 0, .int .u64 0, .int .u64 0] 77)) from ((((Below.refl _ _).alloc (Nat.le_refl _) _).alloc (by simp) _).alloc (by simp; omega) _).alloc (by simp; omega) _)
  have HZ := Lib.hid (show w.heap.size + 4 = (((((w.alloc (.cells #[.slice lo L.length cap, .int .i64 cyc] 161)).alloc (.cells #[.int .i64 n, .int .i64 d, .int .i64 k, .int .i64 i] 119)).alloc (.cells #[.int .u64 0, .int .u64 0, .int .u64 0, .int .u64 0, .int .u64 0, .int .u64 0] 77)).alloc (.cells #[.int .u64 0, .int .u64 0, .int .u64 0, .int .u64 0, .int .u64 0, .int .u64 0] 77))).heap.size by simp)
  go_enter Try.func154, Try.ntmps154
  go_upto_region 1 with fail
  generalize hw1 : ((((w.alloc (.cells #[.slice lo L.length cap, .int .i64 cyc] 161)).alloc (.cells #[.int .i64 n, .int .i64 d, .int .i64 k, .int .i64 i] 119)).alloc (.cells #[.int .u64 0, .int .u64 0, .int .u64 0, .int .u64 0, .int .u64 0, .int .u64 0] 77)).alloc (.cells #[.int .u64 0, .int .u64 0, .int .u64 0, .int .u64 0, .int .u64 0, .int .u64 0] 77)) = w1 at *
  clear hw1
  refine region_heads (by kernel_rfl) 8 (by simp) (by kernel_rfl) (by kernel_rfl) (by kernel_rfl) (by kernel_rfl) (fun jx vx wx => match jx with | 0 => vx = (.pointer (some ⟨w.heap.size + 1, 0, none⟩)) | 1 => vx = (.int .i64 n) | 2 => vx = (.agg #[.int .u64 (hw 0 n), .int .u64 (hw 1 n), .int .u64 (hw 2 n), .int .u64 (hw 3 n), .int .u64 (hw 4 n), .int .u64 (hw 5 n)]) | 3 => vx = (.pointer (some ⟨w.heap.size, 1, none⟩)) | 4 => vx = (.int .i64 cyc) | 5 => Lit1 w1.heap.size vx (.int .i64 cyc) wx | 6 => vx = (.agg #[.int .u64 (hw 0 (n * cyc)), .int .u64 (hw 1 (n * cyc)), .int .u64 (hw 2 (n * cyc)), .int .u64 (hw 3 (n * cyc)), .int .u64 (hw 4 (n * cyc)), .int .u64 (hw 5 (n * cyc))]) | 7 => Box1 w1.heap.size 77 #[.int .u64 0, .int .u64 0, .int .u64 0, .int .u64 0, .int .u64 0, .int .u64 0] vx wx | _ => True) (fun W => Below w1.heap.size w1 W) (fun wx wy => Below wx.heap.size wx wy) (Below.refl _ _).drew ?_ ?_ ?_ ?_
  · intro jx vx wx wy h g
    match jx, h with
    | 0, h => exact h
    | 1, h => exact h
    | 2, h => exact h
    | 3, h => exact h
    | 4, h => exact h
    | 5, h => exact Lit1.up h g
    | 6, h => exact h
    | 7, h => exact Box1.up h g
    | jx + 8, h => exact trivial
  · intro jx ox dx hj ho hd
    exact insN_of (by kernel_rfl) hj ho hd
  · intro ix ox ax W hi hio hsh hW hpre
    have hsz : w1.heap.size ≤ W.heap.size := hW.size
    have GA : ∀ ob, Below W.heap.size W (W.alloc ob) := fun ob => (Below.refl _ _).alloc (Nat.le_refl _) ob
    have WA : ∀ ob, Below w1.heap.size w1 (W.alloc ob) := fun ob => hW.alloc hsz ob
    have t2 : ax.tmps[2]?.getD undef = (.pointer (some ⟨w.heap.size, 0, none⟩)) := (Array.getD_eq_getD_getElem? ..).symm.trans ((hsh.2.2 2 (notN_of (by kernel_rfl))).trans rfl)
    have t3 : ax.tmps[3]?.getD undef = (.pointer (some ⟨w.heap.size + 1, 0, none⟩)) := (Array.getD_eq_getD_getElem? ..).symm.trans ((hsh.2.2 3 (notN_of (by kernel_rfl))).trans rfl)
    have q0 : W.cell? ⟨w.heap.size + 1, 0, none⟩ = some (.int .i64 n) := (HT1.out.below hW).cell (i := 0) rfl
    have q1 : W.cell? ⟨w.heap.size, 1, none⟩ = some (.int .i64 cyc) := (HT0.out.below hW).cell (i := 1) rfl
    clear hsh
    match ix, hi, hio with
    | 0, _, hio =>
      cases hio
      exact hwp_val (v := .pointer (some ⟨w.heap.size + 1, 0, none⟩)) (w' := W) (by simp [execOp, Act.eval, t3, go_sem]) ⟨_, rfl, rfl, hW, Below.refl _ _⟩
    | 1, _, hio =>
      cases hio
      have p0 := hpre ⟨0, .data⟩ (by simp) (by rfl) _ _ rfl rfl
      have f0 : ax.tmps[13]?.getD undef = (.pointer (some ⟨w.heap.size + 1, 0, none⟩)) := (Array.getD_eq_getD_getElem? ..).symm.trans p0
      exact hwp_val (v := .int .i64 n) (w' := W) (by simp [execOp, Act.eval, q0, f0, go_sem]) ⟨_, rfl, rfl, hW, Below.refl _ _⟩
    | 2, _, hio =>
      cases hio
      have p1 := hpre ⟨1, .data⟩ (by simp) (by rfl) _ _ rfl rfl
      have f1 : ax.tmps[14]?.getD undef = (.int .i64 n) := (Array.getD_eq_getD_getElem? ..).symm.trans p1
      refine hwp_enter (f := 113) (args := #[.int .i64 n]) (by simp [execOp, Act.eval, f1, go_sem]) ?_
      refine (cOf n hn0 hn1 W).mono ?_
      rintro ex wy ⟨rfl, hb⟩
      exact ⟨_, rfl, _, rfl, rfl, hW.trans (hb.mono hsz), hb⟩
    | 3, _, hio =>
      cases hio
      exact hwp_val (v := .pointer (some ⟨w.heap.size, 1, none⟩)) (w' := W) (by simp [execOp, Act.eval, t2, go_sem]) ⟨_, rfl, rfl, hW, Below.refl _ _⟩
    | 4, _, hio =>
      cases hio
      have p3 := hpre ⟨3, .data⟩ (by simp) (by rfl) _ _ rfl rfl
      have f3 : ax.tmps[16]?.getD undef = (.pointer (some ⟨w.heap.size, 1, none⟩)) := (Array.getD_eq_getD_getElem? ..).symm.trans p3
      exact hwp_val (v := .int .i64 cyc) (w' := W) (by simp [execOp, Act.eval, q1, f3, go_sem]) ⟨_, rfl, rfl, hW, Below.refl _ _⟩
    | 5, _, hio =>
      cases hio
      have p4 := hpre ⟨4, .data⟩ (by simp) (by rfl) _ _ rfl rfl
      have f4 : ax.tmps[17]?.getD undef = (.int .i64 cyc) := (Array.getD_eq_getD_getElem? ..).symm.trans p4
      exact hwp_val (v := .slice (some ⟨W.heap.size, 0, none⟩) 1 1) (w' := W.alloc (.cells #[.int .i64 cyc] 3)) (by simp [execOp, Act.eval, f4, go_sem]) ⟨_, rfl, Lit1.new _ _ hsz, WA _, GA _⟩
    | 6, _, hio =>
      cases hio
      have p2 := hpre ⟨2, .data⟩ (by simp) (by rfl) _ _ rfl rfl
      have f2 : ax.tmps[15]?.getD undef = (.agg #[.int .u64 (hw 0 n), .int .u64 (hw 1 n), .int .u64 (hw 2 n), .int .u64 (hw 3 n), .int .u64 (hw 4 n), .int .u64 (hw 5 n)]) := (Array.getD_eq_getD_getElem? ..).symm.trans p2
      have p5 := hpre ⟨5, .data⟩ (by simp) (by rfl) _ _ rfl rfl
      obtain ⟨b5, e5, hb5, hl5, hc5⟩ := p5
      have f5 := (Array.getD_eq_getD_getElem? ..).symm.trans e5
      refine hwp_enter (f := 45) (args := #[.agg #[.int .u64 (hw 0 n), .int .u64 (hw 1 n), .int .u64 (hw 2 n), .int .u64 (hw 3 n), .int .u64 (hw 4 n), .int .u64 (hw 5 n)], .slice (some ⟨b5, 0, none⟩) 1 1]) (by simp [execOp, Act.eval, f2, f5, go_sem]) ?_
      refine (cTimes1 n cyc b5 W hn0 hc0 hc1 hp1 hp2 hl5 hc5).mono ?_
      rintro ex wy ⟨rfl, hb⟩
      exact ⟨_, rfl, _, rfl, rfl, hW.trans (hb.mono hsz), hb⟩
    | 7, _, hio =>
      cases hio
      exact hwp_val (v := .pointer (some ⟨W.heap.size, 0, none⟩)) (w' := W.alloc (.cells #[.int .u64 0, .int .u64 0, .int .u64 0, .int .u64 0, .int .u64 0, .int .u64 0] 77)) (by simp [execOp, Act.eval, zeroHuge_, go_sem]) ⟨_, rfl, Box1.new _ _ hsz, WA _, GA _⟩
    | ix + 8, hi, _ => exact absurd hi (by omega)
  · intro ax W hsh hW hφ
    have e0 : ax.tmps.getD 13 undef = (.pointer (some ⟨w.heap.size + 1, 0, none⟩)) := hφ 0 _ _ (by omega) rfl rfl
    have e1 : ax.tmps.getD 14 undef = (.int .i64 n) := hφ 1 _ _ (by omega) rfl rfl
    have e2 : ax.tmps.getD 15 undef = (.agg #[.int .u64 (hw 0 n), .int .u64 (hw 1 n), .int .u64 (hw 2 n), .int .u64 (hw 3 n), .int .u64 (hw 4 n), .int .u64 (hw 5 n)]) := hφ 2 _ _ (by omega) rfl rfl
    have e3 : ax.tmps.getD 16 undef = (.pointer (some ⟨w.heap.size, 1, none⟩)) := hφ 3 _ _ (by omega) rfl rfl
    have e4 : ax.tmps.getD 17 undef = (.int .i64 cyc) := hφ 4 _ _ (by omega) rfl rfl
    obtain ⟨b5, e5, hb5, hl5, hc5⟩ := hφ 5 _ _ (by omega) rfl rfl
    have e6 : ax.tmps.getD 19 undef = (.agg #[.int .u64 (hw 0 (n * cyc)), .int .u64 (hw 1 (n * cyc)), .int .u64 (hw 2 (n * cyc)), .int .u64 (hw 3 (n * cyc)), .int .u64 (hw 4 (n * cyc)), .int .u64 (hw 5 (n * cyc))]) := hφ 6 _ _ (by omega) rfl rfl
    obtain ⟨b7, e7, hb7, hl7⟩ := hφ 7 _ _ (by omega) rfl rfl
    rw [shape_puts hsh [(13, .pointer (some ⟨w.heap.size + 1, 0, none⟩)), (14, .int .i64 n), (15, .agg #[.int .u64 (hw 0 n), .int .u64 (hw 1 n), .int .u64 (hw 2 n), .int .u64 (hw 3 n), .int .u64 (hw 4 n), .int .u64 (hw 5 n)]), (16, .pointer (some ⟨w.heap.size, 1, none⟩)), (17, .int .i64 cyc), (18, .slice (some ⟨b5, 0, none⟩) 1 1), (19, .agg #[.int .u64 (hw 0 (n * cyc)), .int .u64 (hw 1 (n * cyc)), .int .u64 (hw 2 (n * cyc)), .int .u64 (hw 3 (n * cyc)), .int .u64 (hw 4 (n * cyc)), .int .u64 (hw 5 (n * cyc))]), (6, .pointer (some ⟨b7, 0, none⟩))] [13, 14, 15, 16, 17, 18, 19, 6] rfl (by kernel_rfl) ⟨e0, e1, e2, e3, e4, e5, e6, e7, trivial⟩]
    clear hφ hsh e0 e1 e2 e3 e4 e5 e6 e7
    clear hc5
    simp only [putsN, List.foldl_cons, List.foldl_nil, List.drop_succ_cons, List.drop_zero, Act.put, List.setIfInBounds_toArray, List.set_cons_succ, List.set_cons_zero]
    refine wpList_storeH W rfl _ _ rfl b7 rfl rfl hl7 ?_
    intro wS tS gS
    simp only [Act.put]
    have HKS := Lib.hid (show StK w lo cap L cyc n d k i b7 (n * cyc) wS from by
      have hz := HZ.out
      exact ⟨⟨(HT0.out.below hW).gro gS (by omega), (HT1.out.below hW).gro gS (by omega)⟩, ⟨(HT2.out.below hW).gro gS (by omega), (HT3.out.below hW).gro gS (by omega)⟩, tS, by omega, below_gro (HB.out.trans (hW.mono (by omega))) gS (by have := hW.size; omega) (by omega)⟩)
    clear hW tS gS hl7 HT0 HT1 HT2 HT3 HB HZ
    have hpp0 := hp0
    have hpp1 := hp2
    generalize hp : n * cyc = p at *
    have HPE := Lib.hid hp
    clear hp
    obtain ⟨pb, rfl⟩ : ∃ pb, pb = b7 := ⟨_, rfl⟩
    obtain ⟨q0, q1⟩ := HKS.out.sc
    have qz := HKS.out.size
    go_wp2_with fail
    clear q0 q1
    go_loopw [23, 7] (fun ix bx wx => ∃ (j : Nat) (bg : Int), j ≤ L.length ∧ ix = .int .i64 j ∧ bx = .int .i64 bg ∧ 0 ≤ bg ∧ bg ≤ 7200000 * j ∧ Hid (RES = stW L p d (L.length - j) j bg) ∧ Hid (StK w lo cap L cyc n d k i pb p wx)) (fun ix _ _ => L.length - (intOf ix).toNat)
    case atStart => exact ⟨0, 0, Nat.zero_le _, rfl, rfl, by omega, by omega, Lib.hid (by rw [Nat.sub_zero]; exact HRES.out), HKS⟩
    case round =>
      clear HKS
      obtain ⟨j, bg, hj, rfl, rfl, g0, g1, HR, HK⟩ := hrel
      have hzw := HK.out.size
      by_cases hlt : j < L.length
      · obtain ⟨sp, off, hlo, hsb, hcs⟩ := HS.out (by intro h; subst h; simp at hlt)
        subst hlo
        have hnj0 : (j + 1) % L.length < L.length := Nat.mod_lt _ (by omega)
        obtain ⟨e0, e1, e2⟩ := hcs j hlt
        have HYC := Lib.hid (hcs _ hnj0)
        have d0 := (HK.out.bel.cell (p := ⟨sp, off + j * 3, none⟩) hsb).trans e0
        have d1 := (HK.out.bel.cell (p := ⟨sp, off + j * 3 + 1, none⟩) hsb).trans e1
        have d2 := (HK.out.bel.cell (p := ⟨sp, off + j * 3 + 2, none⟩) hsb).trans e2
        have hsr : sp < wr.heap.size := Nat.lt_of_lt_of_le hsb HK.out.bel.size
        obtain ⟨⟨hlv0, hlv1⟩, ⟨hh0, hh1⟩, hf0, hf1⟩ := HA.out j hlt
        obtain ⟨⟨hlw0, hlw1⟩, _, _, _⟩ := HA.out _ hnj0
        have hr1 : RES = stW L p d (L.length - (j + 1) + 1) j bg := by rw [show L.length - (j + 1) + 1 = L.length - j by omega]; exact HR.out
        have HF1 := Lib.hid (fun h => hr1.trans (stW_first (L := L) (p := p) (d := d) (c := L.length - (j + 1)) (j := j) (b := bg) h))
        have HF2 := Lib.hid (fun h h2 => hr1.trans (stW_mid (L := L) (p := p) (d := d) (c := L.length - (j + 1)) (j := j) (b := bg) h h2))
        have HF3 := Lib.hid (fun h h2 => hr1.trans (stW_next (L := L) (p := p) (d := d) (c := L.length - (j + 1)) (j := j) (b := bg) h h2))
        rw [stAt_get hlt] at HF1 HF2 HF3
        rw [stAt_get hnj0] at HF2
        generalize hnj : (j + 1) % L.length = nj at *
        have HNJ := Lib.hid hnj
        clear hnj hcs e0 e1 e2 hr1 HR
        generalize hx9 : L[j] = x9 at *
        clear hx9
        generalize hy9 : L[nj] = y9 at *
        clear hy9
        obtain ⟨lv, hold, fade⟩ := x9
        obtain ⟨lv2, hold2, fade2⟩ := y9
        simp only at *
        have hj50 : j ≤ 50 := by omega
        have aw : IntKind.i64.wrap (bg + hold) = bg + hold := IntWalk.i64_in _ (by omega)
        have hb0 : 0 ≤ bg + hold := by omega
        have hb4 : bg + hold ≤ 400000000 := by omega
        have hb9 : bg + hold ≤ 9223372036854775807 := by omega
        have hbf4 : bg + hold + fade ≤ 400000000 := by omega
        have hg7 : bg + hold + fade ≤ 7200000 * ((j : Int) + 1) := by omega
        have HSB := Lib.hid (TBox.new wr #[.int .i64 lv, .int .i64 hold, .int .i64 fade] 108)
        have HKB := Lib.hid (HK.out.below ((Below.refl wr.heap.size wr).alloc (Nat.le_refl _) (.cells #[.int .i64 lv, .int .i64 hold, .int .i64 fade] 108)))
        clear HK
        go_upto_region 7 with fail
        clear d0 d1 d2
        generalize hwB : wr.alloc (.cells #[.int .i64 lv, .int .i64 hold, .int .i64 fade] 108) = wB at *
        clear hwB
        obtain ⟨sb, hsbe⟩ : ∃ sb, sb = wr.heap.size := ⟨_, rfl⟩
        rw [← hsbe] at HSB ⊢
        have hsb4 : w.heap.size + 4 ≤ sb ∧ pb < sb ∧ sb < wB.heap.size := ⟨by omega, by omega, HSB.out.lt⟩
        clear hsbe aw
        generalize hb1 : bg + hold = b1 at *
        clear hb1
        have hbf0 : 0 ≤ b1 + fade := by omega
        have hbf9 : b1 + fade ≤ 9223372036854775807 := by omega
        have hf4 : fade ≤ 400000000 := by omega
        have hf9 : fade ≤ 9223372036854775807 := by omega
        have aw2 : IntKind.i64.wrap (b1 + fade) = b1 + fade := IntWalk.i64_in _ (by omega)
        have hdP : d < powW 6 := by omega
        refine region_heads (by kernel_rfl) 8 (by simp) (by kernel_rfl) (by kernel_rfl) (by kernel_rfl) (by kernel_rfl) (fun jx vx wx => match jx with | 0 => vx = (.agg #[.int .u64 (hw 0 p), .int .u64 (hw 1 p), .int .u64 (hw 2 p), .int .u64 (hw 3 p), .int .u64 (hw 4 p), .int .u64 (hw 5 p)]) | 1 => vx = (.pointer (some ⟨w.heap.size + 1, 1, none⟩)) | 2 => vx = (.int .i64 d) | 3 => vx = (.agg #[.int .u64 (hw 0 d), .int .u64 (hw 1 d), .int .u64 (hw 2 d), .int .u64 (hw 3 d), .int .u64 (hw 4 d), .int .u64 (hw 5 d)]) | 4 => vx = (.int .i64 b1) | 5 => Lit1 wB.heap.size vx (.int .i64 b1) wx | 6 => vx = (.agg #[.int .u64 (hw 0 (d * b1)), .int .u64 (hw 1 (d * b1)), .int .u64 (hw 2 (d * b1)), .int .u64 (hw 3 (d * b1)), .int .u64 (hw 4 (d * b1)), .int .u64 (hw 5 (d * b1))]) | 7 => vx = (.bool (decide (p < d * b1))) | _ => True) (fun W => Below wB.heap.size wB W) (fun wx wy => Below wx.heap.size wx wy) (Below.refl _ _).drew ?_ ?_ ?_ ?_
        · intro jx vx wx wy h g
          match jx, h with
          | 0, h => exact h
          | 1, h => exact h
          | 2, h => exact h
          | 3, h => exact h
          | 4, h => exact h
          | 5, h => exact Lit1.up h g
          | 6, h => exact h
          | 7, h => exact h
          | jx + 8, h => exact trivial
        · intro jx ox dx hj ho hd
          exact insN_of (by kernel_rfl) hj ho hd
        · intro ix ox ax W hi hio hsh hW hpre
          have hsz : wB.heap.size ≤ W.heap.size := hW.size
          have GA : ∀ ob, Below W.heap.size W (W.alloc ob) := fun ob => (Below.refl _ _).alloc (Nat.le_refl _) ob
          have WA : ∀ ob, Below wB.heap.size wB (W.alloc ob) := fun ob => hW.alloc hsz ob
          have t3 : ax.tmps[3]?.getD undef = (.pointer (some ⟨w.heap.size + 1, 0, none⟩)) := (Array.getD_eq_getD_getElem? ..).symm.trans ((hsh.2.2 3 (notN_of (by kernel_rfl))).trans rfl)
          have t6 : ax.tmps[6]?.getD undef = (.pointer (some ⟨pb, 0, none⟩)) := (Array.getD_eq_getD_getElem? ..).symm.trans ((hsh.2.2 6 (notN_of (by kernel_rfl))).trans rfl)
          have t7 : ax.tmps[7]?.getD undef = (.int .i64 b1) := (Array.getD_eq_getD_getElem? ..).symm.trans ((hsh.2.2 7 (notN_of (by kernel_rfl))).trans rfl)
          obtain ⟨q0, q1⟩ := (HKB.out.below hW).pc
          obtain ⟨h0, h1, h2, h3, h4, h5⟩ := hugeCells (HKB.out.below hW).2.2.1
          clear hsh
          match ix, hi, hio with
          | 0, _, hio =>
            cases hio
            exact hwp_val (v := .agg #[.int .u64 (hw 0 p), .int .u64 (hw 1 p), .int .u64 (hw 2 p), .int .u64 (hw 3 p), .int .u64 (hw 4 p), .int .u64 (hw 5 p)]) (w' := W) (by simp [execOp, Act.eval, t6, h0, h1, h2, h3, h4, h5, go_sem]) ⟨_, rfl, rfl, hW, Below.refl _ _⟩
          | 1, _, hio =>
            cases hio
            exact hwp_val (v := .pointer (some ⟨w.heap.size + 1, 1, none⟩)) (w' := W) (by simp [execOp, Act.eval, t3, go_sem]) ⟨_, rfl, rfl, hW, Below.refl _ _⟩
          | 2, _, hio =>
            cases hio
            have p1 := hpre ⟨1, .data⟩ (by simp) (by rfl) _ _ rfl rfl
            have f1 : ax.tmps[33]?.getD undef = (.pointer (some ⟨w.heap.size + 1, 1, none⟩)) := (Array.getD_eq_getD_getElem? ..).symm.trans p1
            exact hwp_val (v := .int .i64 d) (w' := W) (by simp [execOp, Act.eval, q1, f1, go_sem]) ⟨_, rfl, rfl, hW, Below.refl _ _⟩
          | 3, _, hio =>
            cases hio
            have p2 := hpre ⟨2, .data⟩ (by simp) (by rfl) _ _ rfl rfl
            have f2 : ax.tmps[34]?.getD undef = (.int .i64 d) := (Array.getD_eq_getD_getElem? ..).symm.trans p2
            refine hwp_enter (f := 113) (args := #[.int .i64 d]) (by simp [execOp, Act.eval, f2, go_sem]) ?_
            refine (cOf d hd0 hd2 W).mono ?_
            rintro ex wy ⟨rfl, hb⟩
            exact ⟨_, rfl, _, rfl, rfl, hW.trans (hb.mono hsz), hb⟩
          | 4, _, hio =>
            cases hio
            exact hwp_val (v := .int .i64 b1) (w' := W) (by simp [execOp, Act.eval, t7, go_sem]) ⟨_, rfl, rfl, hW, Below.refl _ _⟩
          | 5, _, hio =>
            cases hio
            have p4 := hpre ⟨4, .data⟩ (by simp) (by rfl) _ _ rfl rfl
            have f4 : ax.tmps[36]?.getD undef = (.int .i64 b1) := (Array.getD_eq_getD_getElem? ..).symm.trans p4
            exact hwp_val (v := .slice (some ⟨W.heap.size, 0, none⟩) 1 1) (w' := W.alloc (.cells #[.int .i64 b1] 3)) (by simp [execOp, Act.eval, f4, go_sem]) ⟨_, rfl, Lit1.new _ _ hsz, WA _, GA _⟩
          | 6, _, hio =>
            cases hio
            have p3 := hpre ⟨3, .data⟩ (by simp) (by rfl) _ _ rfl rfl
            have f3 : ax.tmps[35]?.getD undef = (.agg #[.int .u64 (hw 0 d), .int .u64 (hw 1 d), .int .u64 (hw 2 d), .int .u64 (hw 3 d), .int .u64 (hw 4 d), .int .u64 (hw 5 d)]) := (Array.getD_eq_getD_getElem? ..).symm.trans p3
            have p5 := hpre ⟨5, .data⟩ (by simp) (by rfl) _ _ rfl rfl
            obtain ⟨b5, e5, hb5, hl5, hc5⟩ := p5
            have f5 := (Array.getD_eq_getD_getElem? ..).symm.trans e5
            refine hwp_enter (f := 45) (args := #[.agg #[.int .u64 (hw 0 d), .int .u64 (hw 1 d), .int .u64 (hw 2 d), .int .u64 (hw 3 d), .int .u64 (hw 4 d), .int .u64 (hw 5 d)], .slice (some ⟨b5, 0, none⟩) 1 1]) (by simp [execOp, Act.eval, f3, f5, go_sem]) ?_
            refine (cTimes1 d b1 b5 W hd0 hb0 hb9 hdP (HM.out b1 hb0 hb4).2 hl5 hc5).mono ?_
            rintro ex wy ⟨rfl, hb⟩
            exact ⟨_, rfl, _, rfl, rfl, hW.trans (hb.mono hsz), hb⟩
          | 7, _, hio =>
            cases hio
            have p0 := hpre ⟨0, .data⟩ (by simp) (by rfl) _ _ rfl rfl
            have f0 : ax.tmps[32]?.getD undef = (.agg #[.int .u64 (hw 0 p), .int .u64 (hw 1 p), .int .u64 (hw 2 p), .int .u64 (hw 3 p), .int .u64 (hw 4 p), .int .u64 (hw 5 p)]) := (Array.getD_eq_getD_getElem? ..).symm.trans p0
            have p6 := hpre ⟨6, .data⟩ (by simp) (by rfl) _ _ rfl rfl
            have f6 : ax.tmps[38]?.getD undef = (.agg #[.int .u64 (hw 0 (d * b1)), .int .u64 (hw 1 (d * b1)), .int .u64 (hw 2 (d * b1)), .int .u64 (hw 3 (d * b1)), .int .u64 (hw 4 (d * b1)), .int .u64 (hw 5 (d * b1))]) := (Array.getD_eq_getD_getElem? ..).symm.trans p6
            refine hwp_enter (f := 49) (args := #[.agg #[.int .u64 (hw 0 p), .int .u64 (hw 1 p), .int .u64 (hw 2 p), .int .u64 (hw 3 p), .int .u64 (hw 4 p), .int .u64 (hw 5 p)], .agg #[.int .u64 (hw 0 (d * b1)), .int .u64 (hw 1 (d * b1)), .int .u64 (hw 2 (d * b1)), .int .u64 (hw 3 (d * b1)), .int .u64 (hw 4 (d * b1)), .int .u64 (hw 5 (d * b1))]]) (by simp [execOp, Act.eval, f0, f6, go_sem]) ?_
            refine (cLess p (d * b1) hpp0 hpp1 (HM.out b1 hb0 hb4).1 (HM.out b1 hb0 hb4).2 W).mono ?_
            rintro ex wy ⟨rfl, hb⟩
            exact ⟨_, rfl, _, rfl, rfl, hW.trans (hb.mono hsz), hb⟩
          | ix + 8, hi, _ => exact absurd hi (by omega)
        · intro ax wC hsh hW hφ
          have e0 : ax.tmps.getD 32 undef = (.agg #[.int .u64 (hw 0 p), .int .u64 (hw 1 p), .int .u64 (hw 2 p), .int .u64 (hw 3 p), .int .u64 (hw 4 p), .int .u64 (hw 5 p)]) := hφ 0 _ _ (by omega) rfl rfl
          have e1 : ax.tmps.getD 33 undef = (.pointer (some ⟨w.heap.size + 1, 1, none⟩)) := hφ 1 _ _ (by omega) rfl rfl
          have e2 : ax.tmps.getD 34 undef = (.int .i64 d) := hφ 2 _ _ (by omega) rfl rfl
          have e3 : ax.tmps.getD 35 undef = (.agg #[.int .u64 (hw 0 d), .int .u64 (hw 1 d), .int .u64 (hw 2 d), .int .u64 (hw 3 d), .int .u64 (hw 4 d), .int .u64 (hw 5 d)]) := hφ 3 _ _ (by omega) rfl rfl
          have e4 : ax.tmps.getD 36 undef = (.int .i64 b1) := hφ 4 _ _ (by omega) rfl rfl
          obtain ⟨b5, e5, hb5, hl5, hc5⟩ := hφ 5 _ _ (by omega) rfl rfl
          have e6 : ax.tmps.getD 38 undef = (.agg #[.int .u64 (hw 0 (d * b1)), .int .u64 (hw 1 (d * b1)), .int .u64 (hw 2 (d * b1)), .int .u64 (hw 3 (d * b1)), .int .u64 (hw 4 (d * b1)), .int .u64 (hw 5 (d * b1))]) := hφ 6 _ _ (by omega) rfl rfl
          have e7 : ax.tmps.getD 39 undef = (.bool (decide (p < d * b1))) := hφ 7 _ _ (by omega) rfl rfl
          rw [shape_puts hsh [(32, .agg #[.int .u64 (hw 0 p), .int .u64 (hw 1 p), .int .u64 (hw 2 p), .int .u64 (hw 3 p), .int .u64 (hw 4 p), .int .u64 (hw 5 p)]), (33, .pointer (some ⟨w.heap.size + 1, 1, none⟩)), (34, .int .i64 d), (35, .agg #[.int .u64 (hw 0 d), .int .u64 (hw 1 d), .int .u64 (hw 2 d), .int .u64 (hw 3 d), .int .u64 (hw 4 d), .int .u64 (hw 5 d)]), (36, .int .i64 b1), (37, .slice (some ⟨b5, 0, none⟩) 1 1), (38, .agg #[.int .u64 (hw 0 (d * b1)), .int .u64 (hw 1 (d * b1)), .int .u64 (hw 2 (d * b1)), .int .u64 (hw 3 (d * b1)), .int .u64 (hw 4 (d * b1)), .int .u64 (hw 5 (d * b1))]), (39, .bool (decide (p < d * b1)))] [32, 33, 34, 35, 36, 37, 38, 39] rfl (by kernel_rfl) ⟨e0, e1, e2, e3, e4, e5, e6, e7, trivial⟩]
          clear hφ hsh e0 e1 e2 e3 e4 e5 e6 e7
          clear hc5
          simp only [putsN, List.foldl_cons, List.foldl_nil, List.drop_succ_cons, List.drop_zero, Act.put, List.setIfInBounds_toArray, List.set_cons_succ, List.set_cons_zero]
          have HKC := Lib.hid (HKB.out.below hW)
          have HSC := Lib.hid (HSB.out.below hW)
          clear hW HKB HSB
          by_cases hp1' : p < d * b1
          · have HV := Lib.hid (HF1.out hp1')
            have hde : decide (p < d * b1) = true := by simpa using hp1'
            obtain ⟨s0, s1, s2⟩ := stpCells HSC.out
            have hsl := HSC.out.lt
            clear HF1 HF2 HF3
            go_wp2_with fail
            refine (cOf lv (by omega) (by omega) _).mono ?_
            rintro e wa ⟨rfl, hba⟩
            have HKa := Lib.hid (HKC.out.below hba)
            clear hba
            go_wp2_with fail
            refine (cOf 65535 (by omega) (by omega) _).mono ?_
            rintro e wb ⟨rfl, hbb⟩
            have HKb := Lib.hid (HKa.out.below hbb)
            clear hbb
            have r2 := HKb.out.2.1.1
            have r3 := HKb.out.2.1.2
            have x0 : wb.cell? ⟨w.heap.size + 1 + 1, 0, none⟩ = _ := r2.cell (i := 0) rfl
            have xf0 : wb.frozen? ⟨w.heap.size + 1 + 1, 0, none⟩ = _ := r2.frozen 0
            have y0 : wb.cell? ⟨w.heap.size + 1 + 1 + 1, 0, none⟩ = _ := r3.cell (i := 0) rfl
            have yf0 : wb.frozen? ⟨w.heap.size + 1 + 1 + 1, 0, none⟩ = _ := r3.frozen 0
            have x1 : wb.cell? ⟨w.heap.size + 1 + 1, 1, none⟩ = _ := r2.cell (i := 1) rfl
            have xf1 : wb.frozen? ⟨w.heap.size + 1 + 1, 1, none⟩ = _ := r2.frozen 1
            have y1 : wb.cell? ⟨w.heap.size + 1 + 1 + 1, 1, none⟩ = _ := r3.cell (i := 1) rfl
            have yf1 : wb.frozen? ⟨w.heap.size + 1 + 1 + 1, 1, none⟩ = _ := r3.frozen 1
            have x2 : wb.cell? ⟨w.heap.size + 1 + 1, 2, none⟩ = _ := r2.cell (i := 2) rfl
            have xf2 : wb.frozen? ⟨w.heap.size + 1 + 1, 2, none⟩ = _ := r2.frozen 2
            have y2 : wb.cell? ⟨w.heap.size + 1 + 1 + 1, 2, none⟩ = _ := r3.cell (i := 2) rfl
            have yf2 : wb.frozen? ⟨w.heap.size + 1 + 1 + 1, 2, none⟩ = _ := r3.frozen 2
            have x3 : wb.cell? ⟨w.heap.size + 1 + 1, 3, none⟩ = _ := r2.cell (i := 3) rfl
            have xf3 : wb.frozen? ⟨w.heap.size + 1 + 1, 3, none⟩ = _ := r2.frozen 3
            have y3 : wb.cell? ⟨w.heap.size + 1 + 1 + 1, 3, none⟩ = _ := r3.cell (i := 3) rfl
            have yf3 : wb.frozen? ⟨w.heap.size + 1 + 1 + 1, 3, none⟩ = _ := r3.frozen 3
            have x4 : wb.cell? ⟨w.heap.size + 1 + 1, 4, none⟩ = _ := r2.cell (i := 4) rfl
            have xf4 : wb.frozen? ⟨w.heap.size + 1 + 1, 4, none⟩ = _ := r2.frozen 4
            have y4 : wb.cell? ⟨w.heap.size + 1 + 1 + 1, 4, none⟩ = _ := r3.cell (i := 4) rfl
            have yf4 : wb.frozen? ⟨w.heap.size + 1 + 1 + 1, 4, none⟩ = _ := r3.frozen 4
            have x5 : wb.cell? ⟨w.heap.size + 1 + 1, 5, none⟩ = _ := r2.cell (i := 5) rfl
            have xf5 : wb.frozen? ⟨w.heap.size + 1 + 1, 5, none⟩ = _ := r2.frozen 5
            have y5 : wb.cell? ⟨w.heap.size + 1 + 1 + 1, 5, none⟩ = _ := r3.cell (i := 5) rfl
            have yf5 : wb.frozen? ⟨w.heap.size + 1 + 1 + 1, 5, none⟩ = _ := r3.frozen 5
            have HBE := Lib.hid (fun (u0 u1 u2 u3 u4 u5 v0 v1 v2 v3 v4 v5 : Value) => ((((((((((((HKb.out.bel.setCell (p := ⟨w.heap.size + 1 + 1, 0, none⟩) (by simp; omega) u0).setCell (p := ⟨w.heap.size + 1 + 1, 1, none⟩) (by simp; omega) u1).setCell (p := ⟨w.heap.size + 1 + 1, 2, none⟩) (by simp; omega) u2).setCell (p := ⟨w.heap.size + 1 + 1, 3, none⟩) (by simp; omega) u3).setCell (p := ⟨w.heap.size + 1 + 1, 4, none⟩) (by simp; omega) u4).setCell (p := ⟨w.heap.size + 1 + 1, 5, none⟩) (by simp; omega) u5).setCell (p := ⟨w.heap.size + 1 + 1 + 1, 0, none⟩) (by simp; omega) v0).setCell (p := ⟨w.heap.size + 1 + 1 + 1, 1, none⟩) (by simp; omega) v1).setCell (p := ⟨w.heap.size + 1 + 1 + 1, 2, none⟩) (by simp; omega) v2).setCell (p := ⟨w.heap.size + 1 + 1 + 1, 3, none⟩) (by simp; omega) v3).setCell (p := ⟨w.heap.size + 1 + 1 + 1, 4, none⟩) (by simp; omega) v4).setCell (p := ⟨w.heap.size + 1 + 1 + 1, 5, none⟩) (by simp; omega) v5))
            clear r2 r3
            go_wp2_with fail
            exact bodyPost_ret (v := .tuple #[.agg #[.int .u64 (hw 0 lv), .int .u64 (hw 1 lv), .int .u64 (hw 2 lv), .int .u64 (hw 3 lv), .int .u64 (hw 4 lv), .int .u64 (hw 5 lv)], .agg #[.int .u64 (hw 0 65535), .int .u64 (hw 1 65535), .int .u64 (hw 2 65535), .int .u64 (hw 3 65535), .int .u64 (hw 4 65535), .int .u64 (hw 5 65535)]]) (by simp [results, Try.results154, go_sem, x0, y0, x1, y1, x2, y2, x3, y3, x4, y4, x5, y5]) rfl ⟨by rw [HV.out], HBE.out _ _ _ _ _ _ _ _ _ _ _ _⟩
          · have hde : decide (p < d * b1) = false := by simpa using hp1'
            clear HF1
            go_upto_region 9 with fail
            refine region_heads (by kernel_rfl) 11 (by simp) (by kernel_rfl) (by kernel_rfl) (by kernel_rfl) (by kernel_rfl) (fun jx vx wx => match jx with | 0 => vx = (.agg #[.int .u64 (hw 0 p), .int .u64 (hw 1 p), .int .u64 (hw 2 p), .int .u64 (hw 3 p), .int .u64 (hw 4 p), .int .u64 (hw 5 p)]) | 1 => vx = (.pointer (some ⟨w.heap.size + 1, 1, none⟩)) | 2 => vx = (.int .i64 d) | 3 => vx = (.agg #[.int .u64 (hw 0 d), .int .u64 (hw 1 d), .int .u64 (hw 2 d), .int .u64 (hw 3 d), .int .u64 (hw 4 d), .int .u64 (hw 5 d)]) | 4 => vx = (.int .i64 b1) | 5 => vx = (.pointer (some ⟨sb, 2, none⟩)) | 6 => vx = (.int .i64 fade) | 7 => vx = (.int .i64 (b1 + fade)) | 8 => Lit1 wC.heap.size vx (.int .i64 (b1 + fade)) wx | 9 => vx = (.agg #[.int .u64 (hw 0 (d * (b1 + fade))), .int .u64 (hw 1 (d * (b1 + fade))), .int .u64 (hw 2 (d * (b1 + fade))), .int .u64 (hw 3 (d * (b1 + fade))), .int .u64 (hw 4 (d * (b1 + fade))), .int .u64 (hw 5 (d * (b1 + fade)))]) | 10 => vx = (.bool (decide (p < d * (b1 + fade)))) | _ => True) (fun W => Below wC.heap.size wC W) (fun wx wy => Below wx.heap.size wx wy) (Below.refl _ _).drew ?_ ?_ ?_ ?_
            · intro jx vx wx wy h g
              match jx, h with
              | 0, h => exact h
              | 1, h => exact h
              | 2, h => exact h
              | 3, h => exact h
              | 4, h => exact h
              | 5, h => exact h
              | 6, h => exact h
              | 7, h => exact h
              | 8, h => exact Lit1.up h g
              | 9, h => exact h
              | 10, h => exact h
              | jx + 11, h => exact trivial
            · intro jx ox dx hj ho hd
              exact insN_of (by kernel_rfl) hj ho hd
            · intro ix ox ax W hi hio hsh hW hpre
              have hsz : wC.heap.size ≤ W.heap.size := hW.size
              have GA : ∀ ob, Below W.heap.size W (W.alloc ob) := fun ob => (Below.refl _ _).alloc (Nat.le_refl _) ob
              have WA : ∀ ob, Below wC.heap.size wC (W.alloc ob) := fun ob => hW.alloc hsz ob
              have t3 : ax.tmps[3]?.getD undef = (.pointer (some ⟨w.heap.size + 1, 0, none⟩)) := (Array.getD_eq_getD_getElem? ..).symm.trans ((hsh.2.2 3 (notN_of (by kernel_rfl))).trans rfl)
              have t6 : ax.tmps[6]?.getD undef = (.pointer (some ⟨pb, 0, none⟩)) := (Array.getD_eq_getD_getElem? ..).symm.trans ((hsh.2.2 6 (notN_of (by kernel_rfl))).trans rfl)
              have t7 : ax.tmps[7]?.getD undef = (.int .i64 b1) := (Array.getD_eq_getD_getElem? ..).symm.trans ((hsh.2.2 7 (notN_of (by kernel_rfl))).trans rfl)
              have t9 : ax.tmps[9]?.getD undef = (.pointer (some ⟨sb, 0, none⟩)) := (Array.getD_eq_getD_getElem? ..).symm.trans ((hsh.2.2 9 (notN_of (by kernel_rfl))).trans rfl)
              obtain ⟨q0, q1⟩ := (HKC.out.below hW).pc
              obtain ⟨h0, h1, h2, h3, h4, h5⟩ := hugeCells (HKC.out.below hW).2.2.1
              obtain ⟨s0, s1, s2⟩ := stpCells (HSC.out.below hW)
              clear hsh
              match ix, hi, hio with
              | 0, _, hio =>
                cases hio
                exact hwp_val (v := .agg #[.int .u64 (hw 0 p), .int .u64 (hw 1 p), .int .u64 (hw 2 p), .int .u64 (hw 3 p), .int .u64 (hw 4 p), .int .u64 (hw 5 p)]) (w' := W) (by simp [execOp, Act.eval, t6, h0, h1, h2, h3, h4, h5, go_sem]) ⟨_, rfl, rfl, hW, Below.refl _ _⟩
              | 1, _, hio =>
                cases hio
                exact hwp_val (v := .pointer (some ⟨w.heap.size + 1, 1, none⟩)) (w' := W) (by simp [execOp, Act.eval, t3, go_sem]) ⟨_, rfl, rfl, hW, Below.refl _ _⟩
              | 2, _, hio =>
                cases hio
                have p1 := hpre ⟨1, .data⟩ (by simp) (by rfl) _ _ rfl rfl
                have f1 : ax.tmps[45]?.getD undef = (.pointer (some ⟨w.heap.size + 1, 1, none⟩)) := (Array.getD_eq_getD_getElem? ..).symm.trans p1
                exact hwp_val (v := .int .i64 d) (w' := W) (by simp [execOp, Act.eval, q1, f1, go_sem]) ⟨_, rfl, rfl, hW, Below.refl _ _⟩
              | 3, _, hio =>
                cases hio
                have p2 := hpre ⟨2, .data⟩ (by simp) (by rfl) _ _ rfl rfl
                have f2 : ax.tmps[46]?.getD undef = (.int .i64 d) := (Array.getD_eq_getD_getElem? ..).symm.trans p2
                refine hwp_enter (f := 113) (args := #[.int .i64 d]) (by simp [execOp, Act.eval, f2, go_sem]) ?_
                refine (cOf d hd0 hd2 W).mono ?_
                rintro ex wy ⟨rfl, hb⟩
                exact ⟨_, rfl, _, rfl, rfl, hW.trans (hb.mono hsz), hb⟩
              | 4, _, hio =>
                cases hio
                exact hwp_val (v := .int .i64 b1) (w' := W) (by simp [execOp, Act.eval, t7, go_sem]) ⟨_, rfl, rfl, hW, Below.refl _ _⟩
              | 5, _, hio =>
                cases hio
                exact hwp_val (v := .pointer (some ⟨sb, 2, none⟩)) (w' := W) (by simp [execOp, Act.eval, t9, go_sem]) ⟨_, rfl, rfl, hW, Below.refl _ _⟩
              | 6, _, hio =>
                cases hio
                have p5 := hpre ⟨5, .data⟩ (by simp) (by rfl) _ _ rfl rfl
                have f5 : ax.tmps[49]?.getD undef = (.pointer (some ⟨sb, 2, none⟩)) := (Array.getD_eq_getD_getElem? ..).symm.trans p5
                exact hwp_val (v := .int .i64 fade) (w' := W) (by simp [execOp, Act.eval, s2, f5, go_sem]) ⟨_, rfl, rfl, hW, Below.refl _ _⟩
              | 7, _, hio =>
                cases hio
                have p4 := hpre ⟨4, .data⟩ (by simp) (by rfl) _ _ rfl rfl
                have f4 : ax.tmps[48]?.getD undef = (.int .i64 b1) := (Array.getD_eq_getD_getElem? ..).symm.trans p4
                have p6 := hpre ⟨6, .data⟩ (by simp) (by rfl) _ _ rfl rfl
                have f6 : ax.tmps[50]?.getD undef = (.int .i64 fade) := (Array.getD_eq_getD_getElem? ..).symm.trans p6
                exact hwp_val (v := .int .i64 (b1 + fade)) (w' := W) (by simp [execOp, Act.eval, aw2, f4, f6, go_sem]) ⟨_, rfl, rfl, hW, Below.refl _ _⟩
              | 8, _, hio =>
                cases hio
                have p7 := hpre ⟨7, .data⟩ (by simp) (by rfl) _ _ rfl rfl
                have f7 : ax.tmps[51]?.getD undef = (.int .i64 (b1 + fade)) := (Array.getD_eq_getD_getElem? ..).symm.trans p7
                exact hwp_val (v := .slice (some ⟨W.heap.size, 0, none⟩) 1 1) (w' := W.alloc (.cells #[.int .i64 (b1 + fade)] 3)) (by simp [execOp, Act.eval, f7, go_sem]) ⟨_, rfl, Lit1.new _ _ hsz, WA _, GA _⟩
              | 9, _, hio =>
                cases hio
                have p3 := hpre ⟨3, .data⟩ (by simp) (by rfl) _ _ rfl rfl
                have f3 : ax.tmps[47]?.getD undef = (.agg #[.int .u64 (hw 0 d), .int .u64 (hw 1 d), .int .u64 (hw 2 d), .int .u64 (hw 3 d), .int .u64 (hw 4 d), .int .u64 (hw 5 d)]) := (Array.getD_eq_getD_getElem? ..).symm.trans p3
                have p8 := hpre ⟨8, .data⟩ (by simp) (by rfl) _ _ rfl rfl
                obtain ⟨b8, e8, hb8, hl8, hc8⟩ := p8
                have f8 := (Array.getD_eq_getD_getElem? ..).symm.trans e8
                refine hwp_enter (f := 45) (args := #[.agg #[.int .u64 (hw 0 d), .int .u64 (hw 1 d), .int .u64 (hw 2 d), .int .u64 (hw 3 d), .int .u64 (hw 4 d), .int .u64 (hw 5 d)], .slice (some ⟨b8, 0, none⟩) 1 1]) (by simp [execOp, Act.eval, f3, f8, go_sem]) ?_
                refine (cTimes1 d (b1 + fade) b8 W hd0 hbf0 hbf9 hdP (HM.out (b1 + fade) hbf0 hbf4).2 hl8 hc8).mono ?_
                rintro ex wy ⟨rfl, hb⟩
                exact ⟨_, rfl, _, rfl, rfl, hW.trans (hb.mono hsz), hb⟩
              | 10, _, hio =>
                cases hio
                have p0 := hpre ⟨0, .data⟩ (by simp) (by rfl) _ _ rfl rfl
                have f0 : ax.tmps[44]?.getD undef = (.agg #[.int .u64 (hw 0 p), .int .u64 (hw 1 p), .int .u64 (hw 2 p), .int .u64 (hw 3 p), .int .u64 (hw 4 p), .int .u64 (hw 5 p)]) := (Array.getD_eq_getD_getElem? ..).symm.trans p0
                have p9 := hpre ⟨9, .data⟩ (by simp) (by rfl) _ _ rfl rfl
                have f9 : ax.tmps[53]?.getD undef = (.agg #[.int .u64 (hw 0 (d * (b1 + fade))), .int .u64 (hw 1 (d * (b1 + fade))), .int .u64 (hw 2 (d * (b1 + fade))), .int .u64 (hw 3 (d * (b1 + fade))), .int .u64 (hw 4 (d * (b1 + fade))), .int .u64 (hw 5 (d * (b1 + fade)))]) := (Array.getD_eq_getD_getElem? ..).symm.trans p9
                refine hwp_enter (f := 49) (args := #[.agg #[.int .u64 (hw 0 p), .int .u64 (hw 1 p), .int .u64 (hw 2 p), .int .u64 (hw 3 p), .int .u64 (hw 4 p), .int .u64 (hw 5 p)], .agg #[.int .u64 (hw 0 (d * (b1 + fade))), .int .u64 (hw 1 (d * (b1 + fade))), .int .u64 (hw 2 (d * (b1 + fade))), .int .u64 (hw 3 (d * (b1 + fade))), .int .u64 (hw 4 (d * (b1 + fade))), .int .u64 (hw 5 (d * (b1 + fade)))]]) (by simp [execOp, Act.eval, f0, f9, go_sem]) ?_
                refine (cLess p (d * (b1 + fade)) hpp0 hpp1 (HM.out (b1 + fade) hbf0 hbf4).1 (HM.out (b1 + fade) hbf0 hbf4).2 W).mono ?_
                rintro ex wy ⟨rfl, hb⟩
                exact ⟨_, rfl, _, rfl, rfl, hW.trans (hb.mono hsz), hb⟩
              | ix + 11, hi, _ => exact absurd hi (by omega)
            · intro ax wD hsh hW hφ
              have e0 : ax.tmps.getD 44 undef = (.agg #[.int .u64 (hw 0 p), .int .u64 (hw 1 p), .int .u64 (hw 2 p), .int .u64 (hw 3 p), .int .u64 (hw 4 p), .int .u64 (hw 5 p)]) := hφ 0 _ _ (by omega) rfl rfl
              have e1 : ax.tmps.getD 45 undef = (.pointer (some ⟨w.heap.size + 1, 1, none⟩)) := hφ 1 _ _ (by omega) rfl rfl
              have e2 : ax.tmps.getD 46 undef = (.int .i64 d) := hφ 2 _ _ (by omega) rfl rfl
              have e3 : ax.tmps.getD 47 undef = (.agg #[.int .u64 (hw 0 d), .int .u64 (hw 1 d), .int .u64 (hw 2 d), .int .u64 (hw 3 d), .int .u64 (hw 4 d), .int .u64 (hw 5 d)]) := hφ 3 _ _ (by omega) rfl rfl
              have e4 : ax.tmps.getD 48 undef = (.int .i64 b1) := hφ 4 _ _ (by omega) rfl rfl
              have e5 : ax.tmps.getD 49 undef = (.pointer (some ⟨sb, 2, none⟩)) := hφ 5 _ _ (by omega) rfl rfl
              have e6 : ax.tmps.getD 50 undef = (.int .i64 fade) := hφ 6 _ _ (by omega) rfl rfl
              have e7 : ax.tmps.getD 51 undef = (.int .i64 (b1 + fade)) := hφ 7 _ _ (by omega) rfl rfl
              obtain ⟨b8, e8, hb8, hl8, hc8⟩ := hφ 8 _ _ (by omega) rfl rfl
              have e9 : ax.tmps.getD 53 undef = (.agg #[.int .u64 (hw 0 (d * (b1 + fade))), .int .u64 (hw 1 (d * (b1 + fade))), .int .u64 (hw 2 (d * (b1 + fade))), .int .u64 (hw 3 (d * (b1 + fade))), .int .u64 (hw 4 (d * (b1 + fade))), .int .u64 (hw 5 (d * (b1 + fade)))]) := hφ 9 _ _ (by omega) rfl rfl
              have e10 : ax.tmps.getD 54 undef = (.bool (decide (p < d * (b1 + fade)))) := hφ 10 _ _ (by omega) rfl rfl
              rw [shape_puts hsh [(44, .agg #[.int .u64 (hw 0 p), .int .u64 (hw 1 p), .int .u64 (hw 2 p), .int .u64 (hw 3 p), .int .u64 (hw 4 p), .int .u64 (hw 5 p)]), (45, .pointer (some ⟨w.heap.size + 1, 1, none⟩)), (46, .int .i64 d), (47, .agg #[.int .u64 (hw 0 d), .int .u64 (hw 1 d), .int .u64 (hw 2 d), .int .u64 (hw 3 d), .int .u64 (hw 4 d), .int .u64 (hw 5 d)]), (48, .int .i64 b1), (49, .pointer (some ⟨sb, 2, none⟩)), (50, .int .i64 fade), (51, .int .i64 (b1 + fade)), (52, .slice (some ⟨b8, 0, none⟩) 1 1), (53, .agg #[.int .u64 (hw 0 (d * (b1 + fade))), .int .u64 (hw 1 (d * (b1 + fade))), .int .u64 (hw 2 (d * (b1 + fade))), .int .u64 (hw 3 (d * (b1 + fade))), .int .u64 (hw 4 (d * (b1 + fade))), .int .u64 (hw 5 (d * (b1 + fade)))]), (54, .bool (decide (p < d * (b1 + fade))))] [44, 45, 46, 47, 48, 49, 50, 51, 52, 53, 54] rfl (by kernel_rfl) ⟨e0, e1, e2, e3, e4, e5, e6, e7, e8, e9, e10, trivial⟩]
              clear hφ hsh e0 e1 e2 e3 e4 e5 e6 e7 e8 e9 e10
              clear hc8
              simp only [putsN, List.foldl_cons, List.foldl_nil, List.drop_succ_cons, List.drop_zero, Act.put, List.setIfInBounds_toArray, List.set_cons_succ, List.set_cons_zero]
              have HKD := Lib.hid (HKC.out.below hW)
              have HSD := Lib.hid (HSC.out.below hW)
              clear hW HKC HSC
              by_cases hp2' : p < d * (b1 + fade)
              · have hde2 : decide (p < d * (b1 + fade)) = true := by simpa using hp2'
                have HV := Lib.hid (HF2.out hp1' hp2')
                have hge : d * b1 ≤ p := by omega
                clear HF2 HF3
                go_upto_region 10 with fail
                refine region_heads (by kernel_rfl) 9 (by simp) (by kernel_rfl) (by kernel_rfl) (by kernel_rfl) (by kernel_rfl) (fun jx vx wx => match jx with | 0 => vx = (.agg #[.int .u64 (hw 0 p), .int .u64 (hw 1 p), .int .u64 (hw 2 p), .int .u64 (hw 3 p), .int .u64 (hw 4 p), .int .u64 (hw 5 p)]) | 1 => vx = (.pointer (some ⟨w.heap.size + 1, 1, none⟩)) | 2 => vx = (.int .i64 d) | 3 => vx = (.agg #[.int .u64 (hw 0 d), .int .u64 (hw 1 d), .int .u64 (hw 2 d), .int .u64 (hw 3 d), .int .u64 (hw 4 d), .int .u64 (hw 5 d)]) | 4 => vx = (.int .i64 b1) | 5 => Lit1 wD.heap.size vx (.int .i64 b1) wx | 6 => vx = (.agg #[.int .u64 (hw 0 (d * b1)), .int .u64 (hw 1 (d * b1)), .int .u64 (hw 2 (d * b1)), .int .u64 (hw 3 (d * b1)), .int .u64 (hw 4 (d * b1)), .int .u64 (hw 5 (d * b1))]) | 7 => vx = (.agg #[.int .u64 (hw 0 (p - d * b1)), .int .u64 (hw 1 (p - d * b1)), .int .u64 (hw 2 (p - d * b1)), .int .u64 (hw 3 (p - d * b1)), .int .u64 (hw 4 (p - d * b1)), .int .u64 (hw 5 (p - d * b1))]) | 8 => Box1 wD.heap.size 77 #[.int .u64 0, .int .u64 0, .int .u64 0, .int .u64 0, .int .u64 0, .int .u64 0] vx wx | _ => True) (fun W => Below wD.heap.size wD W) (fun wx wy => Below wx.heap.size wx wy) (Below.refl _ _).drew ?_ ?_ ?_ ?_
                · intro jx vx wx wy h g
                  match jx, h with
                  | 0, h => exact h
                  | 1, h => exact h
                  | 2, h => exact h
                  | 3, h => exact h
                  | 4, h => exact h
                  | 5, h => exact Lit1.up h g
                  | 6, h => exact h
                  | 7, h => exact h
                  | 8, h => exact Box1.up h g
                  | jx + 9, h => exact trivial
                · intro jx ox dx hj ho hd
                  exact insN_of (by kernel_rfl) hj ho hd
                · intro ix ox ax W hi hio hsh hW hpre
                  have hsz : wD.heap.size ≤ W.heap.size := hW.size
                  have GA : ∀ ob, Below W.heap.size W (W.alloc ob) := fun ob => (Below.refl _ _).alloc (Nat.le_refl _) ob
                  have WA : ∀ ob, Below wD.heap.size wD (W.alloc ob) := fun ob => hW.alloc hsz ob
                  have t3 : ax.tmps[3]?.getD undef = (.pointer (some ⟨w.heap.size + 1, 0, none⟩)) := (Array.getD_eq_getD_getElem? ..).symm.trans ((hsh.2.2 3 (notN_of (by kernel_rfl))).trans rfl)
                  have t6 : ax.tmps[6]?.getD undef = (.pointer (some ⟨pb, 0, none⟩)) := (Array.getD_eq_getD_getElem? ..).symm.trans ((hsh.2.2 6 (notN_of (by kernel_rfl))).trans rfl)
                  have t7 : ax.tmps[7]?.getD undef = (.int .i64 b1) := (Array.getD_eq_getD_getElem? ..).symm.trans ((hsh.2.2 7 (notN_of (by kernel_rfl))).trans rfl)
                  obtain ⟨q0, q1⟩ := (HKD.out.below hW).pc
                  obtain ⟨h0, h1, h2, h3, h4, h5⟩ := hugeCells (HKD.out.below hW).2.2.1
                  clear hsh
                  match ix, hi, hio with
                  | 0, _, hio =>
                    cases hio
                    exact hwp_val (v := .agg #[.int .u64 (hw 0 p), .int .u64 (hw 1 p), .int .u64 (hw 2 p), .int .u64 (hw 3 p), .int .u64 (hw 4 p), .int .u64 (hw 5 p)]) (w' := W) (by simp [execOp, Act.eval, t6, h0, h1, h2, h3, h4, h5, go_sem]) ⟨_, rfl, rfl, hW, Below.refl _ _⟩
                  | 1, _, hio =>
                    cases hio
                    exact hwp_val (v := .pointer (some ⟨w.heap.size + 1, 1, none⟩)) (w' := W) (by simp [execOp, Act.eval, t3, go_sem]) ⟨_, rfl, rfl, hW, Below.refl _ _⟩
                  | 2, _, hio =>
                    cases hio
                    have p1 := hpre ⟨1, .data⟩ (by simp) (by rfl) _ _ rfl rfl
                    have f1 : ax.tmps[56]?.getD undef = (.pointer (some ⟨w.heap.size + 1, 1, none⟩)) := (Array.getD_eq_getD_getElem? ..).symm.trans p1
                    exact hwp_val (v := .int .i64 d) (w' := W) (by simp [execOp, Act.eval, q1, f1, go_sem]) ⟨_, rfl, rfl, hW, Below.refl _ _⟩
                  | 3, _, hio =>
                    cases hio
                    have p2 := hpre ⟨2, .data⟩ (by simp) (by rfl) _ _ rfl rfl
                    have f2 : ax.tmps[57]?.getD undef = (.int .i64 d) := (Array.getD_eq_getD_getElem? ..).symm.trans p2
                    refine hwp_enter (f := 113) (args := #[.int .i64 d]) (by simp [execOp, Act.eval, f2, go_sem]) ?_
                    refine (cOf d hd0 hd2 W).mono ?_
                    rintro ex wy ⟨rfl, hb⟩
                    exact ⟨_, rfl, _, rfl, rfl, hW.trans (hb.mono hsz), hb⟩
                  | 4, _, hio =>
                    cases hio
                    exact hwp_val (v := .int .i64 b1) (w' := W) (by simp [execOp, Act.eval, t7, go_sem]) ⟨_, rfl, rfl, hW, Below.refl _ _⟩
                  | 5, _, hio =>
                    cases hio
                    have p4 := hpre ⟨4, .data⟩ (by simp) (by rfl) _ _ rfl rfl
                    have f4 : ax.tmps[59]?.getD undef = (.int .i64 b1) := (Array.getD_eq_getD_getElem? ..).symm.trans p4
                    exact hwp_val (v := .slice (some ⟨W.heap.size, 0, none⟩) 1 1) (w' := W.alloc (.cells #[.int .i64 b1] 3)) (by simp [execOp, Act.eval, f4, go_sem]) ⟨_, rfl, Lit1.new _ _ hsz, WA _, GA _⟩
                  | 6, _, hio =>
                    cases hio
                    have p3 := hpre ⟨3, .data⟩ (by simp) (by rfl) _ _ rfl rfl
                    have f3 : ax.tmps[58]?.getD undef = (.agg #[.int .u64 (hw 0 d), .int .u64 (hw 1 d), .int .u64 (hw 2 d), .int .u64 (hw 3 d), .int .u64 (hw 4 d), .int .u64 (hw 5 d)]) := (Array.getD_eq_getD_getElem? ..).symm.trans p3
                    have p5 := hpre ⟨5, .data⟩ (by simp) (by rfl) _ _ rfl rfl
                    obtain ⟨b5, e5, hb5, hl5, hc5⟩ := p5
                    have f5 := (Array.getD_eq_getD_getElem? ..).symm.trans e5
                    refine hwp_enter (f := 45) (args := #[.agg #[.int .u64 (hw 0 d), .int .u64 (hw 1 d), .int .u64 (hw 2 d), .int .u64 (hw 3 d), .int .u64 (hw 4 d), .int .u64 (hw 5 d)], .slice (some ⟨b5, 0, none⟩) 1 1]) (by simp [execOp, Act.eval, f3, f5, go_sem]) ?_
                    refine (cTimes1 d b1 b5 W hd0 hb0 hb9 hdP (HM.out b1 hb0 hb4).2 hl5 hc5).mono ?_
                    rintro ex wy ⟨rfl, hb⟩
                    exact ⟨_, rfl, _, rfl, rfl, hW.trans (hb.mono hsz), hb⟩
                  | 7, _, hio =>
                    cases hio
                    have p0 := hpre ⟨0, .data⟩ (by simp) (by rfl) _ _ rfl rfl
                    have f0 : ax.tmps[55]?.getD undef = (.agg #[.int .u64 (hw 0 p), .int .u64 (hw 1 p), .int .u64 (hw 2 p), .int .u64 (hw 3 p), .int .u64 (hw 4 p), .int .u64 (hw 5 p)]) := (Array.getD_eq_getD_getElem? ..).symm.trans p0
                    have p6 := hpre ⟨6, .data⟩ (by simp) (by rfl) _ _ rfl rfl
                    have f6 : ax.tmps[61]?.getD undef = (.agg #[.int .u64 (hw 0 (d * b1)), .int .u64 (hw 1 (d * b1)), .int .u64 (hw 2 (d * b1)), .int .u64 (hw 3 (d * b1)), .int .u64 (hw 4 (d * b1)), .int .u64 (hw 5 (d * b1))]) := (Array.getD_eq_getD_getElem? ..).symm.trans p6
                    refine hwp_enter (f := 116) (args := #[.agg #[.int .u64 (hw 0 p), .int .u64 (hw 1 p), .int .u64 (hw 2 p), .int .u64 (hw 3 p), .int .u64 (hw 4 p), .int .u64 (hw 5 p)], .agg #[.int .u64 (hw 0 (d * b1)), .int .u64 (hw 1 (d * b1)), .int .u64 (hw 2 (d * b1)), .int .u64 (hw 3 (d * b1)), .int .u64 (hw 4 (d * b1)), .int .u64 (hw 5 (d * b1))]]) (by simp [execOp, Act.eval, f0, f6, go_sem]) ?_
                    refine (cMinus p (d * b1) hpp1 (HM.out b1 hb0 hb4).1 hge W).mono ?_
                    rintro ex wy ⟨rfl, hb⟩
                    exact ⟨_, rfl, _, rfl, rfl, hW.trans (hb.mono hsz), hb⟩
                  | 8, _, hio =>
                    cases hio
                    exact hwp_val (v := .pointer (some ⟨W.heap.size, 0, none⟩)) (w' := W.alloc (.cells #[.int .u64 0, .int .u64 0, .int .u64 0, .int .u64 0, .int .u64 0, .int .u64 0] 77)) (by simp [execOp, Act.eval, zeroHuge_, go_sem]) ⟨_, rfl, Box1.new _ _ hsz, WA _, GA _⟩
                  | ix + 9, hi, _ => exact absurd hi (by omega)
                · intro ax wE hsh hW hφ
                  have e0 : ax.tmps.getD 55 undef = (.agg #[.int .u64 (hw 0 p), .int .u64 (hw 1 p), .int .u64 (hw 2 p), .int .u64 (hw 3 p), .int .u64 (hw 4 p), .int .u64 (hw 5 p)]) := hφ 0 _ _ (by omega) rfl rfl
                  have e1 : ax.tmps.getD 56 undef = (.pointer (some ⟨w.heap.size + 1, 1, none⟩)) := hφ 1 _ _ (by omega) rfl rfl
                  have e2 : ax.tmps.getD 57 undef = (.int .i64 d) := hφ 2 _ _ (by omega) rfl rfl
                  have e3 : ax.tmps.getD 58 undef = (.agg #[.int .u64 (hw 0 d), .int .u64 (hw 1 d), .int .u64 (hw 2 d), .int .u64 (hw 3 d), .int .u64 (hw 4 d), .int .u64 (hw 5 d)]) := hφ 3 _ _ (by omega) rfl rfl
                  have e4 : ax.tmps.getD 59 undef = (.int .i64 b1) := hφ 4 _ _ (by omega) rfl rfl
                  obtain ⟨b5, e5, hb5, hl5, hc5⟩ := hφ 5 _ _ (by omega) rfl rfl
                  have e6 : ax.tmps.getD 61 undef = (.agg #[.int .u64 (hw 0 (d * b1)), .int .u64 (hw 1 (d * b1)), .int .u64 (hw 2 (d * b1)), .int .u64 (hw 3 (d * b1)), .int .u64 (hw 4 (d * b1)), .int .u64 (hw 5 (d * b1))]) := hφ 6 _ _ (by omega) rfl rfl
                  have e7 : ax.tmps.getD 62 undef = (.agg #[.int .u64 (hw 0 (p - d * b1)), .int .u64 (hw 1 (p - d * b1)), .int .u64 (hw 2 (p - d * b1)), .int .u64 (hw 3 (p - d * b1)), .int .u64 (hw 4 (p - d * b1)), .int .u64 (hw 5 (p - d * b1))]) := hφ 7 _ _ (by omega) rfl rfl
                  obtain ⟨b8, e8, hb8, hl8⟩ := hφ 8 _ _ (by omega) rfl rfl
                  rw [shape_puts hsh [(55, .agg #[.int .u64 (hw 0 p), .int .u64 (hw 1 p), .int .u64 (hw 2 p), .int .u64 (hw 3 p), .int .u64 (hw 4 p), .int .u64 (hw 5 p)]), (56, .pointer (some ⟨w.heap.size + 1, 1, none⟩)), (57, .int .i64 d), (58, .agg #[.int .u64 (hw 0 d), .int .u64 (hw 1 d), .int .u64 (hw 2 d), .int .u64 (hw 3 d), .int .u64 (hw 4 d), .int .u64 (hw 5 d)]), (59, .int .i64 b1), (60, .slice (some ⟨b5, 0, none⟩) 1 1), (61, .agg #[.int .u64 (hw 0 (d * b1)), .int .u64 (hw 1 (d * b1)), .int .u64 (hw 2 (d * b1)), .int .u64 (hw 3 (d * b1)), .int .u64 (hw 4 (d * b1)), .int .u64 (hw 5 (d * b1))]), (62, .agg #[.int .u64 (hw 0 (p - d * b1)), .int .u64 (hw 1 (p - d * b1)), .int .u64 (hw 2 (p - d * b1)), .int .u64 (hw 3 (p - d * b1)), .int .u64 (hw 4 (p - d * b1)), .int .u64 (hw 5 (p - d * b1))]), (10, .pointer (some ⟨b8, 0, none⟩))] [55, 56, 57, 58, 59, 60, 61, 62, 10] rfl (by kernel_rfl) ⟨e0, e1, e2, e3, e4, e5, e6, e7, e8, trivial⟩]
                  clear hφ hsh e0 e1 e2 e3 e4 e5 e6 e7 e8
                  clear hc5
                  simp only [putsN, List.foldl_cons, List.foldl_nil, List.drop_succ_cons, List.drop_zero, Act.put, List.setIfInBounds_toArray, List.set_cons_succ, List.set_cons_zero]
                  have hzE := hW.size
                  refine wpList_storeH wE rfl _ _ rfl b8 rfl rfl hl8 ?_
                  intro wF tz gF
                  simp only [Act.put]
                  have hzD := HKD.out.size
                  have hzD2 := HSD.out.lt
                  have HKF := Lib.hid ((HKD.out.below hW).gro gF (by omega) (by omega))
                  have HSF := Lib.hid ((HSD.out.below hW).gro gF (by omega))
                  have HZF := Lib.hid tz
                  have hzb4 : pb < b8 ∧ sb < b8 ∧ w.heap.size + 4 ≤ b8 ∧ b8 < wF.heap.size := ⟨by omega, by omega, by omega, tz.lt⟩
                  clear hW tz gF hl8 HKD HSD hzE hzD hzD2 hb8
                  obtain ⟨zb, hzb⟩ : ∃ zb, zb = b8 := ⟨_, rfl⟩
                  rw [← hzb] at HZF hzb4 ⊢
                  clear hzb
                  go_upto_region 11 with fail
                  refine region_heads (by kernel_rfl) 8 (by simp) (by kernel_rfl) (by kernel_rfl) (by kernel_rfl) (by kernel_rfl) (fun jx vx wx => match jx with | 0 => vx = (.pointer (some ⟨w.heap.size + 1, 1, none⟩)) | 1 => vx = (.int .i64 d) | 2 => vx = (.agg #[.int .u64 (hw 0 d), .int .u64 (hw 1 d), .int .u64 (hw 2 d), .int .u64 (hw 3 d), .int .u64 (hw 4 d), .int .u64 (hw 5 d)]) | 3 => vx = (.pointer (some ⟨sb, 2, none⟩)) | 4 => vx = (.int .i64 fade) | 5 => Lit1 wF.heap.size vx (.int .i64 fade) wx | 6 => vx = (.agg #[.int .u64 (hw 0 (d * fade)), .int .u64 (hw 1 (d * fade)), .int .u64 (hw 2 (d * fade)), .int .u64 (hw 3 (d * fade)), .int .u64 (hw 4 (d * fade)), .int .u64 (hw 5 (d * fade))]) | 7 => Box1 wF.heap.size 77 #[.int .u64 0, .int .u64 0, .int .u64 0, .int .u64 0, .int .u64 0, .int .u64 0] vx wx | _ => True) (fun W => Below wF.heap.size wF W) (fun wx wy => Below wx.heap.size wx wy) (Below.refl _ _).drew ?_ ?_ ?_ ?_
                  · intro jx vx wx wy h g
                    match jx, h with
                    | 0, h => exact h
                    | 1, h => exact h
                    | 2, h => exact h
                    | 3, h => exact h
                    | 4, h => exact h
                    | 5, h => exact Lit1.up h g
                    | 6, h => exact h
                    | 7, h => exact Box1.up h g
                    | jx + 8, h => exact trivial
                  · intro jx ox dx hj ho hd
                    exact insN_of (by kernel_rfl) hj ho hd
                  · intro ix ox ax W hi hio hsh hW hpre
                    have hsz : wF.heap.size ≤ W.heap.size := hW.size
                    have GA : ∀ ob, Below W.heap.size W (W.alloc ob) := fun ob => (Below.refl _ _).alloc (Nat.le_refl _) ob
                    have WA : ∀ ob, Below wF.heap.size wF (W.alloc ob) := fun ob => hW.alloc hsz ob
                    have t3 : ax.tmps[3]?.getD undef = (.pointer (some ⟨w.heap.size + 1, 0, none⟩)) := (Array.getD_eq_getD_getElem? ..).symm.trans ((hsh.2.2 3 (notN_of (by kernel_rfl))).trans rfl)
                    have t9 : ax.tmps[9]?.getD undef = (.pointer (some ⟨sb, 0, none⟩)) := (Array.getD_eq_getD_getElem? ..).symm.trans ((hsh.2.2 9 (notN_of (by kernel_rfl))).trans rfl)
                    obtain ⟨q0, q1⟩ := (HKF.out.below hW).pc
                    obtain ⟨h0, h1, h2, h3, h4, h5⟩ := hugeCells (HKF.out.below hW).2.2.1
                    obtain ⟨s0, s1, s2⟩ := stpCells (HSF.out.below hW)
                    clear hsh
                    match ix, hi, hio with
                    | 0, _, hio =>
                      cases hio
                      exact hwp_val (v := .pointer (some ⟨w.heap.size + 1, 1, none⟩)) (w' := W) (by simp [execOp, Act.eval, t3, go_sem]) ⟨_, rfl, rfl, hW, Below.refl _ _⟩
                    | 1, _, hio =>
                      cases hio
                      have p0 := hpre ⟨0, .data⟩ (by simp) (by rfl) _ _ rfl rfl
                      have f0 : ax.tmps[63]?.getD undef = (.pointer (some ⟨w.heap.size + 1, 1, none⟩)) := (Array.getD_eq_getD_getElem? ..).symm.trans p0
                      exact hwp_val (v := .int .i64 d) (w' := W) (by simp [execOp, Act.eval, q1, f0, go_sem]) ⟨_, rfl, rfl, hW, Below.refl _ _⟩
                    | 2, _, hio =>
                      cases hio
                      have p1 := hpre ⟨1, .data⟩ (by simp) (by rfl) _ _ rfl rfl
                      have f1 : ax.tmps[64]?.getD undef = (.int .i64 d) := (Array.getD_eq_getD_getElem? ..).symm.trans p1
                      refine hwp_enter (f := 113) (args := #[.int .i64 d]) (by simp [execOp, Act.eval, f1, go_sem]) ?_
                      refine (cOf d hd0 hd2 W).mono ?_
                      rintro ex wy ⟨rfl, hb⟩
                      exact ⟨_, rfl, _, rfl, rfl, hW.trans (hb.mono hsz), hb⟩
                    | 3, _, hio =>
                      cases hio
                      exact hwp_val (v := .pointer (some ⟨sb, 2, none⟩)) (w' := W) (by simp [execOp, Act.eval, t9, go_sem]) ⟨_, rfl, rfl, hW, Below.refl _ _⟩
                    | 4, _, hio =>
                      cases hio
                      have p3 := hpre ⟨3, .data⟩ (by simp) (by rfl) _ _ rfl rfl
                      have f3 : ax.tmps[66]?.getD undef = (.pointer (some ⟨sb, 2, none⟩)) := (Array.getD_eq_getD_getElem? ..).symm.trans p3
                      exact hwp_val (v := .int .i64 fade) (w' := W) (by simp [execOp, Act.eval, s2, f3, go_sem]) ⟨_, rfl, rfl, hW, Below.refl _ _⟩
                    | 5, _, hio =>
                      cases hio
                      have p4 := hpre ⟨4, .data⟩ (by simp) (by rfl) _ _ rfl rfl
                      have f4 : ax.tmps[67]?.getD undef = (.int .i64 fade) := (Array.getD_eq_getD_getElem? ..).symm.trans p4
                      exact hwp_val (v := .slice (some ⟨W.heap.size, 0, none⟩) 1 1) (w' := W.alloc (.cells #[.int .i64 fade] 3)) (by simp [execOp, Act.eval, f4, go_sem]) ⟨_, rfl, Lit1.new _ _ hsz, WA _, GA _⟩
                    | 6, _, hio =>
                      cases hio
                      have p2 := hpre ⟨2, .data⟩ (by simp) (by rfl) _ _ rfl rfl
                      have f2 : ax.tmps[65]?.getD undef = (.agg #[.int .u64 (hw 0 d), .int .u64 (hw 1 d), .int .u64 (hw 2 d), .int .u64 (hw 3 d), .int .u64 (hw 4 d), .int .u64 (hw 5 d)]) := (Array.getD_eq_getD_getElem? ..).symm.trans p2
                      have p5 := hpre ⟨5, .data⟩ (by simp) (by rfl) _ _ rfl rfl
                      obtain ⟨b5, e5, hb5, hl5, hc5⟩ := p5
                      have f5 := (Array.getD_eq_getD_getElem? ..).symm.trans e5
                      refine hwp_enter (f := 45) (args := #[.agg #[.int .u64 (hw 0 d), .int .u64 (hw 1 d), .int .u64 (hw 2 d), .int .u64 (hw 3 d), .int .u64 (hw 4 d), .int .u64 (hw 5 d)], .slice (some ⟨b5, 0, none⟩) 1 1]) (by simp [execOp, Act.eval, f2, f5, go_sem]) ?_
                      refine (cTimes1 d fade b5 W hd0 hf0 hf9 hdP (HM.out fade hf0 hf4).2 hl5 hc5).mono ?_
                      rintro ex wy ⟨rfl, hb⟩
                      exact ⟨_, rfl, _, rfl, rfl, hW.trans (hb.mono hsz), hb⟩
                    | 7, _, hio =>
                      cases hio
                      exact hwp_val (v := .pointer (some ⟨W.heap.size, 0, none⟩)) (w' := W.alloc (.cells #[.int .u64 0, .int .u64 0, .int .u64 0, .int .u64 0, .int .u64 0, .int .u64 0] 77)) (by simp [execOp, Act.eval, zeroHuge_, go_sem]) ⟨_, rfl, Box1.new _ _ hsz, WA _, GA _⟩
                    | ix + 8, hi, _ => exact absurd hi (by omega)
                  · intro ax wG hsh hW hφ
                    have e0 : ax.tmps.getD 63 undef = (.pointer (some ⟨w.heap.size + 1, 1, none⟩)) := hφ 0 _ _ (by omega) rfl rfl
                    have e1 : ax.tmps.getD 64 undef = (.int .i64 d) := hφ 1 _ _ (by omega) rfl rfl
                    have e2 : ax.tmps.getD 65 undef = (.agg #[.int .u64 (hw 0 d), .int .u64 (hw 1 d), .int .u64 (hw 2 d), .int .u64 (hw 3 d), .int .u64 (hw 4 d), .int .u64 (hw 5 d)]) := hφ 2 _ _ (by omega) rfl rfl
                    have e3 : ax.tmps.getD 66 undef = (.pointer (some ⟨sb, 2, none⟩)) := hφ 3 _ _ (by omega) rfl rfl
                    have e4 : ax.tmps.getD 67 undef = (.int .i64 fade) := hφ 4 _ _ (by omega) rfl rfl
                    obtain ⟨b5, e5, hb5, hl5, hc5⟩ := hφ 5 _ _ (by omega) rfl rfl
                    have e6 : ax.tmps.getD 69 undef = (.agg #[.int .u64 (hw 0 (d * fade)), .int .u64 (hw 1 (d * fade)), .int .u64 (hw 2 (d * fade)), .int .u64 (hw 3 (d * fade)), .int .u64 (hw 4 (d * fade)), .int .u64 (hw 5 (d * fade))]) := hφ 6 _ _ (by omega) rfl rfl
                    obtain ⟨b7, e7, hb7, hl7⟩ := hφ 7 _ _ (by omega) rfl rfl
                    rw [shape_puts hsh [(63, .pointer (some ⟨w.heap.size + 1, 1, none⟩)), (64, .int .i64 d), (65, .agg #[.int .u64 (hw 0 d), .int .u64 (hw 1 d), .int .u64 (hw 2 d), .int .u64 (hw 3 d), .int .u64 (hw 4 d), .int .u64 (hw 5 d)]), (66, .pointer (some ⟨sb, 2, none⟩)), (67, .int .i64 fade), (68, .slice (some ⟨b5, 0, none⟩) 1 1), (69, .agg #[.int .u64 (hw 0 (d * fade)), .int .u64 (hw 1 (d * fade)), .int .u64 (hw 2 (d * fade)), .int .u64 (hw 3 (d * fade)), .int .u64 (hw 4 (d * fade)), .int .u64 (hw 5 (d * fade))]), (11, .pointer (some ⟨b7, 0, none⟩))] [63, 64, 65, 66, 67, 68, 69, 11] rfl (by kernel_rfl) ⟨e0, e1, e2, e3, e4, e5, e6, e7, trivial⟩]
                    clear hφ hsh e0 e1 e2 e3 e4 e5 e6 e7
                    clear hc5
                    simp only [putsN, List.foldl_cons, List.foldl_nil, List.drop_succ_cons, List.drop_zero, Act.put, List.setIfInBounds_toArray, List.set_cons_succ, List.set_cons_zero]
                    have hzG := hW.size
                    refine wpList_storeH wG rfl _ _ rfl b7 rfl rfl hl7 ?_
                    intro wH th gH
                    simp only [Act.put]
                    have HKH := Lib.hid ((HKF.out.below hW).gro gH (by omega) (by omega))
                    have HSH := Lib.hid ((HSF.out.below hW).gro gH (by omega))
                    have HZH := Lib.hid ((HZF.out.below hW).gro gH (by omega))
                    have HHH := Lib.hid th
                    have hhb4 : zb < b7 ∧ b7 < wH.heap.size := ⟨by omega, th.lt⟩
                    clear hW th gH hl7 HKF HSF HZF hzG hb7
                    obtain ⟨hb_, hhb⟩ : ∃ hb_, hb_ = b7 := ⟨_, rfl⟩
                    rw [← hhb] at HHH hhb4 ⊢
                    clear hhb
                    have hL0 : 0 < L.length := by omega
                    have hnjl : nj < L.length := by rw [← HNJ.out]; exact Nat.mod_lt _ hL0
                    have am : ((j : Int) + 1).tmod (L.length : Int) = (nj : Int) := by
                      rw [← HNJ.out, Int.tmod_eq_emod_of_nonneg (by omega)]
                      rfl
                    have aj : IntKind.i64.wrap ((j : Int) + 1) = (j : Int) + 1 := IntWalk.i64_in _ (by omega)
                    have am2 : IntKind.i64.wrap (nj : Int) = (nj : Int) := IntWalk.i64_in _ (by omega)
                    have hnj : (nj : Int) < (L.length : Int) := by omega
                    have hnj2 : nj < L.length := hnjl
                    have hl0 : ¬ ((L.length : Int) = 0) := by omega
                    have hl00 : ¬ L = [] := by intro h; subst h; simp at hL0
                    go_upto_region 12 with fail
                    refine region_heads (by kernel_rfl) 11 (by simp) (by kernel_rfl) (by kernel_rfl) (by kernel_rfl) (by kernel_rfl) (fun jx vx wx => match jx with | 0 => vx = (.pointer (some ⟨w.heap.size, 0, none⟩)) | 1 => vx = (.slice (some ⟨sp, off, none⟩) L.length cap) | 2 => vx = (.int .i64 (j : Int)) | 3 => vx = (.int .i64 ((j : Int) + 1)) | 4 => vx = (.pointer (some ⟨w.heap.size, 0, none⟩)) | 5 => vx = (.slice (some ⟨sp, off, none⟩) L.length cap) | 6 => vx = (.int .i64 (L.length : Int)) | 7 => vx = (.int .i64 (nj : Int)) | 8 => vx = (.pointer (some ⟨sp, off + nj * 3, none⟩)) | 9 => vx = (.agg #[.int .i64 lv2, .int .i64 hold2, .int .i64 fade2]) | 10 => Box1 wH.heap.size 108 #[.int .i64 0, .int .i64 0, .int .i64 0] vx wx | _ => True) (fun W => Below wH.heap.size wH W) (fun wx wy => Below wx.heap.size wx wy) (Below.refl _ _).drew ?_ ?_ ?_ ?_
                    · intro jx vx wx wy h g
                      match jx, h with
                      | 0, h => exact h
                      | 1, h => exact h
                      | 2, h => exact h
                      | 3, h => exact h
                      | 4, h => exact h
                      | 5, h => exact h
                      | 6, h => exact h
                      | 7, h => exact h
                      | 8, h => exact h
                      | 9, h => exact h
                      | 10, h => exact Box1.up h g
                      | jx + 11, h => exact trivial
                    · intro jx ox dx hj ho hd
                      exact insN_of (by kernel_rfl) hj ho hd
                    · intro ix ox ax W hi hio hsh hW hpre
                      have hsz : wH.heap.size ≤ W.heap.size := hW.size
                      have GA : ∀ ob, Below W.heap.size W (W.alloc ob) := fun ob => (Below.refl _ _).alloc (Nat.le_refl _) ob
                      have WA : ∀ ob, Below wH.heap.size wH (W.alloc ob) := fun ob => hW.alloc hsz ob
                      have t2 : ax.tmps[2]?.getD undef = (.pointer (some ⟨w.heap.size, 0, none⟩)) := (Array.getD_eq_getD_getElem? ..).symm.trans ((hsh.2.2 2 (notN_of (by kernel_rfl))).trans rfl)
                      have t8 : ax.tmps[8]?.getD undef = (.int .i64 (j : Int)) := (Array.getD_eq_getD_getElem? ..).symm.trans ((hsh.2.2 8 (notN_of (by kernel_rfl))).trans rfl)
                      have r0 := (HKH.out.below hW).sc.1
                      obtain ⟨e0, e1, e2⟩ := HYC.out
                      have y0 := ((HKH.out.below hW).bel.cell (p := ⟨sp, off + nj * 3, none⟩) hsb).trans e0
                      have y1 := ((HKH.out.below hW).bel.cell (p := ⟨sp, off + nj * 3 + 1, none⟩) hsb).trans e1
                      have y2 := ((HKH.out.below hW).bel.cell (p := ⟨sp, off + nj * 3 + 2, none⟩) hsb).trans e2
                      clear hsh
                      match ix, hi, hio with
                      | 0, _, hio =>
                        cases hio
                        exact hwp_val (v := .pointer (some ⟨w.heap.size, 0, none⟩)) (w' := W) (by simp [execOp, Act.eval, t2, go_sem]) ⟨_, rfl, rfl, hW, Below.refl _ _⟩
                      | 1, _, hio =>
                        cases hio
                        have p0 := hpre ⟨0, .data⟩ (by simp) (by rfl) _ _ rfl rfl
                        have f0 : ax.tmps[70]?.getD undef = (.pointer (some ⟨w.heap.size, 0, none⟩)) := (Array.getD_eq_getD_getElem? ..).symm.trans p0
                        exact hwp_val (v := .slice (some ⟨sp, off, none⟩) L.length cap) (w' := W) (by simp [execOp, Act.eval, r0, f0, go_sem]) ⟨_, rfl, rfl, hW, Below.refl _ _⟩
                      | 2, _, hio =>
                        cases hio
                        exact hwp_val (v := .int .i64 (j : Int)) (w' := W) (by simp [execOp, Act.eval, t8, go_sem]) ⟨_, rfl, rfl, hW, Below.refl _ _⟩
                      | 3, _, hio =>
                        cases hio
                        have p2 := hpre ⟨2, .data⟩ (by simp) (by rfl) _ _ rfl rfl
                        have f2 : ax.tmps[72]?.getD undef = (.int .i64 (j : Int)) := (Array.getD_eq_getD_getElem? ..).symm.trans p2
                        exact hwp_val (v := .int .i64 ((j : Int) + 1)) (w' := W) (by simp [execOp, Act.eval, aj, f2, go_sem]) ⟨_, rfl, rfl, hW, Below.refl _ _⟩
                      | 4, _, hio =>
                        cases hio
                        exact hwp_val (v := .pointer (some ⟨w.heap.size, 0, none⟩)) (w' := W) (by simp [execOp, Act.eval, t2, go_sem]) ⟨_, rfl, rfl, hW, Below.refl _ _⟩
                      | 5, _, hio =>
                        cases hio
                        have p4 := hpre ⟨4, .data⟩ (by simp) (by rfl) _ _ rfl rfl
                        have f4 : ax.tmps[74]?.getD undef = (.pointer (some ⟨w.heap.size, 0, none⟩)) := (Array.getD_eq_getD_getElem? ..).symm.trans p4
                        exact hwp_val (v := .slice (some ⟨sp, off, none⟩) L.length cap) (w' := W) (by simp [execOp, Act.eval, r0, f4, go_sem]) ⟨_, rfl, rfl, hW, Below.refl _ _⟩
                      | 6, _, hio =>
                        cases hio
                        have p5 := hpre ⟨5, .data⟩ (by simp) (by rfl) _ _ rfl rfl
                        have f5 : ax.tmps[75]?.getD undef = (.slice (some ⟨sp, off, none⟩) L.length cap) := (Array.getD_eq_getD_getElem? ..).symm.trans p5
                        exact hwp_val (v := .int .i64 (L.length : Int)) (w' := W) (by simp [execOp, Act.eval, f5, go_sem]) ⟨_, rfl, rfl, hW, Below.refl _ _⟩
                      | 7, _, hio =>
                        cases hio
                        have p3 := hpre ⟨3, .data⟩ (by simp) (by rfl) _ _ rfl rfl
                        have f3 : ax.tmps[73]?.getD undef = (.int .i64 ((j : Int) + 1)) := (Array.getD_eq_getD_getElem? ..).symm.trans p3
                        have p6 := hpre ⟨6, .data⟩ (by simp) (by rfl) _ _ rfl rfl
                        have f6 : ax.tmps[76]?.getD undef = (.int .i64 (L.length : Int)) := (Array.getD_eq_getD_getElem? ..).symm.trans p6
                        exact hwp_val (v := .int .i64 (nj : Int)) (w' := W) (by simp [execOp, Act.eval, am, am2, hl0, hl00, f3, f6, go_sem]) ⟨_, rfl, rfl, hW, Below.refl _ _⟩
                      | 8, _, hio =>
                        cases hio
                        have p1 := hpre ⟨1, .data⟩ (by simp) (by rfl) _ _ rfl rfl
                        have f1 : ax.tmps[71]?.getD undef = (.slice (some ⟨sp, off, none⟩) L.length cap) := (Array.getD_eq_getD_getElem? ..).symm.trans p1
                        have p7 := hpre ⟨7, .data⟩ (by simp) (by rfl) _ _ rfl rfl
                        have f7 : ax.tmps[77]?.getD undef = (.int .i64 (nj : Int)) := (Array.getD_eq_getD_getElem? ..).symm.trans p7
                        exact hwp_val (v := .pointer (some ⟨sp, off + nj * 3, none⟩)) (w' := W) (by simp [execOp, Act.eval, hnj, hnj2, f1, f7, go_sem]) ⟨_, rfl, rfl, hW, Below.refl _ _⟩
                      | 9, _, hio =>
                        cases hio
                        have p8 := hpre ⟨8, .data⟩ (by simp) (by rfl) _ _ rfl rfl
                        have f8 : ax.tmps[78]?.getD undef = (.pointer (some ⟨sp, off + nj * 3, none⟩)) := (Array.getD_eq_getD_getElem? ..).symm.trans p8
                        exact hwp_val (v := .agg #[.int .i64 lv2, .int .i64 hold2, .int .i64 fade2]) (w' := W) (by simp [execOp, Act.eval, y0, y1, y2, f8, go_sem]) ⟨_, rfl, rfl, hW, Below.refl _ _⟩
                      | 10, _, hio =>
                        cases hio
                        exact hwp_val (v := .pointer (some ⟨W.heap.size, 0, none⟩)) (w' := W.alloc (.cells #[.int .i64 0, .int .i64 0, .int .i64 0] 108)) (by simp [execOp, Act.eval, zeroStp_, go_sem]) ⟨_, rfl, Box1.new _ _ hsz, WA _, GA _⟩
                      | ix + 11, hi, _ => exact absurd hi (by omega)
                    · intro ax wI hsh hW hφ
                      have e0 : ax.tmps.getD 70 undef = (.pointer (some ⟨w.heap.size, 0, none⟩)) := hφ 0 _ _ (by omega) rfl rfl
                      have e1 : ax.tmps.getD 71 undef = (.slice (some ⟨sp, off, none⟩) L.length cap) := hφ 1 _ _ (by omega) rfl rfl
                      have e2 : ax.tmps.getD 72 undef = (.int .i64 (j : Int)) := hφ 2 _ _ (by omega) rfl rfl
                      have e3 : ax.tmps.getD 73 undef = (.int .i64 ((j : Int) + 1)) := hφ 3 _ _ (by omega) rfl rfl
                      have e4 : ax.tmps.getD 74 undef = (.pointer (some ⟨w.heap.size, 0, none⟩)) := hφ 4 _ _ (by omega) rfl rfl
                      have e5 : ax.tmps.getD 75 undef = (.slice (some ⟨sp, off, none⟩) L.length cap) := hφ 5 _ _ (by omega) rfl rfl
                      have e6 : ax.tmps.getD 76 undef = (.int .i64 (L.length : Int)) := hφ 6 _ _ (by omega) rfl rfl
                      have e7 : ax.tmps.getD 77 undef = (.int .i64 (nj : Int)) := hφ 7 _ _ (by omega) rfl rfl
                      have e8 : ax.tmps.getD 78 undef = (.pointer (some ⟨sp, off + nj * 3, none⟩)) := hφ 8 _ _ (by omega) rfl rfl
                      have e9 : ax.tmps.getD 79 undef = (.agg #[.int .i64 lv2, .int .i64 hold2, .int .i64 fade2]) := hφ 9 _ _ (by omega) rfl rfl
                      obtain ⟨b10, e10, hb10, hl10⟩ := hφ 10 _ _ (by omega) rfl rfl
                      rw [shape_puts hsh [(70, .pointer (some ⟨w.heap.size, 0, none⟩)), (71, .slice (some ⟨sp, off, none⟩) L.length cap), (72, .int .i64 (j : Int)), (73, .int .i64 ((j : Int) + 1)), (74, .pointer (some ⟨w.heap.size, 0, none⟩)), (75, .slice (some ⟨sp, off, none⟩) L.length cap), (76, .int .i64 (L.length : Int)), (77, .int .i64 (nj : Int)), (78, .pointer (some ⟨sp, off + nj * 3, none⟩)), (79, .agg #[.int .i64 lv2, .int .i64 hold2, .int .i64 fade2]), (12, .pointer (some ⟨b10, 0, none⟩))] [70, 71, 72, 73, 74, 75, 76, 77, 78, 79, 12] rfl (by kernel_rfl) ⟨e0, e1, e2, e3, e4, e5, e6, e7, e8, e9, e10, trivial⟩]
                      clear hφ hsh e0 e1 e2 e3 e4 e5 e6 e7 e8 e9 e10
                      simp only [putsN, List.foldl_cons, List.foldl_nil, List.drop_succ_cons, List.drop_zero, Act.put, List.setIfInBounds_toArray, List.set_cons_succ, List.set_cons_zero]
                      have n0 := TBox.cell (i := 0) (show TBox wI b10 108 #[.int .i64 0, .int .i64 0, .int .i64 0] from hl10) rfl
                      have n1 := TBox.cell (i := 1) (show TBox wI b10 108 #[.int .i64 0, .int .i64 0, .int .i64 0] from hl10) rfl
                      have n2 := TBox.cell (i := 2) (show TBox wI b10 108 #[.int .i64 0, .int .i64 0, .int .i64 0] from hl10) rfl
                      have nf0 := TBox.frozen (show TBox wI b10 108 #[.int .i64 0, .int .i64 0, .int .i64 0] from hl10) 0
                      have nf1 := TBox.frozen (show TBox wI b10 108 #[.int .i64 0, .int .i64 0, .int .i64 0] from hl10) 1
                      have nf2 := TBox.frozen (show TBox wI b10 108 #[.int .i64 0, .int .i64 0, .int .i64 0] from hl10) 2
                      have HG := Lib.hid (gro_tr (gro_tr (gro1 wI b10 0 (.int .i64 lv2)) (gro1 _ b10 1 (.int .i64 hold2))) (gro1 _ b10 2 (.int .i64 fade2)))
                      have tn := ((TBox.set (show TBox wI b10 108 #[.int .i64 0, .int .i64 0, .int .i64 0] from hl10) 0 (.int .i64 lv2)).set 1 (.int .i64 hold2)).set 2 (.int .i64 fade2)
                      have HTN := Lib.hid tn
                      have hn10 : b10 < wI.heap.size := TBox.lt (show TBox wI b10 108 #[.int .i64 0, .int .i64 0, .int .i64 0] from hl10)
                      clear tn
                      go_upto_region 13 with fail
                      generalize hwJ : ((wI.setCell ⟨b10, 0, none⟩ (.int .i64 lv2)).setCell ⟨b10, 1, none⟩ (.int .i64 hold2)).setCell ⟨b10, 2, none⟩ (.int .i64 fade2) = wJ at *
                      clear hwJ n0 n1 n2 nf0 nf1 nf2 hl10
                      have hzI := hW.size
                      have HKJ := Lib.hid ((HKH.out.below hW).gro HG.out (by omega) (by omega))
                      have HSJ := Lib.hid ((HSH.out.below hW).gro HG.out (by omega))
                      have HZJ := Lib.hid ((HZH.out.below hW).gro HG.out (by omega))
                      have HHJ := Lib.hid ((HHH.out.below hW).gro HG.out (by omega))
                      have HNJ2 := Lib.hid (show TBox wJ b10 108 #[.int .i64 lv2, .int .i64 hold2, .int .i64 fade2] from HTN.out)
                      clear hW HG HTN HKH HSH HZH HHH hzI hb10 hn10
                      obtain ⟨nb, hnb⟩ : ∃ nb, nb = b10 := ⟨_, rfl⟩
                      rw [← hnb] at HNJ2 ⊢
                      clear hnb
                      have hadd : d * (b1 + fade) = d * b1 + d * fade := Int.mul_add _ _ _
                      obtain ⟨hw0, hw9⟩ := HM.out fade hf0 hf4
                      have hwB1 : d * fade ≤ 1000000000000000 * 3600000 := Int.le_trans (Int.mul_le_mul_of_nonneg_right hd9 hf0) (Int.mul_le_mul_of_nonneg_left hf1 (by omega))
                      have hz0 : 0 ≤ p - d * b1 := by omega
                      have hzw : p - d * b1 ≤ d * fade := by omega
                      generalize d * fade = wh at *
                      generalize p - d * b1 = zz at *
                      have hwP : wh < powW 6 := by omega
                      have hzP : zz < powW 6 := by omega
                      have hwz0 : 0 ≤ wh - zz := by omega
                      have hwzP : wh - zz < powW 6 := by omega
                      have hlv9 : lv ≤ 9223372036854775807 := by omega
                      have hlw9 : lv2 ≤ 9223372036854775807 := by omega
                      have hm10 : 0 ≤ (wh - zz) * lv := Int.mul_nonneg hwz0 hlv0
                      have hm20 : 0 ≤ zz * lv2 := Int.mul_nonneg hz0 hlw0
                      have hm1' : (wh - zz) * lv ≤ 1000000000000000 * 3600000 * 65535 := Int.le_trans (Int.mul_le_mul_of_nonneg_right (by omega) hlv0) (Int.mul_le_mul_of_nonneg_left hlv1 (by omega))
                      have hm2' : zz * lv2 ≤ 1000000000000000 * 3600000 * 65535 := Int.le_trans (Int.mul_le_mul_of_nonneg_right (show zz ≤ 1000000000000000 * 3600000 by omega) hlw0) (Int.mul_le_mul_of_nonneg_left hlw1 (by omega))
                      have hm1 : (wh - zz) * lv < powW 6 := by omega
                      have hm2 : zz * lv2 < powW 6 := by omega
                      have hm3 : (wh - zz) * lv + zz * lv2 < powW 6 := by omega
                      have hm4 : wh * 65535 < powW 6 := by omega
                      clear hadd hp1' hp2' hde hde2 am aj am2 hnj hnj2 hl0 hl00
                      refine region_heads (by kernel_rfl) 16 (by simp) (by kernel_rfl) (by kernel_rfl) (by kernel_rfl) (by kernel_rfl) (fun jx vx wx => match jx with | 0 => vx = (.agg #[.int .u64 (hw 0 wh), .int .u64 (hw 1 wh), .int .u64 (hw 2 wh), .int .u64 (hw 3 wh), .int .u64 (hw 4 wh), .int .u64 (hw 5 wh)]) | 1 => vx = (.agg #[.int .u64 (hw 0 zz), .int .u64 (hw 1 zz), .int .u64 (hw 2 zz), .int .u64 (hw 3 zz), .int .u64 (hw 4 zz), .int .u64 (hw 5 zz)]) | 2 => vx = (.agg #[.int .u64 (hw 0 (wh - zz)), .int .u64 (hw 1 (wh - zz)), .int .u64 (hw 2 (wh - zz)), .int .u64 (hw 3 (wh - zz)), .int .u64 (hw 4 (wh - zz)), .int .u64 (hw 5 (wh - zz))]) | 3 => vx = (.pointer (some ⟨sb, 0, none⟩)) | 4 => vx = (.int .i64 lv) | 5 => Lit1 wJ.heap.size vx (.int .i64 lv) wx | 6 => vx = (.agg #[.int .u64 (hw 0 ((wh - zz) * lv)), .int .u64 (hw 1 ((wh - zz) * lv)), .int .u64 (hw 2 ((wh - zz) * lv)), .int .u64 (hw 3 ((wh - zz) * lv)), .int .u64 (hw 4 ((wh - zz) * lv)), .int .u64 (hw 5 ((wh - zz) * lv))]) | 7 => vx = (.agg #[.int .u64 (hw 0 zz), .int .u64 (hw 1 zz), .int .u64 (hw 2 zz), .int .u64 (hw 3 zz), .int .u64 (hw 4 zz), .int .u64 (hw 5 zz)]) | 8 => vx = (.pointer (some ⟨nb, 0, none⟩)) | 9 => vx = (.int .i64 lv2) | 10 => Lit1 wJ.heap.size vx (.int .i64 lv2) wx | 11 => vx = (.agg #[.int .u64 (hw 0 (zz * lv2)), .int .u64 (hw 1 (zz * lv2)), .int .u64 (hw 2 (zz * lv2)), .int .u64 (hw 3 (zz * lv2)), .int .u64 (hw 4 (zz * lv2)), .int .u64 (hw 5 (zz * lv2))]) | 12 => vx = (.agg #[.int .u64 (hw 0 ((wh - zz) * lv + zz * lv2)), .int .u64 (hw 1 ((wh - zz) * lv + zz * lv2)), .int .u64 (hw 2 ((wh - zz) * lv + zz * lv2)), .int .u64 (hw 3 ((wh - zz) * lv + zz * lv2)), .int .u64 (hw 4 ((wh - zz) * lv + zz * lv2)), .int .u64 (hw 5 ((wh - zz) * lv + zz * lv2))]) | 13 => vx = (.agg #[.int .u64 (hw 0 wh), .int .u64 (hw 1 wh), .int .u64 (hw 2 wh), .int .u64 (hw 3 wh), .int .u64 (hw 4 wh), .int .u64 (hw 5 wh)]) | 14 => Lit1 wJ.heap.size vx (.int .i64 65535) wx | 15 => vx = (.agg #[.int .u64 (hw 0 (wh * 65535)), .int .u64 (hw 1 (wh * 65535)), .int .u64 (hw 2 (wh * 65535)), .int .u64 (hw 3 (wh * 65535)), .int .u64 (hw 4 (wh * 65535)), .int .u64 (hw 5 (wh * 65535))]) | _ => True) (fun W => Below wJ.heap.size wJ W) (fun wx wy => Below wx.heap.size wx wy) (Below.refl _ _).drew ?_ ?_ ?_ ?_
                      · intro jx vx wx wy h g
                        match jx, h with
                        | 0, h => exact h
                        | 1, h => exact h
                        | 2, h => exact h
                        | 3, h => exact h
                        | 4, h => exact h
                        | 5, h => exact Lit1.up h g
                        | 6, h => exact h
                        | 7, h => exact h
                        | 8, h => exact h
                        | 9, h => exact h
                        | 10, h => exact Lit1.up h g
                        | 11, h => exact h
                        | 12, h => exact h
                        | 13, h => exact h
                        | 14, h => exact Lit1.up h g
                        | 15, h => exact h
                        | jx + 16, h => exact trivial
                      · intro jx ox dx hj ho hd
                        exact insN_of (by kernel_rfl) hj ho hd
                      · intro ix ox ax W hi hio hsh hW hpre
                        have hsz : wJ.heap.size ≤ W.heap.size := hW.size
                        have GA : ∀ ob, Below W.heap.size W (W.alloc ob) := fun ob => (Below.refl _ _).alloc (Nat.le_refl _) ob
                        have WA : ∀ ob, Below wJ.heap.size wJ (W.alloc ob) := fun ob => hW.alloc hsz ob
                        have t9 : ax.tmps[9]?.getD undef = (.pointer (some ⟨sb, 0, none⟩)) := (Array.getD_eq_getD_getElem? ..).symm.trans ((hsh.2.2 9 (notN_of (by kernel_rfl))).trans rfl)
                        have t10 : ax.tmps[10]?.getD undef = (.pointer (some ⟨zb, 0, none⟩)) := (Array.getD_eq_getD_getElem? ..).symm.trans ((hsh.2.2 10 (notN_of (by kernel_rfl))).trans rfl)
                        have t11 : ax.tmps[11]?.getD undef = (.pointer (some ⟨hb_, 0, none⟩)) := (Array.getD_eq_getD_getElem? ..).symm.trans ((hsh.2.2 11 (notN_of (by kernel_rfl))).trans rfl)
                        have t12 : ax.tmps[12]?.getD undef = (.pointer (some ⟨nb, 0, none⟩)) := (Array.getD_eq_getD_getElem? ..).symm.trans ((hsh.2.2 12 (notN_of (by kernel_rfl))).trans rfl)
                        obtain ⟨g0, g1, g2, g3, g4, g5⟩ := hugeCells (p := wh) (HHJ.out.below hW)
                        obtain ⟨k0, k1, k2, k3, k4, k5⟩ := hugeCells (p := zz) (HZJ.out.below hW)
                        obtain ⟨s0, s1, s2⟩ := stpCells (HSJ.out.below hW)
                        obtain ⟨v0, v1, v2⟩ := stpCells (HNJ2.out.below hW)
                        clear hsh
                        match ix, hi, hio with
                        | 0, _, hio =>
                          cases hio
                          exact hwp_val (v := .agg #[.int .u64 (hw 0 wh), .int .u64 (hw 1 wh), .int .u64 (hw 2 wh), .int .u64 (hw 3 wh), .int .u64 (hw 4 wh), .int .u64 (hw 5 wh)]) (w' := W) (by simp [execOp, Act.eval, t11, g0, g1, g2, g3, g4, g5, go_sem]) ⟨_, rfl, rfl, hW, Below.refl _ _⟩
                        | 1, _, hio =>
                          cases hio
                          exact hwp_val (v := .agg #[.int .u64 (hw 0 zz), .int .u64 (hw 1 zz), .int .u64 (hw 2 zz), .int .u64 (hw 3 zz), .int .u64 (hw 4 zz), .int .u64 (hw 5 zz)]) (w' := W) (by simp [execOp, Act.eval, t10, k0, k1, k2, k3, k4, k5, go_sem]) ⟨_, rfl, rfl, hW, Below.refl _ _⟩
                        | 2, _, hio =>
                          cases hio
                          have p0 := hpre ⟨0, .data⟩ (by simp) (by rfl) _ _ rfl rfl
                          have f0 : ax.tmps[80]?.getD undef = (.agg #[.int .u64 (hw 0 wh), .int .u64 (hw 1 wh), .int .u64 (hw 2 wh), .int .u64 (hw 3 wh), .int .u64 (hw 4 wh), .int .u64 (hw 5 wh)]) := (Array.getD_eq_getD_getElem? ..).symm.trans p0
                          have p1 := hpre ⟨1, .data⟩ (by simp) (by rfl) _ _ rfl rfl
                          have f1 : ax.tmps[81]?.getD undef = (.agg #[.int .u64 (hw 0 zz), .int .u64 (hw 1 zz), .int .u64 (hw 2 zz), .int .u64 (hw 3 zz), .int .u64 (hw 4 zz), .int .u64 (hw 5 zz)]) := (Array.getD_eq_getD_getElem? ..).symm.trans p1
                          refine hwp_enter (f := 116) (args := #[.agg #[.int .u64 (hw 0 wh), .int .u64 (hw 1 wh), .int .u64 (hw 2 wh), .int .u64 (hw 3 wh), .int .u64 (hw 4 wh), .int .u64 (hw 5 wh)], .agg #[.int .u64 (hw 0 zz), .int .u64 (hw 1 zz), .int .u64 (hw 2 zz), .int .u64 (hw 3 zz), .int .u64 (hw 4 zz), .int .u64 (hw 5 zz)]]) (by simp [execOp, Act.eval, f0, f1, go_sem]) ?_
                          refine (cMinus wh zz hwP hz0 hzw W).mono ?_
                          rintro ex wy ⟨rfl, hb⟩
                          exact ⟨_, rfl, _, rfl, rfl, hW.trans (hb.mono hsz), hb⟩
                        | 3, _, hio =>
                          cases hio
                          exact hwp_val (v := .pointer (some ⟨sb, 0, none⟩)) (w' := W) (by simp [execOp, Act.eval, t9, go_sem]) ⟨_, rfl, rfl, hW, Below.refl _ _⟩
                        | 4, _, hio =>
                          cases hio
                          have p3 := hpre ⟨3, .data⟩ (by simp) (by rfl) _ _ rfl rfl
                          have f3 : ax.tmps[83]?.getD undef = (.pointer (some ⟨sb, 0, none⟩)) := (Array.getD_eq_getD_getElem? ..).symm.trans p3
                          exact hwp_val (v := .int .i64 lv) (w' := W) (by simp [execOp, Act.eval, s0, f3, go_sem]) ⟨_, rfl, rfl, hW, Below.refl _ _⟩
                        | 5, _, hio =>
                          cases hio
                          have p4 := hpre ⟨4, .data⟩ (by simp) (by rfl) _ _ rfl rfl
                          have f4 : ax.tmps[84]?.getD undef = (.int .i64 lv) := (Array.getD_eq_getD_getElem? ..).symm.trans p4
                          exact hwp_val (v := .slice (some ⟨W.heap.size, 0, none⟩) 1 1) (w' := W.alloc (.cells #[.int .i64 lv] 3)) (by simp [execOp, Act.eval, f4, go_sem]) ⟨_, rfl, Lit1.new _ _ hsz, WA _, GA _⟩
                        | 6, _, hio =>
                          cases hio
                          have p2 := hpre ⟨2, .data⟩ (by simp) (by rfl) _ _ rfl rfl
                          have f2 : ax.tmps[82]?.getD undef = (.agg #[.int .u64 (hw 0 (wh - zz)), .int .u64 (hw 1 (wh - zz)), .int .u64 (hw 2 (wh - zz)), .int .u64 (hw 3 (wh - zz)), .int .u64 (hw 4 (wh - zz)), .int .u64 (hw 5 (wh - zz))]) := (Array.getD_eq_getD_getElem? ..).symm.trans p2
                          have p5 := hpre ⟨5, .data⟩ (by simp) (by rfl) _ _ rfl rfl
                          obtain ⟨b5, e5, hb5, hl5, hc5⟩ := p5
                          have f5 := (Array.getD_eq_getD_getElem? ..).symm.trans e5
                          refine hwp_enter (f := 45) (args := #[.agg #[.int .u64 (hw 0 (wh - zz)), .int .u64 (hw 1 (wh - zz)), .int .u64 (hw 2 (wh - zz)), .int .u64 (hw 3 (wh - zz)), .int .u64 (hw 4 (wh - zz)), .int .u64 (hw 5 (wh - zz))], .slice (some ⟨b5, 0, none⟩) 1 1]) (by simp [execOp, Act.eval, f2, f5, go_sem]) ?_
                          refine (cTimes1 (wh - zz) lv b5 W hwz0 hlv0 hlv9 hwzP hm1 hl5 hc5).mono ?_
                          rintro ex wy ⟨rfl, hb⟩
                          exact ⟨_, rfl, _, rfl, rfl, hW.trans (hb.mono hsz), hb⟩
                        | 7, _, hio =>
                          cases hio
                          exact hwp_val (v := .agg #[.int .u64 (hw 0 zz), .int .u64 (hw 1 zz), .int .u64 (hw 2 zz), .int .u64 (hw 3 zz), .int .u64 (hw 4 zz), .int .u64 (hw 5 zz)]) (w' := W) (by simp [execOp, Act.eval, t10, k0, k1, k2, k3, k4, k5, go_sem]) ⟨_, rfl, rfl, hW, Below.refl _ _⟩
                        | 8, _, hio =>
                          cases hio
                          exact hwp_val (v := .pointer (some ⟨nb, 0, none⟩)) (w' := W) (by simp [execOp, Act.eval, t12, go_sem]) ⟨_, rfl, rfl, hW, Below.refl _ _⟩
                        | 9, _, hio =>
                          cases hio
                          have p8 := hpre ⟨8, .data⟩ (by simp) (by rfl) _ _ rfl rfl
                          have f8 : ax.tmps[88]?.getD undef = (.pointer (some ⟨nb, 0, none⟩)) := (Array.getD_eq_getD_getElem? ..).symm.trans p8
                          exact hwp_val (v := .int .i64 lv2) (w' := W) (by simp [execOp, Act.eval, v0, f8, go_sem]) ⟨_, rfl, rfl, hW, Below.refl _ _⟩
                        | 10, _, hio =>
                          cases hio
                          have p9 := hpre ⟨9, .data⟩ (by simp) (by rfl) _ _ rfl rfl
                          have f9 : ax.tmps[89]?.getD undef = (.int .i64 lv2) := (Array.getD_eq_getD_getElem? ..).symm.trans p9
                          exact hwp_val (v := .slice (some ⟨W.heap.size, 0, none⟩) 1 1) (w' := W.alloc (.cells #[.int .i64 lv2] 3)) (by simp [execOp, Act.eval, f9, go_sem]) ⟨_, rfl, Lit1.new _ _ hsz, WA _, GA _⟩
                        | 11, _, hio =>
                          cases hio
                          have p7 := hpre ⟨7, .data⟩ (by simp) (by rfl) _ _ rfl rfl
                          have f7 : ax.tmps[87]?.getD undef = (.agg #[.int .u64 (hw 0 zz), .int .u64 (hw 1 zz), .int .u64 (hw 2 zz), .int .u64 (hw 3 zz), .int .u64 (hw 4 zz), .int .u64 (hw 5 zz)]) := (Array.getD_eq_getD_getElem? ..).symm.trans p7
                          have p10 := hpre ⟨10, .data⟩ (by simp) (by rfl) _ _ rfl rfl
                          obtain ⟨b10, e10, hb10, hl10, hc10⟩ := p10
                          have f10 := (Array.getD_eq_getD_getElem? ..).symm.trans e10
                          refine hwp_enter (f := 45) (args := #[.agg #[.int .u64 (hw 0 zz), .int .u64 (hw 1 zz), .int .u64 (hw 2 zz), .int .u64 (hw 3 zz), .int .u64 (hw 4 zz), .int .u64 (hw 5 zz)], .slice (some ⟨b10, 0, none⟩) 1 1]) (by simp [execOp, Act.eval, f7, f10, go_sem]) ?_
                          refine (cTimes1 zz lv2 b10 W hz0 hlw0 hlw9 hzP hm2 hl10 hc10).mono ?_
                          rintro ex wy ⟨rfl, hb⟩
                          exact ⟨_, rfl, _, rfl, rfl, hW.trans (hb.mono hsz), hb⟩
                        | 12, _, hio =>
                          cases hio
                          have p6 := hpre ⟨6, .data⟩ (by simp) (by rfl) _ _ rfl rfl
                          have f6 : ax.tmps[86]?.getD undef = (.agg #[.int .u64 (hw 0 ((wh - zz) * lv)), .int .u64 (hw 1 ((wh - zz) * lv)), .int .u64 (hw 2 ((wh - zz) * lv)), .int .u64 (hw 3 ((wh - zz) * lv)), .int .u64 (hw 4 ((wh - zz) * lv)), .int .u64 (hw 5 ((wh - zz) * lv))]) := (Array.getD_eq_getD_getElem? ..).symm.trans p6
                          have p11 := hpre ⟨11, .data⟩ (by simp) (by rfl) _ _ rfl rfl
                          have f11 : ax.tmps[91]?.getD undef = (.agg #[.int .u64 (hw 0 (zz * lv2)), .int .u64 (hw 1 (zz * lv2)), .int .u64 (hw 2 (zz * lv2)), .int .u64 (hw 3 (zz * lv2)), .int .u64 (hw 4 (zz * lv2)), .int .u64 (hw 5 (zz * lv2))]) := (Array.getD_eq_getD_getElem? ..).symm.trans p11
                          refine hwp_enter (f := 46) (args := #[.agg #[.int .u64 (hw 0 ((wh - zz) * lv)), .int .u64 (hw 1 ((wh - zz) * lv)), .int .u64 (hw 2 ((wh - zz) * lv)), .int .u64 (hw 3 ((wh - zz) * lv)), .int .u64 (hw 4 ((wh - zz) * lv)), .int .u64 (hw 5 ((wh - zz) * lv))], .agg #[.int .u64 (hw 0 (zz * lv2)), .int .u64 (hw 1 (zz * lv2)), .int .u64 (hw 2 (zz * lv2)), .int .u64 (hw 3 (zz * lv2)), .int .u64 (hw 4 (zz * lv2)), .int .u64 (hw 5 (zz * lv2))]]) (by simp [execOp, Act.eval, f6, f11, go_sem]) ?_
                          refine (cPlus ((wh - zz) * lv) (zz * lv2) hm10 hm20 hm3 W).mono ?_
                          rintro ex wy ⟨rfl, hb⟩
                          exact ⟨_, rfl, _, rfl, rfl, hW.trans (hb.mono hsz), hb⟩
                        | 13, _, hio =>
                          cases hio
                          exact hwp_val (v := .agg #[.int .u64 (hw 0 wh), .int .u64 (hw 1 wh), .int .u64 (hw 2 wh), .int .u64 (hw 3 wh), .int .u64 (hw 4 wh), .int .u64 (hw 5 wh)]) (w' := W) (by simp [execOp, Act.eval, t11, g0, g1, g2, g3, g4, g5, go_sem]) ⟨_, rfl, rfl, hW, Below.refl _ _⟩
                        | 14, _, hio =>
                          cases hio
                          exact hwp_val (v := .slice (some ⟨W.heap.size, 0, none⟩) 1 1) (w' := W.alloc (.cells #[.int .i64 65535] 3)) (by simp [execOp, Act.eval, go_sem]) ⟨_, rfl, Lit1.new _ _ hsz, WA _, GA _⟩
                        | 15, _, hio =>
                          cases hio
                          have p13 := hpre ⟨13, .data⟩ (by simp) (by rfl) _ _ rfl rfl
                          have f13 : ax.tmps[93]?.getD undef = (.agg #[.int .u64 (hw 0 wh), .int .u64 (hw 1 wh), .int .u64 (hw 2 wh), .int .u64 (hw 3 wh), .int .u64 (hw 4 wh), .int .u64 (hw 5 wh)]) := (Array.getD_eq_getD_getElem? ..).symm.trans p13
                          have p14 := hpre ⟨14, .data⟩ (by simp) (by rfl) _ _ rfl rfl
                          obtain ⟨b14, e14, hb14, hl14, hc14⟩ := p14
                          have f14 := (Array.getD_eq_getD_getElem? ..).symm.trans e14
                          refine hwp_enter (f := 45) (args := #[.agg #[.int .u64 (hw 0 wh), .int .u64 (hw 1 wh), .int .u64 (hw 2 wh), .int .u64 (hw 3 wh), .int .u64 (hw 4 wh), .int .u64 (hw 5 wh)], .slice (some ⟨b14, 0, none⟩) 1 1]) (by simp [execOp, Act.eval, f13, f14, go_sem]) ?_
                          refine (cTimes1 wh 65535 b14 W hw0 (by omega) (by omega) hwP hm4 hl14 hc14).mono ?_
                          rintro ex wy ⟨rfl, hb⟩
                          exact ⟨_, rfl, _, rfl, rfl, hW.trans (hb.mono hsz), hb⟩
                        | ix + 16, hi, _ => exact absurd hi (by omega)
                      · intro ax wK hsh hW hφ
                        have e0 : ax.tmps.getD 80 undef = (.agg #[.int .u64 (hw 0 wh), .int .u64 (hw 1 wh), .int .u64 (hw 2 wh), .int .u64 (hw 3 wh), .int .u64 (hw 4 wh), .int .u64 (hw 5 wh)]) := hφ 0 _ _ (by omega) rfl rfl
                        have e1 : ax.tmps.getD 81 undef = (.agg #[.int .u64 (hw 0 zz), .int .u64 (hw 1 zz), .int .u64 (hw 2 zz), .int .u64 (hw 3 zz), .int .u64 (hw 4 zz), .int .u64 (hw 5 zz)]) := hφ 1 _ _ (by omega) rfl rfl
                        have e2 : ax.tmps.getD 82 undef = (.agg #[.int .u64 (hw 0 (wh - zz)), .int .u64 (hw 1 (wh - zz)), .int .u64 (hw 2 (wh - zz)), .int .u64 (hw 3 (wh - zz)), .int .u64 (hw 4 (wh - zz)), .int .u64 (hw 5 (wh - zz))]) := hφ 2 _ _ (by omega) rfl rfl
                        have e3 : ax.tmps.getD 83 undef = (.pointer (some ⟨sb, 0, none⟩)) := hφ 3 _ _ (by omega) rfl rfl
                        have e4 : ax.tmps.getD 84 undef = (.int .i64 lv) := hφ 4 _ _ (by omega) rfl rfl
                        obtain ⟨b5, e5, hb5, hl5, hc5⟩ := hφ 5 _ _ (by omega) rfl rfl
                        have e6 : ax.tmps.getD 86 undef = (.agg #[.int .u64 (hw 0 ((wh - zz) * lv)), .int .u64 (hw 1 ((wh - zz) * lv)), .int .u64 (hw 2 ((wh - zz) * lv)), .int .u64 (hw 3 ((wh - zz) * lv)), .int .u64 (hw 4 ((wh - zz) * lv)), .int .u64 (hw 5 ((wh - zz) * lv))]) := hφ 6 _ _ (by omega) rfl rfl
                        have e7 : ax.tmps.getD 87 undef = (.agg #[.int .u64 (hw 0 zz), .int .u64 (hw 1 zz), .int .u64 (hw 2 zz), .int .u64 (hw 3 zz), .int .u64 (hw 4 zz), .int .u64 (hw 5 zz)]) := hφ 7 _ _ (by omega) rfl rfl
                        have e8 : ax.tmps.getD 88 undef = (.pointer (some ⟨nb, 0, none⟩)) := hφ 8 _ _ (by omega) rfl rfl
                        have e9 : ax.tmps.getD 89 undef = (.int .i64 lv2) := hφ 9 _ _ (by omega) rfl rfl
                        obtain ⟨b10, e10, hb10, hl10, hc10⟩ := hφ 10 _ _ (by omega) rfl rfl
                        have e11 : ax.tmps.getD 91 undef = (.agg #[.int .u64 (hw 0 (zz * lv2)), .int .u64 (hw 1 (zz * lv2)), .int .u64 (hw 2 (zz * lv2)), .int .u64 (hw 3 (zz * lv2)), .int .u64 (hw 4 (zz * lv2)), .int .u64 (hw 5 (zz * lv2))]) := hφ 11 _ _ (by omega) rfl rfl
                        have e12 : ax.tmps.getD 92 undef = (.agg #[.int .u64 (hw 0 ((wh - zz) * lv + zz * lv2)), .int .u64 (hw 1 ((wh - zz) * lv + zz * lv2)), .int .u64 (hw 2 ((wh - zz) * lv + zz * lv2)), .int .u64 (hw 3 ((wh - zz) * lv + zz * lv2)), .int .u64 (hw 4 ((wh - zz) * lv + zz * lv2)), .int .u64 (hw 5 ((wh - zz) * lv + zz * lv2))]) := hφ 12 _ _ (by omega) rfl rfl
                        have e13 : ax.tmps.getD 93 undef = (.agg #[.int .u64 (hw 0 wh), .int .u64 (hw 1 wh), .int .u64 (hw 2 wh), .int .u64 (hw 3 wh), .int .u64 (hw 4 wh), .int .u64 (hw 5 wh)]) := hφ 13 _ _ (by omega) rfl rfl
                        obtain ⟨b14, e14, hb14, hl14, hc14⟩ := hφ 14 _ _ (by omega) rfl rfl
                        have e15 : ax.tmps.getD 95 undef = (.agg #[.int .u64 (hw 0 (wh * 65535)), .int .u64 (hw 1 (wh * 65535)), .int .u64 (hw 2 (wh * 65535)), .int .u64 (hw 3 (wh * 65535)), .int .u64 (hw 4 (wh * 65535)), .int .u64 (hw 5 (wh * 65535))]) := hφ 15 _ _ (by omega) rfl rfl
                        rw [shape_puts hsh [(80, .agg #[.int .u64 (hw 0 wh), .int .u64 (hw 1 wh), .int .u64 (hw 2 wh), .int .u64 (hw 3 wh), .int .u64 (hw 4 wh), .int .u64 (hw 5 wh)]), (81, .agg #[.int .u64 (hw 0 zz), .int .u64 (hw 1 zz), .int .u64 (hw 2 zz), .int .u64 (hw 3 zz), .int .u64 (hw 4 zz), .int .u64 (hw 5 zz)]), (82, .agg #[.int .u64 (hw 0 (wh - zz)), .int .u64 (hw 1 (wh - zz)), .int .u64 (hw 2 (wh - zz)), .int .u64 (hw 3 (wh - zz)), .int .u64 (hw 4 (wh - zz)), .int .u64 (hw 5 (wh - zz))]), (83, .pointer (some ⟨sb, 0, none⟩)), (84, .int .i64 lv), (85, .slice (some ⟨b5, 0, none⟩) 1 1), (86, .agg #[.int .u64 (hw 0 ((wh - zz) * lv)), .int .u64 (hw 1 ((wh - zz) * lv)), .int .u64 (hw 2 ((wh - zz) * lv)), .int .u64 (hw 3 ((wh - zz) * lv)), .int .u64 (hw 4 ((wh - zz) * lv)), .int .u64 (hw 5 ((wh - zz) * lv))]), (87, .agg #[.int .u64 (hw 0 zz), .int .u64 (hw 1 zz), .int .u64 (hw 2 zz), .int .u64 (hw 3 zz), .int .u64 (hw 4 zz), .int .u64 (hw 5 zz)]), (88, .pointer (some ⟨nb, 0, none⟩)), (89, .int .i64 lv2), (90, .slice (some ⟨b10, 0, none⟩) 1 1), (91, .agg #[.int .u64 (hw 0 (zz * lv2)), .int .u64 (hw 1 (zz * lv2)), .int .u64 (hw 2 (zz * lv2)), .int .u64 (hw 3 (zz * lv2)), .int .u64 (hw 4 (zz * lv2)), .int .u64 (hw 5 (zz * lv2))]), (92, .agg #[.int .u64 (hw 0 ((wh - zz) * lv + zz * lv2)), .int .u64 (hw 1 ((wh - zz) * lv + zz * lv2)), .int .u64 (hw 2 ((wh - zz) * lv + zz * lv2)), .int .u64 (hw 3 ((wh - zz) * lv + zz * lv2)), .int .u64 (hw 4 ((wh - zz) * lv + zz * lv2)), .int .u64 (hw 5 ((wh - zz) * lv + zz * lv2))]), (93, .agg #[.int .u64 (hw 0 wh), .int .u64 (hw 1 wh), .int .u64 (hw 2 wh), .int .u64 (hw 3 wh), .int .u64 (hw 4 wh), .int .u64 (hw 5 wh)]), (94, .slice (some ⟨b14, 0, none⟩) 1 1), (95, .agg #[.int .u64 (hw 0 (wh * 65535)), .int .u64 (hw 1 (wh * 65535)), .int .u64 (hw 2 (wh * 65535)), .int .u64 (hw 3 (wh * 65535)), .int .u64 (hw 4 (wh * 65535)), .int .u64 (hw 5 (wh * 65535))])] [80, 81, 82, 83, 84, 85, 86, 87, 88, 89, 90, 91, 92, 93, 94, 95] rfl (by kernel_rfl) ⟨e0, e1, e2, e3, e4, e5, e6, e7, e8, e9, e10, e11, e12, e13, e14, e15, trivial⟩]
                        clear hφ hsh e0 e1 e2 e3 e4 e5 e6 e7 e8 e9 e10 e11 e12 e13 e14 e15
                        clear hc5
                        clear hc10
                        clear hc14
                        simp only [putsN, List.foldl_cons, List.foldl_nil, List.drop_succ_cons, List.drop_zero, Act.put, List.setIfInBounds_toArray, List.set_cons_succ, List.set_cons_zero]
                        have HKK := Lib.hid (HKJ.out.below hW)
                        clear hW
                        refine wpList_storeH wK rfl _ _ rfl (w.heap.size + 2) rfl rfl HKK.out.2.1.1 ?_
                        intro wy t2 gg2
                        simp only [Act.put]
                        refine wpList_storeH wy rfl _ _ rfl (w.heap.size + 3) rfl rfl (HKK.out.2.1.2.gro gg2 (by omega)) ?_
                        intro wz t3 gg3
                        simp only [Act.put]
                        have t2' := t2.gro gg3 (by omega)
                        have HBE := Lib.hid (below_gro (below_gro HKK.out.bel gg2 HKK.out.bel.size (by omega)) gg3 (by have := HKK.out.bel.size; have := gg2.size; omega) (by omega))
                        have x0 := t2'.cell (i := 0) rfl
                        have yy0 := t3.cell (i := 0) rfl
                        have x1 := t2'.cell (i := 1) rfl
                        have yy1 := t3.cell (i := 1) rfl
                        have x2 := t2'.cell (i := 2) rfl
                        have yy2 := t3.cell (i := 2) rfl
                        have x3 := t2'.cell (i := 3) rfl
                        have yy3 := t3.cell (i := 3) rfl
                        have x4 := t2'.cell (i := 4) rfl
                        have yy4 := t3.cell (i := 4) rfl
                        have x5 := t2'.cell (i := 5) rfl
                        have yy5 := t3.cell (i := 5) rfl
                        clear t2 t2' t3 gg2 gg3
                        go_wp2_with fail
                        exact bodyPost_ret (v := .tuple #[.agg #[.int .u64 (hw 0 ((wh - zz) * lv + zz * lv2)), .int .u64 (hw 1 ((wh - zz) * lv + zz * lv2)), .int .u64 (hw 2 ((wh - zz) * lv + zz * lv2)), .int .u64 (hw 3 ((wh - zz) * lv + zz * lv2)), .int .u64 (hw 4 ((wh - zz) * lv + zz * lv2)), .int .u64 (hw 5 ((wh - zz) * lv + zz * lv2))], .agg #[.int .u64 (hw 0 (wh * 65535)), .int .u64 (hw 1 (wh * 65535)), .int .u64 (hw 2 (wh * 65535)), .int .u64 (hw 3 (wh * 65535)), .int .u64 (hw 4 (wh * 65535)), .int .u64 (hw 5 (wh * 65535))]]) (by simp [results, Try.results154, go_sem, x0, yy0, x1, yy1, x2, yy2, x3, yy3, x4, yy4, x5, yy5]) rfl ⟨by rw [HV.out], HBE.out⟩
              · have hde2 : decide (p < d * (b1 + fade)) = false := by simpa using hp2'
                have HRN := Lib.hid (HF3.out hp1' hp2')
                clear HF2 HF3
                obtain ⟨s0, s1, s2⟩ := stpCells HSD.out
                have hsl := HSD.out.lt
                go_wp2_with fail
                go_roundw
                case rel => exact ⟨j + 1, b1 + fade, by omega, by first | rfl | go_num, rfl, by omega, by omega, HRN, HKD⟩
                case measure => simp [intOf]; omega
      · have hjj : j = L.length := by omega
        subst hjj
        have HV := Lib.hid (show RES = (0, 1) by rw [HR.out, Nat.sub_self]; rfl)
        go_wp2_with fail
        refine (cOf 0 (by omega) (by omega) _).mono ?_
        rintro e wa ⟨rfl, hba⟩
        have HKa := Lib.hid (HK.out.below hba)
        clear hba
        go_wp2_with fail
        refine (cOf 1 (by omega) (by omega) _).mono ?_
        rintro e wb ⟨rfl, hbb⟩
        have HKb := Lib.hid (HKa.out.below hbb)
        clear hbb
        have r2 := HKb.out.2.1.1
        have r3 := HKb.out.2.1.2
        have x0 : wb.cell? ⟨w.heap.size + 1 + 1, 0, none⟩ = _ := r2.cell (i := 0) rfl
        have xf0 : wb.frozen? ⟨w.heap.size + 1 + 1, 0, none⟩ = _ := r2.frozen 0
        have y0 : wb.cell? ⟨w.heap.size + 1 + 1 + 1, 0, none⟩ = _ := r3.cell (i := 0) rfl
        have yf0 : wb.frozen? ⟨w.heap.size + 1 + 1 + 1, 0, none⟩ = _ := r3.frozen 0
        have x1 : wb.cell? ⟨w.heap.size + 1 + 1, 1, none⟩ = _ := r2.cell (i := 1) rfl
        have xf1 : wb.frozen? ⟨w.heap.size + 1 + 1, 1, none⟩ = _ := r2.frozen 1
        have y1 : wb.cell? ⟨w.heap.size + 1 + 1 + 1, 1, none⟩ = _ := r3.cell (i := 1) rfl
        have yf1 : wb.frozen? ⟨w.heap.size + 1 + 1 + 1, 1, none⟩ = _ := r3.frozen 1
        have x2 : wb.cell? ⟨w.heap.size + 1 + 1, 2, none⟩ = _ := r2.cell (i := 2) rfl
        have xf2 : wb.frozen? ⟨w.heap.size + 1 + 1, 2, none⟩ = _ := r2.frozen 2
        have y2 : wb.cell? ⟨w.heap.size + 1 + 1 + 1, 2, none⟩ = _ := r3.cell (i := 2) rfl
        have yf2 : wb.frozen? ⟨w.heap.size + 1 + 1 + 1, 2, none⟩ = _ := r3.frozen 2
        have x3 : wb.cell? ⟨w.heap.size + 1 + 1, 3, none⟩ = _ := r2.cell (i := 3) rfl
        have xf3 : wb.frozen? ⟨w.heap.size + 1 + 1, 3, none⟩ = _ := r2.frozen 3
        have y3 : wb.cell? ⟨w.heap.size + 1 + 1 + 1, 3, none⟩ = _ := r3.cell (i := 3) rfl
        have yf3 : wb.frozen? ⟨w.heap.size + 1 + 1 + 1, 3, none⟩ = _ := r3.frozen 3
        have x4 : wb.cell? ⟨w.heap.size + 1 + 1, 4, none⟩ = _ := r2.cell (i := 4) rfl
        have xf4 : wb.frozen? ⟨w.heap.size + 1 + 1, 4, none⟩ = _ := r2.frozen 4
        have y4 : wb.cell? ⟨w.heap.size + 1 + 1 + 1, 4, none⟩ = _ := r3.cell (i := 4) rfl
        have yf4 : wb.frozen? ⟨w.heap.size + 1 + 1 + 1, 4, none⟩ = _ := r3.frozen 4
        have x5 : wb.cell? ⟨w.heap.size + 1 + 1, 5, none⟩ = _ := r2.cell (i := 5) rfl
        have xf5 : wb.frozen? ⟨w.heap.size + 1 + 1, 5, none⟩ = _ := r2.frozen 5
        have y5 : wb.cell? ⟨w.heap.size + 1 + 1 + 1, 5, none⟩ = _ := r3.cell (i := 5) rfl
        have yf5 : wb.frozen? ⟨w.heap.size + 1 + 1 + 1, 5, none⟩ = _ := r3.frozen 5
        have HBE := Lib.hid (fun (u0 u1 u2 u3 u4 u5 v0 v1 v2 v3 v4 v5 : Value) => ((((((((((((HKb.out.bel.setCell (p := ⟨w.heap.size + 1 + 1, 0, none⟩) (by simp; omega) u0).setCell (p := ⟨w.heap.size + 1 + 1, 1, none⟩) (by simp; omega) u1).setCell (p := ⟨w.heap.size + 1 + 1, 2, none⟩) (by simp; omega) u2).setCell (p := ⟨w.heap.size + 1 + 1, 3, none⟩) (by simp; omega) u3).setCell (p := ⟨w.heap.size + 1 + 1, 4, none⟩) (by simp; omega) u4).setCell (p := ⟨w.heap.size + 1 + 1, 5, none⟩) (by simp; omega) u5).setCell (p := ⟨w.heap.size + 1 + 1 + 1, 0, none⟩) (by simp; omega) v0).setCell (p := ⟨w.heap.size + 1 + 1 + 1, 1, none⟩) (by simp; omega) v1).setCell (p := ⟨w.heap.size + 1 + 1 + 1, 2, none⟩) (by simp; omega) v2).setCell (p := ⟨w.heap.size + 1 + 1 + 1, 3, none⟩) (by simp; omega) v3).setCell (p := ⟨w.heap.size + 1 + 1 + 1, 4, none⟩) (by simp; omega) v4).setCell (p := ⟨w.heap.size + 1 + 1 + 1, 5, none⟩) (by simp; omega) v5))
        clear r2 r3
        go_wp2_with fail
        exact bodyPost_ret (v := .tuple #[.agg #[.int .u64 (hw 0 0), .int .u64 (hw 1 0), .int .u64 (hw 2 0), .int .u64 (hw 3 0), .int .u64 (hw 4 0), .int .u64 (hw 5 0)], .agg #[.int .u64 (hw 0 1), .int .u64 (hw 1 1), .int .u64 (hw 2 1), .int .u64 (hw 3 1), .int .u64 (hw 4 1), .int .u64 (hw 5 1)]]) (by simp [results, Try.results154, go_sem, x0, y0, x1, y1, x2, y2, x3, y3, x4, y4, x5, y5]) rfl ⟨by rw [HV.out], HBE.out _ _ _ _ _ _ _ _ _ _ _ _⟩
end Go.Proofs.Ytopmdeefcjdadaa
