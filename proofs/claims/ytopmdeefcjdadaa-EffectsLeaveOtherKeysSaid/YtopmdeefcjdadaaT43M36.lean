/- effect.size. (printed by wip/gen/gen_size.py) effect.greatest over a function value of three captures -/
import Derived.Test.YtopmdeefcjdadaaT43M18
import Derived.Test.YtopmdeefcjdadaaT43M35
import Derived.Test.YtopmdeefcjdadaaT43M17

namespace Go.Proofs.Ytopmdeefcjdadaa
open Go.RowKit
set_option linter.unusedVariables false
set_option linter.unusedSimpArgs false

set_option maxRecDepth 100000 in
set_option maxHeartbeats 4000000 in
/-- the store of a huge number as an operation -/
theorem oper_storeH (w : World) {o : Oper} {a : Act} {K : Act → World → Prop} {Q : Exit → Act → World → Prop} {x0 x1 x2 x3 x4 x5 c0 c1 c2 c3 c4 c5 : Int}
    (p x : Operand) (hop : o.op = Op.store 77 p x) (b : Nat) (hp : a.eval p = .pointer (some ⟨b, 0, none⟩)) (hx : a.eval x = .agg #[.int .u64 x0, .int .u64 x1, .int .u64 x2, .int .u64 x3, .int .u64 x4, .int .u64 x5]) (hb : TBox w b 77 #[.int .u64 c0, .int .u64 c1, .int .u64 c2, .int .u64 c3, .int .u64 c4, .int .u64 c5])
    (hK : ∀ w', TBox w' b 77 #[.int .u64 x0, .int .u64 x1, .int .u64 x2, .int .u64 x3, .int .u64 x4, .int .u64 x5] → w.grownBy w' (some b) → K (a.put o.dst undef) w') : o.wp Try.prog a w K Q := by
  have hT := (((((hb.set 0 (.int .u64 x0)).set 1 (.int .u64 x1)).set 2 (.int .u64 x2)).set 3 (.int .u64 x3)).set 4 (.int .u64 x4)).set 5 (.int .u64 x5)
  have hG : w.grownBy ((((((w.setCell ⟨b, 0, none⟩ (.int .u64 x0)).setCell ⟨b, 1, none⟩ (.int .u64 x1)).setCell ⟨b, 2, none⟩ (.int .u64 x2)).setCell ⟨b, 3, none⟩ (.int .u64 x3)).setCell ⟨b, 4, none⟩ (.int .u64 x4)).setCell ⟨b, 5, none⟩ (.int .u64 x5)) (some b) := by
    exact gro_tr (gro_tr (gro_tr (gro_tr (gro_tr (gro1 w b 0 _) (gro1 _ b 1 _)) (gro1 _ b 2 _)) (gro1 _ b 3 _)) (gro1 _ b 4 _)) (gro1 _ b 5 _)
  simp only [List.setIfInBounds_toArray, List.set_cons_succ, List.set_cons_zero] at hT
  obtain ⟨w1, hw1⟩ : ∃ w1 : World, w1 = ((((((w.setCell ⟨b, 0, none⟩ (.int .u64 x0)).setCell ⟨b, 1, none⟩ (.int .u64 x1)).setCell ⟨b, 2, none⟩ (.int .u64 x2)).setCell ⟨b, 3, none⟩ (.int .u64 x3)).setCell ⟨b, 4, none⟩ (.int .u64 x4)).setCell ⟨b, 5, none⟩ (.int .u64 x5)) := ⟨_, rfl⟩
  rw [← hw1] at hT hG
  have h := hK w1 hT hG
  rw [hw1] at h
  have y0 := hb.cell (i := 0) rfl
  have z0 := hb.frozen 0
  have y1 := hb.cell (i := 1) rfl
  have z1 := hb.frozen 1
  have y2 := hb.cell (i := 2) rfl
  have z2 := hb.frozen 2
  have y3 := hb.cell (i := 3) rfl
  have z3 := hb.frozen 3
  have y4 := hb.cell (i := 4) rfl
  have z4 := hb.frozen 4
  have y5 := hb.cell (i := 5) rfl
  have z5 := hb.frozen 5
  clear hK hT hG hw1 hb
  unfold Oper.wp
  simp only [execOp, hop, hp, hx]
  go_simp
  exact h
theorem boxes3 (w : World) (E A B : Array Value) (T H : TypeId) : ∃ w1 : World, w1 = (((w.alloc (.cells E T)).alloc (.cells A H)).alloc (.cells B H)) ∧
    TBox w1 w.heap.size T E ∧ TBox w1 (w.heap.size + 1) H A ∧ TBox w1 (w.heap.size + 2) H B ∧ Below w.heap.size w w1 ∧ w1.heap.size = w.heap.size + 3 := by
  refine ⟨_, rfl, ?_, ?_, ?_, ?_, ?_⟩
  · exact ((TBox.new w E T).alloc _).alloc _
  · have h := (TBox.new (w.alloc (.cells E T)) A H).alloc (.cells B H)
    simpa only [World.size_alloc] using h
  · have h := TBox.new ((w.alloc (.cells E T)).alloc (.cells A H)) B H
    simpa only [World.size_alloc] using h
  · exact (((Below.refl _ _).alloc (Nat.le_refl _) _).alloc (by simp only [World.size_alloc]; omega) _).alloc (by simp only [World.size_alloc]; omega) _
  · simp
theorem boxes2 (w : World) (A B : Array Value) (H : TypeId) : ∃ w1 : World, w1 = ((w.alloc (.cells A H)).alloc (.cells B H)) ∧
    TBox w1 w.heap.size H A ∧ TBox w1 (w.heap.size + 1) H B ∧ Below w.heap.size w w1 ∧ w1.heap.size = w.heap.size + 2 := by
  refine ⟨_, rfl, ?_, ?_, ?_, ?_⟩
  · exact (TBox.new w A H).alloc _
  · have h := TBox.new (w.alloc (.cells A H)) B H
    simpa only [World.size_alloc] using h
  · exact ((Below.refl _ _).alloc (Nat.le_refl _) _).alloc (by simp only [World.size_alloc]; omega) _
  · simp
set_option maxRecDepth 100000 in
set_option maxHeartbeats 8000000 in
theorem size_any (form low high cycle width spread start tin tend tout t : Int) (back rel : Bool) (sv kv rv : Value) (w : World) (s0 : 0 ≤ start) (s1 : start ≤ t) (t1 : t ≤ 36000000) (i0 : 0 ≤ tin) (i1 : tin ≤ 36000000) (o0 : 0 ≤ tout) (o1 : tout ≤ 36000000) (he : tend = -1 ∨ start ≤ tend ∧ tend ≤ 36000000) (hg : tend = -1 ∨ t < tend + tout) :
    Calls Try.prog 98 #[.agg #[.int .i64 form, .int .i64 low, .int .i64 high, .int .i64 cycle, .int .i64 width, .int .i64 spread, .bool back, .bool rel, sv, kv, .int .i64 start, rv, .int .i64 tin, .int .i64 tend, .int .i64 tout], .int .i64 t] w fun e w' => e = .returned (.tuple #[.agg #[.int .u64 (hw 0 (sizV start tin tend tout t).1), .int .u64 (hw 1 (sizV start tin tend tout t).1), .int .u64 (hw 2 (sizV start tin tend tout t).1), .int .u64 (hw 3 (sizV start tin tend tout t).1), .int .u64 (hw 4 (sizV start tin tend tout t).1), .int .u64 (hw 5 (sizV start tin tend tout t).1)], .agg #[.int .u64 (hw 0 (sizV start tin tend tout t).2), .int .u64 (hw 1 (sizV start tin tend tout t).2), .int .u64 (hw 2 (sizV start tin tend tout t).2), .int .u64 (hw 3 (sizV start tin tend tout t).2), .int .u64 (hw 4 (sizV start tin tend tout t).2), .int .u64 (hw 5 (sizV start tin tend tout t).2)]]) ∧ Below w.heap.size w w' := by
  have HSZ := Lib.hid (show sizV start tin tend tout t = if tend ≠ -1 ∧ tend < t then ((if t - start < tin then t - start else 1) * (tend + tout - t), (if t - start < tin then tin else 1) * tout) else (if t - start < tin then t - start else 1, if t - start < tin then tin else 1) from rfl)
  generalize sizV start tin tend tout t = SZ at *
  obtain ⟨n1, hn1⟩ : ∃ n1, (if t - start < tin then t - start else 1) = n1 := ⟨_, rfl⟩
  obtain ⟨d1, hd1⟩ : ∃ d1, (if t - start < tin then tin else 1) = d1 := ⟨_, rfl⟩
  rw [hn1, hd1] at HSZ
  have HND := Lib.hid (show (0 ≤ n1 ∧ n1 ≤ 36000000) ∧ 0 ≤ d1 ∧ d1 ≤ 36000000 from by
    rw [← hn1, ← hd1]
    by_cases c : t - start < tin
    · rw [if_pos c, if_pos c]; omega
    · rw [if_neg c, if_neg c]; omega)
  have d0 : 0 ≤ t - start := by omega
  have d9 : t - start ≤ 9223372036854775807 := by omega
  have i9 : tin ≤ 9223372036854775807 := by omega
  have o9 : tout ≤ 9223372036854775807 := by omega
  have aw : IntKind.i64.wrap (t - start) = t - start := IntWalk.i64_in _ (by omega)
  go_enter Try.func98, Try.ntmps98
  go_upto_region 1 with fail
  obtain ⟨w1, hw1, t0, t4, t5, hB1, hz1⟩ := boxes3 w #[.int .i64 form, .int .i64 low, .int .i64 high, .int .i64 cycle, .int .i64 width, .int .i64 spread, .bool back, .bool rel, sv, kv, .int .i64 start, rv, .int .i64 tin, .int .i64 tend, .int .i64 tout] #[.int .u64 0, .int .u64 0, .int .u64 0, .int .u64 0, .int .u64 0, .int .u64 0] #[.int .u64 0, .int .u64 0, .int .u64 0, .int .u64 0, .int .u64 0, .int .u64 0] 28 77
  rw [← hw1]
  have T0 := Lib.hid t0
  have T4 := Lib.hid t4
  have T5 := Lib.hid t5
  have HB1 := Lib.hid hB1
  have HZ1 := Lib.hid hz1
  clear hw1 t0 t4 t5 hB1 hz1
  go_wp2_with fail
  refine (cOf 1 (by decide) (by decide) _).mono ?_
  rintro e w2 ⟨rfl, hb⟩
  have U0 := Lib.hid (T0.out.below hb)
  have U4 := Lib.hid (T4.out.below hb)
  have U5 := Lib.hid (T5.out.below hb)
  have HB2 := Lib.hid (HB1.out.trans (hb.mono HB1.out.size))
  have HZ2 := Lib.hid (show w.heap.size + 3 ≤ w2.heap.size by have := hb.size; have := HZ1.out; omega)
  clear hb T0 T4 T5 HB1 HZ1
  go_wp2_with fail
  refine (cOf 1 (by decide) (by decide) _).mono ?_
  rintro e w3 ⟨rfl, hb⟩
  obtain ⟨w4, hw4, t6, t7, hB4, hz4⟩ := boxes2 w3 #[.int .u64 (hw 0 1), .int .u64 (hw 1 1), .int .u64 (hw 2 1), .int .u64 (hw 3 1), .int .u64 (hw 4 1), .int .u64 (hw 5 1)] #[.int .u64 (hw 0 1), .int .u64 (hw 1 1), .int .u64 (hw 2 1), .int .u64 (hw 3 1), .int .u64 (hw 4 1), .int .u64 (hw 5 1)] 77
  have V0 := Lib.hid ((U0.out.below hb).below hB4)
  have V4 := Lib.hid ((U4.out.below hb).below hB4)
  have V5 := Lib.hid ((U5.out.below hb).below hB4)
  have V6 := Lib.hid t6
  have V7 := Lib.hid t7
  have HB4 := Lib.hid ((HB2.out.trans (hb.mono HB2.out.size)).trans (hB4.mono (Nat.le_trans HB2.out.size hb.size)))
  obtain ⟨b6, hb6⟩ : ∃ b, w3.heap.size = b := ⟨_, rfl⟩
  have HZ4 := Lib.hid (show w.heap.size + 3 ≤ b6 by have := hb.size; have := HZ2.out; omega)
  have HZ5 := Lib.hid (show b6 + 2 = w4.heap.size by omega)
  rw [hb6] at V6 V7
  clear hb U0 U4 U5 HB2 HZ2 t6 t7 hB4 hz4
  go_upto_region 2 with fail
  rw [← hw4]
  clear hw4 hb6
  have q10 := V0.out.cell (i := 10) rfl
  have q12 := V0.out.cell (i := 12) rfl
  have ql := V0.out.lt
  go_upto_if 16 with fail
  clear q10 q12 ql
  go_cut [] (fun wx => Hid (TBox wx w.heap.size 28 #[.int .i64 form, .int .i64 low, .int .i64 high, .int .i64 cycle, .int .i64 width, .int .i64 spread, .bool back, .bool rel, sv, kv, .int .i64 start, rv, .int .i64 tin, .int .i64 tend, .int .i64 tout]) ∧ Hid (TBox wx (w.heap.size + 1) 77 #[.int .u64 0, .int .u64 0, .int .u64 0, .int .u64 0, .int .u64 0, .int .u64 0]) ∧ Hid (TBox wx (w.heap.size + 2) 77 #[.int .u64 0, .int .u64 0, .int .u64 0, .int .u64 0, .int .u64 0, .int .u64 0]) ∧ Hid (TBox wx b6 77 #[.int .u64 (hw 0 n1), .int .u64 (hw 1 n1), .int .u64 (hw 2 n1), .int .u64 (hw 3 n1), .int .u64 (hw 4 n1), .int .u64 (hw 5 n1)]) ∧ Hid (TBox wx (b6 + 1) 77 #[.int .u64 (hw 0 d1), .int .u64 (hw 1 d1), .int .u64 (hw 2 d1), .int .u64 (hw 3 d1), .int .u64 (hw 4 d1), .int .u64 (hw 5 d1)]) ∧ Hid (Below w.heap.size w wx))
  case first =>
    by_cases hlt : t - start < tin
    · rw [if_pos hlt] at hn1 hd1
      subst hn1 hd1
      go_upto_region 3 with fail
      refine region_heads (by kernel_rfl) 8 (by simp) (by kernel_rfl) (by kernel_rfl) (by kernel_rfl) (by kernel_rfl) (fun jx vx wx => match jx with | 0 => vx = (.int .i64 t) | 1 => vx = (.pointer (some ⟨w.heap.size, 10, none⟩)) | 2 => vx = (.int .i64 start) | 3 => vx = (.int .i64 (t - start)) | 4 => vx = (.agg #[.int .u64 (hw 0 (t - start)), .int .u64 (hw 1 (t - start)), .int .u64 (hw 2 (t - start)), .int .u64 (hw 3 (t - start)), .int .u64 (hw 4 (t - start)), .int .u64 (hw 5 (t - start))]) | 5 => vx = (.pointer (some ⟨w.heap.size, 12, none⟩)) | 6 => vx = (.int .i64 tin) | 7 => vx = (.agg #[.int .u64 (hw 0 tin), .int .u64 (hw 1 tin), .int .u64 (hw 2 tin), .int .u64 (hw 3 tin), .int .u64 (hw 4 tin), .int .u64 (hw 5 tin)]) | _ => True) (fun W => Below w4.heap.size w4 W) (fun wx wy => Below wx.heap.size wx wy) (Below.refl _ _).drew ?_ ?_ ?_ ?_
      · intro jx vx wx wy h g
        match jx, h with
        | 0, h => exact h
        | 1, h => exact h
        | 2, h => exact h
        | 3, h => exact h
        | 4, h => exact h
        | 5, h => exact h
        | 6, h => exact h
        | 7, h => exact h
        | jx + 8, h => exact trivial
      · intro jx ox dx hj ho hd
        exact insN_of (by kernel_rfl) hj ho hd
      · intro ix ox ax W hi hio hsh hW hpre
        have hsz : w4.heap.size ≤ W.heap.size := hW.size
        have GA : ∀ ob, Below W.heap.size W (W.alloc ob) := fun ob => (Below.refl _ _).alloc (Nat.le_refl _) ob
        have WA : ∀ ob, Below w4.heap.size w4 (W.alloc ob) := fun ob => hW.alloc hsz ob
        have t1 : ax.tmps[1]?.getD undef = (.int .i64 t) := (Array.getD_eq_getD_getElem? ..).symm.trans ((hsh.2.2 1 (notN_of (by kernel_rfl))).trans rfl)
        have t2 : ax.tmps[2]?.getD undef = (.pointer (some ⟨w.heap.size, 0, none⟩)) := (Array.getD_eq_getD_getElem? ..).symm.trans ((hsh.2.2 2 (notN_of (by kernel_rfl))).trans rfl)
        have q10 := (V0.out.below hW).cell (i := 10) rfl
        have q12 := (V0.out.below hW).cell (i := 12) rfl
        clear hsh
        match ix, hi, hio with
        | 0, _, hio =>
          cases hio
          exact hwp_val (v := .int .i64 t) (w' := W) (by simp [execOp, Act.eval, t1, go_sem]) ⟨_, rfl, rfl, hW, Below.refl _ _⟩
        | 1, _, hio =>
          cases hio
          exact hwp_val (v := .pointer (some ⟨w.heap.size, 10, none⟩)) (w' := W) (by simp [execOp, Act.eval, t2, go_sem]) ⟨_, rfl, rfl, hW, Below.refl _ _⟩
        | 2, _, hio =>
          cases hio
          have p1 := hpre ⟨1, .data⟩ (by simp) (by rfl) _ _ rfl rfl
          have f1 : ax.tmps[18]?.getD undef = (.pointer (some ⟨w.heap.size, 10, none⟩)) := (Array.getD_eq_getD_getElem? ..).symm.trans p1
          exact hwp_val (v := .int .i64 start) (w' := W) (by simp [execOp, Act.eval, q10, f1, go_sem]) ⟨_, rfl, rfl, hW, Below.refl _ _⟩
        | 3, _, hio =>
          cases hio
          have p0 := hpre ⟨0, .data⟩ (by simp) (by rfl) _ _ rfl rfl
          have f0 : ax.tmps[17]?.getD undef = (.int .i64 t) := (Array.getD_eq_getD_getElem? ..).symm.trans p0
          have p2 := hpre ⟨2, .data⟩ (by simp) (by rfl) _ _ rfl rfl
          have f2 : ax.tmps[19]?.getD undef = (.int .i64 start) := (Array.getD_eq_getD_getElem? ..).symm.trans p2
          exact hwp_val (v := .int .i64 (t - start)) (w' := W) (by simp [execOp, Act.eval, aw, f0, f2, go_sem]) ⟨_, rfl, rfl, hW, Below.refl _ _⟩
        | 4, _, hio =>
          cases hio
          have p3 := hpre ⟨3, .data⟩ (by simp) (by rfl) _ _ rfl rfl
          have f3 : ax.tmps[20]?.getD undef = (.int .i64 (t - start)) := (Array.getD_eq_getD_getElem? ..).symm.trans p3
          refine hwp_enter (f := 113) (args := #[.int .i64 (t - start)]) (by simp [execOp, Act.eval, f3, go_sem]) ?_
          refine (cOf (t - start) d0 d9 W).mono ?_
          rintro ex wy ⟨rfl, hb⟩
          exact ⟨_, rfl, _, rfl, rfl, hW.trans (hb.mono hsz), hb⟩
        | 5, _, hio =>
          cases hio
          exact hwp_val (v := .pointer (some ⟨w.heap.size, 12, none⟩)) (w' := W) (by simp [execOp, Act.eval, t2, go_sem]) ⟨_, rfl, rfl, hW, Below.refl _ _⟩
        | 6, _, hio =>
          cases hio
          have p5 := hpre ⟨5, .data⟩ (by simp) (by rfl) _ _ rfl rfl
          have f5 : ax.tmps[22]?.getD undef = (.pointer (some ⟨w.heap.size, 12, none⟩)) := (Array.getD_eq_getD_getElem? ..).symm.trans p5
          exact hwp_val (v := .int .i64 tin) (w' := W) (by simp [execOp, Act.eval, q12, f5, go_sem]) ⟨_, rfl, rfl, hW, Below.refl _ _⟩
        | 7, _, hio =>
          cases hio
          have p6 := hpre ⟨6, .data⟩ (by simp) (by rfl) _ _ rfl rfl
          have f6 : ax.tmps[23]?.getD undef = (.int .i64 tin) := (Array.getD_eq_getD_getElem? ..).symm.trans p6
          refine hwp_enter (f := 113) (args := #[.int .i64 tin]) (by simp [execOp, Act.eval, f6, go_sem]) ?_
          refine (cOf tin i0 i9 W).mono ?_
          rintro ex wy ⟨rfl, hb⟩
          exact ⟨_, rfl, _, rfl, rfl, hW.trans (hb.mono hsz), hb⟩
        | ix + 8, hi, _ => exact absurd hi (by omega)
      · intro ax W hsh hW hφ
        have e0 : ax.tmps.getD 17 undef = (.int .i64 t) := hφ 0 _ _ (by omega) rfl rfl
        have e1 : ax.tmps.getD 18 undef = (.pointer (some ⟨w.heap.size, 10, none⟩)) := hφ 1 _ _ (by omega) rfl rfl
        have e2 : ax.tmps.getD 19 undef = (.int .i64 start) := hφ 2 _ _ (by omega) rfl rfl
        have e3 : ax.tmps.getD 20 undef = (.int .i64 (t - start)) := hφ 3 _ _ (by omega) rfl rfl
        have e4 : ax.tmps.getD 21 undef = (.agg #[.int .u64 (hw 0 (t - start)), .int .u64 (hw 1 (t - start)), .int .u64 (hw 2 (t - start)), .int .u64 (hw 3 (t - start)), .int .u64 (hw 4 (t - start)), .int .u64 (hw 5 (t - start))]) := hφ 4 _ _ (by omega) rfl rfl
        have e5 : ax.tmps.getD 22 undef = (.pointer (some ⟨w.heap.size, 12, none⟩)) := hφ 5 _ _ (by omega) rfl rfl
        have e6 : ax.tmps.getD 23 undef = (.int .i64 tin) := hφ 6 _ _ (by omega) rfl rfl
        have e7 : ax.tmps.getD 24 undef = (.agg #[.int .u64 (hw 0 tin), .int .u64 (hw 1 tin), .int .u64 (hw 2 tin), .int .u64 (hw 3 tin), .int .u64 (hw 4 tin), .int .u64 (hw 5 tin)]) := hφ 7 _ _ (by omega) rfl rfl
        rw [shape_puts hsh [(17, .int .i64 t), (18, .pointer (some ⟨w.heap.size, 10, none⟩)), (19, .int .i64 start), (20, .int .i64 (t - start)), (21, .agg #[.int .u64 (hw 0 (t - start)), .int .u64 (hw 1 (t - start)), .int .u64 (hw 2 (t - start)), .int .u64 (hw 3 (t - start)), .int .u64 (hw 4 (t - start)), .int .u64 (hw 5 (t - start))]), (22, .pointer (some ⟨w.heap.size, 12, none⟩)), (23, .int .i64 tin), (24, .agg #[.int .u64 (hw 0 tin), .int .u64 (hw 1 tin), .int .u64 (hw 2 tin), .int .u64 (hw 3 tin), .int .u64 (hw 4 tin), .int .u64 (hw 5 tin)])] [17, 18, 19, 20, 21, 22, 23, 24] rfl (by kernel_rfl) ⟨e0, e1, e2, e3, e4, e5, e6, e7, trivial⟩]
        clear hφ hsh e0 e1 e2 e3 e4 e5 e6 e7
        simp only [putsN, List.foldl_cons, List.foldl_nil, List.drop_succ_cons, List.drop_zero, Act.put, List.setIfInBounds_toArray, List.set_cons_succ, List.set_cons_zero]
        have X0 := V0.out.below hW
        have X4 := V4.out.below hW
        have X5 := V5.out.below hW
        have X6 := V6.out.below hW
        have X7 := V7.out.below hW
        have XB := HB4.out.trans (hW.mono HB4.out.size)
        have z4 := HZ4.out
        clear hW
        refine wpList_storeH W rfl _ _ rfl b6 rfl rfl X6 ?_
        intro wy t6 g6
        simp only [Act.put]
        refine wpList_storeH wy rfl _ _ rfl (b6 + 1) rfl rfl (X7.gro g6 (by omega)) ?_
        intro wz t7 g7
        simp only [Act.put]
        have Y0 := Lib.hid ((X0.gro g6 (by omega)).gro g7 (by omega))
        have Y4 := Lib.hid ((X4.gro g6 (by omega)).gro g7 (by omega))
        have Y5 := Lib.hid ((X5.gro g6 (by omega)).gro g7 (by omega))
        have Y6 := Lib.hid (t6.gro g7 (by omega))
        have Y7 := Lib.hid t7
        have HBY := Lib.hid (below_gro (below_gro XB g6 XB.size (by omega)) g7 (by have := XB.size; have := g6.size; omega) (by omega))
        clear X0 X4 X5 X6 X7 XB t6 t7 g6 g7
        go_wp2_with fail
        go_meet
        exact ⟨Y0, Y4, Y5, Y6, Y7, HBY⟩
    · rw [if_neg hlt] at hn1 hd1
      subst hn1 hd1
      go_wp2_with fail
      go_meet
      exact ⟨V0, V4, V5, V6, V7, HB4⟩
  case rest =>
    obtain ⟨X0, X4, X5, X6, X7, XB⟩ := hcut
    obtain ⟨w5, rfl⟩ : ∃ x, x = wc := ⟨wc, rfl⟩
    clear V0 V4 V5 V6 V7 HB4 hn1 hd1
    go_upto_region 4 with fail
    go_cut [33] (fun c wx => c = .bool (decide (tend ≠ -1) && decide (tend < t)) ∧ w5 = wx)
    case first =>
      have q13 := X0.out.cell (i := 13) rfl
      have ql := X0.out.lt
      by_cases hte : tend = -1
      · subst hte
        go_wp2_with fail
        go_meet
        exact ⟨rfl, rfl⟩
      · have hb1 : (tend != -1) = true := by simp [hte]
        go_wp2_with fail
        go_meet
        exact ⟨by simp [hte], rfl⟩
    case rest =>
    obtain ⟨rfl, rfl⟩ := hcut
    have HSX := Lib.hid (show SZ = if (decide (tend ≠ -1) && decide (tend < t)) = true then (n1 * (tend + tout - t), d1 * tout) else (n1, d1) by rw [HSZ.out]; by_cases c : tend = -1 <;> by_cases d : tend < t <;> simp [c, d])
    have HCC := Lib.hid (show (decide (tend ≠ -1) && decide (tend < t)) = true → 0 < tend + tout - t ∧ tend ≤ 36000000 from fun h => by simp at h; omega)
    generalize (decide (tend ≠ -1) && decide (tend < t)) = CB at *
    clear HSZ
    go_upto_if 33 with fail
    go_cut [] (fun wx => ∃ n2 d2 : Int, Hid (SZ = (n2, d2)) ∧ Hid (TBox wx (w.heap.size + 1) 77 #[.int .u64 0, .int .u64 0, .int .u64 0, .int .u64 0, .int .u64 0, .int .u64 0]) ∧ Hid (TBox wx (w.heap.size + 2) 77 #[.int .u64 0, .int .u64 0, .int .u64 0, .int .u64 0, .int .u64 0, .int .u64 0]) ∧ Hid (TBox wx b6 77 #[.int .u64 (hw 0 n2), .int .u64 (hw 1 n2), .int .u64 (hw 2 n2), .int .u64 (hw 3 n2), .int .u64 (hw 4 n2), .int .u64 (hw 5 n2)]) ∧ Hid (TBox wx (b6 + 1) 77 #[.int .u64 (hw 0 d2), .int .u64 (hw 1 d2), .int .u64 (hw 2 d2), .int .u64 (hw 3 d2), .int .u64 (hw 4 d2), .int .u64 (hw 5 d2)]) ∧ Hid (Below w.heap.size w wx))
    case first =>
      cases CB
      · have HV := Lib.hid (show SZ = (n1, d1) by rw [HSX.out]; rfl)
        go_wp2_with fail
        go_meet
        exact ⟨n1, d1, HV, X4, X5, X6, X7, XB⟩
      · have HV := Lib.hid (show SZ = (n1 * (tend + tout - t), d1 * tout) by rw [HSX.out]; rfl)
        obtain ⟨hgt, hte⟩ := HCC.out rfl
        have aw1 : IntKind.i64.wrap (tend + tout) = tend + tout := IntWalk.i64_in _ (by omega)
        have aw2 : IntKind.i64.wrap (tend + tout - t) = tend + tout - t := IntWalk.i64_in _ (by omega)
        have m0 : 0 ≤ tend + tout - t := by omega
        have m9 : tend + tout - t ≤ 9223372036854775807 := by omega
        obtain ⟨⟨n0, n9⟩, e0, e9⟩ := HND.out
        have hbig := powW6_big
        have nP : n1 < powW 6 := by omega
        have dP : d1 < powW 6 := by omega
        have nmP : n1 * (tend + tout - t) < powW 6 := by
          have := (mul_both (a := n1) (b := tend + tout - t) (A := 36000000) (B := 72000000) n0 m0 n9 (by omega)).2
          omega
        have dmP : d1 * tout < powW 6 := by
          have := (mul_both (a := d1) (b := tout) (A := 36000000) (B := 36000000) e0 o0 e9 o1).2
          omega
        have HP := Lib.hid (show (n1 < powW 6 ∧ d1 < powW 6) ∧ n1 * (tend + tout - t) < powW 6 ∧ d1 * tout < powW 6 from ⟨⟨nP, dP⟩, nmP, dmP⟩)
        clear hbig nP dP nmP dmP
        go_upto_region 5 with fail
        obtain ⟨⟨nP, dP⟩, nmP, dmP⟩ := HP.out
        obtain ⟨⟨n0, n9⟩, e0, e9⟩ := HND.out
        refine region_heads (by kernel_rfl) 15 (by simp) (by kernel_rfl) (by kernel_rfl) (by kernel_rfl) (by kernel_rfl) (fun jx vx wx => match jx with | 0 => vx = (.agg #[.int .u64 (hw 0 n1), .int .u64 (hw 1 n1), .int .u64 (hw 2 n1), .int .u64 (hw 3 n1), .int .u64 (hw 4 n1), .int .u64 (hw 5 n1)]) | 1 => vx = (.pointer (some ⟨w.heap.size, 13, none⟩)) | 2 => vx = (.int .i64 tend) | 3 => vx = (.pointer (some ⟨w.heap.size, 14, none⟩)) | 4 => vx = (.int .i64 tout) | 5 => vx = (.int .i64 (tend + tout)) | 6 => vx = (.int .i64 t) | 7 => vx = (.int .i64 (tend + tout - t)) | 8 => Lit1 w5.heap.size vx (.int .i64 (tend + tout - t)) wx | 9 => vx = (.agg #[.int .u64 (hw 0 (n1 * (tend + tout - t))), .int .u64 (hw 1 (n1 * (tend + tout - t))), .int .u64 (hw 2 (n1 * (tend + tout - t))), .int .u64 (hw 3 (n1 * (tend + tout - t))), .int .u64 (hw 4 (n1 * (tend + tout - t))), .int .u64 (hw 5 (n1 * (tend + tout - t)))]) | 10 => vx = (.agg #[.int .u64 (hw 0 d1), .int .u64 (hw 1 d1), .int .u64 (hw 2 d1), .int .u64 (hw 3 d1), .int .u64 (hw 4 d1), .int .u64 (hw 5 d1)]) | 11 => vx = (.pointer (some ⟨w.heap.size, 14, none⟩)) | 12 => vx = (.int .i64 tout) | 13 => Lit1 w5.heap.size vx (.int .i64 tout) wx | 14 => vx = (.agg #[.int .u64 (hw 0 (d1 * tout)), .int .u64 (hw 1 (d1 * tout)), .int .u64 (hw 2 (d1 * tout)), .int .u64 (hw 3 (d1 * tout)), .int .u64 (hw 4 (d1 * tout)), .int .u64 (hw 5 (d1 * tout))]) | _ => True) (fun W => Below w5.heap.size w5 W) (fun wx wy => Below wx.heap.size wx wy) (Below.refl _ _).drew ?_ ?_ ?_ ?_
        · intro jx vx wx wy h g
          match jx, h with
          | 0, h => exact h
          | 1, h => exact h
          | 2, h => exact h
          | 3, h => exact h
          | 4, h => exact h
          | 5, h => exact h
          | 6, h => exact h
          | 7, h => exact h
          | 8, h => exact Lit1.up h g
          | 9, h => exact h
          | 10, h => exact h
          | 11, h => exact h
          | 12, h => exact h
          | 13, h => exact Lit1.up h g
          | 14, h => exact h
          | jx + 15, h => exact trivial
        · intro jx ox dx hj ho hd
          exact insN_of (by kernel_rfl) hj ho hd
        · intro ix ox ax W hi hio hsh hW hpre
          have hsz : w5.heap.size ≤ W.heap.size := hW.size
          have GA : ∀ ob, Below W.heap.size W (W.alloc ob) := fun ob => (Below.refl _ _).alloc (Nat.le_refl _) ob
          have WA : ∀ ob, Below w5.heap.size w5 (W.alloc ob) := fun ob => hW.alloc hsz ob
          have t1 : ax.tmps[1]?.getD undef = (.int .i64 t) := (Array.getD_eq_getD_getElem? ..).symm.trans ((hsh.2.2 1 (notN_of (by kernel_rfl))).trans rfl)
          have t2 : ax.tmps[2]?.getD undef = (.pointer (some ⟨w.heap.size, 0, none⟩)) := (Array.getD_eq_getD_getElem? ..).symm.trans ((hsh.2.2 2 (notN_of (by kernel_rfl))).trans rfl)
          have t6 : ax.tmps[6]?.getD undef = (.pointer (some ⟨b6, 0, none⟩)) := (Array.getD_eq_getD_getElem? ..).symm.trans ((hsh.2.2 6 (notN_of (by kernel_rfl))).trans rfl)
          have t7 : ax.tmps[7]?.getD undef = (.pointer (some ⟨(b6 + 1), 0, none⟩)) := (Array.getD_eq_getD_getElem? ..).symm.trans ((hsh.2.2 7 (notN_of (by kernel_rfl))).trans rfl)
          have q13 := (X0.out.below hW).cell (i := 13) rfl
          have q14 := (X0.out.below hW).cell (i := 14) rfl
          obtain ⟨x0, x1, x2, x3, x4, x5⟩ := hugeCells (X6.out.below hW)
          obtain ⟨y0, y1, y2, y3, y4, y5⟩ := hugeCells (X7.out.below hW)
          clear hsh
          match ix, hi, hio with
          | 0, _, hio =>
            cases hio
            exact hwp_val (v := .agg #[.int .u64 (hw 0 n1), .int .u64 (hw 1 n1), .int .u64 (hw 2 n1), .int .u64 (hw 3 n1), .int .u64 (hw 4 n1), .int .u64 (hw 5 n1)]) (w' := W) (by simp [execOp, Act.eval, t6, x0, x1, x2, x3, x4, x5, go_sem]) ⟨_, rfl, rfl, hW, Below.refl _ _⟩
          | 1, _, hio =>
            cases hio
            exact hwp_val (v := .pointer (some ⟨w.heap.size, 13, none⟩)) (w' := W) (by simp [execOp, Act.eval, t2, go_sem]) ⟨_, rfl, rfl, hW, Below.refl _ _⟩
          | 2, _, hio =>
            cases hio
            have p1 := hpre ⟨1, .data⟩ (by simp) (by rfl) _ _ rfl rfl
            have f1 : ax.tmps[35]?.getD undef = (.pointer (some ⟨w.heap.size, 13, none⟩)) := (Array.getD_eq_getD_getElem? ..).symm.trans p1
            exact hwp_val (v := .int .i64 tend) (w' := W) (by simp [execOp, Act.eval, q13, f1, go_sem]) ⟨_, rfl, rfl, hW, Below.refl _ _⟩
          | 3, _, hio =>
            cases hio
            exact hwp_val (v := .pointer (some ⟨w.heap.size, 14, none⟩)) (w' := W) (by simp [execOp, Act.eval, t2, go_sem]) ⟨_, rfl, rfl, hW, Below.refl _ _⟩
          | 4, _, hio =>
            cases hio
            have p3 := hpre ⟨3, .data⟩ (by simp) (by rfl) _ _ rfl rfl
            have f3 : ax.tmps[37]?.getD undef = (.pointer (some ⟨w.heap.size, 14, none⟩)) := (Array.getD_eq_getD_getElem? ..).symm.trans p3
            exact hwp_val (v := .int .i64 tout) (w' := W) (by simp [execOp, Act.eval, q14, f3, go_sem]) ⟨_, rfl, rfl, hW, Below.refl _ _⟩
          | 5, _, hio =>
            cases hio
            have p2 := hpre ⟨2, .data⟩ (by simp) (by rfl) _ _ rfl rfl
            have f2 : ax.tmps[36]?.getD undef = (.int .i64 tend) := (Array.getD_eq_getD_getElem? ..).symm.trans p2
            have p4 := hpre ⟨4, .data⟩ (by simp) (by rfl) _ _ rfl rfl
            have f4 : ax.tmps[38]?.getD undef = (.int .i64 tout) := (Array.getD_eq_getD_getElem? ..).symm.trans p4
            exact hwp_val (v := .int .i64 (tend + tout)) (w' := W) (by simp [execOp, Act.eval, aw1, f2, f4, go_sem]) ⟨_, rfl, rfl, hW, Below.refl _ _⟩
          | 6, _, hio =>
            cases hio
            exact hwp_val (v := .int .i64 t) (w' := W) (by simp [execOp, Act.eval, t1, go_sem]) ⟨_, rfl, rfl, hW, Below.refl _ _⟩
          | 7, _, hio =>
            cases hio
            have p5 := hpre ⟨5, .data⟩ (by simp) (by rfl) _ _ rfl rfl
            have f5 : ax.tmps[39]?.getD undef = (.int .i64 (tend + tout)) := (Array.getD_eq_getD_getElem? ..).symm.trans p5
            have p6 := hpre ⟨6, .data⟩ (by simp) (by rfl) _ _ rfl rfl
            have f6 : ax.tmps[40]?.getD undef = (.int .i64 t) := (Array.getD_eq_getD_getElem? ..).symm.trans p6
            exact hwp_val (v := .int .i64 (tend + tout - t)) (w' := W) (by simp [execOp, Act.eval, aw2, f5, f6, go_sem]) ⟨_, rfl, rfl, hW, Below.refl _ _⟩
          | 8, _, hio =>
            cases hio
            have p7 := hpre ⟨7, .data⟩ (by simp) (by rfl) _ _ rfl rfl
            have f7 : ax.tmps[41]?.getD undef = (.int .i64 (tend + tout - t)) := (Array.getD_eq_getD_getElem? ..).symm.trans p7
            exact hwp_val (v := .slice (some ⟨W.heap.size, 0, none⟩) 1 1) (w' := W.alloc (.cells #[.int .i64 (tend + tout - t)] 3)) (by simp [execOp, Act.eval, f7, go_sem]) ⟨_, rfl, Lit1.new _ _ hsz, WA _, GA _⟩
          | 9, _, hio =>
            cases hio
            have p0 := hpre ⟨0, .data⟩ (by simp) (by rfl) _ _ rfl rfl
            have f0 : ax.tmps[34]?.getD undef = (.agg #[.int .u64 (hw 0 n1), .int .u64 (hw 1 n1), .int .u64 (hw 2 n1), .int .u64 (hw 3 n1), .int .u64 (hw 4 n1), .int .u64 (hw 5 n1)]) := (Array.getD_eq_getD_getElem? ..).symm.trans p0
            have p8 := hpre ⟨8, .data⟩ (by simp) (by rfl) _ _ rfl rfl
            obtain ⟨b8, e8, hb8, hl8, hc8⟩ := p8
            have f8 := (Array.getD_eq_getD_getElem? ..).symm.trans e8
            refine hwp_enter (f := 45) (args := #[.agg #[.int .u64 (hw 0 n1), .int .u64 (hw 1 n1), .int .u64 (hw 2 n1), .int .u64 (hw 3 n1), .int .u64 (hw 4 n1), .int .u64 (hw 5 n1)], .slice (some ⟨b8, 0, none⟩) 1 1]) (by simp [execOp, Act.eval, f0, f8, go_sem]) ?_
            refine (cTimes1 n1 (tend + tout - t) b8 W n0 m0 m9 nP nmP hl8 hc8).mono ?_
            rintro ex wy ⟨rfl, hb⟩
            exact ⟨_, rfl, _, rfl, rfl, hW.trans (hb.mono hsz), hb⟩
          | 10, _, hio =>
            cases hio
            exact hwp_val (v := .agg #[.int .u64 (hw 0 d1), .int .u64 (hw 1 d1), .int .u64 (hw 2 d1), .int .u64 (hw 3 d1), .int .u64 (hw 4 d1), .int .u64 (hw 5 d1)]) (w' := W) (by simp [execOp, Act.eval, t7, y0, y1, y2, y3, y4, y5, go_sem]) ⟨_, rfl, rfl, hW, Below.refl _ _⟩
          | 11, _, hio =>
            cases hio
            exact hwp_val (v := .pointer (some ⟨w.heap.size, 14, none⟩)) (w' := W) (by simp [execOp, Act.eval, t2, go_sem]) ⟨_, rfl, rfl, hW, Below.refl _ _⟩
          | 12, _, hio =>
            cases hio
            have p11 := hpre ⟨11, .data⟩ (by simp) (by rfl) _ _ rfl rfl
            have f11 : ax.tmps[45]?.getD undef = (.pointer (some ⟨w.heap.size, 14, none⟩)) := (Array.getD_eq_getD_getElem? ..).symm.trans p11
            exact hwp_val (v := .int .i64 tout) (w' := W) (by simp [execOp, Act.eval, q14, f11, go_sem]) ⟨_, rfl, rfl, hW, Below.refl _ _⟩
          | 13, _, hio =>
            cases hio
            have p12 := hpre ⟨12, .data⟩ (by simp) (by rfl) _ _ rfl rfl
            have f12 : ax.tmps[46]?.getD undef = (.int .i64 tout) := (Array.getD_eq_getD_getElem? ..).symm.trans p12
            exact hwp_val (v := .slice (some ⟨W.heap.size, 0, none⟩) 1 1) (w' := W.alloc (.cells #[.int .i64 tout] 3)) (by simp [execOp, Act.eval, f12, go_sem]) ⟨_, rfl, Lit1.new _ _ hsz, WA _, GA _⟩
          | 14, _, hio =>
            cases hio
            have p10 := hpre ⟨10, .data⟩ (by simp) (by rfl) _ _ rfl rfl
            have f10 : ax.tmps[44]?.getD undef = (.agg #[.int .u64 (hw 0 d1), .int .u64 (hw 1 d1), .int .u64 (hw 2 d1), .int .u64 (hw 3 d1), .int .u64 (hw 4 d1), .int .u64 (hw 5 d1)]) := (Array.getD_eq_getD_getElem? ..).symm.trans p10
            have p13 := hpre ⟨13, .data⟩ (by simp) (by rfl) _ _ rfl rfl
            obtain ⟨b13, e13, hb13, hl13, hc13⟩ := p13
            have f13 := (Array.getD_eq_getD_getElem? ..).symm.trans e13
            refine hwp_enter (f := 45) (args := #[.agg #[.int .u64 (hw 0 d1), .int .u64 (hw 1 d1), .int .u64 (hw 2 d1), .int .u64 (hw 3 d1), .int .u64 (hw 4 d1), .int .u64 (hw 5 d1)], .slice (some ⟨b13, 0, none⟩) 1 1]) (by simp [execOp, Act.eval, f10, f13, go_sem]) ?_
            refine (cTimes1 d1 tout b13 W e0 o0 o9 dP dmP hl13 hc13).mono ?_
            rintro ex wy ⟨rfl, hb⟩
            exact ⟨_, rfl, _, rfl, rfl, hW.trans (hb.mono hsz), hb⟩
          | ix + 15, hi, _ => exact absurd hi (by omega)
        · intro ax W hsh hW hφ
          have e0 : ax.tmps.getD 34 undef = (.agg #[.int .u64 (hw 0 n1), .int .u64 (hw 1 n1), .int .u64 (hw 2 n1), .int .u64 (hw 3 n1), .int .u64 (hw 4 n1), .int .u64 (hw 5 n1)]) := hφ 0 _ _ (by omega) rfl rfl
          have e1 : ax.tmps.getD 35 undef = (.pointer (some ⟨w.heap.size, 13, none⟩)) := hφ 1 _ _ (by omega) rfl rfl
          have e2 : ax.tmps.getD 36 undef = (.int .i64 tend) := hφ 2 _ _ (by omega) rfl rfl
          have e3 : ax.tmps.getD 37 undef = (.pointer (some ⟨w.heap.size, 14, none⟩)) := hφ 3 _ _ (by omega) rfl rfl
          have e4 : ax.tmps.getD 38 undef = (.int .i64 tout) := hφ 4 _ _ (by omega) rfl rfl
          have e5 : ax.tmps.getD 39 undef = (.int .i64 (tend + tout)) := hφ 5 _ _ (by omega) rfl rfl
          have e6 : ax.tmps.getD 40 undef = (.int .i64 t) := hφ 6 _ _ (by omega) rfl rfl
          have e7 : ax.tmps.getD 41 undef = (.int .i64 (tend + tout - t)) := hφ 7 _ _ (by omega) rfl rfl
          obtain ⟨b8, e8, hb8, hl8, hc8⟩ := hφ 8 _ _ (by omega) rfl rfl
          have e9 : ax.tmps.getD 43 undef = (.agg #[.int .u64 (hw 0 (n1 * (tend + tout - t))), .int .u64 (hw 1 (n1 * (tend + tout - t))), .int .u64 (hw 2 (n1 * (tend + tout - t))), .int .u64 (hw 3 (n1 * (tend + tout - t))), .int .u64 (hw 4 (n1 * (tend + tout - t))), .int .u64 (hw 5 (n1 * (tend + tout - t)))]) := hφ 9 _ _ (by omega) rfl rfl
          have e10 : ax.tmps.getD 44 undef = (.agg #[.int .u64 (hw 0 d1), .int .u64 (hw 1 d1), .int .u64 (hw 2 d1), .int .u64 (hw 3 d1), .int .u64 (hw 4 d1), .int .u64 (hw 5 d1)]) := hφ 10 _ _ (by omega) rfl rfl
          have e11 : ax.tmps.getD 45 undef = (.pointer (some ⟨w.heap.size, 14, none⟩)) := hφ 11 _ _ (by omega) rfl rfl
          have e12 : ax.tmps.getD 46 undef = (.int .i64 tout) := hφ 12 _ _ (by omega) rfl rfl
          obtain ⟨b13, e13, hb13, hl13, hc13⟩ := hφ 13 _ _ (by omega) rfl rfl
          have e14 : ax.tmps.getD 48 undef = (.agg #[.int .u64 (hw 0 (d1 * tout)), .int .u64 (hw 1 (d1 * tout)), .int .u64 (hw 2 (d1 * tout)), .int .u64 (hw 3 (d1 * tout)), .int .u64 (hw 4 (d1 * tout)), .int .u64 (hw 5 (d1 * tout))]) := hφ 14 _ _ (by omega) rfl rfl
          rw [shape_puts hsh [(34, .agg #[.int .u64 (hw 0 n1), .int .u64 (hw 1 n1), .int .u64 (hw 2 n1), .int .u64 (hw 3 n1), .int .u64 (hw 4 n1), .int .u64 (hw 5 n1)]), (35, .pointer (some ⟨w.heap.size, 13, none⟩)), (36, .int .i64 tend), (37, .pointer (some ⟨w.heap.size, 14, none⟩)), (38, .int .i64 tout), (39, .int .i64 (tend + tout)), (40, .int .i64 t), (41, .int .i64 (tend + tout - t)), (42, .slice (some ⟨b8, 0, none⟩) 1 1), (43, .agg #[.int .u64 (hw 0 (n1 * (tend + tout - t))), .int .u64 (hw 1 (n1 * (tend + tout - t))), .int .u64 (hw 2 (n1 * (tend + tout - t))), .int .u64 (hw 3 (n1 * (tend + tout - t))), .int .u64 (hw 4 (n1 * (tend + tout - t))), .int .u64 (hw 5 (n1 * (tend + tout - t)))]), (44, .agg #[.int .u64 (hw 0 d1), .int .u64 (hw 1 d1), .int .u64 (hw 2 d1), .int .u64 (hw 3 d1), .int .u64 (hw 4 d1), .int .u64 (hw 5 d1)]), (45, .pointer (some ⟨w.heap.size, 14, none⟩)), (46, .int .i64 tout), (47, .slice (some ⟨b13, 0, none⟩) 1 1), (48, .agg #[.int .u64 (hw 0 (d1 * tout)), .int .u64 (hw 1 (d1 * tout)), .int .u64 (hw 2 (d1 * tout)), .int .u64 (hw 3 (d1 * tout)), .int .u64 (hw 4 (d1 * tout)), .int .u64 (hw 5 (d1 * tout))])] [34, 35, 36, 37, 38, 39, 40, 41, 42, 43, 44, 45, 46, 47, 48] rfl (by kernel_rfl) ⟨e0, e1, e2, e3, e4, e5, e6, e7, e8, e9, e10, e11, e12, e13, e14, trivial⟩]
          clear hφ hsh e0 e1 e2 e3 e4 e5 e6 e7 e8 e9 e10 e11 e12 e13 e14
          clear hc8
          clear hc13
          simp only [putsN, List.foldl_cons, List.foldl_nil, List.drop_succ_cons, List.drop_zero, Act.put, List.setIfInBounds_toArray, List.set_cons_succ, List.set_cons_zero]
          have Y4 := X4.out.below hW
          have Y5 := X5.out.below hW
          have Y6 := X6.out.below hW
          have Y7 := X7.out.below hW
          have YB := XB.out.trans (hW.mono XB.out.size)
          have z4 := HZ4.out
          clear hW
          refine wpList_storeH W rfl _ _ rfl b6 rfl rfl Y6 ?_
          intro wy t6 g6
          simp only [Act.put]
          refine wpList_storeH wy rfl _ _ rfl (b6 + 1) rfl rfl (Y7.gro g6 (by omega)) ?_
          intro wz t7 g7
          simp only [Act.put]
          have Z4 := Lib.hid ((Y4.gro g6 (by omega)).gro g7 (by omega))
          have Z5 := Lib.hid ((Y5.gro g6 (by omega)).gro g7 (by omega))
          have Z6 := Lib.hid (t6.gro g7 (by omega))
          have Z7 := Lib.hid t7
          have HBY := Lib.hid (below_gro (below_gro YB g6 YB.size (by omega)) g7 (by have := YB.size; have := g6.size; omega) (by omega))
          clear Y4 Y5 Y6 Y7 YB t6 t7 g6 g7 nP dP nmP dmP
          go_wp2_with fail
          go_meet
          exact ⟨_, _, HV, Z4, Z5, Z6, Z7, HBY⟩
    case rest =>
      obtain ⟨n2, d2, HV, Z4, Z5, Z6, Z7, ZB⟩ := hcut
      obtain ⟨w6, rfl⟩ : ∃ x, x = wc := ⟨wc, rfl⟩
      clear X0 X4 X5 X6 X7 XB HSX HND HCC
      go_upto_region 6 with fail
      have KS := Lib.hid (show ∀ W, TBox W b6 77 #[.int .u64 (hw 0 n2), .int .u64 (hw 1 n2), .int .u64 (hw 2 n2), .int .u64 (hw 3 n2), .int .u64 (hw 4 n2), .int .u64 (hw 5 n2)] → TBox W (b6 + 1) 77 #[.int .u64 (hw 0 d2), .int .u64 (hw 1 d2), .int .u64 (hw 2 d2), .int .u64 (hw 3 d2), .int .u64 (hw 4 d2), .int .u64 (hw 5 d2)] → (W.cell? ⟨b6, 0, none⟩ = some (.int .u64 (hw 0 n2)) ∧ W.cell? ⟨b6, 1, none⟩ = some (.int .u64 (hw 1 n2)) ∧ W.cell? ⟨b6, 2, none⟩ = some (.int .u64 (hw 2 n2)) ∧ W.cell? ⟨b6, 3, none⟩ = some (.int .u64 (hw 3 n2)) ∧ W.cell? ⟨b6, 4, none⟩ = some (.int .u64 (hw 4 n2)) ∧ W.cell? ⟨b6, 5, none⟩ = some (.int .u64 (hw 5 n2)) ∧ W.cell? ⟨b6 + 1, 0, none⟩ = some (.int .u64 (hw 0 d2)) ∧ W.cell? ⟨b6 + 1, 1, none⟩ = some (.int .u64 (hw 1 d2)) ∧ W.cell? ⟨b6 + 1, 2, none⟩ = some (.int .u64 (hw 2 d2)) ∧ W.cell? ⟨b6 + 1, 3, none⟩ = some (.int .u64 (hw 3 d2)) ∧ W.cell? ⟨b6 + 1, 4, none⟩ = some (.int .u64 (hw 4 d2)) ∧ W.cell? ⟨b6 + 1, 5, none⟩ = some (.int .u64 (hw 5 d2))) from fun W h k => by
        obtain ⟨x0, x1, x2, x3, x4, x5⟩ := hugeCells h
        obtain ⟨y0, y1, y2, y3, y4, y5⟩ := hugeCells k
        exact ⟨x0, x1, x2, x3, x4, x5, y0, y1, y2, y3, y4, y5⟩)
      refine wp_region_held_drew (S := (fun W => W.cell? ⟨b6, 0, none⟩ = some (.int .u64 (hw 0 n2)) ∧ W.cell? ⟨b6, 1, none⟩ = some (.int .u64 (hw 1 n2)) ∧ W.cell? ⟨b6, 2, none⟩ = some (.int .u64 (hw 2 n2)) ∧ W.cell? ⟨b6, 3, none⟩ = some (.int .u64 (hw 3 n2)) ∧ W.cell? ⟨b6, 4, none⟩ = some (.int .u64 (hw 4 n2)) ∧ W.cell? ⟨b6, 5, none⟩ = some (.int .u64 (hw 5 n2)) ∧ W.cell? ⟨b6 + 1, 0, none⟩ = some (.int .u64 (hw 0 d2)) ∧ W.cell? ⟨b6 + 1, 1, none⟩ = some (.int .u64 (hw 1 d2)) ∧ W.cell? ⟨b6 + 1, 2, none⟩ = some (.int .u64 (hw 2 d2)) ∧ W.cell? ⟨b6 + 1, 3, none⟩ = some (.int .u64 (hw 3 d2)) ∧ W.cell? ⟨b6 + 1, 4, none⟩ = some (.int .u64 (hw 4 d2)) ∧ W.cell? ⟨b6 + 1, 5, none⟩ = some (.int .u64 (hw 5 d2)))) (by kernel_rfl) (by exact KS.out _ Z6.out Z7.out) (fun hHeld => ?_)
      refine wpAnyH_take (i := 0) (oi := _) (v := ?_) rfl (by kernel_rfl) (by kernel_rfl) (by kernel_rfl) (fun _ _ _ h => h) (Or.inl ⟨by rfl, ?_⟩) (by assumption) ?_
      rotate_left
      · (intro w hSw; (try dsimp only at hSw); go_simp <;> with_reducible rfl)
      try simp only [Act.put, List.getElem_toArray, List.getElem_cons_zero, List.getElem_cons_succ, List.setIfInBounds_toArray, List.set_cons_zero, List.set_cons_succ]
      refine wpAnyH_take (i := 1) (oi := _) (v := ?_) rfl (by kernel_rfl) (by kernel_rfl) (by kernel_rfl) (fun _ _ _ h => h) (Or.inl ⟨by rfl, ?_⟩) (by assumption) ?_
      rotate_left
      · (intro w hSw; (try dsimp only at hSw); go_simp <;> with_reducible rfl)
      try simp only [Act.put, List.getElem_toArray, List.getElem_cons_zero, List.getElem_cons_succ, List.setIfInBounds_toArray, List.set_cons_zero, List.set_cons_succ]
      refine wpAnyH_ready (rs := [2]) (by kernel_rfl) (by simp) (AllReadyH.cons rfl (fun K hK => ?_) AllReadyH.nil)
      refine oper_storeH _ _ _ rfl (w.heap.size + 1) rfl rfl (show TBox w6.drew _ _ _ from Z4.out) ?_
      intro wy t6 g6
      have Y5 := (show TBox w6.drew _ _ _ from Z5.out).gro g6 (by omega)
      have z4 := HZ4.out
      have Y6 := (show TBox w6.drew _ _ _ from Z6.out).gro g6 (by omega)
      have Y7 := (show TBox w6.drew _ _ _ from Z7.out).gro g6 (by omega)
      refine hK.out _ _ (KS.out _ Y6 Y7) (fun hHeld => ?_)
      clear hK K
      try simp only [Act.put, List.getElem_toArray, List.getElem_cons_zero, List.getElem_cons_succ, List.setIfInBounds_toArray, List.set_cons_zero, List.set_cons_succ]
      refine wpAnyH_ready (rs := [3]) (by kernel_rfl) (by simp) (AllReadyH.cons rfl (fun K hK => ?_) AllReadyH.nil)
      refine oper_storeH _ _ _ rfl (w.heap.size + 2) rfl rfl Y5 ?_
      intro wz t7 g7
      refine hK.out _ _ (KS.out _ (Y6.gro g7 (by omega)) (Y7.gro g7 (by omega))) (fun hHeld => ?_)
      clear hK K
      try simp only [Act.put, List.getElem_toArray, List.getElem_cons_zero, List.getElem_cons_succ, List.setIfInBounds_toArray, List.set_cons_zero, List.set_cons_succ]
      refine wpAnyH_done (by kernel_rfl) ?_ _
      have HBY := Lib.hid (below_gro (below_gro (show Below w.heap.size w w6.drew from ZB.out.drew) g6 ZB.out.size (by omega)) g7 (by have := ZB.out.size; have := g6.size; simp at *; omega) (by omega))
      obtain ⟨x0, x1, x2, x3, x4, x5⟩ := hugeCells (t6.gro g7 (by omega))
      obtain ⟨y0, y1, y2, y3, y4, y5⟩ := hugeCells t7
      clear Y5 Y6 Y7 t6 t7 g6 g7 KS
      clear hHeld
      go_wp2_with fail
      exact bodyPost_ret (v := .tuple #[.agg #[.int .u64 (hw 0 n2), .int .u64 (hw 1 n2), .int .u64 (hw 2 n2), .int .u64 (hw 3 n2), .int .u64 (hw 4 n2), .int .u64 (hw 5 n2)], .agg #[.int .u64 (hw 0 d2), .int .u64 (hw 1 d2), .int .u64 (hw 2 d2), .int .u64 (hw 3 d2), .int .u64 (hw 4 d2), .int .u64 (hw 5 d2)]]) (by simp [results, Try.results98, x0, x1, x2, x3, x4, x5, y0, y1, y2, y3, y4, y5, go_sem]) rfl ⟨by rw [HV.out], HBY.out⟩
end Go.Proofs.Ytopmdeefcjdadaa

namespace Go.Proofs.Ytopmdeefcjdadaa
open Go.RowKit
set_option linter.unusedVariables false
set_option linter.unusedSimpArgs false

set_option maxRecDepth 100000 in
set_option maxHeartbeats 8000000 in
theorem greatest3_any (fn : FuncId) (p q s : Value) (m : Int) (H : Int → Bool) (w : World) (hm0 : 0 ≤ m) (hm1 : m ≤ 1000000000)
    (hmono : ∀ a b, 0 ≤ a → a ≤ b → b ≤ m → H b = true → H a = true)
    (hcf : ∀ args W, Sem.run Try.prog (callFunc fn args) W = .ok (.enter fn args) W)
    (hc : ∀ k W, 0 ≤ k → k ≤ m → Below w.heap.size w W → Calls Try.prog fn #[.int .i64 k, p, q, s] W fun e w' => e = .returned (.bool (H k)) ∧ Below W.heap.size W w') :
    Calls Try.prog 47 #[.int .i64 m, .func (.func fn) #[] #[p, q, s]] w fun e w' => ∃ r, e = .returned (.int .i64 r) ∧ (0 ≤ r ∧ r ≤ m) ∧ (0 < r → H r = true) ∧ (r < m → H (r + 1) = false) ∧ Below w.heap.size w w' := by
  have HC := Lib.hid hc
  have HMO := Lib.hid hmono
  clear hc hmono
  go_enter Try.func47, Try.ntmps47
  go_wp2_with fail
  go_loopw [5, 6] (fun a b wx => ∃ (lo hi : Int), a = .int .i64 lo ∧ b = .int .i64 hi ∧ 0 ≤ lo ∧ lo ≤ hi ∧ hi ≤ m ∧ Hid (0 < lo → H lo = true) ∧ Hid (hi < m → H (hi + 1) = false) ∧ Hid (Below w.heap.size w wx)) (fun a b _ => (intOf b - intOf a).toNat)
  case atStart => exact ⟨0, m, rfl, rfl, by omega, by omega, by omega, Lib.hid (fun h => absurd h (by omega)), Lib.hid (fun h => absurd h (by omega)), Lib.hid (Below.refl _ _)⟩
  case round =>
    obtain ⟨lo, hi, rfl, rfl, h0, h1, h2, HL, HH, HB⟩ := hrel
    by_cases hlt : lo < hi
    · have a1 : IntKind.i64.wrap (lo + hi) = lo + hi := IntWalk.i64_in _ (by omega)
      have a2 : IntKind.i64.wrap (lo + hi + 1) = lo + hi + 1 := IntWalk.i64_in _ (by omega)
      have a3 : (lo + hi + 1).tdiv 2 = (lo + hi + 1) / 2 := Int.tdiv_eq_ediv_of_nonneg (by omega)
      obtain ⟨k, hk⟩ : ∃ k, (lo + hi + 1) / 2 = k := ⟨_, rfl⟩
      have hk1 : lo < k ∧ k ≤ hi := by omega
      rw [hk] at a3
      have a4 : IntKind.i64.wrap k = k := IntWalk.i64_in _ (by omega)
      have a5 : IntKind.i64.wrap (k - 1) = k - 1 := IntWalk.i64_in _ (by omega)
      have HCK := Lib.hid (HC.out k wr (by omega) (by omega) HB.out)
      clear hk
      cases hHk : H k
      · rw [hHk] at HCK
        have HN := Lib.hid (show k - 1 < m → H (k - 1 + 1) = false from fun _ => by rw [show k - 1 + 1 = k by omega]; exact hHk)
        clear hHk
        go_wp2_with fail
        refine HCK.out.mono ?_
        rintro e wz ⟨rfl, hb⟩
        have HBZ := Lib.hid (HB.out.trans (hb.mono HB.out.size))
        clear hb HCK
        go_wp2_with fail
        go_roundw
        case rel => exact ⟨lo, k - 1, rfl, by first | rfl | go_num, by omega, by omega, by omega, HL, HN, HBZ⟩
        case measure => simp [intOf]; omega
      · rw [hHk] at HCK
        have HN := Lib.hid (show 0 < k → H k = true from fun _ => hHk)
        clear hHk
        go_wp2_with fail
        refine HCK.out.mono ?_
        rintro e wz ⟨rfl, hb⟩
        have HBZ := Lib.hid (HB.out.trans (hb.mono HB.out.size))
        clear hb HCK
        go_wp2_with fail
        go_roundw
        case rel => exact ⟨k, hi, rfl, rfl, by omega, by omega, by omega, HN, HH, HBZ⟩
        case measure => simp [intOf]; omega
    · have he : lo = hi := by omega
      subst he
      go_wp2_with fail
      go_ret
      exact ⟨lo, rfl, ⟨h0, h2⟩, HL.out, HH.out, HB.out⟩
end Go.Proofs.Ytopmdeefcjdadaa
