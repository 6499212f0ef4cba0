/- effect.moved. (printed by wip/gen/gen_moved.py) -/
import Derived.Test.YtopmdeefcjdadaaT43M35
import Derived.Test.YtopmdeefcjdadaaT43M36

namespace Go.Proofs.Ytopmdeefcjdadaa
open Go.RowKit
set_option linter.unusedVariables false
set_option linter.unusedSimpArgs false

/-- five boxes, one behind the other -/
theorem boxes5 (w : World) (E A B C D : Array Value) (T H : TypeId) : ∃ w1 : World, w1 = (((((w.alloc (.cells E T)).alloc (.cells A H)).alloc (.cells B H)).alloc (.cells C H)).alloc (.cells D H)) ∧
    TBox w1 w.heap.size T E ∧ TBox w1 (w.heap.size + 1) H A ∧ TBox w1 (w.heap.size + 2) H B ∧ TBox w1 (w.heap.size + 3) H C ∧ TBox w1 (w.heap.size + 4) H D ∧ Below w.heap.size w w1 ∧ w1.heap.size = w.heap.size + 5 := by
  refine ⟨_, rfl, ?_, ?_, ?_, ?_, ?_, ?_, ?_⟩
  · exact ((((TBox.new w E T).alloc _).alloc _).alloc _).alloc _
  · have h := (((TBox.new (w.alloc (.cells E T)) A H).alloc (.cells B H)).alloc (.cells C H)).alloc (.cells D H)
    simpa only [World.size_alloc] using h
  · have h := ((TBox.new ((w.alloc (.cells E T)).alloc (.cells A H)) B H).alloc (.cells C H)).alloc (.cells D H)
    simpa only [World.size_alloc] using h
  · have h := (TBox.new (((w.alloc (.cells E T)).alloc (.cells A H)).alloc (.cells B H)) C H).alloc (.cells D H)
    simpa only [World.size_alloc] using h
  · have h := TBox.new ((((w.alloc (.cells E T)).alloc (.cells A H)).alloc (.cells B H)).alloc (.cells C H)) D H
    simpa only [World.size_alloc] using h
  · exact (((((Below.refl _ _).alloc (Nat.le_refl _) _).alloc (by simp only [World.size_alloc]; omega) _).alloc (by simp only [World.size_alloc]; omega) _).alloc (by simp only [World.size_alloc]; omega) _).alloc (by simp only [World.size_alloc]; omega) _
  · simp
set_option maxRecDepth 100000 in
set_option maxHeartbeats 8000000 in
theorem moved_rel (form low high cycle width spread b wn wd sn sd : Int) (back : Bool) (ao : Option Addr) (ln cap : Nat) (w : World) (l0 : 0 ≤ low) (l1 : low ≤ high) (h1 : high ≤ 65535) (b0 : 0 ≤ b) (b1 : b ≤ 65535) (wn0 : 0 ≤ wn) (wn1 : wn ≤ wd) (wd1 : 1 ≤ wd) (wd9 : wd ≤ 1000000000000000000 * (1000000000000000000 * 1000000000000000000)) (sn0 : 0 ≤ sn) (sn1 : sn ≤ sd) (sd1 : 1 ≤ sd) (sd9 : sd ≤ 10000000000000000) :
    Calls Try.prog 99 #[.agg #[.int .i64 form, .int .i64 low, .int .i64 high, .int .i64 cycle, .int .i64 width, .int .i64 spread, .bool back, .bool true, .slice ao ln cap], .int .i64 b, .agg #[.int .u64 (hw 0 wn), .int .u64 (hw 1 wn), .int .u64 (hw 2 wn), .int .u64 (hw 3 wn), .int .u64 (hw 4 wn), .int .u64 (hw 5 wn)], .agg #[.int .u64 (hw 0 wd), .int .u64 (hw 1 wd), .int .u64 (hw 2 wd), .int .u64 (hw 3 wd), .int .u64 (hw 4 wd), .int .u64 (hw 5 wd)], .agg #[.int .u64 (hw 0 sn), .int .u64 (hw 1 sn), .int .u64 (hw 2 sn), .int .u64 (hw 3 sn), .int .u64 (hw 4 sn), .int .u64 (hw 5 sn)], .agg #[.int .u64 (hw 0 sd), .int .u64 (hw 1 sd), .int .u64 (hw 2 sd), .int .u64 (hw 3 sd), .int .u64 (hw 4 sd), .int .u64 (hw 5 sd)]] w fun e w' => ∃ r, e = .returned (.int .i64 r) ∧ (0 ≤ r ∧ r ≤ 65535) ∧ (0 < r → ¬ wd * sd * (2 * b) + sn * wn * (2 * (high - low)) + wd * sd < wd * sd * (2 * r) + sn * wd * (high - low)) ∧ (r < 65535 → wd * sd * (2 * b) + sn * wn * (2 * (high - low)) + wd * sd < wd * sd * (2 * (r + 1)) + sn * wd * (high - low)) ∧ Below w.heap.size w w' := by
  have hbig := powW6_big
  have wdP : wd < powW 6 := by omega
  have wnP : wn < powW 6 := by omega
  have sdP : sd < powW 6 := by omega
  have snP : sn < powW 6 := by omega
  obtain ⟨q0, q9⟩ := mul_both (a := wd) (b := sd) (A := 1000000000000000000 * (1000000000000000000 * 1000000000000000000)) (B := 10000000000000000) (by omega) (by omega) wd9 sd9
  obtain ⟨u0, u9⟩ := mul_both (a := sn) (b := wn) (A := 10000000000000000) (B := 1000000000000000000 * (1000000000000000000 * 1000000000000000000)) sn0 wn0 (by omega) (by omega)
  obtain ⟨v0, v9⟩ := mul_both (a := sn) (b := wd) (A := 10000000000000000) (B := 1000000000000000000 * (1000000000000000000 * 1000000000000000000)) sn0 (by omega) (by omega) wd9
  have uP : sn * wn < powW 6 := by omega
  have vP : sn * wd < powW 6 := by omega
  have qP : wd * sd < powW 6 := by omega
  have CMQ := Lib.hid (fun W => cMul wd sd (by omega) wdP (by omega) sdP qP W)
  have CMV := Lib.hid (fun W => cMul sn wd sn0 snP (by omega) wdP vP W)
  generalize hq : wd * sd = q at *
  generalize hu : sn * wn = u at *
  generalize hv : sn * wd = v at *
  obtain ⟨span, hsp⟩ : ∃ s, high - low = s := ⟨_, rfl⟩
  have asp : IntKind.i64.wrap (high - low) = span := by rw [hsp]; exact IntWalk.i64_in _ (by omega)
  have b20 : 0 ≤ 2 * b := by omega
  have b29 : 2 * b ≤ 9223372036854775807 := by omega
  have s20 : 0 ≤ 2 * span := by omega
  have s29 : 2 * span ≤ 9223372036854775807 := by omega
  have ab : IntKind.i64.wrap (2 * b) = 2 * b := IntWalk.i64_in _ (by omega)
  have a2s : IntKind.i64.wrap (2 * span) = 2 * span := IntWalk.i64_in _ (by omega)
  obtain ⟨qb0, qb9⟩ := mul_both (a := q) (b := 2 * b) (A := 1000000000000000000000000000000000000000000000000000000000000000000000000) (B := 131070) q0 b20 (by omega) (by omega)
  obtain ⟨us0, us9⟩ := mul_both (a := u) (b := 2 * span) (A := 1000000000000000000000000000000000000000000000000000000000000000000000000) (B := 131070) u0 s20 (by omega) (by omega)
  obtain ⟨vs0, vs9⟩ := mul_both (a := v) (b := span) (A := 1000000000000000000000000000000000000000000000000000000000000000000000000) (B := 131070) v0 (by omega) (by omega) (by omega)
  have qbP : q * (2 * b) < powW 6 := by omega
  have usP : u * (2 * span) < powW 6 := by omega
  have vsP : v * span < powW 6 := by omega
  have s10 : 0 ≤ q * (2 * b) + u * (2 * span) := by omega
  have s1P : q * (2 * b) + u * (2 * span) < powW 6 := by omega
  have s20' : 0 ≤ q * (2 * b) + u * (2 * span) + q := by omega
  have s2P : q * (2 * b) + u * (2 * span) + q < powW 6 := by omega
  have q72 : q ≤ 1000000000000000000000000000000000000000000000000000000000000000000000000 := by omega
  have uP2 : u < powW 6 := uP
  have sp0 : 0 ≤ span := by omega
  have sp9 : span ≤ 9223372036854775807 := by omega
  have CTV := Lib.hid (fun (bb : Nat) W (hb : bb < W.heap.size) (hc : W.cell? ⟨bb, 0, none⟩ = some (.int .i64 span)) => cTimes1 v span bb W v0 sp0 sp9 vP vsP hb hc)
  rw [hsp]
  have FCT := Lib.hid (And.intro q72 (And.intro vs0 vs9))
  have FP := Lib.hid (And.intro q0 (And.intro s20' s2P))
  obtain ⟨w1, hw1, t6, t8, t9, t10, t11, hB1, hz1⟩ := boxes5 w #[.int .i64 form, .int .i64 low, .int .i64 high, .int .i64 cycle, .int .i64 width, .int .i64 spread, .bool back, .bool true, .slice ao ln cap] #[.int .u64 (hw 0 wn), .int .u64 (hw 1 wn), .int .u64 (hw 2 wn), .int .u64 (hw 3 wn), .int .u64 (hw 4 wn), .int .u64 (hw 5 wn)] #[.int .u64 (hw 0 wd), .int .u64 (hw 1 wd), .int .u64 (hw 2 wd), .int .u64 (hw 3 wd), .int .u64 (hw 4 wd), .int .u64 (hw 5 wd)] #[.int .u64 (hw 0 sn), .int .u64 (hw 1 sn), .int .u64 (hw 2 sn), .int .u64 (hw 3 sn), .int .u64 (hw 4 sn), .int .u64 (hw 5 sn)] #[.int .u64 (hw 0 sd), .int .u64 (hw 1 sd), .int .u64 (hw 2 sd), .int .u64 (hw 3 sd), .int .u64 (hw 4 sd), .int .u64 (hw 5 sd)] 24 77
  have T6 := Lib.hid t6
  have T8 := Lib.hid t8
  have T9 := Lib.hid t9
  have T10 := Lib.hid t10
  have T11 := Lib.hid t11
  have HB1 := Lib.hid hB1
  have HZ1 := Lib.hid hz1
  have HH := Lib.hid (show (q * (2 * b) < powW 6 ∧ u * (2 * span) < powW 6 ∧ q * (2 * b) + u * (2 * span) < powW 6) ∧ 0 ≤ q ∧ q < powW 6 ∧ 0 ≤ u ∧ u < powW 6 ∧ 0 ≤ q * (2 * b) ∧ 0 ≤ u * (2 * span) ∧ 0 ≤ q * (2 * b) + u * (2 * span) from ⟨⟨qbP, usP, s1P⟩, q0, qP, u0, uP, qb0, us0, s10⟩)
  have HSW := Lib.hid (show (0 ≤ sn ∧ sn < powW 6) ∧ (0 ≤ wn ∧ wn < powW 6) ∧ sn * wn < powW 6 ∧ sn * wn = u from ⟨⟨sn0, snP⟩, ⟨wn0, wnP⟩, by rw [hu]; exact uP, hu⟩)
  clear hbig wdP wnP sdP snP q9 u9 v9 uP vP qP q0 u0 v0 qb0 qb9 us0 us9 vs0 vs9 qbP usP vsP s10 s1P s20' s2P q72 uP2 t6 t8 t9 t10 t11 hB1 hz1 hq hu hv wd9 sd9
  go_enter Try.func99, Try.ntmps99
  go_upto_region 1 with fail
  rw [← hw1]
  clear hw1
  obtain ⟨g0, g1, g2, g3, g4, g5⟩ := hugeCells T9.out
  obtain ⟨k0, k1, k2, k3, k4, k5⟩ := hugeCells T11.out
  have gl := T9.out.lt
  have kl := T11.out.lt
  go_wp2_with fail
  refine (CMQ.out _).mono ?_
  rintro e w2 ⟨rfl, hb⟩
  have HB2 := Lib.hid (HB1.out.trans (hb.mono HB1.out.size))
  have hz2 : w.heap.size + 5 ≤ w2.heap.size := by have := hb.size; have := HZ1.out; omega
  have U6 := Lib.hid ((T6.out.below hb).alloc (.cells #[.int .u64 (hw 0 q), .int .u64 (hw 1 q), .int .u64 (hw 2 q), .int .u64 (hw 3 q), .int .u64 (hw 4 q), .int .u64 (hw 5 q)] 77))
  have U8 := Lib.hid ((T8.out.below hb).alloc (.cells #[.int .u64 (hw 0 q), .int .u64 (hw 1 q), .int .u64 (hw 2 q), .int .u64 (hw 3 q), .int .u64 (hw 4 q), .int .u64 (hw 5 q)] 77))
  have U9 := Lib.hid ((T9.out.below hb).alloc (.cells #[.int .u64 (hw 0 q), .int .u64 (hw 1 q), .int .u64 (hw 2 q), .int .u64 (hw 3 q), .int .u64 (hw 4 q), .int .u64 (hw 5 q)] 77))
  have U10 := Lib.hid ((T10.out.below hb).alloc (.cells #[.int .u64 (hw 0 q), .int .u64 (hw 1 q), .int .u64 (hw 2 q), .int .u64 (hw 3 q), .int .u64 (hw 4 q), .int .u64 (hw 5 q)] 77))
  have U13 := Lib.hid (TBox.new w2 #[.int .u64 (hw 0 q), .int .u64 (hw 1 q), .int .u64 (hw 2 q), .int .u64 (hw 3 q), .int .u64 (hw 4 q), .int .u64 (hw 5 q)] 77)
  have HB3 := Lib.hid (HB2.out.alloc HB2.out.size (.cells #[.int .u64 (hw 0 q), .int .u64 (hw 1 q), .int .u64 (hw 2 q), .int .u64 (hw 3 q), .int .u64 (hw 4 q), .int .u64 (hw 5 q)] 77))
  clear hb CMQ g0 g1 g2 g3 g4 g5 k0 k1 k2 k3 k4 k5 gl kl T6 T8 T9 T10 T11 HB1 HB2
  go_upto_region 2 with fail
  generalize hc13 : w2.heap.size = c13 at *
  generalize hw3 : w2.alloc (.cells #[.int .u64 (hw 0 q), .int .u64 (hw 1 q), .int .u64 (hw 2 q), .int .u64 (hw 3 q), .int .u64 (hw 4 q), .int .u64 (hw 5 q)] 77) = w3 at *
  clear hw3 hc13
  have e1 := U6.out.cell (i := 1) rfl
  have e2 := U6.out.cell (i := 2) rfl
  have e7 := U6.out.cell (i := 7) rfl
  have el := U6.out.lt
  go_upto_region 4 with fail
  clear e1 e2 e7 el
  obtain ⟨⟨qbP, usP, s1P⟩, q0, qP, u0, uP2, qb0, us0, s10⟩ := HH.out
  obtain ⟨⟨sn0', snP⟩, ⟨wn0', wnP⟩, uP, hu⟩ := HSW.out
  obtain ⟨_, s20', s2P⟩ := FP.out
  refine region_heads (by kernel_rfl) 16 (by simp) (by kernel_rfl) (by kernel_rfl) (by kernel_rfl) (by kernel_rfl) (fun jx vx wx => match jx with | 0 => vx = (.agg #[.int .u64 (hw 0 q), .int .u64 (hw 1 q), .int .u64 (hw 2 q), .int .u64 (hw 3 q), .int .u64 (hw 4 q), .int .u64 (hw 5 q)]) | 1 => vx = (.int .i64 b) | 2 => vx = (.int .i64 (2 * b)) | 3 => Lit1 w3.heap.size vx (.int .i64 (2 * b)) wx | 4 => vx = (.agg #[.int .u64 (hw 0 (q * (2 * b))), .int .u64 (hw 1 (q * (2 * b))), .int .u64 (hw 2 (q * (2 * b))), .int .u64 (hw 3 (q * (2 * b))), .int .u64 (hw 4 (q * (2 * b))), .int .u64 (hw 5 (q * (2 * b)))]) | 5 => vx = (.agg #[.int .u64 (hw 0 sn), .int .u64 (hw 1 sn), .int .u64 (hw 2 sn), .int .u64 (hw 3 sn), .int .u64 (hw 4 sn), .int .u64 (hw 5 sn)]) | 6 => vx = (.agg #[.int .u64 (hw 0 wn), .int .u64 (hw 1 wn), .int .u64 (hw 2 wn), .int .u64 (hw 3 wn), .int .u64 (hw 4 wn), .int .u64 (hw 5 wn)]) | 7 => vx = (.agg #[.int .u64 (hw 0 u), .int .u64 (hw 1 u), .int .u64 (hw 2 u), .int .u64 (hw 3 u), .int .u64 (hw 4 u), .int .u64 (hw 5 u)]) | 8 => vx = (.int .i64 span) | 9 => vx = (.int .i64 (2 * span)) | 10 => Lit1 w3.heap.size vx (.int .i64 (2 * span)) wx | 11 => vx = (.agg #[.int .u64 (hw 0 (u * (2 * span))), .int .u64 (hw 1 (u * (2 * span))), .int .u64 (hw 2 (u * (2 * span))), .int .u64 (hw 3 (u * (2 * span))), .int .u64 (hw 4 (u * (2 * span))), .int .u64 (hw 5 (u * (2 * span)))]) | 12 => vx = (.agg #[.int .u64 (hw 0 (q * (2 * b) + u * (2 * span))), .int .u64 (hw 1 (q * (2 * b) + u * (2 * span))), .int .u64 (hw 2 (q * (2 * b) + u * (2 * span))), .int .u64 (hw 3 (q * (2 * b) + u * (2 * span))), .int .u64 (hw 4 (q * (2 * b) + u * (2 * span))), .int .u64 (hw 5 (q * (2 * b) + u * (2 * span)))]) | 13 => vx = (.agg #[.int .u64 (hw 0 q), .int .u64 (hw 1 q), .int .u64 (hw 2 q), .int .u64 (hw 3 q), .int .u64 (hw 4 q), .int .u64 (hw 5 q)]) | 14 => vx = (.agg #[.int .u64 (hw 0 (q * (2 * b) + u * (2 * span) + q)), .int .u64 (hw 1 (q * (2 * b) + u * (2 * span) + q)), .int .u64 (hw 2 (q * (2 * b) + u * (2 * span) + q)), .int .u64 (hw 3 (q * (2 * b) + u * (2 * span) + q)), .int .u64 (hw 4 (q * (2 * b) + u * (2 * span) + q)), .int .u64 (hw 5 (q * (2 * b) + u * (2 * span) + q))]) | 15 => Box1 w3.heap.size 77 #[.int .u64 0, .int .u64 0, .int .u64 0, .int .u64 0, .int .u64 0, .int .u64 0] vx wx | _ => True) (fun W => Below w3.heap.size w3 W) (fun wx wy => Below wx.heap.size wx wy) (Below.refl _ _).drew ?_ ?_ ?_ ?_
  · intro jx vx wx wy h g
    match jx, h with
    | 0, h => exact h
    | 1, h => exact h
    | 2, h => exact h
    | 3, h => exact Lit1.up h g
    | 4, h => exact h
    | 5, h => exact h
    | 6, h => exact h
    | 7, h => exact h
    | 8, h => exact h
    | 9, h => exact h
    | 10, h => exact Lit1.up h g
    | 11, h => exact h
    | 12, h => exact h
    | 13, h => exact h
    | 14, h => exact h
    | 15, h => exact Box1.up h g
    | jx + 16, h => exact trivial
  · intro jx ox dx hj ho hd
    exact insN_of (by kernel_rfl) hj ho hd
  · intro ix ox ax W hi hio hsh hW hpre
    have hsz : w3.heap.size ≤ W.heap.size := hW.size
    have GA : ∀ ob, Below W.heap.size W (W.alloc ob) := fun ob => (Below.refl _ _).alloc (Nat.le_refl _) ob
    have WA : ∀ ob, Below w3.heap.size w3 (W.alloc ob) := fun ob => hW.alloc hsz ob
    have t1 : ax.tmps[1]?.getD undef = (.int .i64 b) := (Array.getD_eq_getD_getElem? ..).symm.trans ((hsh.2.2 1 (notN_of (by kernel_rfl))).trans rfl)
    have t8 : ax.tmps[8]?.getD undef = (.pointer (some ⟨(w.heap.size + 1), 0, none⟩)) := (Array.getD_eq_getD_getElem? ..).symm.trans ((hsh.2.2 8 (notN_of (by kernel_rfl))).trans rfl)
    have t10 : ax.tmps[10]?.getD undef = (.pointer (some ⟨(w.heap.size + 3), 0, none⟩)) := (Array.getD_eq_getD_getElem? ..).symm.trans ((hsh.2.2 10 (notN_of (by kernel_rfl))).trans rfl)
    have t13 : ax.tmps[13]?.getD undef = (.pointer (some ⟨c13, 0, none⟩)) := (Array.getD_eq_getD_getElem? ..).symm.trans ((hsh.2.2 13 (notN_of (by kernel_rfl))).trans rfl)
    have t14 : ax.tmps[14]?.getD undef = (.int .i64 span) := (Array.getD_eq_getD_getElem? ..).symm.trans ((hsh.2.2 14 (notN_of (by kernel_rfl))).trans rfl)
    obtain ⟨x0, x1, x2, x3, x4, x5⟩ := hugeCells (U13.out.below hW)
    obtain ⟨y0, y1, y2, y3, y4, y5⟩ := hugeCells (U10.out.below hW)
    obtain ⟨z0, z1, z2, z3, z4, z5⟩ := hugeCells (U8.out.below hW)
    clear hsh
    match ix, hi, hio with
    | 0, _, hio =>
      cases hio
      exact hwp_val (v := .agg #[.int .u64 (hw 0 q), .int .u64 (hw 1 q), .int .u64 (hw 2 q), .int .u64 (hw 3 q), .int .u64 (hw 4 q), .int .u64 (hw 5 q)]) (w' := W) (by simp [execOp, Act.eval, t13, x0, x1, x2, x3, x4, x5, go_sem]) ⟨_, rfl, rfl, hW, Below.refl _ _⟩
    | 1, _, hio =>
      cases hio
      exact hwp_val (v := .int .i64 b) (w' := W) (by simp [execOp, Act.eval, t1, go_sem]) ⟨_, rfl, rfl, hW, Below.refl _ _⟩
    | 2, _, hio =>
      cases hio
      have p1 := hpre ⟨1, .data⟩ (by simp) (by rfl) _ _ rfl rfl
      have f1 : ax.tmps[30]?.getD undef = (.int .i64 b) := (Array.getD_eq_getD_getElem? ..).symm.trans p1
      exact hwp_val (v := .int .i64 (2 * b)) (w' := W) (by simp [execOp, Act.eval, ab, f1, go_sem]) ⟨_, rfl, rfl, hW, Below.refl _ _⟩
    | 3, _, hio =>
      cases hio
      have p2 := hpre ⟨2, .data⟩ (by simp) (by rfl) _ _ rfl rfl
      have f2 : ax.tmps[31]?.getD undef = (.int .i64 (2 * b)) := (Array.getD_eq_getD_getElem? ..).symm.trans p2
      exact hwp_val (v := .slice (some ⟨W.heap.size, 0, none⟩) 1 1) (w' := W.alloc (.cells #[.int .i64 (2 * b)] 3)) (by simp [execOp, Act.eval, f2, go_sem]) ⟨_, rfl, Lit1.new _ _ hsz, WA _, GA _⟩
    | 4, _, hio =>
      cases hio
      have p0 := hpre ⟨0, .data⟩ (by simp) (by rfl) _ _ rfl rfl
      have f0 : ax.tmps[29]?.getD undef = (.agg #[.int .u64 (hw 0 q), .int .u64 (hw 1 q), .int .u64 (hw 2 q), .int .u64 (hw 3 q), .int .u64 (hw 4 q), .int .u64 (hw 5 q)]) := (Array.getD_eq_getD_getElem? ..).symm.trans p0
      have p3 := hpre ⟨3, .data⟩ (by simp) (by rfl) _ _ rfl rfl
      obtain ⟨b3, e3, hb3, hl3, hc3⟩ := p3
      have f3 := (Array.getD_eq_getD_getElem? ..).symm.trans e3
      refine hwp_enter (f := 45) (args := #[.agg #[.int .u64 (hw 0 q), .int .u64 (hw 1 q), .int .u64 (hw 2 q), .int .u64 (hw 3 q), .int .u64 (hw 4 q), .int .u64 (hw 5 q)], .slice (some ⟨b3, 0, none⟩) 1 1]) (by simp [execOp, Act.eval, f0, f3, go_sem]) ?_
      refine (cTimes1 q (2 * b) b3 W q0 b20 b29 qP qbP hl3 hc3).mono ?_
      rintro ex wy ⟨rfl, hb⟩
      exact ⟨_, rfl, _, rfl, rfl, hW.trans (hb.mono hsz), hb⟩
    | 5, _, hio =>
      cases hio
      exact hwp_val (v := .agg #[.int .u64 (hw 0 sn), .int .u64 (hw 1 sn), .int .u64 (hw 2 sn), .int .u64 (hw 3 sn), .int .u64 (hw 4 sn), .int .u64 (hw 5 sn)]) (w' := W) (by simp [execOp, Act.eval, t10, y0, y1, y2, y3, y4, y5, go_sem]) ⟨_, rfl, rfl, hW, Below.refl _ _⟩
    | 6, _, hio =>
      cases hio
      exact hwp_val (v := .agg #[.int .u64 (hw 0 wn), .int .u64 (hw 1 wn), .int .u64 (hw 2 wn), .int .u64 (hw 3 wn), .int .u64 (hw 4 wn), .int .u64 (hw 5 wn)]) (w' := W) (by simp [execOp, Act.eval, t8, z0, z1, z2, z3, z4, z5, go_sem]) ⟨_, rfl, rfl, hW, Below.refl _ _⟩
    | 7, _, hio =>
      cases hio
      have p5 := hpre ⟨5, .data⟩ (by simp) (by rfl) _ _ rfl rfl
      have f5 : ax.tmps[34]?.getD undef = (.agg #[.int .u64 (hw 0 sn), .int .u64 (hw 1 sn), .int .u64 (hw 2 sn), .int .u64 (hw 3 sn), .int .u64 (hw 4 sn), .int .u64 (hw 5 sn)]) := (Array.getD_eq_getD_getElem? ..).symm.trans p5
      have p6 := hpre ⟨6, .data⟩ (by simp) (by rfl) _ _ rfl rfl
      have f6 : ax.tmps[35]?.getD undef = (.agg #[.int .u64 (hw 0 wn), .int .u64 (hw 1 wn), .int .u64 (hw 2 wn), .int .u64 (hw 3 wn), .int .u64 (hw 4 wn), .int .u64 (hw 5 wn)]) := (Array.getD_eq_getD_getElem? ..).symm.trans p6
      refine hwp_enter (f := 114) (args := #[.agg #[.int .u64 (hw 0 sn), .int .u64 (hw 1 sn), .int .u64 (hw 2 sn), .int .u64 (hw 3 sn), .int .u64 (hw 4 sn), .int .u64 (hw 5 sn)], .agg #[.int .u64 (hw 0 wn), .int .u64 (hw 1 wn), .int .u64 (hw 2 wn), .int .u64 (hw 3 wn), .int .u64 (hw 4 wn), .int .u64 (hw 5 wn)]]) (by simp [execOp, Act.eval, f5, f6, go_sem]) ?_
      refine (hu ▸ cMul sn wn sn0 snP wn0 wnP uP W).mono ?_
      rintro ex wy ⟨rfl, hb⟩
      exact ⟨_, rfl, _, rfl, rfl, hW.trans (hb.mono hsz), hb⟩
    | 8, _, hio =>
      cases hio
      exact hwp_val (v := .int .i64 span) (w' := W) (by simp [execOp, Act.eval, t14, go_sem]) ⟨_, rfl, rfl, hW, Below.refl _ _⟩
    | 9, _, hio =>
      cases hio
      have p8 := hpre ⟨8, .data⟩ (by simp) (by rfl) _ _ rfl rfl
      have f8 : ax.tmps[37]?.getD undef = (.int .i64 span) := (Array.getD_eq_getD_getElem? ..).symm.trans p8
      exact hwp_val (v := .int .i64 (2 * span)) (w' := W) (by simp [execOp, Act.eval, a2s, f8, go_sem]) ⟨_, rfl, rfl, hW, Below.refl _ _⟩
    | 10, _, hio =>
      cases hio
      have p9 := hpre ⟨9, .data⟩ (by simp) (by rfl) _ _ rfl rfl
      have f9 : ax.tmps[38]?.getD undef = (.int .i64 (2 * span)) := (Array.getD_eq_getD_getElem? ..).symm.trans p9
      exact hwp_val (v := .slice (some ⟨W.heap.size, 0, none⟩) 1 1) (w' := W.alloc (.cells #[.int .i64 (2 * span)] 3)) (by simp [execOp, Act.eval, f9, go_sem]) ⟨_, rfl, Lit1.new _ _ hsz, WA _, GA _⟩
    | 11, _, hio =>
      cases hio
      have p7 := hpre ⟨7, .data⟩ (by simp) (by rfl) _ _ rfl rfl
      have f7 : ax.tmps[36]?.getD undef = (.agg #[.int .u64 (hw 0 u), .int .u64 (hw 1 u), .int .u64 (hw 2 u), .int .u64 (hw 3 u), .int .u64 (hw 4 u), .int .u64 (hw 5 u)]) := (Array.getD_eq_getD_getElem? ..).symm.trans p7
      have p10 := hpre ⟨10, .data⟩ (by simp) (by rfl) _ _ rfl rfl
      obtain ⟨b10, e10, hb10, hl10, hc10⟩ := p10
      have f10 := (Array.getD_eq_getD_getElem? ..).symm.trans e10
      refine hwp_enter (f := 45) (args := #[.agg #[.int .u64 (hw 0 u), .int .u64 (hw 1 u), .int .u64 (hw 2 u), .int .u64 (hw 3 u), .int .u64 (hw 4 u), .int .u64 (hw 5 u)], .slice (some ⟨b10, 0, none⟩) 1 1]) (by simp [execOp, Act.eval, f7, f10, go_sem]) ?_
      refine (cTimes1 u (2 * span) b10 W u0 s20 s29 uP2 usP hl10 hc10).mono ?_
      rintro ex wy ⟨rfl, hb⟩
      exact ⟨_, rfl, _, rfl, rfl, hW.trans (hb.mono hsz), hb⟩
    | 12, _, hio =>
      cases hio
      have p4 := hpre ⟨4, .data⟩ (by simp) (by rfl) _ _ rfl rfl
      have f4 : ax.tmps[33]?.getD undef = (.agg #[.int .u64 (hw 0 (q * (2 * b))), .int .u64 (hw 1 (q * (2 * b))), .int .u64 (hw 2 (q * (2 * b))), .int .u64 (hw 3 (q * (2 * b))), .int .u64 (hw 4 (q * (2 * b))), .int .u64 (hw 5 (q * (2 * b)))]) := (Array.getD_eq_getD_getElem? ..).symm.trans p4
      have p11 := hpre ⟨11, .data⟩ (by simp) (by rfl) _ _ rfl rfl
      have f11 : ax.tmps[40]?.getD undef = (.agg #[.int .u64 (hw 0 (u * (2 * span))), .int .u64 (hw 1 (u * (2 * span))), .int .u64 (hw 2 (u * (2 * span))), .int .u64 (hw 3 (u * (2 * span))), .int .u64 (hw 4 (u * (2 * span))), .int .u64 (hw 5 (u * (2 * span)))]) := (Array.getD_eq_getD_getElem? ..).symm.trans p11
      refine hwp_enter (f := 46) (args := #[.agg #[.int .u64 (hw 0 (q * (2 * b))), .int .u64 (hw 1 (q * (2 * b))), .int .u64 (hw 2 (q * (2 * b))), .int .u64 (hw 3 (q * (2 * b))), .int .u64 (hw 4 (q * (2 * b))), .int .u64 (hw 5 (q * (2 * b)))], .agg #[.int .u64 (hw 0 (u * (2 * span))), .int .u64 (hw 1 (u * (2 * span))), .int .u64 (hw 2 (u * (2 * span))), .int .u64 (hw 3 (u * (2 * span))), .int .u64 (hw 4 (u * (2 * span))), .int .u64 (hw 5 (u * (2 * span)))]]) (by simp [execOp, Act.eval, f4, f11, go_sem]) ?_
      refine (cPlus (q * (2 * b)) (u * (2 * span)) qb0 us0 s1P W).mono ?_
      rintro ex wy ⟨rfl, hb⟩
      exact ⟨_, rfl, _, rfl, rfl, hW.trans (hb.mono hsz), hb⟩
    | 13, _, hio =>
      cases hio
      exact hwp_val (v := .agg #[.int .u64 (hw 0 q), .int .u64 (hw 1 q), .int .u64 (hw 2 q), .int .u64 (hw 3 q), .int .u64 (hw 4 q), .int .u64 (hw 5 q)]) (w' := W) (by simp [execOp, Act.eval, t13, x0, x1, x2, x3, x4, x5, go_sem]) ⟨_, rfl, rfl, hW, Below.refl _ _⟩
    | 14, _, hio =>
      cases hio
      have p12 := hpre ⟨12, .data⟩ (by simp) (by rfl) _ _ rfl rfl
      have f12 : ax.tmps[41]?.getD undef = (.agg #[.int .u64 (hw 0 (q * (2 * b) + u * (2 * span))), .int .u64 (hw 1 (q * (2 * b) + u * (2 * span))), .int .u64 (hw 2 (q * (2 * b) + u * (2 * span))), .int .u64 (hw 3 (q * (2 * b) + u * (2 * span))), .int .u64 (hw 4 (q * (2 * b) + u * (2 * span))), .int .u64 (hw 5 (q * (2 * b) + u * (2 * span)))]) := (Array.getD_eq_getD_getElem? ..).symm.trans p12
      have p13 := hpre ⟨13, .data⟩ (by simp) (by rfl) _ _ rfl rfl
      have f13 : ax.tmps[42]?.getD undef = (.agg #[.int .u64 (hw 0 q), .int .u64 (hw 1 q), .int .u64 (hw 2 q), .int .u64 (hw 3 q), .int .u64 (hw 4 q), .int .u64 (hw 5 q)]) := (Array.getD_eq_getD_getElem? ..).symm.trans p13
      refine hwp_enter (f := 46) (args := #[.agg #[.int .u64 (hw 0 (q * (2 * b) + u * (2 * span))), .int .u64 (hw 1 (q * (2 * b) + u * (2 * span))), .int .u64 (hw 2 (q * (2 * b) + u * (2 * span))), .int .u64 (hw 3 (q * (2 * b) + u * (2 * span))), .int .u64 (hw 4 (q * (2 * b) + u * (2 * span))), .int .u64 (hw 5 (q * (2 * b) + u * (2 * span)))], .agg #[.int .u64 (hw 0 q), .int .u64 (hw 1 q), .int .u64 (hw 2 q), .int .u64 (hw 3 q), .int .u64 (hw 4 q), .int .u64 (hw 5 q)]]) (by simp [execOp, Act.eval, f12, f13, go_sem]) ?_
      refine (cPlus (q * (2 * b) + u * (2 * span)) q s10 q0 s2P W).mono ?_
      rintro ex wy ⟨rfl, hb⟩
      exact ⟨_, rfl, _, rfl, rfl, hW.trans (hb.mono hsz), hb⟩
    | 15, _, hio =>
      cases hio
      exact hwp_val (v := .pointer (some ⟨W.heap.size, 0, none⟩)) (w' := W.alloc (.cells #[.int .u64 0, .int .u64 0, .int .u64 0, .int .u64 0, .int .u64 0, .int .u64 0] 77)) (by simp [execOp, Act.eval, zeroHuge_, go_sem]) ⟨_, rfl, Box1.new _ _ hsz, WA _, GA _⟩
    | ix + 16, hi, _ => exact absurd hi (by omega)
  · intro ax W hsh hW hφ
    have e0 : ax.tmps.getD 29 undef = (.agg #[.int .u64 (hw 0 q), .int .u64 (hw 1 q), .int .u64 (hw 2 q), .int .u64 (hw 3 q), .int .u64 (hw 4 q), .int .u64 (hw 5 q)]) := hφ 0 _ _ (by omega) rfl rfl
    have e1 : ax.tmps.getD 30 undef = (.int .i64 b) := hφ 1 _ _ (by omega) rfl rfl
    have e2 : ax.tmps.getD 31 undef = (.int .i64 (2 * b)) := hφ 2 _ _ (by omega) rfl rfl
    obtain ⟨b3, e3, hb3, hl3, hc3⟩ := hφ 3 _ _ (by omega) rfl rfl
    have e4 : ax.tmps.getD 33 undef = (.agg #[.int .u64 (hw 0 (q * (2 * b))), .int .u64 (hw 1 (q * (2 * b))), .int .u64 (hw 2 (q * (2 * b))), .int .u64 (hw 3 (q * (2 * b))), .int .u64 (hw 4 (q * (2 * b))), .int .u64 (hw 5 (q * (2 * b)))]) := hφ 4 _ _ (by omega) rfl rfl
    have e5 : ax.tmps.getD 34 undef = (.agg #[.int .u64 (hw 0 sn), .int .u64 (hw 1 sn), .int .u64 (hw 2 sn), .int .u64 (hw 3 sn), .int .u64 (hw 4 sn), .int .u64 (hw 5 sn)]) := hφ 5 _ _ (by omega) rfl rfl
    have e6 : ax.tmps.getD 35 undef = (.agg #[.int .u64 (hw 0 wn), .int .u64 (hw 1 wn), .int .u64 (hw 2 wn), .int .u64 (hw 3 wn), .int .u64 (hw 4 wn), .int .u64 (hw 5 wn)]) := hφ 6 _ _ (by omega) rfl rfl
    have e7 : ax.tmps.getD 36 undef = (.agg #[.int .u64 (hw 0 u), .int .u64 (hw 1 u), .int .u64 (hw 2 u), .int .u64 (hw 3 u), .int .u64 (hw 4 u), .int .u64 (hw 5 u)]) := hφ 7 _ _ (by omega) rfl rfl
    have e8 : ax.tmps.getD 37 undef = (.int .i64 span) := hφ 8 _ _ (by omega) rfl rfl
    have e9 : ax.tmps.getD 38 undef = (.int .i64 (2 * span)) := hφ 9 _ _ (by omega) rfl rfl
    obtain ⟨b10, e10, hb10, hl10, hc10⟩ := hφ 10 _ _ (by omega) rfl rfl
    have e11 : ax.tmps.getD 40 undef = (.agg #[.int .u64 (hw 0 (u * (2 * span))), .int .u64 (hw 1 (u * (2 * span))), .int .u64 (hw 2 (u * (2 * span))), .int .u64 (hw 3 (u * (2 * span))), .int .u64 (hw 4 (u * (2 * span))), .int .u64 (hw 5 (u * (2 * span)))]) := hφ 11 _ _ (by omega) rfl rfl
    have e12 : ax.tmps.getD 41 undef = (.agg #[.int .u64 (hw 0 (q * (2 * b) + u * (2 * span))), .int .u64 (hw 1 (q * (2 * b) + u * (2 * span))), .int .u64 (hw 2 (q * (2 * b) + u * (2 * span))), .int .u64 (hw 3 (q * (2 * b) + u * (2 * span))), .int .u64 (hw 4 (q * (2 * b) + u * (2 * span))), .int .u64 (hw 5 (q * (2 * b) + u * (2 * span)))]) := hφ 12 _ _ (by omega) rfl rfl
    have e13 : ax.tmps.getD 42 undef = (.agg #[.int .u64 (hw 0 q), .int .u64 (hw 1 q), .int .u64 (hw 2 q), .int .u64 (hw 3 q), .int .u64 (hw 4 q), .int .u64 (hw 5 q)]) := hφ 13 _ _ (by omega) rfl rfl
    have e14 : ax.tmps.getD 43 undef = (.agg #[.int .u64 (hw 0 (q * (2 * b) + u * (2 * span) + q)), .int .u64 (hw 1 (q * (2 * b) + u * (2 * span) + q)), .int .u64 (hw 2 (q * (2 * b) + u * (2 * span) + q)), .int .u64 (hw 3 (q * (2 * b) + u * (2 * span) + q)), .int .u64 (hw 4 (q * (2 * b) + u * (2 * span) + q)), .int .u64 (hw 5 (q * (2 * b) + u * (2 * span) + q))]) := hφ 14 _ _ (by omega) rfl rfl
    obtain ⟨b15, e15, hb15, hl15⟩ := hφ 15 _ _ (by omega) rfl rfl
    rw [shape_puts hsh [(29, .agg #[.int .u64 (hw 0 q), .int .u64 (hw 1 q), .int .u64 (hw 2 q), .int .u64 (hw 3 q), .int .u64 (hw 4 q), .int .u64 (hw 5 q)]), (30, .int .i64 b), (31, .int .i64 (2 * b)), (32, .slice (some ⟨b3, 0, none⟩) 1 1), (33, .agg #[.int .u64 (hw 0 (q * (2 * b))), .int .u64 (hw 1 (q * (2 * b))), .int .u64 (hw 2 (q * (2 * b))), .int .u64 (hw 3 (q * (2 * b))), .int .u64 (hw 4 (q * (2 * b))), .int .u64 (hw 5 (q * (2 * b)))]), (34, .agg #[.int .u64 (hw 0 sn), .int .u64 (hw 1 sn), .int .u64 (hw 2 sn), .int .u64 (hw 3 sn), .int .u64 (hw 4 sn), .int .u64 (hw 5 sn)]), (35, .agg #[.int .u64 (hw 0 wn), .int .u64 (hw 1 wn), .int .u64 (hw 2 wn), .int .u64 (hw 3 wn), .int .u64 (hw 4 wn), .int .u64 (hw 5 wn)]), (36, .agg #[.int .u64 (hw 0 u), .int .u64 (hw 1 u), .int .u64 (hw 2 u), .int .u64 (hw 3 u), .int .u64 (hw 4 u), .int .u64 (hw 5 u)]), (37, .int .i64 span), (38, .int .i64 (2 * span)), (39, .slice (some ⟨b10, 0, none⟩) 1 1), (40, .agg #[.int .u64 (hw 0 (u * (2 * span))), .int .u64 (hw 1 (u * (2 * span))), .int .u64 (hw 2 (u * (2 * span))), .int .u64 (hw 3 (u * (2 * span))), .int .u64 (hw 4 (u * (2 * span))), .int .u64 (hw 5 (u * (2 * span)))]), (41, .agg #[.int .u64 (hw 0 (q * (2 * b) + u * (2 * span))), .int .u64 (hw 1 (q * (2 * b) + u * (2 * span))), .int .u64 (hw 2 (q * (2 * b) + u * (2 * span))), .int .u64 (hw 3 (q * (2 * b) + u * (2 * span))), .int .u64 (hw 4 (q * (2 * b) + u * (2 * span))), .int .u64 (hw 5 (q * (2 * b) + u * (2 * span)))]), (42, .agg #[.int .u64 (hw 0 q), .int .u64 (hw 1 q), .int .u64 (hw 2 q), .int .u64 (hw 3 q), .int .u64 (hw 4 q), .int .u64 (hw 5 q)]), (43, .agg #[.int .u64 (hw 0 (q * (2 * b) + u * (2 * span) + q)), .int .u64 (hw 1 (q * (2 * b) + u * (2 * span) + q)), .int .u64 (hw 2 (q * (2 * b) + u * (2 * span) + q)), .int .u64 (hw 3 (q * (2 * b) + u * (2 * span) + q)), .int .u64 (hw 4 (q * (2 * b) + u * (2 * span) + q)), .int .u64 (hw 5 (q * (2 * b) + u * (2 * span) + q))]), (15, .pointer (some ⟨b15, 0, none⟩))] [29, 30, 31, 32, 33, 34, 35, 36, 37, 38, 39, 40, 41, 42, 43, 15] rfl (by kernel_rfl) ⟨e0, e1, e2, e3, e4, e5, e6, e7, e8, e9, e10, e11, e12, e13, e14, e15, trivial⟩]
    clear hφ hsh e0 e1 e2 e3 e4 e5 e6 e7 e8 e9 e10 e11 e12 e13 e14 e15
    clear hc3
    clear hc10
    simp only [putsN, List.foldl_cons, List.foldl_nil, List.drop_succ_cons, List.drop_zero, Act.put, List.setIfInBounds_toArray, List.set_cons_succ, List.set_cons_zero]
    have HBW := Lib.hid (HB3.out.trans (hW.mono HB3.out.size))
    have td := U13.out.below hW
    have ts := U10.out.below hW
    have tw := U9.out.below hW
    have l13 := U13.out.lt
    have l10 := U10.out.lt
    have l9 := U9.out.lt
    have hz3 := HB3.out.size
    clear hW
    refine wpList_storeH W rfl _ _ rfl b15 rfl rfl hl15 ?_
    intro wy t15 g15
    simp only [Act.put]
    have V13 := Lib.hid (td.gro g15 (by omega))
    have V10 := Lib.hid (ts.gro g15 (by omega))
    have V9 := Lib.hid (tw.gro g15 (by omega))
    have V15 := Lib.hid t15
    have HBE := Lib.hid (below_gro HBW.out g15 HBW.out.size (by omega))
    clear td ts tw t15 g15 hl15 l13 l10 l9 HBW U6 U8 U9 U10 U13 HB3
    obtain ⟨x0, x1, x2, x3, x4, x5⟩ := hugeCells V10.out
    obtain ⟨y0, y1, y2, y3, y4, y5⟩ := hugeCells V9.out
    have xl := V10.out.lt
    have yl := V9.out.lt
    clear qbP usP s1P q0 qP u0 uP2 qb0 us0 s10 sn0' snP wn0' wnP uP hu s20' s2P
    go_wp2_with fail
    refine (CMV.out _).mono ?_
    rintro e w5 ⟨rfl, hb⟩
    have HB5 := Lib.hid (HBE.out.trans (hb.mono HBE.out.size))
    have hy5 := hb.size
    have X13 := Lib.hid (V13.out.below hb)
    have X15 := Lib.hid (V15.out.below hb)
    clear hb x0 x1 x2 x3 x4 x5 y0 y1 y2 y3 y4 y5 xl yl V13 V15 V10 V9 CMV
    have CT := Lib.hid (CTV.out w5.heap.size (w5.alloc (.cells #[.int .i64 span] 3)) (by simp) (by simp [go_sem]))
    have ha := (Below.refl w5.heap.size w5).alloc (Nat.le_refl _) (.cells #[.int .i64 span] 3)
    have HB5a := Lib.hid (HB5.out.trans (ha.mono HB5.out.size))
    have Y13 := Lib.hid (X13.out.below ha)
    have Y15 := Lib.hid (X15.out.below ha)
    clear ha CTV
    go_wp2_with fail
    refine CT.out.mono ?_
    rintro e w6 ⟨rfl, hb⟩
    have HB6 := Lib.hid ((HB5a.out.trans (hb.mono HB5a.out.size)).alloc (Nat.le_trans HB5a.out.size hb.size) (.cells #[.int .u64 (hw 0 (v * span)), .int .u64 (hw 1 (v * span)), .int .u64 (hw 2 (v * span)), .int .u64 (hw 3 (v * span)), .int .u64 (hw 4 (v * span)), .int .u64 (hw 5 (v * span))] 77))
    have Z13 := Lib.hid ((Y13.out.below hb).alloc (.cells #[.int .u64 (hw 0 (v * span)), .int .u64 (hw 1 (v * span)), .int .u64 (hw 2 (v * span)), .int .u64 (hw 3 (v * span)), .int .u64 (hw 4 (v * span)), .int .u64 (hw 5 (v * span))] 77))
    have Z15 := Lib.hid ((Y15.out.below hb).alloc (.cells #[.int .u64 (hw 0 (v * span)), .int .u64 (hw 1 (v * span)), .int .u64 (hw 2 (v * span)), .int .u64 (hw 3 (v * span)), .int .u64 (hw 4 (v * span)), .int .u64 (hw 5 (v * span))] 77))
    have Z16 := Lib.hid (TBox.new w6 #[.int .u64 (hw 0 (v * span)), .int .u64 (hw 1 (v * span)), .int .u64 (hw 2 (v * span)), .int .u64 (hw 3 (v * span)), .int .u64 (hw 4 (v * span)), .int .u64 (hw 5 (v * span))] 77)
    clear hb CT HB5 HB5a X13 X15 Y13 Y15
    go_upto_region 6 with fail
    generalize hc16 : w6.heap.size = c16 at *
    generalize hw7 : w6.alloc (.cells #[.int .u64 (hw 0 (v * span)), .int .u64 (hw 1 (v * span)), .int .u64 (hw 2 (v * span)), .int .u64 (hw 3 (v * span)), .int .u64 (hw 4 (v * span)), .int .u64 (hw 5 (v * span))] 77) = w7 at *
    clear hw7 hc16
    obtain ⟨q0, s20', s2P⟩ := FP.out
    obtain ⟨q72, vs0, vs9⟩ := FCT.out
    have G := Lib.hid (greatest3_any 115 (.pointer (some ⟨b15, 0, none⟩)) (.pointer (some ⟨c13, 0, none⟩)) (.pointer (some ⟨c16, 0, none⟩)) 65535 (fun k => !decide (q * (2 * b) + u * (2 * span) + q < q * (2 * k) + v * span)) w7 (by omega) (by omega)
      (fun x y hx hxy hy hH => by
        have hH2 := of_decide_eq_false (by simpa using hH : decide (q * (2 * b) + u * (2 * span) + q < q * (2 * y) + v * span) = false)
        have hle : q * (2 * x) ≤ q * (2 * y) := Int.mul_le_mul_of_nonneg_left (by omega) q0
        have hn : ¬ (q * (2 * b) + u * (2 * span) + q < q * (2 * x) + v * span) := by omega
        simp [hn])
      (fun _ _ => by first | rfl | simp [go_sem])
      (fun k W2 hk0 hk1 hb => moved1_any b15 c13 c16 (q * (2 * b) + u * (2 * span) + q) q (v * span) k W2 (Z15.out.below hb) (Z13.out.below hb) (Z16.out.below hb) s20' s2P q0 q72 vs0 vs9 hk0 hk1))
    clear s20' s2P q72 vs0 vs9 Z13 Z15 Z16 q0
    go_wp2_with fail
    refine G.out.mono ?_
    rintro e w8 ⟨r, rfl, ⟨r0, r1⟩, hH1, hH2, hb8⟩
    have HB8 := Lib.hid (HB6.out.trans (hb8.mono HB6.out.size))
    have HR := Lib.hid (show (0 < r → ¬ q * (2 * b) + u * (2 * span) + q < q * (2 * r) + v * span) ∧ (r < 65535 → q * (2 * b) + u * (2 * span) + q < q * (2 * (r + 1)) + v * span) from ⟨fun h => by simpa using hH1 h, fun h => by simpa using hH2 h⟩)
    clear hb8 hH1 hH2 G HB6
    go_wp2_with fail
    go_ret
    exact ⟨r, rfl, ⟨r0, r1⟩, HR.out.1, HR.out.2, HB8.out⟩

set_option maxRecDepth 100000 in
set_option maxHeartbeats 8000000 in
theorem moved_abs (form low high cycle width spread b wn wd sn sd : Int) (back : Bool) (ao : Option Addr) (ln cap : Nat) (w : World) (l0 : 0 ≤ low) (l1 : low ≤ high) (h1 : high ≤ 65535) (b0 : 0 ≤ b) (b1 : b ≤ 65535) (wn0 : 0 ≤ wn) (wn1 : wn ≤ wd) (wd1 : 1 ≤ wd) (wd9 : wd ≤ 1000000000000000000 * (1000000000000000000 * 1000000000000000000)) (sn0 : 0 ≤ sn) (sn1 : sn ≤ sd) (sd1 : 1 ≤ sd) (sd9 : sd ≤ 10000000000000000) :
    Calls Try.prog 99 #[.agg #[.int .i64 form, .int .i64 low, .int .i64 high, .int .i64 cycle, .int .i64 width, .int .i64 spread, .bool back, .bool false, .slice ao ln cap], .int .i64 b, .agg #[.int .u64 (hw 0 wn), .int .u64 (hw 1 wn), .int .u64 (hw 2 wn), .int .u64 (hw 3 wn), .int .u64 (hw 4 wn), .int .u64 (hw 5 wn)], .agg #[.int .u64 (hw 0 wd), .int .u64 (hw 1 wd), .int .u64 (hw 2 wd), .int .u64 (hw 3 wd), .int .u64 (hw 4 wd), .int .u64 (hw 5 wd)], .agg #[.int .u64 (hw 0 sn), .int .u64 (hw 1 sn), .int .u64 (hw 2 sn), .int .u64 (hw 3 sn), .int .u64 (hw 4 sn), .int .u64 (hw 5 sn)], .agg #[.int .u64 (hw 0 sd), .int .u64 (hw 1 sd), .int .u64 (hw 2 sd), .int .u64 (hw 3 sd), .int .u64 (hw 4 sd), .int .u64 (hw 5 sd)]] w fun e w' => ∃ r, e = .returned (.int .i64 r) ∧ (0 ≤ r ∧ r ≤ 65535) ∧ (0 < r → ¬ ((sd - sn) * wd * b + sn * (wd * low + wn * (high - low))) * 2 + wd * sd < wd * sd * (2 * r)) ∧ (r < 65535 → ((sd - sn) * wd * b + sn * (wd * low + wn * (high - low))) * 2 + wd * sd < wd * sd * (2 * (r + 1))) ∧ Below w.heap.size w w' := by
  have hbig := powW6_big
  obtain ⟨span, hsp⟩ : ∃ s, high - low = s := ⟨_, rfl⟩
  rw [hsp]
  have asp : IntKind.i64.wrap (high - low) = span := by rw [hsp]; exact IntWalk.i64_in _ (by omega)
  have wdP : wd < powW 6 := by omega
  have wnP : wn < powW 6 := by omega
  have sdP : sd < powW 6 := by omega
  have snP : sn < powW 6 := by omega
  have wd0 : 0 ≤ wd := by omega
  have b9 : b ≤ 9223372036854775807 := by omega
  have l9 : low ≤ 9223372036854775807 := by omega
  have sp0 : 0 ≤ span := by omega
  have sp9 : span ≤ 9223372036854775807 := by omega
  obtain ⟨q0, q9⟩ := mul_both (a := wd) (b := sd) (A := 1000000000000000000 * (1000000000000000000 * 1000000000000000000)) (B := 10000000000000000) (by omega) (by omega) wd9 sd9
  have qP : wd * sd < powW 6 := by omega
  have CMQ := Lib.hid (fun W => cMul wd sd (by omega) wdP (by omega) sdP qP W)
  generalize hq : wd * sd = q at *
  obtain ⟨rs, hrs⟩ : ∃ s, sd - sn = s := ⟨_, rfl⟩
  rw [hrs]
  have rs0 : 0 ≤ rs := by omega
  have rsP : rs < powW 6 := by omega
  obtain ⟨a0, a9⟩ := mul_both (a := rs) (b := wd) (A := 10000000000000000) (B := 1000000000000000000 * (1000000000000000000 * 1000000000000000000)) rs0 wd0 (by omega) wd9
  have aP' : rs * wd < powW 6 := by omega
  obtain ⟨a, ha⟩ : ∃ s, rs * wd = s := ⟨_, rfl⟩
  rw [ha] at a0 a9 ⊢
  have aP : a < powW 6 := by omega
  obtain ⟨ab0, ab9⟩ := mul_both (a := a) (b := b) (A := 1000000000000000000000000000000000000000000000000000000000000000000000000) (B := 65535) a0 b0 (by omega) b1
  have abP' : a * b < powW 6 := by omega
  obtain ⟨ab, hab⟩ : ∃ s, a * b = s := ⟨_, rfl⟩
  rw [hab] at ab0 ab9 ⊢
  obtain ⟨lw0, lw9⟩ := mul_both (a := wd) (b := low) (A := 1000000000000000000 * (1000000000000000000 * 1000000000000000000)) (B := 65535) wd0 l0 wd9 (by omega)
  have lwP' : wd * low < powW 6 := by omega
  obtain ⟨lw, hlw⟩ : ∃ s, wd * low = s := ⟨_, rfl⟩
  rw [hlw] at lw0 lw9 ⊢
  obtain ⟨ws0, ws9⟩ := mul_both (a := wn) (b := span) (A := 1000000000000000000 * (1000000000000000000 * 1000000000000000000)) (B := 65535) wn0 sp0 (by omega) (by omega)
  have wsP' : wn * span < powW 6 := by omega
  obtain ⟨ws, hws⟩ : ∃ s, wn * span = s := ⟨_, rfl⟩
  rw [hws] at ws0 ws9 ⊢
  have ls0 : 0 ≤ lw + ws := by omega
  have lsP : lw + ws < powW 6 := by omega
  obtain ⟨xs0, xs9⟩ := mul_both (a := sn) (b := lw + ws) (A := 10000000000000000) (B := 1000000000000000000 * (1000000000000000000 * 1000000000000000000) * 131070) sn0 ls0 (by omega) (by omega)
  have xsP' : sn * (lw + ws) < powW 6 := by omega
  obtain ⟨xs, hxs⟩ : ∃ s, sn * (lw + ws) = s := ⟨_, rfl⟩
  rw [hxs] at xs0 xs9 ⊢
  have pr0 : 0 ≤ ab + xs := by omega
  have prP : ab + xs < powW 6 := by omega
  have pr20 : 0 ≤ (ab + xs) * 2 := by omega
  have pr2P : (ab + xs) * 2 < powW 6 := by omega
  have bdP : (ab + xs) * 2 + q < powW 6 := by omega
  have bd0 : 0 ≤ (ab + xs) * 2 + q := by omega
  have q72 : q ≤ 1000000000000000000000000000000000000000000000000000000000000000000000000 := by omega
  obtain ⟨w1, hw1, t6, t8, t9, t10, t11, hB1, hz1⟩ := boxes5 w #[.int .i64 form, .int .i64 low, .int .i64 high, .int .i64 cycle, .int .i64 width, .int .i64 spread, .bool back, .bool false, .slice ao ln cap] #[.int .u64 (hw 0 wn), .int .u64 (hw 1 wn), .int .u64 (hw 2 wn), .int .u64 (hw 3 wn), .int .u64 (hw 4 wn), .int .u64 (hw 5 wn)] #[.int .u64 (hw 0 wd), .int .u64 (hw 1 wd), .int .u64 (hw 2 wd), .int .u64 (hw 3 wd), .int .u64 (hw 4 wd), .int .u64 (hw 5 wd)] #[.int .u64 (hw 0 sn), .int .u64 (hw 1 sn), .int .u64 (hw 2 sn), .int .u64 (hw 3 sn), .int .u64 (hw 4 sn), .int .u64 (hw 5 sn)] #[.int .u64 (hw 0 sd), .int .u64 (hw 1 sd), .int .u64 (hw 2 sd), .int .u64 (hw 3 sd), .int .u64 (hw 4 sd), .int .u64 (hw 5 sd)] 24 77
  have T6 := Lib.hid t6
  have T8 := Lib.hid t8
  have T9 := Lib.hid t9
  have T10 := Lib.hid t10
  have T11 := Lib.hid t11
  have HB1 := Lib.hid hB1
  have HZ1 := Lib.hid hz1
  have H1 := Lib.hid (show (rs * wd < powW 6 ∧ a * b < powW 6 ∧ wd * low < powW 6 ∧ wn * span < powW 6 ∧ sn * (lw + ws) < powW 6) ∧ True from ⟨⟨by rw [ha]; exact aP, by rw [hab]; omega, by rw [hlw]; omega, by rw [hws]; omega, by rw [hxs]; omega⟩, trivial⟩)
  have H2 := Lib.hid (show (sd < powW 6 ∧ sn < powW 6 ∧ wd < powW 6 ∧ wn < powW 6 ∧ rs < powW 6 ∧ a < powW 6) ∧ (lw + ws < powW 6 ∧ ab + xs < powW 6) ∧ (ab + xs) * 2 < powW 6 ∧ (ab + xs) * 2 + q < powW 6 from ⟨⟨sdP, snP, wdP, wnP, rsP, aP⟩, ⟨lsP, prP⟩, pr2P, bdP⟩)
  have H3 := Lib.hid (show (sd - sn = rs ∧ rs * wd = a ∧ a * b = ab ∧ wd * low = lw ∧ wn * span = ws) ∧ sn * (lw + ws) = xs from ⟨⟨hrs, ha, hab, hlw, hws⟩, hxs⟩)
  have H4 := Lib.hid (show (0 ≤ rs ∧ 0 ≤ a ∧ 0 ≤ ab ∧ 0 ≤ lw ∧ 0 ≤ ws) ∧ 0 ≤ lw + ws ∧ 0 ≤ xs ∧ 0 ≤ ab + xs ∧ 0 ≤ (ab + xs) * 2 ∧ 0 ≤ (ab + xs) * 2 + q ∧ 0 ≤ q ∧ q ≤ 1000000000000000000000000000000000000000000000000000000000000000000000000 from ⟨⟨rs0, a0, ab0, lw0, ws0⟩, ls0, xs0, pr0, pr20, bd0, q0, q72⟩)
  clear hbig wdP wnP sdP snP q9 a9 ab9 lw9 ws9 xs9 aP aP' abP' lwP' wsP' xsP' qP q0 a0 ab0 lw0 ws0 ls0 lsP xs0 pr0 prP pr20 pr2P bdP bd0 q72 t6 t8 t9 t10 t11 hB1 hz1 hq hrs ha hab hlw hws hxs rs0 rsP wd9 sd9
  go_enter Try.func99, Try.ntmps99
  go_upto_region 1 with fail
  rw [← hw1]
  clear hw1
  obtain ⟨g0, g1, g2, g3, g4, g5⟩ := hugeCells T9.out
  obtain ⟨k0, k1, k2, k3, k4, k5⟩ := hugeCells T11.out
  have gl := T9.out.lt
  have kl := T11.out.lt
  go_wp2_with fail
  refine (CMQ.out _).mono ?_
  rintro e w2 ⟨rfl, hb⟩
  have HB2 := Lib.hid (HB1.out.trans (hb.mono HB1.out.size))
  have hz2 : w.heap.size + 5 ≤ w2.heap.size := by have := hb.size; have := HZ1.out; omega
  have U6 := Lib.hid ((T6.out.below hb).alloc (.cells #[.int .u64 (hw 0 q), .int .u64 (hw 1 q), .int .u64 (hw 2 q), .int .u64 (hw 3 q), .int .u64 (hw 4 q), .int .u64 (hw 5 q)] 77))
  have U8 := Lib.hid ((T8.out.below hb).alloc (.cells #[.int .u64 (hw 0 q), .int .u64 (hw 1 q), .int .u64 (hw 2 q), .int .u64 (hw 3 q), .int .u64 (hw 4 q), .int .u64 (hw 5 q)] 77))
  have U9 := Lib.hid ((T9.out.below hb).alloc (.cells #[.int .u64 (hw 0 q), .int .u64 (hw 1 q), .int .u64 (hw 2 q), .int .u64 (hw 3 q), .int .u64 (hw 4 q), .int .u64 (hw 5 q)] 77))
  have U10 := Lib.hid ((T10.out.below hb).alloc (.cells #[.int .u64 (hw 0 q), .int .u64 (hw 1 q), .int .u64 (hw 2 q), .int .u64 (hw 3 q), .int .u64 (hw 4 q), .int .u64 (hw 5 q)] 77))
  have U11 := Lib.hid ((T11.out.below hb).alloc (.cells #[.int .u64 (hw 0 q), .int .u64 (hw 1 q), .int .u64 (hw 2 q), .int .u64 (hw 3 q), .int .u64 (hw 4 q), .int .u64 (hw 5 q)] 77))
  have U13 := Lib.hid (TBox.new w2 #[.int .u64 (hw 0 q), .int .u64 (hw 1 q), .int .u64 (hw 2 q), .int .u64 (hw 3 q), .int .u64 (hw 4 q), .int .u64 (hw 5 q)] 77)
  have HB3 := Lib.hid (HB2.out.alloc HB2.out.size (.cells #[.int .u64 (hw 0 q), .int .u64 (hw 1 q), .int .u64 (hw 2 q), .int .u64 (hw 3 q), .int .u64 (hw 4 q), .int .u64 (hw 5 q)] 77))
  clear hb CMQ g0 g1 g2 g3 g4 g5 k0 k1 k2 k3 k4 k5 gl kl T6 T8 T9 T10 T11 HB1 HB2
  go_upto_region 2 with fail
  generalize hc13 : w2.heap.size = c13 at *
  generalize hw3 : w2.alloc (.cells #[.int .u64 (hw 0 q), .int .u64 (hw 1 q), .int .u64 (hw 2 q), .int .u64 (hw 3 q), .int .u64 (hw 4 q), .int .u64 (hw 5 q)] 77) = w3 at *
  clear hw3 hc13
  have e1 := U6.out.cell (i := 1) rfl
  have e2 := U6.out.cell (i := 2) rfl
  have e7 := U6.out.cell (i := 7) rfl
  have el := U6.out.lt
  go_upto_region 7 with fail
  clear e1 e2 e7 el
  obtain ⟨⟨aP', abP', lwP', wsP', xsP'⟩, _⟩ := H1.out
  obtain ⟨⟨sdP, snP, wdP, wnP, rsP, aP⟩, ⟨lsP, prP⟩, pr2P, bdP⟩ := H2.out
  obtain ⟨⟨hrs, ha, hab, hlw, hws⟩, hxs⟩ := H3.out
  obtain ⟨⟨rs0, a0, ab0, lw0, ws0⟩, ls0, xs0, pr0, pr20, bd0, q0, q72⟩ := H4.out
  refine region_heads (by kernel_rfl) 22 (by simp) (by kernel_rfl) (by kernel_rfl) (by kernel_rfl) (by kernel_rfl) (fun jx vx wx => match jx with | 0 => vx = (.agg #[.int .u64 (hw 0 sd), .int .u64 (hw 1 sd), .int .u64 (hw 2 sd), .int .u64 (hw 3 sd), .int .u64 (hw 4 sd), .int .u64 (hw 5 sd)]) | 1 => vx = (.agg #[.int .u64 (hw 0 sn), .int .u64 (hw 1 sn), .int .u64 (hw 2 sn), .int .u64 (hw 3 sn), .int .u64 (hw 4 sn), .int .u64 (hw 5 sn)]) | 2 => vx = (.agg #[.int .u64 (hw 0 rs), .int .u64 (hw 1 rs), .int .u64 (hw 2 rs), .int .u64 (hw 3 rs), .int .u64 (hw 4 rs), .int .u64 (hw 5 rs)]) | 3 => vx = (.agg #[.int .u64 (hw 0 wd), .int .u64 (hw 1 wd), .int .u64 (hw 2 wd), .int .u64 (hw 3 wd), .int .u64 (hw 4 wd), .int .u64 (hw 5 wd)]) | 4 => vx = (.agg #[.int .u64 (hw 0 a), .int .u64 (hw 1 a), .int .u64 (hw 2 a), .int .u64 (hw 3 a), .int .u64 (hw 4 a), .int .u64 (hw 5 a)]) | 5 => vx = (.int .i64 b) | 6 => Lit1 w3.heap.size vx (.int .i64 b) wx | 7 => vx = (.agg #[.int .u64 (hw 0 ab), .int .u64 (hw 1 ab), .int .u64 (hw 2 ab), .int .u64 (hw 3 ab), .int .u64 (hw 4 ab), .int .u64 (hw 5 ab)]) | 8 => vx = (.agg #[.int .u64 (hw 0 sn), .int .u64 (hw 1 sn), .int .u64 (hw 2 sn), .int .u64 (hw 3 sn), .int .u64 (hw 4 sn), .int .u64 (hw 5 sn)]) | 9 => vx = (.agg #[.int .u64 (hw 0 wd), .int .u64 (hw 1 wd), .int .u64 (hw 2 wd), .int .u64 (hw 3 wd), .int .u64 (hw 4 wd), .int .u64 (hw 5 wd)]) | 10 => vx = (.pointer (some ⟨w.heap.size, 1, none⟩)) | 11 => vx = (.int .i64 low) | 12 => Lit1 w3.heap.size vx (.int .i64 low) wx | 13 => vx = (.agg #[.int .u64 (hw 0 lw), .int .u64 (hw 1 lw), .int .u64 (hw 2 lw), .int .u64 (hw 3 lw), .int .u64 (hw 4 lw), .int .u64 (hw 5 lw)]) | 14 => vx = (.agg #[.int .u64 (hw 0 wn), .int .u64 (hw 1 wn), .int .u64 (hw 2 wn), .int .u64 (hw 3 wn), .int .u64 (hw 4 wn), .int .u64 (hw 5 wn)]) | 15 => vx = (.int .i64 span) | 16 => Lit1 w3.heap.size vx (.int .i64 span) wx | 17 => vx = (.agg #[.int .u64 (hw 0 ws), .int .u64 (hw 1 ws), .int .u64 (hw 2 ws), .int .u64 (hw 3 ws), .int .u64 (hw 4 ws), .int .u64 (hw 5 ws)]) | 18 => vx = (.agg #[.int .u64 (hw 0 (lw + ws)), .int .u64 (hw 1 (lw + ws)), .int .u64 (hw 2 (lw + ws)), .int .u64 (hw 3 (lw + ws)), .int .u64 (hw 4 (lw + ws)), .int .u64 (hw 5 (lw + ws))]) | 19 => vx = (.agg #[.int .u64 (hw 0 xs), .int .u64 (hw 1 xs), .int .u64 (hw 2 xs), .int .u64 (hw 3 xs), .int .u64 (hw 4 xs), .int .u64 (hw 5 xs)]) | 20 => vx = (.agg #[.int .u64 (hw 0 (ab + xs)), .int .u64 (hw 1 (ab + xs)), .int .u64 (hw 2 (ab + xs)), .int .u64 (hw 3 (ab + xs)), .int .u64 (hw 4 (ab + xs)), .int .u64 (hw 5 (ab + xs))]) | 21 => Box1 w3.heap.size 77 #[.int .u64 0, .int .u64 0, .int .u64 0, .int .u64 0, .int .u64 0, .int .u64 0] vx wx | _ => True) (fun W => Below w3.heap.size w3 W) (fun wx wy => Below wx.heap.size wx wy) (Below.refl _ _).drew ?_ ?_ ?_ ?_
  · intro jx vx wx wy h g
    match jx, h with
    | 0, h => exact h
    | 1, h => exact h
    | 2, h => exact h
    | 3, h => exact h
    | 4, h => exact h
    | 5, h => exact h
    | 6, h => exact Lit1.up h g
    | 7, h => exact h
    | 8, h => exact h
    | 9, h => exact h
    | 10, h => exact h
    | 11, h => exact h
    | 12, h => exact Lit1.up h g
    | 13, h => exact h
    | 14, h => exact h
    | 15, h => exact h
    | 16, h => exact Lit1.up h g
    | 17, h => exact h
    | 18, h => exact h
    | 19, h => exact h
    | 20, h => exact h
    | 21, h => exact Box1.up h g
    | jx + 22, h => exact trivial
  · intro jx ox dx hj ho hd
    exact insN_of (by kernel_rfl) hj ho hd
  · intro ix ox ax W hi hio hsh hW hpre
    have hsz : w3.heap.size ≤ W.heap.size := hW.size
    have GA : ∀ ob, Below W.heap.size W (W.alloc ob) := fun ob => (Below.refl _ _).alloc (Nat.le_refl _) ob
    have WA : ∀ ob, Below w3.heap.size w3 (W.alloc ob) := fun ob => hW.alloc hsz ob
    have t1 : ax.tmps[1]?.getD undef = (.int .i64 b) := (Array.getD_eq_getD_getElem? ..).symm.trans ((hsh.2.2 1 (notN_of (by kernel_rfl))).trans rfl)
    have t6 : ax.tmps[6]?.getD undef = (.pointer (some ⟨w.heap.size, 0, none⟩)) := (Array.getD_eq_getD_getElem? ..).symm.trans ((hsh.2.2 6 (notN_of (by kernel_rfl))).trans rfl)
    have t8 : ax.tmps[8]?.getD undef = (.pointer (some ⟨(w.heap.size + 1), 0, none⟩)) := (Array.getD_eq_getD_getElem? ..).symm.trans ((hsh.2.2 8 (notN_of (by kernel_rfl))).trans rfl)
    have t9 : ax.tmps[9]?.getD undef = (.pointer (some ⟨(w.heap.size + 2), 0, none⟩)) := (Array.getD_eq_getD_getElem? ..).symm.trans ((hsh.2.2 9 (notN_of (by kernel_rfl))).trans rfl)
    have t10 : ax.tmps[10]?.getD undef = (.pointer (some ⟨(w.heap.size + 3), 0, none⟩)) := (Array.getD_eq_getD_getElem? ..).symm.trans ((hsh.2.2 10 (notN_of (by kernel_rfl))).trans rfl)
    have t11 : ax.tmps[11]?.getD undef = (.pointer (some ⟨(w.heap.size + 4), 0, none⟩)) := (Array.getD_eq_getD_getElem? ..).symm.trans ((hsh.2.2 11 (notN_of (by kernel_rfl))).trans rfl)
    have t14 : ax.tmps[14]?.getD undef = (.int .i64 span) := (Array.getD_eq_getD_getElem? ..).symm.trans ((hsh.2.2 14 (notN_of (by kernel_rfl))).trans rfl)
    obtain ⟨x0, x1, x2, x3, x4, x5⟩ := hugeCells (U9.out.below hW)
    obtain ⟨y0, y1, y2, y3, y4, y5⟩ := hugeCells (U10.out.below hW)
    obtain ⟨z0, z1, z2, z3, z4, z5⟩ := hugeCells (U8.out.below hW)
    obtain ⟨v0, v1, v2, v3, v4, v5⟩ := hugeCells (U11.out.below hW)
    have ce1 := (U6.out.below hW).cell (i := 1) rfl
    clear hsh
    match ix, hi, hio with
    | 0, _, hio =>
      cases hio
      exact hwp_val (v := .agg #[.int .u64 (hw 0 sd), .int .u64 (hw 1 sd), .int .u64 (hw 2 sd), .int .u64 (hw 3 sd), .int .u64 (hw 4 sd), .int .u64 (hw 5 sd)]) (w' := W) (by simp [execOp, Act.eval, t11, v0, v1, v2, v3, v4, v5, go_sem]) ⟨_, rfl, rfl, hW, Below.refl _ _⟩
    | 1, _, hio =>
      cases hio
      exact hwp_val (v := .agg #[.int .u64 (hw 0 sn), .int .u64 (hw 1 sn), .int .u64 (hw 2 sn), .int .u64 (hw 3 sn), .int .u64 (hw 4 sn), .int .u64 (hw 5 sn)]) (w' := W) (by simp [execOp, Act.eval, t10, y0, y1, y2, y3, y4, y5, go_sem]) ⟨_, rfl, rfl, hW, Below.refl _ _⟩
    | 2, _, hio =>
      cases hio
      have p0 := hpre ⟨0, .data⟩ (by simp) (by rfl) _ _ rfl rfl
      have f0 : ax.tmps[52]?.getD undef = (.agg #[.int .u64 (hw 0 sd), .int .u64 (hw 1 sd), .int .u64 (hw 2 sd), .int .u64 (hw 3 sd), .int .u64 (hw 4 sd), .int .u64 (hw 5 sd)]) := (Array.getD_eq_getD_getElem? ..).symm.trans p0
      have p1 := hpre ⟨1, .data⟩ (by simp) (by rfl) _ _ rfl rfl
      have f1 : ax.tmps[53]?.getD undef = (.agg #[.int .u64 (hw 0 sn), .int .u64 (hw 1 sn), .int .u64 (hw 2 sn), .int .u64 (hw 3 sn), .int .u64 (hw 4 sn), .int .u64 (hw 5 sn)]) := (Array.getD_eq_getD_getElem? ..).symm.trans p1
      refine hwp_enter (f := 116) (args := #[.agg #[.int .u64 (hw 0 sd), .int .u64 (hw 1 sd), .int .u64 (hw 2 sd), .int .u64 (hw 3 sd), .int .u64 (hw 4 sd), .int .u64 (hw 5 sd)], .agg #[.int .u64 (hw 0 sn), .int .u64 (hw 1 sn), .int .u64 (hw 2 sn), .int .u64 (hw 3 sn), .int .u64 (hw 4 sn), .int .u64 (hw 5 sn)]]) (by simp [execOp, Act.eval, f0, f1, go_sem]) ?_
      refine (hrs ▸ cMinus sd sn sdP sn0 sn1 W).mono ?_
      rintro ex wy ⟨rfl, hb⟩
      exact ⟨_, rfl, _, rfl, rfl, hW.trans (hb.mono hsz), hb⟩
    | 3, _, hio =>
      cases hio
      exact hwp_val (v := .agg #[.int .u64 (hw 0 wd), .int .u64 (hw 1 wd), .int .u64 (hw 2 wd), .int .u64 (hw 3 wd), .int .u64 (hw 4 wd), .int .u64 (hw 5 wd)]) (w' := W) (by simp [execOp, Act.eval, t9, x0, x1, x2, x3, x4, x5, go_sem]) ⟨_, rfl, rfl, hW, Below.refl _ _⟩
    | 4, _, hio =>
      cases hio
      have p2 := hpre ⟨2, .data⟩ (by simp) (by rfl) _ _ rfl rfl
      have f2 : ax.tmps[54]?.getD undef = (.agg #[.int .u64 (hw 0 rs), .int .u64 (hw 1 rs), .int .u64 (hw 2 rs), .int .u64 (hw 3 rs), .int .u64 (hw 4 rs), .int .u64 (hw 5 rs)]) := (Array.getD_eq_getD_getElem? ..).symm.trans p2
      have p3 := hpre ⟨3, .data⟩ (by simp) (by rfl) _ _ rfl rfl
      have f3 : ax.tmps[55]?.getD undef = (.agg #[.int .u64 (hw 0 wd), .int .u64 (hw 1 wd), .int .u64 (hw 2 wd), .int .u64 (hw 3 wd), .int .u64 (hw 4 wd), .int .u64 (hw 5 wd)]) := (Array.getD_eq_getD_getElem? ..).symm.trans p3
      refine hwp_enter (f := 114) (args := #[.agg #[.int .u64 (hw 0 rs), .int .u64 (hw 1 rs), .int .u64 (hw 2 rs), .int .u64 (hw 3 rs), .int .u64 (hw 4 rs), .int .u64 (hw 5 rs)], .agg #[.int .u64 (hw 0 wd), .int .u64 (hw 1 wd), .int .u64 (hw 2 wd), .int .u64 (hw 3 wd), .int .u64 (hw 4 wd), .int .u64 (hw 5 wd)]]) (by simp [execOp, Act.eval, f2, f3, go_sem]) ?_
      refine (ha ▸ cMul rs wd rs0 rsP wd0 wdP aP' W).mono ?_
      rintro ex wy ⟨rfl, hb⟩
      exact ⟨_, rfl, _, rfl, rfl, hW.trans (hb.mono hsz), hb⟩
    | 5, _, hio =>
      cases hio
      exact hwp_val (v := .int .i64 b) (w' := W) (by simp [execOp, Act.eval, t1, go_sem]) ⟨_, rfl, rfl, hW, Below.refl _ _⟩
    | 6, _, hio =>
      cases hio
      have p5 := hpre ⟨5, .data⟩ (by simp) (by rfl) _ _ rfl rfl
      have f5 : ax.tmps[57]?.getD undef = (.int .i64 b) := (Array.getD_eq_getD_getElem? ..).symm.trans p5
      exact hwp_val (v := .slice (some ⟨W.heap.size, 0, none⟩) 1 1) (w' := W.alloc (.cells #[.int .i64 b] 3)) (by simp [execOp, Act.eval, f5, go_sem]) ⟨_, rfl, Lit1.new _ _ hsz, WA _, GA _⟩
    | 7, _, hio =>
      cases hio
      have p4 := hpre ⟨4, .data⟩ (by simp) (by rfl) _ _ rfl rfl
      have f4 : ax.tmps[56]?.getD undef = (.agg #[.int .u64 (hw 0 a), .int .u64 (hw 1 a), .int .u64 (hw 2 a), .int .u64 (hw 3 a), .int .u64 (hw 4 a), .int .u64 (hw 5 a)]) := (Array.getD_eq_getD_getElem? ..).symm.trans p4
      have p6 := hpre ⟨6, .data⟩ (by simp) (by rfl) _ _ rfl rfl
      obtain ⟨b6, e6, hb6, hl6, hc6⟩ := p6
      have f6 := (Array.getD_eq_getD_getElem? ..).symm.trans e6
      refine hwp_enter (f := 45) (args := #[.agg #[.int .u64 (hw 0 a), .int .u64 (hw 1 a), .int .u64 (hw 2 a), .int .u64 (hw 3 a), .int .u64 (hw 4 a), .int .u64 (hw 5 a)], .slice (some ⟨b6, 0, none⟩) 1 1]) (by simp [execOp, Act.eval, f4, f6, go_sem]) ?_
      refine (hab ▸ cTimes1 a b b6 W a0 b0 b9 aP abP' hl6 hc6).mono ?_
      rintro ex wy ⟨rfl, hb⟩
      exact ⟨_, rfl, _, rfl, rfl, hW.trans (hb.mono hsz), hb⟩
    | 8, _, hio =>
      cases hio
      exact hwp_val (v := .agg #[.int .u64 (hw 0 sn), .int .u64 (hw 1 sn), .int .u64 (hw 2 sn), .int .u64 (hw 3 sn), .int .u64 (hw 4 sn), .int .u64 (hw 5 sn)]) (w' := W) (by simp [execOp, Act.eval, t10, y0, y1, y2, y3, y4, y5, go_sem]) ⟨_, rfl, rfl, hW, Below.refl _ _⟩
    | 9, _, hio =>
      cases hio
      exact hwp_val (v := .agg #[.int .u64 (hw 0 wd), .int .u64 (hw 1 wd), .int .u64 (hw 2 wd), .int .u64 (hw 3 wd), .int .u64 (hw 4 wd), .int .u64 (hw 5 wd)]) (w' := W) (by simp [execOp, Act.eval, t9, x0, x1, x2, x3, x4, x5, go_sem]) ⟨_, rfl, rfl, hW, Below.refl _ _⟩
    | 10, _, hio =>
      cases hio
      exact hwp_val (v := .pointer (some ⟨w.heap.size, 1, none⟩)) (w' := W) (by simp [execOp, Act.eval, t6, go_sem]) ⟨_, rfl, rfl, hW, Below.refl _ _⟩
    | 11, _, hio =>
      cases hio
      have p10 := hpre ⟨10, .data⟩ (by simp) (by rfl) _ _ rfl rfl
      have f10 : ax.tmps[62]?.getD undef = (.pointer (some ⟨w.heap.size, 1, none⟩)) := (Array.getD_eq_getD_getElem? ..).symm.trans p10
      exact hwp_val (v := .int .i64 low) (w' := W) (by simp [execOp, Act.eval, ce1, f10, go_sem]) ⟨_, rfl, rfl, hW, Below.refl _ _⟩
    | 12, _, hio =>
      cases hio
      have p11 := hpre ⟨11, .data⟩ (by simp) (by rfl) _ _ rfl rfl
      have f11 : ax.tmps[63]?.getD undef = (.int .i64 low) := (Array.getD_eq_getD_getElem? ..).symm.trans p11
      exact hwp_val (v := .slice (some ⟨W.heap.size, 0, none⟩) 1 1) (w' := W.alloc (.cells #[.int .i64 low] 3)) (by simp [execOp, Act.eval, f11, go_sem]) ⟨_, rfl, Lit1.new _ _ hsz, WA _, GA _⟩
    | 13, _, hio =>
      cases hio
      have p9 := hpre ⟨9, .data⟩ (by simp) (by rfl) _ _ rfl rfl
      have f9 : ax.tmps[61]?.getD undef = (.agg #[.int .u64 (hw 0 wd), .int .u64 (hw 1 wd), .int .u64 (hw 2 wd), .int .u64 (hw 3 wd), .int .u64 (hw 4 wd), .int .u64 (hw 5 wd)]) := (Array.getD_eq_getD_getElem? ..).symm.trans p9
      have p12 := hpre ⟨12, .data⟩ (by simp) (by rfl) _ _ rfl rfl
      obtain ⟨b12, e12, hb12, hl12, hc12⟩ := p12
      have f12 := (Array.getD_eq_getD_getElem? ..).symm.trans e12
      refine hwp_enter (f := 45) (args := #[.agg #[.int .u64 (hw 0 wd), .int .u64 (hw 1 wd), .int .u64 (hw 2 wd), .int .u64 (hw 3 wd), .int .u64 (hw 4 wd), .int .u64 (hw 5 wd)], .slice (some ⟨b12, 0, none⟩) 1 1]) (by simp [execOp, Act.eval, f9, f12, go_sem]) ?_
      refine (hlw ▸ cTimes1 wd low b12 W wd0 l0 l9 wdP lwP' hl12 hc12).mono ?_
      rintro ex wy ⟨rfl, hb⟩
      exact ⟨_, rfl, _, rfl, rfl, hW.trans (hb.mono hsz), hb⟩
    | 14, _, hio =>
      cases hio
      exact hwp_val (v := .agg #[.int .u64 (hw 0 wn), .int .u64 (hw 1 wn), .int .u64 (hw 2 wn), .int .u64 (hw 3 wn), .int .u64 (hw 4 wn), .int .u64 (hw 5 wn)]) (w' := W) (by simp [execOp, Act.eval, t8, z0, z1, z2, z3, z4, z5, go_sem]) ⟨_, rfl, rfl, hW, Below.refl _ _⟩
    | 15, _, hio =>
      cases hio
      exact hwp_val (v := .int .i64 span) (w' := W) (by simp [execOp, Act.eval, t14, go_sem]) ⟨_, rfl, rfl, hW, Below.refl _ _⟩
    | 16, _, hio =>
      cases hio
      have p15 := hpre ⟨15, .data⟩ (by simp) (by rfl) _ _ rfl rfl
      have f15 : ax.tmps[67]?.getD undef = (.int .i64 span) := (Array.getD_eq_getD_getElem? ..).symm.trans p15
      exact hwp_val (v := .slice (some ⟨W.heap.size, 0, none⟩) 1 1) (w' := W.alloc (.cells #[.int .i64 span] 3)) (by simp [execOp, Act.eval, f15, go_sem]) ⟨_, rfl, Lit1.new _ _ hsz, WA _, GA _⟩
    | 17, _, hio =>
      cases hio
      have p14 := hpre ⟨14, .data⟩ (by simp) (by rfl) _ _ rfl rfl
      have f14 : ax.tmps[66]?.getD undef = (.agg #[.int .u64 (hw 0 wn), .int .u64 (hw 1 wn), .int .u64 (hw 2 wn), .int .u64 (hw 3 wn), .int .u64 (hw 4 wn), .int .u64 (hw 5 wn)]) := (Array.getD_eq_getD_getElem? ..).symm.trans p14
      have p16 := hpre ⟨16, .data⟩ (by simp) (by rfl) _ _ rfl rfl
      obtain ⟨b16, e16, hb16, hl16, hc16⟩ := p16
      have f16 := (Array.getD_eq_getD_getElem? ..).symm.trans e16
      refine hwp_enter (f := 45) (args := #[.agg #[.int .u64 (hw 0 wn), .int .u64 (hw 1 wn), .int .u64 (hw 2 wn), .int .u64 (hw 3 wn), .int .u64 (hw 4 wn), .int .u64 (hw 5 wn)], .slice (some ⟨b16, 0, none⟩) 1 1]) (by simp [execOp, Act.eval, f14, f16, go_sem]) ?_
      refine (hws ▸ cTimes1 wn span b16 W wn0 sp0 sp9 wnP wsP' hl16 hc16).mono ?_
      rintro ex wy ⟨rfl, hb⟩
      exact ⟨_, rfl, _, rfl, rfl, hW.trans (hb.mono hsz), hb⟩
    | 18, _, hio =>
      cases hio
      have p13 := hpre ⟨13, .data⟩ (by simp) (by rfl) _ _ rfl rfl
      have f13 : ax.tmps[65]?.getD undef = (.agg #[.int .u64 (hw 0 lw), .int .u64 (hw 1 lw), .int .u64 (hw 2 lw), .int .u64 (hw 3 lw), .int .u64 (hw 4 lw), .int .u64 (hw 5 lw)]) := (Array.getD_eq_getD_getElem? ..).symm.trans p13
      have p17 := hpre ⟨17, .data⟩ (by simp) (by rfl) _ _ rfl rfl
      have f17 : ax.tmps[69]?.getD undef = (.agg #[.int .u64 (hw 0 ws), .int .u64 (hw 1 ws), .int .u64 (hw 2 ws), .int .u64 (hw 3 ws), .int .u64 (hw 4 ws), .int .u64 (hw 5 ws)]) := (Array.getD_eq_getD_getElem? ..).symm.trans p17
      refine hwp_enter (f := 46) (args := #[.agg #[.int .u64 (hw 0 lw), .int .u64 (hw 1 lw), .int .u64 (hw 2 lw), .int .u64 (hw 3 lw), .int .u64 (hw 4 lw), .int .u64 (hw 5 lw)], .agg #[.int .u64 (hw 0 ws), .int .u64 (hw 1 ws), .int .u64 (hw 2 ws), .int .u64 (hw 3 ws), .int .u64 (hw 4 ws), .int .u64 (hw 5 ws)]]) (by simp [execOp, Act.eval, f13, f17, go_sem]) ?_
      refine (cPlus lw ws lw0 ws0 lsP W).mono ?_
      rintro ex wy ⟨rfl, hb⟩
      exact ⟨_, rfl, _, rfl, rfl, hW.trans (hb.mono hsz), hb⟩
    | 19, _, hio =>
      cases hio
      have p8 := hpre ⟨8, .data⟩ (by simp) (by rfl) _ _ rfl rfl
      have f8 : ax.tmps[60]?.getD undef = (.agg #[.int .u64 (hw 0 sn), .int .u64 (hw 1 sn), .int .u64 (hw 2 sn), .int .u64 (hw 3 sn), .int .u64 (hw 4 sn), .int .u64 (hw 5 sn)]) := (Array.getD_eq_getD_getElem? ..).symm.trans p8
      have p18 := hpre ⟨18, .data⟩ (by simp) (by rfl) _ _ rfl rfl
      have f18 : ax.tmps[70]?.getD undef = (.agg #[.int .u64 (hw 0 (lw + ws)), .int .u64 (hw 1 (lw + ws)), .int .u64 (hw 2 (lw + ws)), .int .u64 (hw 3 (lw + ws)), .int .u64 (hw 4 (lw + ws)), .int .u64 (hw 5 (lw + ws))]) := (Array.getD_eq_getD_getElem? ..).symm.trans p18
      refine hwp_enter (f := 114) (args := #[.agg #[.int .u64 (hw 0 sn), .int .u64 (hw 1 sn), .int .u64 (hw 2 sn), .int .u64 (hw 3 sn), .int .u64 (hw 4 sn), .int .u64 (hw 5 sn)], .agg #[.int .u64 (hw 0 (lw + ws)), .int .u64 (hw 1 (lw + ws)), .int .u64 (hw 2 (lw + ws)), .int .u64 (hw 3 (lw + ws)), .int .u64 (hw 4 (lw + ws)), .int .u64 (hw 5 (lw + ws))]]) (by simp [execOp, Act.eval, f8, f18, go_sem]) ?_
      refine (hxs ▸ cMul sn (lw + ws) sn0 snP ls0 lsP xsP' W).mono ?_
      rintro ex wy ⟨rfl, hb⟩
      exact ⟨_, rfl, _, rfl, rfl, hW.trans (hb.mono hsz), hb⟩
    | 20, _, hio =>
      cases hio
      have p7 := hpre ⟨7, .data⟩ (by simp) (by rfl) _ _ rfl rfl
      have f7 : ax.tmps[59]?.getD undef = (.agg #[.int .u64 (hw 0 ab), .int .u64 (hw 1 ab), .int .u64 (hw 2 ab), .int .u64 (hw 3 ab), .int .u64 (hw 4 ab), .int .u64 (hw 5 ab)]) := (Array.getD_eq_getD_getElem? ..).symm.trans p7
      have p19 := hpre ⟨19, .data⟩ (by simp) (by rfl) _ _ rfl rfl
      have f19 : ax.tmps[71]?.getD undef = (.agg #[.int .u64 (hw 0 xs), .int .u64 (hw 1 xs), .int .u64 (hw 2 xs), .int .u64 (hw 3 xs), .int .u64 (hw 4 xs), .int .u64 (hw 5 xs)]) := (Array.getD_eq_getD_getElem? ..).symm.trans p19
      refine hwp_enter (f := 46) (args := #[.agg #[.int .u64 (hw 0 ab), .int .u64 (hw 1 ab), .int .u64 (hw 2 ab), .int .u64 (hw 3 ab), .int .u64 (hw 4 ab), .int .u64 (hw 5 ab)], .agg #[.int .u64 (hw 0 xs), .int .u64 (hw 1 xs), .int .u64 (hw 2 xs), .int .u64 (hw 3 xs), .int .u64 (hw 4 xs), .int .u64 (hw 5 xs)]]) (by simp [execOp, Act.eval, f7, f19, go_sem]) ?_
      refine (cPlus ab xs ab0 xs0 prP W).mono ?_
      rintro ex wy ⟨rfl, hb⟩
      exact ⟨_, rfl, _, rfl, rfl, hW.trans (hb.mono hsz), hb⟩
    | 21, _, hio =>
      cases hio
      exact hwp_val (v := .pointer (some ⟨W.heap.size, 0, none⟩)) (w' := W.alloc (.cells #[.int .u64 0, .int .u64 0, .int .u64 0, .int .u64 0, .int .u64 0, .int .u64 0] 77)) (by simp [execOp, Act.eval, zeroHuge_, go_sem]) ⟨_, rfl, Box1.new _ _ hsz, WA _, GA _⟩
    | ix + 22, hi, _ => exact absurd hi (by omega)
  · intro ax W hsh hW hφ
    have e0 : ax.tmps.getD 52 undef = (.agg #[.int .u64 (hw 0 sd), .int .u64 (hw 1 sd), .int .u64 (hw 2 sd), .int .u64 (hw 3 sd), .int .u64 (hw 4 sd), .int .u64 (hw 5 sd)]) := hφ 0 _ _ (by omega) rfl rfl
    have e1 : ax.tmps.getD 53 undef = (.agg #[.int .u64 (hw 0 sn), .int .u64 (hw 1 sn), .int .u64 (hw 2 sn), .int .u64 (hw 3 sn), .int .u64 (hw 4 sn), .int .u64 (hw 5 sn)]) := hφ 1 _ _ (by omega) rfl rfl
    have e2 : ax.tmps.getD 54 undef = (.agg #[.int .u64 (hw 0 rs), .int .u64 (hw 1 rs), .int .u64 (hw 2 rs), .int .u64 (hw 3 rs), .int .u64 (hw 4 rs), .int .u64 (hw 5 rs)]) := hφ 2 _ _ (by omega) rfl rfl
    have e3 : ax.tmps.getD 55 undef = (.agg #[.int .u64 (hw 0 wd), .int .u64 (hw 1 wd), .int .u64 (hw 2 wd), .int .u64 (hw 3 wd), .int .u64 (hw 4 wd), .int .u64 (hw 5 wd)]) := hφ 3 _ _ (by omega) rfl rfl
    have e4 : ax.tmps.getD 56 undef = (.agg #[.int .u64 (hw 0 a), .int .u64 (hw 1 a), .int .u64 (hw 2 a), .int .u64 (hw 3 a), .int .u64 (hw 4 a), .int .u64 (hw 5 a)]) := hφ 4 _ _ (by omega) rfl rfl
    have e5 : ax.tmps.getD 57 undef = (.int .i64 b) := hφ 5 _ _ (by omega) rfl rfl
    obtain ⟨b6, e6, hb6, hl6, hc6⟩ := hφ 6 _ _ (by omega) rfl rfl
    have e7 : ax.tmps.getD 59 undef = (.agg #[.int .u64 (hw 0 ab), .int .u64 (hw 1 ab), .int .u64 (hw 2 ab), .int .u64 (hw 3 ab), .int .u64 (hw 4 ab), .int .u64 (hw 5 ab)]) := hφ 7 _ _ (by omega) rfl rfl
    have e8 : ax.tmps.getD 60 undef = (.agg #[.int .u64 (hw 0 sn), .int .u64 (hw 1 sn), .int .u64 (hw 2 sn), .int .u64 (hw 3 sn), .int .u64 (hw 4 sn), .int .u64 (hw 5 sn)]) := hφ 8 _ _ (by omega) rfl rfl
    have e9 : ax.tmps.getD 61 undef = (.agg #[.int .u64 (hw 0 wd), .int .u64 (hw 1 wd), .int .u64 (hw 2 wd), .int .u64 (hw 3 wd), .int .u64 (hw 4 wd), .int .u64 (hw 5 wd)]) := hφ 9 _ _ (by omega) rfl rfl
    have e10 : ax.tmps.getD 62 undef = (.pointer (some ⟨w.heap.size, 1, none⟩)) := hφ 10 _ _ (by omega) rfl rfl
    have e11 : ax.tmps.getD 63 undef = (.int .i64 low) := hφ 11 _ _ (by omega) rfl rfl
    obtain ⟨b12, e12, hb12, hl12, hc12⟩ := hφ 12 _ _ (by omega) rfl rfl
    have e13 : ax.tmps.getD 65 undef = (.agg #[.int .u64 (hw 0 lw), .int .u64 (hw 1 lw), .int .u64 (hw 2 lw), .int .u64 (hw 3 lw), .int .u64 (hw 4 lw), .int .u64 (hw 5 lw)]) := hφ 13 _ _ (by omega) rfl rfl
    have e14 : ax.tmps.getD 66 undef = (.agg #[.int .u64 (hw 0 wn), .int .u64 (hw 1 wn), .int .u64 (hw 2 wn), .int .u64 (hw 3 wn), .int .u64 (hw 4 wn), .int .u64 (hw 5 wn)]) := hφ 14 _ _ (by omega) rfl rfl
    have e15 : ax.tmps.getD 67 undef = (.int .i64 span) := hφ 15 _ _ (by omega) rfl rfl
    obtain ⟨b16, e16, hb16, hl16, hc16⟩ := hφ 16 _ _ (by omega) rfl rfl
    have e17 : ax.tmps.getD 69 undef = (.agg #[.int .u64 (hw 0 ws), .int .u64 (hw 1 ws), .int .u64 (hw 2 ws), .int .u64 (hw 3 ws), .int .u64 (hw 4 ws), .int .u64 (hw 5 ws)]) := hφ 17 _ _ (by omega) rfl rfl
    have e18 : ax.tmps.getD 70 undef = (.agg #[.int .u64 (hw 0 (lw + ws)), .int .u64 (hw 1 (lw + ws)), .int .u64 (hw 2 (lw + ws)), .int .u64 (hw 3 (lw + ws)), .int .u64 (hw 4 (lw + ws)), .int .u64 (hw 5 (lw + ws))]) := hφ 18 _ _ (by omega) rfl rfl
    have e19 : ax.tmps.getD 71 undef = (.agg #[.int .u64 (hw 0 xs), .int .u64 (hw 1 xs), .int .u64 (hw 2 xs), .int .u64 (hw 3 xs), .int .u64 (hw 4 xs), .int .u64 (hw 5 xs)]) := hφ 19 _ _ (by omega) rfl rfl
    have e20 : ax.tmps.getD 72 undef = (.agg #[.int .u64 (hw 0 (ab + xs)), .int .u64 (hw 1 (ab + xs)), .int .u64 (hw 2 (ab + xs)), .int .u64 (hw 3 (ab + xs)), .int .u64 (hw 4 (ab + xs)), .int .u64 (hw 5 (ab + xs))]) := hφ 20 _ _ (by omega) rfl rfl
    obtain ⟨b21, e21, hb21, hl21⟩ := hφ 21 _ _ (by omega) rfl rfl
    rw [shape_puts hsh [(52, .agg #[.int .u64 (hw 0 sd), .int .u64 (hw 1 sd), .int .u64 (hw 2 sd), .int .u64 (hw 3 sd), .int .u64 (hw 4 sd), .int .u64 (hw 5 sd)]), (53, .agg #[.int .u64 (hw 0 sn), .int .u64 (hw 1 sn), .int .u64 (hw 2 sn), .int .u64 (hw 3 sn), .int .u64 (hw 4 sn), .int .u64 (hw 5 sn)]), (54, .agg #[.int .u64 (hw 0 rs), .int .u64 (hw 1 rs), .int .u64 (hw 2 rs), .int .u64 (hw 3 rs), .int .u64 (hw 4 rs), .int .u64 (hw 5 rs)]), (55, .agg #[.int .u64 (hw 0 wd), .int .u64 (hw 1 wd), .int .u64 (hw 2 wd), .int .u64 (hw 3 wd), .int .u64 (hw 4 wd), .int .u64 (hw 5 wd)]), (56, .agg #[.int .u64 (hw 0 a), .int .u64 (hw 1 a), .int .u64 (hw 2 a), .int .u64 (hw 3 a), .int .u64 (hw 4 a), .int .u64 (hw 5 a)]), (57, .int .i64 b), (58, .slice (some ⟨b6, 0, none⟩) 1 1), (59, .agg #[.int .u64 (hw 0 ab), .int .u64 (hw 1 ab), .int .u64 (hw 2 ab), .int .u64 (hw 3 ab), .int .u64 (hw 4 ab), .int .u64 (hw 5 ab)]), (60, .agg #[.int .u64 (hw 0 sn), .int .u64 (hw 1 sn), .int .u64 (hw 2 sn), .int .u64 (hw 3 sn), .int .u64 (hw 4 sn), .int .u64 (hw 5 sn)]), (61, .agg #[.int .u64 (hw 0 wd), .int .u64 (hw 1 wd), .int .u64 (hw 2 wd), .int .u64 (hw 3 wd), .int .u64 (hw 4 wd), .int .u64 (hw 5 wd)]), (62, .pointer (some ⟨w.heap.size, 1, none⟩)), (63, .int .i64 low), (64, .slice (some ⟨b12, 0, none⟩) 1 1), (65, .agg #[.int .u64 (hw 0 lw), .int .u64 (hw 1 lw), .int .u64 (hw 2 lw), .int .u64 (hw 3 lw), .int .u64 (hw 4 lw), .int .u64 (hw 5 lw)]), (66, .agg #[.int .u64 (hw 0 wn), .int .u64 (hw 1 wn), .int .u64 (hw 2 wn), .int .u64 (hw 3 wn), .int .u64 (hw 4 wn), .int .u64 (hw 5 wn)]), (67, .int .i64 span), (68, .slice (some ⟨b16, 0, none⟩) 1 1), (69, .agg #[.int .u64 (hw 0 ws), .int .u64 (hw 1 ws), .int .u64 (hw 2 ws), .int .u64 (hw 3 ws), .int .u64 (hw 4 ws), .int .u64 (hw 5 ws)]), (70, .agg #[.int .u64 (hw 0 (lw + ws)), .int .u64 (hw 1 (lw + ws)), .int .u64 (hw 2 (lw + ws)), .int .u64 (hw 3 (lw + ws)), .int .u64 (hw 4 (lw + ws)), .int .u64 (hw 5 (lw + ws))]), (71, .agg #[.int .u64 (hw 0 xs), .int .u64 (hw 1 xs), .int .u64 (hw 2 xs), .int .u64 (hw 3 xs), .int .u64 (hw 4 xs), .int .u64 (hw 5 xs)]), (72, .agg #[.int .u64 (hw 0 (ab + xs)), .int .u64 (hw 1 (ab + xs)), .int .u64 (hw 2 (ab + xs)), .int .u64 (hw 3 (ab + xs)), .int .u64 (hw 4 (ab + xs)), .int .u64 (hw 5 (ab + xs))]), (17, .pointer (some ⟨b21, 0, none⟩))] [52, 53, 54, 55, 56, 57, 58, 59, 60, 61, 62, 63, 64, 65, 66, 67, 68, 69, 70, 71, 72, 17] rfl (by kernel_rfl) ⟨e0, e1, e2, e3, e4, e5, e6, e7, e8, e9, e10, e11, e12, e13, e14, e15, e16, e17, e18, e19, e20, e21, trivial⟩]
    clear hφ hsh e0 e1 e2 e3 e4 e5 e6 e7 e8 e9 e10 e11 e12 e13 e14 e15 e16 e17 e18 e19 e20 e21
    clear hc6
    clear hc12
    clear hc16
    simp only [putsN, List.foldl_cons, List.foldl_nil, List.drop_succ_cons, List.drop_zero, Act.put, List.setIfInBounds_toArray, List.set_cons_succ, List.set_cons_zero]
    have HBW := Lib.hid (HB3.out.trans (hW.mono HB3.out.size))
    have td := U13.out.below hW
    have l13 := U13.out.lt
    have hz3 := HB3.out.size
    clear hW
    refine wpList_storeH W rfl _ _ rfl b21 rfl rfl hl21 ?_
    intro wy t17 g17
    simp only [Act.put]
    have V13 := Lib.hid (td.gro g17 (by omega))
    have V17 := Lib.hid t17
    have HBE := Lib.hid (below_gro HBW.out g17 HBW.out.size (by omega))
    clear td t17 g17 hl21 l13 HBW U6 U8 U9 U10 U11 U13 HB3
    clear aP' abP' lwP' wsP' xsP' sdP snP wdP wnP rsP aP lsP hrs ha hab hlw hws hxs rs0 a0 ab0 lw0 ws0 ls0 xs0
    generalize b21 = c17 at *
    go_upto_region 8 with fail
    refine region_heads (by kernel_rfl) 6 (by simp) (by kernel_rfl) (by kernel_rfl) (by kernel_rfl) (by kernel_rfl) (fun jx vx wx => match jx with | 0 => vx = (.agg #[.int .u64 (hw 0 (ab + xs)), .int .u64 (hw 1 (ab + xs)), .int .u64 (hw 2 (ab + xs)), .int .u64 (hw 3 (ab + xs)), .int .u64 (hw 4 (ab + xs)), .int .u64 (hw 5 (ab + xs))]) | 1 => Lit1 wy.heap.size vx (.int .i64 2) wx | 2 => vx = (.agg #[.int .u64 (hw 0 ((ab + xs) * 2)), .int .u64 (hw 1 ((ab + xs) * 2)), .int .u64 (hw 2 ((ab + xs) * 2)), .int .u64 (hw 3 ((ab + xs) * 2)), .int .u64 (hw 4 ((ab + xs) * 2)), .int .u64 (hw 5 ((ab + xs) * 2))]) | 3 => vx = (.agg #[.int .u64 (hw 0 q), .int .u64 (hw 1 q), .int .u64 (hw 2 q), .int .u64 (hw 3 q), .int .u64 (hw 4 q), .int .u64 (hw 5 q)]) | 4 => vx = (.agg #[.int .u64 (hw 0 ((ab + xs) * 2 + q)), .int .u64 (hw 1 ((ab + xs) * 2 + q)), .int .u64 (hw 2 ((ab + xs) * 2 + q)), .int .u64 (hw 3 ((ab + xs) * 2 + q)), .int .u64 (hw 4 ((ab + xs) * 2 + q)), .int .u64 (hw 5 ((ab + xs) * 2 + q))]) | 5 => Box1 wy.heap.size 77 #[.int .u64 0, .int .u64 0, .int .u64 0, .int .u64 0, .int .u64 0, .int .u64 0] vx wx | _ => True) (fun W => Below wy.heap.size wy W) (fun wx wy => Below wx.heap.size wx wy) (Below.refl _ _).drew ?_ ?_ ?_ ?_
    · intro jx vx wx wy h g
      match jx, h with
      | 0, h => exact h
      | 1, h => exact Lit1.up h g
      | 2, h => exact h
      | 3, h => exact h
      | 4, h => exact h
      | 5, h => exact Box1.up h g
      | jx + 6, h => exact trivial
    · intro jx ox dx hj ho hd
      exact insN_of (by kernel_rfl) hj ho hd
    · intro ix ox ax W hi hio hsh hW hpre
      have hsz : wy.heap.size ≤ W.heap.size := hW.size
      have GA : ∀ ob, Below W.heap.size W (W.alloc ob) := fun ob => (Below.refl _ _).alloc (Nat.le_refl _) ob
      have WA : ∀ ob, Below wy.heap.size wy (W.alloc ob) := fun ob => hW.alloc hsz ob
      have t13 : ax.tmps[13]?.getD undef = (.pointer (some ⟨c13, 0, none⟩)) := (Array.getD_eq_getD_getElem? ..).symm.trans ((hsh.2.2 13 (notN_of (by kernel_rfl))).trans rfl)
      have t17 : ax.tmps[17]?.getD undef = (.pointer (some ⟨c17, 0, none⟩)) := (Array.getD_eq_getD_getElem? ..).symm.trans ((hsh.2.2 17 (notN_of (by kernel_rfl))).trans rfl)
      obtain ⟨x0, x1, x2, x3, x4, x5⟩ := hugeCells (V17.out.below hW)
      obtain ⟨y0, y1, y2, y3, y4, y5⟩ := hugeCells (V13.out.below hW)
      clear hsh
      match ix, hi, hio with
      | 0, _, hio =>
        cases hio
        exact hwp_val (v := .agg #[.int .u64 (hw 0 (ab + xs)), .int .u64 (hw 1 (ab + xs)), .int .u64 (hw 2 (ab + xs)), .int .u64 (hw 3 (ab + xs)), .int .u64 (hw 4 (ab + xs)), .int .u64 (hw 5 (ab + xs))]) (w' := W) (by simp [execOp, Act.eval, t17, x0, x1, x2, x3, x4, x5, go_sem]) ⟨_, rfl, rfl, hW, Below.refl _ _⟩
      | 1, _, hio =>
        cases hio
        exact hwp_val (v := .slice (some ⟨W.heap.size, 0, none⟩) 1 1) (w' := W.alloc (.cells #[.int .i64 2] 3)) (by simp [execOp, Act.eval, go_sem]) ⟨_, rfl, Lit1.new _ _ hsz, WA _, GA _⟩
      | 2, _, hio =>
        cases hio
        have p0 := hpre ⟨0, .data⟩ (by simp) (by rfl) _ _ rfl rfl
        have f0 : ax.tmps[73]?.getD undef = (.agg #[.int .u64 (hw 0 (ab + xs)), .int .u64 (hw 1 (ab + xs)), .int .u64 (hw 2 (ab + xs)), .int .u64 (hw 3 (ab + xs)), .int .u64 (hw 4 (ab + xs)), .int .u64 (hw 5 (ab + xs))]) := (Array.getD_eq_getD_getElem? ..).symm.trans p0
        have p1 := hpre ⟨1, .data⟩ (by simp) (by rfl) _ _ rfl rfl
        obtain ⟨b1, e1, hb1, hl1, hc1⟩ := p1
        have f1 := (Array.getD_eq_getD_getElem? ..).symm.trans e1
        refine hwp_enter (f := 45) (args := #[.agg #[.int .u64 (hw 0 (ab + xs)), .int .u64 (hw 1 (ab + xs)), .int .u64 (hw 2 (ab + xs)), .int .u64 (hw 3 (ab + xs)), .int .u64 (hw 4 (ab + xs)), .int .u64 (hw 5 (ab + xs))], .slice (some ⟨b1, 0, none⟩) 1 1]) (by simp [execOp, Act.eval, f0, f1, go_sem]) ?_
        refine (cTimes1 (ab + xs) 2 b1 W pr0 (by omega) (by omega) prP pr2P hl1 hc1).mono ?_
        rintro ex wy ⟨rfl, hb⟩
        exact ⟨_, rfl, _, rfl, rfl, hW.trans (hb.mono hsz), hb⟩
      | 3, _, hio =>
        cases hio
        exact hwp_val (v := .agg #[.int .u64 (hw 0 q), .int .u64 (hw 1 q), .int .u64 (hw 2 q), .int .u64 (hw 3 q), .int .u64 (hw 4 q), .int .u64 (hw 5 q)]) (w' := W) (by simp [execOp, Act.eval, t13, y0, y1, y2, y3, y4, y5, go_sem]) ⟨_, rfl, rfl, hW, Below.refl _ _⟩
      | 4, _, hio =>
        cases hio
        have p2 := hpre ⟨2, .data⟩ (by simp) (by rfl) _ _ rfl rfl
        have f2 : ax.tmps[75]?.getD undef = (.agg #[.int .u64 (hw 0 ((ab + xs) * 2)), .int .u64 (hw 1 ((ab + xs) * 2)), .int .u64 (hw 2 ((ab + xs) * 2)), .int .u64 (hw 3 ((ab + xs) * 2)), .int .u64 (hw 4 ((ab + xs) * 2)), .int .u64 (hw 5 ((ab + xs) * 2))]) := (Array.getD_eq_getD_getElem? ..).symm.trans p2
        have p3 := hpre ⟨3, .data⟩ (by simp) (by rfl) _ _ rfl rfl
        have f3 : ax.tmps[76]?.getD undef = (.agg #[.int .u64 (hw 0 q), .int .u64 (hw 1 q), .int .u64 (hw 2 q), .int .u64 (hw 3 q), .int .u64 (hw 4 q), .int .u64 (hw 5 q)]) := (Array.getD_eq_getD_getElem? ..).symm.trans p3
        refine hwp_enter (f := 46) (args := #[.agg #[.int .u64 (hw 0 ((ab + xs) * 2)), .int .u64 (hw 1 ((ab + xs) * 2)), .int .u64 (hw 2 ((ab + xs) * 2)), .int .u64 (hw 3 ((ab + xs) * 2)), .int .u64 (hw 4 ((ab + xs) * 2)), .int .u64 (hw 5 ((ab + xs) * 2))], .agg #[.int .u64 (hw 0 q), .int .u64 (hw 1 q), .int .u64 (hw 2 q), .int .u64 (hw 3 q), .int .u64 (hw 4 q), .int .u64 (hw 5 q)]]) (by simp [execOp, Act.eval, f2, f3, go_sem]) ?_
        refine (cPlus ((ab + xs) * 2) q pr20 q0 bdP W).mono ?_
        rintro ex wy ⟨rfl, hb⟩
        exact ⟨_, rfl, _, rfl, rfl, hW.trans (hb.mono hsz), hb⟩
      | 5, _, hio =>
        cases hio
        exact hwp_val (v := .pointer (some ⟨W.heap.size, 0, none⟩)) (w' := W.alloc (.cells #[.int .u64 0, .int .u64 0, .int .u64 0, .int .u64 0, .int .u64 0, .int .u64 0] 77)) (by simp [execOp, Act.eval, zeroHuge_, go_sem]) ⟨_, rfl, Box1.new _ _ hsz, WA _, GA _⟩
      | ix + 6, hi, _ => exact absurd hi (by omega)
    · intro ax W hsh hW hφ
      have e0 : ax.tmps.getD 73 undef = (.agg #[.int .u64 (hw 0 (ab + xs)), .int .u64 (hw 1 (ab + xs)), .int .u64 (hw 2 (ab + xs)), .int .u64 (hw 3 (ab + xs)), .int .u64 (hw 4 (ab + xs)), .int .u64 (hw 5 (ab + xs))]) := hφ 0 _ _ (by omega) rfl rfl
      obtain ⟨b1, e1, hb1, hl1, hc1⟩ := hφ 1 _ _ (by omega) rfl rfl
      have e2 : ax.tmps.getD 75 undef = (.agg #[.int .u64 (hw 0 ((ab + xs) * 2)), .int .u64 (hw 1 ((ab + xs) * 2)), .int .u64 (hw 2 ((ab + xs) * 2)), .int .u64 (hw 3 ((ab + xs) * 2)), .int .u64 (hw 4 ((ab + xs) * 2)), .int .u64 (hw 5 ((ab + xs) * 2))]) := hφ 2 _ _ (by omega) rfl rfl
      have e3 : ax.tmps.getD 76 undef = (.agg #[.int .u64 (hw 0 q), .int .u64 (hw 1 q), .int .u64 (hw 2 q), .int .u64 (hw 3 q), .int .u64 (hw 4 q), .int .u64 (hw 5 q)]) := hφ 3 _ _ (by omega) rfl rfl
      have e4 : ax.tmps.getD 77 undef = (.agg #[.int .u64 (hw 0 ((ab + xs) * 2 + q)), .int .u64 (hw 1 ((ab + xs) * 2 + q)), .int .u64 (hw 2 ((ab + xs) * 2 + q)), .int .u64 (hw 3 ((ab + xs) * 2 + q)), .int .u64 (hw 4 ((ab + xs) * 2 + q)), .int .u64 (hw 5 ((ab + xs) * 2 + q))]) := hφ 4 _ _ (by omega) rfl rfl
      obtain ⟨b5, e5, hb5, hl5⟩ := hφ 5 _ _ (by omega) rfl rfl
      rw [shape_puts hsh [(73, .agg #[.int .u64 (hw 0 (ab + xs)), .int .u64 (hw 1 (ab + xs)), .int .u64 (hw 2 (ab + xs)), .int .u64 (hw 3 (ab + xs)), .int .u64 (hw 4 (ab + xs)), .int .u64 (hw 5 (ab + xs))]), (74, .slice (some ⟨b1, 0, none⟩) 1 1), (75, .agg #[.int .u64 (hw 0 ((ab + xs) * 2)), .int .u64 (hw 1 ((ab + xs) * 2)), .int .u64 (hw 2 ((ab + xs) * 2)), .int .u64 (hw 3 ((ab + xs) * 2)), .int .u64 (hw 4 ((ab + xs) * 2)), .int .u64 (hw 5 ((ab + xs) * 2))]), (76, .agg #[.int .u64 (hw 0 q), .int .u64 (hw 1 q), .int .u64 (hw 2 q), .int .u64 (hw 3 q), .int .u64 (hw 4 q), .int .u64 (hw 5 q)]), (77, .agg #[.int .u64 (hw 0 ((ab + xs) * 2 + q)), .int .u64 (hw 1 ((ab + xs) * 2 + q)), .int .u64 (hw 2 ((ab + xs) * 2 + q)), .int .u64 (hw 3 ((ab + xs) * 2 + q)), .int .u64 (hw 4 ((ab + xs) * 2 + q)), .int .u64 (hw 5 ((ab + xs) * 2 + q))]), (18, .pointer (some ⟨b5, 0, none⟩))] [73, 74, 75, 76, 77, 18] rfl (by kernel_rfl) ⟨e0, e1, e2, e3, e4, e5, trivial⟩]
      clear hφ hsh e0 e1 e2 e3 e4 e5
      clear hc1
      simp only [putsN, List.foldl_cons, List.foldl_nil, List.drop_succ_cons, List.drop_zero, Act.put, List.setIfInBounds_toArray, List.set_cons_succ, List.set_cons_zero]
      have HBX := Lib.hid (HBE.out.trans (hW.mono HBE.out.size))
      have td := V13.out.below hW
      have l13 := V13.out.lt
      have hzy := HBE.out.size
      clear hW
      refine wpList_storeH W rfl _ _ rfl b5 rfl rfl hl5 ?_
      intro wz t18 g18
      simp only [Act.put]
      have Z13 := Lib.hid (td.gro g18 (by omega))
      have Z18 := Lib.hid t18
      have HB6 := Lib.hid (below_gro HBX.out g18 HBX.out.size (by omega))
      clear td t18 g18 hl5 l13 HBX V13 V17 HBE
      have G := Lib.hid (greatest2_any 117 (.pointer (some ⟨b5, 0, none⟩)) (.pointer (some ⟨c13, 0, none⟩)) 65535 (fun k => !decide ((ab + xs) * 2 + q < q * (2 * k))) wz (by omega) (by omega)
        (fun x y hx hxy hy hH => by
          have hH2 := of_decide_eq_false (by simpa using hH : decide ((ab + xs) * 2 + q < q * (2 * y)) = false)
          have hle : q * (2 * x) ≤ q * (2 * y) := Int.mul_le_mul_of_nonneg_left (by omega) q0
          have hn : ¬ ((ab + xs) * 2 + q < q * (2 * x)) := by omega
          simp [hn])
        (fun _ _ => by first | rfl | simp [go_sem])
        (fun k W2 hk0 hk1 hb => moved2_any b5 c13 ((ab + xs) * 2 + q) q k W2 (Z18.out.below hb) (Z13.out.below hb) bd0 bdP q0 q72 hk0 hk1))
      clear pr0 prP pr20 pr2P bdP bd0 q72 Z13 Z18 q0
      go_wp2_with fail
      refine G.out.mono ?_
      rintro e w8 ⟨r, rfl, ⟨r0, r1⟩, hH1, hH2, hb8⟩
      have HB8 := Lib.hid (HB6.out.trans (hb8.mono HB6.out.size))
      have HR := Lib.hid (show (0 < r → ¬ (ab + xs) * 2 + q < q * (2 * r)) ∧ (r < 65535 → (ab + xs) * 2 + q < q * (2 * (r + 1))) from ⟨fun h => by simpa using hH1 h, fun h => by simpa using hH2 h⟩)
      clear hb8 hH1 hH2 G HB6
      go_wp2_with fail
      go_ret
      exact ⟨r, rfl, ⟨r0, r1⟩, HR.out.1, HR.out.2, HB8.out⟩
end Go.Proofs.Ytopmdeefcjdadaa
