/- The wave soft. (printed by wip/gen/gen_waves2.py) -/
import Derived.Test.YtopmdeefcjdadaaT43M17

namespace Go.Proofs.Ytopmdeefcjdadaa
open Go.RowKit
set_option linter.unusedVariables false
set_option linter.unusedSimpArgs false

set_option maxRecDepth 100000 in
set_option maxHeartbeats 8000000 in
theorem soft_any (n d k i : Int) (w : World) (hn0 : 0 ≤ n) (hnd : n ≤ d) (hd1 : d ≤ 1000000000000000000) :
    Calls Try.prog 152 #[.agg #[], .agg #[.int .i64 n, .int .i64 d, .int .i64 k, .int .i64 i]] w fun e w' => e = .returned (.tuple #[.agg #[.int .u64 (hw 0 (peakV n d * (peakV n d * (3 * d - 2 * peakV n d)))), .int .u64 (hw 1 (peakV n d * (peakV n d * (3 * d - 2 * peakV n d)))), .int .u64 (hw 2 (peakV n d * (peakV n d * (3 * d - 2 * peakV n d)))), .int .u64 (hw 3 (peakV n d * (peakV n d * (3 * d - 2 * peakV n d)))), .int .u64 (hw 4 (peakV n d * (peakV n d * (3 * d - 2 * peakV n d)))), .int .u64 (hw 5 (peakV n d * (peakV n d * (3 * d - 2 * peakV n d))))], .agg #[.int .u64 (hw 0 (d * (d * d))), .int .u64 (hw 1 (d * (d * d))), .int .u64 (hw 2 (d * (d * d))), .int .u64 (hw 3 (d * (d * d))), .int .u64 (hw 4 (d * (d * d))), .int .u64 (hw 5 (d * (d * d)))]]) ∧ Below w.heap.size w w' := by
  have hd0 : 0 ≤ d := by omega
  have hd2 : d ≤ 9223372036854775807 := by omega
  obtain ⟨hu0, hu2⟩ := peakV_range hn0 hnd
  have hu1 : peakV n d ≤ 9223372036854775807 := by omega
  have hz0 : 0 ≤ 3 * d - 2 * peakV n d := by omega
  have hz1 : 3 * d - 2 * peakV n d ≤ 9223372036854775807 := by omega
  have hbig := powW6_big
  have hm : ∀ a b A B : Int, 0 ≤ a → 0 ≤ b → a ≤ A → b ≤ B → 0 ≤ a * b ∧ a * b ≤ A * B := fun a b A B h1 h2 h3 h4 => ⟨Int.mul_nonneg h1 h2, Int.le_trans (Int.mul_le_mul_of_nonneg_right h3 h2) (Int.mul_le_mul_of_nonneg_left h4 (by omega))⟩
  have hs1 : peakV n d < powW 6 := by omega
  have hs4 : d < powW 6 := by omega
  have hs2 : peakV n d * peakV n d < powW 6 := by have := hm _ _ 1000000000000000000 1000000000000000000 hu0 hu0 (by omega) (by omega); omega
  have hs5 : d * d < powW 6 := by have := hm d d 1000000000000000000 1000000000000000000 hd0 hd0 (by omega) (by omega); omega
  have hs3 : peakV n d * (peakV n d * (3 * d - 2 * peakV n d)) < powW 6 := by
    have h1 := hm _ _ 1000000000000000000 3000000000000000000 hu0 hz0 (by omega) (by omega)
    have h2 := hm _ _ 1000000000000000000 (1000000000000000000 * 3000000000000000000) hu0 h1.1 (by omega) h1.2
    omega
  have hs6 : d * (d * d) < powW 6 := by
    have h1 := hm d d 1000000000000000000 1000000000000000000 hd0 hd0 (by omega) (by omega)
    have h2 := hm d (d * d) 1000000000000000000 (1000000000000000000 * 1000000000000000000) hd0 h1.1 (by omega) h1.2
    omega
  have aw1 : IntKind.i64.wrap (3 * d) = 3 * d := IntWalk.i64_in _ (by omega)
  have aw2 : IntKind.i64.wrap (2 * peakV n d) = 2 * peakV n d := IntWalk.i64_in _ (by omega)
  have aw3 : IntKind.i64.wrap (3 * d - 2 * peakV n d) = 3 * d - 2 * peakV n d := IntWalk.i64_in _ (by omega)
  clear hm hbig
  have HT0 := Lib.hid (show TBox ((((w.alloc (.cells #[] 158)).alloc (.cells #[.int .i64 n, .int .i64 d, .int .i64 k, .int .i64 i] 119)).alloc (.cells #[.int .u64 0, .int .u64 0, .int .u64 0, .int .u64 0, .int .u64 0, .int .u64 0] 77)).alloc (.cells #[.int .u64 0, .int .u64 0, .int .u64 0, .int .u64 0, .int .u64 0, .int .u64 0] 77)) w.heap.size 158 #[] from (((TBox.new w #[] 158).alloc _).alloc _).alloc _)
  have HT1 := Lib.hid (show TBox ((((w.alloc (.cells #[] 158)).alloc (.cells #[.int .i64 n, .int .i64 d, .int .i64 k, .int .i64 i] 119)).alloc (.cells #[.int .u64 0, .int .u64 0, .int .u64 0, .int .u64 0, .int .u64 0, .int .u64 0] 77)).alloc (.cells #[.int .u64 0, .int .u64 0, .int .u64 0, .int .u64 0, .int .u64 0, .int .u64 0] 77)) (w.heap.size + 1) 119 #[.int .i64 n, .int .i64 d, .int .i64 k, .int .i64 i] from by
    have h := ((TBox.new (w.alloc (.cells #[] 158)) #[.int .i64 n, .int .i64 d, .int .i64 k, .int .i64 i] 119).alloc (.cells #[.int .u64 0, .int .u64 0, .int .u64 0, .int .u64 0, .int .u64 0, .int .u64 0] 77)).alloc (.cells #[.int .u64 0, .int .u64 0, .int .u64 0, .int .u64 0, .int .u64 0, .int .u64 0] 77)
    simpa only [World.size_alloc] using h)
  have HT2 := Lib.hid (show TBox ((((w.alloc (.cells #[] 158)).alloc (.cells #[.int .i64 n, .int .i64 d, .int .i64 k, .int .i64 i] 119)).alloc (.cells #[.int .u64 0, .int .u64 0, .int .u64 0, .int .u64 0, .int .u64 0, .int .u64 0] 77)).alloc (.cells #[.int .u64 0, .int .u64 0, .int .u64 0, .int .u64 0, .int .u64 0, .int .u64 0] 77)) (w.heap.size + 2) 77 #[.int .u64 0, .int .u64 0, .int .u64 0, .int .u64 0, .int .u64 0, .int .u64 0] from by
    have h := (TBox.new ((w.alloc (.cells #[] 158)).alloc (.cells #[.int .i64 n, .int .i64 d, .int .i64 k, .int .i64 i] 119)) #[.int .u64 0, .int .u64 0, .int .u64 0, .int .u64 0, .int .u64 0, .int .u64 0] 77).alloc (.cells #[.int .u64 0, .int .u64 0, .int .u64 0, .int .u64 0, .int .u64 0, .int .u64 0] 77)
    simpa only [World.size_alloc] using h)
  have HT3 := Lib.hid (show TBox ((((w.alloc (.cells #[] 158)).alloc (.cells #[.int .i64 n, .int .i64 d, .int .i64 k, .int .i64 i] 119)).alloc (.cells #[.int .u64 0, .int .u64 0, .int .u64 0, .int .u64 0, .int .u64 0, .int .u64 0] 77)).alloc (.cells #[.int .u64 0, .int .u64 0, .int .u64 0, .int .u64 0, .int .u64 0, .int .u64 0] 77)) (w.heap.size + 3) 77 #[.int .u64 0, .int .u64 0, .int .u64 0, .int .u64 0, .int .u64 0, .int .u64 0] from by
    have h := TBox.new (((w.alloc (.cells #[] 158)).alloc (.cells #[.int .i64 n, .int .i64 d, .int .i64 k, .int .i64 i] 119)).alloc (.cells #[.int .u64 0, .int .u64 0, .int .u64 0, .int .u64 0, .int .u64 0, .int .u64 0] 77)) #[.int .u64 0, .int .u64 0, .int .u64 0, .int .u64 0, .int .u64 0, .int .u64 0] 77
    simpa only [World.size_alloc] using h)
  have HB := Lib.hid (show Below w.heap.size w ((((w.alloc (.cells #[] 158)).alloc (.cells #[.int .i64 n, .int .i64 d, .int .i64 k, .int .i64 i] 119)).alloc (.cells #[.int .u64 0, .int .u64 0, .int .u64 0, .int .u64 0, .int .u64 0, .int .u64 0] 77)).alloc (.cells #[.int .u64 0, .int .u64 0, .int .u64 0, .int .u64 0, .int .u64 0, .int .u64 0] 77)) from ((((Below.refl _ _).alloc (Nat.le_refl _) _).alloc (by simp) _).alloc (by simp; omega) _).alloc (by simp; omega) _)
  go_enter Try.func152, Try.ntmps152
  go_upto_region 1 with fail
  generalize hw1 : ((((w.alloc (.cells #[] 158)).alloc (.cells #[.int .i64 n, .int .i64 d, .int .i64 k, .int .i64 i] 119)).alloc (.cells #[.int .u64 0, .int .u64 0, .int .u64 0, .int .u64 0, .int .u64 0, .int .u64 0] 77)).alloc (.cells #[.int .u64 0, .int .u64 0, .int .u64 0, .int .u64 0, .int .u64 0, .int .u64 0] 77)) = w1 at *
  clear hw1
  have q0 := HT1.out.cell (i := 0) rfl
  have q1 := HT1.out.cell (i := 1) rfl
  have q2 := HT1.out.cell (i := 2) rfl
  have q3 := HT1.out.cell (i := 3) rfl
  have ql := HT1.out.lt
  go_wp2_with fail
  refine (peak_any n d k i _ hn0 hnd hd1).mono ?_
  rintro e wA ⟨rfl, hba⟩
  have HT1' := Lib.hid (HT1.out.below hba)
  have HT2' := Lib.hid (HT2.out.below hba)
  have HT3' := Lib.hid (HT3.out.below hba)
  have HB' := Lib.hid (HB.out.trans (hba.mono (by have := HT3.out.lt; omega)))
  clear hba HT0 HT1 HT2 HT3 HB q0 q1 q2 q3 ql
  have HT1 := HT1'
  have HT2 := HT2'
  have HT3 := HT3'
  have HB := HB'
  clear HT1' HT2' HT3' HB'
  generalize hpk : peakV n d = u at *
  have HPK := Lib.hid hpk
  clear hpk
  go_upto_region 2 with fail
  refine region_heads (by kernel_rfl) 20 (by simp) (by kernel_rfl) (by kernel_rfl) (by kernel_rfl) (by kernel_rfl) (fun jx vx wx => match jx with | 0 => vx = (.int .i64 u) | 1 => vx = (.agg #[.int .u64 (hw 0 u), .int .u64 (hw 1 u), .int .u64 (hw 2 u), .int .u64 (hw 3 u), .int .u64 (hw 4 u), .int .u64 (hw 5 u)]) | 2 => vx = (.int .i64 u) | 3 => vx = (.pointer (some ⟨w.heap.size + 1, 1, none⟩)) | 4 => vx = (.int .i64 d) | 5 => vx = (.int .i64 (3 * d)) | 6 => vx = (.int .i64 u) | 7 => vx = (.int .i64 (2 * u)) | 8 => vx = (.int .i64 (3 * d - 2 * u)) | 9 => Lit2 wA.heap.size vx (.int .i64 u) (.int .i64 (3 * d - 2 * u)) wx | 10 => vx = (.agg #[.int .u64 (hw 0 (u * (u * (3 * d - 2 * u)))), .int .u64 (hw 1 (u * (u * (3 * d - 2 * u)))), .int .u64 (hw 2 (u * (u * (3 * d - 2 * u)))), .int .u64 (hw 3 (u * (u * (3 * d - 2 * u)))), .int .u64 (hw 4 (u * (u * (3 * d - 2 * u)))), .int .u64 (hw 5 (u * (u * (3 * d - 2 * u))))]) | 11 => vx = (.pointer (some ⟨w.heap.size + 1, 1, none⟩)) | 12 => vx = (.int .i64 d) | 13 => vx = (.agg #[.int .u64 (hw 0 d), .int .u64 (hw 1 d), .int .u64 (hw 2 d), .int .u64 (hw 3 d), .int .u64 (hw 4 d), .int .u64 (hw 5 d)]) | 14 => vx = (.pointer (some ⟨w.heap.size + 1, 1, none⟩)) | 15 => vx = (.int .i64 d) | 16 => vx = (.pointer (some ⟨w.heap.size + 1, 1, none⟩)) | 17 => vx = (.int .i64 d) | 18 => Lit2 wA.heap.size vx (.int .i64 d) (.int .i64 d) wx | 19 => vx = (.agg #[.int .u64 (hw 0 (d * (d * d))), .int .u64 (hw 1 (d * (d * d))), .int .u64 (hw 2 (d * (d * d))), .int .u64 (hw 3 (d * (d * d))), .int .u64 (hw 4 (d * (d * d))), .int .u64 (hw 5 (d * (d * d)))]) | _ => True) (fun W => Below wA.heap.size wA W) (fun wx wy => Below wx.heap.size wx wy) (Below.refl _ _).drew ?_ ?_ ?_ ?_
  · intro jx vx wx wy h g
    match jx, h with
    | 0, h => exact h
    | 1, h => exact h
    | 2, h => exact h
    | 3, h => exact h
    | 4, h => exact h
    | 5, h => exact h
    | 6, h => exact h
    | 7, h => exact h
    | 8, h => exact h
    | 9, h => exact Lit2.up h g
    | 10, h => exact h
    | 11, h => exact h
    | 12, h => exact h
    | 13, h => exact h
    | 14, h => exact h
    | 15, h => exact h
    | 16, h => exact h
    | 17, h => exact h
    | 18, h => exact Lit2.up h g
    | 19, h => exact h
    | jx + 20, h => exact trivial
  · intro jx ox dx hj ho hd
    exact insN_of (by kernel_rfl) hj ho hd
  · intro ix ox ax W hi hio hsh hW hpre
    have hsz : wA.heap.size ≤ W.heap.size := hW.size
    have GA : ∀ ob, Below W.heap.size W (W.alloc ob) := fun ob => (Below.refl _ _).alloc (Nat.le_refl _) ob
    have WA : ∀ ob, Below wA.heap.size wA (W.alloc ob) := fun ob => hW.alloc hsz ob
    have t3 : ax.tmps[3]?.getD undef = (.pointer (some ⟨w.heap.size + 1, 0, none⟩)) := (Array.getD_eq_getD_getElem? ..).symm.trans ((hsh.2.2 3 (notN_of (by kernel_rfl))).trans rfl)
    have t6 : ax.tmps[6]?.getD undef = (.int .i64 u) := (Array.getD_eq_getD_getElem? ..).symm.trans ((hsh.2.2 6 (notN_of (by kernel_rfl))).trans rfl)
    obtain ⟨q0, q1, q2, q3⟩ : W.cell? ⟨w.heap.size + 1, 0, none⟩ = some (.int .i64 n) ∧ W.cell? ⟨w.heap.size + 1, 1, none⟩ = some (.int .i64 d) ∧ W.cell? ⟨w.heap.size + 1, 2, none⟩ = some (.int .i64 k) ∧ W.cell? ⟨w.heap.size + 1, 3, none⟩ = some (.int .i64 i) := ⟨(HT1.out.below hW).cell (i := 0) rfl, (HT1.out.below hW).cell (i := 1) rfl, (HT1.out.below hW).cell (i := 2) rfl, (HT1.out.below hW).cell (i := 3) rfl⟩
    clear hsh
    match ix, hi, hio with
    | 0, _, hio =>
      cases hio
      exact hwp_val (v := .int .i64 u) (w' := W) (by simp [execOp, Act.eval, t6, go_sem]) ⟨_, rfl, rfl, hW, Below.refl _ _⟩
    | 1, _, hio =>
      cases hio
      have p0 := hpre ⟨0, .data⟩ (by simp) (by rfl) _ _ rfl rfl
      have f0 : ax.tmps[9]?.getD undef = (.int .i64 u) := (Array.getD_eq_getD_getElem? ..).symm.trans p0
      refine hwp_enter (f := 113) (args := #[.int .i64 u]) (by simp [execOp, Act.eval, f0, go_sem]) ?_
      refine (cOf u hu0 hu1 W).mono ?_
      rintro ex wy ⟨rfl, hb⟩
      exact ⟨_, rfl, _, rfl, rfl, hW.trans (hb.mono hsz), hb⟩
    | 2, _, hio =>
      cases hio
      exact hwp_val (v := .int .i64 u) (w' := W) (by simp [execOp, Act.eval, t6, go_sem]) ⟨_, rfl, rfl, hW, Below.refl _ _⟩
    | 3, _, hio =>
      cases hio
      exact hwp_val (v := .pointer (some ⟨w.heap.size + 1, 1, none⟩)) (w' := W) (by simp [execOp, Act.eval, t3, go_sem]) ⟨_, rfl, rfl, hW, Below.refl _ _⟩
    | 4, _, hio =>
      cases hio
      have p3 := hpre ⟨3, .data⟩ (by simp) (by rfl) _ _ rfl rfl
      have f3 : ax.tmps[12]?.getD undef = (.pointer (some ⟨w.heap.size + 1, 1, none⟩)) := (Array.getD_eq_getD_getElem? ..).symm.trans p3
      exact hwp_val (v := .int .i64 d) (w' := W) (by simp [execOp, Act.eval, q1, f3, go_sem]) ⟨_, rfl, rfl, hW, Below.refl _ _⟩
    | 5, _, hio =>
      cases hio
      have p4 := hpre ⟨4, .data⟩ (by simp) (by rfl) _ _ rfl rfl
      have f4 : ax.tmps[13]?.getD undef = (.int .i64 d) := (Array.getD_eq_getD_getElem? ..).symm.trans p4
      exact hwp_val (v := .int .i64 (3 * d)) (w' := W) (by simp [execOp, Act.eval, aw1, f4, go_sem]) ⟨_, rfl, rfl, hW, Below.refl _ _⟩
    | 6, _, hio =>
      cases hio
      exact hwp_val (v := .int .i64 u) (w' := W) (by simp [execOp, Act.eval, t6, go_sem]) ⟨_, rfl, rfl, hW, Below.refl _ _⟩
    | 7, _, hio =>
      cases hio
      have p6 := hpre ⟨6, .data⟩ (by simp) (by rfl) _ _ rfl rfl
      have f6 : ax.tmps[15]?.getD undef = (.int .i64 u) := (Array.getD_eq_getD_getElem? ..).symm.trans p6
      exact hwp_val (v := .int .i64 (2 * u)) (w' := W) (by simp [execOp, Act.eval, aw2, f6, go_sem]) ⟨_, rfl, rfl, hW, Below.refl _ _⟩
    | 8, _, hio =>
      cases hio
      have p5 := hpre ⟨5, .data⟩ (by simp) (by rfl) _ _ rfl rfl
      have f5 : ax.tmps[14]?.getD undef = (.int .i64 (3 * d)) := (Array.getD_eq_getD_getElem? ..).symm.trans p5
      have p7 := hpre ⟨7, .data⟩ (by simp) (by rfl) _ _ rfl rfl
      have f7 : ax.tmps[16]?.getD undef = (.int .i64 (2 * u)) := (Array.getD_eq_getD_getElem? ..).symm.trans p7
      exact hwp_val (v := .int .i64 (3 * d - 2 * u)) (w' := W) (by simp [execOp, Act.eval, aw3, f5, f7, go_sem]) ⟨_, rfl, rfl, hW, Below.refl _ _⟩
    | 9, _, hio =>
      cases hio
      have p2 := hpre ⟨2, .data⟩ (by simp) (by rfl) _ _ rfl rfl
      have f2 : ax.tmps[11]?.getD undef = (.int .i64 u) := (Array.getD_eq_getD_getElem? ..).symm.trans p2
      have p8 := hpre ⟨8, .data⟩ (by simp) (by rfl) _ _ rfl rfl
      have f8 : ax.tmps[17]?.getD undef = (.int .i64 (3 * d - 2 * u)) := (Array.getD_eq_getD_getElem? ..).symm.trans p8
      exact hwp_val (v := .slice (some ⟨W.heap.size, 0, none⟩) 2 2) (w' := W.alloc (.cells #[.int .i64 u, .int .i64 (3 * d - 2 * u)] 3)) (by simp [execOp, Act.eval, f2, f8, go_sem]) ⟨_, rfl, Lit2.new _ _ _ hsz, WA _, GA _⟩
    | 10, _, hio =>
      cases hio
      have p1 := hpre ⟨1, .data⟩ (by simp) (by rfl) _ _ rfl rfl
      have f1 : ax.tmps[10]?.getD undef = (.agg #[.int .u64 (hw 0 u), .int .u64 (hw 1 u), .int .u64 (hw 2 u), .int .u64 (hw 3 u), .int .u64 (hw 4 u), .int .u64 (hw 5 u)]) := (Array.getD_eq_getD_getElem? ..).symm.trans p1
      have p9 := hpre ⟨9, .data⟩ (by simp) (by rfl) _ _ rfl rfl
      obtain ⟨b9, e9, hb9, hl9, hc9, hd9⟩ := p9
      have f9 := (Array.getD_eq_getD_getElem? ..).symm.trans e9
      refine hwp_enter (f := 45) (args := #[.agg #[.int .u64 (hw 0 u), .int .u64 (hw 1 u), .int .u64 (hw 2 u), .int .u64 (hw 3 u), .int .u64 (hw 4 u), .int .u64 (hw 5 u)], .slice (some ⟨b9, 0, none⟩) 2 2]) (by simp [execOp, Act.eval, f1, f9, go_sem]) ?_
      refine (cTimes2 u u (3 * d - 2 * u) b9 W hu0 hu0 hu1 hz0 hz1 hs1 hs2 hs3 hl9 hc9 hd9).mono ?_
      rintro ex wy ⟨rfl, hb⟩
      exact ⟨_, rfl, _, rfl, rfl, hW.trans (hb.mono hsz), hb⟩
    | 11, _, hio =>
      cases hio
      exact hwp_val (v := .pointer (some ⟨w.heap.size + 1, 1, none⟩)) (w' := W) (by simp [execOp, Act.eval, t3, go_sem]) ⟨_, rfl, rfl, hW, Below.refl _ _⟩
    | 12, _, hio =>
      cases hio
      have p11 := hpre ⟨11, .data⟩ (by simp) (by rfl) _ _ rfl rfl
      have f11 : ax.tmps[20]?.getD undef = (.pointer (some ⟨w.heap.size + 1, 1, none⟩)) := (Array.getD_eq_getD_getElem? ..).symm.trans p11
      exact hwp_val (v := .int .i64 d) (w' := W) (by simp [execOp, Act.eval, q1, f11, go_sem]) ⟨_, rfl, rfl, hW, Below.refl _ _⟩
    | 13, _, hio =>
      cases hio
      have p12 := hpre ⟨12, .data⟩ (by simp) (by rfl) _ _ rfl rfl
      have f12 : ax.tmps[21]?.getD undef = (.int .i64 d) := (Array.getD_eq_getD_getElem? ..).symm.trans p12
      refine hwp_enter (f := 113) (args := #[.int .i64 d]) (by simp [execOp, Act.eval, f12, go_sem]) ?_
      refine (cOf d hd0 hd2 W).mono ?_
      rintro ex wy ⟨rfl, hb⟩
      exact ⟨_, rfl, _, rfl, rfl, hW.trans (hb.mono hsz), hb⟩
    | 14, _, hio =>
      cases hio
      exact hwp_val (v := .pointer (some ⟨w.heap.size + 1, 1, none⟩)) (w' := W) (by simp [execOp, Act.eval, t3, go_sem]) ⟨_, rfl, rfl, hW, Below.refl _ _⟩
    | 15, _, hio =>
      cases hio
      have p14 := hpre ⟨14, .data⟩ (by simp) (by rfl) _ _ rfl rfl
      have f14 : ax.tmps[23]?.getD undef = (.pointer (some ⟨w.heap.size + 1, 1, none⟩)) := (Array.getD_eq_getD_getElem? ..).symm.trans p14
      exact hwp_val (v := .int .i64 d) (w' := W) (by simp [execOp, Act.eval, q1, f14, go_sem]) ⟨_, rfl, rfl, hW, Below.refl _ _⟩
    | 16, _, hio =>
      cases hio
      exact hwp_val (v := .pointer (some ⟨w.heap.size + 1, 1, none⟩)) (w' := W) (by simp [execOp, Act.eval, t3, go_sem]) ⟨_, rfl, rfl, hW, Below.refl _ _⟩
    | 17, _, hio =>
      cases hio
      have p16 := hpre ⟨16, .data⟩ (by simp) (by rfl) _ _ rfl rfl
      have f16 : ax.tmps[25]?.getD undef = (.pointer (some ⟨w.heap.size + 1, 1, none⟩)) := (Array.getD_eq_getD_getElem? ..).symm.trans p16
      exact hwp_val (v := .int .i64 d) (w' := W) (by simp [execOp, Act.eval, q1, f16, go_sem]) ⟨_, rfl, rfl, hW, Below.refl _ _⟩
    | 18, _, hio =>
      cases hio
      have p15 := hpre ⟨15, .data⟩ (by simp) (by rfl) _ _ rfl rfl
      have f15 : ax.tmps[24]?.getD undef = (.int .i64 d) := (Array.getD_eq_getD_getElem? ..).symm.trans p15
      have p17 := hpre ⟨17, .data⟩ (by simp) (by rfl) _ _ rfl rfl
      have f17 : ax.tmps[26]?.getD undef = (.int .i64 d) := (Array.getD_eq_getD_getElem? ..).symm.trans p17
      exact hwp_val (v := .slice (some ⟨W.heap.size, 0, none⟩) 2 2) (w' := W.alloc (.cells #[.int .i64 d, .int .i64 d] 3)) (by simp [execOp, Act.eval, f15, f17, go_sem]) ⟨_, rfl, Lit2.new _ _ _ hsz, WA _, GA _⟩
    | 19, _, hio =>
      cases hio
      have p13 := hpre ⟨13, .data⟩ (by simp) (by rfl) _ _ rfl rfl
      have f13 : ax.tmps[22]?.getD undef = (.agg #[.int .u64 (hw 0 d), .int .u64 (hw 1 d), .int .u64 (hw 2 d), .int .u64 (hw 3 d), .int .u64 (hw 4 d), .int .u64 (hw 5 d)]) := (Array.getD_eq_getD_getElem? ..).symm.trans p13
      have p18 := hpre ⟨18, .data⟩ (by simp) (by rfl) _ _ rfl rfl
      obtain ⟨b18, e18, hb18, hl18, hc18, hd18⟩ := p18
      have f18 := (Array.getD_eq_getD_getElem? ..).symm.trans e18
      refine hwp_enter (f := 45) (args := #[.agg #[.int .u64 (hw 0 d), .int .u64 (hw 1 d), .int .u64 (hw 2 d), .int .u64 (hw 3 d), .int .u64 (hw 4 d), .int .u64 (hw 5 d)], .slice (some ⟨b18, 0, none⟩) 2 2]) (by simp [execOp, Act.eval, f13, f18, go_sem]) ?_
      refine (cTimes2 d d d b18 W hd0 hd0 hd2 hd0 hd2 hs4 hs5 hs6 hl18 hc18 hd18).mono ?_
      rintro ex wy ⟨rfl, hb⟩
      exact ⟨_, rfl, _, rfl, rfl, hW.trans (hb.mono hsz), hb⟩
    | ix + 20, hi, _ => exact absurd hi (by omega)
  · intro ax W hsh hW hφ
    have e0 : ax.tmps.getD 9 undef = (.int .i64 u) := hφ 0 _ _ (by omega) rfl rfl
    have e1 : ax.tmps.getD 10 undef = (.agg #[.int .u64 (hw 0 u), .int .u64 (hw 1 u), .int .u64 (hw 2 u), .int .u64 (hw 3 u), .int .u64 (hw 4 u), .int .u64 (hw 5 u)]) := hφ 1 _ _ (by omega) rfl rfl
    have e2 : ax.tmps.getD 11 undef = (.int .i64 u) := hφ 2 _ _ (by omega) rfl rfl
    have e3 : ax.tmps.getD 12 undef = (.pointer (some ⟨w.heap.size + 1, 1, none⟩)) := hφ 3 _ _ (by omega) rfl rfl
    have e4 : ax.tmps.getD 13 undef = (.int .i64 d) := hφ 4 _ _ (by omega) rfl rfl
    have e5 : ax.tmps.getD 14 undef = (.int .i64 (3 * d)) := hφ 5 _ _ (by omega) rfl rfl
    have e6 : ax.tmps.getD 15 undef = (.int .i64 u) := hφ 6 _ _ (by omega) rfl rfl
    have e7 : ax.tmps.getD 16 undef = (.int .i64 (2 * u)) := hφ 7 _ _ (by omega) rfl rfl
    have e8 : ax.tmps.getD 17 undef = (.int .i64 (3 * d - 2 * u)) := hφ 8 _ _ (by omega) rfl rfl
    obtain ⟨b9, e9, hb9, hl9, hc9, hd9⟩ := hφ 9 _ _ (by omega) rfl rfl
    have e10 : ax.tmps.getD 19 undef = (.agg #[.int .u64 (hw 0 (u * (u * (3 * d - 2 * u)))), .int .u64 (hw 1 (u * (u * (3 * d - 2 * u)))), .int .u64 (hw 2 (u * (u * (3 * d - 2 * u)))), .int .u64 (hw 3 (u * (u * (3 * d - 2 * u)))), .int .u64 (hw 4 (u * (u * (3 * d - 2 * u)))), .int .u64 (hw 5 (u * (u * (3 * d - 2 * u))))]) := hφ 10 _ _ (by omega) rfl rfl
    have e11 : ax.tmps.getD 20 undef = (.pointer (some ⟨w.heap.size + 1, 1, none⟩)) := hφ 11 _ _ (by omega) rfl rfl
    have e12 : ax.tmps.getD 21 undef = (.int .i64 d) := hφ 12 _ _ (by omega) rfl rfl
    have e13 : ax.tmps.getD 22 undef = (.agg #[.int .u64 (hw 0 d), .int .u64 (hw 1 d), .int .u64 (hw 2 d), .int .u64 (hw 3 d), .int .u64 (hw 4 d), .int .u64 (hw 5 d)]) := hφ 13 _ _ (by omega) rfl rfl
    have e14 : ax.tmps.getD 23 undef = (.pointer (some ⟨w.heap.size + 1, 1, none⟩)) := hφ 14 _ _ (by omega) rfl rfl
    have e15 : ax.tmps.getD 24 undef = (.int .i64 d) := hφ 15 _ _ (by omega) rfl rfl
    have e16 : ax.tmps.getD 25 undef = (.pointer (some ⟨w.heap.size + 1, 1, none⟩)) := hφ 16 _ _ (by omega) rfl rfl
    have e17 : ax.tmps.getD 26 undef = (.int .i64 d) := hφ 17 _ _ (by omega) rfl rfl
    obtain ⟨b18, e18, hb18, hl18, hc18, hd18⟩ := hφ 18 _ _ (by omega) rfl rfl
    have e19 : ax.tmps.getD 28 undef = (.agg #[.int .u64 (hw 0 (d * (d * d))), .int .u64 (hw 1 (d * (d * d))), .int .u64 (hw 2 (d * (d * d))), .int .u64 (hw 3 (d * (d * d))), .int .u64 (hw 4 (d * (d * d))), .int .u64 (hw 5 (d * (d * d)))]) := hφ 19 _ _ (by omega) rfl rfl
    rw [shape_puts hsh [(9, .int .i64 u), (10, .agg #[.int .u64 (hw 0 u), .int .u64 (hw 1 u), .int .u64 (hw 2 u), .int .u64 (hw 3 u), .int .u64 (hw 4 u), .int .u64 (hw 5 u)]), (11, .int .i64 u), (12, .pointer (some ⟨w.heap.size + 1, 1, none⟩)), (13, .int .i64 d), (14, .int .i64 (3 * d)), (15, .int .i64 u), (16, .int .i64 (2 * u)), (17, .int .i64 (3 * d - 2 * u)), (18, .slice (some ⟨b9, 0, none⟩) 2 2), (19, .agg #[.int .u64 (hw 0 (u * (u * (3 * d - 2 * u)))), .int .u64 (hw 1 (u * (u * (3 * d - 2 * u)))), .int .u64 (hw 2 (u * (u * (3 * d - 2 * u)))), .int .u64 (hw 3 (u * (u * (3 * d - 2 * u)))), .int .u64 (hw 4 (u * (u * (3 * d - 2 * u)))), .int .u64 (hw 5 (u * (u * (3 * d - 2 * u))))]), (20, .pointer (some ⟨w.heap.size + 1, 1, none⟩)), (21, .int .i64 d), (22, .agg #[.int .u64 (hw 0 d), .int .u64 (hw 1 d), .int .u64 (hw 2 d), .int .u64 (hw 3 d), .int .u64 (hw 4 d), .int .u64 (hw 5 d)]), (23, .pointer (some ⟨w.heap.size + 1, 1, none⟩)), (24, .int .i64 d), (25, .pointer (some ⟨w.heap.size + 1, 1, none⟩)), (26, .int .i64 d), (27, .slice (some ⟨b18, 0, none⟩) 2 2), (28, .agg #[.int .u64 (hw 0 (d * (d * d))), .int .u64 (hw 1 (d * (d * d))), .int .u64 (hw 2 (d * (d * d))), .int .u64 (hw 3 (d * (d * d))), .int .u64 (hw 4 (d * (d * d))), .int .u64 (hw 5 (d * (d * d)))])] [9, 10, 11, 12, 13, 14, 15, 16, 17, 18, 19, 20, 21, 22, 23, 24, 25, 26, 27, 28] rfl (by kernel_rfl) ⟨e0, e1, e2, e3, e4, e5, e6, e7, e8, e9, e10, e11, e12, e13, e14, e15, e16, e17, e18, e19, trivial⟩]
    clear hφ hsh e0 e1 e2 e3 e4 e5 e6 e7 e8 e9 e10 e11 e12 e13 e14 e15 e16 e17 e18 e19
    clear hc9 hd9
    clear hc18 hd18
    simp only [putsN, List.foldl_cons, List.foldl_nil, List.drop_succ_cons, List.drop_zero, Act.put, List.setIfInBounds_toArray, List.set_cons_succ, List.set_cons_zero]
    have HBW := Lib.hid (HB.out.trans (hW.mono (by have := HT3.out.lt; omega)))
    have r2 := HT2.out.below hW
    have r3 := HT3.out.below hW
    clear hW
    refine wpList_storeH W rfl _ _ rfl (w.heap.size + 2) rfl rfl r2 ?_
    intro wy t2 g2
    simp only [Act.put]
    refine wpList_storeH wy rfl _ _ rfl (w.heap.size + 3) rfl rfl (r3.gro g2 (by omega)) ?_
    intro wz t3 g3
    simp only [Act.put]
    have t2' := t2.gro g3 (by omega)
    have HBE := Lib.hid (below_gro (below_gro HBW.out g2 HBW.out.size (by omega)) g3 (by have := HBW.out.size; have := g2.size; omega) (by omega))
    have x0 := t2'.cell (i := 0) rfl
    have y0 := t3.cell (i := 0) rfl
    have x1 := t2'.cell (i := 1) rfl
    have y1 := t3.cell (i := 1) rfl
    have x2 := t2'.cell (i := 2) rfl
    have y2 := t3.cell (i := 2) rfl
    have x3 := t2'.cell (i := 3) rfl
    have y3 := t3.cell (i := 3) rfl
    have x4 := t2'.cell (i := 4) rfl
    have y4 := t3.cell (i := 4) rfl
    have x5 := t2'.cell (i := 5) rfl
    have y5 := t3.cell (i := 5) rfl
    clear t2 t2' t3 g2 g3 r2 r3 HBW
    go_wp2_with fail
    exact bodyPost_ret (v := .tuple #[.agg #[.int .u64 (hw 0 (u * (u * (3 * d - 2 * u)))), .int .u64 (hw 1 (u * (u * (3 * d - 2 * u)))), .int .u64 (hw 2 (u * (u * (3 * d - 2 * u)))), .int .u64 (hw 3 (u * (u * (3 * d - 2 * u)))), .int .u64 (hw 4 (u * (u * (3 * d - 2 * u)))), .int .u64 (hw 5 (u * (u * (3 * d - 2 * u))))], .agg #[.int .u64 (hw 0 (d * (d * d))), .int .u64 (hw 1 (d * (d * d))), .int .u64 (hw 2 (d * (d * d))), .int .u64 (hw 3 (d * (d * d))), .int .u64 (hw 4 (d * (d * d))), .int .u64 (hw 5 (d * (d * d)))]]) (by simp [results, Try.results152, go_sem, x0, y0, x1, y1, x2, y2, x3, y3, x4, y4, x5, y5]) rfl ⟨by rw [HPK.out], HBE.out⟩
end Go.Proofs.Ytopmdeefcjdadaa
