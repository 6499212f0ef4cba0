/- The closures of effect.moved. (printed by wip/gen/gen_movedfns.py) -/
import Derived.Test.YtopmdeefcjdadaaT43M34

namespace Go.Proofs.Ytopmdeefcjdadaa
open Go.RowKit
set_option linter.unusedVariables false
set_option linter.unusedSimpArgs false

set_option maxRecDepth 100000 in
set_option maxHeartbeats 4000000 in
theorem moved2_any (pb qb : Nat) (bd dn k : Int) (w : World) (hp : TBox w pb 77 #[.int .u64 (hw 0 bd), .int .u64 (hw 1 bd), .int .u64 (hw 2 bd), .int .u64 (hw 3 bd), .int .u64 (hw 4 bd), .int .u64 (hw 5 bd)]) (hq : TBox w qb 77 #[.int .u64 (hw 0 dn), .int .u64 (hw 1 dn), .int .u64 (hw 2 dn), .int .u64 (hw 3 dn), .int .u64 (hw 4 dn), .int .u64 (hw 5 dn)]) (hb0 : 0 ≤ bd) (hbP : bd < powW 6) (hd0 : 0 ≤ dn) (hd9 : dn ≤ 1000000000000000000000000000000000000000000000000000000000000000000000000) (k0 : 0 ≤ k) (k1 : k ≤ 65535) :
    Calls Try.prog 117 #[.int .i64 k, .pointer (some ⟨pb, 0, none⟩), .pointer (some ⟨qb, 0, none⟩)] w fun e w' => e = .returned (.bool (!decide (bd < dn * (2 * k)))) ∧ Below w.heap.size w w' := by
  have hbig := powW6_big
  have hdP : dn < powW 6 := by omega
  have hk20 : 0 ≤ 2 * k := by omega
  have hk29 : 2 * k ≤ 9223372036854775807 := by omega
  have hdk0 : 0 ≤ dn * (2 * k) := Int.mul_nonneg hd0 hk20
  have hdm : dn * (2 * k) ≤ 1000000000000000000000000000000000000000000000000000000000000000000000000 * 131070 := (mul_both (a := dn) (b := 2 * k) (A := 1000000000000000000000000000000000000000000000000000000000000000000000000) (B := 131070) hd0 hk20 hd9 (by omega)).2
  have hdk : dn * (2 * k) < powW 6 := by omega
  have aw : IntKind.i64.wrap (2 * k) = 2 * k := IntWalk.i64_in _ (by omega)
  have HP := Lib.hid hp
  have HQ := Lib.hid hq
  clear hp hq hbig hdm
  go_enter Try.func117, Try.ntmps117
  go_upto_region 1 with fail
  refine region_heads (by kernel_rfl) 9 (by simp) (by kernel_rfl) (by kernel_rfl) (by kernel_rfl) (by kernel_rfl) (fun jx vx wx => match jx with | 0 => vx = (.agg #[.int .u64 (hw 0 bd), .int .u64 (hw 1 bd), .int .u64 (hw 2 bd), .int .u64 (hw 3 bd), .int .u64 (hw 4 bd), .int .u64 (hw 5 bd)]) | 1 => vx = (.agg #[.int .u64 (hw 0 dn), .int .u64 (hw 1 dn), .int .u64 (hw 2 dn), .int .u64 (hw 3 dn), .int .u64 (hw 4 dn), .int .u64 (hw 5 dn)]) | 2 => vx = (.int .i64 k) | 3 => vx = (.int .i64 (2 * k)) | 4 => Lit1 w.heap.size vx (.int .i64 (2 * k)) wx | 5 => vx = (.agg #[.int .u64 (hw 0 (dn * (2 * k))), .int .u64 (hw 1 (dn * (2 * k))), .int .u64 (hw 2 (dn * (2 * k))), .int .u64 (hw 3 (dn * (2 * k))), .int .u64 (hw 4 (dn * (2 * k))), .int .u64 (hw 5 (dn * (2 * k)))]) | 6 => vx = (.bool (decide (bd < dn * (2 * k)))) | 7 => vx = (.bool (!decide (bd < dn * (2 * k)))) | 8 => vx = (.bool (!decide (bd < dn * (2 * k)))) | _ => True) (fun W => Below w.heap.size w W) (fun wx wy => Below wx.heap.size wx wy) (Below.refl _ _).drew ?_ ?_ ?_ ?_
  · intro jx vx wx wy h g
    match jx, h with
    | 0, h => exact h
    | 1, h => exact h
    | 2, h => exact h
    | 3, h => exact h
    | 4, h => exact Lit1.up h g
    | 5, h => exact h
    | 6, h => exact h
    | 7, h => exact h
    | 8, h => exact h
    | jx + 9, h => exact trivial
  · intro jx ox dx hj ho hd
    exact insN_of (by kernel_rfl) hj ho hd
  · intro ix ox ax W hi hio hsh hW hpre
    have hsz : w.heap.size ≤ W.heap.size := hW.size
    have GA : ∀ ob, Below W.heap.size W (W.alloc ob) := fun ob => (Below.refl _ _).alloc (Nat.le_refl _) ob
    have WA : ∀ ob, Below w.heap.size w (W.alloc ob) := fun ob => hW.alloc hsz ob
    have t0 : ax.tmps[0]?.getD undef = (.int .i64 k) := (Array.getD_eq_getD_getElem? ..).symm.trans ((hsh.2.2 0 (notN_of (by kernel_rfl))).trans rfl)
    have t1 : ax.tmps[1]?.getD undef = (.pointer (some ⟨pb, 0, none⟩)) := (Array.getD_eq_getD_getElem? ..).symm.trans ((hsh.2.2 1 (notN_of (by kernel_rfl))).trans rfl)
    have t2 : ax.tmps[2]?.getD undef = (.pointer (some ⟨qb, 0, none⟩)) := (Array.getD_eq_getD_getElem? ..).symm.trans ((hsh.2.2 2 (notN_of (by kernel_rfl))).trans rfl)
    obtain ⟨h0, h1, h2, h3, h4, h5⟩ := hugeCells (HP.out.below hW)
    obtain ⟨g0, g1, g2, g3, g4, g5⟩ := hugeCells (HQ.out.below hW)
    clear hsh
    match ix, hi, hio with
    | 0, _, hio =>
      cases hio
      exact hwp_val (v := .agg #[.int .u64 (hw 0 bd), .int .u64 (hw 1 bd), .int .u64 (hw 2 bd), .int .u64 (hw 3 bd), .int .u64 (hw 4 bd), .int .u64 (hw 5 bd)]) (w' := W) (by simp [execOp, Act.eval, t1, h0, h1, h2, h3, h4, h5, go_sem]) ⟨_, rfl, rfl, hW, Below.refl _ _⟩
    | 1, _, hio =>
      cases hio
      exact hwp_val (v := .agg #[.int .u64 (hw 0 dn), .int .u64 (hw 1 dn), .int .u64 (hw 2 dn), .int .u64 (hw 3 dn), .int .u64 (hw 4 dn), .int .u64 (hw 5 dn)]) (w' := W) (by simp [execOp, Act.eval, t2, g0, g1, g2, g3, g4, g5, go_sem]) ⟨_, rfl, rfl, hW, Below.refl _ _⟩
    | 2, _, hio =>
      cases hio
      exact hwp_val (v := .int .i64 k) (w' := W) (by simp [execOp, Act.eval, t0, go_sem]) ⟨_, rfl, rfl, hW, Below.refl _ _⟩
    | 3, _, hio =>
      cases hio
      have p2 := hpre ⟨2, .data⟩ (by simp) (by rfl) _ _ rfl rfl
      have f2 : ax.tmps[7]?.getD undef = (.int .i64 k) := (Array.getD_eq_getD_getElem? ..).symm.trans p2
      exact hwp_val (v := .int .i64 (2 * k)) (w' := W) (by simp [execOp, Act.eval, aw, f2, go_sem]) ⟨_, rfl, rfl, hW, Below.refl _ _⟩
    | 4, _, hio =>
      cases hio
      have p3 := hpre ⟨3, .data⟩ (by simp) (by rfl) _ _ rfl rfl
      have f3 : ax.tmps[8]?.getD undef = (.int .i64 (2 * k)) := (Array.getD_eq_getD_getElem? ..).symm.trans p3
      exact hwp_val (v := .slice (some ⟨W.heap.size, 0, none⟩) 1 1) (w' := W.alloc (.cells #[.int .i64 (2 * k)] 3)) (by simp [execOp, Act.eval, f3, go_sem]) ⟨_, rfl, Lit1.new _ _ hsz, WA _, GA _⟩
    | 5, _, hio =>
      cases hio
      have p1 := hpre ⟨1, .data⟩ (by simp) (by rfl) _ _ rfl rfl
      have f1 : ax.tmps[6]?.getD undef = (.agg #[.int .u64 (hw 0 dn), .int .u64 (hw 1 dn), .int .u64 (hw 2 dn), .int .u64 (hw 3 dn), .int .u64 (hw 4 dn), .int .u64 (hw 5 dn)]) := (Array.getD_eq_getD_getElem? ..).symm.trans p1
      have p4 := hpre ⟨4, .data⟩ (by simp) (by rfl) _ _ rfl rfl
      obtain ⟨b4, e4, hb4, hl4, hc4⟩ := p4
      have f4 := (Array.getD_eq_getD_getElem? ..).symm.trans e4
      refine hwp_enter (f := 45) (args := #[.agg #[.int .u64 (hw 0 dn), .int .u64 (hw 1 dn), .int .u64 (hw 2 dn), .int .u64 (hw 3 dn), .int .u64 (hw 4 dn), .int .u64 (hw 5 dn)], .slice (some ⟨b4, 0, none⟩) 1 1]) (by simp [execOp, Act.eval, f1, f4, go_sem]) ?_
      refine (cTimes1 dn (2 * k) b4 W hd0 hk20 hk29 hdP hdk hl4 hc4).mono ?_
      rintro ex wy ⟨rfl, hb⟩
      exact ⟨_, rfl, _, rfl, rfl, hW.trans (hb.mono hsz), hb⟩
    | 6, _, hio =>
      cases hio
      have p0 := hpre ⟨0, .data⟩ (by simp) (by rfl) _ _ rfl rfl
      have f0 : ax.tmps[5]?.getD undef = (.agg #[.int .u64 (hw 0 bd), .int .u64 (hw 1 bd), .int .u64 (hw 2 bd), .int .u64 (hw 3 bd), .int .u64 (hw 4 bd), .int .u64 (hw 5 bd)]) := (Array.getD_eq_getD_getElem? ..).symm.trans p0
      have p5 := hpre ⟨5, .data⟩ (by simp) (by rfl) _ _ rfl rfl
      have f5 : ax.tmps[10]?.getD undef = (.agg #[.int .u64 (hw 0 (dn * (2 * k))), .int .u64 (hw 1 (dn * (2 * k))), .int .u64 (hw 2 (dn * (2 * k))), .int .u64 (hw 3 (dn * (2 * k))), .int .u64 (hw 4 (dn * (2 * k))), .int .u64 (hw 5 (dn * (2 * k)))]) := (Array.getD_eq_getD_getElem? ..).symm.trans p5
      refine hwp_enter (f := 49) (args := #[.agg #[.int .u64 (hw 0 bd), .int .u64 (hw 1 bd), .int .u64 (hw 2 bd), .int .u64 (hw 3 bd), .int .u64 (hw 4 bd), .int .u64 (hw 5 bd)], .agg #[.int .u64 (hw 0 (dn * (2 * k))), .int .u64 (hw 1 (dn * (2 * k))), .int .u64 (hw 2 (dn * (2 * k))), .int .u64 (hw 3 (dn * (2 * k))), .int .u64 (hw 4 (dn * (2 * k))), .int .u64 (hw 5 (dn * (2 * k)))]]) (by simp [execOp, Act.eval, f0, f5, go_sem]) ?_
      refine (cLess bd (dn * (2 * k)) hb0 hbP hdk0 hdk W).mono ?_
      rintro ex wy ⟨rfl, hb⟩
      exact ⟨_, rfl, _, rfl, rfl, hW.trans (hb.mono hsz), hb⟩
    | 7, _, hio =>
      cases hio
      have p6 := hpre ⟨6, .data⟩ (by simp) (by rfl) _ _ rfl rfl
      have f6 : ax.tmps[11]?.getD undef = (.bool (decide (bd < dn * (2 * k)))) := (Array.getD_eq_getD_getElem? ..).symm.trans p6
      exact hwp_val (v := .bool (!decide (bd < dn * (2 * k)))) (w' := W) (by simp [execOp, Act.eval, f6, go_sem]) ⟨_, rfl, rfl, hW, Below.refl _ _⟩
    | 8, _, hio =>
      cases hio
      have p7 := hpre ⟨7, .data⟩ (by simp) (by rfl) _ _ rfl rfl
      have f7 : ax.tmps[12]?.getD undef = (.bool (!decide (bd < dn * (2 * k)))) := (Array.getD_eq_getD_getElem? ..).symm.trans p7
      exact hwp_val (v := .bool (!decide (bd < dn * (2 * k)))) (w' := W) (by simp [execOp, Act.eval, f7, go_sem]) ⟨_, rfl, rfl, hW, Below.refl _ _⟩
    | ix + 9, hi, _ => exact absurd hi (by omega)
  · intro ax W hsh hW hφ
    have e0 : ax.tmps.getD 5 undef = (.agg #[.int .u64 (hw 0 bd), .int .u64 (hw 1 bd), .int .u64 (hw 2 bd), .int .u64 (hw 3 bd), .int .u64 (hw 4 bd), .int .u64 (hw 5 bd)]) := hφ 0 _ _ (by omega) rfl rfl
    have e1 : ax.tmps.getD 6 undef = (.agg #[.int .u64 (hw 0 dn), .int .u64 (hw 1 dn), .int .u64 (hw 2 dn), .int .u64 (hw 3 dn), .int .u64 (hw 4 dn), .int .u64 (hw 5 dn)]) := hφ 1 _ _ (by omega) rfl rfl
    have e2 : ax.tmps.getD 7 undef = (.int .i64 k) := hφ 2 _ _ (by omega) rfl rfl
    have e3 : ax.tmps.getD 8 undef = (.int .i64 (2 * k)) := hφ 3 _ _ (by omega) rfl rfl
    obtain ⟨b4, e4, hb4, hl4, hc4⟩ := hφ 4 _ _ (by omega) rfl rfl
    have e5 : ax.tmps.getD 10 undef = (.agg #[.int .u64 (hw 0 (dn * (2 * k))), .int .u64 (hw 1 (dn * (2 * k))), .int .u64 (hw 2 (dn * (2 * k))), .int .u64 (hw 3 (dn * (2 * k))), .int .u64 (hw 4 (dn * (2 * k))), .int .u64 (hw 5 (dn * (2 * k)))]) := hφ 5 _ _ (by omega) rfl rfl
    have e6 : ax.tmps.getD 11 undef = (.bool (decide (bd < dn * (2 * k)))) := hφ 6 _ _ (by omega) rfl rfl
    have e7 : ax.tmps.getD 12 undef = (.bool (!decide (bd < dn * (2 * k)))) := hφ 7 _ _ (by omega) rfl rfl
    have e8 : ax.tmps.getD 4 undef = (.bool (!decide (bd < dn * (2 * k)))) := hφ 8 _ _ (by omega) rfl rfl
    rw [shape_puts hsh [(5, .agg #[.int .u64 (hw 0 bd), .int .u64 (hw 1 bd), .int .u64 (hw 2 bd), .int .u64 (hw 3 bd), .int .u64 (hw 4 bd), .int .u64 (hw 5 bd)]), (6, .agg #[.int .u64 (hw 0 dn), .int .u64 (hw 1 dn), .int .u64 (hw 2 dn), .int .u64 (hw 3 dn), .int .u64 (hw 4 dn), .int .u64 (hw 5 dn)]), (7, .int .i64 k), (8, .int .i64 (2 * k)), (9, .slice (some ⟨b4, 0, none⟩) 1 1), (10, .agg #[.int .u64 (hw 0 (dn * (2 * k))), .int .u64 (hw 1 (dn * (2 * k))), .int .u64 (hw 2 (dn * (2 * k))), .int .u64 (hw 3 (dn * (2 * k))), .int .u64 (hw 4 (dn * (2 * k))), .int .u64 (hw 5 (dn * (2 * k)))]), (11, .bool (decide (bd < dn * (2 * k)))), (12, .bool (!decide (bd < dn * (2 * k)))), (4, .bool (!decide (bd < dn * (2 * k))))] [5, 6, 7, 8, 9, 10, 11, 12, 4] rfl (by kernel_rfl) ⟨e0, e1, e2, e3, e4, e5, e6, e7, e8, trivial⟩]
    clear hφ hsh e0 e1 e2 e3 e4 e5 e6 e7 e8
    clear hc4
    simp only [putsN, List.foldl_cons, List.foldl_nil, List.drop_succ_cons, List.drop_zero, Act.put, List.setIfInBounds_toArray, List.set_cons_succ, List.set_cons_zero]
    have HBE := Lib.hid hW
    clear hW
    go_wp2_with fail
    go_ret
    exact ⟨rfl, HBE.out⟩

set_option maxRecDepth 100000 in
set_option maxHeartbeats 4000000 in
theorem moved1_any (pb qb mb : Nat) (bd dn m k : Int) (w : World) (hp : TBox w pb 77 #[.int .u64 (hw 0 bd), .int .u64 (hw 1 bd), .int .u64 (hw 2 bd), .int .u64 (hw 3 bd), .int .u64 (hw 4 bd), .int .u64 (hw 5 bd)]) (hq : TBox w qb 77 #[.int .u64 (hw 0 dn), .int .u64 (hw 1 dn), .int .u64 (hw 2 dn), .int .u64 (hw 3 dn), .int .u64 (hw 4 dn), .int .u64 (hw 5 dn)]) (hm : TBox w mb 77 #[.int .u64 (hw 0 m), .int .u64 (hw 1 m), .int .u64 (hw 2 m), .int .u64 (hw 3 m), .int .u64 (hw 4 m), .int .u64 (hw 5 m)]) (hb0 : 0 ≤ bd) (hbP : bd < powW 6) (hd0 : 0 ≤ dn) (hd9 : dn ≤ 1000000000000000000000000000000000000000000000000000000000000000000000000) (hm0 : 0 ≤ m) (hm9 : m ≤ 1000000000000000000000000000000000000000000000000000000000000000000000000 * 131070) (k0 : 0 ≤ k) (k1 : k ≤ 65535) :
    Calls Try.prog 115 #[.int .i64 k, .pointer (some ⟨pb, 0, none⟩), .pointer (some ⟨qb, 0, none⟩), .pointer (some ⟨mb, 0, none⟩)] w fun e w' => e = .returned (.bool (!decide (bd < dn * (2 * k) + m))) ∧ Below w.heap.size w w' := by
  have hbig := powW6_big
  have hdP : dn < powW 6 := by omega
  have hk20 : 0 ≤ 2 * k := by omega
  have hk29 : 2 * k ≤ 9223372036854775807 := by omega
  have hdk0 : 0 ≤ dn * (2 * k) := Int.mul_nonneg hd0 hk20
  have hdm : dn * (2 * k) ≤ 1000000000000000000000000000000000000000000000000000000000000000000000000 * 131070 := (mul_both (a := dn) (b := 2 * k) (A := 1000000000000000000000000000000000000000000000000000000000000000000000000) (B := 131070) hd0 hk20 hd9 (by omega)).2
  have hdk : dn * (2 * k) < powW 6 := by omega
  have aw : IntKind.i64.wrap (2 * k) = 2 * k := IntWalk.i64_in _ (by omega)
  have hs0 : 0 ≤ dn * (2 * k) + m := by omega
  have hsP : dn * (2 * k) + m < powW 6 := by omega
  have HM := Lib.hid hm
  have HP := Lib.hid hp
  have HQ := Lib.hid hq
  clear hp hq hm hbig hdm
  go_enter Try.func115, Try.ntmps115
  go_upto_region 1 with fail
  refine region_heads (by kernel_rfl) 11 (by simp) (by kernel_rfl) (by kernel_rfl) (by kernel_rfl) (by kernel_rfl) (fun jx vx wx => match jx with | 0 => vx = (.agg #[.int .u64 (hw 0 bd), .int .u64 (hw 1 bd), .int .u64 (hw 2 bd), .int .u64 (hw 3 bd), .int .u64 (hw 4 bd), .int .u64 (hw 5 bd)]) | 1 => vx = (.agg #[.int .u64 (hw 0 dn), .int .u64 (hw 1 dn), .int .u64 (hw 2 dn), .int .u64 (hw 3 dn), .int .u64 (hw 4 dn), .int .u64 (hw 5 dn)]) | 2 => vx = (.int .i64 k) | 3 => vx = (.int .i64 (2 * k)) | 4 => Lit1 w.heap.size vx (.int .i64 (2 * k)) wx | 5 => vx = (.agg #[.int .u64 (hw 0 (dn * (2 * k))), .int .u64 (hw 1 (dn * (2 * k))), .int .u64 (hw 2 (dn * (2 * k))), .int .u64 (hw 3 (dn * (2 * k))), .int .u64 (hw 4 (dn * (2 * k))), .int .u64 (hw 5 (dn * (2 * k)))]) | 6 => vx = (.agg #[.int .u64 (hw 0 m), .int .u64 (hw 1 m), .int .u64 (hw 2 m), .int .u64 (hw 3 m), .int .u64 (hw 4 m), .int .u64 (hw 5 m)]) | 7 => vx = (.agg #[.int .u64 (hw 0 (dn * (2 * k) + m)), .int .u64 (hw 1 (dn * (2 * k) + m)), .int .u64 (hw 2 (dn * (2 * k) + m)), .int .u64 (hw 3 (dn * (2 * k) + m)), .int .u64 (hw 4 (dn * (2 * k) + m)), .int .u64 (hw 5 (dn * (2 * k) + m))]) | 8 => vx = (.bool (decide (bd < dn * (2 * k) + m))) | 9 => vx = (.bool (!decide (bd < dn * (2 * k) + m))) | 10 => vx = (.bool (!decide (bd < dn * (2 * k) + m))) | _ => True) (fun W => Below w.heap.size w W) (fun wx wy => Below wx.heap.size wx wy) (Below.refl _ _).drew ?_ ?_ ?_ ?_
  · intro jx vx wx wy h g
    match jx, h with
    | 0, h => exact h
    | 1, h => exact h
    | 2, h => exact h
    | 3, h => exact h
    | 4, h => exact Lit1.up h g
    | 5, h => exact h
    | 6, h => exact h
    | 7, h => exact h
    | 8, h => exact h
    | 9, h => exact h
    | 10, h => exact h
    | jx + 11, h => exact trivial
  · intro jx ox dx hj ho hd
    exact insN_of (by kernel_rfl) hj ho hd
  · intro ix ox ax W hi hio hsh hW hpre
    have hsz : w.heap.size ≤ W.heap.size := hW.size
    have GA : ∀ ob, Below W.heap.size W (W.alloc ob) := fun ob => (Below.refl _ _).alloc (Nat.le_refl _) ob
    have WA : ∀ ob, Below w.heap.size w (W.alloc ob) := fun ob => hW.alloc hsz ob
    have t0 : ax.tmps[0]?.getD undef = (.int .i64 k) := (Array.getD_eq_getD_getElem? ..).symm.trans ((hsh.2.2 0 (notN_of (by kernel_rfl))).trans rfl)
    have t1 : ax.tmps[1]?.getD undef = (.pointer (some ⟨pb, 0, none⟩)) := (Array.getD_eq_getD_getElem? ..).symm.trans ((hsh.2.2 1 (notN_of (by kernel_rfl))).trans rfl)
    have t2 : ax.tmps[2]?.getD undef = (.pointer (some ⟨qb, 0, none⟩)) := (Array.getD_eq_getD_getElem? ..).symm.trans ((hsh.2.2 2 (notN_of (by kernel_rfl))).trans rfl)
    have t3 : ax.tmps[3]?.getD undef = (.pointer (some ⟨mb, 0, none⟩)) := (Array.getD_eq_getD_getElem? ..).symm.trans ((hsh.2.2 3 (notN_of (by kernel_rfl))).trans rfl)
    obtain ⟨h0, h1, h2, h3, h4, h5⟩ := hugeCells (HP.out.below hW)
    obtain ⟨g0, g1, g2, g3, g4, g5⟩ := hugeCells (HQ.out.below hW)
    obtain ⟨e0, e1, e2, e3, e4, e5⟩ := hugeCells (HM.out.below hW)
    clear hsh
    match ix, hi, hio with
    | 0, _, hio =>
      cases hio
      exact hwp_val (v := .agg #[.int .u64 (hw 0 bd), .int .u64 (hw 1 bd), .int .u64 (hw 2 bd), .int .u64 (hw 3 bd), .int .u64 (hw 4 bd), .int .u64 (hw 5 bd)]) (w' := W) (by simp [execOp, Act.eval, t1, h0, h1, h2, h3, h4, h5, go_sem]) ⟨_, rfl, rfl, hW, Below.refl _ _⟩
    | 1, _, hio =>
      cases hio
      exact hwp_val (v := .agg #[.int .u64 (hw 0 dn), .int .u64 (hw 1 dn), .int .u64 (hw 2 dn), .int .u64 (hw 3 dn), .int .u64 (hw 4 dn), .int .u64 (hw 5 dn)]) (w' := W) (by simp [execOp, Act.eval, t2, g0, g1, g2, g3, g4, g5, go_sem]) ⟨_, rfl, rfl, hW, Below.refl _ _⟩
    | 2, _, hio =>
      cases hio
      exact hwp_val (v := .int .i64 k) (w' := W) (by simp [execOp, Act.eval, t0, go_sem]) ⟨_, rfl, rfl, hW, Below.refl _ _⟩
    | 3, _, hio =>
      cases hio
      have p2 := hpre ⟨2, .data⟩ (by simp) (by rfl) _ _ rfl rfl
      have f2 : ax.tmps[8]?.getD undef = (.int .i64 k) := (Array.getD_eq_getD_getElem? ..).symm.trans p2
      exact hwp_val (v := .int .i64 (2 * k)) (w' := W) (by simp [execOp, Act.eval, aw, f2, go_sem]) ⟨_, rfl, rfl, hW, Below.refl _ _⟩
    | 4, _, hio =>
      cases hio
      have p3 := hpre ⟨3, .data⟩ (by simp) (by rfl) _ _ rfl rfl
      have f3 : ax.tmps[9]?.getD undef = (.int .i64 (2 * k)) := (Array.getD_eq_getD_getElem? ..).symm.trans p3
      exact hwp_val (v := .slice (some ⟨W.heap.size, 0, none⟩) 1 1) (w' := W.alloc (.cells #[.int .i64 (2 * k)] 3)) (by simp [execOp, Act.eval, f3, go_sem]) ⟨_, rfl, Lit1.new _ _ hsz, WA _, GA _⟩
    | 5, _, hio =>
      cases hio
      have p1 := hpre ⟨1, .data⟩ (by simp) (by rfl) _ _ rfl rfl
      have f1 : ax.tmps[7]?.getD undef = (.agg #[.int .u64 (hw 0 dn), .int .u64 (hw 1 dn), .int .u64 (hw 2 dn), .int .u64 (hw 3 dn), .int .u64 (hw 4 dn), .int .u64 (hw 5 dn)]) := (Array.getD_eq_getD_getElem? ..).symm.trans p1
      have p4 := hpre ⟨4, .data⟩ (by simp) (by rfl) _ _ rfl rfl
      obtain ⟨b4, e4, hb4, hl4, hc4⟩ := p4
      have f4 := (Array.getD_eq_getD_getElem? ..).symm.trans e4
      refine hwp_enter (f := 45) (args := #[.agg #[.int .u64 (hw 0 dn), .int .u64 (hw 1 dn), .int .u64 (hw 2 dn), .int .u64 (hw 3 dn), .int .u64 (hw 4 dn), .int .u64 (hw 5 dn)], .slice (some ⟨b4, 0, none⟩) 1 1]) (by simp [execOp, Act.eval, f1, f4, go_sem]) ?_
      refine (cTimes1 dn (2 * k) b4 W hd0 hk20 hk29 hdP hdk hl4 hc4).mono ?_
      rintro ex wy ⟨rfl, hb⟩
      exact ⟨_, rfl, _, rfl, rfl, hW.trans (hb.mono hsz), hb⟩
    | 6, _, hio =>
      cases hio
      exact hwp_val (v := .agg #[.int .u64 (hw 0 m), .int .u64 (hw 1 m), .int .u64 (hw 2 m), .int .u64 (hw 3 m), .int .u64 (hw 4 m), .int .u64 (hw 5 m)]) (w' := W) (by simp [execOp, Act.eval, t3, e0, e1, e2, e3, e4, e5, go_sem]) ⟨_, rfl, rfl, hW, Below.refl _ _⟩
    | 7, _, hio =>
      cases hio
      have p5 := hpre ⟨5, .data⟩ (by simp) (by rfl) _ _ rfl rfl
      have f5 : ax.tmps[11]?.getD undef = (.agg #[.int .u64 (hw 0 (dn * (2 * k))), .int .u64 (hw 1 (dn * (2 * k))), .int .u64 (hw 2 (dn * (2 * k))), .int .u64 (hw 3 (dn * (2 * k))), .int .u64 (hw 4 (dn * (2 * k))), .int .u64 (hw 5 (dn * (2 * k)))]) := (Array.getD_eq_getD_getElem? ..).symm.trans p5
      have p6 := hpre ⟨6, .data⟩ (by simp) (by rfl) _ _ rfl rfl
      have f6 : ax.tmps[12]?.getD undef = (.agg #[.int .u64 (hw 0 m), .int .u64 (hw 1 m), .int .u64 (hw 2 m), .int .u64 (hw 3 m), .int .u64 (hw 4 m), .int .u64 (hw 5 m)]) := (Array.getD_eq_getD_getElem? ..).symm.trans p6
      refine hwp_enter (f := 46) (args := #[.agg #[.int .u64 (hw 0 (dn * (2 * k))), .int .u64 (hw 1 (dn * (2 * k))), .int .u64 (hw 2 (dn * (2 * k))), .int .u64 (hw 3 (dn * (2 * k))), .int .u64 (hw 4 (dn * (2 * k))), .int .u64 (hw 5 (dn * (2 * k)))], .agg #[.int .u64 (hw 0 m), .int .u64 (hw 1 m), .int .u64 (hw 2 m), .int .u64 (hw 3 m), .int .u64 (hw 4 m), .int .u64 (hw 5 m)]]) (by simp [execOp, Act.eval, f5, f6, go_sem]) ?_
      refine (cPlus (dn * (2 * k)) m hdk0 hm0 hsP W).mono ?_
      rintro ex wy ⟨rfl, hb⟩
      exact ⟨_, rfl, _, rfl, rfl, hW.trans (hb.mono hsz), hb⟩
    | 8, _, hio =>
      cases hio
      have p0 := hpre ⟨0, .data⟩ (by simp) (by rfl) _ _ rfl rfl
      have f0 : ax.tmps[6]?.getD undef = (.agg #[.int .u64 (hw 0 bd), .int .u64 (hw 1 bd), .int .u64 (hw 2 bd), .int .u64 (hw 3 bd), .int .u64 (hw 4 bd), .int .u64 (hw 5 bd)]) := (Array.getD_eq_getD_getElem? ..).symm.trans p0
      have p7 := hpre ⟨7, .data⟩ (by simp) (by rfl) _ _ rfl rfl
      have f7 : ax.tmps[13]?.getD undef = (.agg #[.int .u64 (hw 0 (dn * (2 * k) + m)), .int .u64 (hw 1 (dn * (2 * k) + m)), .int .u64 (hw 2 (dn * (2 * k) + m)), .int .u64 (hw 3 (dn * (2 * k) + m)), .int .u64 (hw 4 (dn * (2 * k) + m)), .int .u64 (hw 5 (dn * (2 * k) + m))]) := (Array.getD_eq_getD_getElem? ..).symm.trans p7
      refine hwp_enter (f := 49) (args := #[.agg #[.int .u64 (hw 0 bd), .int .u64 (hw 1 bd), .int .u64 (hw 2 bd), .int .u64 (hw 3 bd), .int .u64 (hw 4 bd), .int .u64 (hw 5 bd)], .agg #[.int .u64 (hw 0 (dn * (2 * k) + m)), .int .u64 (hw 1 (dn * (2 * k) + m)), .int .u64 (hw 2 (dn * (2 * k) + m)), .int .u64 (hw 3 (dn * (2 * k) + m)), .int .u64 (hw 4 (dn * (2 * k) + m)), .int .u64 (hw 5 (dn * (2 * k) + m))]]) (by simp [execOp, Act.eval, f0, f7, go_sem]) ?_
      refine (cLess bd (dn * (2 * k) + m) hb0 hbP hs0 hsP W).mono ?_
      rintro ex wy ⟨rfl, hb⟩
      exact ⟨_, rfl, _, rfl, rfl, hW.trans (hb.mono hsz), hb⟩
    | 9, _, hio =>
      cases hio
      have p8 := hpre ⟨8, .data⟩ (by simp) (by rfl) _ _ rfl rfl
      have f8 : ax.tmps[14]?.getD undef = (.bool (decide (bd < dn * (2 * k) + m))) := (Array.getD_eq_getD_getElem? ..).symm.trans p8
      exact hwp_val (v := .bool (!decide (bd < dn * (2 * k) + m))) (w' := W) (by simp [execOp, Act.eval, f8, go_sem]) ⟨_, rfl, rfl, hW, Below.refl _ _⟩
    | 10, _, hio =>
      cases hio
      have p9 := hpre ⟨9, .data⟩ (by simp) (by rfl) _ _ rfl rfl
      have f9 : ax.tmps[15]?.getD undef = (.bool (!decide (bd < dn * (2 * k) + m))) := (Array.getD_eq_getD_getElem? ..).symm.trans p9
      exact hwp_val (v := .bool (!decide (bd < dn * (2 * k) + m))) (w' := W) (by simp [execOp, Act.eval, f9, go_sem]) ⟨_, rfl, rfl, hW, Below.refl _ _⟩
    | ix + 11, hi, _ => exact absurd hi (by omega)
  · intro ax W hsh hW hφ
    have e0 : ax.tmps.getD 6 undef = (.agg #[.int .u64 (hw 0 bd), .int .u64 (hw 1 bd), .int .u64 (hw 2 bd), .int .u64 (hw 3 bd), .int .u64 (hw 4 bd), .int .u64 (hw 5 bd)]) := hφ 0 _ _ (by omega) rfl rfl
    have e1 : ax.tmps.getD 7 undef = (.agg #[.int .u64 (hw 0 dn), .int .u64 (hw 1 dn), .int .u64 (hw 2 dn), .int .u64 (hw 3 dn), .int .u64 (hw 4 dn), .int .u64 (hw 5 dn)]) := hφ 1 _ _ (by omega) rfl rfl
    have e2 : ax.tmps.getD 8 undef = (.int .i64 k) := hφ 2 _ _ (by omega) rfl rfl
    have e3 : ax.tmps.getD 9 undef = (.int .i64 (2 * k)) := hφ 3 _ _ (by omega) rfl rfl
    obtain ⟨b4, e4, hb4, hl4, hc4⟩ := hφ 4 _ _ (by omega) rfl rfl
    have e5 : ax.tmps.getD 11 undef = (.agg #[.int .u64 (hw 0 (dn * (2 * k))), .int .u64 (hw 1 (dn * (2 * k))), .int .u64 (hw 2 (dn * (2 * k))), .int .u64 (hw 3 (dn * (2 * k))), .int .u64 (hw 4 (dn * (2 * k))), .int .u64 (hw 5 (dn * (2 * k)))]) := hφ 5 _ _ (by omega) rfl rfl
    have e6 : ax.tmps.getD 12 undef = (.agg #[.int .u64 (hw 0 m), .int .u64 (hw 1 m), .int .u64 (hw 2 m), .int .u64 (hw 3 m), .int .u64 (hw 4 m), .int .u64 (hw 5 m)]) := hφ 6 _ _ (by omega) rfl rfl
    have e7 : ax.tmps.getD 13 undef = (.agg #[.int .u64 (hw 0 (dn * (2 * k) + m)), .int .u64 (hw 1 (dn * (2 * k) + m)), .int .u64 (hw 2 (dn * (2 * k) + m)), .int .u64 (hw 3 (dn * (2 * k) + m)), .int .u64 (hw 4 (dn * (2 * k) + m)), .int .u64 (hw 5 (dn * (2 * k) + m))]) := hφ 7 _ _ (by omega) rfl rfl
    have e8 : ax.tmps.getD 14 undef = (.bool (decide (bd < dn * (2 * k) + m))) := hφ 8 _ _ (by omega) rfl rfl
    have e9 : ax.tmps.getD 15 undef = (.bool (!decide (bd < dn * (2 * k) + m))) := hφ 9 _ _ (by omega) rfl rfl
    have e10 : ax.tmps.getD 5 undef = (.bool (!decide (bd < dn * (2 * k) + m))) := hφ 10 _ _ (by omega) rfl rfl
    rw [shape_puts hsh [(6, .agg #[.int .u64 (hw 0 bd), .int .u64 (hw 1 bd), .int .u64 (hw 2 bd), .int .u64 (hw 3 bd), .int .u64 (hw 4 bd), .int .u64 (hw 5 bd)]), (7, .agg #[.int .u64 (hw 0 dn), .int .u64 (hw 1 dn), .int .u64 (hw 2 dn), .int .u64 (hw 3 dn), .int .u64 (hw 4 dn), .int .u64 (hw 5 dn)]), (8, .int .i64 k), (9, .int .i64 (2 * k)), (10, .slice (some ⟨b4, 0, none⟩) 1 1), (11, .agg #[.int .u64 (hw 0 (dn * (2 * k))), .int .u64 (hw 1 (dn * (2 * k))), .int .u64 (hw 2 (dn * (2 * k))), .int .u64 (hw 3 (dn * (2 * k))), .int .u64 (hw 4 (dn * (2 * k))), .int .u64 (hw 5 (dn * (2 * k)))]), (12, .agg #[.int .u64 (hw 0 m), .int .u64 (hw 1 m), .int .u64 (hw 2 m), .int .u64 (hw 3 m), .int .u64 (hw 4 m), .int .u64 (hw 5 m)]), (13, .agg #[.int .u64 (hw 0 (dn * (2 * k) + m)), .int .u64 (hw 1 (dn * (2 * k) + m)), .int .u64 (hw 2 (dn * (2 * k) + m)), .int .u64 (hw 3 (dn * (2 * k) + m)), .int .u64 (hw 4 (dn * (2 * k) + m)), .int .u64 (hw 5 (dn * (2 * k) + m))]), (14, .bool (decide (bd < dn * (2 * k) + m))), (15, .bool (!decide (bd < dn * (2 * k) + m))), (5, .bool (!decide (bd < dn * (2 * k) + m)))] [6, 7, 8, 9, 10, 11, 12, 13, 14, 15, 5] rfl (by kernel_rfl) ⟨e0, e1, e2, e3, e4, e5, e6, e7, e8, e9, e10, trivial⟩]
    clear hφ hsh e0 e1 e2 e3 e4 e5 e6 e7 e8 e9 e10
    clear hc4
    simp only [putsN, List.foldl_cons, List.foldl_nil, List.drop_succ_cons, List.drop_zero, Act.put, List.setIfInBounds_toArray, List.set_cons_succ, List.set_cons_zero]
    have HBE := Lib.hid hW
    clear hW
    go_wp2_with fail
    go_ret
    exact ⟨rfl, HBE.out⟩
end Go.Proofs.Ytopmdeefcjdadaa
