/- The wave down. (printed by wip/gen/gen_waves2.py) -/
import Derived.Test.YtopmdeefcjdadaaT28M24

namespace Go.Proofs.Ytopmdeefcjdadaa
open Go.RowKit
set_option linter.unusedVariables false
set_option linter.unusedSimpArgs false

set_option maxRecDepth 100000 in
set_option maxHeartbeats 8000000 in
theorem down_any (n d k i : Int) (w : World) (hn0 : 0 ≤ n) (hnd : n ≤ d) (hd1 : d ≤ 1000000000000000000) :
    Calls Try.prog 150 #[.agg #[], .agg #[.int .i64 n, .int .i64 d, .int .i64 k, .int .i64 i]] w fun e w' => e = .returned (.tuple #[.agg #[.int .u64 (hw 0 (d - n)), .int .u64 (hw 1 (d - n)), .int .u64 (hw 2 (d - n)), .int .u64 (hw 3 (d - n)), .int .u64 (hw 4 (d - n)), .int .u64 (hw 5 (d - n))], .agg #[.int .u64 (hw 0 d), .int .u64 (hw 1 d), .int .u64 (hw 2 d), .int .u64 (hw 3 d), .int .u64 (hw 4 d), .int .u64 (hw 5 d)]]) ∧ Below w.heap.size w w' := by
  have hd0 : 0 ≤ d := by omega
  have hd2 : d ≤ 9223372036854775807 := by omega
  have aw : IntKind.i64.wrap (d - n) = d - n := IntWalk.i64_in _ (by omega)
  have HT0 := Lib.hid (show TBox ((((w.alloc (.cells #[] 155)).alloc (.cells #[.int .i64 n, .int .i64 d, .int .i64 k, .int .i64 i] 119)).alloc (.cells #[.int .u64 0, .int .u64 0, .int .u64 0, .int .u64 0, .int .u64 0, .int .u64 0] 77)).alloc (.cells #[.int .u64 0, .int .u64 0, .int .u64 0, .int .u64 0, .int .u64 0, .int .u64 0] 77)) w.heap.size 155 #[] from (((TBox.new w #[] 155).alloc _).alloc _).alloc _)
  have HT1 := Lib.hid (show TBox ((((w.alloc (.cells #[] 155)).alloc (.cells #[.int .i64 n, .int .i64 d, .int .i64 k, .int .i64 i] 119)).alloc (.cells #[.int .u64 0, .int .u64 0, .int .u64 0, .int .u64 0, .int .u64 0, .int .u64 0] 77)).alloc (.cells #[.int .u64 0, .int .u64 0, .int .u64 0, .int .u64 0, .int .u64 0, .int .u64 0] 77)) (w.heap.size + 1) 119 #[.int .i64 n, .int .i64 d, .int .i64 k, .int .i64 i] from by
    have h := ((TBox.new (w.alloc (.cells #[] 155)) #[.int .i64 n, .int .i64 d, .int .i64 k, .int .i64 i] 119).alloc (.cells #[.int .u64 0, .int .u64 0, .int .u64 0, .int .u64 0, .int .u64 0, .int .u64 0] 77)).alloc (.cells #[.int .u64 0, .int .u64 0, .int .u64 0, .int .u64 0, .int .u64 0, .int .u64 0] 77)
    simpa only [World.size_alloc] using h)
  have HT2 := Lib.hid (show TBox ((((w.alloc (.cells #[] 155)).alloc (.cells #[.int .i64 n, .int .i64 d, .int .i64 k, .int .i64 i] 119)).alloc (.cells #[.int .u64 0, .int .u64 0, .int .u64 0, .int .u64 0, .int .u64 0, .int .u64 0] 77)).alloc (.cells #[.int .u64 0, .int .u64 0, .int .u64 0, .int .u64 0, .int .u64 0, .int .u64 0] 77)) (w.heap.size + 2) 77 #[.int .u64 0, .int .u64 0, .int .u64 0, .int .u64 0, .int .u64 0, .int .u64 0] from by
    have h := (TBox.new ((w.alloc (.cells #[] 155)).alloc (.cells #[.int .i64 n, .int .i64 d, .int .i64 k, .int .i64 i] 119)) #[.int .u64 0, .int .u64 0, .int .u64 0, .int .u64 0, .int .u64 0, .int .u64 0] 77).alloc (.cells #[.int .u64 0, .int .u64 0, .int .u64 0, .int .u64 0, .int .u64 0, .int .u64 0] 77)
    simpa only [World.size_alloc] using h)
  have HT3 := Lib.hid (show TBox ((((w.alloc (.cells #[] 155)).alloc (.cells #[.int .i64 n, .int .i64 d, .int .i64 k, .int .i64 i] 119)).alloc (.cells #[.int .u64 0, .int .u64 0, .int .u64 0, .int .u64 0, .int .u64 0, .int .u64 0] 77)).alloc (.cells #[.int .u64 0, .int .u64 0, .int .u64 0, .int .u64 0, .int .u64 0, .int .u64 0] 77)) (w.heap.size + 3) 77 #[.int .u64 0, .int .u64 0, .int .u64 0, .int .u64 0, .int .u64 0, .int .u64 0] from by
    have h := TBox.new (((w.alloc (.cells #[] 155)).alloc (.cells #[.int .i64 n, .int .i64 d, .int .i64 k, .int .i64 i] 119)).alloc (.cells #[.int .u64 0, .int .u64 0, .int .u64 0, .int .u64 0, .int .u64 0, .int .u64 0] 77)) #[.int .u64 0, .int .u64 0, .int .u64 0, .int .u64 0, .int .u64 0, .int .u64 0] 77
    simpa only [World.size_alloc] using h)
  have HB := Lib.hid (show Below w.heap.size w ((((w.alloc (.cells #[] 155)).alloc (.cells #[.int .i64 n, .int .i64 d, .int .i64 k, .int .i64 i] 119)).alloc (.cells #[.int .u64 0, .int .u64 0, .int .u64 0, .int .u64 0, .int .u64 0, .int .u64 0] 77)).alloc (.cells #[.int .u64 0, .int .u64 0, .int .u64 0, .int .u64 0, .int .u64 0, .int .u64 0] 77)) from ((((Below.refl _ _).alloc (Nat.le_refl _) _).alloc (by simp) _).alloc (by simp; omega) _).alloc (by simp; omega) _)
  go_enter Try.func150, Try.ntmps150
  go_upto_region 1 with fail
  generalize hw1 : ((((w.alloc (.cells #[] 155)).alloc (.cells #[.int .i64 n, .int .i64 d, .int .i64 k, .int .i64 i] 119)).alloc (.cells #[.int .u64 0, .int .u64 0, .int .u64 0, .int .u64 0, .int .u64 0, .int .u64 0] 77)).alloc (.cells #[.int .u64 0, .int .u64 0, .int .u64 0, .int .u64 0, .int .u64 0, .int .u64 0] 77)) = w1 at *
  clear hw1
  refine region_heads (by kernel_rfl) 9 (by simp) (by kernel_rfl) (by kernel_rfl) (by kernel_rfl) (by kernel_rfl) (fun jx vx wx => match jx with | 0 => vx = (.pointer (some ⟨w.heap.size + 1, 1, none⟩)) | 1 => vx = (.int .i64 d) | 2 => vx = (.pointer (some ⟨w.heap.size + 1, 0, none⟩)) | 3 => vx = (.int .i64 n) | 4 => vx = (.int .i64 (d - n)) | 5 => vx = (.agg #[.int .u64 (hw 0 (d - n)), .int .u64 (hw 1 (d - n)), .int .u64 (hw 2 (d - n)), .int .u64 (hw 3 (d - n)), .int .u64 (hw 4 (d - n)), .int .u64 (hw 5 (d - n))]) | 6 => vx = (.pointer (some ⟨w.heap.size + 1, 1, none⟩)) | 7 => vx = (.int .i64 d) | 8 => vx = (.agg #[.int .u64 (hw 0 d), .int .u64 (hw 1 d), .int .u64 (hw 2 d), .int .u64 (hw 3 d), .int .u64 (hw 4 d), .int .u64 (hw 5 d)]) | _ => True) (fun W => Below w1.heap.size w1 W) (fun wx wy => Below wx.heap.size wx wy) (Below.refl _ _).drew ?_ ?_ ?_ ?_
  · intro jx vx wx wy h g
    match jx, h with
    | 0, h => exact h
    | 1, h => exact h
    | 2, h => exact h
    | 3, h => exact h
    | 4, h => exact h
    | 5, h => exact h
    | 6, h => exact h
    | 7, h => exact h
    | 8, h => exact h
    | jx + 9, h => exact trivial
  · intro jx ox dx hj ho hd
    exact insN_of (by kernel_rfl) hj ho hd
  · intro ix ox ax W hi hio hsh hW hpre
    have hsz : w1.heap.size ≤ W.heap.size := hW.size
    have GA : ∀ ob, Below W.heap.size W (W.alloc ob) := fun ob => (Below.refl _ _).alloc (Nat.le_refl _) ob
    have WA : ∀ ob, Below w1.heap.size w1 (W.alloc ob) := fun ob => hW.alloc hsz ob
    have t3 : ax.tmps[3]?.getD undef = (.pointer (some ⟨w.heap.size + 1, 0, none⟩)) := (Array.getD_eq_getD_getElem? ..).symm.trans ((hsh.2.2 3 (notN_of (by kernel_rfl))).trans rfl)
    obtain ⟨q0, q1, q2, q3⟩ : W.cell? ⟨w.heap.size + 1, 0, none⟩ = some (.int .i64 n) ∧ W.cell? ⟨w.heap.size + 1, 1, none⟩ = some (.int .i64 d) ∧ W.cell? ⟨w.heap.size + 1, 2, none⟩ = some (.int .i64 k) ∧ W.cell? ⟨w.heap.size + 1, 3, none⟩ = some (.int .i64 i) := ⟨(HT1.out.below hW).cell (i := 0) rfl, (HT1.out.below hW).cell (i := 1) rfl, (HT1.out.below hW).cell (i := 2) rfl, (HT1.out.below hW).cell (i := 3) rfl⟩
    clear hsh
    match ix, hi, hio with
    | 0, _, hio =>
      cases hio
      exact hwp_val (v := .pointer (some ⟨w.heap.size + 1, 1, none⟩)) (w' := W) (by simp [execOp, Act.eval, t3, go_sem]) ⟨_, rfl, rfl, hW, Below.refl _ _⟩
    | 1, _, hio =>
      cases hio
      have p0 := hpre ⟨0, .data⟩ (by simp) (by rfl) _ _ rfl rfl
      have f0 : ax.tmps[6]?.getD undef = (.pointer (some ⟨w.heap.size + 1, 1, none⟩)) := (Array.getD_eq_getD_getElem? ..).symm.trans p0
      exact hwp_val (v := .int .i64 d) (w' := W) (by simp [execOp, Act.eval, q1, f0, go_sem]) ⟨_, rfl, rfl, hW, Below.refl _ _⟩
    | 2, _, hio =>
      cases hio
      exact hwp_val (v := .pointer (some ⟨w.heap.size + 1, 0, none⟩)) (w' := W) (by simp [execOp, Act.eval, t3, go_sem]) ⟨_, rfl, rfl, hW, Below.refl _ _⟩
    | 3, _, hio =>
      cases hio
      have p2 := hpre ⟨2, .data⟩ (by simp) (by rfl) _ _ rfl rfl
      have f2 : ax.tmps[8]?.getD undef = (.pointer (some ⟨w.heap.size + 1, 0, none⟩)) := (Array.getD_eq_getD_getElem? ..).symm.trans p2
      exact hwp_val (v := .int .i64 n) (w' := W) (by simp [execOp, Act.eval, q0, f2, go_sem]) ⟨_, rfl, rfl, hW, Below.refl _ _⟩
    | 4, _, hio =>
      cases hio
      have p1 := hpre ⟨1, .data⟩ (by simp) (by rfl) _ _ rfl rfl
      have f1 : ax.tmps[7]?.getD undef = (.int .i64 d) := (Array.getD_eq_getD_getElem? ..).symm.trans p1
      have p3 := hpre ⟨3, .data⟩ (by simp) (by rfl) _ _ rfl rfl
      have f3 : ax.tmps[9]?.getD undef = (.int .i64 n) := (Array.getD_eq_getD_getElem? ..).symm.trans p3
      exact hwp_val (v := .int .i64 (d - n)) (w' := W) (by simp [execOp, Act.eval, aw, f1, f3, go_sem]) ⟨_, rfl, rfl, hW, Below.refl _ _⟩
    | 5, _, hio =>
      cases hio
      have p4 := hpre ⟨4, .data⟩ (by simp) (by rfl) _ _ rfl rfl
      have f4 : ax.tmps[10]?.getD undef = (.int .i64 (d - n)) := (Array.getD_eq_getD_getElem? ..).symm.trans p4
      refine hwp_enter (f := 113) (args := #[.int .i64 (d - n)]) (by simp [execOp, Act.eval, f4, go_sem]) ?_
      refine (cOf (d - n) (by omega) (by omega) W).mono ?_
      rintro ex wy ⟨rfl, hb⟩
      exact ⟨_, rfl, _, rfl, rfl, hW.trans (hb.mono hsz), hb⟩
    | 6, _, hio =>
      cases hio
      exact hwp_val (v := .pointer (some ⟨w.heap.size + 1, 1, none⟩)) (w' := W) (by simp [execOp, Act.eval, t3, go_sem]) ⟨_, rfl, rfl, hW, Below.refl _ _⟩
    | 7, _, hio =>
      cases hio
      have p6 := hpre ⟨6, .data⟩ (by simp) (by rfl) _ _ rfl rfl
      have f6 : ax.tmps[12]?.getD undef = (.pointer (some ⟨w.heap.size + 1, 1, none⟩)) := (Array.getD_eq_getD_getElem? ..).symm.trans p6
      exact hwp_val (v := .int .i64 d) (w' := W) (by simp [execOp, Act.eval, q1, f6, go_sem]) ⟨_, rfl, rfl, hW, Below.refl _ _⟩
    | 8, _, hio =>
      cases hio
      have p7 := hpre ⟨7, .data⟩ (by simp) (by rfl) _ _ rfl rfl
      have f7 : ax.tmps[13]?.getD undef = (.int .i64 d) := (Array.getD_eq_getD_getElem? ..).symm.trans p7
      refine hwp_enter (f := 113) (args := #[.int .i64 d]) (by simp [execOp, Act.eval, f7, go_sem]) ?_
      refine (cOf d hd0 hd2 W).mono ?_
      rintro ex wy ⟨rfl, hb⟩
      exact ⟨_, rfl, _, rfl, rfl, hW.trans (hb.mono hsz), hb⟩
    | ix + 9, hi, _ => exact absurd hi (by omega)
  · intro ax W hsh hW hφ
    have e0 : ax.tmps.getD 6 undef = (.pointer (some ⟨w.heap.size + 1, 1, none⟩)) := hφ 0 _ _ (by omega) rfl rfl
    have e1 : ax.tmps.getD 7 undef = (.int .i64 d) := hφ 1 _ _ (by omega) rfl rfl
    have e2 : ax.tmps.getD 8 undef = (.pointer (some ⟨w.heap.size + 1, 0, none⟩)) := hφ 2 _ _ (by omega) rfl rfl
    have e3 : ax.tmps.getD 9 undef = (.int .i64 n) := hφ 3 _ _ (by omega) rfl rfl
    have e4 : ax.tmps.getD 10 undef = (.int .i64 (d - n)) := hφ 4 _ _ (by omega) rfl rfl
    have e5 : ax.tmps.getD 11 undef = (.agg #[.int .u64 (hw 0 (d - n)), .int .u64 (hw 1 (d - n)), .int .u64 (hw 2 (d - n)), .int .u64 (hw 3 (d - n)), .int .u64 (hw 4 (d - n)), .int .u64 (hw 5 (d - n))]) := hφ 5 _ _ (by omega) rfl rfl
    have e6 : ax.tmps.getD 12 undef = (.pointer (some ⟨w.heap.size + 1, 1, none⟩)) := hφ 6 _ _ (by omega) rfl rfl
    have e7 : ax.tmps.getD 13 undef = (.int .i64 d) := hφ 7 _ _ (by omega) rfl rfl
    have e8 : ax.tmps.getD 14 undef = (.agg #[.int .u64 (hw 0 d), .int .u64 (hw 1 d), .int .u64 (hw 2 d), .int .u64 (hw 3 d), .int .u64 (hw 4 d), .int .u64 (hw 5 d)]) := hφ 8 _ _ (by omega) rfl rfl
    rw [shape_puts hsh [(6, .pointer (some ⟨w.heap.size + 1, 1, none⟩)), (7, .int .i64 d), (8, .pointer (some ⟨w.heap.size + 1, 0, none⟩)), (9, .int .i64 n), (10, .int .i64 (d - n)), (11, .agg #[.int .u64 (hw 0 (d - n)), .int .u64 (hw 1 (d - n)), .int .u64 (hw 2 (d - n)), .int .u64 (hw 3 (d - n)), .int .u64 (hw 4 (d - n)), .int .u64 (hw 5 (d - n))]), (12, .pointer (some ⟨w.heap.size + 1, 1, none⟩)), (13, .int .i64 d), (14, .agg #[.int .u64 (hw 0 d), .int .u64 (hw 1 d), .int .u64 (hw 2 d), .int .u64 (hw 3 d), .int .u64 (hw 4 d), .int .u64 (hw 5 d)])] [6, 7, 8, 9, 10, 11, 12, 13, 14] rfl (by kernel_rfl) ⟨e0, e1, e2, e3, e4, e5, e6, e7, e8, trivial⟩]
    clear hφ hsh e0 e1 e2 e3 e4 e5 e6 e7 e8
    simp only [putsN, List.foldl_cons, List.foldl_nil, List.drop_succ_cons, List.drop_zero, Act.put, List.setIfInBounds_toArray, List.set_cons_succ, List.set_cons_zero]
    have HBW := Lib.hid (HB.out.trans (hW.mono (by have := HT3.out.lt; omega)))
    have r2 := HT2.out.below hW
    have r3 := HT3.out.below hW
    clear hW
    refine wpList_storeH W rfl _ _ rfl (w.heap.size + 2) rfl rfl r2 ?_
    intro wy t2 g2
    simp only [Act.put]
    refine wpList_storeH wy rfl _ _ rfl (w.heap.size + 3) rfl rfl (r3.gro g2 (by omega)) ?_
    intro wz t3 g3
    simp only [Act.put]
    have t2' := t2.gro g3 (by omega)
    have HBE := Lib.hid (below_gro (below_gro HBW.out g2 HBW.out.size (by omega)) g3 (by have := HBW.out.size; have := g2.size; omega) (by omega))
    have x0 := t2'.cell (i := 0) rfl
    have y0 := t3.cell (i := 0) rfl
    have x1 := t2'.cell (i := 1) rfl
    have y1 := t3.cell (i := 1) rfl
    have x2 := t2'.cell (i := 2) rfl
    have y2 := t3.cell (i := 2) rfl
    have x3 := t2'.cell (i := 3) rfl
    have y3 := t3.cell (i := 3) rfl
    have x4 := t2'.cell (i := 4) rfl
    have y4 := t3.cell (i := 4) rfl
    have x5 := t2'.cell (i := 5) rfl
    have y5 := t3.cell (i := 5) rfl
    clear t2 t2' t3 g2 g3 r2 r3 HBW
    go_wp2_with fail
    exact bodyPost_ret (v := .tuple #[.agg #[.int .u64 (hw 0 (d - n)), .int .u64 (hw 1 (d - n)), .int .u64 (hw 2 (d - n)), .int .u64 (hw 3 (d - n)), .int .u64 (hw 4 (d - n)), .int .u64 (hw 5 (d - n))], .agg #[.int .u64 (hw 0 d), .int .u64 (hw 1 d), .int .u64 (hw 2 d), .int .u64 (hw 3 d), .int .u64 (hw 4 d), .int .u64 (hw 5 d)]]) (by simp [results, Try.results150, go_sem, x0, y0, x1, y1, x2, y2, x3, y3, x4, y4, x5, y5]) rfl ⟨rfl, HBE.out⟩
end Go.Proofs.Ytopmdeefcjdadaa
