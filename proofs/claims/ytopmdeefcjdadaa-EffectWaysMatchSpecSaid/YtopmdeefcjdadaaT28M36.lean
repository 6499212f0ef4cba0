/- The wave square. (printed by wip/gen/gen_waves2.py) -/
import Derived.Test.YtopmdeefcjdadaaT28M24
import Derived.Test.YtopmdeefcjdadaaT28M25

namespace Go.Proofs.Ytopmdeefcjdadaa
open Go.RowKit
set_option linter.unusedVariables false
set_option linter.unusedSimpArgs false

set_option maxRecDepth 100000 in
set_option maxHeartbeats 8000000 in
theorem square_any (wd n d k i : Int) (w : World) (hw0 : 0 ≤ wd) (hw1' : wd ≤ 1000) (hd9 : d ≤ 1000000000000000) (hn0 : 0 ≤ n) (hnd : n ≤ d) (hd1 : d ≤ 1000000000000000000) :
    Calls Try.prog 151 #[.agg #[.int .i64 wd], .agg #[.int .i64 n, .int .i64 d, .int .i64 k, .int .i64 i]] w fun e w' => e = .returned (.tuple #[.agg #[.int .u64 (hw 0 (sqN wd n d)), .int .u64 (hw 1 (sqN wd n d)), .int .u64 (hw 2 (sqN wd n d)), .int .u64 (hw 3 (sqN wd n d)), .int .u64 (hw 4 (sqN wd n d)), .int .u64 (hw 5 (sqN wd n d))], .agg #[.int .u64 (hw 0 1), .int .u64 (hw 1 1), .int .u64 (hw 2 1), .int .u64 (hw 3 1), .int .u64 (hw 4 1), .int .u64 (hw 5 1)]]) ∧ Below w.heap.size w w' := by
  have hd0 : 0 ≤ d := by omega
  have hd2 : d ≤ 9223372036854775807 := by omega
  have hwd1 : 0 ≤ wd * d := Int.mul_nonneg hw0 hd0
  have hwd2 : wd * d ≤ 1000 * d := Int.mul_le_mul_of_nonneg_right hw1' hd0
  have a1 : IntKind.i64.wrap (n * 1000) = n * 1000 := IntWalk.i64_in _ (by omega)
  have a2 : IntKind.i64.wrap (wd * d) = wd * d := IntWalk.i64_in _ (by omega)
  have HT0 := Lib.hid (show TBox ((((w.alloc (.cells #[.int .i64 wd] 157)).alloc (.cells #[.int .i64 n, .int .i64 d, .int .i64 k, .int .i64 i] 119)).alloc (.cells #[.int .u64 0, .int .u64 0, .int .u64 0, .int .u64 0, .int .u64 0, .int .u64 0] 77)).alloc (.cells #[.int .u64 0, .int .u64 0, .int .u64 0, .int .u64 0, .int .u64 0, .int .u64 0] 77)) w.heap.size 157 #[.int .i64 wd] from (((TBox.new w #[.int .i64 wd] 157).alloc _).alloc _).alloc _)
  have HT1 := Lib.hid (show TBox ((((w.alloc (.cells #[.int .i64 wd] 157)).alloc (.cells #[.int .i64 n, .int .i64 d, .int .i64 k, .int .i64 i] 119)).alloc (.cells #[.int .u64 0, .int .u64 0, .int .u64 0, .int .u64 0, .int .u64 0, .int .u64 0] 77)).alloc (.cells #[.int .u64 0, .int .u64 0, .int .u64 0, .int .u64 0, .int .u64 0, .int .u64 0] 77)) (w.heap.size + 1) 119 #[.int .i64 n, .int .i64 d, .int .i64 k, .int .i64 i] from by
    have h := ((TBox.new (w.alloc (.cells #[.int .i64 wd] 157)) #[.int .i64 n, .int .i64 d, .int .i64 k, .int .i64 i] 119).alloc (.cells #[.int .u64 0, .int .u64 0, .int .u64 0, .int .u64 0, .int .u64 0, .int .u64 0] 77)).alloc (.cells #[.int .u64 0, .int .u64 0, .int .u64 0, .int .u64 0, .int .u64 0, .int .u64 0] 77)
    simpa only [World.size_alloc] using h)
  have HT2 := Lib.hid (show TBox ((((w.alloc (.cells #[.int .i64 wd] 157)).alloc (.cells #[.int .i64 n, .int .i64 d, .int .i64 k, .int .i64 i] 119)).alloc (.cells #[.int .u64 0, .int .u64 0, .int .u64 0, .int .u64 0, .int .u64 0, .int .u64 0] 77)).alloc (.cells #[.int .u64 0, .int .u64 0, .int .u64 0, .int .u64 0, .int .u64 0, .int .u64 0] 77)) (w.heap.size + 2) 77 #[.int .u64 0, .int .u64 0, .int .u64 0, .int .u64 0, .int .u64 0, .int .u64 0] from by
    have h := (TBox.new ((w.alloc (.cells #[.int .i64 wd] 157)).alloc (.cells #[.int .i64 n, .int .i64 d, .int .i64 k, .int .i64 i] 119)) #[.int .u64 0, .int .u64 0, .int .u64 0, .int .u64 0, .int .u64 0, .int .u64 0] 77).alloc (.cells #[.int .u64 0, .int .u64 0, .int .u64 0, .int .u64 0, .int .u64 0, .int .u64 0] 77)
    simpa only [World.size_alloc] using h)
  have HT3 := Lib.hid (show TBox ((((w.alloc (.cells #[.int .i64 wd] 157)).alloc (.cells #[.int .i64 n, .int .i64 d, .int .i64 k, .int .i64 i] 119)).alloc (.cells #[.int .u64 0, .int .u64 0, .int .u64 0, .int .u64 0, .int .u64 0, .int .u64 0] 77)).alloc (.cells #[.int .u64 0, .int .u64 0, .int .u64 0, .int .u64 0, .int .u64 0, .int .u64 0] 77)) (w.heap.size + 3) 77 #[.int .u64 0, .int .u64 0, .int .u64 0, .int .u64 0, .int .u64 0, .int .u64 0] from by
    have h := TBox.new (((w.alloc (.cells #[.int .i64 wd] 157)).alloc (.cells #[.int .i64 n, .int .i64 d, .int .i64 k, .int .i64 i] 119)).alloc (.cells #[.int .u64 0, .int .u64 0, .int .u64 0, .int .u64 0, .int .u64 0, .int .u64 0] 77)) #[.int .u64 0, .int .u64 0, .int .u64 0, .int .u64 0, .int .u64 0, .int .u64 0] 77
    simpa only [World.size_alloc] using h)
  have HB := Lib.hid (show Below w.heap.size w ((((w.alloc (.cells #[.int .i64 wd] 157)).alloc (.cells #[.int .i64 n, .int .i64 d, .int .i64 k, .int .i64 i] 119)).alloc (.cells #[.int .u64 0, .int .u64 0, .int .u64 0, .int .u64 0, .int .u64 0, .int .u64 0] 77)).alloc (.cells #[.int .u64 0, .int .u64 0, .int .u64 0, .int .u64 0, .int .u64 0, .int .u64 0] 77)) from ((((Below.refl _ _).alloc (Nat.le_refl _) _).alloc (by simp) _).alloc (by simp; omega) _).alloc (by simp; omega) _)
  go_enter Try.func151, Try.ntmps151
  go_upto_region 1 with fail
  generalize hw1 : ((((w.alloc (.cells #[.int .i64 wd] 157)).alloc (.cells #[.int .i64 n, .int .i64 d, .int .i64 k, .int .i64 i] 119)).alloc (.cells #[.int .u64 0, .int .u64 0, .int .u64 0, .int .u64 0, .int .u64 0, .int .u64 0] 77)).alloc (.cells #[.int .u64 0, .int .u64 0, .int .u64 0, .int .u64 0, .int .u64 0, .int .u64 0] 77)) = w1 at *
  clear hw1
  have q0 : w1.cell? ⟨w.heap.size + 1, 0, none⟩ = some (.int .i64 n) := HT1.out.cell (i := 0) rfl
  have q1 : w1.cell? ⟨w.heap.size + 1, 1, none⟩ = some (.int .i64 d) := HT1.out.cell (i := 1) rfl
  have q2 : w1.cell? ⟨w.heap.size, 0, none⟩ = some (.int .i64 wd) := HT0.out.cell (i := 0) rfl
  have ql := HT1.out.lt
  by_cases hc : n * 1000 < wd * d
  · have HVV := Lib.hid (show (1 : Int) = sqN wd n d from (if_pos hc).symm)
    have hc' : decide (n * 1000 < wd * d) = true := by simpa using hc
    go_wp2_with fail
    refine (cOf 1 (by omega) (by omega) _).mono ?_
    rintro e wa ⟨rfl, hba⟩
    have HTA2 := Lib.hid (HT2.out.below hba)
    have HTA3 := Lib.hid (HT3.out.below hba)
    have HBa := Lib.hid (HB.out.trans (hba.mono (by have := HT3.out.lt; omega)))
    clear hba
    go_wp2_with fail
    refine (cOf 1 (by omega) (by omega) _).mono ?_
    rintro e wb ⟨rfl, hbb⟩
    have r2 := HTA2.out.below hbb
    have r3 := HTA3.out.below hbb
    have HBb := Lib.hid (HBa.out.trans (hbb.mono (by have := HTA3.out.lt; omega)))
    clear hbb
    have x0 : wb.cell? ⟨w.heap.size + 1 + 1, 0, none⟩ = _ := r2.cell (i := 0) rfl
    have xf0 : wb.frozen? ⟨w.heap.size + 1 + 1, 0, none⟩ = _ := r2.frozen 0
    have y0 : wb.cell? ⟨w.heap.size + 1 + 1 + 1, 0, none⟩ = _ := r3.cell (i := 0) rfl
    have yf0 : wb.frozen? ⟨w.heap.size + 1 + 1 + 1, 0, none⟩ = _ := r3.frozen 0
    have x1 : wb.cell? ⟨w.heap.size + 1 + 1, 1, none⟩ = _ := r2.cell (i := 1) rfl
    have xf1 : wb.frozen? ⟨w.heap.size + 1 + 1, 1, none⟩ = _ := r2.frozen 1
    have y1 : wb.cell? ⟨w.heap.size + 1 + 1 + 1, 1, none⟩ = _ := r3.cell (i := 1) rfl
    have yf1 : wb.frozen? ⟨w.heap.size + 1 + 1 + 1, 1, none⟩ = _ := r3.frozen 1
    have x2 : wb.cell? ⟨w.heap.size + 1 + 1, 2, none⟩ = _ := r2.cell (i := 2) rfl
    have xf2 : wb.frozen? ⟨w.heap.size + 1 + 1, 2, none⟩ = _ := r2.frozen 2
    have y2 : wb.cell? ⟨w.heap.size + 1 + 1 + 1, 2, none⟩ = _ := r3.cell (i := 2) rfl
    have yf2 : wb.frozen? ⟨w.heap.size + 1 + 1 + 1, 2, none⟩ = _ := r3.frozen 2
    have x3 : wb.cell? ⟨w.heap.size + 1 + 1, 3, none⟩ = _ := r2.cell (i := 3) rfl
    have xf3 : wb.frozen? ⟨w.heap.size + 1 + 1, 3, none⟩ = _ := r2.frozen 3
    have y3 : wb.cell? ⟨w.heap.size + 1 + 1 + 1, 3, none⟩ = _ := r3.cell (i := 3) rfl
    have yf3 : wb.frozen? ⟨w.heap.size + 1 + 1 + 1, 3, none⟩ = _ := r3.frozen 3
    have x4 : wb.cell? ⟨w.heap.size + 1 + 1, 4, none⟩ = _ := r2.cell (i := 4) rfl
    have xf4 : wb.frozen? ⟨w.heap.size + 1 + 1, 4, none⟩ = _ := r2.frozen 4
    have y4 : wb.cell? ⟨w.heap.size + 1 + 1 + 1, 4, none⟩ = _ := r3.cell (i := 4) rfl
    have yf4 : wb.frozen? ⟨w.heap.size + 1 + 1 + 1, 4, none⟩ = _ := r3.frozen 4
    have x5 : wb.cell? ⟨w.heap.size + 1 + 1, 5, none⟩ = _ := r2.cell (i := 5) rfl
    have xf5 : wb.frozen? ⟨w.heap.size + 1 + 1, 5, none⟩ = _ := r2.frozen 5
    have y5 : wb.cell? ⟨w.heap.size + 1 + 1 + 1, 5, none⟩ = _ := r3.cell (i := 5) rfl
    have yf5 : wb.frozen? ⟨w.heap.size + 1 + 1 + 1, 5, none⟩ = _ := r3.frozen 5
    have HBE := Lib.hid (fun (u0 u1 u2 u3 u4 u5 v0 v1 v2 v3 v4 v5 : Value) => ((((((((((((HBb.out.setCell (p := ⟨w.heap.size + 1 + 1, 0, none⟩) (by simp; omega) u0).setCell (p := ⟨w.heap.size + 1 + 1, 1, none⟩) (by simp; omega) u1).setCell (p := ⟨w.heap.size + 1 + 1, 2, none⟩) (by simp; omega) u2).setCell (p := ⟨w.heap.size + 1 + 1, 3, none⟩) (by simp; omega) u3).setCell (p := ⟨w.heap.size + 1 + 1, 4, none⟩) (by simp; omega) u4).setCell (p := ⟨w.heap.size + 1 + 1, 5, none⟩) (by simp; omega) u5).setCell (p := ⟨w.heap.size + 1 + 1 + 1, 0, none⟩) (by simp; omega) v0).setCell (p := ⟨w.heap.size + 1 + 1 + 1, 1, none⟩) (by simp; omega) v1).setCell (p := ⟨w.heap.size + 1 + 1 + 1, 2, none⟩) (by simp; omega) v2).setCell (p := ⟨w.heap.size + 1 + 1 + 1, 3, none⟩) (by simp; omega) v3).setCell (p := ⟨w.heap.size + 1 + 1 + 1, 4, none⟩) (by simp; omega) v4).setCell (p := ⟨w.heap.size + 1 + 1 + 1, 5, none⟩) (by simp; omega) v5))
    clear r2 r3
    go_wp2_with fail
    exact bodyPost_ret (v := .tuple #[.agg #[.int .u64 (hw 0 1), .int .u64 (hw 1 1), .int .u64 (hw 2 1), .int .u64 (hw 3 1), .int .u64 (hw 4 1), .int .u64 (hw 5 1)], .agg #[.int .u64 (hw 0 1), .int .u64 (hw 1 1), .int .u64 (hw 2 1), .int .u64 (hw 3 1), .int .u64 (hw 4 1), .int .u64 (hw 5 1)]]) (by simp [results, Try.results151, go_sem, x0, y0, x1, y1, x2, y2, x3, y3, x4, y4, x5, y5]) rfl ⟨by rw [← HVV.out], HBE.out _ _ _ _ _ _ _ _ _ _ _ _⟩
  · have HVV := Lib.hid (show (0 : Int) = sqN wd n d from (if_neg hc).symm)
    have hc' : decide (n * 1000 < wd * d) = false := by simpa using hc
    go_wp2_with fail
    refine (cOf 0 (by omega) (by omega) _).mono ?_
    rintro e wa ⟨rfl, hba⟩
    have HTA2 := Lib.hid (HT2.out.below hba)
    have HTA3 := Lib.hid (HT3.out.below hba)
    have HBa := Lib.hid (HB.out.trans (hba.mono (by have := HT3.out.lt; omega)))
    clear hba
    go_wp2_with fail
    refine (cOf 1 (by omega) (by omega) _).mono ?_
    rintro e wb ⟨rfl, hbb⟩
    have r2 := HTA2.out.below hbb
    have r3 := HTA3.out.below hbb
    have HBb := Lib.hid (HBa.out.trans (hbb.mono (by have := HTA3.out.lt; omega)))
    clear hbb
    have x0 : wb.cell? ⟨w.heap.size + 1 + 1, 0, none⟩ = _ := r2.cell (i := 0) rfl
    have xf0 : wb.frozen? ⟨w.heap.size + 1 + 1, 0, none⟩ = _ := r2.frozen 0
    have y0 : wb.cell? ⟨w.heap.size + 1 + 1 + 1, 0, none⟩ = _ := r3.cell (i := 0) rfl
    have yf0 : wb.frozen? ⟨w.heap.size + 1 + 1 + 1, 0, none⟩ = _ := r3.frozen 0
    have x1 : wb.cell? ⟨w.heap.size + 1 + 1, 1, none⟩ = _ := r2.cell (i := 1) rfl
    have xf1 : wb.frozen? ⟨w.heap.size + 1 + 1, 1, none⟩ = _ := r2.frozen 1
    have y1 : wb.cell? ⟨w.heap.size + 1 + 1 + 1, 1, none⟩ = _ := r3.cell (i := 1) rfl
    have yf1 : wb.frozen? ⟨w.heap.size + 1 + 1 + 1, 1, none⟩ = _ := r3.frozen 1
    have x2 : wb.cell? ⟨w.heap.size + 1 + 1, 2, none⟩ = _ := r2.cell (i := 2) rfl
    have xf2 : wb.frozen? ⟨w.heap.size + 1 + 1, 2, none⟩ = _ := r2.frozen 2
    have y2 : wb.cell? ⟨w.heap.size + 1 + 1 + 1, 2, none⟩ = _ := r3.cell (i := 2) rfl
    have yf2 : wb.frozen? ⟨w.heap.size + 1 + 1 + 1, 2, none⟩ = _ := r3.frozen 2
    have x3 : wb.cell? ⟨w.heap.size + 1 + 1, 3, none⟩ = _ := r2.cell (i := 3) rfl
    have xf3 : wb.frozen? ⟨w.heap.size + 1 + 1, 3, none⟩ = _ := r2.frozen 3
    have y3 : wb.cell? ⟨w.heap.size + 1 + 1 + 1, 3, none⟩ = _ := r3.cell (i := 3) rfl
    have yf3 : wb.frozen? ⟨w.heap.size + 1 + 1 + 1, 3, none⟩ = _ := r3.frozen 3
    have x4 : wb.cell? ⟨w.heap.size + 1 + 1, 4, none⟩ = _ := r2.cell (i := 4) rfl
    have xf4 : wb.frozen? ⟨w.heap.size + 1 + 1, 4, none⟩ = _ := r2.frozen 4
    have y4 : wb.cell? ⟨w.heap.size + 1 + 1 + 1, 4, none⟩ = _ := r3.cell (i := 4) rfl
    have yf4 : wb.frozen? ⟨w.heap.size + 1 + 1 + 1, 4, none⟩ = _ := r3.frozen 4
    have x5 : wb.cell? ⟨w.heap.size + 1 + 1, 5, none⟩ = _ := r2.cell (i := 5) rfl
    have xf5 : wb.frozen? ⟨w.heap.size + 1 + 1, 5, none⟩ = _ := r2.frozen 5
    have y5 : wb.cell? ⟨w.heap.size + 1 + 1 + 1, 5, none⟩ = _ := r3.cell (i := 5) rfl
    have yf5 : wb.frozen? ⟨w.heap.size + 1 + 1 + 1, 5, none⟩ = _ := r3.frozen 5
    have HBE := Lib.hid (fun (u0 u1 u2 u3 u4 u5 v0 v1 v2 v3 v4 v5 : Value) => ((((((((((((HBb.out.setCell (p := ⟨w.heap.size + 1 + 1, 0, none⟩) (by simp; omega) u0).setCell (p := ⟨w.heap.size + 1 + 1, 1, none⟩) (by simp; omega) u1).setCell (p := ⟨w.heap.size + 1 + 1, 2, none⟩) (by simp; omega) u2).setCell (p := ⟨w.heap.size + 1 + 1, 3, none⟩) (by simp; omega) u3).setCell (p := ⟨w.heap.size + 1 + 1, 4, none⟩) (by simp; omega) u4).setCell (p := ⟨w.heap.size + 1 + 1, 5, none⟩) (by simp; omega) u5).setCell (p := ⟨w.heap.size + 1 + 1 + 1, 0, none⟩) (by simp; omega) v0).setCell (p := ⟨w.heap.size + 1 + 1 + 1, 1, none⟩) (by simp; omega) v1).setCell (p := ⟨w.heap.size + 1 + 1 + 1, 2, none⟩) (by simp; omega) v2).setCell (p := ⟨w.heap.size + 1 + 1 + 1, 3, none⟩) (by simp; omega) v3).setCell (p := ⟨w.heap.size + 1 + 1 + 1, 4, none⟩) (by simp; omega) v4).setCell (p := ⟨w.heap.size + 1 + 1 + 1, 5, none⟩) (by simp; omega) v5))
    clear r2 r3
    go_wp2_with fail
    exact bodyPost_ret (v := .tuple #[.agg #[.int .u64 (hw 0 0), .int .u64 (hw 1 0), .int .u64 (hw 2 0), .int .u64 (hw 3 0), .int .u64 (hw 4 0), .int .u64 (hw 5 0)], .agg #[.int .u64 (hw 0 1), .int .u64 (hw 1 1), .int .u64 (hw 2 1), .int .u64 (hw 3 1), .int .u64 (hw 4 1), .int .u64 (hw 5 1)]]) (by simp [results, Try.results151, go_sem, x0, y0, x1, y1, x2, y2, x3, y3, x4, y4, x5, y5]) rfl ⟨by rw [← HVV.out], HBE.out _ _ _ _ _ _ _ _ _ _ _ _⟩
end Go.Proofs.Ytopmdeefcjdadaa
