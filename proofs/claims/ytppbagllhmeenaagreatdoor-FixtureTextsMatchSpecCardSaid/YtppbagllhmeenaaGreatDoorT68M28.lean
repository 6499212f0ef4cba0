/- The reference's readRange at any words. (printed by wip/gen/gen_rlibrange.py) -/
import Derived.Test.YtppbagllhmeenaaGreatDoorT68M25
import Derived.Test.YtppbagllhmeenaaGreatDoorT68M27

namespace Go.Proofs.YtppbagllhmeenaaGreatDoor
open Go.RowKit
open Go.ChangeShapes
set_option linter.unusedVariables false
set_option linter.unusedSimpArgs false

set_option maxRecDepth 100000 in
set_option maxHeartbeats 8000000 in
theorem rreadRange_any (L : List ByteArray) (wb : Nat) (w : World) (hr : RowS w wb 0 L) (hwb : wb < w.heap.size) (hsz : ∀ x ∈ L, x.size ≤ 200000) (hl : L.length ≤ 200001) :
    Calls Tryz.prog 67 #[.slice (some ⟨wb, 0, none⟩) L.length L.length] w (RdR (rngW L) w) := by
  have HPO := Lib.hid (show ∀ e w', (∃ (a b : Int) (n : ByteArray), e = .returned (.tuple #[.agg #[.int .i64 a, .int .i64 b, .string n], .bool (rngW L).isSome]) ∧ (∀ r, rngW L = some r → r = ⟨a, b, n⟩) ∧ Below w.heap.size w w') → RdR (rngW L) w e w' from fun e w' h => h)
  generalize RdR (rngW L) w = PO at *
  have HB0 := Lib.hid (show Below w.heap.size w (w.alloc (.cells #[.int .i64 0, .int .i64 0, .string ⟨#[]⟩] 75)) from (Below.refl _ _).alloc (Nat.le_refl _) _)
  have B0 := Lib.hid (TBox.new w #[.int .i64 0, .int .i64 0, .string ⟨#[]⟩] 75)
  have HR := Lib.hid hr
  have HSZ := Lib.hid hsz
  clear hr hsz
  by_cases h3 : L.length = 3
  rotate_left
  · have HN := Lib.hid (rngW_no h3)
    have h3i : (((L.length : Nat) : Int) != 3) = true := by simp; omega
    have h3j : ¬ ((L.length : Nat) : Int) = 3 := by omega
    generalize rngW L = RES at *
    generalize L.length = n at *
    clear h3 HR HSZ
    go_enter Tryz.func67, Tryz.ntmps67
    go_upto_region 1 with fail
    obtain ⟨w2, hw2⟩ : ∃ x : World, x = w.alloc (.cells #[.int .i64 0, .int .i64 0, .string ⟨#[]⟩] 75) := ⟨_, rfl⟩
    rw [← hw2] at HB0 B0 ⊢
    clear hw2
    have BX := B0.out
    have q0 := BX.cell (i := 0) rfl
    have f0 := BX.frozen 0
    have q1 := BX.cell (i := 1) rfl
    have f1 := BX.frozen 1
    have q2 := BX.cell (i := 2) rfl
    have f2 := BX.frozen 2
    have ql := BX.lt
    go_wp2_with fail
    have BY : TBox (((w2.setCell ⟨w.heap.size, 0, none⟩ (.int .i64 0)).setCell ⟨w.heap.size, 1, none⟩ (.int .i64 0)).setCell ⟨w.heap.size, 2, none⟩ (.string ⟨#[]⟩)) w.heap.size 75 #[.int .i64 0, .int .i64 0, .string ⟨#[]⟩] := (((BX.set 0 (.int .i64 0)).set 1 (.int .i64 0)).set 2 (.string ⟨#[]⟩))
    have HY : Below w.heap.size w (((w2.setCell ⟨w.heap.size, 0, none⟩ (.int .i64 0)).setCell ⟨w.heap.size, 1, none⟩ (.int .i64 0)).setCell ⟨w.heap.size, 2, none⟩ (.string ⟨#[]⟩)) := (((HB0.out.setCell (Nat.le_refl _) (.int .i64 0)).setCell (Nat.le_refl _) (.int .i64 0)).setCell (Nat.le_refl _) (.string ⟨#[]⟩))
    have R0 := BY.cell (i := 0) rfl
    have R1 := BY.cell (i := 1) rfl
    have R2 := BY.cell (i := 2) rfl
    generalize (((w2.setCell ⟨w.heap.size, 0, none⟩ (.int .i64 0)).setCell ⟨w.heap.size, 1, none⟩ (.int .i64 0)).setCell ⟨w.heap.size, 2, none⟩ (.string ⟨#[]⟩)) = W9 at *
    exact bodyPost_ret (v := .tuple #[.agg #[.int .i64 0, .int .i64 0, .string ⟨#[]⟩], .bool false]) (by simp [results, Tryz.results67, go_sem, R0, R1, R2]) rfl (HPO.out _ _ ⟨0, 0, ⟨#[]⟩, by rw [HN.out]; rfl, fun r h => (by rw [HN.out] at h; cases h), HY⟩)
  obtain ⟨a, b, c, rfl⟩ := slist3 h3
  have r0 : w.cell? ⟨wb, 0, none⟩ = some (.string a) := HR.out 0 (by simp)
  have r1 : w.cell? ⟨wb, 1, none⟩ = some (.string b) := HR.out 1 (by simp)
  have r2 : w.cell? ⟨wb, 2, none⟩ = some (.string c) := HR.out 2 (by simp)
  have sa : a.size ≤ 200000 := HSZ.out a (by simp)
  have sb : b.size ≤ 200000 := HSZ.out b (by simp)
  have sc : c.size ≤ 200000 := HSZ.out c (by simp)
  have HRW := Lib.hid (fun W => isWord_any c W (by unfold maxLen; omega))
  have HE := Lib.hid (rngW_three a b c)
  generalize rngW [a, b, c] = RES at *
  clear HR h3 HSZ hl
  obtain ⟨x, f, hx1, hx2⟩ := rlread_f a (by omega)
  obtain ⟨y, g, hy1, hy2⟩ := rlread_f b (by omega)
  have CX := Lib.hid hx1
  have CY := Lib.hid hy1
  have HXV := Lib.hid hx2
  have HYV := Lib.hid hy2
  clear hx1 hx2 hy1 hy2
  generalize rowB c.data.toList = rb at *
  go_enter Tryz.func67, Tryz.ntmps67
  go_upto_region 1 with fail
  obtain ⟨w2, hw2⟩ : ∃ x : World, x = w.alloc (.cells #[.int .i64 0, .int .i64 0, .string ⟨#[]⟩] 75) := ⟨_, rfl⟩
  rw [← hw2] at HB0 B0 ⊢
  clear hw2
  have r0 := (HB0.out.cell (p := ⟨wb, 0, none⟩) hwb).trans r0
  have r1 := (HB0.out.cell (p := ⟨wb, 1, none⟩) hwb).trans r1
  have r2 := (HB0.out.cell (p := ⟨wb, 2, none⟩) hwb).trans r2
  have hlt2 : wb < w2.heap.size := by have := HB0.out.size; omega
  go_wp2_with fail
  refine (CX.out _).mono ?_
  rintro e1 w3 ⟨rfl, hb⟩
  have r1 := (hb.cell (p := ⟨wb, 1, none⟩) hlt2).trans r1
  have r2 := (hb.cell (p := ⟨wb, 2, none⟩) hlt2).trans r2
  have hlt3 : wb < w3.heap.size := Nat.lt_of_lt_of_le hlt2 hb.size
  have HB3 := Lib.hid (HB0.out.trans (hb.mono HB0.out.size))
  have B3 := Lib.hid (B0.out.below hb)
  clear hb r0 hlt2 HB0 B0 CX
  go_wp2_with fail
  refine (CY.out _).mono ?_
  rintro e1 w4 ⟨rfl, hb⟩
  have r2 := (hb.cell (p := ⟨wb, 2, none⟩) hlt3).trans r2
  have HB4 := Lib.hid (HB3.out.trans (hb.mono HB3.out.size))
  have hlt4 : wb < w4.heap.size := Nat.lt_of_lt_of_le hlt3 hb.size
  have B4 := Lib.hid (B3.out.below hb)
  clear hb r1 hlt3 HB3 B3 CY
  have BX := B4.out
  have q0 := BX.cell (i := 0) rfl
  have f0 := BX.frozen 0
  have q1 := BX.cell (i := 1) rfl
  have f1 := BX.frozen 1
  have q2 := BX.cell (i := 2) rfl
  have f2 := BX.frozen 2
  have ql := BX.lt
  clear BX
  rcases HXV.out with ⟨rfl, hx⟩ | ⟨rfl, hx⟩
  · rcases HYV.out with ⟨rfl, hy⟩ | ⟨rfl, hy⟩
    · cases rb
      · have HN := Lib.hid (show RES = none from HE.out)
        clear HE HXV HYV
        have KP := Lib.hid (fun W (h : Below w.heap.size w4 W) => (h.cell (p := ⟨wb, 2, none⟩) hwb).trans r2)
        go_upto_region 5 with fail
        go_region_held3 (fun W => W.cell? ⟨wb, 2, none⟩ = some (.string c))
          (exact KP.out _ (by repeat' first | exact Below.refl _ _ | refine Below.drew ?_ | refine Below.setCell ?_ (by show w.heap.size ≤ w.heap.size; exact Nat.le_refl _) _))
          (first
            | (go_at_call 53; (with_reducible refine (HRW.out _).mono ?_); rintro e w' ⟨rfl, rfl⟩)
            | fail)
        all_goals go_wp2_with fail
        all_goals first
          | (have BY : TBox (((w4.drew.setCell ⟨w.heap.size, 0, none⟩ (.int .i64 x)).setCell ⟨w.heap.size, 1, none⟩ (.int .i64 y)).setCell ⟨w.heap.size, 2, none⟩ (.string c)) w.heap.size 75 #[.int .i64 x, .int .i64 y, .string c] := (show TBox w4.drew w.heap.size 75 #[.int .i64 0, .int .i64 0, .string ⟨#[]⟩] from B4.out).set 0 (.int .i64 x).set 1 (.int .i64 y).set 2 (.string c)
             have HY : Below w.heap.size w (((w4.drew.setCell ⟨w.heap.size, 0, none⟩ (.int .i64 x)).setCell ⟨w.heap.size, 1, none⟩ (.int .i64 y)).setCell ⟨w.heap.size, 2, none⟩ (.string c)) := (((HB4.out.drew.setCell (Nat.le_refl _) (.int .i64 x)).setCell (Nat.le_refl _) (.int .i64 y)).setCell (Nat.le_refl _) (.string c))
             have R0 := BY.cell (i := 0) rfl
             have R1 := BY.cell (i := 1) rfl
             have R2 := BY.cell (i := 2) rfl
             generalize (((w4.drew.setCell ⟨w.heap.size, 0, none⟩ (.int .i64 x)).setCell ⟨w.heap.size, 1, none⟩ (.int .i64 y)).setCell ⟨w.heap.size, 2, none⟩ (.string c)) = W9 at *
             exact bodyPost_ret (v := .tuple #[.agg #[.int .i64 x, .int .i64 y, .string c], .bool false]) (by simp [results, Tryz.results67, go_sem, R0, R1, R2]) rfl (HPO.out _ _ ⟨x, y, c, by rw [HN.out]; rfl, fun r h => (by rw [HN.out] at h; cases h), HY⟩))
          | (have BY : TBox (((w4.setCell ⟨w.heap.size, 0, none⟩ (.int .i64 x)).setCell ⟨w.heap.size, 1, none⟩ (.int .i64 y)).setCell ⟨w.heap.size, 2, none⟩ (.string c)).drew w.heap.size 75 #[.int .i64 x, .int .i64 y, .string c] := (((B4.out.set 0 (.int .i64 x)).set 1 (.int .i64 y)).set 2 (.string c))
             have HY : Below w.heap.size w (((w4.setCell ⟨w.heap.size, 0, none⟩ (.int .i64 x)).setCell ⟨w.heap.size, 1, none⟩ (.int .i64 y)).setCell ⟨w.heap.size, 2, none⟩ (.string c)).drew := ((((HB4.out.setCell (Nat.le_refl _) (.int .i64 x)).setCell (Nat.le_refl _) (.int .i64 y)).setCell (Nat.le_refl _) (.string c))).drew
             have R0 := BY.cell (i := 0) rfl
             have R1 := BY.cell (i := 1) rfl
             have R2 := BY.cell (i := 2) rfl
             generalize (((w4.setCell ⟨w.heap.size, 0, none⟩ (.int .i64 x)).setCell ⟨w.heap.size, 1, none⟩ (.int .i64 y)).setCell ⟨w.heap.size, 2, none⟩ (.string c)).drew = W9 at *
             exact bodyPost_ret (v := .tuple #[.agg #[.int .i64 x, .int .i64 y, .string c], .bool false]) (by simp [results, Tryz.results67, go_sem, R0, R1, R2]) rfl (HPO.out _ _ ⟨x, y, c, by rw [HN.out]; rfl, fun r h => (by rw [HN.out] at h; cases h), HY⟩))

      · have HN := Lib.hid (show RES = some ⟨x, y, c⟩ by rw [HE.out, if_pos rfl, hx, hy]; rfl)
        clear HE HXV HYV
        have KP := Lib.hid (fun W (h : Below w.heap.size w4 W) => (h.cell (p := ⟨wb, 2, none⟩) hwb).trans r2)
        go_upto_region 5 with fail
        go_region_held3 (fun W => W.cell? ⟨wb, 2, none⟩ = some (.string c))
          (exact KP.out _ (by repeat' first | exact Below.refl _ _ | refine Below.drew ?_ | refine Below.setCell ?_ (by show w.heap.size ≤ w.heap.size; exact Nat.le_refl _) _))
          (first
            | (go_at_call 53; (with_reducible refine (HRW.out _).mono ?_); rintro e w' ⟨rfl, rfl⟩)
            | fail)
        all_goals go_wp2_with fail
        all_goals first
          | (have BY : TBox (((w4.drew.setCell ⟨w.heap.size, 0, none⟩ (.int .i64 x)).setCell ⟨w.heap.size, 1, none⟩ (.int .i64 y)).setCell ⟨w.heap.size, 2, none⟩ (.string c)) w.heap.size 75 #[.int .i64 x, .int .i64 y, .string c] := (show TBox w4.drew w.heap.size 75 #[.int .i64 0, .int .i64 0, .string ⟨#[]⟩] from B4.out).set 0 (.int .i64 x).set 1 (.int .i64 y).set 2 (.string c)
             have HY : Below w.heap.size w (((w4.drew.setCell ⟨w.heap.size, 0, none⟩ (.int .i64 x)).setCell ⟨w.heap.size, 1, none⟩ (.int .i64 y)).setCell ⟨w.heap.size, 2, none⟩ (.string c)) := (((HB4.out.drew.setCell (Nat.le_refl _) (.int .i64 x)).setCell (Nat.le_refl _) (.int .i64 y)).setCell (Nat.le_refl _) (.string c))
             have R0 := BY.cell (i := 0) rfl
             have R1 := BY.cell (i := 1) rfl
             have R2 := BY.cell (i := 2) rfl
             generalize (((w4.drew.setCell ⟨w.heap.size, 0, none⟩ (.int .i64 x)).setCell ⟨w.heap.size, 1, none⟩ (.int .i64 y)).setCell ⟨w.heap.size, 2, none⟩ (.string c)) = W9 at *
             exact bodyPost_ret (v := .tuple #[.agg #[.int .i64 x, .int .i64 y, .string c], .bool true]) (by simp [results, Tryz.results67, go_sem, R0, R1, R2]) rfl (HPO.out _ _ ⟨x, y, c, by rw [HN.out]; rfl, fun r h => (by rw [HN.out] at h; exact (Option.some.inj h).symm), HY⟩))
          | (have BY : TBox (((w4.setCell ⟨w.heap.size, 0, none⟩ (.int .i64 x)).setCell ⟨w.heap.size, 1, none⟩ (.int .i64 y)).setCell ⟨w.heap.size, 2, none⟩ (.string c)).drew w.heap.size 75 #[.int .i64 x, .int .i64 y, .string c] := (((B4.out.set 0 (.int .i64 x)).set 1 (.int .i64 y)).set 2 (.string c))
             have HY : Below w.heap.size w (((w4.setCell ⟨w.heap.size, 0, none⟩ (.int .i64 x)).setCell ⟨w.heap.size, 1, none⟩ (.int .i64 y)).setCell ⟨w.heap.size, 2, none⟩ (.string c)).drew := ((((HB4.out.setCell (Nat.le_refl _) (.int .i64 x)).setCell (Nat.le_refl _) (.int .i64 y)).setCell (Nat.le_refl _) (.string c))).drew
             have R0 := BY.cell (i := 0) rfl
             have R1 := BY.cell (i := 1) rfl
             have R2 := BY.cell (i := 2) rfl
             generalize (((w4.setCell ⟨w.heap.size, 0, none⟩ (.int .i64 x)).setCell ⟨w.heap.size, 1, none⟩ (.int .i64 y)).setCell ⟨w.heap.size, 2, none⟩ (.string c)).drew = W9 at *
             exact bodyPost_ret (v := .tuple #[.agg #[.int .i64 x, .int .i64 y, .string c], .bool true]) (by simp [results, Tryz.results67, go_sem, R0, R1, R2]) rfl (HPO.out _ _ ⟨x, y, c, by rw [HN.out]; rfl, fun r h => (by rw [HN.out] at h; exact (Option.some.inj h).symm), HY⟩))

    · have HN := Lib.hid (show RES = none by rw [HE.out, hx, hy]; simp)
      clear HE HXV HYV
      go_upto_region 5 with fail
      go_region
      all_goals go_wp2_with fail
      all_goals first
        | (have BY : TBox (((w4.drew.setCell ⟨w.heap.size, 0, none⟩ (.int .i64 x)).setCell ⟨w.heap.size, 1, none⟩ (.int .i64 y)).setCell ⟨w.heap.size, 2, none⟩ (.string c)) w.heap.size 75 #[.int .i64 x, .int .i64 y, .string c] := (show TBox w4.drew w.heap.size 75 #[.int .i64 0, .int .i64 0, .string ⟨#[]⟩] from B4.out).set 0 (.int .i64 x).set 1 (.int .i64 y).set 2 (.string c)
           have HY : Below w.heap.size w (((w4.drew.setCell ⟨w.heap.size, 0, none⟩ (.int .i64 x)).setCell ⟨w.heap.size, 1, none⟩ (.int .i64 y)).setCell ⟨w.heap.size, 2, none⟩ (.string c)) := (((HB4.out.drew.setCell (Nat.le_refl _) (.int .i64 x)).setCell (Nat.le_refl _) (.int .i64 y)).setCell (Nat.le_refl _) (.string c))
           have R0 := BY.cell (i := 0) rfl
           have R1 := BY.cell (i := 1) rfl
           have R2 := BY.cell (i := 2) rfl
           generalize (((w4.drew.setCell ⟨w.heap.size, 0, none⟩ (.int .i64 x)).setCell ⟨w.heap.size, 1, none⟩ (.int .i64 y)).setCell ⟨w.heap.size, 2, none⟩ (.string c)) = W9 at *
           exact bodyPost_ret (v := .tuple #[.agg #[.int .i64 x, .int .i64 y, .string c], .bool false]) (by simp [results, Tryz.results67, go_sem, R0, R1, R2]) rfl (HPO.out _ _ ⟨x, y, c, by rw [HN.out]; rfl, fun r h => (by rw [HN.out] at h; cases h), HY⟩))
        | (have BY : TBox (((w4.setCell ⟨w.heap.size, 0, none⟩ (.int .i64 x)).setCell ⟨w.heap.size, 1, none⟩ (.int .i64 y)).setCell ⟨w.heap.size, 2, none⟩ (.string c)).drew w.heap.size 75 #[.int .i64 x, .int .i64 y, .string c] := (((B4.out.set 0 (.int .i64 x)).set 1 (.int .i64 y)).set 2 (.string c))
           have HY : Below w.heap.size w (((w4.setCell ⟨w.heap.size, 0, none⟩ (.int .i64 x)).setCell ⟨w.heap.size, 1, none⟩ (.int .i64 y)).setCell ⟨w.heap.size, 2, none⟩ (.string c)).drew := ((((HB4.out.setCell (Nat.le_refl _) (.int .i64 x)).setCell (Nat.le_refl _) (.int .i64 y)).setCell (Nat.le_refl _) (.string c))).drew
           have R0 := BY.cell (i := 0) rfl
           have R1 := BY.cell (i := 1) rfl
           have R2 := BY.cell (i := 2) rfl
           generalize (((w4.setCell ⟨w.heap.size, 0, none⟩ (.int .i64 x)).setCell ⟨w.heap.size, 1, none⟩ (.int .i64 y)).setCell ⟨w.heap.size, 2, none⟩ (.string c)).drew = W9 at *
           exact bodyPost_ret (v := .tuple #[.agg #[.int .i64 x, .int .i64 y, .string c], .bool false]) (by simp [results, Tryz.results67, go_sem, R0, R1, R2]) rfl (HPO.out _ _ ⟨x, y, c, by rw [HN.out]; rfl, fun r h => (by rw [HN.out] at h; cases h), HY⟩))

  · have HN := Lib.hid (show RES = none by rw [HE.out, hx]; simp)
    clear HE HXV HYV
    go_upto_region 5 with fail
    go_region
    all_goals go_wp2_with fail
    all_goals first
      | (have BY : TBox (((w4.drew.setCell ⟨w.heap.size, 0, none⟩ (.int .i64 x)).setCell ⟨w.heap.size, 1, none⟩ (.int .i64 y)).setCell ⟨w.heap.size, 2, none⟩ (.string c)) w.heap.size 75 #[.int .i64 x, .int .i64 y, .string c] := (show TBox w4.drew w.heap.size 75 #[.int .i64 0, .int .i64 0, .string ⟨#[]⟩] from B4.out).set 0 (.int .i64 x).set 1 (.int .i64 y).set 2 (.string c)
         have HY : Below w.heap.size w (((w4.drew.setCell ⟨w.heap.size, 0, none⟩ (.int .i64 x)).setCell ⟨w.heap.size, 1, none⟩ (.int .i64 y)).setCell ⟨w.heap.size, 2, none⟩ (.string c)) := (((HB4.out.drew.setCell (Nat.le_refl _) (.int .i64 x)).setCell (Nat.le_refl _) (.int .i64 y)).setCell (Nat.le_refl _) (.string c))
         have R0 := BY.cell (i := 0) rfl
         have R1 := BY.cell (i := 1) rfl
         have R2 := BY.cell (i := 2) rfl
         generalize (((w4.drew.setCell ⟨w.heap.size, 0, none⟩ (.int .i64 x)).setCell ⟨w.heap.size, 1, none⟩ (.int .i64 y)).setCell ⟨w.heap.size, 2, none⟩ (.string c)) = W9 at *
         exact bodyPost_ret (v := .tuple #[.agg #[.int .i64 x, .int .i64 y, .string c], .bool false]) (by simp [results, Tryz.results67, go_sem, R0, R1, R2]) rfl (HPO.out _ _ ⟨x, y, c, by rw [HN.out]; rfl, fun r h => (by rw [HN.out] at h; cases h), HY⟩))
      | (have BY : TBox (((w4.setCell ⟨w.heap.size, 0, none⟩ (.int .i64 x)).setCell ⟨w.heap.size, 1, none⟩ (.int .i64 y)).setCell ⟨w.heap.size, 2, none⟩ (.string c)).drew w.heap.size 75 #[.int .i64 x, .int .i64 y, .string c] := (((B4.out.set 0 (.int .i64 x)).set 1 (.int .i64 y)).set 2 (.string c))
         have HY : Below w.heap.size w (((w4.setCell ⟨w.heap.size, 0, none⟩ (.int .i64 x)).setCell ⟨w.heap.size, 1, none⟩ (.int .i64 y)).setCell ⟨w.heap.size, 2, none⟩ (.string c)).drew := ((((HB4.out.setCell (Nat.le_refl _) (.int .i64 x)).setCell (Nat.le_refl _) (.int .i64 y)).setCell (Nat.le_refl _) (.string c))).drew
         have R0 := BY.cell (i := 0) rfl
         have R1 := BY.cell (i := 1) rfl
         have R2 := BY.cell (i := 2) rfl
         generalize (((w4.setCell ⟨w.heap.size, 0, none⟩ (.int .i64 x)).setCell ⟨w.heap.size, 1, none⟩ (.int .i64 y)).setCell ⟨w.heap.size, 2, none⟩ (.string c)).drew = W9 at *
         exact bodyPost_ret (v := .tuple #[.agg #[.int .i64 x, .int .i64 y, .string c], .bool false]) (by simp [results, Tryz.results67, go_sem, R0, R1, R2]) rfl (HPO.out _ _ ⟨x, y, c, by rw [HN.out]; rfl, fun r h => (by rw [HN.out] at h; cases h), HY⟩))

end Go.Proofs.YtppbagllhmeenaaGreatDoor
