/- The reference's readGel at any line. (printed by wip/gen/gen_rbook.py) -/
import Derived.Test.YtljgpiaihahneaaGreatDoorT65M28
import Derived.Test.YtljgpiaihahneaaGreatDoorT65M38
import Derived.Test.YtljgpiaihahneaaGreatDoorT65M40

namespace Go.Proofs.YtljgpiaihahneaaGreatDoor
open Go.RowKit
set_option linter.unusedVariables false
set_option linter.unusedSimpArgs false

/-- a gel as a value -/
def gelA (x : Gel) : Value := .agg #[.int .i64 x.n, .string x.name, .int .i64 x.r, .int .i64 x.g, .int .i64 x.b]
theorem rnum_any (s : ByteArray) (hn : s.size ≤ 9223372036854775807) : ∃ (nv : Int) (nb : Bool), (nb = true ↔ NumS s 9) ∧ (nb = true → nv = valS s) ∧ ∀ w, Calls Tryz.prog 44 #[.string s, .int .i64 9] w fun e w' => e = .returned (.tuple #[.int .i64 nv, .bool nb]) ∧ Below w.heap.size w w' := by
  by_cases h : NumS s 9
  · exact ⟨valS s, true, ⟨fun _ => h, fun _ => rfl⟩, fun _ => rfl, fun w => rnumber_ok s 9 w (by decide) h⟩
  · exact ⟨0, false, ⟨(fun h2 => by cases h2), fun h2 => absurd h2 h⟩, (fun h2 => by cases h2), fun w => rnumber_no s 9 w (by decide) hn h⟩
theorem rcol_any (s : ByteArray) : ∃ x y z f : Int, (f = 0 ↔ ColOk s) ∧ (f = 0 → x = colP (hsT s) 0 ∧ y = colP (hsT s) 1 ∧ z = colP (hsT s) 2) ∧ ∀ w, Calls Tryz.prog 45 #[.string s] w fun e w' => e = .returned (.tuple #[.agg #[.int .i64 x, .int .i64 y, .int .i64 z], .int .i64 f]) ∧ Below w.heap.size w w' := by
  have h := rcread_any s
  unfold colRd colRf at h
  by_cases hc : ColOk s
  · rw [if_pos hc, if_pos hc] at h
    exact ⟨_, _, _, _, ⟨fun _ => hc, fun _ => rfl⟩, fun _ => ⟨rfl, rfl, rfl⟩, h⟩
  · rw [if_neg hc, if_neg hc] at h
    exact ⟨_, _, _, _, ⟨(fun h2 => by cases h2), fun h2 => absurd h2 hc⟩, (fun h2 => by cases h2), h⟩
/-- what readGel hands back -/
def RgPost (w : World) (s : ByteArray) (e : Ending) (w' : World) : Prop :=
  ∃ (g : Gel) (ok : Bool), e = .returned (.tuple #[gelA g, .bool ok]) ∧ (ok = true ↔ LineOk s) ∧ (ok = true → g = gelV s) ∧ Below w.heap.size w w'

set_option maxRecDepth 100000 in
set_option maxHeartbeats 16000000 in
theorem rreadGel_any (s : ByteArray) (w : World) (hn : s.size ≤ 9223372036854775807) : Calls Tryz.prog 28 #[.string s] w (RgPost w s) := by
  have C1 := Lib.hid (fun W => cut_one s 32 W hn)
  have hb1 := cutB_le s 32
  have ha1 := cutA_le s 32
  have C2 := Lib.hid (fun W => cut_one (cutB s 32) 32 W (by omega))
  have hb2 := cutB_le (cutB s 32) 32
  obtain ⟨nv, nb, n1, n2, n3⟩ := rnum_any (cutA s 32) (by omega)
  obtain ⟨x, y, z, f, c1, c2, c3⟩ := rcol_any (cutA (cutB s 32) 32)
  have C3 := Lib.hid n3
  have C4 := Lib.hid c3
  have HOK := Lib.hid (show ∀ i1 i2 : Bool, i1 = decide (0 ≤ cutI s 32) → i2 = decide (0 ≤ cutI (cutB s 32) 32) → ((i1 = true ∧ i2 = true ∧ nb = true ∧ f = 0 ∧ 0 < (cutB (cutB s 32) 32).size) ↔ LineOk s) from fun i1 i2 e1 e2 => by
    subst e1 e2
    constructor
    · rintro ⟨a, b, c, d, e⟩
      exact ⟨by simpa using a, by simpa using b, e, n1.1 c, c1.1 d⟩
    · intro h
      exact ⟨by simpa using h.c1, by simpa using h.c2, n1.2 h.num, c1.2 h.col, h.pos⟩)
  have HOK := Lib.hid (HOK.out _ _ rfl rfl)
  have HGV := Lib.hid (show nb = true → f = 0 → (⟨nv, cutB (cutB s 32) 32, x, y, z⟩ : Gel) = gelV s from fun h1 h2 => by
    obtain ⟨e1, e2, e3⟩ := c2 h2
    unfold gelV
    rw [n2 h1, e1, e2, e3])
  have HPO := Lib.hid (show ∀ e w', (∃ (g : Gel) (ok : Bool), e = .returned (.tuple #[gelA g, .bool ok]) ∧ (ok = true ↔ LineOk s) ∧ (ok = true → g = gelV s) ∧ Below w.heap.size w w') → RgPost w s e w' from fun e w' h => h)
  generalize decide (0 ≤ cutI s 32) = i1 at *
  generalize decide (0 ≤ cutI (cutB s 32) 32) = i2 at *
  generalize LineOk s = LK at *
  generalize gelV s = GV at *
  generalize RgPost w s = PO at *
  generalize cutB (cutB s 32) 32 = p2 at *
  generalize cutA (cutB s 32) 32 = p1 at *
  generalize cutB s 32 = t at *
  generalize cutA s 32 = p0 at *
  clear n1 n2 n3 c1 c2 c3
  cases i1
  · have HQ : Hid ((false = true ↔ LK) ∧ (false = true → (⟨nv, p2, x, y, z⟩ : Gel) = GV)) := Lib.hid (by
      refine ⟨⟨(fun h => by cases h), fun h => ?_⟩, (fun h => by cases h)⟩
      have h2 := HOK.out.2 h
      exact absurd h2.1 (by decide))
    clear HOK HGV
    go_enter Tryz.func28, Tryz.ntmps28
    go_wp2_with fail
    refine (C1.out _).mono ?_
    rintro e w1 ⟨rfl, hb⟩
    have BX := (TBox.new w #[.int .i64 0, .string ⟨#[]⟩, .int .i64 0, .int .i64 0, .int .i64 0] 33).below hb
    have HB := Lib.hid (bt below1 hb)
    clear hb
    go_wp2_with fail
    refine (C2.out _).mono ?_
    rintro e w2 ⟨rfl, hb⟩
    have BX := BX.below hb
    have HB := Lib.hid (bt HB.out hb)
    clear hb
    go_wp2_with fail
    refine (C3.out _).mono ?_
    rintro e w3 ⟨rfl, hb⟩
    have BX := BX.below hb
    have HB := Lib.hid (bt HB.out hb)
    clear hb
    go_wp2_with fail
    refine (C4.out _).mono ?_
    rintro e w4 ⟨rfl, hb⟩
    have BX := BX.below hb
    have HB := Lib.hid (bt HB.out hb)
    have hlt4 := BX.lt
    clear hb
    have BX := BX.alloc (.cells #[.int .i64 x, .int .i64 y, .int .i64 z] 31)
    have HB := Lib.hid (HB.out.alloc (Nat.le_of_lt hlt4) (.cells #[.int .i64 x, .int .i64 y, .int .i64 z] 31))
    go_upto_region 5 with fail
    have BZ := TBox.new w4 #[.int .i64 x, .int .i64 y, .int .i64 z] 31
    obtain ⟨w5, hw5⟩ : ∃ w5 : World, w5 = w4.alloc (.cells #[.int .i64 x, .int .i64 y, .int .i64 z] 31) := ⟨_, rfl⟩
    rw [← hw5] at BX HB BZ ⊢
    clear hw5
    have x0 := BZ.cell (i := 0) rfl
    have x1 := BZ.cell (i := 1) rfl
    have x2 := BZ.cell (i := 2) rfl
    have q0 := BX.cell (i := 0) rfl
    have q1 := BX.cell (i := 1) rfl
    have q2 := BX.cell (i := 2) rfl
    have q3 := BX.cell (i := 3) rfl
    have q4 := BX.cell (i := 4) rfl
    have f0 := BX.frozen 0
    have f1 := BX.frozen 1
    have f2 := BX.frozen 2
    have f3 := BX.frozen 3
    have f4 := BX.frozen 4
    go_wp2_with fail
    have BY : TBox (((((w5.setCell ⟨w.heap.size, 0, none⟩ (.int .i64 nv)).setCell ⟨w.heap.size, 1, none⟩ (.string p2)).setCell ⟨w.heap.size, 2, none⟩ (.int .i64 x)).setCell ⟨w.heap.size, 3, none⟩ (.int .i64 y)).setCell ⟨w.heap.size, 4, none⟩ (.int .i64 z)) w.heap.size 33 #[.int .i64 nv, .string p2, .int .i64 x, .int .i64 y, .int .i64 z] := (((((BX.set 0 (.int .i64 nv)).set 1 (.string p2)).set 2 (.int .i64 x)).set 3 (.int .i64 y)).set 4 (.int .i64 z))
    have HY : Below w.heap.size w (((((w5.setCell ⟨w.heap.size, 0, none⟩ (.int .i64 nv)).setCell ⟨w.heap.size, 1, none⟩ (.string p2)).setCell ⟨w.heap.size, 2, none⟩ (.int .i64 x)).setCell ⟨w.heap.size, 3, none⟩ (.int .i64 y)).setCell ⟨w.heap.size, 4, none⟩ (.int .i64 z)) := (((((HB.out.setCell (Nat.le_refl _) _).setCell (Nat.le_refl _) _).setCell (Nat.le_refl _) _).setCell (Nat.le_refl _) _).setCell (Nat.le_refl _) _)
    have R0 := BY.cell (i := 0) rfl
    have R1 := BY.cell (i := 1) rfl
    have R2 := BY.cell (i := 2) rfl
    have R3 := BY.cell (i := 3) rfl
    have R4 := BY.cell (i := 4) rfl
    generalize (((((w5.setCell ⟨w.heap.size, 0, none⟩ (.int .i64 nv)).setCell ⟨w.heap.size, 1, none⟩ (.string p2)).setCell ⟨w.heap.size, 2, none⟩ (.int .i64 x)).setCell ⟨w.heap.size, 3, none⟩ (.int .i64 y)).setCell ⟨w.heap.size, 4, none⟩ (.int .i64 z)) = W3 at *
    exact bodyPost_ret (v := .tuple #[.agg #[.int .i64 nv, .string p2, .int .i64 x, .int .i64 y, .int .i64 z], .bool false]) (by simp [results, Tryz.results28, go_sem, R0, R1, R2, R3, R4]) rfl (HPO.out _ _ ⟨⟨nv, p2, x, y, z⟩, false, rfl, HQ.out.1, HQ.out.2, HY⟩)
  cases i2
  · have HQ : Hid ((false = true ↔ LK) ∧ (false = true → (⟨nv, p2, x, y, z⟩ : Gel) = GV)) := Lib.hid (by
      refine ⟨⟨(fun h => by cases h), fun h => ?_⟩, (fun h => by cases h)⟩
      have h2 := HOK.out.2 h
      exact absurd h2.2.1 (by decide))
    clear HOK HGV
    go_enter Tryz.func28, Tryz.ntmps28
    go_wp2_with fail
    refine (C1.out _).mono ?_
    rintro e w1 ⟨rfl, hb⟩
    have BX := (TBox.new w #[.int .i64 0, .string ⟨#[]⟩, .int .i64 0, .int .i64 0, .int .i64 0] 33).below hb
    have HB := Lib.hid (bt below1 hb)
    clear hb
    go_wp2_with fail
    refine (C2.out _).mono ?_
    rintro e w2 ⟨rfl, hb⟩
    have BX := BX.below hb
    have HB := Lib.hid (bt HB.out hb)
    clear hb
    go_wp2_with fail
    refine (C3.out _).mono ?_
    rintro e w3 ⟨rfl, hb⟩
    have BX := BX.below hb
    have HB := Lib.hid (bt HB.out hb)
    clear hb
    go_wp2_with fail
    refine (C4.out _).mono ?_
    rintro e w4 ⟨rfl, hb⟩
    have BX := BX.below hb
    have HB := Lib.hid (bt HB.out hb)
    have hlt4 := BX.lt
    clear hb
    have BX := BX.alloc (.cells #[.int .i64 x, .int .i64 y, .int .i64 z] 31)
    have HB := Lib.hid (HB.out.alloc (Nat.le_of_lt hlt4) (.cells #[.int .i64 x, .int .i64 y, .int .i64 z] 31))
    go_upto_region 5 with fail
    have BZ := TBox.new w4 #[.int .i64 x, .int .i64 y, .int .i64 z] 31
    obtain ⟨w5, hw5⟩ : ∃ w5 : World, w5 = w4.alloc (.cells #[.int .i64 x, .int .i64 y, .int .i64 z] 31) := ⟨_, rfl⟩
    rw [← hw5] at BX HB BZ ⊢
    clear hw5
    have x0 := BZ.cell (i := 0) rfl
    have x1 := BZ.cell (i := 1) rfl
    have x2 := BZ.cell (i := 2) rfl
    have q0 := BX.cell (i := 0) rfl
    have q1 := BX.cell (i := 1) rfl
    have q2 := BX.cell (i := 2) rfl
    have q3 := BX.cell (i := 3) rfl
    have q4 := BX.cell (i := 4) rfl
    have f0 := BX.frozen 0
    have f1 := BX.frozen 1
    have f2 := BX.frozen 2
    have f3 := BX.frozen 3
    have f4 := BX.frozen 4
    go_wp2_with fail
    have BY : TBox (((((w5.setCell ⟨w.heap.size, 0, none⟩ (.int .i64 nv)).setCell ⟨w.heap.size, 1, none⟩ (.string p2)).setCell ⟨w.heap.size, 2, none⟩ (.int .i64 x)).setCell ⟨w.heap.size, 3, none⟩ (.int .i64 y)).setCell ⟨w.heap.size, 4, none⟩ (.int .i64 z)) w.heap.size 33 #[.int .i64 nv, .string p2, .int .i64 x, .int .i64 y, .int .i64 z] := (((((BX.set 0 (.int .i64 nv)).set 1 (.string p2)).set 2 (.int .i64 x)).set 3 (.int .i64 y)).set 4 (.int .i64 z))
    have HY : Below w.heap.size w (((((w5.setCell ⟨w.heap.size, 0, none⟩ (.int .i64 nv)).setCell ⟨w.heap.size, 1, none⟩ (.string p2)).setCell ⟨w.heap.size, 2, none⟩ (.int .i64 x)).setCell ⟨w.heap.size, 3, none⟩ (.int .i64 y)).setCell ⟨w.heap.size, 4, none⟩ (.int .i64 z)) := (((((HB.out.setCell (Nat.le_refl _) _).setCell (Nat.le_refl _) _).setCell (Nat.le_refl _) _).setCell (Nat.le_refl _) _).setCell (Nat.le_refl _) _)
    have R0 := BY.cell (i := 0) rfl
    have R1 := BY.cell (i := 1) rfl
    have R2 := BY.cell (i := 2) rfl
    have R3 := BY.cell (i := 3) rfl
    have R4 := BY.cell (i := 4) rfl
    generalize (((((w5.setCell ⟨w.heap.size, 0, none⟩ (.int .i64 nv)).setCell ⟨w.heap.size, 1, none⟩ (.string p2)).setCell ⟨w.heap.size, 2, none⟩ (.int .i64 x)).setCell ⟨w.heap.size, 3, none⟩ (.int .i64 y)).setCell ⟨w.heap.size, 4, none⟩ (.int .i64 z)) = W3 at *
    exact bodyPost_ret (v := .tuple #[.agg #[.int .i64 nv, .string p2, .int .i64 x, .int .i64 y, .int .i64 z], .bool false]) (by simp [results, Tryz.results28, go_sem, R0, R1, R2, R3, R4]) rfl (HPO.out _ _ ⟨⟨nv, p2, x, y, z⟩, false, rfl, HQ.out.1, HQ.out.2, HY⟩)
  cases nb
  · have HQ : Hid ((false = true ↔ LK) ∧ (false = true → (⟨nv, p2, x, y, z⟩ : Gel) = GV)) := Lib.hid (by
      refine ⟨⟨(fun h => by cases h), fun h => ?_⟩, (fun h => by cases h)⟩
      have h2 := HOK.out.2 h
      exact absurd h2.2.2.1 (by decide))
    clear HOK HGV
    go_enter Tryz.func28, Tryz.ntmps28
    go_wp2_with fail
    refine (C1.out _).mono ?_
    rintro e w1 ⟨rfl, hb⟩
    have BX := (TBox.new w #[.int .i64 0, .string ⟨#[]⟩, .int .i64 0, .int .i64 0, .int .i64 0] 33).below hb
    have HB := Lib.hid (bt below1 hb)
    clear hb
    go_wp2_with fail
    refine (C2.out _).mono ?_
    rintro e w2 ⟨rfl, hb⟩
    have BX := BX.below hb
    have HB := Lib.hid (bt HB.out hb)
    clear hb
    go_wp2_with fail
    refine (C3.out _).mono ?_
    rintro e w3 ⟨rfl, hb⟩
    have BX := BX.below hb
    have HB := Lib.hid (bt HB.out hb)
    clear hb
    go_wp2_with fail
    refine (C4.out _).mono ?_
    rintro e w4 ⟨rfl, hb⟩
    have BX := BX.below hb
    have HB := Lib.hid (bt HB.out hb)
    have hlt4 := BX.lt
    clear hb
    have BX := BX.alloc (.cells #[.int .i64 x, .int .i64 y, .int .i64 z] 31)
    have HB := Lib.hid (HB.out.alloc (Nat.le_of_lt hlt4) (.cells #[.int .i64 x, .int .i64 y, .int .i64 z] 31))
    go_upto_region 5 with fail
    have BZ := TBox.new w4 #[.int .i64 x, .int .i64 y, .int .i64 z] 31
    obtain ⟨w5, hw5⟩ : ∃ w5 : World, w5 = w4.alloc (.cells #[.int .i64 x, .int .i64 y, .int .i64 z] 31) := ⟨_, rfl⟩
    rw [← hw5] at BX HB BZ ⊢
    clear hw5
    have x0 := BZ.cell (i := 0) rfl
    have x1 := BZ.cell (i := 1) rfl
    have x2 := BZ.cell (i := 2) rfl
    have q0 := BX.cell (i := 0) rfl
    have q1 := BX.cell (i := 1) rfl
    have q2 := BX.cell (i := 2) rfl
    have q3 := BX.cell (i := 3) rfl
    have q4 := BX.cell (i := 4) rfl
    have f0 := BX.frozen 0
    have f1 := BX.frozen 1
    have f2 := BX.frozen 2
    have f3 := BX.frozen 3
    have f4 := BX.frozen 4
    go_wp2_with fail
    have BY : TBox (((((w5.setCell ⟨w.heap.size, 0, none⟩ (.int .i64 nv)).setCell ⟨w.heap.size, 1, none⟩ (.string p2)).setCell ⟨w.heap.size, 2, none⟩ (.int .i64 x)).setCell ⟨w.heap.size, 3, none⟩ (.int .i64 y)).setCell ⟨w.heap.size, 4, none⟩ (.int .i64 z)) w.heap.size 33 #[.int .i64 nv, .string p2, .int .i64 x, .int .i64 y, .int .i64 z] := (((((BX.set 0 (.int .i64 nv)).set 1 (.string p2)).set 2 (.int .i64 x)).set 3 (.int .i64 y)).set 4 (.int .i64 z))
    have HY : Below w.heap.size w (((((w5.setCell ⟨w.heap.size, 0, none⟩ (.int .i64 nv)).setCell ⟨w.heap.size, 1, none⟩ (.string p2)).setCell ⟨w.heap.size, 2, none⟩ (.int .i64 x)).setCell ⟨w.heap.size, 3, none⟩ (.int .i64 y)).setCell ⟨w.heap.size, 4, none⟩ (.int .i64 z)) := (((((HB.out.setCell (Nat.le_refl _) _).setCell (Nat.le_refl _) _).setCell (Nat.le_refl _) _).setCell (Nat.le_refl _) _).setCell (Nat.le_refl _) _)
    have R0 := BY.cell (i := 0) rfl
    have R1 := BY.cell (i := 1) rfl
    have R2 := BY.cell (i := 2) rfl
    have R3 := BY.cell (i := 3) rfl
    have R4 := BY.cell (i := 4) rfl
    generalize (((((w5.setCell ⟨w.heap.size, 0, none⟩ (.int .i64 nv)).setCell ⟨w.heap.size, 1, none⟩ (.string p2)).setCell ⟨w.heap.size, 2, none⟩ (.int .i64 x)).setCell ⟨w.heap.size, 3, none⟩ (.int .i64 y)).setCell ⟨w.heap.size, 4, none⟩ (.int .i64 z)) = W3 at *
    exact bodyPost_ret (v := .tuple #[.agg #[.int .i64 nv, .string p2, .int .i64 x, .int .i64 y, .int .i64 z], .bool false]) (by simp [results, Tryz.results28, go_sem, R0, R1, R2, R3, R4]) rfl (HPO.out _ _ ⟨⟨nv, p2, x, y, z⟩, false, rfl, HQ.out.1, HQ.out.2, HY⟩)
  by_cases hf : f = 0
  rotate_left
  · have hf2 : (f == 0) = false := by simpa using hf
    have HQ : Hid ((false = true ↔ LK) ∧ (false = true → (⟨nv, p2, x, y, z⟩ : Gel) = GV)) := Lib.hid (by
      refine ⟨⟨(fun h => by cases h), fun h => ?_⟩, (fun h => by cases h)⟩
      have h2 := HOK.out.2 h
      exact absurd h2.2.2.2.1 hf)
    clear HOK HGV
    go_enter Tryz.func28, Tryz.ntmps28
    go_wp2_with fail
    refine (C1.out _).mono ?_
    rintro e w1 ⟨rfl, hb⟩
    have BX := (TBox.new w #[.int .i64 0, .string ⟨#[]⟩, .int .i64 0, .int .i64 0, .int .i64 0] 33).below hb
    have HB := Lib.hid (bt below1 hb)
    clear hb
    go_wp2_with fail
    refine (C2.out _).mono ?_
    rintro e w2 ⟨rfl, hb⟩
    have BX := BX.below hb
    have HB := Lib.hid (bt HB.out hb)
    clear hb
    go_wp2_with fail
    refine (C3.out _).mono ?_
    rintro e w3 ⟨rfl, hb⟩
    have BX := BX.below hb
    have HB := Lib.hid (bt HB.out hb)
    clear hb
    go_wp2_with fail
    refine (C4.out _).mono ?_
    rintro e w4 ⟨rfl, hb⟩
    have BX := BX.below hb
    have HB := Lib.hid (bt HB.out hb)
    have hlt4 := BX.lt
    clear hb
    have BX := BX.alloc (.cells #[.int .i64 x, .int .i64 y, .int .i64 z] 31)
    have HB := Lib.hid (HB.out.alloc (Nat.le_of_lt hlt4) (.cells #[.int .i64 x, .int .i64 y, .int .i64 z] 31))
    go_upto_region 5 with fail
    have BZ := TBox.new w4 #[.int .i64 x, .int .i64 y, .int .i64 z] 31
    obtain ⟨w5, hw5⟩ : ∃ w5 : World, w5 = w4.alloc (.cells #[.int .i64 x, .int .i64 y, .int .i64 z] 31) := ⟨_, rfl⟩
    rw [← hw5] at BX HB BZ ⊢
    clear hw5
    have x0 := BZ.cell (i := 0) rfl
    have x1 := BZ.cell (i := 1) rfl
    have x2 := BZ.cell (i := 2) rfl
    have q0 := BX.cell (i := 0) rfl
    have q1 := BX.cell (i := 1) rfl
    have q2 := BX.cell (i := 2) rfl
    have q3 := BX.cell (i := 3) rfl
    have q4 := BX.cell (i := 4) rfl
    have f0 := BX.frozen 0
    have f1 := BX.frozen 1
    have f2 := BX.frozen 2
    have f3 := BX.frozen 3
    have f4 := BX.frozen 4
    go_wp2_with fail
    have BY : TBox (((((w5.setCell ⟨w.heap.size, 0, none⟩ (.int .i64 nv)).setCell ⟨w.heap.size, 1, none⟩ (.string p2)).setCell ⟨w.heap.size, 2, none⟩ (.int .i64 x)).setCell ⟨w.heap.size, 3, none⟩ (.int .i64 y)).setCell ⟨w.heap.size, 4, none⟩ (.int .i64 z)) w.heap.size 33 #[.int .i64 nv, .string p2, .int .i64 x, .int .i64 y, .int .i64 z] := (((((BX.set 0 (.int .i64 nv)).set 1 (.string p2)).set 2 (.int .i64 x)).set 3 (.int .i64 y)).set 4 (.int .i64 z))
    have HY : Below w.heap.size w (((((w5.setCell ⟨w.heap.size, 0, none⟩ (.int .i64 nv)).setCell ⟨w.heap.size, 1, none⟩ (.string p2)).setCell ⟨w.heap.size, 2, none⟩ (.int .i64 x)).setCell ⟨w.heap.size, 3, none⟩ (.int .i64 y)).setCell ⟨w.heap.size, 4, none⟩ (.int .i64 z)) := (((((HB.out.setCell (Nat.le_refl _) _).setCell (Nat.le_refl _) _).setCell (Nat.le_refl _) _).setCell (Nat.le_refl _) _).setCell (Nat.le_refl _) _)
    have R0 := BY.cell (i := 0) rfl
    have R1 := BY.cell (i := 1) rfl
    have R2 := BY.cell (i := 2) rfl
    have R3 := BY.cell (i := 3) rfl
    have R4 := BY.cell (i := 4) rfl
    generalize (((((w5.setCell ⟨w.heap.size, 0, none⟩ (.int .i64 nv)).setCell ⟨w.heap.size, 1, none⟩ (.string p2)).setCell ⟨w.heap.size, 2, none⟩ (.int .i64 x)).setCell ⟨w.heap.size, 3, none⟩ (.int .i64 y)).setCell ⟨w.heap.size, 4, none⟩ (.int .i64 z)) = W3 at *
    exact bodyPost_ret (v := .tuple #[.agg #[.int .i64 nv, .string p2, .int .i64 x, .int .i64 y, .int .i64 z], .bool false]) (by simp [results, Tryz.results28, go_sem, R0, R1, R2, R3, R4]) rfl (HPO.out _ _ ⟨⟨nv, p2, x, y, z⟩, false, rfl, HQ.out.1, HQ.out.2, HY⟩)
  by_cases hp : 0 < p2.size
  rotate_left
  · have he : p2 = ⟨#[]⟩ := ByteArray.ext (by apply Array.ext <;> simp_all)
    have HQ0 := Lib.hid (fun h => hp (HOK.out.2 h).2.2.2.2)
    subst he
    subst hf
    have HQ : Hid ((false = true ↔ LK) ∧ (false = true → (⟨nv, ⟨#[]⟩, x, y, z⟩ : Gel) = GV)) := Lib.hid (by
      refine ⟨⟨(fun h => by cases h), fun h => absurd h HQ0.out⟩, (fun h => by cases h)⟩)
    clear HOK HGV
    go_enter Tryz.func28, Tryz.ntmps28
    go_wp2_with fail
    refine (C1.out _).mono ?_
    rintro e w1 ⟨rfl, hb⟩
    have BX := (TBox.new w #[.int .i64 0, .string ⟨#[]⟩, .int .i64 0, .int .i64 0, .int .i64 0] 33).below hb
    have HB := Lib.hid (bt below1 hb)
    clear hb
    go_wp2_with fail
    refine (C2.out _).mono ?_
    rintro e w2 ⟨rfl, hb⟩
    have BX := BX.below hb
    have HB := Lib.hid (bt HB.out hb)
    clear hb
    go_wp2_with fail
    refine (C3.out _).mono ?_
    rintro e w3 ⟨rfl, hb⟩
    have BX := BX.below hb
    have HB := Lib.hid (bt HB.out hb)
    clear hb
    go_wp2_with fail
    refine (C4.out _).mono ?_
    rintro e w4 ⟨rfl, hb⟩
    have BX := BX.below hb
    have HB := Lib.hid (bt HB.out hb)
    have hlt4 := BX.lt
    clear hb
    have BX := BX.alloc (.cells #[.int .i64 x, .int .i64 y, .int .i64 z] 31)
    have HB := Lib.hid (HB.out.alloc (Nat.le_of_lt hlt4) (.cells #[.int .i64 x, .int .i64 y, .int .i64 z] 31))
    go_upto_region 5 with fail
    have BZ := TBox.new w4 #[.int .i64 x, .int .i64 y, .int .i64 z] 31
    obtain ⟨w5, hw5⟩ : ∃ w5 : World, w5 = w4.alloc (.cells #[.int .i64 x, .int .i64 y, .int .i64 z] 31) := ⟨_, rfl⟩
    rw [← hw5] at BX HB BZ ⊢
    clear hw5
    have x0 := BZ.cell (i := 0) rfl
    have x1 := BZ.cell (i := 1) rfl
    have x2 := BZ.cell (i := 2) rfl
    have q0 := BX.cell (i := 0) rfl
    have q1 := BX.cell (i := 1) rfl
    have q2 := BX.cell (i := 2) rfl
    have q3 := BX.cell (i := 3) rfl
    have q4 := BX.cell (i := 4) rfl
    have f0 := BX.frozen 0
    have f1 := BX.frozen 1
    have f2 := BX.frozen 2
    have f3 := BX.frozen 3
    have f4 := BX.frozen 4
    go_wp2_with fail
    have BY : TBox (((((w5.setCell ⟨w.heap.size, 0, none⟩ (.int .i64 nv)).setCell ⟨w.heap.size, 1, none⟩ (.string ⟨#[]⟩)).setCell ⟨w.heap.size, 2, none⟩ (.int .i64 x)).setCell ⟨w.heap.size, 3, none⟩ (.int .i64 y)).setCell ⟨w.heap.size, 4, none⟩ (.int .i64 z)) w.heap.size 33 #[.int .i64 nv, .string ⟨#[]⟩, .int .i64 x, .int .i64 y, .int .i64 z] := (((((BX.set 0 (.int .i64 nv)).set 1 (.string ⟨#[]⟩)).set 2 (.int .i64 x)).set 3 (.int .i64 y)).set 4 (.int .i64 z))
    have HY : Below w.heap.size w (((((w5.setCell ⟨w.heap.size, 0, none⟩ (.int .i64 nv)).setCell ⟨w.heap.size, 1, none⟩ (.string ⟨#[]⟩)).setCell ⟨w.heap.size, 2, none⟩ (.int .i64 x)).setCell ⟨w.heap.size, 3, none⟩ (.int .i64 y)).setCell ⟨w.heap.size, 4, none⟩ (.int .i64 z)) := (((((HB.out.setCell (Nat.le_refl _) _).setCell (Nat.le_refl _) _).setCell (Nat.le_refl _) _).setCell (Nat.le_refl _) _).setCell (Nat.le_refl _) _)
    have R0 := BY.cell (i := 0) rfl
    have R1 := BY.cell (i := 1) rfl
    have R2 := BY.cell (i := 2) rfl
    have R3 := BY.cell (i := 3) rfl
    have R4 := BY.cell (i := 4) rfl
    generalize (((((w5.setCell ⟨w.heap.size, 0, none⟩ (.int .i64 nv)).setCell ⟨w.heap.size, 1, none⟩ (.string ⟨#[]⟩)).setCell ⟨w.heap.size, 2, none⟩ (.int .i64 x)).setCell ⟨w.heap.size, 3, none⟩ (.int .i64 y)).setCell ⟨w.heap.size, 4, none⟩ (.int .i64 z)) = W3 at *
    exact bodyPost_ret (v := .tuple #[.agg #[.int .i64 nv, .string ⟨#[]⟩, .int .i64 x, .int .i64 y, .int .i64 z], .bool false]) (by simp [results, Tryz.results28, go_sem, R0, R1, R2, R3, R4]) rfl (HPO.out _ _ ⟨⟨nv, ⟨#[]⟩, x, y, z⟩, false, rfl, HQ.out.1, HQ.out.2, HY⟩)
  have hl3 := bytes_some hp
  have hl4 := bytes_some' hp
  have HQ0 := Lib.hid (HOK.out.1 ⟨rfl, rfl, rfl, hf, hp⟩)
  have HQ1 := Lib.hid (HGV.out rfl hf)
  subst hf
  clear HOK HGV
  go_enter Tryz.func28, Tryz.ntmps28
  go_wp2_with fail
  refine (C1.out _).mono ?_
  rintro e w1 ⟨rfl, hb⟩
  have BX := (TBox.new w #[.int .i64 0, .string ⟨#[]⟩, .int .i64 0, .int .i64 0, .int .i64 0] 33).below hb
  have HB := Lib.hid (bt below1 hb)
  clear hb
  go_wp2_with fail
  refine (C2.out _).mono ?_
  rintro e w2 ⟨rfl, hb⟩
  have BX := BX.below hb
  have HB := Lib.hid (bt HB.out hb)
  clear hb
  go_wp2_with fail
  refine (C3.out _).mono ?_
  rintro e w3 ⟨rfl, hb⟩
  have BX := BX.below hb
  have HB := Lib.hid (bt HB.out hb)
  clear hb
  go_wp2_with fail
  refine (C4.out _).mono ?_
  rintro e w4 ⟨rfl, hb⟩
  have BX := BX.below hb
  have HB := Lib.hid (bt HB.out hb)
  have hlt4 := BX.lt
  clear hb
  have BX := BX.alloc (.cells #[.int .i64 x, .int .i64 y, .int .i64 z] 31)
  have HB := Lib.hid (HB.out.alloc (Nat.le_of_lt hlt4) (.cells #[.int .i64 x, .int .i64 y, .int .i64 z] 31))
  go_upto_region 5 with fail
  have BZ := TBox.new w4 #[.int .i64 x, .int .i64 y, .int .i64 z] 31
  obtain ⟨w5, hw5⟩ : ∃ w5 : World, w5 = w4.alloc (.cells #[.int .i64 x, .int .i64 y, .int .i64 z] 31) := ⟨_, rfl⟩
  rw [← hw5] at BX HB BZ ⊢
  clear hw5
  have x0 := BZ.cell (i := 0) rfl
  have x1 := BZ.cell (i := 1) rfl
  have x2 := BZ.cell (i := 2) rfl
  have q0 := BX.cell (i := 0) rfl
  have q1 := BX.cell (i := 1) rfl
  have q2 := BX.cell (i := 2) rfl
  have q3 := BX.cell (i := 3) rfl
  have q4 := BX.cell (i := 4) rfl
  have f0 := BX.frozen 0
  have f1 := BX.frozen 1
  have f2 := BX.frozen 2
  have f3 := BX.frozen 3
  have f4 := BX.frozen 4
  go_wp2_with fail
  have BY : TBox (((((w5.setCell ⟨w.heap.size, 0, none⟩ (.int .i64 nv)).setCell ⟨w.heap.size, 1, none⟩ (.string p2)).setCell ⟨w.heap.size, 2, none⟩ (.int .i64 x)).setCell ⟨w.heap.size, 3, none⟩ (.int .i64 y)).setCell ⟨w.heap.size, 4, none⟩ (.int .i64 z)) w.heap.size 33 #[.int .i64 nv, .string p2, .int .i64 x, .int .i64 y, .int .i64 z] := (((((BX.set 0 (.int .i64 nv)).set 1 (.string p2)).set 2 (.int .i64 x)).set 3 (.int .i64 y)).set 4 (.int .i64 z))
  have HY : Below w.heap.size w (((((w5.setCell ⟨w.heap.size, 0, none⟩ (.int .i64 nv)).setCell ⟨w.heap.size, 1, none⟩ (.string p2)).setCell ⟨w.heap.size, 2, none⟩ (.int .i64 x)).setCell ⟨w.heap.size, 3, none⟩ (.int .i64 y)).setCell ⟨w.heap.size, 4, none⟩ (.int .i64 z)) := (((((HB.out.setCell (Nat.le_refl _) _).setCell (Nat.le_refl _) _).setCell (Nat.le_refl _) _).setCell (Nat.le_refl _) _).setCell (Nat.le_refl _) _)
  have R0 := BY.cell (i := 0) rfl
  have R1 := BY.cell (i := 1) rfl
  have R2 := BY.cell (i := 2) rfl
  have R3 := BY.cell (i := 3) rfl
  have R4 := BY.cell (i := 4) rfl
  generalize (((((w5.setCell ⟨w.heap.size, 0, none⟩ (.int .i64 nv)).setCell ⟨w.heap.size, 1, none⟩ (.string p2)).setCell ⟨w.heap.size, 2, none⟩ (.int .i64 x)).setCell ⟨w.heap.size, 3, none⟩ (.int .i64 y)).setCell ⟨w.heap.size, 4, none⟩ (.int .i64 z)) = W3 at *
  exact bodyPost_ret (v := .tuple #[.agg #[.int .i64 nv, .string p2, .int .i64 x, .int .i64 y, .int .i64 z], .bool true]) (by simp [results, Tryz.results28, go_sem, R0, R1, R2, R3, R4]) rfl (HPO.out _ _ ⟨⟨nv, p2, x, y, z⟩, true, rfl, ⟨(fun _ => HQ0.out), (fun _ => rfl)⟩, (fun _ => HQ1.out), HY⟩)
end Go.Proofs.YtljgpiaihahneaaGreatDoor
