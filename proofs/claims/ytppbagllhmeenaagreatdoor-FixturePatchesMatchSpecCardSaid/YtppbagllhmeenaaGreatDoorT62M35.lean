/- The reference's readUnit at any line. (printed by wip/gen/gen_rpatch.py) -/
import Derived.Test.YtppbagllhmeenaaGreatDoorT62M19
import Derived.Test.YtppbagllhmeenaaGreatDoorT62M34

namespace Go.Proofs.YtppbagllhmeenaaGreatDoor
open Go.RowKit
open Go.ChangeShapes
set_option linter.unusedVariables false
set_option linter.unusedSimpArgs false

/-- a unit as a value -/
def untA (x : Unt) : Value := .agg #[.int .i64 x.num, .string x.prof, .int .i64 x.univ, .int .i64 x.addr]
theorem rnum_any (s : ByteArray) (hn : s.size ≤ 9223372036854775807) : ∃ (nv : Int) (nb : Bool), (nb = true ↔ NumS s 9) ∧ (nb = true → nv = valS s) ∧ ∀ w, Calls Tryz.prog 54 #[.string s, .int .i64 9] w fun e w' => e = .returned (.tuple #[.int .i64 nv, .bool nb]) ∧ Below w.heap.size w w' := by
  by_cases h : NumS s 9
  · exact ⟨valS s, true, ⟨fun _ => h, fun _ => rfl⟩, fun _ => rfl, fun w => rnumber_ok s 9 w (by decide) h⟩
  · exact ⟨0, false, ⟨(fun h2 => by cases h2), fun h2 => absurd h2 h⟩, (fun h2 => by cases h2), fun w => rnumber_no s 9 w (by decide) hn h⟩
/-- what readUnit hands back -/
def RuPost (w : World) (s : ByteArray) (e : Ending) (w' : World) : Prop :=
  ∃ (g : Unt) (ok : Bool), e = .returned (.tuple #[untA g, .bool ok]) ∧ (ok = true ↔ LineU s) ∧ (ok = true → g = untV s) ∧ Below w.heap.size w w'

set_option maxRecDepth 100000 in
set_option maxHeartbeats 16000000 in
theorem rreadUnit_any (s : ByteArray) (w : World) (hT : TextW w) (hn : s.size ≤ 60000) : Calls Tryz.prog 27 #[.string s] w (RuPost w s) := by
  have HPO := Lib.hid (show ∀ e w', (∃ (g : Unt) (ok : Bool), e = .returned (.tuple #[untA g, .bool ok]) ∧ (ok = true ↔ LineU s) ∧ (ok = true → g = untV s) ∧ Below w.heap.size w w') → RuPost w s e w' from fun e w' h => h)
  have HB0 := Lib.hid (show Below w.heap.size w (w.alloc (.cells #[.int .i64 0, .string ⟨#[]⟩, .int .i64 0, .int .i64 0] 51)) from (Below.refl _ _).alloc (Nat.le_refl _) _)
  have BX0 := Lib.hid (TBox.new w #[.int .i64 0, .string ⟨#[]⟩, .int .i64 0, .int .i64 0] 51)
  have CS := Lib.hid (split_any 32 s (w.alloc (.cells #[.int .i64 0, .string ⟨#[]⟩, .int .i64 0, .int .i64 0] 51)) (hT.below HB0.out) (by omega))
  unfold SplitPost at CS
  have HWS := Lib.hid (wordsB_size 32 s)
  have hwle : (wordsB 32 s).length ≤ 60001 := by have := wordsB_le 32 s; omega
  have hwpos := wordsB_pos 32 s
  have HL3 := Lib.hid (fun a b c (h : wordsB 32 s = [a, b, c]) => line_three h)
  have HLN := Lib.hid (show LineU s → (wordsB 32 s).length = 3 from fun h => h.len)
  generalize RuPost w s = PO at *
  generalize untV s = UV at *
  generalize LineU s = LK at *
  generalize wordsB 32 s = WL at *
  simp only [World.size_alloc] at CS
  clear hT
  by_cases h3 : WL.length = 3
  rotate_left
  · have HQ := Lib.hid (show ¬ LK from fun h => h3 (HLN.out h))
    have h3i : (((WL.length : Nat) : Int) != 3) = true := by simp; omega
    have h3j : ¬ ((WL.length : Nat) : Int) = 3 := by omega
    clear h3
    go_enter Tryz.func27, Tryz.ntmps27
    go_wp2_with fail
    refine CS.out.mono ?_
    rintro e1 w5 ⟨rfl, hr, hb, hlt5⟩
    have hb : Below (w.alloc (.cells #[.int .i64 0, .string ⟨#[]⟩, .int .i64 0, .int .i64 0] 51)).heap.size (w.alloc (.cells #[.int .i64 0, .string ⟨#[]⟩, .int .i64 0, .int .i64 0] 51)) w5 := by rw [World.size_alloc]; exact hb
    have HB := Lib.hid (bt HB0.out hb)
    have BX := BX0.out.below hb
    clear hr hb
    have q0 := BX.cell (i := 0) rfl
    have f0 := BX.frozen 0
    have q1 := BX.cell (i := 1) rfl
    have f1 := BX.frozen 1
    have q2 := BX.cell (i := 2) rfl
    have f2 := BX.frozen 2
    have q3 := BX.cell (i := 3) rfl
    have f3 := BX.frozen 3
    go_wp2_with fail
    have BY : TBox ((((w5.setCell ⟨w.heap.size, 0, none⟩ (.int .i64 0)).setCell ⟨w.heap.size, 1, none⟩ (.string ⟨#[]⟩)).setCell ⟨w.heap.size, 2, none⟩ (.int .i64 0)).setCell ⟨w.heap.size, 3, none⟩ (.int .i64 0)) w.heap.size 51 #[.int .i64 0, .string ⟨#[]⟩, .int .i64 0, .int .i64 0] := ((((BX.set 0 (.int .i64 0)).set 1 (.string ⟨#[]⟩)).set 2 (.int .i64 0)).set 3 (.int .i64 0))
    have HY : Below w.heap.size w ((((w5.setCell ⟨w.heap.size, 0, none⟩ (.int .i64 0)).setCell ⟨w.heap.size, 1, none⟩ (.string ⟨#[]⟩)).setCell ⟨w.heap.size, 2, none⟩ (.int .i64 0)).setCell ⟨w.heap.size, 3, none⟩ (.int .i64 0)) := ((((HB.out.setCell (Nat.le_refl _) _).setCell (Nat.le_refl _) _).setCell (Nat.le_refl _) _).setCell (Nat.le_refl _) _)
    have R0 := BY.cell (i := 0) rfl
    have R1 := BY.cell (i := 1) rfl
    have R2 := BY.cell (i := 2) rfl
    have R3 := BY.cell (i := 3) rfl
    generalize ((((w5.setCell ⟨w.heap.size, 0, none⟩ (.int .i64 0)).setCell ⟨w.heap.size, 1, none⟩ (.string ⟨#[]⟩)).setCell ⟨w.heap.size, 2, none⟩ (.int .i64 0)).setCell ⟨w.heap.size, 3, none⟩ (.int .i64 0)) = W9 at *
    exact bodyPost_ret (v := .tuple #[.agg #[.int .i64 0, .string ⟨#[]⟩, .int .i64 0, .int .i64 0], .bool false]) (by simp [results, Tryz.results27, go_sem, R0, R1, R2, R3]) rfl (HPO.out _ _ ⟨⟨0, ⟨#[]⟩, 0, 0⟩, false, rfl, ⟨(fun h => by cases h), fun h => absurd h HQ.out⟩, (fun h => by cases h), HY⟩)
  obtain ⟨a, b, c, rfl⟩ := list3 h3
  obtain ⟨hok3, huv⟩ := HL3.out a b c rfl
  have sa : a.size ≤ 60000 := by have := HWS.out a (by simp); omega
  have sb : b.size ≤ 60000 := by have := HWS.out b (by simp); omega
  have sc : c.size ≤ 60000 := by have := HWS.out c (by simp); omega
  have hcb := cutB_le c 47
  have hca := cutA_le c 47
  have HRW := Lib.hid (fun W => isWord_any b W (by unfold maxLen; omega))
  have C1 := Lib.hid (fun W => cut_one c 47 W (by omega))
  obtain ⟨nv, nb, n1, n2, n3⟩ := rnum_any a (by omega)
  obtain ⟨xv, xb, x1, x2, x3⟩ := rnum_any (cutA c 47) (by omega)
  obtain ⟨yv, yb, y1, y2, y3⟩ := rnum_any (cutB c 47) (by omega)
  have C2 := Lib.hid n3
  have C3 := Lib.hid x3
  have C4 := Lib.hid y3
  have HOK := Lib.hid (show ∀ (rb i1 : Bool), rb = rowB b.data.toList → i1 = decide (0 ≤ cutI c 47) → ((rb = true ∧ i1 = true ∧ nb = true ∧ xb = true ∧ yb = true) ↔ LK) from fun rb i1 e1 e2 => by
    subst e1 e2
    rw [hok3]
    constructor
    · rintro ⟨h1, h2, h3, h4, h5⟩
      exact ⟨h1, n1.1 h3, by simpa using h2, x1.1 h4, y1.1 h5⟩
    · rintro ⟨h1, h2, h3, h4, h5⟩
      exact ⟨h1, by simpa using h3, n1.2 h2, x1.2 h4, y1.2 h5⟩)
  have HOK := Lib.hid (HOK.out _ _ rfl rfl)
  have HGV := Lib.hid (show nb = true → xb = true → yb = true → (⟨nv, b, xv, yv⟩ : Unt) = UV from fun h1 h2 h3 => by rw [huv, n2 h1, x2 h2, y2 h3])
  generalize rowB b.data.toList = rb at *
  generalize decide (0 ≤ cutI c 47) = i1 at *
  generalize cutA c 47 = ca at *
  generalize cutB c 47 = cb at *
  clear h3 HL3 HLN HWS hok3 huv hwle hwpos n1 n2 n3 x1 x2 x3 y1 y2 y3 hcb hca
  cases rb
  · have HQ := Lib.hid (show ¬ LK from fun h => by
      have h2 := HOK.out.2 h
      exact absurd h2.1 (by decide))
    clear HOK HGV
    go_enter Tryz.func27, Tryz.ntmps27
    go_wp2_with fail
    refine CS.out.mono ?_
    rintro e1 w5 ⟨rfl, hr, hb, hlt5⟩
    have hb : Below (w.alloc (.cells #[.int .i64 0, .string ⟨#[]⟩, .int .i64 0, .int .i64 0] 51)).heap.size (w.alloc (.cells #[.int .i64 0, .string ⟨#[]⟩, .int .i64 0, .int .i64 0] 51)) w5 := by rw [World.size_alloc]; exact hb
    have r0 : w5.cell? ⟨w.heap.size + 1, 0, none⟩ = some (.string a) := hr 0 (by simp)
    have r1 : w5.cell? ⟨w.heap.size + 1, 1, none⟩ = some (.string b) := hr 1 (by simp)
    have r2 : w5.cell? ⟨w.heap.size + 1, 2, none⟩ = some (.string c) := hr 2 (by simp)
    have HB := Lib.hid (bt HB0.out hb)
    have BX := BX0.out.below hb
    clear hr hb
    go_wp2_with fail
    refine (HRW.out _).mono ?_
    rintro e1 w' ⟨rfl, rfl⟩
    have q0 := BX.cell (i := 0) rfl
    have f0 := BX.frozen 0
    have q1 := BX.cell (i := 1) rfl
    have f1 := BX.frozen 1
    have q2 := BX.cell (i := 2) rfl
    have f2 := BX.frozen 2
    have q3 := BX.cell (i := 3) rfl
    have f3 := BX.frozen 3
    go_wp2_with fail
    have BY : TBox ((((w5.setCell ⟨w.heap.size, 0, none⟩ (.int .i64 0)).setCell ⟨w.heap.size, 1, none⟩ (.string ⟨#[]⟩)).setCell ⟨w.heap.size, 2, none⟩ (.int .i64 0)).setCell ⟨w.heap.size, 3, none⟩ (.int .i64 0)) w.heap.size 51 #[.int .i64 0, .string ⟨#[]⟩, .int .i64 0, .int .i64 0] := ((((BX.set 0 (.int .i64 0)).set 1 (.string ⟨#[]⟩)).set 2 (.int .i64 0)).set 3 (.int .i64 0))
    have HY : Below w.heap.size w ((((w5.setCell ⟨w.heap.size, 0, none⟩ (.int .i64 0)).setCell ⟨w.heap.size, 1, none⟩ (.string ⟨#[]⟩)).setCell ⟨w.heap.size, 2, none⟩ (.int .i64 0)).setCell ⟨w.heap.size, 3, none⟩ (.int .i64 0)) := ((((HB.out.setCell (Nat.le_refl _) _).setCell (Nat.le_refl _) _).setCell (Nat.le_refl _) _).setCell (Nat.le_refl _) _)
    have R0 := BY.cell (i := 0) rfl
    have R1 := BY.cell (i := 1) rfl
    have R2 := BY.cell (i := 2) rfl
    have R3 := BY.cell (i := 3) rfl
    generalize ((((w5.setCell ⟨w.heap.size, 0, none⟩ (.int .i64 0)).setCell ⟨w.heap.size, 1, none⟩ (.string ⟨#[]⟩)).setCell ⟨w.heap.size, 2, none⟩ (.int .i64 0)).setCell ⟨w.heap.size, 3, none⟩ (.int .i64 0)) = W9 at *
    exact bodyPost_ret (v := .tuple #[.agg #[.int .i64 0, .string ⟨#[]⟩, .int .i64 0, .int .i64 0], .bool false]) (by simp [results, Tryz.results27, go_sem, R0, R1, R2, R3]) rfl (HPO.out _ _ ⟨⟨0, ⟨#[]⟩, 0, 0⟩, false, rfl, ⟨(fun h => by cases h), fun h => absurd h HQ.out⟩, (fun h => by cases h), HY⟩)
  cases i1
  · have HQ := Lib.hid (show ¬ LK from fun h => by
      have h2 := HOK.out.2 h
      exact absurd h2.2.1 (by decide))
    clear HOK HGV
    go_enter Tryz.func27, Tryz.ntmps27
    go_wp2_with fail
    refine CS.out.mono ?_
    rintro e1 w5 ⟨rfl, hr, hb, hlt5⟩
    have hb : Below (w.alloc (.cells #[.int .i64 0, .string ⟨#[]⟩, .int .i64 0, .int .i64 0] 51)).heap.size (w.alloc (.cells #[.int .i64 0, .string ⟨#[]⟩, .int .i64 0, .int .i64 0] 51)) w5 := by rw [World.size_alloc]; exact hb
    have r0 : w5.cell? ⟨w.heap.size + 1, 0, none⟩ = some (.string a) := hr 0 (by simp)
    have r1 : w5.cell? ⟨w.heap.size + 1, 1, none⟩ = some (.string b) := hr 1 (by simp)
    have r2 : w5.cell? ⟨w.heap.size + 1, 2, none⟩ = some (.string c) := hr 2 (by simp)
    have HB := Lib.hid (bt HB0.out hb)
    have BX := BX0.out.below hb
    clear hr hb
    go_wp2_with fail
    refine (HRW.out _).mono ?_
    rintro e1 w' ⟨rfl, rfl⟩
    go_wp2_with fail
    refine (C1.out _).mono ?_
    rintro e1 w6 ⟨rfl, hb⟩
    have HB := Lib.hid (bt HB.out hb)
    have BX := BX.below hb
    have r0 := (hb.cell (p := ⟨w.heap.size + 1, 0, none⟩) hlt5).trans r0
    have r1 := (hb.cell (p := ⟨w.heap.size + 1, 1, none⟩) hlt5).trans r1
    have hlt5 : w.heap.size + 1 < w6.heap.size := Nat.lt_of_lt_of_le hlt5 hb.size
    clear hb
    go_wp2_with fail
    refine (C2.out _).mono ?_
    rintro e1 w7 ⟨rfl, hb⟩
    have HB := Lib.hid (bt HB.out hb)
    have BX := BX.below hb
    have r1 := (hb.cell (p := ⟨w.heap.size + 1, 1, none⟩) hlt5).trans r1
    have hlt5 : w.heap.size + 1 < w7.heap.size := Nat.lt_of_lt_of_le hlt5 hb.size
    clear hb
    go_wp2_with fail
    refine (C3.out _).mono ?_
    rintro e1 w8 ⟨rfl, hb⟩
    have HB := Lib.hid (bt HB.out hb)
    have BX := BX.below hb
    have r1 := (hb.cell (p := ⟨w.heap.size + 1, 1, none⟩) hlt5).trans r1
    have hlt5 : w.heap.size + 1 < w8.heap.size := Nat.lt_of_lt_of_le hlt5 hb.size
    clear hb
    go_wp2_with fail
    refine (C4.out _).mono ?_
    rintro e1 w9 ⟨rfl, hb⟩
    have HB := Lib.hid (bt HB.out hb)
    have BX := BX.below hb
    have r1 := (hb.cell (p := ⟨w.heap.size + 1, 1, none⟩) hlt5).trans r1
    have hlt5 : w.heap.size + 1 < w9.heap.size := Nat.lt_of_lt_of_le hlt5 hb.size
    clear hb
    have q0 := BX.cell (i := 0) rfl
    have f0 := BX.frozen 0
    have q1 := BX.cell (i := 1) rfl
    have f1 := BX.frozen 1
    have q2 := BX.cell (i := 2) rfl
    have f2 := BX.frozen 2
    have q3 := BX.cell (i := 3) rfl
    have f3 := BX.frozen 3
    go_wp2_with fail
    have BY : TBox ((((w9.setCell ⟨w.heap.size, 0, none⟩ (.int .i64 nv)).setCell ⟨w.heap.size, 1, none⟩ (.string b)).setCell ⟨w.heap.size, 2, none⟩ (.int .i64 xv)).setCell ⟨w.heap.size, 3, none⟩ (.int .i64 yv)) w.heap.size 51 #[.int .i64 nv, .string b, .int .i64 xv, .int .i64 yv] := ((((BX.set 0 (.int .i64 nv)).set 1 (.string b)).set 2 (.int .i64 xv)).set 3 (.int .i64 yv))
    have HY : Below w.heap.size w ((((w9.setCell ⟨w.heap.size, 0, none⟩ (.int .i64 nv)).setCell ⟨w.heap.size, 1, none⟩ (.string b)).setCell ⟨w.heap.size, 2, none⟩ (.int .i64 xv)).setCell ⟨w.heap.size, 3, none⟩ (.int .i64 yv)) := ((((HB.out.setCell (Nat.le_refl _) _).setCell (Nat.le_refl _) _).setCell (Nat.le_refl _) _).setCell (Nat.le_refl _) _)
    have R0 := BY.cell (i := 0) rfl
    have R1 := BY.cell (i := 1) rfl
    have R2 := BY.cell (i := 2) rfl
    have R3 := BY.cell (i := 3) rfl
    generalize ((((w9.setCell ⟨w.heap.size, 0, none⟩ (.int .i64 nv)).setCell ⟨w.heap.size, 1, none⟩ (.string b)).setCell ⟨w.heap.size, 2, none⟩ (.int .i64 xv)).setCell ⟨w.heap.size, 3, none⟩ (.int .i64 yv)) = W9 at *
    exact bodyPost_ret (v := .tuple #[.agg #[.int .i64 nv, .string b, .int .i64 xv, .int .i64 yv], .bool false]) (by simp [results, Tryz.results27, go_sem, R0, R1, R2, R3]) rfl (HPO.out _ _ ⟨⟨nv, b, xv, yv⟩, false, rfl, ⟨(fun h => by cases h), fun h => absurd h HQ.out⟩, (fun h => by cases h), HY⟩)
  cases nb
  · have HQ := Lib.hid (show ¬ LK from fun h => by
      have h2 := HOK.out.2 h
      exact absurd h2.2.2.1 (by decide))
    clear HOK HGV
    go_enter Tryz.func27, Tryz.ntmps27
    go_wp2_with fail
    refine CS.out.mono ?_
    rintro e1 w5 ⟨rfl, hr, hb, hlt5⟩
    have hb : Below (w.alloc (.cells #[.int .i64 0, .string ⟨#[]⟩, .int .i64 0, .int .i64 0] 51)).heap.size (w.alloc (.cells #[.int .i64 0, .string ⟨#[]⟩, .int .i64 0, .int .i64 0] 51)) w5 := by rw [World.size_alloc]; exact hb
    have r0 : w5.cell? ⟨w.heap.size + 1, 0, none⟩ = some (.string a) := hr 0 (by simp)
    have r1 : w5.cell? ⟨w.heap.size + 1, 1, none⟩ = some (.string b) := hr 1 (by simp)
    have r2 : w5.cell? ⟨w.heap.size + 1, 2, none⟩ = some (.string c) := hr 2 (by simp)
    have HB := Lib.hid (bt HB0.out hb)
    have BX := BX0.out.below hb
    clear hr hb
    go_wp2_with fail
    refine (HRW.out _).mono ?_
    rintro e1 w' ⟨rfl, rfl⟩
    go_wp2_with fail
    refine (C1.out _).mono ?_
    rintro e1 w6 ⟨rfl, hb⟩
    have HB := Lib.hid (bt HB.out hb)
    have BX := BX.below hb
    have r0 := (hb.cell (p := ⟨w.heap.size + 1, 0, none⟩) hlt5).trans r0
    have r1 := (hb.cell (p := ⟨w.heap.size + 1, 1, none⟩) hlt5).trans r1
    have hlt5 : w.heap.size + 1 < w6.heap.size := Nat.lt_of_lt_of_le hlt5 hb.size
    clear hb
    go_wp2_with fail
    refine (C2.out _).mono ?_
    rintro e1 w7 ⟨rfl, hb⟩
    have HB := Lib.hid (bt HB.out hb)
    have BX := BX.below hb
    have r1 := (hb.cell (p := ⟨w.heap.size + 1, 1, none⟩) hlt5).trans r1
    have hlt5 : w.heap.size + 1 < w7.heap.size := Nat.lt_of_lt_of_le hlt5 hb.size
    clear hb
    go_wp2_with fail
    refine (C3.out _).mono ?_
    rintro e1 w8 ⟨rfl, hb⟩
    have HB := Lib.hid (bt HB.out hb)
    have BX := BX.below hb
    have r1 := (hb.cell (p := ⟨w.heap.size + 1, 1, none⟩) hlt5).trans r1
    have hlt5 : w.heap.size + 1 < w8.heap.size := Nat.lt_of_lt_of_le hlt5 hb.size
    clear hb
    go_wp2_with fail
    refine (C4.out _).mono ?_
    rintro e1 w9 ⟨rfl, hb⟩
    have HB := Lib.hid (bt HB.out hb)
    have BX := BX.below hb
    have r1 := (hb.cell (p := ⟨w.heap.size + 1, 1, none⟩) hlt5).trans r1
    have hlt5 : w.heap.size + 1 < w9.heap.size := Nat.lt_of_lt_of_le hlt5 hb.size
    clear hb
    have q0 := BX.cell (i := 0) rfl
    have f0 := BX.frozen 0
    have q1 := BX.cell (i := 1) rfl
    have f1 := BX.frozen 1
    have q2 := BX.cell (i := 2) rfl
    have f2 := BX.frozen 2
    have q3 := BX.cell (i := 3) rfl
    have f3 := BX.frozen 3
    go_wp2_with fail
    have BY : TBox ((((w9.setCell ⟨w.heap.size, 0, none⟩ (.int .i64 nv)).setCell ⟨w.heap.size, 1, none⟩ (.string b)).setCell ⟨w.heap.size, 2, none⟩ (.int .i64 xv)).setCell ⟨w.heap.size, 3, none⟩ (.int .i64 yv)) w.heap.size 51 #[.int .i64 nv, .string b, .int .i64 xv, .int .i64 yv] := ((((BX.set 0 (.int .i64 nv)).set 1 (.string b)).set 2 (.int .i64 xv)).set 3 (.int .i64 yv))
    have HY : Below w.heap.size w ((((w9.setCell ⟨w.heap.size, 0, none⟩ (.int .i64 nv)).setCell ⟨w.heap.size, 1, none⟩ (.string b)).setCell ⟨w.heap.size, 2, none⟩ (.int .i64 xv)).setCell ⟨w.heap.size, 3, none⟩ (.int .i64 yv)) := ((((HB.out.setCell (Nat.le_refl _) _).setCell (Nat.le_refl _) _).setCell (Nat.le_refl _) _).setCell (Nat.le_refl _) _)
    have R0 := BY.cell (i := 0) rfl
    have R1 := BY.cell (i := 1) rfl
    have R2 := BY.cell (i := 2) rfl
    have R3 := BY.cell (i := 3) rfl
    generalize ((((w9.setCell ⟨w.heap.size, 0, none⟩ (.int .i64 nv)).setCell ⟨w.heap.size, 1, none⟩ (.string b)).setCell ⟨w.heap.size, 2, none⟩ (.int .i64 xv)).setCell ⟨w.heap.size, 3, none⟩ (.int .i64 yv)) = W9 at *
    exact bodyPost_ret (v := .tuple #[.agg #[.int .i64 nv, .string b, .int .i64 xv, .int .i64 yv], .bool false]) (by simp [results, Tryz.results27, go_sem, R0, R1, R2, R3]) rfl (HPO.out _ _ ⟨⟨nv, b, xv, yv⟩, false, rfl, ⟨(fun h => by cases h), fun h => absurd h HQ.out⟩, (fun h => by cases h), HY⟩)
  cases xb
  · have HQ := Lib.hid (show ¬ LK from fun h => by
      have h2 := HOK.out.2 h
      exact absurd h2.2.2.2.1 (by decide))
    clear HOK HGV
    go_enter Tryz.func27, Tryz.ntmps27
    go_wp2_with fail
    refine CS.out.mono ?_
    rintro e1 w5 ⟨rfl, hr, hb, hlt5⟩
    have hb : Below (w.alloc (.cells #[.int .i64 0, .string ⟨#[]⟩, .int .i64 0, .int .i64 0] 51)).heap.size (w.alloc (.cells #[.int .i64 0, .string ⟨#[]⟩, .int .i64 0, .int .i64 0] 51)) w5 := by rw [World.size_alloc]; exact hb
    have r0 : w5.cell? ⟨w.heap.size + 1, 0, none⟩ = some (.string a) := hr 0 (by simp)
    have r1 : w5.cell? ⟨w.heap.size + 1, 1, none⟩ = some (.string b) := hr 1 (by simp)
    have r2 : w5.cell? ⟨w.heap.size + 1, 2, none⟩ = some (.string c) := hr 2 (by simp)
    have HB := Lib.hid (bt HB0.out hb)
    have BX := BX0.out.below hb
    clear hr hb
    go_wp2_with fail
    refine (HRW.out _).mono ?_
    rintro e1 w' ⟨rfl, rfl⟩
    go_wp2_with fail
    refine (C1.out _).mono ?_
    rintro e1 w6 ⟨rfl, hb⟩
    have HB := Lib.hid (bt HB.out hb)
    have BX := BX.below hb
    have r0 := (hb.cell (p := ⟨w.heap.size + 1, 0, none⟩) hlt5).trans r0
    have r1 := (hb.cell (p := ⟨w.heap.size + 1, 1, none⟩) hlt5).trans r1
    have hlt5 : w.heap.size + 1 < w6.heap.size := Nat.lt_of_lt_of_le hlt5 hb.size
    clear hb
    go_wp2_with fail
    refine (C2.out _).mono ?_
    rintro e1 w7 ⟨rfl, hb⟩
    have HB := Lib.hid (bt HB.out hb)
    have BX := BX.below hb
    have r1 := (hb.cell (p := ⟨w.heap.size + 1, 1, none⟩) hlt5).trans r1
    have hlt5 : w.heap.size + 1 < w7.heap.size := Nat.lt_of_lt_of_le hlt5 hb.size
    clear hb
    go_wp2_with fail
    refine (C3.out _).mono ?_
    rintro e1 w8 ⟨rfl, hb⟩
    have HB := Lib.hid (bt HB.out hb)
    have BX := BX.below hb
    have r1 := (hb.cell (p := ⟨w.heap.size + 1, 1, none⟩) hlt5).trans r1
    have hlt5 : w.heap.size + 1 < w8.heap.size := Nat.lt_of_lt_of_le hlt5 hb.size
    clear hb
    go_wp2_with fail
    refine (C4.out _).mono ?_
    rintro e1 w9 ⟨rfl, hb⟩
    have HB := Lib.hid (bt HB.out hb)
    have BX := BX.below hb
    have r1 := (hb.cell (p := ⟨w.heap.size + 1, 1, none⟩) hlt5).trans r1
    have hlt5 : w.heap.size + 1 < w9.heap.size := Nat.lt_of_lt_of_le hlt5 hb.size
    clear hb
    have q0 := BX.cell (i := 0) rfl
    have f0 := BX.frozen 0
    have q1 := BX.cell (i := 1) rfl
    have f1 := BX.frozen 1
    have q2 := BX.cell (i := 2) rfl
    have f2 := BX.frozen 2
    have q3 := BX.cell (i := 3) rfl
    have f3 := BX.frozen 3
    go_wp2_with fail
    have BY : TBox ((((w9.setCell ⟨w.heap.size, 0, none⟩ (.int .i64 nv)).setCell ⟨w.heap.size, 1, none⟩ (.string b)).setCell ⟨w.heap.size, 2, none⟩ (.int .i64 xv)).setCell ⟨w.heap.size, 3, none⟩ (.int .i64 yv)) w.heap.size 51 #[.int .i64 nv, .string b, .int .i64 xv, .int .i64 yv] := ((((BX.set 0 (.int .i64 nv)).set 1 (.string b)).set 2 (.int .i64 xv)).set 3 (.int .i64 yv))
    have HY : Below w.heap.size w ((((w9.setCell ⟨w.heap.size, 0, none⟩ (.int .i64 nv)).setCell ⟨w.heap.size, 1, none⟩ (.string b)).setCell ⟨w.heap.size, 2, none⟩ (.int .i64 xv)).setCell ⟨w.heap.size, 3, none⟩ (.int .i64 yv)) := ((((HB.out.setCell (Nat.le_refl _) _).setCell (Nat.le_refl _) _).setCell (Nat.le_refl _) _).setCell (Nat.le_refl _) _)
    have R0 := BY.cell (i := 0) rfl
    have R1 := BY.cell (i := 1) rfl
    have R2 := BY.cell (i := 2) rfl
    have R3 := BY.cell (i := 3) rfl
    generalize ((((w9.setCell ⟨w.heap.size, 0, none⟩ (.int .i64 nv)).setCell ⟨w.heap.size, 1, none⟩ (.string b)).setCell ⟨w.heap.size, 2, none⟩ (.int .i64 xv)).setCell ⟨w.heap.size, 3, none⟩ (.int .i64 yv)) = W9 at *
    exact bodyPost_ret (v := .tuple #[.agg #[.int .i64 nv, .string b, .int .i64 xv, .int .i64 yv], .bool false]) (by simp [results, Tryz.results27, go_sem, R0, R1, R2, R3]) rfl (HPO.out _ _ ⟨⟨nv, b, xv, yv⟩, false, rfl, ⟨(fun h => by cases h), fun h => absurd h HQ.out⟩, (fun h => by cases h), HY⟩)
  cases yb
  · have HQ := Lib.hid (show ¬ LK from fun h => by
      have h2 := HOK.out.2 h
      exact absurd h2.2.2.2.2 (by decide))
    clear HOK HGV
    go_enter Tryz.func27, Tryz.ntmps27
    go_wp2_with fail
    refine CS.out.mono ?_
    rintro e1 w5 ⟨rfl, hr, hb, hlt5⟩
    have hb : Below (w.alloc (.cells #[.int .i64 0, .string ⟨#[]⟩, .int .i64 0, .int .i64 0] 51)).heap.size (w.alloc (.cells #[.int .i64 0, .string ⟨#[]⟩, .int .i64 0, .int .i64 0] 51)) w5 := by rw [World.size_alloc]; exact hb
    have r0 : w5.cell? ⟨w.heap.size + 1, 0, none⟩ = some (.string a) := hr 0 (by simp)
    have r1 : w5.cell? ⟨w.heap.size + 1, 1, none⟩ = some (.string b) := hr 1 (by simp)
    have r2 : w5.cell? ⟨w.heap.size + 1, 2, none⟩ = some (.string c) := hr 2 (by simp)
    have HB := Lib.hid (bt HB0.out hb)
    have BX := BX0.out.below hb
    clear hr hb
    go_wp2_with fail
    refine (HRW.out _).mono ?_
    rintro e1 w' ⟨rfl, rfl⟩
    go_wp2_with fail
    refine (C1.out _).mono ?_
    rintro e1 w6 ⟨rfl, hb⟩
    have HB := Lib.hid (bt HB.out hb)
    have BX := BX.below hb
    have r0 := (hb.cell (p := ⟨w.heap.size + 1, 0, none⟩) hlt5).trans r0
    have r1 := (hb.cell (p := ⟨w.heap.size + 1, 1, none⟩) hlt5).trans r1
    have hlt5 : w.heap.size + 1 < w6.heap.size := Nat.lt_of_lt_of_le hlt5 hb.size
    clear hb
    go_wp2_with fail
    refine (C2.out _).mono ?_
    rintro e1 w7 ⟨rfl, hb⟩
    have HB := Lib.hid (bt HB.out hb)
    have BX := BX.below hb
    have r1 := (hb.cell (p := ⟨w.heap.size + 1, 1, none⟩) hlt5).trans r1
    have hlt5 : w.heap.size + 1 < w7.heap.size := Nat.lt_of_lt_of_le hlt5 hb.size
    clear hb
    go_wp2_with fail
    refine (C3.out _).mono ?_
    rintro e1 w8 ⟨rfl, hb⟩
    have HB := Lib.hid (bt HB.out hb)
    have BX := BX.below hb
    have r1 := (hb.cell (p := ⟨w.heap.size + 1, 1, none⟩) hlt5).trans r1
    have hlt5 : w.heap.size + 1 < w8.heap.size := Nat.lt_of_lt_of_le hlt5 hb.size
    clear hb
    go_wp2_with fail
    refine (C4.out _).mono ?_
    rintro e1 w9 ⟨rfl, hb⟩
    have HB := Lib.hid (bt HB.out hb)
    have BX := BX.below hb
    have r1 := (hb.cell (p := ⟨w.heap.size + 1, 1, none⟩) hlt5).trans r1
    have hlt5 : w.heap.size + 1 < w9.heap.size := Nat.lt_of_lt_of_le hlt5 hb.size
    clear hb
    have q0 := BX.cell (i := 0) rfl
    have f0 := BX.frozen 0
    have q1 := BX.cell (i := 1) rfl
    have f1 := BX.frozen 1
    have q2 := BX.cell (i := 2) rfl
    have f2 := BX.frozen 2
    have q3 := BX.cell (i := 3) rfl
    have f3 := BX.frozen 3
    go_wp2_with fail
    have BY : TBox ((((w9.setCell ⟨w.heap.size, 0, none⟩ (.int .i64 nv)).setCell ⟨w.heap.size, 1, none⟩ (.string b)).setCell ⟨w.heap.size, 2, none⟩ (.int .i64 xv)).setCell ⟨w.heap.size, 3, none⟩ (.int .i64 yv)) w.heap.size 51 #[.int .i64 nv, .string b, .int .i64 xv, .int .i64 yv] := ((((BX.set 0 (.int .i64 nv)).set 1 (.string b)).set 2 (.int .i64 xv)).set 3 (.int .i64 yv))
    have HY : Below w.heap.size w ((((w9.setCell ⟨w.heap.size, 0, none⟩ (.int .i64 nv)).setCell ⟨w.heap.size, 1, none⟩ (.string b)).setCell ⟨w.heap.size, 2, none⟩ (.int .i64 xv)).setCell ⟨w.heap.size, 3, none⟩ (.int .i64 yv)) := ((((HB.out.setCell (Nat.le_refl _) _).setCell (Nat.le_refl _) _).setCell (Nat.le_refl _) _).setCell (Nat.le_refl _) _)
    have R0 := BY.cell (i := 0) rfl
    have R1 := BY.cell (i := 1) rfl
    have R2 := BY.cell (i := 2) rfl
    have R3 := BY.cell (i := 3) rfl
    generalize ((((w9.setCell ⟨w.heap.size, 0, none⟩ (.int .i64 nv)).setCell ⟨w.heap.size, 1, none⟩ (.string b)).setCell ⟨w.heap.size, 2, none⟩ (.int .i64 xv)).setCell ⟨w.heap.size, 3, none⟩ (.int .i64 yv)) = W9 at *
    exact bodyPost_ret (v := .tuple #[.agg #[.int .i64 nv, .string b, .int .i64 xv, .int .i64 yv], .bool false]) (by simp [results, Tryz.results27, go_sem, R0, R1, R2, R3]) rfl (HPO.out _ _ ⟨⟨nv, b, xv, yv⟩, false, rfl, ⟨(fun h => by cases h), fun h => absurd h HQ.out⟩, (fun h => by cases h), HY⟩)
  have HQ0 := Lib.hid (HOK.out.1 ⟨rfl, rfl, rfl, rfl, rfl⟩)
  have HQ1 := Lib.hid (HGV.out rfl rfl rfl)
  clear HOK HGV
  go_enter Tryz.func27, Tryz.ntmps27
  go_wp2_with fail
  refine CS.out.mono ?_
  rintro e1 w5 ⟨rfl, hr, hb, hlt5⟩
  have hb : Below (w.alloc (.cells #[.int .i64 0, .string ⟨#[]⟩, .int .i64 0, .int .i64 0] 51)).heap.size (w.alloc (.cells #[.int .i64 0, .string ⟨#[]⟩, .int .i64 0, .int .i64 0] 51)) w5 := by rw [World.size_alloc]; exact hb
  have r0 : w5.cell? ⟨w.heap.size + 1, 0, none⟩ = some (.string a) := hr 0 (by simp)
  have r1 : w5.cell? ⟨w.heap.size + 1, 1, none⟩ = some (.string b) := hr 1 (by simp)
  have r2 : w5.cell? ⟨w.heap.size + 1, 2, none⟩ = some (.string c) := hr 2 (by simp)
  have HB := Lib.hid (bt HB0.out hb)
  have BX := BX0.out.below hb
  clear hr hb
  go_wp2_with fail
  refine (HRW.out _).mono ?_
  rintro e1 w' ⟨rfl, rfl⟩
  go_wp2_with fail
  refine (C1.out _).mono ?_
  rintro e1 w6 ⟨rfl, hb⟩
  have HB := Lib.hid (bt HB.out hb)
  have BX := BX.below hb
  have r0 := (hb.cell (p := ⟨w.heap.size + 1, 0, none⟩) hlt5).trans r0
  have r1 := (hb.cell (p := ⟨w.heap.size + 1, 1, none⟩) hlt5).trans r1
  have hlt5 : w.heap.size + 1 < w6.heap.size := Nat.lt_of_lt_of_le hlt5 hb.size
  clear hb
  go_wp2_with fail
  refine (C2.out _).mono ?_
  rintro e1 w7 ⟨rfl, hb⟩
  have HB := Lib.hid (bt HB.out hb)
  have BX := BX.below hb
  have r1 := (hb.cell (p := ⟨w.heap.size + 1, 1, none⟩) hlt5).trans r1
  have hlt5 : w.heap.size + 1 < w7.heap.size := Nat.lt_of_lt_of_le hlt5 hb.size
  clear hb
  go_wp2_with fail
  refine (C3.out _).mono ?_
  rintro e1 w8 ⟨rfl, hb⟩
  have HB := Lib.hid (bt HB.out hb)
  have BX := BX.below hb
  have r1 := (hb.cell (p := ⟨w.heap.size + 1, 1, none⟩) hlt5).trans r1
  have hlt5 : w.heap.size + 1 < w8.heap.size := Nat.lt_of_lt_of_le hlt5 hb.size
  clear hb
  go_wp2_with fail
  refine (C4.out _).mono ?_
  rintro e1 w9 ⟨rfl, hb⟩
  have HB := Lib.hid (bt HB.out hb)
  have BX := BX.below hb
  have r1 := (hb.cell (p := ⟨w.heap.size + 1, 1, none⟩) hlt5).trans r1
  have hlt5 : w.heap.size + 1 < w9.heap.size := Nat.lt_of_lt_of_le hlt5 hb.size
  clear hb
  have q0 := BX.cell (i := 0) rfl
  have f0 := BX.frozen 0
  have q1 := BX.cell (i := 1) rfl
  have f1 := BX.frozen 1
  have q2 := BX.cell (i := 2) rfl
  have f2 := BX.frozen 2
  have q3 := BX.cell (i := 3) rfl
  have f3 := BX.frozen 3
  go_wp2_with fail
  have BY : TBox ((((w9.setCell ⟨w.heap.size, 0, none⟩ (.int .i64 nv)).setCell ⟨w.heap.size, 1, none⟩ (.string b)).setCell ⟨w.heap.size, 2, none⟩ (.int .i64 xv)).setCell ⟨w.heap.size, 3, none⟩ (.int .i64 yv)) w.heap.size 51 #[.int .i64 nv, .string b, .int .i64 xv, .int .i64 yv] := ((((BX.set 0 (.int .i64 nv)).set 1 (.string b)).set 2 (.int .i64 xv)).set 3 (.int .i64 yv))
  have HY : Below w.heap.size w ((((w9.setCell ⟨w.heap.size, 0, none⟩ (.int .i64 nv)).setCell ⟨w.heap.size, 1, none⟩ (.string b)).setCell ⟨w.heap.size, 2, none⟩ (.int .i64 xv)).setCell ⟨w.heap.size, 3, none⟩ (.int .i64 yv)) := ((((HB.out.setCell (Nat.le_refl _) _).setCell (Nat.le_refl _) _).setCell (Nat.le_refl _) _).setCell (Nat.le_refl _) _)
  have R0 := BY.cell (i := 0) rfl
  have R1 := BY.cell (i := 1) rfl
  have R2 := BY.cell (i := 2) rfl
  have R3 := BY.cell (i := 3) rfl
  generalize ((((w9.setCell ⟨w.heap.size, 0, none⟩ (.int .i64 nv)).setCell ⟨w.heap.size, 1, none⟩ (.string b)).setCell ⟨w.heap.size, 2, none⟩ (.int .i64 xv)).setCell ⟨w.heap.size, 3, none⟩ (.int .i64 yv)) = W9 at *
  exact bodyPost_ret (v := .tuple #[.agg #[.int .i64 nv, .string b, .int .i64 xv, .int .i64 yv], .bool true]) (by simp [results, Tryz.results27, go_sem, R0, R1, R2, R3]) rfl (HPO.out _ _ ⟨⟨nv, b, xv, yv⟩, true, rfl, ⟨(fun _ => HQ0.out), (fun _ => rfl)⟩, (fun _ => HQ1.out), HY⟩)
end Go.Proofs.YtppbagllhmeenaaGreatDoor
