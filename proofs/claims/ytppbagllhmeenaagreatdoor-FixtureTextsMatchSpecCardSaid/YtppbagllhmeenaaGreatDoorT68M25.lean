/- fixture.readRange at any line. (printed by wip/gen/gen_librange.py) -/
import Derived.Test.YtppbagllhmeenaaGreatDoorT68M18
import Derived.Test.YtppbagllhmeenaaGreatDoorT68M24
import Derived.Deep.RegionLaw

namespace Go.Proofs.YtppbagllhmeenaaGreatDoor
open Go.RowKit
open Go.ChangeShapes
set_option linter.unusedVariables false
set_option linter.unusedSimpArgs false

/-- what readRange hands back -/
def RdR (o : Option Rng) (w : World) (e : Ending) (w' : World) : Prop :=
  ∃ (a b : Int) (n : ByteArray), e = .returned (.tuple #[.agg #[.int .i64 a, .int .i64 b, .string n], .bool o.isSome]) ∧ (∀ r, o = some r → r = ⟨a, b, n⟩) ∧ Below w.heap.size w w'
theorem rngW_no {L : List ByteArray} (h : L.length ≠ 3) : rngW L = none := by
  unfold rngW
  split
  · simp at h
  · rfl
theorem rngW_three (a b n : ByteArray) : rngW [a, b, n] = if rowB n.data.toList = true then (lvW a).bind fun l => (lvW b).map fun h => ⟨l, h, n⟩ else none := rfl
theorem slist3 {L : List ByteArray} (h : L.length = 3) : ∃ a b c, L = [a, b, c] := by
  match L, h with
  | [a, b, c], _ => exact ⟨a, b, c, rfl⟩
/-- level.Read, its fault a number of its own -/
theorem lread_f (s : ByteArray) (hn : s.size ≤ 9223372036854775807) : ∃ x f : Int, (∀ w, Calls Tryz.prog 62 #[.string s] w fun e w' => e = .returned (.tuple #[.int .i64 x, .int .i64 f]) ∧ Below w.heap.size w w') ∧ ((f = 0 ∧ lvW s = some x) ∨ (f = 9 ∧ lvW s = none)) := by
  cases h : lvW s with
  | none => exact ⟨0, 9, fun w => by have := lread_any s w hn; rw [h] at this; exact this, .inr ⟨rfl, rfl⟩⟩
  | some v => exact ⟨v, 0, fun w => by have := lread_any s w hn; rw [h] at this; exact this, .inl ⟨rfl, rfl⟩⟩

set_option maxRecDepth 100000 in
set_option maxHeartbeats 8000000 in
theorem readRange_any (s : ByteArray) (w : World) (hT : TextW w) (hn : s.size ≤ 200000) :
    Calls Tryz.prog 37 #[.string s] w (RdR (rngW (wordsB 32 s)) w) := by
  have HPO := Lib.hid (show ∀ e w', (∃ (a b : Int) (n : ByteArray), e = .returned (.tuple #[.agg #[.int .i64 a, .int .i64 b, .string n], .bool (rngW (wordsB 32 s)).isSome]) ∧ (∀ r, rngW (wordsB 32 s) = some r → r = ⟨a, b, n⟩) ∧ Below w.heap.size w w') → RdR (rngW (wordsB 32 s)) w e w' from fun e w' h => h)
  have CS := Lib.hid (fun W (hb : Below w.heap.size w W) => split_any 32 s W (hT.below hb) (by omega))
  have HWS := Lib.hid (fun x hx => Nat.le_trans (wordsB_size 32 s x hx) hn)
  have hwle : (wordsB 32 s).length ≤ 200001 := by have := wordsB_le 32 s; omega
  unfold SplitPost at CS
  generalize RdR (rngW (wordsB 32 s)) w = PO at *
  generalize wordsB 32 s = L at *
  clear hT hn
  have HB0 := Lib.hid (show Below w.heap.size w (w.alloc (.cells #[.int .i64 0, .int .i64 0, .string ⟨#[]⟩] 75)) from (Below.refl _ _).alloc (Nat.le_refl _) _)
  have B0 := Lib.hid (TBox.new w #[.int .i64 0, .int .i64 0, .string ⟨#[]⟩] 75)
  go_enter Tryz.func37, Tryz.ntmps37
  go_upto_region 1 with fail
  obtain ⟨w1, hw1⟩ : ∃ w1 : World, w1 = w.alloc (.cells #[.int .i64 0, .int .i64 0, .string ⟨#[]⟩] 75) := ⟨_, rfl⟩
  rw [← hw1] at HB0 B0 ⊢
  clear hw1
  go_wp2_with fail
  refine (CS.out _ HB0.out).mono ?_
  rintro e1 w2 ⟨rfl, hr, hb, hlt2⟩
  have HB2 := Lib.hid (HB0.out.trans (hb.mono HB0.out.size))
  have B2 := Lib.hid (B0.out.below hb)
  have hb2l := B2.out.lt
  clear hb CS HB0 B0
  by_cases h3 : L.length = 3
  rotate_left
  · have HN := Lib.hid (rngW_no h3)
    have h3i : (((L.length : Nat) : Int) != 3) = true := by simp; omega
    have h3j : ¬ ((L.length : Nat) : Int) = 3 := by omega
    clear hr h3
    have BX := B2.out
    have q0 := BX.cell (i := 0) rfl
    have f0 := BX.frozen 0
    have q1 := BX.cell (i := 1) rfl
    have f1 := BX.frozen 1
    have q2 := BX.cell (i := 2) rfl
    have f2 := BX.frozen 2
    go_wp2_with fail
    have BY : TBox (((w2.setCell ⟨w.heap.size, 0, none⟩ (.int .i64 0)).setCell ⟨w.heap.size, 1, none⟩ (.int .i64 0)).setCell ⟨w.heap.size, 2, none⟩ (.string ⟨#[]⟩)) w.heap.size 75 #[(.int .i64 0), (.int .i64 0), (.string ⟨#[]⟩)] := (((BX.set 0 (.int .i64 0)).set 1 (.int .i64 0)).set 2 (.string ⟨#[]⟩))
    have HY : Below w.heap.size w (((w2.setCell ⟨w.heap.size, 0, none⟩ (.int .i64 0)).setCell ⟨w.heap.size, 1, none⟩ (.int .i64 0)).setCell ⟨w.heap.size, 2, none⟩ (.string ⟨#[]⟩)) := (((HB2.out.setCell (Nat.le_refl _) (.int .i64 0)).setCell (Nat.le_refl _) (.int .i64 0)).setCell (Nat.le_refl _) (.string ⟨#[]⟩))
    have R0 := BY.cell (i := 0) rfl
    have R1 := BY.cell (i := 1) rfl
    have R2 := BY.cell (i := 2) rfl
    generalize (((w2.setCell ⟨w.heap.size, 0, none⟩ (.int .i64 0)).setCell ⟨w.heap.size, 1, none⟩ (.int .i64 0)).setCell ⟨w.heap.size, 2, none⟩ (.string ⟨#[]⟩)) = W9 at *
    exact bodyPost_ret (v := .tuple #[.agg #[(.int .i64 0), (.int .i64 0), (.string ⟨#[]⟩)], .bool false]) (by simp [results, Tryz.results37, go_sem, R0, R1, R2]) rfl (HPO.out _ _ ⟨0, 0, ⟨#[]⟩, by rw [HN.out]; rfl, fun r h => (by rw [HN.out] at h; cases h), HY⟩)
  obtain ⟨a, b, c, rfl⟩ := slist3 h3
  have r0 : w2.cell? ⟨w1.heap.size, 0, none⟩ = some (.string a) := hr 0 (by simp)
  have r1 : w2.cell? ⟨w1.heap.size, 1, none⟩ = some (.string b) := hr 1 (by simp)
  have r2 : w2.cell? ⟨w1.heap.size, 2, none⟩ = some (.string c) := hr 2 (by simp)
  have sa : a.size ≤ 200000 := HWS.out a (by simp)
  have sb : b.size ≤ 200000 := HWS.out b (by simp)
  have sc : c.size ≤ 200000 := HWS.out c (by simp)
  have HRW := Lib.hid (fun W => row_any c W (by unfold maxLen; omega))
  have HE := Lib.hid (rngW_three a b c)
  generalize rngW [a, b, c] = RES at *
  clear hr h3 HWS hwle
  obtain ⟨x, f, hx1, hx2⟩ := lread_f a (by omega)
  obtain ⟨y, g, hy1, hy2⟩ := lread_f b (by omega)
  have CX := Lib.hid hx1
  have CY := Lib.hid hy1
  have HXV := Lib.hid hx2
  have HYV := Lib.hid hy2
  clear hx1 hx2 hy1 hy2
  generalize rowB c.data.toList = rb at *
  cases rb
  · have HN := Lib.hid (show RES = none from HE.out)
    have BX := B2.out
    have q0 := BX.cell (i := 0) rfl
    have f0 := BX.frozen 0
    have q1 := BX.cell (i := 1) rfl
    have f1 := BX.frozen 1
    have q2 := BX.cell (i := 2) rfl
    have f2 := BX.frozen 2
    go_wp2_with fail
    refine (HRW.out _).mono ?_
    rintro e1 w' ⟨rfl, rfl⟩
    go_wp2_with fail
    have BY : TBox (((w2.setCell ⟨w.heap.size, 0, none⟩ (.int .i64 0)).setCell ⟨w.heap.size, 1, none⟩ (.int .i64 0)).setCell ⟨w.heap.size, 2, none⟩ (.string ⟨#[]⟩)) w.heap.size 75 #[(.int .i64 0), (.int .i64 0), (.string ⟨#[]⟩)] := (((BX.set 0 (.int .i64 0)).set 1 (.int .i64 0)).set 2 (.string ⟨#[]⟩))
    have HY : Below w.heap.size w (((w2.setCell ⟨w.heap.size, 0, none⟩ (.int .i64 0)).setCell ⟨w.heap.size, 1, none⟩ (.int .i64 0)).setCell ⟨w.heap.size, 2, none⟩ (.string ⟨#[]⟩)) := (((HB2.out.setCell (Nat.le_refl _) (.int .i64 0)).setCell (Nat.le_refl _) (.int .i64 0)).setCell (Nat.le_refl _) (.string ⟨#[]⟩))
    have R0 := BY.cell (i := 0) rfl
    have R1 := BY.cell (i := 1) rfl
    have R2 := BY.cell (i := 2) rfl
    generalize (((w2.setCell ⟨w.heap.size, 0, none⟩ (.int .i64 0)).setCell ⟨w.heap.size, 1, none⟩ (.int .i64 0)).setCell ⟨w.heap.size, 2, none⟩ (.string ⟨#[]⟩)) = W9 at *
    exact bodyPost_ret (v := .tuple #[.agg #[(.int .i64 0), (.int .i64 0), (.string ⟨#[]⟩)], .bool false]) (by simp [results, Tryz.results37, go_sem, R0, R1, R2]) rfl (HPO.out _ _ ⟨0, 0, ⟨#[]⟩, by rw [HN.out]; rfl, fun r h => (by rw [HN.out] at h; cases h), HY⟩)
  go_wp2_with fail
  refine (HRW.out _).mono ?_
  rintro e1 w' ⟨rfl, rfl⟩
  go_wp2_with fail
  refine (CX.out _).mono ?_
  rintro e1 w3 ⟨rfl, hb⟩
  have r1 := (hb.cell (p := ⟨w1.heap.size, 1, none⟩) hlt2).trans r1
  have r2 := (hb.cell (p := ⟨w1.heap.size, 2, none⟩) hlt2).trans r2
  have hlt3 : w1.heap.size < w3.heap.size := Nat.lt_of_lt_of_le hlt2 hb.size
  have HB3 := Lib.hid (HB2.out.trans (hb.mono HB2.out.size))
  have B3 := Lib.hid (B2.out.below hb)
  clear hb r0 hlt2 HB2 B2 CX
  go_wp2_with fail
  refine (CY.out _).mono ?_
  rintro e1 w4 ⟨rfl, hb⟩
  have r2 := (hb.cell (p := ⟨w1.heap.size, 2, none⟩) hlt3).trans r2
  have HB4 := Lib.hid (HB3.out.trans (hb.mono HB3.out.size))
  have hlt4 : w1.heap.size < w4.heap.size := Nat.lt_of_lt_of_le hlt3 hb.size
  have B4 := Lib.hid (B3.out.below hb)
  clear hb r1 hlt3 HB3 B3 CY
  have BX := B4.out
  have q0 := BX.cell (i := 0) rfl
  have f0 := BX.frozen 0
  have q1 := BX.cell (i := 1) rfl
  have f1 := BX.frozen 1
  have q2 := BX.cell (i := 2) rfl
  have f2 := BX.frozen 2
  rcases HXV.out with ⟨rfl, hx⟩ | ⟨rfl, hx⟩
  · rcases HYV.out with ⟨rfl, hy⟩ | ⟨rfl, hy⟩
    · have HN := Lib.hid (show RES = some ⟨x, y, c⟩ by rw [HE.out, if_pos trivial, hx, hy]; rfl)
      clear hx hy HE HXV HYV
      go_wp2_with fail
      have BY : TBox (((w4.setCell ⟨w.heap.size, 0, none⟩ (.int .i64 x)).setCell ⟨w.heap.size, 1, none⟩ (.int .i64 y)).setCell ⟨w.heap.size, 2, none⟩ (.string c)) w.heap.size 75 #[(.int .i64 x), (.int .i64 y), (.string c)] := (((BX.set 0 (.int .i64 x)).set 1 (.int .i64 y)).set 2 (.string c))
      have HY : Below w.heap.size w (((w4.setCell ⟨w.heap.size, 0, none⟩ (.int .i64 x)).setCell ⟨w.heap.size, 1, none⟩ (.int .i64 y)).setCell ⟨w.heap.size, 2, none⟩ (.string c)) := (((HB4.out.setCell (Nat.le_refl _) (.int .i64 x)).setCell (Nat.le_refl _) (.int .i64 y)).setCell (Nat.le_refl _) (.string c))
      have R0 := BY.cell (i := 0) rfl
      have R1 := BY.cell (i := 1) rfl
      have R2 := BY.cell (i := 2) rfl
      generalize (((w4.setCell ⟨w.heap.size, 0, none⟩ (.int .i64 x)).setCell ⟨w.heap.size, 1, none⟩ (.int .i64 y)).setCell ⟨w.heap.size, 2, none⟩ (.string c)) = W9 at *
      exact bodyPost_ret (v := .tuple #[.agg #[(.int .i64 x), (.int .i64 y), (.string c)], .bool true]) (by simp [results, Tryz.results37, go_sem, R0, R1, R2]) rfl (HPO.out _ _ ⟨x, y, c, by rw [HN.out]; rfl, fun r h => (by rw [HN.out] at h; exact (Option.some.inj h).symm), HY⟩)
    · have HN := Lib.hid (show RES = none by rw [HE.out, if_pos trivial, hx, hy]; rfl)
      clear hx hy HE HXV HYV
      go_wp2_with fail
      have BY : TBox (((w4.setCell ⟨w.heap.size, 0, none⟩ (.int .i64 x)).setCell ⟨w.heap.size, 1, none⟩ (.int .i64 y)).setCell ⟨w.heap.size, 2, none⟩ (.string c)) w.heap.size 75 #[(.int .i64 x), (.int .i64 y), (.string c)] := (((BX.set 0 (.int .i64 x)).set 1 (.int .i64 y)).set 2 (.string c))
      have HY : Below w.heap.size w (((w4.setCell ⟨w.heap.size, 0, none⟩ (.int .i64 x)).setCell ⟨w.heap.size, 1, none⟩ (.int .i64 y)).setCell ⟨w.heap.size, 2, none⟩ (.string c)) := (((HB4.out.setCell (Nat.le_refl _) (.int .i64 x)).setCell (Nat.le_refl _) (.int .i64 y)).setCell (Nat.le_refl _) (.string c))
      have R0 := BY.cell (i := 0) rfl
      have R1 := BY.cell (i := 1) rfl
      have R2 := BY.cell (i := 2) rfl
      generalize (((w4.setCell ⟨w.heap.size, 0, none⟩ (.int .i64 x)).setCell ⟨w.heap.size, 1, none⟩ (.int .i64 y)).setCell ⟨w.heap.size, 2, none⟩ (.string c)) = W9 at *
      exact bodyPost_ret (v := .tuple #[.agg #[(.int .i64 x), (.int .i64 y), (.string c)], .bool false]) (by simp [results, Tryz.results37, go_sem, R0, R1, R2]) rfl (HPO.out _ _ ⟨x, y, c, by rw [HN.out]; rfl, fun r h => (by rw [HN.out] at h; cases h), HY⟩)
  · have HN := Lib.hid (show RES = none by rw [HE.out, if_pos trivial, hx]; rfl)
    clear hx HE HXV HYV
    go_wp2_with fail
    have BY : TBox (((w4.setCell ⟨w.heap.size, 0, none⟩ (.int .i64 x)).setCell ⟨w.heap.size, 1, none⟩ (.int .i64 y)).setCell ⟨w.heap.size, 2, none⟩ (.string c)) w.heap.size 75 #[(.int .i64 x), (.int .i64 y), (.string c)] := (((BX.set 0 (.int .i64 x)).set 1 (.int .i64 y)).set 2 (.string c))
    have HY : Below w.heap.size w (((w4.setCell ⟨w.heap.size, 0, none⟩ (.int .i64 x)).setCell ⟨w.heap.size, 1, none⟩ (.int .i64 y)).setCell ⟨w.heap.size, 2, none⟩ (.string c)) := (((HB4.out.setCell (Nat.le_refl _) (.int .i64 x)).setCell (Nat.le_refl _) (.int .i64 y)).setCell (Nat.le_refl _) (.string c))
    have R0 := BY.cell (i := 0) rfl
    have R1 := BY.cell (i := 1) rfl
    have R2 := BY.cell (i := 2) rfl
    generalize (((w4.setCell ⟨w.heap.size, 0, none⟩ (.int .i64 x)).setCell ⟨w.heap.size, 1, none⟩ (.int .i64 y)).setCell ⟨w.heap.size, 2, none⟩ (.string c)) = W9 at *
    exact bodyPost_ret (v := .tuple #[.agg #[(.int .i64 x), (.int .i64 y), (.string c)], .bool false]) (by simp [results, Tryz.results37, go_sem, R0, R1, R2]) rfl (HPO.out _ _ ⟨x, y, c, by rw [HN.out]; rfl, fun r h => (by rw [HN.out] at h; cases h), HY⟩)
end Go.Proofs.YtppbagllhmeenaaGreatDoor
