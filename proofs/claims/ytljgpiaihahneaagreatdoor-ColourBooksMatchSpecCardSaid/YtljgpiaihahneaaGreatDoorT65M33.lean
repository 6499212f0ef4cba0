/- strconv.FormatInt at base 16, at numbers of one to four hex digits. (printed by wip/gen/gen_colref.py) -/
import Derived.Test.YtljgpiaihahneaaGreatDoorT65M17

namespace Go.Proofs.YtljgpiaihahneaaGreatDoor
open Go.RowKit
set_option linter.unusedVariables false
set_option linter.unusedSimpArgs false

theorem hyCells1 (Z : Array Value) (hz : Z.size = 65) (A : Value) : (Z.setIfInBounds 64 A)[64]? = some A := by
  simp [Array.getElem?_setIfInBounds, hz]
theorem hyConv1 (W : World) (g : Nat) (x0 : UInt8) (h0 : W.cell? ⟨g, 64, none⟩ = some (.int .u8 (x0.toNat : Int))) :
    Sem.run Tryz.prog (convert 36 9 (.slice (some ⟨g, 64, none⟩) 1 1)) W = .ok (.string ⟨#[x0]⟩) W :=
  run_convert_bytes_back W 36 9 5 ⟨g, 64, none⟩ 1 [x0] Tryz.underlying36 Tryz.underlying5 Tryz.underlying9 (by
    intro j hj
    have hj3 : j < 1 := hj
    have : j = 0 := by omega
    rcases this with rfl
    · exact h0)

theorem hyCells2 (Z : Array Value) (hz : Z.size = 65) (A B : Value) : ((Z.setIfInBounds 64 A).setIfInBounds 63 B)[63]? = some B ∧ ((Z.setIfInBounds 64 A).setIfInBounds 63 B)[64]? = some A := by
  simp [Array.getElem?_setIfInBounds, hz]
theorem hyConv2 (W : World) (g : Nat) (x0 x1 : UInt8) (h0 : W.cell? ⟨g, 63, none⟩ = some (.int .u8 (x0.toNat : Int))) (h1 : W.cell? ⟨g, 64, none⟩ = some (.int .u8 (x1.toNat : Int))) :
    Sem.run Tryz.prog (convert 36 9 (.slice (some ⟨g, 63, none⟩) 2 2)) W = .ok (.string ⟨#[x0, x1]⟩) W :=
  run_convert_bytes_back W 36 9 5 ⟨g, 63, none⟩ 2 [x0, x1] Tryz.underlying36 Tryz.underlying5 Tryz.underlying9 (by
    intro j hj
    have hj3 : j < 2 := hj
    have : j = 0 ∨ j = 1 := by omega
    rcases this with rfl | rfl
    · exact h0
    · exact h1)

theorem hyCells4 (Z : Array Value) (hz : Z.size = 65) (A B C D : Value) : ((((Z.setIfInBounds 64 A).setIfInBounds 63 B).setIfInBounds 62 C).setIfInBounds 61 D)[61]? = some D ∧ ((((Z.setIfInBounds 64 A).setIfInBounds 63 B).setIfInBounds 62 C).setIfInBounds 61 D)[62]? = some C ∧ ((((Z.setIfInBounds 64 A).setIfInBounds 63 B).setIfInBounds 62 C).setIfInBounds 61 D)[63]? = some B ∧ ((((Z.setIfInBounds 64 A).setIfInBounds 63 B).setIfInBounds 62 C).setIfInBounds 61 D)[64]? = some A := by
  simp [Array.getElem?_setIfInBounds, hz]
theorem hyConv4 (W : World) (g : Nat) (x0 x1 x2 x3 : UInt8) (h0 : W.cell? ⟨g, 61, none⟩ = some (.int .u8 (x0.toNat : Int))) (h1 : W.cell? ⟨g, 62, none⟩ = some (.int .u8 (x1.toNat : Int))) (h2 : W.cell? ⟨g, 63, none⟩ = some (.int .u8 (x2.toNat : Int))) (h3 : W.cell? ⟨g, 64, none⟩ = some (.int .u8 (x3.toNat : Int))) :
    Sem.run Tryz.prog (convert 36 9 (.slice (some ⟨g, 61, none⟩) 4 4)) W = .ok (.string ⟨#[x0, x1, x2, x3]⟩) W :=
  run_convert_bytes_back W 36 9 5 ⟨g, 61, none⟩ 4 [x0, x1, x2, x3] Tryz.underlying36 Tryz.underlying5 Tryz.underlying9 (by
    intro j hj
    have hj3 : j < 4 := hj
    have : j = 0 ∨ j = 1 ∨ j = 2 ∨ j = 3 := by omega
    rcases this with rfl | rfl | rfl | rfl
    · exact h0
    · exact h1
    · exact h2
    · exact h3)

set_option maxHeartbeats 8000000 in
set_option maxRecDepth 100000 in
theorem fb1 (a : Nat) (w : World) (ga : a < 16) (hw : ColW w) :
    Calls Tryz.prog 69 #[.slice none 0 0, .int .u64 (a : Int), .int .i64 16, .bool false, .bool false] w fun e w' => e = .returned (.tuple #[.slice none 0 0, .string ⟨#[hd a]⟩]) ∧ Below w.heap.size w w' := by
  have CT := Lib.hid (fun W hW => tz16 W hW)
  have CP := Lib.hid (fun W => two16 W)
  have HW := Lib.hid hw
  clear hw
  go_enter Tryz.func69, Tryz.ntmps69
  go_wp2_with fail
  refine (CP.out _).mono ?_
  rintro e w' ⟨rfl, rfl⟩
  go_wp2_with fail
  refine (CT.out _ (HW.out.below ?_)).mono ?_
  · exact (Below.refl _ _).alloc (Nat.le_refl _) _
  rintro e w' ⟨rfl, rfl⟩
  go_wp2_with fail
  refine wp_loop_rounds 1 ?_
  rw [rounds_succ]
  go_wp2
  rw [hyConv1 _ w.heap.size (hd a)]
  · go_wp2
    go_ret2
    exact ⟨rfl, (Below.refl _ _).alloc (Nat.le_refl _) _⟩
  · exact (World.cell?_alloc_new w _ _ 64).trans ((hyCells1 _ zero65 _).trans (cell_hd (k := a) (by omega) (by show a < 36; omega)))
theorem rfmt1 (n : Nat) (w : World) (h0 : 0 ≤ n) (hn : n < 16) (hw : ColW w) :
    Calls Tryz.prog 30 #[.int .i64 n, .int .i64 16] w fun e w' => e = .returned (.string ⟨#[hd n]⟩) ∧ Below w.heap.size w w' := by
  have CB := fb1 (n) w (by omega)  hw
  have CB := Lib.hid CB
  generalize (⟨#[hd n]⟩ : ByteArray) = t at *
  clear hw
  have CI : Hid (Calls Tryz.prog 46 #[.int .i64 n, .int .i64 16] w fun e w' => e = .returned (.string t) ∧ Below w.heap.size w w') := by
    refine Lib.hid ?_
    go_enter Tryz.func46, Tryz.ntmps46
    go_wp2_with fail
    refine CB.out.mono ?_
    rintro e w1 ⟨rfl, hb⟩
    have HB := Lib.hid hb
    clear hb
    go_wp2
    go_ret
    exact ⟨rfl, HB.out⟩
  clear CB
  go_enter Tryz.func30, Tryz.ntmps30
  go_wp2_with fail
  refine CI.out.mono ?_
  rintro e w1 ⟨rfl, hb⟩
  have HB := Lib.hid hb
  clear hb
  go_wp2
  go_ret
  exact ⟨rfl, HB.out⟩

set_option maxHeartbeats 8000000 in
set_option maxRecDepth 100000 in
theorem fb2 (a b : Nat) (w : World) (ga : a < 16) (gb : b < 16) (h1 : 1 ≤ a) (hw : ColW w) :
    Calls Tryz.prog 69 #[.slice none 0 0, .int .u64 (16 * (a : Int) + b), .int .i64 16, .bool false, .bool false] w fun e w' => e = .returned (.tuple #[.slice none 0 0, .string ⟨#[hd a, hd b]⟩]) ∧ Below w.heap.size w w' := by
  have CT := Lib.hid (fun W hW => tz16 W hW)
  have CP := Lib.hid (fun W => two16 W)
  have e1 : bits .and .u64 (16 * (a : Int) + b) 15 = b := and_b a b _ (by omega) gb (by omega)
  have f1 : (16 * (a : Int) + b) / 16 = (a : Int) := by omega
  have ha0 : ¬ (16 : Int) ≤ a := by omega
  have HW := Lib.hid hw
  clear hw
  go_enter Tryz.func69, Tryz.ntmps69
  go_wp2_with fail
  refine (CP.out _).mono ?_
  rintro e w' ⟨rfl, rfl⟩
  go_wp2_with fail
  refine (CT.out _ (HW.out.below ?_)).mono ?_
  · exact (Below.refl _ _).alloc (Nat.le_refl _) _
  rintro e w' ⟨rfl, rfl⟩
  go_wp2_with fail
  refine wp_loop_rounds 2 ?_
  rw [rounds_succ]
  go_wp2
  rw [rounds_succ]
  go_wp2
  rw [hyConv2 _ w.heap.size (hd a) (hd b)]
  · go_wp2
    go_ret2
    exact ⟨rfl, (Below.refl _ _).alloc (Nat.le_refl _) _⟩
  · exact (World.cell?_alloc_new w _ _ 63).trans ((hyCells2 _ zero65 _ _).1.trans (cell_hd (k := a) (by omega) (by show a < 36; omega)))
  · exact (World.cell?_alloc_new w _ _ 64).trans ((hyCells2 _ zero65 _ _).2.trans (cell_hd (k := b) (by omega) (by show b < 36; omega)))
theorem rfmt2 (n : Nat) (w : World) (h0 : 16 ≤ n) (hn : n < 256) (hw : ColW w) :
    Calls Tryz.prog 30 #[.int .i64 n, .int .i64 16] w fun e w' => e = .returned (.string ⟨#[hd (n / 16), hd (n % 16)]⟩) ∧ Below w.heap.size w w' := by
  have CB := fb2 (n / 16) (n % 16) w (by omega) (by omega) (by omega) hw
  rw [show (16 * ((n / 16 : Nat) : Int) + ((n % 16 : Nat) : Int)) = (n : Int) by omega] at CB
  have CB := Lib.hid CB
  generalize (⟨#[hd (n / 16), hd (n % 16)]⟩ : ByteArray) = t at *
  clear hw
  have CI : Hid (Calls Tryz.prog 46 #[.int .i64 n, .int .i64 16] w fun e w' => e = .returned (.string t) ∧ Below w.heap.size w w') := by
    refine Lib.hid ?_
    go_enter Tryz.func46, Tryz.ntmps46
    go_wp2_with fail
    refine CB.out.mono ?_
    rintro e w1 ⟨rfl, hb⟩
    have HB := Lib.hid hb
    clear hb
    go_wp2
    go_ret
    exact ⟨rfl, HB.out⟩
  clear CB
  go_enter Tryz.func30, Tryz.ntmps30
  go_wp2_with fail
  refine CI.out.mono ?_
  rintro e w1 ⟨rfl, hb⟩
  have HB := Lib.hid hb
  clear hb
  go_wp2
  go_ret
  exact ⟨rfl, HB.out⟩

set_option maxHeartbeats 8000000 in
set_option maxRecDepth 100000 in
theorem fb3 (a b c : Nat) (w : World) (ga : a < 16) (gb : b < 16) (gc : c < 16) (h1 : 1 ≤ a) (hw : ColW w) :
    Calls Tryz.prog 69 #[.slice none 0 0, .int .u64 (16 * (16 * (a : Int) + b) + c), .int .i64 16, .bool false, .bool false] w fun e w' => e = .returned (.tuple #[.slice none 0 0, .string ⟨#[hd a, hd b, hd c]⟩]) ∧ Below w.heap.size w w' := by
  have CT := Lib.hid (fun W hW => tz16 W hW)
  have CP := Lib.hid (fun W => two16 W)
  have e2 : bits .and .u64 (16 * (16 * (a : Int) + b) + c) 15 = c := and_b (16 * a + b) c _ (by omega) gc (by omega)
  have f2 : (16 * (16 * (a : Int) + b) + c) / 16 = (16 * (a : Int) + b) := by omega
  have e1 : bits .and .u64 (16 * (a : Int) + b) 15 = b := and_b a b _ (by omega) gb (by omega)
  have f1 : (16 * (a : Int) + b) / 16 = (a : Int) := by omega
  have ha0 : ¬ (16 : Int) ≤ a := by omega
  have HW := Lib.hid hw
  clear hw
  go_enter Tryz.func69, Tryz.ntmps69
  go_wp2_with fail
  refine (CP.out _).mono ?_
  rintro e w' ⟨rfl, rfl⟩
  go_wp2_with fail
  refine (CT.out _ (HW.out.below ?_)).mono ?_
  · exact (Below.refl _ _).alloc (Nat.le_refl _) _
  rintro e w' ⟨rfl, rfl⟩
  go_wp2_with fail
  refine wp_loop_rounds 3 ?_
  rw [rounds_succ]
  go_wp2
  rw [rounds_succ]
  go_wp2
  rw [rounds_succ]
  go_wp2
  rw [conv3 _ w.heap.size (hd a) (hd b) (hd c)]
  · go_wp2
    go_ret2
    exact ⟨rfl, (Below.refl _ _).alloc (Nat.le_refl _) _⟩
  · exact (World.cell?_alloc_new w _ _ 62).trans ((hxCells3 _ zero65 _ _ _).1.trans (cell_hd (k := a) (by omega) (by show a < 36; omega)))
  · exact (World.cell?_alloc_new w _ _ 63).trans ((hxCells3 _ zero65 _ _ _).2.1.trans (cell_hd (k := b) (by omega) (by show b < 36; omega)))
  · exact (World.cell?_alloc_new w _ _ 64).trans ((hxCells3 _ zero65 _ _ _).2.2.trans (cell_hd (k := c) (by omega) (by show c < 36; omega)))
theorem rfmt3 (n : Nat) (w : World) (h0 : 256 ≤ n) (hn : n < 4096) (hw : ColW w) :
    Calls Tryz.prog 30 #[.int .i64 n, .int .i64 16] w fun e w' => e = .returned (.string ⟨#[hd (n / 256), hd (n / 16 % 16), hd (n % 16)]⟩) ∧ Below w.heap.size w w' := by
  have CB := fb3 (n / 256) (n / 16 % 16) (n % 16) w (by omega) (by omega) (by omega) (by omega) hw
  rw [show (16 * (16 * ((n / 256 : Nat) : Int) + ((n / 16 % 16 : Nat) : Int)) + ((n % 16 : Nat) : Int)) = (n : Int) by omega] at CB
  have CB := Lib.hid CB
  generalize (⟨#[hd (n / 256), hd (n / 16 % 16), hd (n % 16)]⟩ : ByteArray) = t at *
  clear hw
  have CI : Hid (Calls Tryz.prog 46 #[.int .i64 n, .int .i64 16] w fun e w' => e = .returned (.string t) ∧ Below w.heap.size w w') := by
    refine Lib.hid ?_
    go_enter Tryz.func46, Tryz.ntmps46
    go_wp2_with fail
    refine CB.out.mono ?_
    rintro e w1 ⟨rfl, hb⟩
    have HB := Lib.hid hb
    clear hb
    go_wp2
    go_ret
    exact ⟨rfl, HB.out⟩
  clear CB
  go_enter Tryz.func30, Tryz.ntmps30
  go_wp2_with fail
  refine CI.out.mono ?_
  rintro e w1 ⟨rfl, hb⟩
  have HB := Lib.hid hb
  clear hb
  go_wp2
  go_ret
  exact ⟨rfl, HB.out⟩

set_option maxHeartbeats 8000000 in
set_option maxRecDepth 100000 in
theorem fb4 (a b c d : Nat) (w : World) (ga : a < 16) (gb : b < 16) (gc : c < 16) (gd : d < 16) (h1 : 1 ≤ a) (hw : ColW w) :
    Calls Tryz.prog 69 #[.slice none 0 0, .int .u64 (16 * (16 * (16 * (a : Int) + b) + c) + d), .int .i64 16, .bool false, .bool false] w fun e w' => e = .returned (.tuple #[.slice none 0 0, .string ⟨#[hd a, hd b, hd c, hd d]⟩]) ∧ Below w.heap.size w w' := by
  have CT := Lib.hid (fun W hW => tz16 W hW)
  have CP := Lib.hid (fun W => two16 W)
  have e3 : bits .and .u64 (16 * (16 * (16 * (a : Int) + b) + c) + d) 15 = d := and_b (16 * (16 * a + b) + c) d _ (by omega) gd (by omega)
  have f3 : (16 * (16 * (16 * (a : Int) + b) + c) + d) / 16 = (16 * (16 * (a : Int) + b) + c) := by omega
  have e2 : bits .and .u64 (16 * (16 * (a : Int) + b) + c) 15 = c := and_b (16 * a + b) c _ (by omega) gc (by omega)
  have f2 : (16 * (16 * (a : Int) + b) + c) / 16 = (16 * (a : Int) + b) := by omega
  have e1 : bits .and .u64 (16 * (a : Int) + b) 15 = b := and_b a b _ (by omega) gb (by omega)
  have f1 : (16 * (a : Int) + b) / 16 = (a : Int) := by omega
  have ha0 : ¬ (16 : Int) ≤ a := by omega
  have HW := Lib.hid hw
  clear hw
  go_enter Tryz.func69, Tryz.ntmps69
  go_wp2_with fail
  refine (CP.out _).mono ?_
  rintro e w' ⟨rfl, rfl⟩
  go_wp2_with fail
  refine (CT.out _ (HW.out.below ?_)).mono ?_
  · exact (Below.refl _ _).alloc (Nat.le_refl _) _
  rintro e w' ⟨rfl, rfl⟩
  go_wp2_with fail
  refine wp_loop_rounds 4 ?_
  rw [rounds_succ]
  go_wp2
  rw [rounds_succ]
  go_wp2
  rw [rounds_succ]
  go_wp2
  rw [rounds_succ]
  go_wp2
  rw [hyConv4 _ w.heap.size (hd a) (hd b) (hd c) (hd d)]
  · go_wp2
    go_ret2
    exact ⟨rfl, (Below.refl _ _).alloc (Nat.le_refl _) _⟩
  · exact (World.cell?_alloc_new w _ _ 61).trans ((hyCells4 _ zero65 _ _ _ _).1.trans (cell_hd (k := a) (by omega) (by show a < 36; omega)))
  · exact (World.cell?_alloc_new w _ _ 62).trans ((hyCells4 _ zero65 _ _ _ _).2.1.trans (cell_hd (k := b) (by omega) (by show b < 36; omega)))
  · exact (World.cell?_alloc_new w _ _ 63).trans ((hyCells4 _ zero65 _ _ _ _).2.2.1.trans (cell_hd (k := c) (by omega) (by show c < 36; omega)))
  · exact (World.cell?_alloc_new w _ _ 64).trans ((hyCells4 _ zero65 _ _ _ _).2.2.2.trans (cell_hd (k := d) (by omega) (by show d < 36; omega)))
theorem rfmt4 (n : Nat) (w : World) (h0 : 4096 ≤ n) (hn : n < 65536) (hw : ColW w) :
    Calls Tryz.prog 30 #[.int .i64 n, .int .i64 16] w fun e w' => e = .returned (.string ⟨#[hd (n / 4096), hd (n / 256 % 16), hd (n / 16 % 16), hd (n % 16)]⟩) ∧ Below w.heap.size w w' := by
  have CB := fb4 (n / 4096) (n / 256 % 16) (n / 16 % 16) (n % 16) w (by omega) (by omega) (by omega) (by omega) (by omega) hw
  rw [show (16 * (16 * (16 * ((n / 4096 : Nat) : Int) + ((n / 256 % 16 : Nat) : Int)) + ((n / 16 % 16 : Nat) : Int)) + ((n % 16 : Nat) : Int)) = (n : Int) by omega] at CB
  have CB := Lib.hid CB
  generalize (⟨#[hd (n / 4096), hd (n / 256 % 16), hd (n / 16 % 16), hd (n % 16)]⟩ : ByteArray) = t at *
  clear hw
  have CI : Hid (Calls Tryz.prog 46 #[.int .i64 n, .int .i64 16] w fun e w' => e = .returned (.string t) ∧ Below w.heap.size w w') := by
    refine Lib.hid ?_
    go_enter Tryz.func46, Tryz.ntmps46
    go_wp2_with fail
    refine CB.out.mono ?_
    rintro e w1 ⟨rfl, hb⟩
    have HB := Lib.hid hb
    clear hb
    go_wp2
    go_ret
    exact ⟨rfl, HB.out⟩
  clear CB
  go_enter Tryz.func30, Tryz.ntmps30
  go_wp2_with fail
  refine CI.out.mono ?_
  rintro e w1 ⟨rfl, hb⟩
  have HB := Lib.hid hb
  clear hb
  go_wp2
  go_ret
  exact ⟨rfl, HB.out⟩
end Go.Proofs.YtljgpiaihahneaaGreatDoor
