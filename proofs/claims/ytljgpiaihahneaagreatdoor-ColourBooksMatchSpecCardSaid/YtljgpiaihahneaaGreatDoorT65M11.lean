/- strconv.FormatInt at base 16, at the numbers that colours' texts want. -/
import Derived.Test.YtljgpiaihahneaaGreatDoorT65M10
import Derived.Lib.ConvBytes
import Derived.Below
import Derived.Deep.DeepCutAuto
import Derived.BigQuiet
import Derived.Deep.QuietTactic

namespace Go.Proofs.YtljgpiaihahneaaGreatDoor
open Go.RowKit
set_option linter.unusedVariables false
set_option linter.unusedSimpArgs false

/-- what a world must hold for hex digits -/
structure ColW (w : World) : Prop where
  tz : w.cell? ⟨7, 15, none⟩ = some (.int .u8 4)
  sz : 8 ≤ w.heap.size
theorem ColW.below {w W : World} (h : ColW w) (hb : Below w.heap.size w W) : ColW W :=
  ⟨(hb.cell (show 7 < w.heap.size by have := h.sz; omega)).trans h.tz, Nat.le_trans h.sz hb.size⟩

/-- a small hex digit -/
def hd (d : Nat) : UInt8 := if d < 10 then UInt8.ofNat (48 + d) else UInt8.ofNat (87 + d)
theorem hd_hex {d : Nat} (h : d < 16) : IsHex (hd d) := by
  have : d = 0 ∨ d = 1 ∨ d = 2 ∨ d = 3 ∨ d = 4 ∨ d = 5 ∨ d = 6 ∨ d = 7 ∨ d = 8 ∨ d = 9 ∨ d = 10 ∨ d = 11 ∨ d = 12 ∨ d = 13 ∨ d = 14 ∨ d = 15 := by omega
  rcases this with rfl | rfl | rfl | rfl | rfl | rfl | rfl | rfl | rfl | rfl | rfl | rfl | rfl | rfl | rfl | rfl <;> decide
theorem hd_val {d : Nat} (h : d < 16) : hexV (hd d) = d := by
  have : d = 0 ∨ d = 1 ∨ d = 2 ∨ d = 3 ∨ d = 4 ∨ d = 5 ∨ d = 6 ∨ d = 7 ∨ d = 8 ∨ d = 9 ∨ d = 10 ∨ d = 11 ∨ d = 12 ∨ d = 13 ∨ d = 14 ∨ d = 15 := by omega
  rcases this with rfl | rfl | rfl | rfl | rfl | rfl | rfl | rfl | rfl | rfl | rfl | rfl | rfl | rfl | rfl | rfl <;> decide
def digs36 : ByteArray := ⟨#[48, 49, 50, 51, 52, 53, 54, 55, 56, 57, 97, 98, 99, 100, 101, 102, 103, 104, 105, 106, 107, 108, 109, 110, 111, 112, 113, 114, 115, 116, 117, 118, 119, 120, 121, 122]⟩
theorem digs_hd {k : Nat} (h : k < 16) (h2 : k < digs36.size) : digs36[k] = hd k := by
  have : k = 0 ∨ k = 1 ∨ k = 2 ∨ k = 3 ∨ k = 4 ∨ k = 5 ∨ k = 6 ∨ k = 7 ∨ k = 8 ∨ k = 9 ∨ k = 10 ∨ k = 11 ∨ k = 12 ∨ k = 13 ∨ k = 14 ∨ k = 15 := by omega
  rcases this with rfl | rfl | rfl | rfl | rfl | rfl | rfl | rfl | rfl | rfl | rfl | rfl | rfl | rfl | rfl | rfl <;> rfl
theorem ofInt_u64 (a : Nat) (h : a < 2 ^ 64) : (BitVec.ofInt 64 (a : Int)).toNat = a := by
  rw [BitVec.ofInt_natCast]; simp; exact h
theorem and15 (a : Nat) (h : a < 2 ^ 64) : bits .and .u64 (a : Int) 15 = ((a % 16 : Nat) : Int) := by
  show IntKind.u64.wrap ((BitVec.ofInt 64 (a : Int) &&& BitVec.ofInt 64 15).toNat : Int) = _
  rw [BitVec.toNat_and, ofInt_u64 a h, show (BitVec.ofInt 64 15).toNat = 2 ^ 4 - 1 from by decide, Nat.and_two_pow_sub_one_eq_mod]
  simp [IntKind.wrap, IntKind.bits, IntKind.signed]
  omega

set_option maxHeartbeats 1000000 in
theorem tz16 (w : World) (hw : ColW w) : Calls Tryz.prog 93 #[.int .u64 16] w fun e w' => e = .returned (.int .i64 4) ∧ w = w' := by
  have hz := hw.tz
  clear hw
  have e0 : IntKind.u64.wrap (-16) = 18446744073709551600 := by decide
  have e1 : bits .and .u64 16 18446744073709551600 = 16 := by decide
  have e2 : IntKind.u64.wrap (16 * 285870213051353865) = 4573923408821661840 := by decide
  have C : Hid (Calls Tryz.prog 108 #[.int .u64 16] w fun e w' => e = .returned (.int .i64 4) ∧ w = w') := by
    refine Lib.hid ?_
    go_enter Tryz.func108, Tryz.ntmps108
    go_wp2
    go_ret
    exact ⟨rfl, rfl⟩
  clear hz e0 e1 e2
  go_enter Tryz.func93, Tryz.ntmps93
  go_wp2_with fail
  refine C.out.mono ?_
  rintro e w' ⟨rfl, rfl⟩
  go_wp2
  go_ret
  exact ⟨rfl, rfl⟩
theorem two16 (w : World) : Calls Tryz.prog 92 #[.int .i64 16] w fun e w' => e = .returned (.bool true) ∧ w = w' := by
  have e1 : bits .and .i64 16 15 = 0 := by decide
  go_enter Tryz.func92, Tryz.ntmps92
  go_wp2
  go_ret
  exact ⟨rfl, rfl⟩

theorem and_b (x b : Nat) (u : Int) (hx : x < 100000) (hb : b < 16) (hu : u = 16 * (x : Int) + b) : bits .and .u64 u 15 = b := by
  have := and15 (16 * x + b) (by omega)
  rw [show (16 * x + b) % 16 = b by omega] at this
  rw [← this, hu, show ((16 * x + b : Nat) : Int) = 16 * (x : Int) + b by omega]
theorem hxCells3 (Z : Array Value) (hz : Z.size = 65) (A B C : Value) : (((Z.setIfInBounds 64 A).setIfInBounds 63 B).setIfInBounds 62 C)[62]? = some C ∧ (((Z.setIfInBounds 64 A).setIfInBounds 63 B).setIfInBounds 62 C)[63]? = some B ∧ (((Z.setIfInBounds 64 A).setIfInBounds 63 B).setIfInBounds 62 C)[64]? = some A := by
  simp [Array.getElem?_setIfInBounds, hz]
theorem hxCells5 (Z : Array Value) (hz : Z.size = 65) (A B C D E : Value) : (((((Z.setIfInBounds 64 A).setIfInBounds 63 B).setIfInBounds 62 C).setIfInBounds 61 D).setIfInBounds 60 E)[60]? = some E ∧ (((((Z.setIfInBounds 64 A).setIfInBounds 63 B).setIfInBounds 62 C).setIfInBounds 61 D).setIfInBounds 60 E)[61]? = some D ∧ (((((Z.setIfInBounds 64 A).setIfInBounds 63 B).setIfInBounds 62 C).setIfInBounds 61 D).setIfInBounds 60 E)[62]? = some C ∧ (((((Z.setIfInBounds 64 A).setIfInBounds 63 B).setIfInBounds 62 C).setIfInBounds 61 D).setIfInBounds 60 E)[63]? = some B ∧ (((((Z.setIfInBounds 64 A).setIfInBounds 63 B).setIfInBounds 62 C).setIfInBounds 61 D).setIfInBounds 60 E)[64]? = some A := by
  simp [Array.getElem?_setIfInBounds, hz]
theorem zero65 : (Tryz.zeroCells115).size = 65 := by kernel_rfl
theorem cell_hd {k : Nat} (h : k < 16) (h2 : k < digs36.size) : some (Value.int .u8 ((digs36[k]).toNat : Int)) = some (Value.int .u8 ((hd k).toNat : Int)) := by rw [digs_hd h h2]
theorem conv3 (W : World) (g : Nat) (x y z : UInt8) (h0 : W.cell? ⟨g, 62, none⟩ = some (.int .u8 (x.toNat : Int))) (h1 : W.cell? ⟨g, 63, none⟩ = some (.int .u8 (y.toNat : Int))) (h2 : W.cell? ⟨g, 64, none⟩ = some (.int .u8 (z.toNat : Int))) :
    Sem.run Tryz.prog (convert 36 9 (.slice (some ⟨g, 62, none⟩) 3 3)) W = .ok (.string ⟨#[x, y, z]⟩) W :=
  run_convert_bytes_back W 36 9 5 ⟨g, 62, none⟩ 3 [x, y, z] Tryz.underlying36 Tryz.underlying5 Tryz.underlying9 (by
    intro j hj
    have hj3 : j < 3 := hj
    have : j = 0 ∨ j = 1 ∨ j = 2 := by omega
    rcases this with rfl | rfl | rfl
    · exact h0
    · exact h1
    · exact h2)
theorem conv5 (W : World) (g : Nat) (x y z u v : UInt8) (h0 : W.cell? ⟨g, 60, none⟩ = some (.int .u8 (x.toNat : Int))) (h1 : W.cell? ⟨g, 61, none⟩ = some (.int .u8 (y.toNat : Int))) (h2 : W.cell? ⟨g, 62, none⟩ = some (.int .u8 (z.toNat : Int)))
    (h3 : W.cell? ⟨g, 63, none⟩ = some (.int .u8 (u.toNat : Int))) (h4 : W.cell? ⟨g, 64, none⟩ = some (.int .u8 (v.toNat : Int))) :
    Sem.run Tryz.prog (convert 36 9 (.slice (some ⟨g, 60, none⟩) 5 5)) W = .ok (.string ⟨#[x, y, z, u, v]⟩) W :=
  run_convert_bytes_back W 36 9 5 ⟨g, 60, none⟩ 5 [x, y, z, u, v] Tryz.underlying36 Tryz.underlying5 Tryz.underlying9 (by
    intro j hj
    have hj3 : j < 5 := hj
    have : j = 0 ∨ j = 1 ∨ j = 2 ∨ j = 3 ∨ j = 4 := by omega
    rcases this with rfl | rfl | rfl | rfl | rfl
    · exact h0
    · exact h1
    · exact h2
    · exact h3
    · exact h4)

set_option maxHeartbeats 8000000 in
set_option maxRecDepth 100000 in
theorem bits3 (a b : Nat) (w : World) (ha : a < 16) (hb : b < 16) (hw : ColW w) :
    Calls Tryz.prog 69 #[.slice none 0 0, .int .u64 (16 * (16 + (a : Int)) + b), .int .i64 16, .bool false, .bool false] w fun e w' => e = .returned (.tuple #[.slice none 0 0, .string ⟨#[49, hd a, hd b]⟩]) ∧ Below w.heap.size w w' := by
  have CT := Lib.hid (fun W hW => tz16 W hW)
  have CP := Lib.hid (fun W => two16 W)
  have e1 : bits .and .u64 (16 * (16 + (a : Int)) + b) 15 = b := and_b (16 + a) b _ (by omega) hb (by omega)
  have e2 : bits .and .u64 (16 + (a : Int)) 15 = a := and_b 1 a _ (by omega) ha (by omega)
  have e3 : (16 * (16 + (a : Int)) + b) / 16 = 16 + a := by omega
  have e4 : (16 + (a : Int)) / 16 = 1 := by omega
  have HW := Lib.hid hw
  clear hw
  go_enter Tryz.func69, Tryz.ntmps69
  go_wp2_with fail
  refine (CP.out _).mono ?_
  rintro e w' ⟨rfl, rfl⟩
  go_wp2_with fail
  refine (CT.out _ (HW.out.below ?_)).mono ?_
  · exact (Below.refl _ _).alloc (Nat.le_refl _) _
  rintro e w' ⟨rfl, rfl⟩
  go_wp2_with fail
  refine wp_loop_rounds 3 ?_
  rw [rounds_succ]
  go_wp2
  rw [rounds_succ]
  go_wp2
  rw [rounds_succ]
  go_wp2
  rw [conv3 _ w.heap.size (hd 1) (hd a) (hd b)]
  · go_wp2
    go_ret2
    exact ⟨rfl, (Below.refl _ _).alloc (Nat.le_refl _) _⟩
  · exact (World.cell?_alloc_new w _ _ 62).trans ((hxCells3 _ zero65 _ _ _).1.trans (cell_hd (k := 1) (by omega) (by show 1 < 36; omega)))
  · exact (World.cell?_alloc_new w _ _ 63).trans ((hxCells3 _ zero65 _ _ _).2.1.trans (cell_hd (k := a) (by omega) (by show a < 36; omega)))
  · exact (World.cell?_alloc_new w _ _ 64).trans ((hxCells3 _ zero65 _ _ _).2.2.trans (cell_hd (k := b) (by omega) (by show b < 36; omega)))

set_option maxHeartbeats 8000000 in
set_option maxRecDepth 100000 in
theorem bits5 (a b c d : Nat) (w : World) (ha : a < 16) (hb : b < 16) (hc : c < 16) (hdd : d < 16) (hw : ColW w) :
    Calls Tryz.prog 69 #[.slice none 0 0, .int .u64 (16 * (16 * (16 * (16 + (a : Int)) + b) + c) + d), .int .i64 16, .bool false, .bool false] w fun e w' => e = .returned (.tuple #[.slice none 0 0, .string ⟨#[49, hd a, hd b, hd c, hd d]⟩]) ∧ Below w.heap.size w w' := by
  have CT := Lib.hid (fun W hW => tz16 W hW)
  have CP := Lib.hid (fun W => two16 W)
  have e1 : bits .and .u64 (16 * (16 * (16 * (16 + (a : Int)) + b) + c) + d) 15 = d := and_b (16 * (16 * (16 + a) + b) + c) d _ (by omega) hdd (by omega)
  have e2 : bits .and .u64 (16 * (16 * (16 + (a : Int)) + b) + c) 15 = c := and_b (16 * (16 + a) + b) c _ (by omega) hc (by omega)
  have e3 : bits .and .u64 (16 * (16 + (a : Int)) + b) 15 = b := and_b (16 + a) b _ (by omega) hb (by omega)
  have e4 : bits .and .u64 (16 + (a : Int)) 15 = a := and_b 1 a _ (by omega) ha (by omega)
  have f1 : (16 * (16 * (16 * (16 + (a : Int)) + b) + c) + d) / 16 = 16 * (16 * (16 + (a : Int)) + b) + c := by omega
  have f2 : (16 * (16 * (16 + (a : Int)) + b) + c) / 16 = 16 * (16 + (a : Int)) + b := by omega
  have f3 : (16 * (16 + (a : Int)) + b) / 16 = 16 + a := by omega
  have f4 : (16 + (a : Int)) / 16 = 1 := by omega
  have HW := Lib.hid hw
  clear hw
  go_enter Tryz.func69, Tryz.ntmps69
  go_wp2_with fail
  refine (CP.out _).mono ?_
  rintro e w' ⟨rfl, rfl⟩
  go_wp2_with fail
  refine (CT.out _ (HW.out.below ?_)).mono ?_
  · exact (Below.refl _ _).alloc (Nat.le_refl _) _
  rintro e w' ⟨rfl, rfl⟩
  go_wp2_with fail
  refine wp_loop_rounds 5 ?_
  rw [rounds_succ]
  go_wp2
  rw [rounds_succ]
  go_wp2
  rw [rounds_succ]
  go_wp2
  rw [rounds_succ]
  go_wp2
  rw [rounds_succ]
  go_wp2
  rw [conv5 _ w.heap.size (hd 1) (hd a) (hd b) (hd c) (hd d)]
  · go_wp2
    go_ret2
    exact ⟨rfl, (Below.refl _ _).alloc (Nat.le_refl _) _⟩
  · exact (World.cell?_alloc_new w _ _ 60).trans ((hxCells5 _ zero65 _ _ _ _ _).1.trans (cell_hd (k := 1) (by omega) (by show 1 < 36; omega)))
  · exact (World.cell?_alloc_new w _ _ 61).trans ((hxCells5 _ zero65 _ _ _ _ _).2.1.trans (cell_hd (k := a) (by omega) (by show a < 36; omega)))
  · exact (World.cell?_alloc_new w _ _ 62).trans ((hxCells5 _ zero65 _ _ _ _ _).2.2.1.trans (cell_hd (k := b) (by omega) (by show b < 36; omega)))
  · exact (World.cell?_alloc_new w _ _ 63).trans ((hxCells5 _ zero65 _ _ _ _ _).2.2.2.1.trans (cell_hd (k := c) (by omega) (by show c < 36; omega)))
  · exact (World.cell?_alloc_new w _ _ 64).trans ((hxCells5 _ zero65 _ _ _ _ _).2.2.2.2.trans (cell_hd (k := d) (by omega) (by show d < 36; omega)))
end Go.Proofs.YtljgpiaihahneaaGreatDoor
