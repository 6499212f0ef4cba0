/- colour.Show at any colour. (printed by wip/gen/gen_colshow.py) -/
import Derived.Test.YtljgpiaihahneaaGreatDoorT65M17
import Derived.Test.YtljgpiaihahneaaGreatDoorT65M09

namespace Go.Proofs.YtljgpiaihahneaaGreatDoor
open Go.RowKit
set_option linter.unusedVariables false
set_option linter.unusedSimpArgs false

/-- the text of a colour -/
def colT (r g b : Nat) : ByteArray := if r % 257 = 0 ∧ g % 257 = 0 ∧ b % 257 = 0 then ((⟨#[35]⟩ : ByteArray) ++ hx2 (r / 257) ++ hx2 (g / 257)) ++ hx2 (b / 257) else ((⟨#[35]⟩ : ByteArray) ++ hx4 r ++ hx4 g) ++ hx4 b
theorem hx2_size (n : Nat) : (hx2 n).size = 2 := rfl
theorem hx4_size (n : Nat) : (hx4 n).size = 4 := rfl

set_option maxHeartbeats 1000000 in
theorem cshow_no (r g b : Int) (w : World) (h : chkC r g b = 1) :
    Calls Tryz.prog 11 #[.agg #[.int .i64 r, .int .i64 g, .int .i64 b]] w fun e w' => e = .returned (.tuple #[.string ⟨#[]⟩, .int .i64 1]) ∧ Below w.heap.size w w' := by
  have CC := Lib.hid (fun W => check_any r g b W)
  rw [h] at CC
  clear h
  go_enter Tryz.func11, Tryz.ntmps11
  go_wp2_with fail
  refine (CC.out _).mono ?_
  rintro e w1 ⟨rfl, rfl⟩
  go_wp2
  go_ret2
  exact ⟨rfl, ((Below.refl _ _).alloc (Nat.le_refl _) _).trans ((Below.refl _ _).alloc (by simp) _)⟩

set_option maxHeartbeats 8000000 in
set_option maxRecDepth 100000 in
theorem cshow_2 (r g b : Nat) (w : World) (hr : r ≤ 65535) (hg : g ≤ 65535) (hb : b ≤ 65535) (h : r % 257 = 0 ∧ g % 257 = 0 ∧ b % 257 = 0) (hw : ColW w) :
    Calls Tryz.prog 11 #[.agg #[.int .i64 r, .int .i64 g, .int .i64 b]] w fun e w' => e = .returned (.tuple #[.string (((⟨#[35]⟩ : ByteArray) ++ hx2 (r / 257) ++ hx2 (g / 257)) ++ hx2 (b / 257)), .int .i64 0]) ∧ Below w.heap.size w w' := by
  have CC := Lib.hid (fun W => check_any r g b W)
  rw [show chkC r g b = 0 from if_pos ⟨⟨by omega, by omega⟩, ⟨by omega, by omega⟩, ⟨by omega, by omega⟩⟩] at CC
  have C1 := Lib.hid (fun W hW => hexFn2 (r / 257) W (by omega) hW)
  have C2 := Lib.hid (fun W hW => hexFn2 (g / 257) W (by omega) hW)
  have C3 := Lib.hid (fun W hW => hexFn2 (b / 257) W (by omega) hW)
  have dr : (((r : Nat) : Int)) / 257 = ((r / 257 : Nat) : Int) := by omega
  have dg : (((g : Nat) : Int)) / 257 = ((g / 257 : Nat) : Int) := by omega
  have db : (((b : Nat) : Int)) / 257 = ((b / 257 : Nat) : Int) := by omega
  have m1 : ((r : Nat) : Int) % 257 = 0 := by omega
  have m2 : ((g : Nat) : Int) % 257 = 0 := by omega
  have m3 : ((b : Nat) : Int) % 257 = 0 := by omega
  have v1 : (r / 257) ≤ 255 := by omega
  generalize r / 257 = x1 at *
  have wx1 : IntKind.i64.wrap (x1 : Int) = x1 := IntWalk.i64_in _ (by omega)
  clear v1
  have v2 : (g / 257) ≤ 255 := by omega
  generalize g / 257 = x2 at *
  have wx2 : IntKind.i64.wrap (x2 : Int) = x2 := IntWalk.i64_in _ (by omega)
  clear v2
  have v3 : (b / 257) ≤ 255 := by omega
  generalize b / 257 = x3 at *
  have wx3 : IntKind.i64.wrap (x3 : Int) = x3 := IntWalk.i64_in _ (by omega)
  clear v3
  have z1 := hx2_size x1
  generalize hx2 x1 = y1 at *
  have z2 := hx2_size x2
  generalize hx2 x2 = y2 at *
  have z3 := hx2_size x3
  generalize hx2 x3 = y3 at *
  obtain ⟨u1, q1⟩ : ∃ z, (⟨#[35]⟩ : ByteArray) ++ y1 = z := ⟨_, rfl⟩
  have s1 : u1.size = 1 + 2 := by rw [← q1, ByteArray.size_append, z1]; rfl
  obtain ⟨u2, q2⟩ : ∃ z, u1 ++ y2 = z := ⟨_, rfl⟩
  have s2 : u2.size = 1 + 2 + 2 := by rw [← q2, ByteArray.size_append, z2, s1]
  obtain ⟨u3, q3⟩ : ∃ z, u2 ++ y3 = z := ⟨_, rfl⟩
  have HS := Lib.hid (show ((⟨#[35]⟩ : ByteArray) ++ y1 ++ y2) ++ y3 = u3 by rw [q1, q2, q3])
  rw [HS.out]
  have KC : Hid (∀ W W', Below w.heap.size W W' → Below w.heap.size w W → Below w.heap.size w W') := fun W W' h1 h2 => h2.trans h1
  have HW := Lib.hid (fun (W : World) (hW : Below w.heap.size w W) => hw.below hW)
  clear hw h
  go_enter Tryz.func11, Tryz.ntmps11
  go_wp2_with fail
  refine (CC.out _).mono ?_
  rintro e w1 ⟨rfl, rfl⟩
  go_upto_region 6 with fail
  all_goals
    have hw0 : Below (w.heap.size + 1) (w.alloc (.cells #[.int .i64 r, .int .i64 g, .int .i64 b] 31)) ((w.alloc (.cells #[.int .i64 r, .int .i64 g, .int .i64 b] 31)).alloc (.cells #[.int .i64 r, .int .i64 g, .int .i64 b] 31)) := (Below.refl _ _).alloc (by simp) _
    have hw01 := hw0.drew
    have k0 : (w.alloc (.cells #[.int .i64 r, .int .i64 g, .int .i64 b] 31)).cell? ⟨w.heap.size, 0, none⟩ = some (.int .i64 r) := World.cell?_alloc_new w _ _ 0
    have k1 : (w.alloc (.cells #[.int .i64 r, .int .i64 g, .int .i64 b] 31)).cell? ⟨w.heap.size, 1, none⟩ = some (.int .i64 g) := World.cell?_alloc_new w _ _ 1
    have k2 : (w.alloc (.cells #[.int .i64 r, .int .i64 g, .int .i64 b] 31)).cell? ⟨w.heap.size, 2, none⟩ = some (.int .i64 b) := World.cell?_alloc_new w _ _ 2
    have HWX : Hid (∀ W, Below (w.heap.size + 1) (w.alloc (.cells #[.int .i64 r, .int .i64 g, .int .i64 b] 31)) W → ColW W) := fun W h => HW.out _ (((Below.refl _ _).alloc (Nat.le_refl _) _).trans (h.mono (Nat.le_succ _)))
    have KM : Hid (∀ W W', Below (w.heap.size + 1) (w.alloc (.cells #[.int .i64 r, .int .i64 g, .int .i64 b] 31)) W → Below W.heap.size W W' → Below (w.heap.size + 1) (w.alloc (.cells #[.int .i64 r, .int .i64 g, .int .i64 b] 31)) W') := fun W W' h1 h2 => h1.trans (h2.mono (by have := h1.size; simpa using this))
    have KP : Hid (∀ W, Below (w.heap.size + 1) (w.alloc (.cells #[.int .i64 r, .int .i64 g, .int .i64 b] 31)) W → (Below (w.heap.size + 1) (w.alloc (.cells #[.int .i64 r, .int .i64 g, .int .i64 b] 31)) W ∧ W.cell? ⟨w.heap.size, 0, none⟩ = some (.int .i64 r) ∧ W.cell? ⟨w.heap.size, 1, none⟩ = some (.int .i64 g) ∧ W.cell? ⟨w.heap.size, 2, none⟩ = some (.int .i64 b))) := fun W h => ⟨h, (h.cell (by simp)).trans k0, (h.cell (by simp)).trans k1, (h.cell (by simp)).trans k2⟩
    have KE : Hid (∀ W, Below (w.heap.size + 1) (w.alloc (.cells #[.int .i64 r, .int .i64 g, .int .i64 b] 31)) W → Below w.heap.size w W) := fun W h => ((Below.refl _ _).alloc (Nat.le_refl _) _).trans (h.mono (Nat.le_succ _))
    clear k0 k1 k2
    go_region_held3 (fun W => Below (w.heap.size + 1) (w.alloc (.cells #[.int .i64 r, .int .i64 g, .int .i64 b] 31)) W ∧ W.cell? ⟨w.heap.size, 0, none⟩ = some (.int .i64 r) ∧ W.cell? ⟨w.heap.size, 1, none⟩ = some (.int .i64 g) ∧ W.cell? ⟨w.heap.size, 2, none⟩ = some (.int .i64 b))
      (exact KP.out _ (by assumption))
      (first
        | ((with_reducible refine (C1.out _ (HWX.out _ (by assumption))).mono ?_); rintro e W1 ⟨rfl, hb1⟩; have hA := KM.out _ _ (by assumption) hb1; clear hb1)
        | ((with_reducible refine (C2.out _ (HWX.out _ (by assumption))).mono ?_); rintro e W2 ⟨rfl, hb2⟩; have hB := KM.out _ _ (by assumption) hb2; clear hb2)
        | ((with_reducible refine (C3.out _ (HWX.out _ (by assumption))).mono ?_); rintro e W3 ⟨rfl, hb3⟩; have hC := KM.out _ _ (by assumption) hb3; clear hb3)
        | fail)
    all_goals
      go_wp2
      go_ret2
      exact ⟨rfl, KE.out _ (by assumption)⟩

set_option maxHeartbeats 8000000 in
set_option maxRecDepth 100000 in
theorem cshow_4 (r g b : Nat) (w : World) (hr : r ≤ 65535) (hg : g ≤ 65535) (hb : b ≤ 65535) (h : ¬ (r % 257 = 0 ∧ g % 257 = 0 ∧ b % 257 = 0)) (hw : ColW w) :
    Calls Tryz.prog 11 #[.agg #[.int .i64 r, .int .i64 g, .int .i64 b]] w fun e w' => e = .returned (.tuple #[.string (((⟨#[35]⟩ : ByteArray) ++ hx4 (r) ++ hx4 (g)) ++ hx4 (b)), .int .i64 0]) ∧ Below w.heap.size w w' := by
  have CC := Lib.hid (fun W => check_any r g b W)
  rw [show chkC r g b = 0 from if_pos ⟨⟨by omega, by omega⟩, ⟨by omega, by omega⟩, ⟨by omega, by omega⟩⟩] at CC
  have C1 := Lib.hid (fun W hW => hexFn4 (r) W (by omega) hW)
  have C2 := Lib.hid (fun W hW => hexFn4 (g) W (by omega) hW)
  have C3 := Lib.hid (fun W hW => hexFn4 (b) W (by omega) hW)
  have hm : ¬ (((r : Nat) : Int) % 257 = 0 ∧ ((g : Nat) : Int) % 257 = 0 ∧ ((b : Nat) : Int) % 257 = 0) := by omega
  have z1 := hx4_size r
  generalize hx4 r = y1 at *
  have z2 := hx4_size g
  generalize hx4 g = y2 at *
  have z3 := hx4_size b
  generalize hx4 b = y3 at *
  obtain ⟨u1, q1⟩ : ∃ z, (⟨#[35]⟩ : ByteArray) ++ y1 = z := ⟨_, rfl⟩
  have s1 : u1.size = 1 + 4 := by rw [← q1, ByteArray.size_append, z1]; rfl
  obtain ⟨u2, q2⟩ : ∃ z, u1 ++ y2 = z := ⟨_, rfl⟩
  have s2 : u2.size = 1 + 4 + 4 := by rw [← q2, ByteArray.size_append, z2, s1]
  obtain ⟨u3, q3⟩ : ∃ z, u2 ++ y3 = z := ⟨_, rfl⟩
  have HS := Lib.hid (show ((⟨#[35]⟩ : ByteArray) ++ y1 ++ y2) ++ y3 = u3 by rw [q1, q2, q3])
  rw [HS.out]
  have KC : Hid (∀ W W', Below w.heap.size W W' → Below w.heap.size w W → Below w.heap.size w W') := fun W W' h1 h2 => h2.trans h1
  have HW := Lib.hid (fun (W : World) (hW : Below w.heap.size w W) => hw.below hW)
  clear hw h
  go_enter Tryz.func11, Tryz.ntmps11
  go_wp2_with fail
  refine (CC.out _).mono ?_
  rintro e w1 ⟨rfl, rfl⟩
  go_upto_region 7 with fail
  all_goals
    have hw0 : Below (w.heap.size + 1) (w.alloc (.cells #[.int .i64 r, .int .i64 g, .int .i64 b] 31)) ((w.alloc (.cells #[.int .i64 r, .int .i64 g, .int .i64 b] 31)).alloc (.cells #[.int .i64 r, .int .i64 g, .int .i64 b] 31)) := (Below.refl _ _).alloc (by simp) _
    have hw01 := hw0.drew
    have k0 : (w.alloc (.cells #[.int .i64 r, .int .i64 g, .int .i64 b] 31)).cell? ⟨w.heap.size, 0, none⟩ = some (.int .i64 r) := World.cell?_alloc_new w _ _ 0
    have k1 : (w.alloc (.cells #[.int .i64 r, .int .i64 g, .int .i64 b] 31)).cell? ⟨w.heap.size, 1, none⟩ = some (.int .i64 g) := World.cell?_alloc_new w _ _ 1
    have k2 : (w.alloc (.cells #[.int .i64 r, .int .i64 g, .int .i64 b] 31)).cell? ⟨w.heap.size, 2, none⟩ = some (.int .i64 b) := World.cell?_alloc_new w _ _ 2
    have HWX : Hid (∀ W, Below (w.heap.size + 1) (w.alloc (.cells #[.int .i64 r, .int .i64 g, .int .i64 b] 31)) W → ColW W) := fun W h => HW.out _ (((Below.refl _ _).alloc (Nat.le_refl _) _).trans (h.mono (Nat.le_succ _)))
    have KM : Hid (∀ W W', Below (w.heap.size + 1) (w.alloc (.cells #[.int .i64 r, .int .i64 g, .int .i64 b] 31)) W → Below W.heap.size W W' → Below (w.heap.size + 1) (w.alloc (.cells #[.int .i64 r, .int .i64 g, .int .i64 b] 31)) W') := fun W W' h1 h2 => h1.trans (h2.mono (by have := h1.size; simpa using this))
    have KP : Hid (∀ W, Below (w.heap.size + 1) (w.alloc (.cells #[.int .i64 r, .int .i64 g, .int .i64 b] 31)) W → (Below (w.heap.size + 1) (w.alloc (.cells #[.int .i64 r, .int .i64 g, .int .i64 b] 31)) W ∧ W.cell? ⟨w.heap.size, 0, none⟩ = some (.int .i64 r) ∧ W.cell? ⟨w.heap.size, 1, none⟩ = some (.int .i64 g) ∧ W.cell? ⟨w.heap.size, 2, none⟩ = some (.int .i64 b))) := fun W h => ⟨h, (h.cell (by simp)).trans k0, (h.cell (by simp)).trans k1, (h.cell (by simp)).trans k2⟩
    have KE : Hid (∀ W, Below (w.heap.size + 1) (w.alloc (.cells #[.int .i64 r, .int .i64 g, .int .i64 b] 31)) W → Below w.heap.size w W) := fun W h => ((Below.refl _ _).alloc (Nat.le_refl _) _).trans (h.mono (Nat.le_succ _))
    clear k0 k1 k2
    go_region_held3 (fun W => Below (w.heap.size + 1) (w.alloc (.cells #[.int .i64 r, .int .i64 g, .int .i64 b] 31)) W ∧ W.cell? ⟨w.heap.size, 0, none⟩ = some (.int .i64 r) ∧ W.cell? ⟨w.heap.size, 1, none⟩ = some (.int .i64 g) ∧ W.cell? ⟨w.heap.size, 2, none⟩ = some (.int .i64 b))
      (exact KP.out _ (by assumption))
      (first
        | ((with_reducible refine (C1.out _ (HWX.out _ (by assumption))).mono ?_); rintro e W1 ⟨rfl, hb1⟩; have hA := KM.out _ _ (by assumption) hb1; clear hb1)
        | ((with_reducible refine (C2.out _ (HWX.out _ (by assumption))).mono ?_); rintro e W2 ⟨rfl, hb2⟩; have hB := KM.out _ _ (by assumption) hb2; clear hb2)
        | ((with_reducible refine (C3.out _ (HWX.out _ (by assumption))).mono ?_); rintro e W3 ⟨rfl, hb3⟩; have hC := KM.out _ _ (by assumption) hb3; clear hb3)
        | fail)
    all_goals
      go_wp2
      go_ret2
      exact ⟨rfl, KE.out _ (by assumption)⟩
end Go.Proofs.YtljgpiaihahneaaGreatDoor
