/- What Mix and Scale of both sides stand on (for seats that lack the fades). (printed by wip/gen/gen_cmix.py) -/
import Derived.Test.YteelomjknllcbaaLevels
import Derived.Test.YteelomjknllcbaaRMix
namespace Go.Proofs.Yteelomjknllcbaa
open Go.RowKit
set_option linter.unusedVariables false
set_option linter.unusedSimpArgs false

def IsLv (a : Int) : Prop := 0 ≤ a ∧ a ≤ 65535
instance (a : Int) : Decidable (IsLv a) := by unfold IsLv; infer_instance

theorem rowAt2 {k : IntKind} {w : World} {a b : Int} {t : TypeId} : RowAt k (w.alloc (.cells #[.int k a, .int k b] t)) w.heap.size 0 [a, b] := by
  intro i h
  match i, h with
  | 0, _ => simp
  | 1, _ => simp

theorem levels2_yes (a b : Int) (w : World) (ha : IsLv a) (hb : IsLv b) :
    Calls Try.prog 88 #[.slice (some ⟨w.heap.size, 0, none⟩) 2 2] (w.alloc (.cells #[.int .i64 a, .int .i64 b] 3)) fun e w' => e = .returned (.int .i64 0) ∧ w.alloc (.cells #[.int .i64 a, .int .i64 b] 3) = w' := by
  refine levels_yes w.heap.size 0 2 [a, b] _ (by simp) rowAt2 ?_
  intro i h
  match i, h with
  | 0, _ => exact ha
  | 1, _ => exact hb

theorem levels2_no (a b : Int) (w : World) (h : ¬ IsLv a ∨ ¬ IsLv b) :
    Calls Try.prog 88 #[.slice (some ⟨w.heap.size, 0, none⟩) 2 2] (w.alloc (.cells #[.int .i64 a, .int .i64 b] 3)) fun e w' => e = .returned (.int .i64 1) ∧ w.alloc (.cells #[.int .i64 a, .int .i64 b] 3) = w' := by
  by_cases ha : IsLv a
  · refine levels_no w.heap.size 0 2 [a, b] _ (by simp) rowAt2 1 (by simp) ?_ ?_
    · intro i h hi
      match i, h with
      | 0, _ => exact ha
      | 1, _ => omega
    · have := h.resolve_left (by simpa using ha)
      unfold IsLv at this
      simp; omega
  · refine levels_no w.heap.size 0 2 [a, b] _ (by simp) rowAt2 0 (by simp) (by omega) ?_
    unfold IsLv at ha
    simp; omega


def scaleV (a b : Int) : Int := if IsLv a ∧ IsLv b then rnd (a * b) 65535 else 0
def scaleF (a b : Int) : Int := if IsLv a ∧ IsLv b then 0 else 1

theorem mul_lv {a b : Int} (ha : IsLv a) (hb : IsLv b) : 0 ≤ a * b ∧ a * b ≤ 4294836225 := by
  obtain ⟨a0, a1⟩ := ha
  obtain ⟨b0, b1⟩ := hb
  refine ⟨Int.mul_nonneg a0 b0, ?_⟩
  have := Int.mul_le_mul a1 b1 b0 (by omega)
  omega


instance (t : Int) : Decidable (LvOk t) := by unfold LvOk; infer_instance

theorem row2c {k : IntKind} {W : World} {b : Nat} {x y : Int} (h1 : W.cell? ⟨b, 0, none⟩ = some (.int k x)) (h2 : W.cell? ⟨b, 1, none⟩ = some (.int k y)) : RowAt k W b 0 [x, y] := by
  intro i h
  match i, h with
  | 0, _ => simpa using h1
  | 1, _ => simpa using h2

theorem levels2c_yes (b : Nat) (x y : Int) (W : World) (h1 : W.cell? ⟨b, 0, none⟩ = some (.int .i64 x)) (h2 : W.cell? ⟨b, 1, none⟩ = some (.int .i64 y)) (hx : LvOk x) (hy : LvOk y) :
    Calls Try.prog 88 #[.slice (some ⟨b, 0, none⟩) 2 2] W fun e w' => e = .returned (.int .i64 0) ∧ W = w' := by
  refine levels_yes b 0 2 [x, y] W (by simp) (row2c h1 h2) ?_
  intro i h
  match i, h with
  | 0, _ => exact hx
  | 1, _ => exact hy

theorem levels2c_no (b : Nat) (x y : Int) (W : World) (h1 : W.cell? ⟨b, 0, none⟩ = some (.int .i64 x)) (h2 : W.cell? ⟨b, 1, none⟩ = some (.int .i64 y)) (h : ¬ (LvOk x ∧ LvOk y)) :
    Calls Try.prog 88 #[.slice (some ⟨b, 0, none⟩) 2 2] W fun e w' => e = .returned (.int .i64 1) ∧ W = w' := by
  by_cases hx : LvOk x
  · have hy : ¬ LvOk y := fun hy => h ⟨hx, hy⟩
    refine levels_no b 0 2 [x, y] W (by simp) (row2c h1 h2) 1 (by simp) ?_ ?_
    · intro i h hi
      match i, h with
      | 0, _ => exact hx
      | 1, _ => omega
    · unfold LvOk at hy
      simp; omega
  · refine levels_no b 0 2 [x, y] W (by simp) (row2c h1 h2) 0 (by simp) (by omega) ?_
    unfold LvOk at hx
    simp; omega

theorem first2c (b : Nat) (x y : Int) (W : World) (h1 : W.cell? ⟨b, 0, none⟩ = some (.int .i64 x)) (h2 : W.cell? ⟨b, 1, none⟩ = some (.int .i64 y)) :
    Calls Try.prog 44 #[.slice (some ⟨b, 0, none⟩) 2 2] W fun e w' => e = .returned (.int .i64 (if x = 0 then y else x)) ∧ W = w' := by
  refine (first_any b 0 2 [x, y] W (by simp) (row2c h1 h2)).mono ?_
  rintro e w' ⟨rfl, rfl⟩
  refine ⟨?_, rfl⟩
  simp only [firstF]
  congr 2
  split
  · split <;> omega
  · rfl


def PartOk (p q : Int) : Prop := (1 ≤ q ∧ q ≤ 36000000) ∧ 0 ≤ p ∧ p ≤ q
instance (p q : Int) : Decidable (PartOk p q) := by unfold PartOk; infer_instance

set_option maxHeartbeats 1000000 in
theorem parts_any (p q : Int) (w : World) :
    Calls Try.prog 89 #[.int .i64 p, .int .i64 q] w fun e w' => e = .returned (.int .i64 (if PartOk p q then 0 else 1)) ∧ w = w' := by
  by_cases h : PartOk p q
  · rw [if_pos h]
    obtain ⟨h1, h2⟩ := h
    have H1 := Lib.hid h1
    have H2 := Lib.hid h2
    clear h1 h2
    go_enter Try.func89, Try.ntmps89
    go_wp2_with fail
    refine (within_yes _ _ _ _ H1.out).mono ?_
    rintro e w' ⟨rfl, rfl⟩
    go_wp2_with fail
    refine (within_yes _ _ _ _ H2.out).mono ?_
    rintro e w' ⟨rfl, rfl⟩
    go_wp2_with (go_at_call 43; refine (when_no _ _).mono ?_; rintro e w' ⟨rfl, rfl⟩)
    go_ret
    exact ⟨rfl, rfl⟩
  · rw [if_neg h]
    unfold PartOk at h
    by_cases h1 : 1 ≤ q ∧ q ≤ 36000000
    · have H1 := Lib.hid h1
      have H2 := Lib.hid (show p < 0 ∨ q < p by omega)
      clear h h1
      go_enter Try.func89, Try.ntmps89
      go_wp2_with fail
      refine (within_yes _ _ _ _ H1.out).mono ?_
      rintro e w' ⟨rfl, rfl⟩
      go_wp2_with fail
      refine (within_no _ _ _ _ H2.out).mono ?_
      rintro e w' ⟨rfl, rfl⟩
      go_wp2_with (go_at_call 43; refine (when_yes _ _).mono ?_; rintro e w' ⟨rfl, rfl⟩)
      go_ret
      exact ⟨rfl, rfl⟩
    · have H1 := Lib.hid (show q < 1 ∨ 36000000 < q by omega)
      clear h h1
      go_enter Try.func89, Try.ntmps89
      go_wp2_with fail
      refine (within_no _ _ _ _ H1.out).mono ?_
      rintro e w' ⟨rfl, rfl⟩
      go_wp2_with (go_at_call 43; refine (when_yes _ _).mono ?_; rintro e w' ⟨rfl, rfl⟩)
      go_ret
      exact ⟨rfl, rfl⟩


def firstE (x y : Int) : Int := if x = 0 then y else x

theorem below1 {w : World} {o : Obj} : Below w.heap.size w (w.alloc o) := (Below.refl _ _).alloc (Nat.le_refl _) _
theorem bt {a b c : World} (h : Below a.heap.size a b) (k : Below b.heap.size b c) : Below a.heap.size a c := h.trans (k.mono h.size)
theorem below2 {w : World} {o p : Obj} : Below w.heap.size w ((w.alloc o).alloc p) := bt below1 below1
theorem below3 {w : World} {o p q : Obj} : Below w.heap.size w (((w.alloc o).alloc p).alloc q) := bt below2 below1

end Go.Proofs.Yteelomjknllcbaa
