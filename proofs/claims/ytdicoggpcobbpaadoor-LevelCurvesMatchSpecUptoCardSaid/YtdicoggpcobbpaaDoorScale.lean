/- Contracts of level.Scale, level.Mix, level.Octet, level.parts, level.mix. -/
import Derived.Test.YtdicoggpcobbpaaDoorLevels
namespace Go.Proofs.YtdicoggpcobbpaaDoor
open Go.RowKit

def IsLv (a : Int) : Prop := 0 ≤ a ∧ a ≤ 65535
instance (a : Int) : Decidable (IsLv a) := by unfold IsLv; infer_instance

theorem rowAt2 {k : IntKind} {w : World} {a b : Int} {t : TypeId} : RowAt k (w.alloc (.cells #[.int k a, .int k b] t)) w.heap.size 0 [a, b] := by
  intro i h
  match i, h with
  | 0, _ => simp
  | 1, _ => simp

theorem levels2_yes (a b : Int) (w : World) (ha : IsLv a) (hb : IsLv b) :
    Calls Tryd.prog 66 #[.slice (some ⟨w.heap.size, 0, none⟩) 2 2] (w.alloc (.cells #[.int .i64 a, .int .i64 b] 3)) fun e w' => e = .returned (.int .i64 0) ∧ w.alloc (.cells #[.int .i64 a, .int .i64 b] 3) = w' := by
  refine levels_yes w.heap.size 0 2 [a, b] _ (by simp) rowAt2 ?_
  intro i h
  match i, h with
  | 0, _ => exact ha
  | 1, _ => exact hb

theorem levels2_no (a b : Int) (w : World) (h : ¬ IsLv a ∨ ¬ IsLv b) :
    Calls Tryd.prog 66 #[.slice (some ⟨w.heap.size, 0, none⟩) 2 2] (w.alloc (.cells #[.int .i64 a, .int .i64 b] 3)) fun e w' => e = .returned (.int .i64 1) ∧ w.alloc (.cells #[.int .i64 a, .int .i64 b] 3) = w' := by
  by_cases ha : IsLv a
  · refine levels_no w.heap.size 0 2 [a, b] _ (by simp) rowAt2 1 (by simp) ?_ ?_
    · intro i h hi
      match i, h with
      | 0, _ => exact ha
      | 1, _ => omega
    · have := h.resolve_left (by simpa using ha)
      unfold IsLv at this
      simp; omega
  · refine levels_no w.heap.size 0 2 [a, b] _ (by simp) rowAt2 0 (by simp) (by omega) ?_
    unfold IsLv at ha
    simp; omega

/-- what Scale returns -/
def scaleV (a b : Int) : Int := if IsLv a ∧ IsLv b then rnd (a * b) 65535 else 0
def scaleF (a b : Int) : Int := if IsLv a ∧ IsLv b then 0 else 1

theorem mul_lv {a b : Int} (ha : IsLv a) (hb : IsLv b) : 0 ≤ a * b ∧ a * b ≤ 4294836225 := by
  obtain ⟨a0, a1⟩ := ha
  obtain ⟨b0, b1⟩ := hb
  refine ⟨Int.mul_nonneg a0 b0, ?_⟩
  have := Int.mul_le_mul a1 b1 b0 (by omega)
  omega

end Go.Proofs.YtdicoggpcobbpaaDoor
