/- The reference's Read and Number at any text. (lines of XERKit, printed by wip/gen/gen_rlibrange.py) -/
import Derived.Test.YtppbagllhmeenaaGreatDoorT68M12
import Derived.Test.YtppbagllhmeenaaGreatDoorT68M07
import Derived.Deep.DeepCutAuto

namespace Go.Proofs.YtppbagllhmeenaaGreatDoor
open Go.RowKit
set_option linter.unusedVariables false
set_option linter.unusedSimpArgs false

theorem rread_outE (w : World) :
    Calls Tryz.prog 95 #[.string ⟨#[111, 117, 116]⟩] w fun e w' => e = .returned (.tuple #[.int .i64 0, .int .i64 0]) ∧ w = w' := by
  go_enter Tryz.func95, Tryz.ntmps95
  go_wp2
  go_ret2
  exact ⟨rfl, rfl⟩
theorem rread_fullE (w : World) :
    Calls Tryz.prog 95 #[.string ⟨#[102, 117, 108, 108]⟩] w fun e w' => e = .returned (.tuple #[.int .i64 65535, .int .i64 0]) ∧ w = w' := by
  go_enter Tryz.func95, Tryz.ntmps95
  go_wp2
  go_ret2
  exact ⟨rfl, rfl⟩
theorem rlread_any (s : ByteArray) (w : World) (hn : s.size ≤ 9223372036854775807) :
    Calls Tryz.prog 95 #[.string s] w fun e w' => e = .returned (.tuple #[.int .i64 ((lvW s).getD 0), .int .i64 (if (lvW s).isSome then 0 else 9)]) ∧ Below w.heap.size w w' := by
  by_cases e1 : s.toList = [111, 117, 116]
  · have e0 : lvW s = some 0 := by unfold lvW; rw [if_pos e1]
    rw [e0, ba_of_list e1]
    refine (rread_outE w).mono ?_
    rintro e w' ⟨rfl, rfl⟩
    exact ⟨rfl, Below.refl _ _⟩
  by_cases e2 : s.toList = [102, 117, 108, 108]
  · have e0 : lvW s = some 65535 := by unfold lvW; rw [if_neg e1, if_pos e2]
    rw [e0, ba_of_list e2]
    refine (rread_fullE w).mono ?_
    rintro e w' ⟨rfl, rfl⟩
    exact ⟨rfl, Below.refl _ _⟩
  by_cases h : ∃ v, RdS 9 s v
  · have e0 : lvW s = some h.choose := by unfold lvW; rw [if_neg e1, if_neg e2, dif_pos h]
    rw [e0]
    exact rread_good s h.choose w hn e1 e2 ((rd_same s _).1 h.choose_spec)
  · have e0 : lvW s = none := by unfold lvW; rw [if_neg e1, if_neg e2, dif_neg h]
    rw [e0]
    exact rread_wrong s w hn e1 e2 (fun ⟨v, hv⟩ => h ⟨v, (rd_same s v).2 hv⟩)
theorem rnumber_any (s : ByteArray) (w : World) (hn : s.size ≤ 9223372036854775807) :
    Calls Tryz.prog 54 #[.string s, .int .i64 9] w fun e w' => e = .returned (.tuple #[.int .i64 ((nbW s).getD 0), .bool (nbW s).isSome]) ∧ Below w.heap.size w w' := by
  by_cases h : NumS s 9
  · have e0 : nbW s = some (valS s : Int) := by unfold nbW; rw [if_pos h]
    rw [e0]
    exact rnumber_ok s 9 w (by decide) h
  · have e0 : nbW s = none := by unfold nbW; rw [if_neg h]
    rw [e0]
    exact rnumber_no s 9 w (by decide) hn h
/-- its fault a number of its own -/
theorem rlread_f (s : ByteArray) (hn : s.size ≤ 9223372036854775807) : ∃ x f : Int, (∀ w, Calls Tryz.prog 95 #[.string s] w fun e w' => e = .returned (.tuple #[.int .i64 x, .int .i64 f]) ∧ Below w.heap.size w w') ∧ ((f = 0 ∧ lvW s = some x) ∨ (f = 9 ∧ lvW s = none)) := by
  cases h : lvW s with
  | none => exact ⟨0, 9, fun w => by have := rlread_any s w hn; rw [h] at this; exact this, .inr ⟨rfl, rfl⟩⟩
  | some v => exact ⟨v, 0, fun w => by have := rlread_any s w hn; rw [h] at this; exact this, .inl ⟨rfl, rfl⟩⟩
theorem rnum_f (s : ByteArray) (hn : s.size ≤ 9223372036854775807) : ∃ (x : Int) (f : Bool), (∀ w, Calls Tryz.prog 54 #[.string s, .int .i64 9] w fun e w' => e = .returned (.tuple #[.int .i64 x, .bool f]) ∧ Below w.heap.size w w') ∧ ((f = true ∧ nbW s = some x) ∨ (f = false ∧ nbW s = none)) := by
  cases h : nbW s with
  | none => exact ⟨0, false, fun w => by have := rnumber_any s w hn; rw [h] at this; exact this, .inr ⟨rfl, rfl⟩⟩
  | some v => exact ⟨v, true, fun w => by have := rnumber_any s w hn; rw [h] at this; exact this, .inl ⟨rfl, rfl⟩⟩
end Go.Proofs.YtppbagllhmeenaaGreatDoor
