/- Contracts of level.levels, word.First and word.When. levels and First take a slice: a row of cells in memory. -/
import Derived.Test.YtpmiinamaofnnaaWord
namespace Go.Proofs.Ytpmiinamaofnnaa
open Go.RowKit

/-- the cells of a row of numbers -/
def RowAt (k : IntKind) (w : World) (b off : Nat) (zs : List Int) : Prop := ∀ i (h : i < zs.length), w.cell? ⟨b, off + i, none⟩ = some (.int k zs[i])
def Levels (zs : List Int) : Prop := ∀ i (h : i < zs.length), 0 ≤ zs[i] ∧ zs[i] ≤ 65535

/-- either all are levels, or there is a first one that is none -/
theorem levels_cases (zs : List Int) : Levels zs ∨ ∃ j, ∃ h : j < zs.length, (∀ i (h : i < zs.length), i < j → 0 ≤ zs[i] ∧ zs[i] ≤ 65535) ∧ (zs[j] < 0 ∨ 65535 < zs[j]) := by
  induction zs with
  | nil => left; intro i h; simp at h
  | cons z zs ih =>
    by_cases hz : 0 ≤ z ∧ z ≤ 65535
    · rcases ih with ih | ⟨j, hj, h1, h2⟩
      · left
        intro i h
        match i with
        | 0 => simpa using hz
        | i + 1 => simpa using ih i (by simpa using h)
      · right
        refine ⟨j + 1, by simpa using hj, ?_, by simpa using h2⟩
        intro i h hij
        match i with
        | 0 => simpa using hz
        | i + 1 => simpa using h1 i (by simpa using h) (by omega)
    · right
      exact ⟨0, by simp, fun i h hi => by omega, by simp; omega⟩

/-- First: the first fault that is not 0. -/
def firstF : List Int → Int
  | [] => 0
  | e :: l => if e = 0 then firstF l else e

theorem firstF_drop (l : List Int) (k : Nat) (h : k < l.length) : firstF (l.drop k) = if l[k] = 0 then firstF (l.drop (k + 1)) else l[k] := by
  rw [List.drop_eq_getElem_cons h]; rfl

set_option maxHeartbeats 400000 in
theorem first_any (b off cap : Nat) (zs : List Int) (w : World) (hm : zs.length ≤ 9223372036854775807)
    (hc : RowAt .i64 w b off zs) :
    Calls Try.prog 11 #[.slice (some ⟨b, off, none⟩) zs.length cap] w fun e w' => e = .returned (.int .i64 (firstF zs)) ∧ w = w' := by
  go_enter Try.func11, Try.ntmps11
  go_wp2
  go_loop [7] (fun i => ∃ k : Nat, k ≤ zs.length ∧ i = .int .i64 k ∧ firstF zs = firstF (zs.drop k)) (fun i => zs.length - (intOf i).toNat)
  case atStart => exact ⟨0, Nat.zero_le _, rfl, rfl⟩
  case round =>
    obtain ⟨k, hk, rfl, he⟩ := hrel
    have HE := Lib.hid he
    clear he
    by_cases hlt : k < zs.length
    · have hcell := hc k hlt
      have HD := Lib.hid (firstF_drop zs k hlt)
      by_cases h0 : (zs[k] != 0) = true
      · go_wp2
        go_ret
        exact ⟨by rw [HE.out, HD.out, if_neg (by simpa using h0)]; rfl, rfl⟩
      · have h1 : (zs[k] != 0) = false := by simpa using h0
        clear h0
        go_wp2
        go_round
        case rel => exact ⟨k + 1, by omega, by go_num, by rw [HE.out, HD.out, if_pos (by simpa using h1)]⟩
        case measure => simp [intOf]; omega
    · have HD : Hid (firstF (zs.drop k) = 0) := by
        rw [List.drop_eq_nil_of_le (by omega)]; exact rfl
      go_wp2
      go_ret
      exact ⟨by rw [HE.out, HD.out]; rfl, rfl⟩

set_option maxHeartbeats 400000 in
theorem when_yes (f : Int) (w : World) : Calls Try.prog 14 #[.bool true, .int .i64 f] w fun e w' => e = .returned (.int .i64 f) ∧ w = w' := by
  go_enter Try.func14, Try.ntmps14
  go_wp2
  go_ret
  exact ⟨rfl, rfl⟩
set_option maxHeartbeats 400000 in
theorem when_no (f : Int) (w : World) : Calls Try.prog 14 #[.bool false, .int .i64 f] w fun e w' => e = .returned (.int .i64 0) ∧ w = w' := by
  go_enter Try.func14, Try.ntmps14
  go_wp2
  go_ret
  exact ⟨rfl, rfl⟩
end Go.Proofs.Ytpmiinamaofnnaa
