/- Contracts of level.levels, word.First and word.When. levels and First take a slice: a row of cells in memory. Tests of bounds as one Bool, of both sides; When. (cut out of XEfWords) -/
import Derived.Test.YtabalicembhjmaaDoorT37M03
import Derived.Test.YtabalicembhjmaaDoorT37M05

namespace Go.Proofs.YtabalicembhjmaaDoor
open Go.RowKit

/-- the cells of a row of numbers -/
def RowAt (k : IntKind) (w : World) (b off : Nat) (zs : List Int) : Prop := ∀ i (h : i < zs.length), w.cell? ⟨b, off + i, none⟩ = some (.int k zs[i])
def Levels (zs : List Int) : Prop := ∀ i (h : i < zs.length), 0 ≤ zs[i] ∧ zs[i] ≤ 65535

/-- either all are levels, or there is a first one that is none -/
theorem levels_cases (zs : List Int) : Levels zs ∨ ∃ j, ∃ h : j < zs.length, (∀ i (h : i < zs.length), i < j → 0 ≤ zs[i] ∧ zs[i] ≤ 65535) ∧ (zs[j] < 0 ∨ 65535 < zs[j]) := by
  induction zs with
  | nil => left; intro i h; simp at h
  | cons z zs ih =>
    by_cases hz : 0 ≤ z ∧ z ≤ 65535
    · rcases ih with ih | ⟨j, hj, h1, h2⟩
      · left
        intro i h
        match i with
        | 0 => simpa using hz
        | i + 1 => simpa using ih i (by simpa using h)
      · right
        refine ⟨j + 1, by simpa using hj, ?_, by simpa using h2⟩
        intro i h hij
        match i with
        | 0 => simpa using hz
        | i + 1 => simpa using h1 i (by simpa using h) (by omega)
    · right
      exact ⟨0, by simp, fun i h hi => by omega, by simp; omega⟩

/-- First: the first fault that is not 0. -/
def firstF : List Int → Int
  | [] => 0
  | e :: l => if e = 0 then firstF l else e

theorem firstF_drop (l : List Int) (k : Nat) (h : k < l.length) : firstF (l.drop k) = if l[k] = 0 then firstF (l.drop (k + 1)) else l[k] := by
  rw [List.drop_eq_getElem_cons h]; rfl

end Go.Proofs.YtabalicembhjmaaDoor

namespace Go.Proofs.YtabalicembhjmaaDoor
open Go.RowKit
set_option linter.unusedVariables false
set_option linter.unusedSimpArgs false

def inR (n lo hi : Int) : Bool := decide (lo ≤ n ∧ n ≤ hi)
def whenW (b : Bool) (f : Int) : Int := if b then f else 0
theorem within_R (n lo hi : Int) (w : World) : Calls Tryd.prog 35 #[.int .i64 n, .int .i64 lo, .int .i64 hi] w fun e w' => e = .returned (.bool (inR n lo hi)) ∧ w = w' := by
  by_cases h : lo ≤ n ∧ n ≤ hi
  · have : inR n lo hi = true := decide_eq_true h
    rw [this]; exact within_yes n lo hi w h
  · have : inR n lo hi = false := decide_eq_false h
    rw [this]; exact within_no n lo hi w (by omega)
theorem rwithin_R (n lo hi : Int) (w : World) : Calls Tryd.prog 39 #[.int .i64 n, .int .i64 lo, .int .i64 hi] w fun e w' => e = .returned (.bool (inR n lo hi)) ∧ w = w' := by
  by_cases h : lo ≤ n ∧ n ≤ hi
  · have : inR n lo hi = true := decide_eq_true h
    rw [this]; exact r1within_yes n lo hi w h
  · have : inR n lo hi = false := decide_eq_false h
    rw [this]; exact r1within_no n lo hi w (by omega)
set_option maxHeartbeats 400000 in
theorem rLevel_R (n : Int) (w : World) : Calls Tryd.prog 61 #[.int .i64 n] w fun e w' => e = .returned (.bool (inR n 0 65535)) ∧ w = w' := by
  go_enter Tryd.func61, Tryd.ntmps61
  go_wp2_with (go_at_call 39; refine (rwithin_R _ _ _ _).mono ?_; rintro e w' ⟨rfl, rfl⟩)
  go_ret
  exact ⟨rfl, rfl⟩
end Go.Proofs.YtabalicembhjmaaDoor
