/- level.decimal with two digits behind the full stop, at any text. -/
import Derived.Test.YtdicoggpcobbpaaDoorTextAny
namespace Go.Proofs.YtdicoggpcobbpaaDoor
open Go.RowKit
open Classical
set_option linter.unusedVariables false
set_option linter.unusedSimpArgs false

theorem dig_int {b : UInt8} (h : IsDig b) : (48 : Int) ≤ (b.toNat : Int) ∧ (b.toNat : Int) ≤ 57 := by unfold IsDig at h; omega
theorem byte_ne {b c : UInt8} (h : b ≠ c) : (((b.toNat : Nat) : Int) == ((c.toNat : Nat) : Int)) = false := by
  have : b.toNat ≠ c.toNat := fun e => h (UInt8.toNat_inj.1 e)
  simp; omega

/-- the digits behind the full stop stand for hundredths -/
def Rest (b : ByteArray) (v : Int) : Prop :=
  (∃ h : b.size = 1, IsDig b[0] ∧ b[0] ≠ 48 ∧ v = 10 * ((b[0].toNat : Int) - 48)) ∨
  (∃ h : b.size = 2, IsDig b[0] ∧ IsDig b[1] ∧ b[1] ≠ 48 ∧ v = 10 * ((b[0].toNat : Int) - 48) + ((b[1].toNat : Int) - 48))
/-- s is a number of hundredths, its whole part of at most k digits -/
def DecS (k : Nat) (s : ByteArray) (v : Int) : Prop :=
  NumS (cutA s 46) k ∧ ((cutI s 46 = -1 ∧ v = 100 * valS (cutA s 46)) ∨ (0 ≤ cutI s 46 ∧ ∃ r, Rest (cutB s 46) r ∧ v = 100 * valS (cutA s 46) + r))
/-- what stands behind the full stop is wrong -/
def RestBad (b : ByteArray) : Prop := (¬ (0 < b.size ∧ AllDig b)) ∨ (0 < b.size ∧ AllDig b ∧ 2 < b.size) ∨ (AllDig b ∧ b.size ≤ 2 ∧ ∃ h : 0 < b.size, b[b.size - 1] = 48)

theorem rest_cases (b : ByteArray) : RestBad b ∨ ∃ r, Rest b r := by
  by_cases h1 : 0 < b.size ∧ AllDig b
  · obtain ⟨h0, hd⟩ := h1
    by_cases h2 : 2 < b.size
    · exact .inl (.inr (.inl ⟨h0, hd, h2⟩))
    · by_cases h3 : b[b.size - 1] = 48
      · exact .inl (.inr (.inr ⟨hd, by omega, h0, h3⟩))
      · right
        rcases (show b.size = 1 ∨ b.size = 2 by omega) with h | h
        · have e : b[b.size - 1] = b[0] := by congr 1; omega
          rw [e] at h3
          exact ⟨_, .inl ⟨h, hd 0 h0, h3, rfl⟩⟩
        · have e : b[b.size - 1] = b[1] := by congr 1; omega
          rw [e] at h3
          exact ⟨_, .inr ⟨h, hd 0 h0, hd 1 (by omega), h3, rfl⟩⟩
  · exact .inl (.inl h1)
theorem restBad_not {b : ByteArray} (h : RestBad b) : ¬ ∃ r, Rest b r := by
  rintro ⟨r, hr⟩
  rcases hr with ⟨e, d0, n0, _⟩ | ⟨e, d0, d1, n1, _⟩
  · have hd : AllDig b := fun i hi => by
      have : i = 0 := by omega
      subst this; exact d0
    rcases h with h | ⟨_, _, h⟩ | ⟨_, _, h0, h⟩
    · exact h ⟨by omega, hd⟩
    · omega
    · exact n0 (by rw [← h]; congr 1; omega)
  · have hd : AllDig b := fun i hi => by
      rcases (show i = 0 ∨ i = 1 by omega) with rfl | rfl
      · exact d0
      · exact d1
    rcases h with h | ⟨_, _, h⟩ | ⟨_, _, h0, h⟩
    · exact h ⟨by omega, hd⟩
    · omega
    · exact n1 (by rw [← h]; congr 1; omega)

end Go.Proofs.YtdicoggpcobbpaaDoor
