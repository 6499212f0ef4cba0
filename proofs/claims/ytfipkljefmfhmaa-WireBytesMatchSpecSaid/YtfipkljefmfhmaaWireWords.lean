/- The small words of package wire and of its reference: Within, When, First, newer, Newer, checkSync. -/
import Derived.Test.YtfipkljefmfhmaaProg
import Derived.WalkKit
import Derived.WalkSpells
import Derived.WalkLawsBesides
import Derived.Lib.Hide
namespace Go.Proofs.Ytfipkljefmfhmaa
open Go.RowKit

set_option maxHeartbeats 400000 in
theorem within_yes (n lo hi : Int) (w : World) (h : lo ≤ n ∧ n ≤ hi) :
    Calls Try.prog 66 #[.int .i64 n, .int .i64 lo, .int .i64 hi] w fun e w' => e = .returned (.bool true) ∧ w = w' := by
  obtain ⟨h1, h2⟩ := h
  have e1 : decide (lo ≤ n) = true := by simpa using h1
  have e2 : decide (n ≤ hi) = true := by simpa using h2
  go_enter Try.func66, Try.ntmps66
  go_wp2
  go_ret
  exact ⟨rfl, rfl⟩

set_option maxHeartbeats 400000 in
theorem within_no (n lo hi : Int) (w : World) (h : n < lo ∨ hi < n) :
    Calls Try.prog 66 #[.int .i64 n, .int .i64 lo, .int .i64 hi] w fun e w' => e = .returned (.bool false) ∧ w = w' := by
  by_cases h1 : lo ≤ n
  · have e2 : decide (n ≤ hi) = false := by simp; omega
    have h2 : hi < n := by omega
    clear h
    go_enter Try.func66, Try.ntmps66
    go_wp2
    go_ret
    exact ⟨rfl, rfl⟩
  · have h2 : n < lo := by omega
    clear h
    go_enter Try.func66, Try.ntmps66
    go_wp2
    go_ret
    exact ⟨rfl, rfl⟩

set_option maxHeartbeats 400000 in
theorem rwithin_yes (n lo hi : Int) (w : World) (h : lo ≤ n ∧ n ≤ hi) :
    Calls Try.prog 57 #[.int .i64 n, .int .i64 lo, .int .i64 hi] w fun e w' => e = .returned (.bool true) ∧ w = w' := by
  obtain ⟨h1, h2⟩ := h
  have e1 : decide (lo ≤ n) = true := by simpa using h1
  have e2 : decide (n ≤ hi) = true := by simpa using h2
  go_enter Try.func57, Try.ntmps57
  go_wp2
  go_ret
  exact ⟨rfl, rfl⟩

set_option maxHeartbeats 400000 in
theorem rwithin_no (n lo hi : Int) (w : World) (h : n < lo ∨ hi < n) :
    Calls Try.prog 57 #[.int .i64 n, .int .i64 lo, .int .i64 hi] w fun e w' => e = .returned (.bool false) ∧ w = w' := by
  by_cases h1 : lo ≤ n
  · have e2 : decide (n ≤ hi) = false := by simp; omega
    have h2 : hi < n := by omega
    clear h
    go_enter Try.func57, Try.ntmps57
    go_wp2
    go_ret
    exact ⟨rfl, rfl⟩
  · have h2 : n < lo := by omega
    clear h
    go_enter Try.func57, Try.ntmps57
    go_wp2
    go_ret
    exact ⟨rfl, rfl⟩

/-- newer, by number -/
def newB (a b : Int) : Bool := decide (1 ≤ (a - b) % 256 ∧ (a - b) % 256 ≤ 235)
def newF (a b : Int) : Int := if (0 ≤ a ∧ a ≤ 255) ∧ (0 ≤ b ∧ b ≤ 255) then 0 else 1
def newV (a b : Int) : Bool := if (0 ≤ a ∧ a ≤ 255) ∧ (0 ≤ b ∧ b ≤ 255) then newB a b else false

set_option maxHeartbeats 400000 in
theorem newer_any (a b : Int) (w : World) (ha : 0 ≤ a ∧ a ≤ 255) (hb : 0 ≤ b ∧ b ≤ 255) :
    Calls Try.prog 67 #[.int .i64 a, .int .i64 b] w fun e w' => e = .returned (.bool (newB a b)) ∧ w = w' := by
  by_cases h : 1 ≤ (a - b) % 256 ∧ (a - b) % 256 ≤ 235
  · have HN := Lib.hid (show newB a b = true from decide_eq_true h)
    have HH := Lib.hid h
    clear h
    go_enter Try.func67, Try.ntmps67
    go_wp2_with (go_at_call 66; refine (within_yes _ _ _ _ HH.out).mono ?_; rintro e w' ⟨rfl, rfl⟩)
    go_ret
    exact ⟨by rw [HN.out]; rfl, rfl⟩
  · have HN := Lib.hid (show newB a b = false from decide_eq_false h)
    have HH := Lib.hid (show (a - b) % 256 < 1 ∨ 235 < (a - b) % 256 by omega)
    clear h
    go_enter Try.func67, Try.ntmps67
    go_wp2_with (go_at_call 66; refine (within_no _ _ _ _ HH.out).mono ?_; rintro e w' ⟨rfl, rfl⟩)
    go_ret
    exact ⟨by rw [HN.out]; rfl, rfl⟩

set_option maxHeartbeats 400000 in
theorem rnewer_any (a b : Int) (w : World) (ha : 0 ≤ a ∧ a ≤ 255) (hb : 0 ≤ b ∧ b ≤ 255) :
    Calls Try.prog 68 #[.int .i64 a, .int .i64 b] w fun e w' => e = .returned (.bool (newB a b)) ∧ w = w' := by
  by_cases h : 1 ≤ (a - b) % 256 ∧ (a - b) % 256 ≤ 235
  · have HN := Lib.hid (show newB a b = true from decide_eq_true h)
    have HH := Lib.hid h
    clear h
    go_enter Try.func68, Try.ntmps68
    go_wp2_with (go_at_call 57; refine (rwithin_yes _ _ _ _ HH.out).mono ?_; rintro e w' ⟨rfl, rfl⟩)
    go_ret
    exact ⟨by rw [HN.out]; rfl, rfl⟩
  · have HN := Lib.hid (show newB a b = false from decide_eq_false h)
    have HH := Lib.hid (show (a - b) % 256 < 1 ∨ 235 < (a - b) % 256 by omega)
    clear h
    go_enter Try.func68, Try.ntmps68
    go_wp2_with (go_at_call 57; refine (rwithin_no _ _ _ _ HH.out).mono ?_; rintro e w' ⟨rfl, rfl⟩)
    go_ret
    exact ⟨by rw [HN.out]; rfl, rfl⟩

set_option maxHeartbeats 600000 in
theorem Newer_any (a b : Int) (w : World) :
    Calls Try.prog 20 #[.int .i64 a, .int .i64 b] w fun e w' => e = .returned (.tuple #[.bool (newV a b), .int .i64 (newF a b)]) ∧ w = w' := by
  by_cases ha : 0 ≤ a ∧ a ≤ 255
  · by_cases hb : 0 ≤ b ∧ b ≤ 255
    · have HV := Lib.hid (show newV a b = newB a b from if_pos ⟨ha, hb⟩)
      have HF := Lib.hid (show newF a b = 0 from if_pos ⟨ha, hb⟩)
      have HA := Lib.hid ha
      have HB := Lib.hid hb
      clear ha hb
      go_enter Try.func20, Try.ntmps20
      go_wp2_with (first | (go_at_call 66; (with_reducible refine (within_yes a _ _ _ HA.out).mono ?_); rintro e w' ⟨rfl, rfl⟩) | (go_at_call 66; (with_reducible refine (within_yes b _ _ _ HB.out).mono ?_); rintro e w' ⟨rfl, rfl⟩) | (go_at_call 67; (with_reducible refine (newer_any a b _ HA.out HB.out).mono ?_); rintro e w' ⟨rfl, rfl⟩))
      go_ret2
      exact ⟨by rw [HV.out, HF.out]; rfl, rfl⟩
    · have HV := Lib.hid (show newV a b = false from if_neg fun k => hb k.2)
      have HF := Lib.hid (show newF a b = 1 from if_neg fun k => hb k.2)
      have HA := Lib.hid ha
      have HB := Lib.hid (show b < 0 ∨ 255 < b by omega)
      clear ha hb
      go_enter Try.func20, Try.ntmps20
      go_wp2_with (first | (go_at_call 66; (with_reducible refine (within_yes a _ _ _ HA.out).mono ?_); rintro e w' ⟨rfl, rfl⟩) | (go_at_call 66; (with_reducible refine (within_no b _ _ _ HB.out).mono ?_); rintro e w' ⟨rfl, rfl⟩))
      go_ret2
      exact ⟨by rw [HV.out, HF.out]; rfl, rfl⟩
  · have HV := Lib.hid (show newV a b = false from if_neg fun k => ha k.1)
    have HF := Lib.hid (show newF a b = 1 from if_neg fun k => ha k.1)
    have HA := Lib.hid (show a < 0 ∨ 255 < a by omega)
    clear ha
    go_enter Try.func20, Try.ntmps20
    go_wp2_with (go_at_call 66; (with_reducible refine (within_no a _ _ _ HA.out).mono ?_); rintro e w' ⟨rfl, rfl⟩)
    go_ret2
    exact ⟨by rw [HV.out, HF.out]; rfl, rfl⟩

set_option maxHeartbeats 600000 in
theorem rNewer_any (a b : Int) (w : World) :
    Calls Try.prog 21 #[.int .i64 a, .int .i64 b] w fun e w' => e = .returned (.tuple #[.bool (newV a b), .int .i64 (newF a b)]) ∧ w = w' := by
  by_cases ha : 0 ≤ a ∧ a ≤ 255
  · by_cases hb : 0 ≤ b ∧ b ≤ 255
    · have HV := Lib.hid (show newV a b = newB a b from if_pos ⟨ha, hb⟩)
      have HF := Lib.hid (show newF a b = 0 from if_pos ⟨ha, hb⟩)
      have HA := Lib.hid ha
      have HB := Lib.hid hb
      clear ha hb
      go_enter Try.func21, Try.ntmps21
      go_wp2_with (first | (go_at_call 57; (with_reducible refine (rwithin_yes a _ _ _ HA.out).mono ?_); rintro e w' ⟨rfl, rfl⟩) | (go_at_call 57; (with_reducible refine (rwithin_yes b _ _ _ HB.out).mono ?_); rintro e w' ⟨rfl, rfl⟩) | (go_at_call 68; (with_reducible refine (rnewer_any a b _ HA.out HB.out).mono ?_); rintro e w' ⟨rfl, rfl⟩))
      go_ret2
      exact ⟨by rw [HV.out, HF.out]; rfl, rfl⟩
    · have HV := Lib.hid (show newV a b = false from if_neg fun k => hb k.2)
      have HF := Lib.hid (show newF a b = 1 from if_neg fun k => hb k.2)
      have HA := Lib.hid ha
      have HB := Lib.hid (show b < 0 ∨ 255 < b by omega)
      clear ha hb
      go_enter Try.func21, Try.ntmps21
      go_wp2_with (first | (go_at_call 57; (with_reducible refine (rwithin_yes a _ _ _ HA.out).mono ?_); rintro e w' ⟨rfl, rfl⟩) | (go_at_call 57; (with_reducible refine (rwithin_no b _ _ _ HB.out).mono ?_); rintro e w' ⟨rfl, rfl⟩))
      go_ret2
      exact ⟨by rw [HV.out, HF.out]; rfl, rfl⟩
  · have HV := Lib.hid (show newV a b = false from if_neg fun k => ha k.1)
    have HF := Lib.hid (show newF a b = 1 from if_neg fun k => ha k.1)
    have HA := Lib.hid (show a < 0 ∨ 255 < a by omega)
    clear ha
    go_enter Try.func21, Try.ntmps21
    go_wp2_with (go_at_call 57; (with_reducible refine (rwithin_no a _ _ _ HA.out).mono ?_); rintro e w' ⟨rfl, rfl⟩)
    go_ret2
    exact ⟨by rw [HV.out, HF.out]; rfl, rfl⟩

end Go.Proofs.Ytfipkljefmfhmaa
