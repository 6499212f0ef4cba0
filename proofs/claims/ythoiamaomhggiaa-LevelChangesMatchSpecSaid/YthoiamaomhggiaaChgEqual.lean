/- slices.Equal of changes. -/
import Derived.Test.YthoiamaomhggiaaChanges
namespace Go.Proofs.Ythoiamaomhggiaa
open Go.RowKit
set_option linter.unusedVariables false
set_option linter.unusedSimpArgs false

set_option maxHeartbeats 2000000 in
theorem chgEqual (v u : Value) (ps : List (Int × Int)) (w : World) (hv : PtsV w v ps) (hu : PtsV w u ps) (hl : ps.length ≤ 9223372036854775807) :
    Calls Try.prog 37 #[v, u] w fun e w' => e = .returned (.bool true) ∧ Below w.heap.size w w' := by
  have hx : ∃ ao cap, v = .slice ao ps.length cap ∧ (0 < ps.length → ∃ b off, ao = some ⟨b, off, none⟩ ∧ PtsAt w b off ps) := by
    rcases hv with ⟨rfl, ao, cap, rfl⟩ | ⟨h, hm, b, off, cap, rfl, hb, hp⟩
    · exact ⟨ao, cap, rfl, fun h => absurd h (Nat.lt_irrefl _)⟩
    · exact ⟨_, cap, rfl, fun _ => ⟨b, off, rfl, hp⟩⟩
  have hy : ∃ ao cap, u = .slice ao ps.length cap ∧ (0 < ps.length → ∃ b off, ao = some ⟨b, off, none⟩ ∧ PtsAt w b off ps) := by
    rcases hu with ⟨rfl, ao, cap, rfl⟩ | ⟨h, hm, b, off, cap, rfl, hb, hp⟩
    · exact ⟨ao, cap, rfl, fun h => absurd h (Nat.lt_irrefl _)⟩
    · exact ⟨_, cap, rfl, fun _ => ⟨b, off, rfl, hp⟩⟩
  obtain ⟨ao, cap, rfl, h3⟩ := hx
  obtain ⟨bo, cap2, rfl, h6⟩ := hy
  have HX := Lib.hid h3
  have HY := Lib.hid h6
  clear h3 h6 hv hu
  go_enter Try.func37, Try.ntmps37
  go_wp2
  go_loopw [13] (fun i wr => ∃ k : Nat, k ≤ ps.length ∧ i = .int .i64 k ∧ ∃ n, wr = w.drewN n) (fun i _ => ps.length - (intOf i).toNat)
  case atStart => exact ⟨0, Nat.zero_le _, rfl, 0, rfl⟩
  case round =>
    obtain ⟨k, hk, rfl, n, rfl⟩ := hrel
    by_cases hlt : k < ps.length
    · obtain ⟨b, off, rfl, hc⟩ := HX.out (by omega)
      obtain ⟨b', off', rfl, hc'⟩ := HY.out (by omega)
      obtain ⟨c1, c2⟩ := hc k hlt
      obtain ⟨c3, c4⟩ := hc' k hlt
      clear hc hc'
      generalize ps[k].1 = z1 at *
      generalize ps[k].2 = z2 at *
      go_wp2
      go_quiet (fail)
      go_wp2
      go_roundw
      case rel => exact ⟨k + 1, by omega, by go_num, _, rfl⟩
      case measure => simp [intOf]; omega
    · obtain rfl : k = ps.length := by omega
      go_wp2
      go_ret
      exact ⟨rfl, below_drewN (Below.refl _ _)⟩
end Go.Proofs.Ythoiamaomhggiaa
