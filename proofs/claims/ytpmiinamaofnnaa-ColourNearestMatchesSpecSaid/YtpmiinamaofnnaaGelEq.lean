/- slices.Equal at alike gels. -/
import Derived.Test.YtpmiinamaofnnaaGel
import Derived.Test.YtpmiinamaofnnaaBSome
import Derived.BigQuiet
import Derived.Deep.QuietTactic
namespace Go.Proofs.Ytpmiinamaofnnaa
open Go.RowKit
set_option linter.unusedVariables false
set_option linter.unusedSimpArgs false

set_option maxRecDepth 100000 in
set_option maxHeartbeats 4000000 in
theorem gels_equal (v u : Value) (l : List Gel) (w : World) (hv : GelS w.heap.size w v l) (hu : GelS w.heap.size w u l) :
    Calls Try.prog 10 #[v, u] w fun e w' => e = .returned (.bool true) ∧ Below w.heap.size w w' := by
  obtain ⟨ao, cap, rfl, hl, hx⟩ := hv.cells
  obtain ⟨bo, cap2, rfl, _, hy⟩ := hu.cells
  unfold maxLen at hl
  have HX := Lib.hid hx
  have HY := Lib.hid hy
  clear hv hu hx hy
  go_enter Try.func10, Try.ntmps10
  go_wp2
  go_loopw [13] (fun i wr => ∃ k : Nat, k ≤ l.length ∧ i = .int .i64 k ∧ ∃ n, wr = w.drewN n) (fun i _ => l.length - (intOf i).toNat)
  case atStart => exact ⟨0, Nat.zero_le _, rfl, 0, rfl⟩
  case round =>
    obtain ⟨k, hk, rfl, n, rfl⟩ := hrel
    by_cases hlt : k < l.length
    · have hne : l ≠ [] := by intro e; subst e; simp at hlt
      obtain ⟨b, off, e0, hbb, hc⟩ := HX.out hne
      subst e0
      obtain ⟨b', off', e0, hbb', hc'⟩ := HY.out hne
      subst e0
      obtain ⟨c0, c1, c2, c3, c4⟩ := hc k hlt
      obtain ⟨d0, d1, d2, d3, d4⟩ := hc' k hlt
      clear hc hc' HX HY hne
      generalize l[k].n = z0 at *
      generalize l[k].name = z1 at *
      generalize l[k].r = z2 at *
      generalize l[k].g = z3 at *
      generalize l[k].b = z4 at *
      go_wp2
      go_quiet (fail)
      go_wp2
      go_roundw
      case rel => exact ⟨k + 1, by omega, by go_num, _, rfl⟩
      case measure => simp [intOf]; omega
    · obtain rfl : k = l.length := by omega
      go_wp2
      go_ret
      exact ⟨rfl, below_drewN' (Below.refl _ _)⟩
end Go.Proofs.Ytpmiinamaofnnaa
