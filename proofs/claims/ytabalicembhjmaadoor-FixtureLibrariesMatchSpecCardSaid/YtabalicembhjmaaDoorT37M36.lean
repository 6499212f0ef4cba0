/- FromOctet of both sides; slices.Equal at alike settings, keys, units, ranges. (printed by wip/gen/gen_setfns.py) -/
import Derived.Test.YtabalicembhjmaaDoorT37M35
import Derived.Test.YtabalicembhjmaaDoorT37M21

namespace Go.Proofs.YtabalicembhjmaaDoor
open Go.RowKit
set_option linter.unusedVariables false
set_option linter.unusedSimpArgs false

structure KeyR where
  unit : Int
  par : ByteArray
instance : Inhabited KeyR := ⟨⟨0, ByteArray.empty⟩⟩
def keyC (s : KeyR) : List Value := [.int .i64 s.unit, .string s.par]
def KeyRS (B : Nat) (w : World) (v : Value) (l : List KeyR) : Prop := CellsS B w v l.length (l.flatMap keyC)
theorem KeyRS.below {B : Nat} {w w' : World} {v : Value} {l : List KeyR} (h : KeyRS B w v l) (hb : Below B w w') : KeyRS B w' v l := CellsS.below h hb
theorem KeyRS.more {B B' : Nat} {w : World} {v : Value} {l : List KeyR} (h : KeyRS B w v l) (hB : B ≤ B') : KeyRS B' w v l := CellsS.more h hB
theorem KeyRS.get {B : Nat} {w : World} {v : Value} {l : List KeyR} (h : KeyRS B w v l) (hl : 0 < l.length) :
    ∃ b off cap, v = .slice (some ⟨b, off, none⟩) l.length cap ∧ b < B ∧ l.length ≤ maxLen ∧ ∀ k (hk : k < l.length) (W : World), Below B w W →
      W.cell? ⟨b, off + k * 2, none⟩ = some (.int .i64 l[k].unit) ∧ W.cell? ⟨b, off + k * 2 + 1, none⟩ = some (.string l[k].par) := by
  obtain ⟨b, off, cap, rfl, h1, h2, h3⟩ := CellsS.rec h (n := 2) (fun _ => rfl) hl
  refine ⟨b, off, cap, rfl, h1, h2, fun k hk W hW => ?_⟩
  exact ⟨(hW.cell (p := ⟨b, off + k * 2, none⟩) h1).trans (h3 k hk 0 _ (by omega) rfl), (hW.cell (p := ⟨b, off + k * 2 + 1, none⟩) h1).trans (h3 k hk 1 _ (by omega) rfl)⟩
set_option maxHeartbeats 2000000 in
theorem keys_equal (v u : Value) (l : List KeyR) (w : World) (hv : KeyRS w.heap.size w v l) (hu : KeyRS w.heap.size w u l) :
    Calls Tryd.prog 17 #[v, u] w fun e w' => e = .returned (.bool true) ∧ Below w.heap.size w w' := by
  have HX := Lib.hid (KeyRS.get hv)
  have HY := Lib.hid (KeyRS.get hu)
  have hl : l.length ≤ 9223372036854775807 := by
    have h := CellsS.len hv
    unfold maxLen at h
    omega
  obtain ⟨ao, cap, rfl, _⟩ := CellsS.shape hv
  obtain ⟨bo, cap2, rfl, _⟩ := CellsS.shape hu
  clear hv hu
  go_enter Tryd.func17, Tryd.ntmps17
  go_wp2
  go_loopw [13] (fun i wr => ∃ k : Nat, k ≤ l.length ∧ i = .int .i64 k ∧ ∃ n, wr = w.drewN n) (fun i _ => l.length - (intOf i).toNat)
  case atStart => exact ⟨0, Nat.zero_le _, rfl, 0, rfl⟩
  case round =>
    obtain ⟨k, hk, rfl, n, rfl⟩ := hrel
    by_cases hlt : k < l.length
    · obtain ⟨b, off, _, e0, hbb, _, hc⟩ := HX.out (by omega)
      injection e0 with e1 _ e3
      subst e1 e3
      obtain ⟨b', off', _, e0, hbb', _, hc'⟩ := HY.out (by omega)
      injection e0 with e1 _ e3
      subst e1 e3
      obtain ⟨c0, c1⟩ := hc k hlt w (Below.refl _ _)
      obtain ⟨d0, d1⟩ := hc' k hlt w (Below.refl _ _)
      clear hc hc' HX HY
      generalize l[k].unit = z0 at *
      generalize l[k].par = z1 at *
      go_wp2
      go_quiet (fail)
      go_wp2
      go_roundw
      case rel => exact ⟨k + 1, by omega, by go_num, _, rfl⟩
      case measure => simp [intOf]; omega
    · obtain rfl : k = l.length := by omega
      go_wp2
      go_ret
      exact ⟨rfl, bel_drewF (Below.refl _ _) _⟩
set_option maxHeartbeats 2000000 in
theorem ranges_equal (v u : Value) (l : List Rng) (w : World) (hv : RngS w.heap.size w v l) (hu : RngS w.heap.size w u l) :
    Calls Tryd.prog 51 #[v, u] w fun e w' => e = .returned (.bool true) ∧ Below w.heap.size w w' := by
  have HX := Lib.hid (RngS.get hv)
  have HY := Lib.hid (RngS.get hu)
  have hl : l.length ≤ 9223372036854775807 := by
    have h := CellsS.len hv
    unfold maxLen at h
    omega
  obtain ⟨ao, cap, rfl, _⟩ := CellsS.shape hv
  obtain ⟨bo, cap2, rfl, _⟩ := CellsS.shape hu
  clear hv hu
  go_enter Tryd.func51, Tryd.ntmps51
  go_wp2
  go_loopw [13] (fun i wr => ∃ k : Nat, k ≤ l.length ∧ i = .int .i64 k ∧ ∃ n, wr = w.drewN n) (fun i _ => l.length - (intOf i).toNat)
  case atStart => exact ⟨0, Nat.zero_le _, rfl, 0, rfl⟩
  case round =>
    obtain ⟨k, hk, rfl, n, rfl⟩ := hrel
    by_cases hlt : k < l.length
    · obtain ⟨b, off, _, e0, hbb, _, hc⟩ := HX.out (by omega)
      injection e0 with e1 _ e3
      subst e1 e3
      obtain ⟨b', off', _, e0, hbb', _, hc'⟩ := HY.out (by omega)
      injection e0 with e1 _ e3
      subst e1 e3
      obtain ⟨c0, c1, c2⟩ := hc k hlt w (Below.refl _ _)
      obtain ⟨d0, d1, d2⟩ := hc' k hlt w (Below.refl _ _)
      clear hc hc' HX HY
      generalize l[k].low = z0 at *
      generalize l[k].high = z1 at *
      generalize l[k].name = z2 at *
      go_wp2
      go_quiet (fail)
      go_wp2
      go_roundw
      case rel => exact ⟨k + 1, by omega, by go_num, _, rfl⟩
      case measure => simp [intOf]; omega
    · obtain rfl : k = l.length := by omega
      go_wp2
      go_ret
      exact ⟨rfl, bel_drewF (Below.refl _ _) _⟩
end Go.Proofs.YtabalicembhjmaaDoor
