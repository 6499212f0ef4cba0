/- slices.Index and Contains at keys; slices.Equal at alike keys, rates, steps. (printed by wip/gen/gen_keyfns.py) sameEffect at alike values (cut out of XSameRun, which gen_samerun.py prints). -/
import Derived.Test.YtfidbdegggalmaaGreatDoorT66M42
import Derived.Deep.QuietTactic
import Derived.BigQuiet
import Derived.Lib.IndexBytes

namespace Go.Proofs.YtfidbdegggalmaaGreatDoor
open Go.RowKit
set_option linter.unusedVariables false
set_option linter.unusedSimpArgs false

theorem rowC_get {B n : Nat} {w : World} {v : Value} {xs : List Value} (h : RowC B w v n xs) (hn : 0 < n) : ∃ b off cap, v = .slice (some ⟨b, off, none⟩) n cap ∧ b < B ∧ ∀ W, Below B w W → ∀ j u, xs[j]? = some u → W.cell? ⟨b, off + j, none⟩ = some u := by
  obtain ⟨ao, cap, rfl, h3⟩ := h
  obtain ⟨b, off, rfl, h4, h5⟩ := h3 hn
  exact ⟨b, off, cap, rfl, h4, fun W hb j u hu => (hb.cell (p := ⟨b, off + j, none⟩) h4).trans (h5 j u hu)⟩
theorem kCells_get (l : List (Int × ByteArray)) (i : Nat) (h : i < l.length) : (kCells l)[i * 2]? = some (.int .i64 l[i].1) ∧ (kCells l)[i * 2 + 1]? = some (.string l[i].2) := cells2_get _ _ l i h
theorem rCells_get (l : List (Int × Int)) (i : Nat) (h : i < l.length) : (rCells l)[i * 2]? = some (.int .i64 l[i].1) ∧ (rCells l)[i * 2 + 1]? = some (.int .i64 l[i].2) := cells2_get _ _ l i h
theorem stCells_get (l : List Stp) (i : Nat) (h : i < l.length) : (stCells l)[i * 3]? = some (.int .i64 l[i].lv) ∧ (stCells l)[i * 3 + 1]? = some (.int .i64 l[i].hold) ∧ (stCells l)[i * 3 + 2]? = some (.int .i64 l[i].fade) := cells3_get _ _ _ l i h
set_option maxHeartbeats 2000000 in
theorem steps_equal (v u : Value) (l : List (Stp)) (w : World) (hv : RowC w.heap.size w v l.length (stCells l)) (hu : RowC w.heap.size w u l.length (stCells l)) (hl : l.length ≤ 9223372036854775807) :
    Calls Tryz.prog 19 #[v, u] w fun e w' => e = .returned (.bool true) ∧ Below w.heap.size w w' := by
  have HX := Lib.hid (fun (h : 0 < l.length) => rowC_get hv h)
  have HY := Lib.hid (fun (h : 0 < l.length) => rowC_get hu h)
  obtain ⟨ao, cap, rfl, _⟩ := hv
  obtain ⟨bo, cap2, rfl, _⟩ := hu
  go_enter Tryz.func19, Tryz.ntmps19
  go_wp2
  go_loopw [13] (fun i wr => ∃ k : Nat, k ≤ l.length ∧ i = .int .i64 k ∧ ∃ n, wr = w.drewN n) (fun i _ => l.length - (intOf i).toNat)
  case atStart => exact ⟨0, Nat.zero_le _, rfl, 0, rfl⟩
  case round =>
    obtain ⟨k, hk, rfl, n, rfl⟩ := hrel
    by_cases hlt : k < l.length
    · obtain ⟨b, off, _, e0, hbb, hc⟩ := HX.out (by omega)
      injection e0 with e1 _ e3
      subst e1 e3
      obtain ⟨b', off', _, e0, hbb', hc'⟩ := HY.out (by omega)
      injection e0 with e1 _ e3
      subst e1 e3
      obtain ⟨g1, g2, g3⟩ := stCells_get l k hlt
      have c1 := hc w (Below.refl _ _) _ _ g1
      have c2 := hc w (Below.refl _ _) (k * 3 + 1) _ g2
      have d1 := hc' w (Below.refl _ _) _ _ g1
      have d2 := hc' w (Below.refl _ _) (k * 3 + 1) _ g2
      rw [← Nat.add_assoc] at c2 d2
      have c3 := hc w (Below.refl _ _) (k * 3 + 2) _ g3
      have d3 := hc' w (Below.refl _ _) (k * 3 + 2) _ g3
      rw [← Nat.add_assoc] at c3 d3
      clear hc hc' g1 g2 g3
      generalize l[k].lv = z1 at *
      generalize l[k].hold = z2 at *
      generalize l[k].fade = z3 at *
      go_wp2
      go_quiet (fail)
      go_wp2
      go_roundw
      case rel => exact ⟨k + 1, by omega, by go_num, _, rfl⟩
      case measure => simp [intOf]; omega
    · obtain rfl : k = l.length := by omega
      go_wp2
      go_ret
      exact ⟨rfl, bel_drewN (Below.refl _ _) _⟩
end Go.Proofs.YtfidbdegggalmaaGreatDoor

namespace Go.Proofs.YtfidbdegggalmaaGreatDoor
open Go.RowKit
set_option linter.unusedVariables false
set_option linter.unusedSimpArgs false

theorem rowC_up {B n : Nat} {w W : World} {v : Value} {xs : List Value} (h : RowC w.heap.size w v n xs) (hb : Below w.heap.size w W) : RowC W.heap.size W v n xs := by
  obtain ⟨a, b, c, d⟩ := h.below hb
  exact ⟨a, b, c, fun h => by obtain ⟨e, f, g, h, i⟩ := d h; exact ⟨e, f, g, Nat.lt_of_lt_of_le h hb.size, i⟩⟩
set_option maxRecDepth 100000 in
set_option maxHeartbeats 4000000 in
theorem sameEffect_any (form low high cycle width spread : Int) (back rel : Bool) (ls : List Stp) (sv sv2 : Value) (w : World) (h1 : RowC w.heap.size w sv ls.length (stCells ls)) (h2 : RowC w.heap.size w sv2 ls.length (stCells ls)) (hl : ls.length ≤ 9223372036854775807) :
    Calls Tryz.prog 6 #[(.agg #[.int .i64 form, .int .i64 low, .int .i64 high, .int .i64 cycle, .int .i64 width, .int .i64 spread, .bool back, .bool rel, sv]), (.agg #[.int .i64 form, .int .i64 low, .int .i64 high, .int .i64 cycle, .int .i64 width, .int .i64 spread, .bool back, .bool rel, sv2])] w fun e w' => e = .returned (.bool true) ∧ Below w.heap.size w w' := by
  have CS := Lib.hid (fun W (hb : Below w.heap.size w W) => steps_equal sv sv2 ls W (rowC_up (B := 0) h1 hb) (rowC_up (B := 0) h2 hb) hl)
  obtain ⟨sa, scap, rfl, _⟩ := h1
  obtain ⟨sb, scap2, rfl, _⟩ := h2
  have KC := Lib.hid (show ∀ W, Below (w.heap.size + 1 + 1) ((w.alloc (.cells #[.int .i64 form, .int .i64 low, .int .i64 high, .int .i64 cycle, .int .i64 width, .int .i64 spread, .bool back, .bool rel, .slice sa ls.length scap] 24)).alloc (.cells #[.int .i64 form, .int .i64 low, .int .i64 high, .int .i64 cycle, .int .i64 width, .int .i64 spread, .bool back, .bool rel, .slice sb ls.length scap2] 24)) W → Below w.heap.size w W ∧ w.heap.size + 1 < W.heap.size ∧ (W.cell? ⟨w.heap.size, 0, none⟩ = some (.int .i64 form) ∧ W.cell? ⟨w.heap.size, 1, none⟩ = some (.int .i64 low) ∧ W.cell? ⟨w.heap.size, 2, none⟩ = some (.int .i64 high) ∧ W.cell? ⟨w.heap.size, 3, none⟩ = some (.int .i64 cycle) ∧ W.cell? ⟨w.heap.size, 4, none⟩ = some (.int .i64 width) ∧ W.cell? ⟨w.heap.size, 5, none⟩ = some (.int .i64 spread) ∧ W.cell? ⟨w.heap.size, 6, none⟩ = some (.bool back) ∧ W.cell? ⟨w.heap.size, 7, none⟩ = some (.bool rel) ∧ W.cell? ⟨w.heap.size, 8, none⟩ = some (.slice sa ls.length scap) ∧ W.cell? ⟨w.heap.size + 1, 0, none⟩ = some (.int .i64 form) ∧ W.cell? ⟨w.heap.size + 1, 1, none⟩ = some (.int .i64 low) ∧ W.cell? ⟨w.heap.size + 1, 2, none⟩ = some (.int .i64 high) ∧ W.cell? ⟨w.heap.size + 1, 3, none⟩ = some (.int .i64 cycle) ∧ W.cell? ⟨w.heap.size + 1, 4, none⟩ = some (.int .i64 width) ∧ W.cell? ⟨w.heap.size + 1, 5, none⟩ = some (.int .i64 spread) ∧ W.cell? ⟨w.heap.size + 1, 6, none⟩ = some (.bool back) ∧ W.cell? ⟨w.heap.size + 1, 7, none⟩ = some (.bool rel) ∧ W.cell? ⟨w.heap.size + 1, 8, none⟩ = some (.slice sb ls.length scap2)) from fun W hW => by
    have hz := hW.size
    simp at hz
    refine ⟨(((Below.refl _ _).alloc (Nat.le_refl _) _).alloc (by simp) _).trans (hW.mono (by omega)), by omega, ?_, ?_, ?_, ?_, ?_, ?_, ?_, ?_, ?_, ?_, ?_, ?_, ?_, ?_, ?_, ?_, ?_, ?_⟩
    all_goals exact (hW.cell (p := ⟨_, _, none⟩) (by simp <;> omega)).trans (by simp [go_sem]))
  have KR : Below (w.heap.size + 1 + 1) ((w.alloc (.cells #[.int .i64 form, .int .i64 low, .int .i64 high, .int .i64 cycle, .int .i64 width, .int .i64 spread, .bool back, .bool rel, .slice sa ls.length scap] 24)).alloc (.cells #[.int .i64 form, .int .i64 low, .int .i64 high, .int .i64 cycle, .int .i64 width, .int .i64 spread, .bool back, .bool rel, .slice sb ls.length scap2] 24)) ((w.alloc (.cells #[.int .i64 form, .int .i64 low, .int .i64 high, .int .i64 cycle, .int .i64 width, .int .i64 spread, .bool back, .bool rel, .slice sa ls.length scap] 24)).alloc (.cells #[.int .i64 form, .int .i64 low, .int .i64 high, .int .i64 cycle, .int .i64 width, .int .i64 spread, .bool back, .bool rel, .slice sb ls.length scap2] 24)) := Below.refl _ _
  go_enter Tryz.func6, Tryz.ntmps6
  go_wp2_with fail
  refine (CS.out _ (KC.out _ KR).1).mono ?_
  rintro e w1 ⟨rfl, hb⟩
  have HB := Lib.hid (KC.out _ (KR.trans (hb.mono (by simp)))).1
  clear hb KR
  go_wp2_with fail
  go_ret
  exact ⟨rfl, HB.out⟩
end Go.Proofs.YtfidbdegggalmaaGreatDoor
