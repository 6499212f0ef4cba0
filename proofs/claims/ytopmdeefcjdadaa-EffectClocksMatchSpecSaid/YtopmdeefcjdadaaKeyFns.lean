/- slices.Index and Contains at keys; slices.Equal at alike keys, rates, steps. (printed by wip/gen/gen_keyfns.py) -/
import Derived.Test.YtopmdeefcjdadaaClones
import Derived.Deep.QuietTactic
import Derived.BigQuiet
import Derived.Lib.IndexBytes
namespace Go.Proofs.Ytopmdeefcjdadaa
open Go.RowKit
set_option linter.unusedVariables false
set_option linter.unusedSimpArgs false

theorem rowC_get {B n : Nat} {w : World} {v : Value} {xs : List Value} (h : RowC B w v n xs) (hn : 0 < n) : ∃ b off cap, v = .slice (some ⟨b, off, none⟩) n cap ∧ b < B ∧ ∀ W, Below B w W → ∀ j u, xs[j]? = some u → W.cell? ⟨b, off + j, none⟩ = some u := by
  obtain ⟨ao, cap, rfl, h3⟩ := h
  obtain ⟨b, off, rfl, h4, h5⟩ := h3 hn
  exact ⟨b, off, cap, rfl, h4, fun W hb j u hu => (hb.cell (p := ⟨b, off + j, none⟩) h4).trans (h5 j u hu)⟩
theorem kCells_get (l : List (Int × ByteArray)) (i : Nat) (h : i < l.length) : (kCells l)[i * 2]? = some (.int .i64 l[i].1) ∧ (kCells l)[i * 2 + 1]? = some (.string l[i].2) := cells2_get _ _ l i h
theorem rCells_get (l : List (Int × Int)) (i : Nat) (h : i < l.length) : (rCells l)[i * 2]? = some (.int .i64 l[i].1) ∧ (rCells l)[i * 2 + 1]? = some (.int .i64 l[i].2) := cells2_get _ _ l i h
theorem stCells_get (l : List Stp) (i : Nat) (h : i < l.length) : (stCells l)[i * 3]? = some (.int .i64 l[i].lv) ∧ (stCells l)[i * 3 + 1]? = some (.int .i64 l[i].hold) ∧ (stCells l)[i * 3 + 2]? = some (.int .i64 l[i].fade) := cells3_get _ _ _ l i h
set_option maxHeartbeats 2000000 in
theorem keys_index (ao : Option Addr) (cap : Nat) (l : List (Int × ByteArray)) (m : Int) (s : ByteArray) (w : World) (hx : RowC w.heap.size w (.slice ao l.length cap) l.length (kCells l)) (hl : l.length ≤ 1000) :
    Calls Try.prog 64 #[.slice ao l.length cap, .agg #[.int .i64 m, .string s]] w fun e w' => (∃ n : Int, e = .returned (.int .i64 n) ∧ (0 ≤ n ↔ (m, s) ∈ l)) ∧ Below w.heap.size w w' := by
  have HG := Lib.hid (fun (h : 0 < l.length) => rowC_get hx h)
  clear hx
  go_enter Try.func64, Try.ntmps64
  go_wp2_with fail
  go_loopw [8] (fun i wr => ∃ k : Nat, k ≤ l.length ∧ i = .int .i64 k ∧ Hid ((m, s) ∉ l.take k) ∧ Hid (Below (w.heap.size + 1) (w.alloc (.cells #[.int .i64 m, .string s] 47)) wr)) (fun i _ => l.length - (intOf i).toNat)
  case atStart => exact ⟨0, Nat.zero_le _, rfl, Lib.hid (by simp), Lib.hid (Below.refl _ _)⟩
  case round =>
    obtain ⟨k, hk, rfl, HN, HB⟩ := hrel
    have hz := HB.out.size
    simp at hz
    have HW := Lib.hid (show Below w.heap.size w wr from ((Below.refl _ _).alloc (Nat.le_refl _) _).trans (HB.out.mono (by omega)))
    have b0 : wr.cell? ⟨w.heap.size, 0, none⟩ = some (.int .i64 m) := (HB.out.cell (p := ⟨w.heap.size, 0, none⟩) (by simp)).trans (by simp [go_sem])
    have b1 : wr.cell? ⟨w.heap.size, 1, none⟩ = some (.string s) := (HB.out.cell (p := ⟨w.heap.size, 1, none⟩) (by simp)).trans (by simp [go_sem])
    by_cases hlt : k < l.length
    · obtain ⟨b, off, cap', e0, hbb, hc⟩ := HG.out (by omega)
      injection e0 with e1 e2 e3
      subst e1 e3
      obtain ⟨g1, g2⟩ := kCells_get l k hlt
      have d0 := hc wr HW.out _ _ g1
      have d1 := hc wr HW.out (k * 2 + 1) _ g2
      rw [← Nat.add_assoc] at d1
      have hbr := Nat.lt_of_lt_of_le hbb HW.out.size
      have HTK : Hid (l.take (k + 1) = l.take k ++ [l[k]]) := Lib.hid (List.take_succ_eq_append_getElem hlt)
      have HMEM := Lib.hid (List.getElem_mem hlt)
      clear hc g1 g2
      generalize l[k] = y at *
      obtain ⟨y1, y2⟩ := y
      simp only at d0 d1
      by_cases he : m = y1 ∧ s = y2
      · obtain ⟨e1, e2⟩ := he
        subst e1
        subst e2
        have HMM := Lib.hid (show (m, s) ∈ l from HMEM.out)
        clear HMEM HTK
        go_wp2_with fail
        go_quiet (fail)
        go_wp2_with fail
        go_ret
        exact ⟨⟨_, rfl, ⟨fun _ => HMM.out, fun _ => by omega⟩⟩, bel_drewN HW.out _⟩
      · have HNX : Hid ((m, s) ∉ l.take (k + 1)) := Lib.hid (by
          rw [HTK.out]
          intro h
          rcases List.mem_append.1 h with h | h
          · exact HN.out h
          · simp at h; exact he h)
        by_cases h1 : m = y1
        · have h2 : ¬ s.toList = y2.toList := fun h => he ⟨h1, ByteArray.ext (Array.toList_inj.1 (by rw [← Lib.toList_data, ← Lib.toList_data]; exact h))⟩
          have h3 : (s.toList == y2.toList) = false := beq_eq_false_iff_ne.2 h2
          subst h1
          clear he
          go_wp2_with fail
          go_quiet (fail)
          go_wp2_with fail
          go_roundw
          case rel => exact ⟨k + 1, by omega, by go_num, HNX, Lib.hid (bel_drewN HB.out _)⟩
          case measure => simp [intOf]; omega
        · clear he
          go_wp2_with fail
          go_quiet (fail)
          go_wp2_with fail
          go_roundw
          case rel => exact ⟨k + 1, by omega, by go_num, HNX, Lib.hid (bel_drewN HB.out _)⟩
          case measure => simp [intOf]; omega
    · have HF : Hid ((m, s) ∉ l) := Lib.hid (by have := HN.out; rwa [List.take_of_length_le (by omega)] at this)
      go_wp2_with fail
      go_ret
      exact ⟨⟨_, rfl, ⟨fun h => by omega, fun h => absurd h HF.out⟩⟩, HW.out⟩
set_option maxHeartbeats 2000000 in
theorem keys_contains (ao : Option Addr) (cap : Nat) (l : List (Int × ByteArray)) (m : Int) (s : ByteArray) (w : World) (hx : RowC w.heap.size w (.slice ao l.length cap) l.length (kCells l)) (hl : l.length ≤ 1000) :
    Calls Try.prog 23 #[.slice ao l.length cap, .agg #[.int .i64 m, .string s]] w fun e w' => (∃ b : Bool, e = .returned (.bool b) ∧ (b = true ↔ (m, s) ∈ l)) ∧ Below w.heap.size w w' := by
  have CI := Lib.hid (fun W (hb : Below w.heap.size w W) => keys_index ao cap l m s W (by obtain ⟨a, b, c, d⟩ := hx.below hb; exact ⟨a, b, c, fun h => by obtain ⟨e, f, g, h, i⟩ := d h; exact ⟨e, f, g, Nat.lt_of_lt_of_le h hb.size, i⟩⟩) hl)
  clear hx
  go_enter Try.func23, Try.ntmps23
  go_wp2_with fail
  refine (CI.out _ ((Below.refl _ _).alloc (Nat.le_refl _) _)).mono ?_
  rintro e w1 ⟨⟨n, rfl, hn⟩, hb1⟩
  have HB := Lib.hid (show Below w.heap.size w w1 from ((Below.refl _ _).alloc (Nat.le_refl _) _).trans (hb1.mono (by simp)))
  have HN := Lib.hid hn
  clear hb1 hn
  go_wp2_with fail
  go_ret
  exact ⟨⟨_, rfl, by simpa using HN.out⟩, HB.out⟩
set_option maxHeartbeats 2000000 in
theorem keys_equal (v u : Value) (l : List (Int × ByteArray)) (w : World) (hv : RowC w.heap.size w v l.length (kCells l)) (hu : RowC w.heap.size w u l.length (kCells l)) (hl : l.length ≤ 9223372036854775807) :
    Calls Try.prog 41 #[v, u] w fun e w' => e = .returned (.bool true) ∧ Below w.heap.size w w' := by
  have HX := Lib.hid (fun (h : 0 < l.length) => rowC_get hv h)
  have HY := Lib.hid (fun (h : 0 < l.length) => rowC_get hu h)
  obtain ⟨ao, cap, rfl, _⟩ := hv
  obtain ⟨bo, cap2, rfl, _⟩ := hu
  go_enter Try.func41, Try.ntmps41
  go_wp2
  go_loopw [13] (fun i wr => ∃ k : Nat, k ≤ l.length ∧ i = .int .i64 k ∧ ∃ n, wr = w.drewN n) (fun i _ => l.length - (intOf i).toNat)
  case atStart => exact ⟨0, Nat.zero_le _, rfl, 0, rfl⟩
  case round =>
    obtain ⟨k, hk, rfl, n, rfl⟩ := hrel
    by_cases hlt : k < l.length
    · obtain ⟨b, off, _, e0, hbb, hc⟩ := HX.out (by omega)
      injection e0 with e1 _ e3
      subst e1 e3
      obtain ⟨b', off', _, e0, hbb', hc'⟩ := HY.out (by omega)
      injection e0 with e1 _ e3
      subst e1 e3
      obtain ⟨g1, g2⟩ := kCells_get l k hlt
      have c1 := hc w (Below.refl _ _) _ _ g1
      have c2 := hc w (Below.refl _ _) (k * 2 + 1) _ g2
      have d1 := hc' w (Below.refl _ _) _ _ g1
      have d2 := hc' w (Below.refl _ _) (k * 2 + 1) _ g2
      rw [← Nat.add_assoc] at c2 d2
      clear hc hc' g1 g2
      generalize l[k].1 = z1 at *
      generalize l[k].2 = z2 at *
      go_wp2
      go_quiet (fail)
      go_wp2
      go_roundw
      case rel => exact ⟨k + 1, by omega, by go_num, _, rfl⟩
      case measure => simp [intOf]; omega
    · obtain rfl : k = l.length := by omega
      go_wp2
      go_ret
      exact ⟨rfl, bel_drewN (Below.refl _ _) _⟩
set_option maxHeartbeats 2000000 in
theorem rates_equal (v u : Value) (l : List (Int × Int)) (w : World) (hv : RowC w.heap.size w v l.length (rCells l)) (hu : RowC w.heap.size w u l.length (rCells l)) (hl : l.length ≤ 9223372036854775807) :
    Calls Try.prog 42 #[v, u] w fun e w' => e = .returned (.bool true) ∧ Below w.heap.size w w' := by
  have HX := Lib.hid (fun (h : 0 < l.length) => rowC_get hv h)
  have HY := Lib.hid (fun (h : 0 < l.length) => rowC_get hu h)
  obtain ⟨ao, cap, rfl, _⟩ := hv
  obtain ⟨bo, cap2, rfl, _⟩ := hu
  go_enter Try.func42, Try.ntmps42
  go_wp2
  go_loopw [13] (fun i wr => ∃ k : Nat, k ≤ l.length ∧ i = .int .i64 k ∧ ∃ n, wr = w.drewN n) (fun i _ => l.length - (intOf i).toNat)
  case atStart => exact ⟨0, Nat.zero_le _, rfl, 0, rfl⟩
  case round =>
    obtain ⟨k, hk, rfl, n, rfl⟩ := hrel
    by_cases hlt : k < l.length
    · obtain ⟨b, off, _, e0, hbb, hc⟩ := HX.out (by omega)
      injection e0 with e1 _ e3
      subst e1 e3
      obtain ⟨b', off', _, e0, hbb', hc'⟩ := HY.out (by omega)
      injection e0 with e1 _ e3
      subst e1 e3
      obtain ⟨g1, g2⟩ := rCells_get l k hlt
      have c1 := hc w (Below.refl _ _) _ _ g1
      have c2 := hc w (Below.refl _ _) (k * 2 + 1) _ g2
      have d1 := hc' w (Below.refl _ _) _ _ g1
      have d2 := hc' w (Below.refl _ _) (k * 2 + 1) _ g2
      rw [← Nat.add_assoc] at c2 d2
      clear hc hc' g1 g2
      generalize l[k].1 = z1 at *
      generalize l[k].2 = z2 at *
      go_wp2
      go_quiet (fail)
      go_wp2
      go_roundw
      case rel => exact ⟨k + 1, by omega, by go_num, _, rfl⟩
      case measure => simp [intOf]; omega
    · obtain rfl : k = l.length := by omega
      go_wp2
      go_ret
      exact ⟨rfl, bel_drewN (Below.refl _ _) _⟩
set_option maxHeartbeats 2000000 in
theorem steps_equal (v u : Value) (l : List (Stp)) (w : World) (hv : RowC w.heap.size w v l.length (stCells l)) (hu : RowC w.heap.size w u l.length (stCells l)) (hl : l.length ≤ 9223372036854775807) :
    Calls Try.prog 72 #[v, u] w fun e w' => e = .returned (.bool true) ∧ Below w.heap.size w w' := by
  have HX := Lib.hid (fun (h : 0 < l.length) => rowC_get hv h)
  have HY := Lib.hid (fun (h : 0 < l.length) => rowC_get hu h)
  obtain ⟨ao, cap, rfl, _⟩ := hv
  obtain ⟨bo, cap2, rfl, _⟩ := hu
  go_enter Try.func72, Try.ntmps72
  go_wp2
  go_loopw [13] (fun i wr => ∃ k : Nat, k ≤ l.length ∧ i = .int .i64 k ∧ ∃ n, wr = w.drewN n) (fun i _ => l.length - (intOf i).toNat)
  case atStart => exact ⟨0, Nat.zero_le _, rfl, 0, rfl⟩
  case round =>
    obtain ⟨k, hk, rfl, n, rfl⟩ := hrel
    by_cases hlt : k < l.length
    · obtain ⟨b, off, _, e0, hbb, hc⟩ := HX.out (by omega)
      injection e0 with e1 _ e3
      subst e1 e3
      obtain ⟨b', off', _, e0, hbb', hc'⟩ := HY.out (by omega)
      injection e0 with e1 _ e3
      subst e1 e3
      obtain ⟨g1, g2, g3⟩ := stCells_get l k hlt
      have c1 := hc w (Below.refl _ _) _ _ g1
      have c2 := hc w (Below.refl _ _) (k * 3 + 1) _ g2
      have d1 := hc' w (Below.refl _ _) _ _ g1
      have d2 := hc' w (Below.refl _ _) (k * 3 + 1) _ g2
      rw [← Nat.add_assoc] at c2 d2
      have c3 := hc w (Below.refl _ _) (k * 3 + 2) _ g3
      have d3 := hc' w (Below.refl _ _) (k * 3 + 2) _ g3
      rw [← Nat.add_assoc] at c3 d3
      clear hc hc' g1 g2 g3
      generalize l[k].lv = z1 at *
      generalize l[k].hold = z2 at *
      generalize l[k].fade = z3 at *
      go_wp2
      go_quiet (fail)
      go_wp2
      go_roundw
      case rel => exact ⟨k + 1, by omega, by go_num, _, rfl⟩
      case measure => simp [intOf]; omega
    · obtain rfl : k = l.length := by omega
      go_wp2
      go_ret
      exact ⟨rfl, bel_drewN (Below.refl _ _) _⟩
end Go.Proofs.Ytopmdeefcjdadaa
