/- slices.Index and Contains at gels. -/
import Derived.Test.YtpmiinamaofnnaaGelEq
import Derived.Test.YtpmiinamaofnnaaGelOwn
import Derived.Deep.QuietTactic
import Derived.BigQuiet
import Derived.Lib.IndexBytes
namespace Go.Proofs.Ytpmiinamaofnnaa
open Go.RowKit
set_option linter.unusedVariables false
set_option linter.unusedSimpArgs false

set_option maxRecDepth 100000 in
set_option maxHeartbeats 4000000 in
theorem gels_index (v : Value) (l : List Gel) (t : Gel) (w : World) (hx : GelS w.heap.size w v l) :
    Calls Try.prog 22 #[v, .agg #[.int .i64 t.n, .string t.name, .int .i64 t.r, .int .i64 t.g, .int .i64 t.b]] w fun e w' => (∃ n : Int, e = .returned (.int .i64 n) ∧ (0 ≤ n ↔ t ∈ l)) ∧ Below w.heap.size w w' := by
  have HS := Lib.hid (fun W (hb : Below w.heap.size w W) => hx.below hb)
  obtain ⟨ao, cap, rfl, hl, hc⟩ := hx.cells
  have HC := Lib.hid hc
  unfold maxLen at hl
  obtain ⟨m, s, p, q, r⟩ := t
  simp only
  clear hx hc
  go_enter Try.func22, Try.ntmps22
  go_wp2_with fail
  go_loopw [8] (fun i wr => ∃ k : Nat, k ≤ l.length ∧ i = .int .i64 k ∧ Hid ((⟨m, s, p, q, r⟩ : Gel) ∉ l.take k) ∧ Hid (Below (w.heap.size + 1) (w.alloc (.cells #[.int .i64 m, .string s, .int .i64 p, .int .i64 q, .int .i64 r] 29)) wr)) (fun i _ => l.length - (intOf i).toNat)
  case atStart => exact ⟨0, Nat.zero_le _, rfl, Lib.hid (by simp), Lib.hid (Below.refl _ _)⟩
  case round =>
    obtain ⟨k, hk, rfl, HN, HB⟩ := hrel
    have hz := HB.out.size
    simp at hz
    have HW := Lib.hid (show Below w.heap.size w wr from ((Below.refl _ _).alloc (Nat.le_refl _) _).trans (HB.out.mono (by omega)))
    have b0 : wr.cell? ⟨w.heap.size, 0, none⟩ = some (.int .i64 m) := (HB.out.cell (p := ⟨w.heap.size, 0, none⟩) (by simp)).trans (by simp [go_sem])
    have b1 : wr.cell? ⟨w.heap.size, 1, none⟩ = some (.string s) := (HB.out.cell (p := ⟨w.heap.size, 1, none⟩) (by simp)).trans (by simp [go_sem])
    have b2 : wr.cell? ⟨w.heap.size, 2, none⟩ = some (.int .i64 p) := (HB.out.cell (p := ⟨w.heap.size, 2, none⟩) (by simp)).trans (by simp [go_sem])
    have b3 : wr.cell? ⟨w.heap.size, 3, none⟩ = some (.int .i64 q) := (HB.out.cell (p := ⟨w.heap.size, 3, none⟩) (by simp)).trans (by simp [go_sem])
    have b4 : wr.cell? ⟨w.heap.size, 4, none⟩ = some (.int .i64 r) := (HB.out.cell (p := ⟨w.heap.size, 4, none⟩) (by simp)).trans (by simp [go_sem])
    by_cases hlt : k < l.length
    · have hne : l ≠ [] := by intro e; subst e; simp at hlt
      obtain ⟨b, off, e0, hbb, hcl⟩ := HC.out hne
      subst e0
      obtain ⟨c0, c1, c2, c3, c4⟩ := hcl k hlt
      have d0 := (HW.out.cell (p := ⟨b, off + k * 5, none⟩) hbb).trans c0
      have d1 := (HW.out.cell (p := ⟨b, off + k * 5 + 1, none⟩) hbb).trans c1
      have d2 := (HW.out.cell (p := ⟨b, off + k * 5 + 2, none⟩) hbb).trans c2
      have d3 := (HW.out.cell (p := ⟨b, off + k * 5 + 3, none⟩) hbb).trans c3
      have d4 := (HW.out.cell (p := ⟨b, off + k * 5 + 4, none⟩) hbb).trans c4
      have hbr := Nat.lt_of_lt_of_le hbb HW.out.size
      have HTK : Hid (l.take (k + 1) = l.take k ++ [l[k]]) := Lib.hid (List.take_succ_eq_append_getElem hlt)
      have HMEM := Lib.hid (List.getElem_mem hlt)
      clear hcl c0 c1 c2 c3 c4 HC HS hne
      generalize l[k] = y at *
      obtain ⟨y1, y2, y3, y4, y5⟩ := y
      simp only at d0 d1 d2 d3 d4
      by_cases he : m = y1 ∧ s = y2 ∧ p = y3 ∧ q = y4 ∧ r = y5
      · obtain ⟨e1, e2, e3, e4, e5⟩ := he
        subst e1
        subst e2
        subst e3
        subst e4
        subst e5
        have HMM := Lib.hid (show (⟨m, s, p, q, r⟩ : Gel) ∈ l from HMEM.out)
        clear HMEM HTK
        go_wp2_with fail
        go_quiet (fail)
        go_wp2_with fail
        go_ret
        exact ⟨⟨_, rfl, ⟨fun _ => HMM.out, fun _ => by omega⟩⟩, below_drewN' HW.out⟩
      · have HNX : Hid ((⟨m, s, p, q, r⟩ : Gel) ∉ l.take (k + 1)) := Lib.hid (by
          rw [HTK.out]
          intro h
          rcases List.mem_append.1 h with h | h
          · exact HN.out h
          · simp at h; exact he h)
        by_cases h1 : m = y1
        rotate_left
        · clear he
          go_wp2_with fail
          go_quiet (fail)
          go_wp2_with fail
          go_roundw
          case rel => exact ⟨k + 1, by omega, by go_num, HNX, Lib.hid (below_drewN' HB.out)⟩
          case measure => simp [intOf]; omega
        subst h1
        by_cases h2 : s = y2
        rotate_left
        · have h2 : ¬ s.toList = y2.toList := fun h => h2 (ByteArray.ext (Array.toList_inj.1 (by rw [← Lib.toList_data, ← Lib.toList_data]; exact h)))
          have h3 : (s.toList == y2.toList) = false := beq_eq_false_iff_ne.2 h2
          clear he
          go_wp2_with fail
          go_quiet (fail)
          go_wp2_with fail
          go_roundw
          case rel => exact ⟨k + 1, by omega, by go_num, HNX, Lib.hid (below_drewN' HB.out)⟩
          case measure => simp [intOf]; omega
        subst h2
        by_cases h3 : p = y3
        rotate_left
        · clear he
          go_wp2_with fail
          go_quiet (fail)
          go_wp2_with fail
          go_roundw
          case rel => exact ⟨k + 1, by omega, by go_num, HNX, Lib.hid (below_drewN' HB.out)⟩
          case measure => simp [intOf]; omega
        subst h3
        by_cases h4 : q = y4
        rotate_left
        · clear he
          go_wp2_with fail
          go_quiet (fail)
          go_wp2_with fail
          go_roundw
          case rel => exact ⟨k + 1, by omega, by go_num, HNX, Lib.hid (below_drewN' HB.out)⟩
          case measure => simp [intOf]; omega
        subst h4
        have h5 : ¬ r = y5 := fun h => he ⟨rfl, rfl, rfl, rfl, h⟩
        clear he
        go_wp2_with fail
        go_quiet (fail)
        go_wp2_with fail
        go_roundw
        case rel => exact ⟨k + 1, by omega, by go_num, HNX, Lib.hid (below_drewN' HB.out)⟩
        case measure => simp [intOf]; omega
    · have HF : Hid ((⟨m, s, p, q, r⟩ : Gel) ∉ l) := Lib.hid (by have := HN.out; rwa [List.take_of_length_le (by omega)] at this)
      go_wp2_with fail
      go_ret
      exact ⟨⟨_, rfl, ⟨fun h => by omega, fun h => absurd h HF.out⟩⟩, HW.out⟩
set_option maxHeartbeats 2000000 in
theorem gels_contains (v : Value) (l : List Gel) (t : Gel) (w : World) (hx : GelS w.heap.size w v l) :
    Calls Try.prog 6 #[v, .agg #[.int .i64 t.n, .string t.name, .int .i64 t.r, .int .i64 t.g, .int .i64 t.b]] w fun e w' => (∃ b : Bool, e = .returned (.bool b) ∧ (b = true ↔ t ∈ l)) ∧ Below w.heap.size w w' := by
  have CI := Lib.hid (fun W (hb : Below w.heap.size w W) => gels_index v l t W ((hx.below hb).more hb.size))
  obtain ⟨ao, cap, rfl, _, _⟩ := hx.cells
  clear hx
  go_enter Try.func6, Try.ntmps6
  go_wp2_with fail
  refine (CI.out _ ((Below.refl _ _).alloc (Nat.le_refl _) _)).mono ?_
  rintro e w1 ⟨⟨n, rfl, hn⟩, hb1⟩
  have HB := Lib.hid (show Below w.heap.size w w1 from ((Below.refl _ _).alloc (Nat.le_refl _) _).trans (hb1.mono (by simp)))
  have HN := Lib.hid hn
  clear hb1 hn
  go_wp2_with fail
  go_ret
  exact ⟨⟨_, rfl, by simpa using HN.out⟩, HB.out⟩
end Go.Proofs.Ytpmiinamaofnnaa
