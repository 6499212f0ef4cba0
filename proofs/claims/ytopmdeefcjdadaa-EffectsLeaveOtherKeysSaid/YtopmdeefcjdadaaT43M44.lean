/- slices.Index and Contains at keys; slices.Equal at alike keys, rates, steps. (printed by wip/gen/gen_keyfns.py) slices.ContainsFunc at running effects: has one of them the key of a setting? (printed by wip/gen/gen_otherwalk.py) slices.Index and Contains at settings. (printed by wip/gen/gen_frmback.py) The walk of cycloramalaw7.EffectsLeaveOtherKeys: for every rig, running effects, settings and time it returns true. (printed by wip/gen/gen_otherwalk.py) -/
import Derived.Test.YtopmdeefcjdadaaT43M40
import Derived.Deep.QuietTactic
import Derived.BigQuiet
import Derived.Lib.IndexBytes
import Derived.Test.YtopmdeefcjdadaaT43M42
import Derived.Test.YtopmdeefcjdadaaT43M05
import Derived.Test.YtopmdeefcjdadaaT43M10
import Derived.Test.YtopmdeefcjdadaaT43M08
import Derived.Test.YtopmdeefcjdadaaT43M09
import Derived.Test.YtopmdeefcjdadaaT43M43

namespace Go.Proofs.Ytopmdeefcjdadaa
open Go.RowKit
set_option linter.unusedVariables false
set_option linter.unusedSimpArgs false

theorem rowC_get {B n : Nat} {w : World} {v : Value} {xs : List Value} (h : RowC B w v n xs) (hn : 0 < n) : ∃ b off cap, v = .slice (some ⟨b, off, none⟩) n cap ∧ b < B ∧ ∀ W, Below B w W → ∀ j u, xs[j]? = some u → W.cell? ⟨b, off + j, none⟩ = some u := by
  obtain ⟨ao, cap, rfl, h3⟩ := h
  obtain ⟨b, off, rfl, h4, h5⟩ := h3 hn
  exact ⟨b, off, cap, rfl, h4, fun W hb j u hu => (hb.cell (p := ⟨b, off + j, none⟩) h4).trans (h5 j u hu)⟩
theorem kCells_get (l : List (Int × ByteArray)) (i : Nat) (h : i < l.length) : (kCells l)[i * 2]? = some (.int .i64 l[i].1) ∧ (kCells l)[i * 2 + 1]? = some (.string l[i].2) := cells2_get _ _ l i h
theorem rCells_get (l : List (Int × Int)) (i : Nat) (h : i < l.length) : (rCells l)[i * 2]? = some (.int .i64 l[i].1) ∧ (rCells l)[i * 2 + 1]? = some (.int .i64 l[i].2) := cells2_get _ _ l i h
theorem stCells_get (l : List Stp) (i : Nat) (h : i < l.length) : (stCells l)[i * 3]? = some (.int .i64 l[i].lv) ∧ (stCells l)[i * 3 + 1]? = some (.int .i64 l[i].hold) ∧ (stCells l)[i * 3 + 2]? = some (.int .i64 l[i].fade) := cells3_get _ _ _ l i h
set_option maxHeartbeats 2000000 in
theorem keys_index (ao : Option Addr) (cap : Nat) (l : List (Int × ByteArray)) (m : Int) (s : ByteArray) (w : World) (hx : RowC w.heap.size w (.slice ao l.length cap) l.length (kCells l)) (hl : l.length ≤ 1000) :
    Calls Try.prog 64 #[.slice ao l.length cap, .agg #[.int .i64 m, .string s]] w fun e w' => (∃ n : Int, e = .returned (.int .i64 n) ∧ (0 ≤ n ↔ (m, s) ∈ l)) ∧ Below w.heap.size w w' := by
  have HG := Lib.hid (fun (h : 0 < l.length) => rowC_get hx h)
  clear hx
  go_enter Try.func64, Try.ntmps64
  go_wp2_with fail
  go_loopw [8] (fun i wr => ∃ k : Nat, k ≤ l.length ∧ i = .int .i64 k ∧ Hid ((m, s) ∉ l.take k) ∧ Hid (Below (w.heap.size + 1) (w.alloc (.cells #[.int .i64 m, .string s] 47)) wr)) (fun i _ => l.length - (intOf i).toNat)
  case atStart => exact ⟨0, Nat.zero_le _, rfl, Lib.hid (by simp), Lib.hid (Below.refl _ _)⟩
  case round =>
    obtain ⟨k, hk, rfl, HN, HB⟩ := hrel
    have hz := HB.out.size
    simp at hz
    have HW := Lib.hid (show Below w.heap.size w wr from ((Below.refl _ _).alloc (Nat.le_refl _) _).trans (HB.out.mono (by omega)))
    have b0 : wr.cell? ⟨w.heap.size, 0, none⟩ = some (.int .i64 m) := (HB.out.cell (p := ⟨w.heap.size, 0, none⟩) (by simp)).trans (by simp [go_sem])
    have b1 : wr.cell? ⟨w.heap.size, 1, none⟩ = some (.string s) := (HB.out.cell (p := ⟨w.heap.size, 1, none⟩) (by simp)).trans (by simp [go_sem])
    by_cases hlt : k < l.length
    · obtain ⟨b, off, cap', e0, hbb, hc⟩ := HG.out (by omega)
      injection e0 with e1 e2 e3
      subst e1 e3
      obtain ⟨g1, g2⟩ := kCells_get l k hlt
      have d0 := hc wr HW.out _ _ g1
      have d1 := hc wr HW.out (k * 2 + 1) _ g2
      rw [← Nat.add_assoc] at d1
      have hbr := Nat.lt_of_lt_of_le hbb HW.out.size
      have HTK : Hid (l.take (k + 1) = l.take k ++ [l[k]]) := Lib.hid (List.take_succ_eq_append_getElem hlt)
      have HMEM := Lib.hid (List.getElem_mem hlt)
      clear hc g1 g2
      generalize l[k] = y at *
      obtain ⟨y1, y2⟩ := y
      simp only at d0 d1
      by_cases he : m = y1 ∧ s = y2
      · obtain ⟨e1, e2⟩ := he
        subst e1
        subst e2
        have HMM := Lib.hid (show (m, s) ∈ l from HMEM.out)
        clear HMEM HTK
        go_wp2_with fail
        go_quiet (fail)
        go_wp2_with fail
        go_ret
        exact ⟨⟨_, rfl, ⟨fun _ => HMM.out, fun _ => by omega⟩⟩, bel_drewN HW.out _⟩
      · have HNX : Hid ((m, s) ∉ l.take (k + 1)) := Lib.hid (by
          rw [HTK.out]
          intro h
          rcases List.mem_append.1 h with h | h
          · exact HN.out h
          · simp at h; exact he h)
        by_cases h1 : m = y1
        · have h2 : ¬ s.toList = y2.toList := fun h => he ⟨h1, ByteArray.ext (Array.toList_inj.1 (by rw [← Lib.toList_data, ← Lib.toList_data]; exact h))⟩
          have h3 : (s.toList == y2.toList) = false := beq_eq_false_iff_ne.2 h2
          subst h1
          clear he
          go_wp2_with fail
          go_quiet (fail)
          go_wp2_with fail
          go_roundw
          case rel => exact ⟨k + 1, by omega, by go_num, HNX, Lib.hid (bel_drewN HB.out _)⟩
          case measure => simp [intOf]; omega
        · clear he
          go_wp2_with fail
          go_quiet (fail)
          go_wp2_with fail
          go_roundw
          case rel => exact ⟨k + 1, by omega, by go_num, HNX, Lib.hid (bel_drewN HB.out _)⟩
          case measure => simp [intOf]; omega
    · have HF : Hid ((m, s) ∉ l) := Lib.hid (by have := HN.out; rwa [List.take_of_length_le (by omega)] at this)
      go_wp2_with fail
      go_ret
      exact ⟨⟨_, rfl, ⟨fun h => by omega, fun h => absurd h HF.out⟩⟩, HW.out⟩
set_option maxHeartbeats 2000000 in
theorem keys_contains (ao : Option Addr) (cap : Nat) (l : List (Int × ByteArray)) (m : Int) (s : ByteArray) (w : World) (hx : RowC w.heap.size w (.slice ao l.length cap) l.length (kCells l)) (hl : l.length ≤ 1000) :
    Calls Try.prog 23 #[.slice ao l.length cap, .agg #[.int .i64 m, .string s]] w fun e w' => (∃ b : Bool, e = .returned (.bool b) ∧ (b = true ↔ (m, s) ∈ l)) ∧ Below w.heap.size w w' := by
  have CI := Lib.hid (fun W (hb : Below w.heap.size w W) => keys_index ao cap l m s W (by obtain ⟨a, b, c, d⟩ := hx.below hb; exact ⟨a, b, c, fun h => by obtain ⟨e, f, g, h, i⟩ := d h; exact ⟨e, f, g, Nat.lt_of_lt_of_le h hb.size, i⟩⟩) hl)
  clear hx
  go_enter Try.func23, Try.ntmps23
  go_wp2_with fail
  refine (CI.out _ ((Below.refl _ _).alloc (Nat.le_refl _) _)).mono ?_
  rintro e w1 ⟨⟨n, rfl, hn⟩, hb1⟩
  have HB := Lib.hid (show Below w.heap.size w w1 from ((Below.refl _ _).alloc (Nat.le_refl _) _).trans (hb1.mono (by simp)))
  have HN := Lib.hid hn
  clear hb1 hn
  go_wp2_with fail
  go_ret
  exact ⟨⟨_, rfl, by simpa using HN.out⟩, HB.out⟩
set_option maxHeartbeats 2000000 in
theorem keysP_equal (v u : Value) (l : List (Int × ByteArray)) (w : World) (hv : RowC w.heap.size w v l.length (kCells l)) (hu : RowC w.heap.size w u l.length (kCells l)) (hl : l.length ≤ 9223372036854775807) :
    Calls Try.prog 41 #[v, u] w fun e w' => e = .returned (.bool true) ∧ Below w.heap.size w w' := by
  have HX := Lib.hid (fun (h : 0 < l.length) => rowC_get hv h)
  have HY := Lib.hid (fun (h : 0 < l.length) => rowC_get hu h)
  obtain ⟨ao, cap, rfl, _⟩ := hv
  obtain ⟨bo, cap2, rfl, _⟩ := hu
  go_enter Try.func41, Try.ntmps41
  go_wp2
  go_loopw [13] (fun i wr => ∃ k : Nat, k ≤ l.length ∧ i = .int .i64 k ∧ ∃ n, wr = w.drewN n) (fun i _ => l.length - (intOf i).toNat)
  case atStart => exact ⟨0, Nat.zero_le _, rfl, 0, rfl⟩
  case round =>
    obtain ⟨k, hk, rfl, n, rfl⟩ := hrel
    by_cases hlt : k < l.length
    · obtain ⟨b, off, _, e0, hbb, hc⟩ := HX.out (by omega)
      injection e0 with e1 _ e3
      subst e1 e3
      obtain ⟨b', off', _, e0, hbb', hc'⟩ := HY.out (by omega)
      injection e0 with e1 _ e3
      subst e1 e3
      obtain ⟨g1, g2⟩ := kCells_get l k hlt
      have c1 := hc w (Below.refl _ _) _ _ g1
      have c2 := hc w (Below.refl _ _) (k * 2 + 1) _ g2
      have d1 := hc' w (Below.refl _ _) _ _ g1
      have d2 := hc' w (Below.refl _ _) (k * 2 + 1) _ g2
      rw [← Nat.add_assoc] at c2 d2
      clear hc hc' g1 g2
      generalize l[k].1 = z1 at *
      generalize l[k].2 = z2 at *
      go_wp2
      go_quiet (fail)
      go_wp2
      go_roundw
      case rel => exact ⟨k + 1, by omega, by go_num, _, rfl⟩
      case measure => simp [intOf]; omega
    · obtain rfl : k = l.length := by omega
      go_wp2
      go_ret
      exact ⟨rfl, bel_drewN (Below.refl _ _) _⟩
set_option maxHeartbeats 2000000 in
theorem rates_equal (v u : Value) (l : List (Int × Int)) (w : World) (hv : RowC w.heap.size w v l.length (rCells l)) (hu : RowC w.heap.size w u l.length (rCells l)) (hl : l.length ≤ 9223372036854775807) :
    Calls Try.prog 42 #[v, u] w fun e w' => e = .returned (.bool true) ∧ Below w.heap.size w w' := by
  have HX := Lib.hid (fun (h : 0 < l.length) => rowC_get hv h)
  have HY := Lib.hid (fun (h : 0 < l.length) => rowC_get hu h)
  obtain ⟨ao, cap, rfl, _⟩ := hv
  obtain ⟨bo, cap2, rfl, _⟩ := hu
  go_enter Try.func42, Try.ntmps42
  go_wp2
  go_loopw [13] (fun i wr => ∃ k : Nat, k ≤ l.length ∧ i = .int .i64 k ∧ ∃ n, wr = w.drewN n) (fun i _ => l.length - (intOf i).toNat)
  case atStart => exact ⟨0, Nat.zero_le _, rfl, 0, rfl⟩
  case round =>
    obtain ⟨k, hk, rfl, n, rfl⟩ := hrel
    by_cases hlt : k < l.length
    · obtain ⟨b, off, _, e0, hbb, hc⟩ := HX.out (by omega)
      injection e0 with e1 _ e3
      subst e1 e3
      obtain ⟨b', off', _, e0, hbb', hc'⟩ := HY.out (by omega)
      injection e0 with e1 _ e3
      subst e1 e3
      obtain ⟨g1, g2⟩ := rCells_get l k hlt
      have c1 := hc w (Below.refl _ _) _ _ g1
      have c2 := hc w (Below.refl _ _) (k * 2 + 1) _ g2
      have d1 := hc' w (Below.refl _ _) _ _ g1
      have d2 := hc' w (Below.refl _ _) (k * 2 + 1) _ g2
      rw [← Nat.add_assoc] at c2 d2
      clear hc hc' g1 g2
      generalize l[k].1 = z1 at *
      generalize l[k].2 = z2 at *
      go_wp2
      go_quiet (fail)
      go_wp2
      go_roundw
      case rel => exact ⟨k + 1, by omega, by go_num, _, rfl⟩
      case measure => simp [intOf]; omega
    · obtain rfl : k = l.length := by omega
      go_wp2
      go_ret
      exact ⟨rfl, bel_drewN (Below.refl _ _) _⟩
set_option maxHeartbeats 2000000 in
theorem steps_equal (v u : Value) (l : List (Stp)) (w : World) (hv : RowC w.heap.size w v l.length (stCells l)) (hu : RowC w.heap.size w u l.length (stCells l)) (hl : l.length ≤ 9223372036854775807) :
    Calls Try.prog 72 #[v, u] w fun e w' => e = .returned (.bool true) ∧ Below w.heap.size w w' := by
  have HX := Lib.hid (fun (h : 0 < l.length) => rowC_get hv h)
  have HY := Lib.hid (fun (h : 0 < l.length) => rowC_get hu h)
  obtain ⟨ao, cap, rfl, _⟩ := hv
  obtain ⟨bo, cap2, rfl, _⟩ := hu
  go_enter Try.func72, Try.ntmps72
  go_wp2
  go_loopw [13] (fun i wr => ∃ k : Nat, k ≤ l.length ∧ i = .int .i64 k ∧ ∃ n, wr = w.drewN n) (fun i _ => l.length - (intOf i).toNat)
  case atStart => exact ⟨0, Nat.zero_le _, rfl, 0, rfl⟩
  case round =>
    obtain ⟨k, hk, rfl, n, rfl⟩ := hrel
    by_cases hlt : k < l.length
    · obtain ⟨b, off, _, e0, hbb, hc⟩ := HX.out (by omega)
      injection e0 with e1 _ e3
      subst e1 e3
      obtain ⟨b', off', _, e0, hbb', hc'⟩ := HY.out (by omega)
      injection e0 with e1 _ e3
      subst e1 e3
      obtain ⟨g1, g2, g3⟩ := stCells_get l k hlt
      have c1 := hc w (Below.refl _ _) _ _ g1
      have c2 := hc w (Below.refl _ _) (k * 3 + 1) _ g2
      have d1 := hc' w (Below.refl _ _) _ _ g1
      have d2 := hc' w (Below.refl _ _) (k * 3 + 1) _ g2
      rw [← Nat.add_assoc] at c2 d2
      have c3 := hc w (Below.refl _ _) (k * 3 + 2) _ g3
      have d3 := hc' w (Below.refl _ _) (k * 3 + 2) _ g3
      rw [← Nat.add_assoc] at c3 d3
      clear hc hc' g1 g2 g3
      generalize l[k].lv = z1 at *
      generalize l[k].hold = z2 at *
      generalize l[k].fade = z3 at *
      go_wp2
      go_quiet (fail)
      go_wp2
      go_roundw
      case rel => exact ⟨k + 1, by omega, by go_num, _, rfl⟩
      case measure => simp [intOf]; omega
    · obtain rfl : k = l.length := by omega
      go_wp2
      go_ret
      exact ⟨rfl, bel_drewN (Below.refl _ _) _⟩
end Go.Proofs.Ytopmdeefcjdadaa

namespace Go.Proofs.Ytopmdeefcjdadaa
open Go.RowKit
set_option linter.unusedVariables false
set_option linter.unusedSimpArgs false

theorem keyS_rowC {B : Nat} {w : World} {v : Value} {l : List (Int × ByteArray)} (h : KeyS B w v l) : RowC B w v l.length (kCells l) := by
  obtain ⟨ao, cap, rfl, _, _, h3⟩ := h
  exact ⟨ao, cap, rfl, h3⟩
noncomputable def hasKy (su : Int) (sp : ByteArray) (x : Run) : Bool := by classical exact decide ((su, sp) ∈ x.keys)
theorem hasKy_iff {su : Int} {sp : ByteArray} {x : Run} : hasKy su sp x = true ↔ (su, sp) ∈ x.keys := by unfold hasKy; simp
set_option maxRecDepth 100000 in
set_option maxHeartbeats 4000000 in
theorem lawKey_any (form low high cycle width spread start tin tend tout su sv2 : Int) (back rel : Bool) (so ko ro : Option Addr) (sl scap kcap rl rcap : Nat) (keys : List (Int × ByteArray)) (sp : ByteArray) (sb : Nat) (w : World) (hk : KeyS w.heap.size w (.slice ko keys.length kcap) keys) (hl : keys.length ≤ 400) (hS : TBox w sb 49 #[.int .i64 su, .string sp, .int .i64 sv2]) :
    Calls Try.prog 22 #[.agg #[.int .i64 form, .int .i64 low, .int .i64 high, .int .i64 cycle, .int .i64 width, .int .i64 spread, .bool back, .bool rel, .slice so sl scap, .slice ko keys.length kcap, .int .i64 start, .slice ro rl rcap, .int .i64 tin, .int .i64 tend, .int .i64 tout], .pointer (some ⟨sb, 0, none⟩)] w fun e w' => (∃ b : Bool, e = .returned (.bool b) ∧ (b = true ↔ (su, sp) ∈ keys)) ∧ Below w.heap.size w w' := by
  have CK := Lib.hid (fun W (hb : Below w.heap.size w W) => keys_contains ko kcap keys su sp W (keyS_rowC (CellsS.more (CellsS.below hk hb) hb.size)) (by omega))
  have HX := Lib.hid (TBox.new w #[.int .i64 form, .int .i64 low, .int .i64 high, .int .i64 cycle, .int .i64 width, .int .i64 spread, .bool back, .bool rel, .slice so sl scap, .slice ko keys.length kcap, .int .i64 start, .slice ro rl rcap, .int .i64 tin, .int .i64 tend, .int .i64 tout] 28)
  have HB := Lib.hid ((Below.refl w.heap.size w).alloc (Nat.le_refl _) (.cells #[.int .i64 form, .int .i64 low, .int .i64 high, .int .i64 cycle, .int .i64 width, .int .i64 spread, .bool back, .bool rel, .slice so sl scap, .slice ko keys.length kcap, .int .i64 start, .slice ro rl rcap, .int .i64 tin, .int .i64 tend, .int .i64 tout] 28))
  have HSB := Lib.hid (hS.alloc (.cells #[.int .i64 form, .int .i64 low, .int .i64 high, .int .i64 cycle, .int .i64 width, .int .i64 spread, .bool back, .bool rel, .slice so sl scap, .slice ko keys.length kcap, .int .i64 start, .slice ro rl rcap, .int .i64 tin, .int .i64 tend, .int .i64 tout] 28))
  clear hk hS
  go_enter Try.func22, Try.ntmps22
  go_upto_region 1 with fail
  generalize w.alloc (.cells #[.int .i64 form, .int .i64 low, .int .i64 high, .int .i64 cycle, .int .i64 width, .int .i64 spread, .bool back, .bool rel, .slice so sl scap, .slice ko keys.length kcap, .int .i64 start, .slice ro rl rcap, .int .i64 tin, .int .i64 tend, .int .i64 tout] 28) = w1 at *
  have q9 := HX.out.cell (i := 9) rfl
  have ql := HX.out.lt
  have k0 := HSB.out.cell (i := 0) rfl
  have k1 := HSB.out.cell (i := 1) rfl
  have kl := HSB.out.lt
  go_wp2_with fail
  refine (CK.out _ HB.out).mono ?_
  rintro e w2 ⟨⟨b, rfl, hiff⟩, hb⟩
  have HI := Lib.hid hiff
  have HB2 := Lib.hid (HB.out.trans (hb.mono HB.out.size))
  clear hiff hb CK
  go_wp2_with fail
  go_ret
  exact ⟨⟨b, rfl, HI.out⟩, HB2.out⟩
theorem lawKey_call (args : Array Value) (W : World) : Sem.run Try.prog (callFunc 22 args) W = .ok (.enter 22 args) W := by simp [go_sem]
set_option maxRecDepth 100000 in
set_option maxHeartbeats 4000000 in
theorem runs_index (v : Value) (l : List Run) (su sv2 : Int) (sp : ByteArray) (sb : Nat) (w : World) (h : RunsS w.heap.size w v l) (hl : ∀ x ∈ l, x.keys.length ≤ 400) (hS : TBox w sb 49 #[.int .i64 su, .string sp, .int .i64 sv2]) :
    Calls Try.prog 63 #[v, .func (.func 22) #[] #[.pointer (some ⟨sb, 0, none⟩)]] w fun e w' => e = .returned (.int .i64 (idxF (hasKy su sp) l 0)) ∧ Below w.heap.size w w' := by
  have HXG := Lib.hid (RunsS.get h)
  obtain ⟨ao, cap, rfl, hm⟩ := h.shape
  unfold maxLen at hm
  have HLK := Lib.hid hl
  have HSB := Lib.hid hS
  have hcf := lawKey_call
  have HC := Lib.hid (show idxF (hasKy su sp) l 0 = idxF (hasKy su sp) (l.drop 0) 0 by simp)
  generalize idxF (hasKy su sp) l 0 = RES at *
  clear h hl hS
  go_enter Try.func63, Try.ntmps63
  go_wp2_with fail
  go_loopw [8] (fun i wr => ∃ k : Nat, k ≤ l.length ∧ i = .int .i64 k ∧ Hid (RES = idxF (hasKy su sp) (l.drop k) k) ∧ Hid (Below w.heap.size w wr)) (fun i _ => l.length - (intOf i).toNat)
  case atStart => exact ⟨0, Nat.zero_le _, rfl, HC, Lib.hid (Below.refl _ _)⟩
  case round =>
    obtain ⟨k, hk, rfl, HR, HBW⟩ := hrel
    by_cases hlt : k < l.length
    · obtain ⟨b, off, cap', hsl, hbb, hgc⟩ := HXG.out (by omega)
      injection hsl with hs1 hs2 hs3
      subst hs1 hs3
      obtain ⟨sv, kv, rv, hra, hcr⟩ := hgc k hlt
      have hl4 := HLK.out _ (List.getElem_mem hlt)
      obtain ⟨⟨so, scap, rfl, _⟩, ⟨ko, kcap, rfl, hk3⟩, ⟨ro, rcap, rfl, _⟩⟩ := hra
      have hkS : KeyS w.heap.size w (.slice ko l[k].keys.length kcap) l[k].keys := ⟨ko, kcap, rfl, hk3⟩
      have hbr : b < wr.heap.size := by have := HBW.out.size; omega
      have HY := Lib.hid (idxF_yes (hasKy su sp) l k hlt)
      have HN := Lib.hid (idxF_no (hasKy su sp) l k hlt)
      have HT := Lib.hid (hasKy_iff (su := su) (sp := sp) (x := l[k]))
      have CX := Lib.hid (lawKey_any l[k].ef.form l[k].ef.low l[k].ef.high l[k].ef.cycle l[k].ef.width l[k].ef.spread l[k].start l[k].tin l[k].tend l[k].tout su sv2 l[k].ef.back l[k].ef.rel so ko ro l[k].ef.steps.length scap kcap l[k].rates.length rcap l[k].keys sp sb wr (CellsS.more (CellsS.below hkS HBW.out) HBW.out.size) hl4 (HSB.out.below HBW.out))
      have d0 := hcr wr HBW.out 0 _ (by omega) rfl
      have d1 := hcr wr HBW.out 1 _ (by omega) rfl
      have d2 := hcr wr HBW.out 2 _ (by omega) rfl
      have d3 := hcr wr HBW.out 3 _ (by omega) rfl
      have d4 := hcr wr HBW.out 4 _ (by omega) rfl
      have d5 := hcr wr HBW.out 5 _ (by omega) rfl
      have d6 := hcr wr HBW.out 6 _ (by omega) rfl
      have d7 := hcr wr HBW.out 7 _ (by omega) rfl
      have d8 := hcr wr HBW.out 8 _ (by omega) rfl
      have d9 := hcr wr HBW.out 9 _ (by omega) rfl
      have d10 := hcr wr HBW.out 10 _ (by omega) rfl
      have d11 := hcr wr HBW.out 11 _ (by omega) rfl
      have d12 := hcr wr HBW.out 12 _ (by omega) rfl
      have d13 := hcr wr HBW.out 13 _ (by omega) rfl
      have d14 := hcr wr HBW.out 14 _ (by omega) rfl
      simp only [Nat.add_zero] at d0
      clear hgc hcr hkS hk3 hl4
      generalize hasKy su sp l[k] = T at *
      generalize hrk : l[k] = rk at *
      clear hrk
      obtain ⟨⟨form, low, high, cycle, width, spread, back, rel, st⟩, keys, start, rates, tin, tend, tout⟩ := rk
      simp only at *
      go_wp2_with fail
      refine CX.out.mono ?_
      rintro e w1 ⟨⟨bb, rfl, hiff⟩, hb1⟩
      have HB2 := Lib.hid (HBW.out.trans (hb1.mono HBW.out.size))
      obtain rfl : bb = T := by
        have h1 := HT.out
        cases bb <;> cases T <;> simp_all
      clear hb1 hiff CX d0 d1 d2 d3 d4 d5 d6 d7 d8 d9 d10 d11 d12 d13 d14
      cases bb
      · have HV := Lib.hid (HR.out.trans (HN.out rfl))
        go_wp2_with fail
        go_roundw
        case rel => exact ⟨k + 1, by omega, by first | rfl | go_num, HV, HB2⟩
        case measure => simp [intOf]; omega
      · have HV := Lib.hid (HR.out.trans (HY.out rfl))
        go_wp2_with fail
        go_ret
        exact ⟨by rw [HV.out] <;> rfl, HB2.out⟩
    · have HV := Lib.hid (show RES = -1 by rw [HR.out, idxF_end _ l k (by omega)])
      have hkk : k = l.length := by omega
      subst hkk
      go_wp2_with fail
      go_ret
      exact ⟨by rw [HV.out] <;> rfl, HBW.out⟩
set_option maxHeartbeats 1000000 in
theorem runs_has (ao : Option Addr) (cap : Nat) (l : List Run) (su sv2 : Int) (sp : ByteArray) (sb : Nat) (w : World) (h : RunsS w.heap.size w (.slice ao l.length cap) l) (hl : ∀ x ∈ l, x.keys.length ≤ 400) (hS : TBox w sb 49 #[.int .i64 su, .string sp, .int .i64 sv2]) :
    Calls Try.prog 21 #[.slice ao l.length cap, .func (.func 22) #[] #[.pointer (some ⟨sb, 0, none⟩)]] w fun e w' => (∃ b : Bool, e = .returned (.bool b) ∧ (b = false → ∀ x ∈ l, (su, sp) ∉ x.keys)) ∧ Below w.heap.size w w' := by
  have CI := Lib.hid (runs_index _ l su sv2 sp sb w h hl hS)
  have HI := Lib.hid (idxF_spec (hasKy su sp) l)
  generalize idxF (hasKy su sp) l 0 = R at *
  clear h hl hS
  go_enter Try.func21, Try.ntmps21
  go_wp2_with fail
  refine CI.out.mono ?_
  rintro e w2 ⟨rfl, hb⟩
  have HB := Lib.hid hb
  clear hb CI
  go_wp2_with fail
  go_ret
  refine ⟨⟨_, rfl, fun hf x hx hin => ?_⟩, HB.out⟩
  rcases HI.out with ⟨h1, h2⟩ | ⟨k, hk, h1, _⟩
  · rw [List.find?_eq_none] at h2
    exact h2 x hx (hasKy_iff.2 hin)
  · rw [h1] at hf
    simp at hf
end Go.Proofs.Ytopmdeefcjdadaa

namespace Go.Proofs.Ytopmdeefcjdadaa
open Go.RowKit
set_option linter.unusedVariables false
set_option linter.unusedSimpArgs false

theorem bel_drewS {B : Nat} {a b : World} (h : Below B a b) (n : Nat) : Below B a (b.drewN n) := bel_drewF h n
set_option maxRecDepth 100000 in
set_option maxHeartbeats 4000000 in
theorem stgs_index (ao : Option Addr) (cap : Nat) (l : List Stg) (t : Stg) (w : World) (hx : StgS w.heap.size w (.slice ao l.length cap) l) :
    Calls Try.prog 65 #[.slice ao l.length cap, .agg #[.int .i64 t.unit, .string t.par, .int .i64 t.lv]] w fun e w' => (∃ n : Int, e = .returned (.int .i64 n) ∧ (0 ≤ n ↔ t ∈ l)) ∧ Below w.heap.size w w' := by
  have HG := Lib.hid (StgS.get hx)
  have hl : l.length ≤ 9223372036854775807 := by
    have h := CellsS.len hx
    unfold maxLen at h
    omega
  obtain ⟨m, s, v⟩ := t
  simp only
  clear hx
  go_enter Try.func65, Try.ntmps65
  go_wp2_with fail
  go_loopw [8] (fun i wr => ∃ k : Nat, k ≤ l.length ∧ i = .int .i64 k ∧ Hid ((⟨m, s, v⟩ : Stg) ∉ l.take k) ∧ Hid (Below (w.heap.size + 1) (w.alloc (.cells #[.int .i64 m, .string s, .int .i64 v] 49)) wr)) (fun i _ => l.length - (intOf i).toNat)
  case atStart => exact ⟨0, Nat.zero_le _, rfl, Lib.hid (by simp), Lib.hid (Below.refl _ _)⟩
  case round =>
    obtain ⟨k, hk, rfl, HN, HB⟩ := hrel
    have hz := HB.out.size
    simp at hz
    have HW := Lib.hid (show Below w.heap.size w wr from ((Below.refl _ _).alloc (Nat.le_refl _) _).trans (HB.out.mono (by omega)))
    have b0 : wr.cell? ⟨w.heap.size, 0, none⟩ = some (.int .i64 m) := (HB.out.cell (p := ⟨w.heap.size, 0, none⟩) (by simp)).trans (by simp [go_sem])
    have b1 : wr.cell? ⟨w.heap.size, 1, none⟩ = some (.string s) := (HB.out.cell (p := ⟨w.heap.size, 1, none⟩) (by simp)).trans (by simp [go_sem])
    have b2 : wr.cell? ⟨w.heap.size, 2, none⟩ = some (.int .i64 v) := (HB.out.cell (p := ⟨w.heap.size, 2, none⟩) (by simp)).trans (by simp [go_sem])
    by_cases hlt : k < l.length
    · obtain ⟨b, off, cap', e0, hbb, _, hc⟩ := HG.out (by omega)
      injection e0 with e1 e2 e3
      subst e1 e3
      obtain ⟨d0, d1, d2⟩ := hc k hlt wr HW.out
      have hbr := Nat.lt_of_lt_of_le hbb HW.out.size
      have HTK : Hid (l.take (k + 1) = l.take k ++ [l[k]]) := Lib.hid (List.take_succ_eq_append_getElem hlt)
      have HMEM := Lib.hid (List.getElem_mem hlt)
      clear hc
      generalize l[k] = y at *
      obtain ⟨y1, y2, y3⟩ := y
      simp only at d0 d1 d2
      by_cases he : m = y1 ∧ s = y2 ∧ v = y3
      · obtain ⟨e1, e2, e3⟩ := he
        subst e1
        subst e2
        subst e3
        have HMM := Lib.hid (show (⟨m, s, v⟩ : Stg) ∈ l from HMEM.out)
        clear HMEM HTK
        go_wp2_with fail
        go_quiet (fail)
        go_wp2_with fail
        go_ret
        exact ⟨⟨_, rfl, ⟨fun _ => HMM.out, fun _ => by omega⟩⟩, bel_drewS HW.out _⟩
      · have HNX : Hid ((⟨m, s, v⟩ : Stg) ∉ l.take (k + 1)) := Lib.hid (by
          rw [HTK.out]
          intro h
          rcases List.mem_append.1 h with h | h
          · exact HN.out h
          · simp at h; exact he h)
        by_cases h1 : m = y1
        rotate_left
        · clear he
          go_wp2_with fail
          go_quiet (fail)
          go_wp2_with fail
          go_roundw
          case rel => exact ⟨k + 1, by omega, by go_num, HNX, Lib.hid (bel_drewS HB.out _)⟩
          case measure => simp [intOf]; omega
        subst h1
        by_cases h2 : s = y2
        rotate_left
        · have h2 : ¬ s.toList = y2.toList := fun h => h2 (ByteArray.ext (Array.toList_inj.1 (by rw [← Lib.toList_data, ← Lib.toList_data]; exact h)))
          have h3 : (s.toList == y2.toList) = false := beq_eq_false_iff_ne.2 h2
          clear he
          go_wp2_with fail
          go_quiet (fail)
          go_wp2_with fail
          go_roundw
          case rel => exact ⟨k + 1, by omega, by go_num, HNX, Lib.hid (bel_drewS HB.out _)⟩
          case measure => simp [intOf]; omega
        subst h2
        have h3 : ¬ v = y3 := fun h => he ⟨rfl, rfl, h⟩
        clear he
        go_wp2_with fail
        go_quiet (fail)
        go_wp2_with fail
        go_roundw
        case rel => exact ⟨k + 1, by omega, by go_num, HNX, Lib.hid (bel_drewS HB.out _)⟩
        case measure => simp [intOf]; omega
    · have HF : Hid ((⟨m, s, v⟩ : Stg) ∉ l) := Lib.hid (by have := HN.out; rwa [List.take_of_length_le (by omega)] at this)
      go_wp2_with fail
      go_ret
      exact ⟨⟨_, rfl, ⟨fun h => by omega, fun h => absurd h HF.out⟩⟩, HW.out⟩
set_option maxHeartbeats 2000000 in
theorem stgs_contains (ao : Option Addr) (cap : Nat) (l : List Stg) (t : Stg) (w : World) (hx : StgS w.heap.size w (.slice ao l.length cap) l) :
    Calls Try.prog 24 #[.slice ao l.length cap, .agg #[.int .i64 t.unit, .string t.par, .int .i64 t.lv]] w fun e w' => (∃ b : Bool, e = .returned (.bool b) ∧ (b = true ↔ t ∈ l)) ∧ Below w.heap.size w w' := by
  have CI := Lib.hid (fun W (hb : Below w.heap.size w W) => stgs_index ao cap l t W ((hx.below hb).more hb.size))
  clear hx
  go_enter Try.func24, Try.ntmps24
  go_wp2_with fail
  refine (CI.out _ ((Below.refl _ _).alloc (Nat.le_refl _) _)).mono ?_
  rintro e w1 ⟨⟨n, rfl, hn⟩, hb1⟩
  have HB := Lib.hid (show Below w.heap.size w w1 from ((Below.refl _ _).alloc (Nat.le_refl _) _).trans (hb1.mono (by simp)))
  have HN := Lib.hid hn
  clear hb1 hn
  go_wp2_with fail
  go_ret
  exact ⟨⟨_, rfl, by simpa using HN.out⟩, HB.out⟩
end Go.Proofs.Ytopmdeefcjdadaa

namespace Go.Proofs.Ytopmdeefcjdadaa.effectsLeaveOtherKeys
open Go.RowKit
set_option linter.unusedVariables false
set_option linter.unusedSimpArgs false

set_option maxRecDepth 100000 in
set_option maxHeartbeats 16000000 in
theorem walk (v0 v1 v2 : Value) (t : Int) (w : World) (h0 : RigW w v0) (h1 : RunsW w v1) (h2 : StgW w v2) (g3 : (Lit.int .i64 t).wf = true) :
    Calls Try.prog 8 #[v0, v1, v2, .int .i64 t] w fun e w' => e = .returned (.bool true) ∧ Below w.heap.size w w' := by
  obtain ⟨r, lv, uv, rfl, h, hrf⟩ := h0
  obtain ⟨xs, hX, hXf⟩ := h1
  obtain ⟨l, hS, hSf⟩ := h2
  have CA := Lib.hid (fun W (hb : Below w.heap.size w W) => Apply_any r lv uv xs v1 l v2 t W ((h.below hb).more hb.size) hrf ((hX.below hb).more hb.size) hXf ((hS.below hb).more hb.size) hSf)
  have CN := Lib.hid (fun W (hb : Below w.heap.size w W) => Apply_any r lv uv [] (.slice none 0 0) l v2 t W ((h.below hb).more hb.size) hrf (RunsS.nil _ _) (by simp) ((hS.below hb).more hb.size) hSf)
  have HG := Lib.hid (StgS.get hS)
  have hml := CellsS.len hS
  unfold maxLen at hml
  have HSS := Lib.hid (fun W (hb : Below w.heap.size w W) => (hS.below hb).more hb.size)
  have HXX := Lib.hid (fun W (hb : Below w.heap.size w W) => (hX.below hb).more hb.size)
  have HV0 := Lib.hid (show aplF r xs l t ≠ 0 → aplV r xs l t = [] from fun h => by unfold aplV; rw [if_neg h])
  have HL1 := Lib.hid (show aplF r xs l t = 0 → l.length ≤ (aplV r xs l t).length from fun h => by unfold aplV; rw [if_pos h]; exact applyL_len r t xs l)
  have HMM := Lib.hid (show aplF r xs l t = 0 → ∀ s ∈ l, (∀ x ∈ xs, s.k ∉ x.keys) → s ∈ aplV r xs l t from fun h s hs hx => by unfold aplV; rw [if_pos h]; exact applyL_mem r t xs l hs hx)
  have HNF := Lib.hid (show aplF r xs l t = 0 → aplF r [] l t = 0 ∧ aplV r [] l t = l from fun h => ⟨aplF_none h, by unfold aplV; rw [if_pos (aplF_none h)]; rfl⟩)
  have HKL := Lib.hid (show aplF r xs l t = 0 → ∀ x ∈ xs, x.keys.length ≤ 400 from fun h x hx => (chkRunR_zero (runsF_zero (aplF_zero h).2.2.1 x hx)).2.1.2)
  generalize aplF r xs l t = FF at *
  generalize aplV r xs l t = VV at *
  obtain ⟨xo, xcap, rfl, hxm⟩ := hX.shape
  unfold maxLen at hxm
  obtain ⟨uo, ucap, rfl, _⟩ := CellsS.shape h.units
  obtain ⟨lo, lcap, rfl⟩ := prfS_shape h.lib
  obtain ⟨bo, bcap, rfl, _⟩ := CellsS.shape hS
  generalize r.lib.length = ll at *
  generalize r.units.length = ul at *
  clear h hrf hX hXf hS hSf g3
  unfold rigV at *
  have HG1 := Lib.hid (TBox.new w #[.slice lo ll lcap, .slice uo ul ucap] 42)
  have HB1 := Lib.hid ((Below.refl w.heap.size w).alloc (Nat.le_refl _) (.cells #[.slice lo ll lcap, .slice uo ul ucap] 42))
  go_enter Try.func8, Try.ntmps8
  go_upto_region 1 with fail
  generalize w.alloc (.cells #[.slice lo ll lcap, .slice uo ul ucap] 42) = w1 at *
  have q0 := HG1.out.cell (i := 0) rfl
  have q1 := HG1.out.cell (i := 1) rfl
  have ql := HG1.out.lt
  go_wp2_with fail
  refine (CA.out _ HB1.out).mono ?_
  rintro e w2 ⟨v, rfl, hO, hb⟩
  have HG2 := Lib.hid (HG1.out.below hb)
  have HB2 := Lib.hid (HB1.out.trans (hb.mono HB1.out.size))
  have HST := Lib.hid (show StgS w2.heap.size w2 v VV from CellsS.of_own hO)
  obtain ⟨vo, vcap, rfl⟩ := OwnS.shape hO
  clear hO hb CA HG1 HB1 q0 q1 ql
  by_cases hff : FF = 0
  rotate_left
  · have HVV := HV0.out hff
    subst HVV
    have hnb : (FF != 0) = true := by simp [hff]
    clear HL1 HMM HNF HKL CN
    go_wp2_with fail
    go_ret
    exact ⟨by simp, HB2.out⟩
  · obtain ⟨hn1, hn2⟩ := HNF.out hff
    rw [hn1, hn2] at CN
    have HMY := Lib.hid (HMM.out hff)
    have HKY := Lib.hid (HKL.out hff)
    have HLY := Lib.hid (HL1.out hff)
    have CC := Lib.hid (fun (s : Stg) W (hb : Below w2.heap.size w2 W) => stgs_contains vo vcap VV s W ((HST.out.below hb).more hb.size))
    subst hff
    clear HV0 HL1 HMM HNF HKL hn1 hn2
    go_wp2_with fail
    go_loopw [30] (fun i wx => ∃ k : Nat, k ≤ l.length ∧ i = .int .i64 k ∧ Hid (Below w2.heap.size w2 wx)) (fun i _ => l.length - (intOf i).toNat)
    case atStart => exact ⟨0, Nat.zero_le _, rfl, Lib.hid (Below.refl _ _)⟩
    case round =>
      obtain ⟨k, hk, rfl, HB⟩ := hrel
      have HBR := Lib.hid (HB2.out.trans (HB.out.mono HB2.out.size))
      by_cases hlt : k < l.length
      · obtain ⟨b, off, cap', hsl, hbb, _, hc⟩ := HG.out (by omega)
        injection hsl with hs1 hs2 hs3
        subst hs1 hs3
        obtain ⟨d0, d1, d2⟩ := hc k hlt wr HBR.out
        have hbr : b < wr.heap.size := by have := HBR.out.size; omega
        have HMK := Lib.hid (HMY.out _ (List.getElem_mem hlt))
        have CX := Lib.hid (CC.out l[k])
        have hkv : l[k].k = (l[k].unit, l[k].par) := rfl
        rw [hkv] at HMK
        clear hc hkv
        generalize hrk : l[k] = rk at *
        clear hrk
        obtain ⟨su, sp, sv2⟩ := rk
        simp only at *
        have HSB := Lib.hid (TBox.new wr #[.int .i64 su, .string sp, .int .i64 sv2] 49)
        have HBA := Lib.hid (HB.out.alloc HB.out.size (.cells #[.int .i64 su, .string sp, .int .i64 sv2] 49))
        have HBW := Lib.hid (HBR.out.alloc HBR.out.size (.cells #[.int .i64 su, .string sp, .int .i64 sv2] 49))
        have CF := Lib.hid (runs_has xo xcap xs su sv2 sp wr.heap.size _ (HXX.out _ HBW.out) HKY.out HSB.out)
        go_upto_region 7 with fail
        clear d0 d1 d2
        generalize wr.alloc (.cells #[.int .i64 su, .string sp, .int .i64 sv2] 49) = wa at *
        go_wp2_with fail
        refine CF.out.mono ?_
        rintro e w4 ⟨⟨bb, rfl, hbf⟩, hb⟩
        have HSC := Lib.hid (HSB.out.below hb)
        have HBC := Lib.hid (HBA.out.trans (hb.mono HBA.out.size))
        have HBF := Lib.hid hbf
        clear hb hbf CF HSB HBA HBW
        have k0 := HSC.out.cell (i := 0) rfl
        have k1 := HSC.out.cell (i := 1) rfl
        have k2 := HSC.out.cell (i := 2) rfl
        have kl := HSC.out.lt
        cases bb
        · have HIN := Lib.hid (HMK.out (HBF.out rfl))
          have CY := Lib.hid (CX.out w4 HBC.out)
          go_wp2_with fail
          refine CY.out.mono ?_
          rintro e w5 ⟨⟨b2, rfl, hiff⟩, hb⟩
          obtain rfl : b2 = true := hiff.2 HIN.out
          have HBD := Lib.hid (HBC.out.trans (hb.mono HBC.out.size))
          clear hb hiff CY
          go_wp2_with fail
          go_roundw
          case rel => exact ⟨k + 1, by omega, by first | rfl | go_num, HBD⟩
          case measure => simp [intOf]; omega
        · go_wp2_with fail
          go_roundw
          case rel => exact ⟨k + 1, by omega, by first | rfl | go_num, HBC⟩
          case measure => simp [intOf]; omega
      · have HGR := Lib.hid (HG2.out.below HB.out)
        have q0 := HGR.out.cell (i := 0) rfl
        have q1 := HGR.out.cell (i := 1) rfl
        have ql := HGR.out.lt
        have CNX := Lib.hid (CN.out wr HBR.out)
        go_upto_region 11 with fail
        clear hk hlt
        go_wp2_with fail
        refine CNX.out.mono ?_
        rintro e w5 ⟨v2, rfl, hO, hb⟩
        have HBE := Lib.hid (HBR.out.trans (hb.mono HBR.out.size))
        have CE := Lib.hid (settings_equal v2 (.slice bo l.length bcap) l w5 (CellsS.of_own hO) (HSS.out w5 HBE.out))
        obtain ⟨vo2, vcap2, rfl⟩ := OwnS.shape hO
        clear hO hb CNX CN q0 q1 ql
        go_wp2_with fail
        refine CE.out.mono ?_
        rintro e w6 ⟨rfl, hb⟩
        have HBF := Lib.hid (HBE.out.trans (hb.mono HBE.out.size))
        have hge : decide ((VV.length : Int) ≥ (l.length : Int)) = true := by have := HLY.out; simp; omega
        clear hb CE
        go_wp2_with fail
        go_ret
        exact ⟨by first | rfl | simpa using hge, HBF.out⟩
end Go.Proofs.Ytopmdeefcjdadaa.effectsLeaveOtherKeys
