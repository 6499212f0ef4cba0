/- slices.Equal at alike bytes; sameFrame, sameFrames at alike frames. (printed by wip/gen/gen_frmback.py) slices.Index and Contains at settings. (printed by wip/gen/gen_frmback.py) -/
import Derived.Test.YtabalicembhjmaaT32M18
import Derived.Test.YtabalicembhjmaaT32M37
import Derived.Deep.QuietTactic
import Derived.BigQuiet
import Derived.Lib.IndexBytes

namespace Go.Proofs.Ytabalicembhjmaa
open Go.RowKit
set_option linter.unusedVariables false
set_option linter.unusedSimpArgs false

set_option maxHeartbeats 2000000 in
theorem bytes_same (v u : Value) (l : List Int) (w : World) (hv : BytS w.heap.size w v l) (hu : BytS w.heap.size w u l) :
    Calls Try.prog 74 #[v, u] w fun e w' => e = .returned (.bool true) ∧ Below w.heap.size w w' := by
  have HX := Lib.hid (BytS.get hv)
  have HY := Lib.hid (BytS.get hu)
  have hl := bytS_len hv
  obtain ⟨ao, cap, rfl⟩ := bytS_shape hv
  obtain ⟨bo, cap2, rfl⟩ := bytS_shape hu
  clear hv hu
  go_enter Try.func74, Try.ntmps74
  go_wp2
  go_loopw [13] (fun i wr => ∃ k : Nat, k ≤ l.length ∧ i = .int .i64 k ∧ ∃ n, wr = w.drewN n) (fun i _ => l.length - (intOf i).toNat)
  case atStart => exact ⟨0, Nat.zero_le _, rfl, 0, rfl⟩
  case round =>
    obtain ⟨k, hk, rfl, n, rfl⟩ := hrel
    by_cases hlt : k < l.length
    · obtain ⟨b, off, _, e0, hbb, _, hc⟩ := HX.out (by omega)
      injection e0 with e1 _ e3
      subst e1 e3
      obtain ⟨b', off', _, e0, hbb', _, hc'⟩ := HY.out (by omega)
      injection e0 with e1 _ e3
      subst e1 e3
      have c0 := hc k hlt w (Below.refl _ _)
      have d0 := hc' k hlt w (Below.refl _ _)
      clear hc hc' HX HY
      generalize l[k] = z0 at *
      go_wp2
      go_quiet (fail)
      go_wp2
      go_roundw
      case rel => exact ⟨k + 1, by omega, by go_num, _, rfl⟩
      case measure => simp [intOf]; omega
    · obtain rfl : k = l.length := by omega
      go_wp2
      go_ret
      exact ⟨rfl, bel_drewF (Below.refl _ _) _⟩
set_option maxRecDepth 100000 in
set_option maxHeartbeats 2000000 in
theorem sameFrame_any (x : Frm) (v u : Value) (w : World) (hv : BytS w.heap.size w v x.sl) (hu : BytS w.heap.size w u x.sl) :
    Calls Try.prog 39 #[.agg #[.int .i64 x.univ, v], .agg #[.int .i64 x.univ, u]] w fun e w' => e = .returned (.bool true) ∧ Below w.heap.size w w' := by
  have CE := Lib.hid (fun W (hb : Below w.heap.size w W) => bytes_same v u x.sl W ((hv.below hb).more hb.size) ((hu.below hb).more hb.size))
  obtain ⟨fu, fl⟩ := x
  simp only at *
  obtain ⟨vo, vcap, rfl⟩ := bytS_shape hv
  obtain ⟨uo, ucap, rfl⟩ := bytS_shape hu
  clear hv hu
  have hB2 : Below w.heap.size w ((w.alloc (.cells #[.int .i64 fu, .slice vo fl.length vcap] 64)).alloc (.cells #[.int .i64 fu, .slice uo fl.length ucap] 64)) := ((Below.refl _ _).alloc (Nat.le_refl _) _).alloc (by simp) _
  have CE1 := Lib.hid (CE.out _ hB2)
  have HB2 := Lib.hid hB2
  clear CE hB2
  go_enter Try.func39, Try.ntmps39
  go_wp2_with fail
  refine CE1.out.mono ?_
  rintro e w1 ⟨rfl, hb⟩
  have HB := Lib.hid (HB2.out.trans (hb.mono HB2.out.size))
  clear hb CE1
  go_wp2_with fail
  go_ret
  exact ⟨by simp, HB.out⟩
theorem sameFrame_call (args : Array Value) (W : World) : Sem.run Try.prog (callFunc 39 args) W = .ok (.enter 39 args) W := by simp [go_sem]
set_option maxRecDepth 100000 in
set_option maxHeartbeats 4000000 in
theorem frames_same (v u : Value) (l : List Frm) (w : World) (hv : FrmS w.heap.size w v l) (hu : FrmS w.heap.size w u l) :
    Calls Try.prog 38 #[v, u, .func (.func 39) #[] #[]] w fun e w' => e = .returned (.bool true) ∧ Below w.heap.size w w' := by
  have HX := Lib.hid (FrmS.get hv)
  have HY := Lib.hid (FrmS.get hu)
  obtain ⟨ao, cap, rfl⟩ := frmS_shape hv
  obtain ⟨bo, cap2, rfl⟩ := frmS_shape hu
  have hl := frmS_len hv
  have hcf := sameFrame_call
  clear hv hu
  go_enter Try.func38, Try.ntmps38
  go_wp2_with fail
  go_loopw [17] (fun i wx => ∃ k : Nat, k ≤ l.length ∧ i = .int .i64 k ∧ Hid (Below w.heap.size w wx)) (fun i _ => l.length - (intOf i).toNat)
  case atStart => exact ⟨0, Nat.zero_le _, rfl, Lib.hid (Below.refl _ _)⟩
  case round =>
    obtain ⟨k, hk, rfl, HBW⟩ := hrel
    have hzr := HBW.out.size
    by_cases hlt : k < l.length
    · obtain ⟨b, off, _, e0, hbb, _, hc⟩ := HX.out (by omega)
      injection e0 with e1 _ e3
      subst e1 e3
      obtain ⟨b', off', _, e0, hbb', _, hc'⟩ := HY.out (by omega)
      injection e0 with e1 _ e3
      subst e1 e3
      obtain ⟨rv, hrv, hcc⟩ := hc k hlt
      obtain ⟨sv, hsv, hcc'⟩ := hc' k hlt
      obtain ⟨c0, c1⟩ := hcc wr HBW.out
      obtain ⟨d0, d1⟩ := hcc' wr HBW.out
      have hbr : b < wr.heap.size := by omega
      have hbr' : b' < wr.heap.size := by omega
      obtain ⟨ro, rcap, rfl⟩ := bytS_shape hrv
      obtain ⟨so, scap, rfl⟩ := bytS_shape hsv
      have CS := Lib.hid (fun W (hb : Below w.heap.size w W) => sameFrame_any l[k] _ _ W ((hrv.below hb).more hb.size) ((hsv.below hb).more hb.size))
      clear hc hc' hcc hcc' hrv hsv
      generalize hrk : l[k] = rk at *
      clear hrk
      obtain ⟨fu, fl⟩ := rk
      simp only at *
      have HBX := Lib.hid ((HBW.out.alloc hzr (.cells #[.int .i64 fu, .slice ro fl.length rcap] 64)).alloc (by simp; omega) (.cells #[.int .i64 fu, .slice so fl.length scap] 64))
      have CX := Lib.hid (CS.out _ HBX.out)
      clear CS
      go_wp2_with fail
      refine CX.out.mono ?_
      rintro e w1 ⟨rfl, hb⟩
      have HB1 := Lib.hid (HBX.out.trans (hb.mono HBX.out.size))
      clear hb CX
      go_wp2_with fail
      go_roundw
      case rel => exact ⟨k + 1, by omega, by go_num, HB1⟩
      case measure => simp [intOf]; omega
    · obtain rfl : k = l.length := by omega
      go_wp2_with fail
      go_ret
      exact ⟨rfl, HBW.out⟩
set_option maxHeartbeats 2000000 in
theorem sameFrames_any (v u : Value) (l : List Frm) (w : World) (hv : FrmS w.heap.size w v l) (hu : FrmS w.heap.size w u l) :
    Calls Try.prog 14 #[v, u] w fun e w' => e = .returned (.bool true) ∧ Below w.heap.size w w' := by
  have CE := Lib.hid (frames_same v u l w hv hu)
  obtain ⟨ao, cap, rfl⟩ := frmS_shape hv
  obtain ⟨bo, cap2, rfl⟩ := frmS_shape hu
  clear hv hu
  go_enter Try.func14, Try.ntmps14
  go_wp2_with fail
  refine CE.out.mono ?_
  rintro e w1 ⟨rfl, hb⟩
  have HB := Lib.hid hb
  clear hb CE
  go_wp2_with fail
  go_ret
  exact ⟨by simp, HB.out⟩
end Go.Proofs.Ytabalicembhjmaa

namespace Go.Proofs.Ytabalicembhjmaa
open Go.RowKit
set_option linter.unusedVariables false
set_option linter.unusedSimpArgs false

theorem bel_drewS {B : Nat} {a b : World} (h : Below B a b) (n : Nat) : Below B a (b.drewN n) := bel_drewF h n
set_option maxRecDepth 100000 in
set_option maxHeartbeats 4000000 in
theorem stgs_index (ao : Option Addr) (cap : Nat) (l : List Stg) (t : Stg) (w : World) (hx : StgS w.heap.size w (.slice ao l.length cap) l) :
    Calls Try.prog 42 #[.slice ao l.length cap, .agg #[.int .i64 t.unit, .string t.par, .int .i64 t.lv]] w fun e w' => (∃ n : Int, e = .returned (.int .i64 n) ∧ (0 ≤ n ↔ t ∈ l)) ∧ Below w.heap.size w w' := by
  have HG := Lib.hid (StgS.get hx)
  have hl : l.length ≤ 9223372036854775807 := by
    have h := CellsS.len hx
    unfold maxLen at h
    omega
  obtain ⟨m, s, v⟩ := t
  simp only
  clear hx
  go_enter Try.func42, Try.ntmps42
  go_wp2_with fail
  go_loopw [8] (fun i wr => ∃ k : Nat, k ≤ l.length ∧ i = .int .i64 k ∧ Hid ((⟨m, s, v⟩ : Stg) ∉ l.take k) ∧ Hid (Below (w.heap.size + 1) (w.alloc (.cells #[.int .i64 m, .string s, .int .i64 v] 35)) wr)) (fun i _ => l.length - (intOf i).toNat)
  case atStart => exact ⟨0, Nat.zero_le _, rfl, Lib.hid (by simp), Lib.hid (Below.refl _ _)⟩
  case round =>
    obtain ⟨k, hk, rfl, HN, HB⟩ := hrel
    have hz := HB.out.size
    simp at hz
    have HW := Lib.hid (show Below w.heap.size w wr from ((Below.refl _ _).alloc (Nat.le_refl _) _).trans (HB.out.mono (by omega)))
    have b0 : wr.cell? ⟨w.heap.size, 0, none⟩ = some (.int .i64 m) := (HB.out.cell (p := ⟨w.heap.size, 0, none⟩) (by simp)).trans (by simp [go_sem])
    have b1 : wr.cell? ⟨w.heap.size, 1, none⟩ = some (.string s) := (HB.out.cell (p := ⟨w.heap.size, 1, none⟩) (by simp)).trans (by simp [go_sem])
    have b2 : wr.cell? ⟨w.heap.size, 2, none⟩ = some (.int .i64 v) := (HB.out.cell (p := ⟨w.heap.size, 2, none⟩) (by simp)).trans (by simp [go_sem])
    by_cases hlt : k < l.length
    · obtain ⟨b, off, cap', e0, hbb, _, hc⟩ := HG.out (by omega)
      injection e0 with e1 e2 e3
      subst e1 e3
      obtain ⟨d0, d1, d2⟩ := hc k hlt wr HW.out
      have hbr := Nat.lt_of_lt_of_le hbb HW.out.size
      have HTK : Hid (l.take (k + 1) = l.take k ++ [l[k]]) := Lib.hid (List.take_succ_eq_append_getElem hlt)
      have HMEM := Lib.hid (List.getElem_mem hlt)
      clear hc
      generalize l[k] = y at *
      obtain ⟨y1, y2, y3⟩ := y
      simp only at d0 d1 d2
      by_cases he : m = y1 ∧ s = y2 ∧ v = y3
      · obtain ⟨e1, e2, e3⟩ := he
        subst e1
        subst e2
        subst e3
        have HMM := Lib.hid (show (⟨m, s, v⟩ : Stg) ∈ l from HMEM.out)
        clear HMEM HTK
        go_wp2_with fail
        go_quiet (fail)
        go_wp2_with fail
        go_ret
        exact ⟨⟨_, rfl, ⟨fun _ => HMM.out, fun _ => by omega⟩⟩, bel_drewS HW.out _⟩
      · have HNX : Hid ((⟨m, s, v⟩ : Stg) ∉ l.take (k + 1)) := Lib.hid (by
          rw [HTK.out]
          intro h
          rcases List.mem_append.1 h with h | h
          · exact HN.out h
          · simp at h; exact he h)
        by_cases h1 : m = y1
        rotate_left
        · clear he
          go_wp2_with fail
          go_quiet (fail)
          go_wp2_with fail
          go_roundw
          case rel => exact ⟨k + 1, by omega, by go_num, HNX, Lib.hid (bel_drewS HB.out _)⟩
          case measure => simp [intOf]; omega
        subst h1
        by_cases h2 : s = y2
        rotate_left
        · have h2 : ¬ s.toList = y2.toList := fun h => h2 (ByteArray.ext (Array.toList_inj.1 (by rw [← Lib.toList_data, ← Lib.toList_data]; exact h)))
          have h3 : (s.toList == y2.toList) = false := beq_eq_false_iff_ne.2 h2
          clear he
          go_wp2_with fail
          go_quiet (fail)
          go_wp2_with fail
          go_roundw
          case rel => exact ⟨k + 1, by omega, by go_num, HNX, Lib.hid (bel_drewS HB.out _)⟩
          case measure => simp [intOf]; omega
        subst h2
        have h3 : ¬ v = y3 := fun h => he ⟨rfl, rfl, h⟩
        clear he
        go_wp2_with fail
        go_quiet (fail)
        go_wp2_with fail
        go_roundw
        case rel => exact ⟨k + 1, by omega, by go_num, HNX, Lib.hid (bel_drewS HB.out _)⟩
        case measure => simp [intOf]; omega
    · have HF : Hid ((⟨m, s, v⟩ : Stg) ∉ l) := Lib.hid (by have := HN.out; rwa [List.take_of_length_le (by omega)] at this)
      go_wp2_with fail
      go_ret
      exact ⟨⟨_, rfl, ⟨fun h => by omega, fun h => absurd h HF.out⟩⟩, HW.out⟩
set_option maxHeartbeats 2000000 in
theorem stgs_contains (ao : Option Addr) (cap : Nat) (l : List Stg) (t : Stg) (w : World) (hx : StgS w.heap.size w (.slice ao l.length cap) l) :
    Calls Try.prog 16 #[.slice ao l.length cap, .agg #[.int .i64 t.unit, .string t.par, .int .i64 t.lv]] w fun e w' => (∃ b : Bool, e = .returned (.bool b) ∧ (b = true ↔ t ∈ l)) ∧ Below w.heap.size w w' := by
  have CI := Lib.hid (fun W (hb : Below w.heap.size w W) => stgs_index ao cap l t W ((hx.below hb).more hb.size))
  clear hx
  go_enter Try.func16, Try.ntmps16
  go_wp2_with fail
  refine (CI.out _ ((Below.refl _ _).alloc (Nat.le_refl _) _)).mono ?_
  rintro e w1 ⟨⟨n, rfl, hn⟩, hb1⟩
  have HB := Lib.hid (show Below w.heap.size w w1 from ((Below.refl _ _).alloc (Nat.le_refl _) _).trans (hb1.mono (by simp)))
  have HN := Lib.hid hn
  clear hb1 hn
  go_wp2_with fail
  go_ret
  exact ⟨⟨_, rfl, by simpa using HN.out⟩, HB.out⟩
end Go.Proofs.Ytabalicembhjmaa
