/- The contract of the reference's CheckCurve, for every curve. -/
import Derived.Test.YtdicoggpcobbpaaDoorCheckAny
import Derived.Test.YtdicoggpcobbpaaDoorRLevel
namespace Go.Proofs.YtdicoggpcobbpaaDoor
open Go.RowKit
set_option linter.unusedVariables false
set_option linter.unusedSimpArgs false

theorem boxB {w W : World} {o : Obj} (h : Below (w.heap.size + 1) (w.alloc o) W) : Below w.heap.size w W := ((Below.refl _ _).alloc (Nat.le_refl _) o).trans (h.mono (by omega))
theorem boxS {w W : World} {o : Obj} (h : Below (w.heap.size + 1) (w.alloc o) W) : w.heap.size + 1 ≤ W.heap.size := by
  have := h.size
  simpa using this
theorem boxC {w W : World} {x y : Value} {T : TypeId} (h : Below (w.heap.size + 1) (w.alloc (.cells #[x, y] T)) W) : W.cell? ⟨w.heap.size, 1, none⟩ = some y :=
  (h.cell (p := ⟨w.heap.size, 1, none⟩) (by show w.heap.size < _; omega)).trans (World.cell?_alloc_new w #[x, y] T 1)

set_option maxRecDepth 100000 in
set_option maxHeartbeats 2000000 in
theorem rtable_order (b off cap : Nat) (ps : List (Int × Int)) (w : World) (hb : b < w.heap.size) (hp : PtsAt w b off ps) (h2 : 2 ≤ ps.length) (h20 : ps.length ≤ 20)
    (h : ∀ i (h : i < ps.length), inMil ps[i]) (h0 : ps[0] = (0, 0)) (hl : ps[ps.length - 1] = (1000, 1000)) (j : Nat) (j1 : 1 ≤ j) (j2 : j ≤ ps.length)
    (hg : ∀ i, 1 ≤ i → i < j → okStep ps i) (hbad : j < ps.length → ¬ okStep ps j) (F : Int) (hF : F = if j < ps.length then 7 else 0) :
    Calls Tryd.prog 22 #[.agg #[.int .i64 6, .slice (some ⟨b, off, none⟩) ps.length cap]] w fun e w' => e = .returned (.int .i64 F) ∧ Below w.heap.size w w' := by
  have HF := Lib.hid hF
  have H0 := Lib.hid h0
  have HL := Lib.hid hl
  clear hF h0 hl
  go_enter Tryd.func22, Tryd.ntmps22
  go_wp2_with (first | (go_at_call 37; refine (r1within_yes _ _ _ _ (by omega)).mono ?_; rintro e w' ⟨rfl, rfl⟩))
  go_loopw [38] (fun i wr => ∃ k : Nat, k ≤ ps.length ∧ i = .int .i64 k ∧ Below (w.heap.size + 1) (w.alloc (.cells #[.int .i64 6, .slice (some ⟨b, off, none⟩) ps.length cap] 31)) wr) (fun i _ => ps.length - (intOf i).toNat)
  case atStart => exact ⟨0, Nat.zero_le _, rfl, Below.refl _ _⟩
  case round =>
    obtain ⟨k, hk, rfl, hbx⟩ := hrel
    have hbw := boxB hbx
    have hb1 := boxC hbx
    have hbs := boxS hbx
    by_cases hlt : k < ps.length
    · have hc1 : wr.cell? ⟨b, off + k * 2, none⟩ = some (.int .i64 ps[k].1) := (hbw.cell hb).trans (hp k hlt).1
      have hc2 : wr.cell? ⟨b, off + k * 2 + 1, none⟩ = some (.int .i64 ps[k].2) := (hbw.cell hb).trans (hp k hlt).2
      obtain ⟨⟨m1, m2⟩, m3, m4⟩ := h k hlt
      go_wp2_with (first | (go_at_call 37; refine (r1within_yes _ _ _ _ (by omega)).mono ?_; rintro e w' ⟨rfl, rfl⟩))
      go_roundw
      case rel => exact ⟨k + 1, by omega, by go_num, hbx.alloc hbs _⟩
      case measure => simp [intOf]; omega
    · have hc1 : wr.cell? ⟨b, off, none⟩ = some (.int .i64 0) := by
        have := (hbw.cell hb).trans (hp 0 (by omega)).1
        rw [H0.out] at this
        simpa using this
      have hc2 : wr.cell? ⟨b, off + 1, none⟩ = some (.int .i64 0) := by
        have := (hbw.cell hb).trans (hp 0 (by omega)).2
        rw [H0.out] at this
        simpa using this
      have hc3 : wr.cell? ⟨b, off + (ps.length - 1) * 2, none⟩ = some (.int .i64 1000) := by
        have := (hbw.cell hb).trans (hp (ps.length - 1) (by omega)).1
        rwa [HL.out] at this
      have hc4 : wr.cell? ⟨b, off + (ps.length - 1) * 2 + 1, none⟩ = some (.int .i64 1000) := by
        have := (hbw.cell hb).trans (hp (ps.length - 1) (by omega)).2
        rwa [HL.out] at this
      go_wp2
      clear hc1 hc2 hc3 hc4 hb1
      obtain ⟨wo, rfl⟩ : ∃ wo : World, wo = wr := ⟨_, rfl⟩
      go_loopw [5] (fun i wr => ∃ k : Nat, 1 ≤ k ∧ k ≤ j ∧ i = .int .i64 k ∧ Below (w.heap.size + 1) (w.alloc (.cells #[.int .i64 6, .slice (some ⟨b, off, none⟩) ps.length cap] 31)) wr) (fun i _ => ps.length - (intOf i).toNat)
      case atStart => exact ⟨1, Nat.le_refl _, j1, rfl, hbx⟩
      case round =>
        obtain ⟨i, hi1, hij, rfl, hbx2⟩ := hrel
        have hbw2 := boxB hbx2
        have hb1 := boxC hbx2
        have hbs2 := boxS hbx2
        by_cases hil : i < ps.length
        · have hi' : i - 1 < ps.length := by omega
          have hd1 : wr.cell? ⟨b, off + i * 2, none⟩ = some (.int .i64 ps[i].1) := (hbw2.cell hb).trans (hp i hil).1
          have hd2 : wr.cell? ⟨b, off + i * 2 + 1, none⟩ = some (.int .i64 ps[i].2) := (hbw2.cell hb).trans (hp i hil).2
          have hd3 : wr.cell? ⟨b, off + (i - 1) * 2, none⟩ = some (.int .i64 (ps[i - 1]'hi').1) := (hbw2.cell hb).trans (hp (i - 1) (by omega)).1
          have hd4 : wr.cell? ⟨b, off + (i - 1) * 2 + 1, none⟩ = some (.int .i64 (ps[i - 1]'hi').2) := (hbw2.cell hb).trans (hp (i - 1) (by omega)).2
          have q1 : (1 : Int) ≤ (i : Int) := by omega
          have q2 : (i : Int) < (ps.length : Int) := by omega
          have q3 : (0 : Int) ≤ (i : Int) - 1 := by omega
          have q4 : (i : Int) - 1 < (ps.length : Int) := by omega
          have q5 : ((i : Int) - 1).toNat = i - 1 := by omega
          have q6 : IntKind.i64.wrap ((i : Int) - 1) = (i : Int) - 1 := IntWalk.i64_in _ (by omega)
          have hA : (ps[i].1 ≤ (ps[i - 1]'hi').1 ∨ ps[i].2 < (ps[i - 1]'hi').2) → F = 7 := by
            intro hh
            have hnl : ¬ i < j := by
              intro hlt
              have := hg i hi1 hlt hil (by omega)
              omega
            rw [HF.out, if_pos (by omega)]
          have hB : ¬ (ps[i].1 ≤ (ps[i - 1]'hi').1 ∨ ps[i].2 < (ps[i - 1]'hi').2) → i < j := by
            intro hh
            rcases Nat.lt_or_ge i j with k | k
            · exact k
            · obtain rfl : i = j := by omega
              exact absurd (fun _ _ => by omega) (hbad hil)
          have HA := Lib.hid hA
          have HB := Lib.hid hB
          clear hg hbad hA hB
          generalize ps[i].1 = x1 at *
          generalize ps[i].2 = x2 at *
          generalize (ps[i - 1]'hi').1 = y1 at *
          generalize (ps[i - 1]'hi').2 = y2 at *
          by_cases t1 : x1 ≤ y1
          · have hF7 := Lib.hid (HA.out (.inl t1))
            go_wp2
            go_quiet (fail)
            go_wp2
            go_ret
            exact ⟨by rw [hF7.out]; rfl, below_drewN hbw2⟩
          · have d1 : decide (x1 ≤ y1) = false := by simpa using t1
            by_cases t2 : x2 < y2
            · have hF7 := Lib.hid (HA.out (.inr t2))
              go_wp2
              go_quiet (fail)
              go_wp2
              go_ret
              exact ⟨by rw [hF7.out]; rfl, below_drewN hbw2⟩
            · have d2 : decide (x2 < y2) = false := by simpa using t2
              have hi2 := HB.out (by omega)
              go_wp2
              go_quiet (fail)
              go_wp2
              go_roundw
              case rel => exact ⟨i + 1, by omega, by omega, by go_num, below_drewN hbx2⟩
              case measure => simp [intOf]; omega
        · go_wp2
          go_ret
          exact ⟨by rw [HF.out, if_neg (by omega)]; rfl, hbw2⟩
set_option maxRecDepth 100000 in
set_option maxHeartbeats 1000000 in
theorem rtable_range (b off cap : Nat) (ps : List (Int × Int)) (w : World) (hb : b < w.heap.size) (hp : PtsAt w b off ps) (h2 : 2 ≤ ps.length) (h20 : ps.length ≤ 20)
    (j : Nat) (hj : j < ps.length) (h : ∀ i (h : i < ps.length), i < j → inMil ps[i]) (hx : ¬ inMil ps[j]) :
    Calls Tryd.prog 22 #[.agg #[.int .i64 6, .slice (some ⟨b, off, none⟩) ps.length cap]] w fun e w' => e = .returned (.int .i64 1) ∧ Below w.heap.size w w' := by
  have HX := Lib.hid hx
  clear hx
  go_enter Tryd.func22, Tryd.ntmps22
  go_wp2_with (first | (go_at_call 37; refine (r1within_yes _ _ _ _ (by omega)).mono ?_; rintro e w' ⟨rfl, rfl⟩))
  go_loopw [38] (fun i wr => ∃ k : Nat, k ≤ j ∧ i = .int .i64 k ∧ Below (w.heap.size + 1) (w.alloc (.cells #[.int .i64 6, .slice (some ⟨b, off, none⟩) ps.length cap] 31)) wr) (fun i _ => ps.length - (intOf i).toNat)
  case atStart => exact ⟨0, Nat.zero_le _, rfl, Below.refl _ _⟩
  case round =>
    obtain ⟨k, hk, rfl, hbx⟩ := hrel
    have hbw := boxB hbx
    have hb1 := boxC hbx
    have hbs := boxS hbx
    have hlt : k < ps.length := by omega
    by_cases hkj : k < j
    · have hc1 : wr.cell? ⟨b, off + k * 2, none⟩ = some (.int .i64 ps[k].1) := (hbw.cell hb).trans (hp k hlt).1
      have hc2 : wr.cell? ⟨b, off + k * 2 + 1, none⟩ = some (.int .i64 ps[k].2) := (hbw.cell hb).trans (hp k hlt).2
      obtain ⟨⟨m1, m2⟩, m3, m4⟩ := h k hlt hkj
      go_wp2_with (first | (go_at_call 37; refine (r1within_yes _ _ _ _ (by omega)).mono ?_; rintro e w' ⟨rfl, rfl⟩))
      go_roundw
      case rel => exact ⟨k + 1, by omega, by go_num, hbx.alloc hbs _⟩
      case measure => simp [intOf]; omega
    · obtain rfl : k = j := by omega
      have hc1 : wr.cell? ⟨b, off + k * 2, none⟩ = some (.int .i64 ps[k].1) := (hbw.cell hb).trans (hp k hlt).1
      have hc2 : wr.cell? ⟨b, off + k * 2 + 1, none⟩ = some (.int .i64 ps[k].2) := (hbw.cell hb).trans (hp k hlt).2
      have hn := HX.out
      unfold inMil at hn
      clear HX
      generalize ps[k].1 = x at *
      generalize ps[k].2 = y at *
      by_cases tx : 0 ≤ x ∧ x ≤ 1000
      · obtain ⟨tx0, tx1⟩ := tx
        rcases (show y < 0 ∨ 1000 < y by omega) with ty | ty
        all_goals
          clear hn
          go_wp2_with (first | (go_at_call 37; refine (r1within_yes _ _ _ _ (by omega)).mono ?_; rintro e w' ⟨rfl, rfl⟩) | (go_at_call 37; refine (r1within_no _ _ _ _ (by omega)).mono ?_; rintro e w' ⟨rfl, rfl⟩))
          go_ret
          exact ⟨rfl, hbw.alloc hbw.size _⟩
      · rcases (show x < 0 ∨ 1000 < x by omega) with tx' | tx'
        all_goals
          clear hn tx
          go_wp2_with (first | (go_at_call 37; refine (r1within_yes _ _ _ _ (by omega)).mono ?_; rintro e w' ⟨rfl, rfl⟩) | (go_at_call 37; refine (r1within_no _ _ _ _ (by omega)).mono ?_; rintro e w' ⟨rfl, rfl⟩))
          go_ret
          exact ⟨rfl, hbw.alloc hbw.size _⟩

set_option maxRecDepth 100000 in
set_option maxHeartbeats 1000000 in
theorem rtable_head (b off cap : Nat) (ps : List (Int × Int)) (w : World) (hb : b < w.heap.size) (hp : PtsAt w b off ps) (h2 : 2 ≤ ps.length) (h20 : ps.length ≤ 20)
    (h : ∀ i (h : i < ps.length), inMil ps[i]) (hx : ¬ (ps[0].1, ps[0].2) = (0, 0)) :
    Calls Tryd.prog 22 #[.agg #[.int .i64 6, .slice (some ⟨b, off, none⟩) ps.length cap]] w fun e w' => e = .returned (.int .i64 3) ∧ Below w.heap.size w w' := by
  go_enter Tryd.func22, Tryd.ntmps22
  go_wp2_with (first | (go_at_call 37; refine (r1within_yes _ _ _ _ (by omega)).mono ?_; rintro e w' ⟨rfl, rfl⟩))
  go_loopw [38] (fun i wr => ∃ k : Nat, k ≤ ps.length ∧ i = .int .i64 k ∧ Below (w.heap.size + 1) (w.alloc (.cells #[.int .i64 6, .slice (some ⟨b, off, none⟩) ps.length cap] 31)) wr) (fun i _ => ps.length - (intOf i).toNat)
  case atStart => exact ⟨0, Nat.zero_le _, rfl, Below.refl _ _⟩
  case round =>
    obtain ⟨k, hk, rfl, hbx⟩ := hrel
    have hbw := boxB hbx
    have hb1 := boxC hbx
    have hbs := boxS hbx
    by_cases hlt : k < ps.length
    · have hc1 : wr.cell? ⟨b, off + k * 2, none⟩ = some (.int .i64 ps[k].1) := (hbw.cell hb).trans (hp k hlt).1
      have hc2 : wr.cell? ⟨b, off + k * 2 + 1, none⟩ = some (.int .i64 ps[k].2) := (hbw.cell hb).trans (hp k hlt).2
      obtain ⟨⟨m1, m2⟩, m3, m4⟩ := h k hlt
      go_wp2_with (first | (go_at_call 37; refine (r1within_yes _ _ _ _ (by omega)).mono ?_; rintro e w' ⟨rfl, rfl⟩))
      go_roundw
      case rel => exact ⟨k + 1, by omega, by go_num, hbx.alloc hbs _⟩
      case measure => simp [intOf]; omega
    · have hc1 : wr.cell? ⟨b, off, none⟩ = some (.int .i64 ps[0].1) := by
        have := (hbw.cell hb).trans (hp 0 (by omega)).1
        simpa using this
      have hc2 : wr.cell? ⟨b, off + 1, none⟩ = some (.int .i64 ps[0].2) := by
        have := (hbw.cell hb).trans (hp 0 (by omega)).2
        simpa using this
      have HX := Lib.hid hx
      clear hx
      generalize ps[0].1 = x at *
      generalize ps[0].2 = y at *
      by_cases tx : x = 0
      · subst tx
        have ty : ¬ y = 0 := fun k => HX.out (by rw [k])
        go_wp2
        go_ret
        exact ⟨rfl, hbw⟩
      · by_cases ty : y = 0
        · subst ty
          go_wp2
          go_ret
          exact ⟨rfl, hbw⟩
        · go_wp2
          go_ret
          exact ⟨rfl, hbw⟩

set_option maxRecDepth 100000 in
set_option maxHeartbeats 1000000 in
theorem rtable_last (b off cap : Nat) (ps : List (Int × Int)) (w : World) (hb : b < w.heap.size) (hp : PtsAt w b off ps) (h2 : 2 ≤ ps.length) (h20 : ps.length ≤ 20)
    (h : ∀ i (h : i < ps.length), inMil ps[i]) (h0 : ps[0] = (0, 0)) (hx : ¬ (ps[ps.length - 1].1, ps[ps.length - 1].2) = (1000, 1000)) :
    Calls Tryd.prog 22 #[.agg #[.int .i64 6, .slice (some ⟨b, off, none⟩) ps.length cap]] w fun e w' => e = .returned (.int .i64 3) ∧ Below w.heap.size w w' := by
  have H0 := Lib.hid h0
  clear h0
  go_enter Tryd.func22, Tryd.ntmps22
  go_wp2_with (first | (go_at_call 37; refine (r1within_yes _ _ _ _ (by omega)).mono ?_; rintro e w' ⟨rfl, rfl⟩))
  go_loopw [38] (fun i wr => ∃ k : Nat, k ≤ ps.length ∧ i = .int .i64 k ∧ Below (w.heap.size + 1) (w.alloc (.cells #[.int .i64 6, .slice (some ⟨b, off, none⟩) ps.length cap] 31)) wr) (fun i _ => ps.length - (intOf i).toNat)
  case atStart => exact ⟨0, Nat.zero_le _, rfl, Below.refl _ _⟩
  case round =>
    obtain ⟨k, hk, rfl, hbx⟩ := hrel
    have hbw := boxB hbx
    have hb1 := boxC hbx
    have hbs := boxS hbx
    by_cases hlt : k < ps.length
    · have hc1 : wr.cell? ⟨b, off + k * 2, none⟩ = some (.int .i64 ps[k].1) := (hbw.cell hb).trans (hp k hlt).1
      have hc2 : wr.cell? ⟨b, off + k * 2 + 1, none⟩ = some (.int .i64 ps[k].2) := (hbw.cell hb).trans (hp k hlt).2
      obtain ⟨⟨m1, m2⟩, m3, m4⟩ := h k hlt
      go_wp2_with (first | (go_at_call 37; refine (r1within_yes _ _ _ _ (by omega)).mono ?_; rintro e w' ⟨rfl, rfl⟩))
      go_roundw
      case rel => exact ⟨k + 1, by omega, by go_num, hbx.alloc hbs _⟩
      case measure => simp [intOf]; omega
    · have hc1 : wr.cell? ⟨b, off, none⟩ = some (.int .i64 0) := by
        have := (hbw.cell hb).trans (hp 0 (by omega)).1
        rw [H0.out] at this
        simpa using this
      have hc2 : wr.cell? ⟨b, off + 1, none⟩ = some (.int .i64 0) := by
        have := (hbw.cell hb).trans (hp 0 (by omega)).2
        rw [H0.out] at this
        simpa using this
      have hc3 : wr.cell? ⟨b, off + (ps.length - 1) * 2, none⟩ = some (.int .i64 ps[ps.length - 1].1) := (hbw.cell hb).trans (hp (ps.length - 1) (by omega)).1
      have hc4 : wr.cell? ⟨b, off + (ps.length - 1) * 2 + 1, none⟩ = some (.int .i64 ps[ps.length - 1].2) := (hbw.cell hb).trans (hp (ps.length - 1) (by omega)).2
      have HX := Lib.hid hx
      clear hx
      generalize ps[ps.length - 1].1 = x at *
      generalize ps[ps.length - 1].2 = y at *
      by_cases tx : x = 1000
      · subst tx
        have ty : ¬ y = 1000 := fun k => HX.out (by rw [k])
        go_wp2
        go_ret
        exact ⟨rfl, hbw⟩
      · by_cases ty : y = 1000
        · subst ty
          go_wp2
          go_ret
          exact ⟨rfl, hbw⟩
        · go_wp2
          go_ret
          exact ⟨rfl, hbw⟩

set_option maxRecDepth 100000 in
set_option maxHeartbeats 1000000 in
theorem rtable_short (ao : Option Addr) (n cap : Nat) (w : World) (h : n < 2) :
    Calls Tryd.prog 22 #[.agg #[.int .i64 6, .slice ao n cap]] w fun e w' => e = .returned (.int .i64 8) ∧ Below w.heap.size w w' := by
  go_enter Tryd.func22, Tryd.ntmps22
  go_wp2_with (first | (go_at_call 37; refine (r1within_yes _ _ _ _ (by omega)).mono ?_; rintro e w' ⟨rfl, rfl⟩))
  go_ret
  exact ⟨rfl, (Below.refl _ _).alloc (Nat.le_refl _) _⟩
set_option maxRecDepth 100000 in
set_option maxHeartbeats 1000000 in
theorem rtable_long (ao : Option Addr) (n cap : Nat) (w : World) (h : 20 < n) :
    Calls Tryd.prog 22 #[.agg #[.int .i64 6, .slice ao n cap]] w fun e w' => e = .returned (.int .i64 2) ∧ Below w.heap.size w w' := by
  go_enter Tryd.func22, Tryd.ntmps22
  go_wp2_with (first | (go_at_call 37; refine (r1within_yes _ _ _ _ (by omega)).mono ?_; rintro e w' ⟨rfl, rfl⟩))
  go_ret
  exact ⟨rfl, (Below.refl _ _).alloc (Nat.le_refl _) _⟩

set_option maxRecDepth 100000 in
set_option maxHeartbeats 1000000 in
theorem rcheckCurve_kind (v : Value) (c : Cv) (w : World) (hv : CvV w v c) (h : ¬ (1 ≤ c.kind ∧ c.kind ≤ 6)) :
    Calls Tryd.prog 22 #[v] w fun e w' => e = .returned (.int .i64 (checkC c)) ∧ Below w.heap.size w w' := by
  have hF : checkC c = 4 := if_pos h
  have HF := Lib.hid hF
  obtain ⟨p, rfl, _⟩ := hv
  have hn : c.kind < 1 ∨ 6 < c.kind := by omega
  have HN := Lib.hid hn
  clear hF hn h
  go_enter Tryd.func22, Tryd.ntmps22
  go_wp2_with (first | (go_at_call 37; refine (r1within_no _ _ _ _ HN.out).mono ?_; rintro e w' ⟨rfl, rfl⟩))
  go_ret
  exact ⟨by rw [HF.out]; rfl, (Below.refl _ _).alloc (Nat.le_refl _) _⟩

set_option maxRecDepth 100000 in
set_option maxHeartbeats 1000000 in
theorem rcheckCurve_plain (v : Value) (c : Cv) (w : World) (hv : CvV w v c) (h : 1 ≤ c.kind ∧ c.kind ≤ 6) (h6 : c.kind ≠ 6) :
    Calls Tryd.prog 22 #[v] w fun e w' => e = .returned (.int .i64 (checkC c)) ∧ Below w.heap.size w w' := by
  have hF : checkC c = if 0 < c.pts.length then 3 else 0 := by unfold checkC; rw [if_neg (by simpa using h), if_pos h6]
  obtain ⟨p, rfl, hp⟩ := hv
  have hne : (c.kind != 6) = true := by simpa using h6
  have HH := Lib.hid h
  have hl : ∃ ao cap, p = .slice ao c.pts.length cap := by
    rcases hp with ⟨h, ao, cap, rfl⟩ | ⟨_, _, b, off, cap, rfl, _⟩
    · exact ⟨ao, cap, by rw [h]; rfl⟩
    · exact ⟨_, cap, rfl⟩
  obtain ⟨ao, cap, rfl⟩ := hl
  clear hp h
  by_cases hz : 0 < c.pts.length
  · rw [if_pos hz] at hF
    have HF := Lib.hid hF
    have hd : decide (0 < c.pts.length) = true := by simpa using hz
    clear hF
    go_enter Tryd.func22, Tryd.ntmps22
    go_wp2_with (first | (go_at_call 37; refine (r1within_yes _ _ _ _ HH.out).mono ?_; rintro e w' ⟨rfl, rfl⟩))
    go_ret
    exact ⟨by rw [HF.out]; rfl, (Below.refl _ _).alloc (Nat.le_refl _) _⟩
  · rw [if_neg hz] at hF
    have HF := Lib.hid hF
    have hz0 : c.pts.length = 0 := by omega
    rw [hz0]
    clear hF hz hz0
    go_enter Tryd.func22, Tryd.ntmps22
    go_wp2_with (first | (go_at_call 37; refine (r1within_yes _ _ _ _ HH.out).mono ?_; rintro e w' ⟨rfl, rfl⟩))
    go_ret
    exact ⟨by rw [HF.out]; rfl, (Below.refl _ _).alloc (Nat.le_refl _) _⟩
theorem rcheckCurve_any (v : Value) (c : Cv) (w : World) (hv : CvV w v c) :
    Calls Tryd.prog 22 #[v] w fun e w' => e = .returned (.int .i64 (checkC c)) ∧ Below w.heap.size w w' := by
  by_cases hk : 1 ≤ c.kind ∧ c.kind ≤ 6
  · by_cases h6 : c.kind = 6
    · obtain ⟨p, rfl, hp⟩ := hv
      rw [kind6 c h6, h6]
      have hl : ∃ ao cap, p = .slice ao c.pts.length cap := by
        rcases hp with ⟨h, ao, cap, rfl⟩ | ⟨_, _, b, off, cap, rfl, _⟩
        · exact ⟨ao, cap, by rw [h]; rfl⟩
        · exact ⟨_, cap, rfl⟩
      by_cases h2 : c.pts.length < 2
      · rw [if_pos h2]
        obtain ⟨ao, cap, rfl⟩ := hl
        exact rtable_short _ _ _ _ h2
      · rw [if_neg h2]
        by_cases h20 : 20 < c.pts.length
        · rw [if_pos h20]
          obtain ⟨ao, cap, rfl⟩ := hl
          exact rtable_long _ _ _ _ h20
        · rw [if_neg h20]
          rcases hp with ⟨h, _⟩ | ⟨_, _, b, off, cap, rfl, hb, hp⟩
          · rw [h] at h2; simp at h2
          generalize hps : c.pts = ps at *
          rcases all_or_first (fun i => ∀ (h : i < ps.length), inMil ps[i]) ps.length with ha | ⟨j, hj, hb1, hg⟩
          · have ha' : ∀ x ∈ ps, inMil x := by
              intro x hx
              obtain ⟨i, hi, rfl⟩ := List.getElem_of_mem hx
              exact ha i hi hi
            rw [if_neg (by simpa using ha')]
            have ha2 : ∀ i (h : i < ps.length), inMil ps[i] := fun i h => ha i h h
            rw [getLast?_get ps (by omega), head?_get ps (by omega)]
            by_cases e0 : ps[0] = (0, 0)
            · by_cases el : ps[ps.length - 1] = (1000, 1000)
              · rw [if_neg (by rw [e0, el]; simp)]
                rcases all_or_first (fun i => 1 ≤ i → okStep ps i) ps.length with hs | ⟨j, hj, hb1, hg⟩
                · have : Steps ps := (steps_iff ps).2 fun i h1 h2 => hs i h2 h1
                  rw [if_neg (by simpa using this)]
                  exact rtable_order b off cap ps w hb hp (by omega) (by omega) ha2 e0 el ps.length (by omega) (Nat.le_refl _) (fun i h1 h2 => hs i h2 h1) (fun h => absurd h (by omega)) 0 (by rw [if_neg (by omega)])
                · have hj1 : 1 ≤ j := by
                    rcases Nat.eq_zero_or_pos j with h | h
                    · subst h; exact absurd (fun h => absurd h (by omega)) hb1
                    · exact h
                  have hb2 : ¬ okStep ps j := fun h => hb1 fun _ => h
                  have : ¬ Steps ps := fun h => hb2 ((steps_iff ps).1 h j hj1 hj)
                  rw [if_pos this]
                  exact rtable_order b off cap ps w hb hp (by omega) (by omega) ha2 e0 el j hj1 (by omega) (fun i h1 h2 => hg i h2 h1) (fun _ => hb2) 7 (by rw [if_pos hj])
              · rw [if_pos (.inr (by simpa using el))]
                exact rtable_last b off cap ps w hb hp (by omega) (by omega) ha2 e0 el
            · rw [if_pos (.inl (by simpa using e0))]
              exact rtable_head b off cap ps w hb hp (by omega) (by omega) ha2 e0
          · have hb2 : ¬ inMil ps[j] := fun h => hb1 fun _ => h
            rw [if_pos (fun h => hb2 (h _ (List.getElem_mem hj)))]
            exact rtable_range b off cap ps w hb hp (by omega) (by omega) j hj (fun i h hi => hg i hi h) hb2
    · exact rcheckCurve_plain v c w hv hk h6
  · exact rcheckCurve_kind v c w hv hk
end Go.Proofs.YtdicoggpcobbpaaDoor
