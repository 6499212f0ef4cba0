/- The contract of level.CheckCurve for tables. -/
import Derived.Test.YtdicoggpcobbpaaDoorCheckCurve
import Derived.Deep.QuietTactic
import Derived.BigQuiet
namespace Go.Proofs.YtdicoggpcobbpaaDoor
open Go.RowKit

/-- the second loop's test at i -/
def okStep (ps : List (Int × Int)) (i : Nat) : Prop := ∀ (h : i < ps.length) (h' : i - 1 < ps.length), ps[i - 1].1 < ps[i].1 ∧ ps[i - 1].2 ≤ ps[i].2

set_option maxHeartbeats 2000000 in
theorem table_order (b off cap : Nat) (ps : List (Int × Int)) (w : World) (hb : b < w.heap.size) (hp : PtsAt w b off ps) (h2 : 2 ≤ ps.length) (h20 : ps.length ≤ 20)
    (h : ∀ i (h : i < ps.length), inMil ps[i]) (h0 : ps[0] = (0, 0)) (hl : ps[ps.length - 1] = (1000, 1000)) (j : Nat) (j1 : 1 ≤ j) (j2 : j ≤ ps.length)
    (hg : ∀ i, 1 ≤ i → i < j → okStep ps i) (hbad : j < ps.length → ¬ okStep ps j) (F : Int) (hF : F = if j < ps.length then 7 else 0) :
    Calls Tryd.prog 21 #[.agg #[.int .i64 6, .slice (some ⟨b, off, none⟩) ps.length cap]] w fun e w' => e = .returned (.int .i64 F) ∧ Below w.heap.size w w' := by
  have HF := Lib.hid hF
  have H0 := Lib.hid h0
  have HL := Lib.hid hl
  clear hF h0 hl
  go_enter Tryd.func21, Tryd.ntmps21
  go_wp2_with (first | (go_at_call 54; refine (within_yes _ _ _ _ (by omega)).mono ?_; rintro e w' ⟨rfl, rfl⟩))
  go_loopw [28] (fun i wr => ∃ k : Nat, k ≤ ps.length ∧ i = .int .i64 k ∧ Below w.heap.size w wr) (fun i _ => ps.length - (intOf i).toNat)
  case atStart => exact ⟨0, Nat.zero_le _, rfl, (Below.refl _ _).alloc (Nat.le_refl _) _⟩
  case round =>
    obtain ⟨k, hk, rfl, hbw⟩ := hrel
    by_cases hlt : k < ps.length
    · have hc1 : wr.cell? ⟨b, off + k * 2, none⟩ = some (.int .i64 ps[k].1) := (hbw.cell hb).trans (hp k hlt).1
      have hc2 : wr.cell? ⟨b, off + k * 2 + 1, none⟩ = some (.int .i64 ps[k].2) := (hbw.cell hb).trans (hp k hlt).2
      obtain ⟨⟨m1, m2⟩, m3, m4⟩ := h k hlt
      go_wp2_with (first | (go_at_call 54; refine (within_yes _ _ _ _ (by omega)).mono ?_; rintro e w' ⟨rfl, rfl⟩))
      go_roundw
      case rel => exact ⟨k + 1, by omega, by go_num, hbw.alloc (hbw.size) _⟩
      case measure => simp [intOf]; omega
    · have hc1 : wr.cell? ⟨b, off, none⟩ = some (.int .i64 0) := by
        have := (hbw.cell hb).trans (hp 0 (by omega)).1
        rw [H0.out] at this
        simpa using this
      have hc2 : wr.cell? ⟨b, off + 1, none⟩ = some (.int .i64 0) := by
        have := (hbw.cell hb).trans (hp 0 (by omega)).2
        rw [H0.out] at this
        simpa using this
      have hc3 : wr.cell? ⟨b, off + (ps.length - 1) * 2, none⟩ = some (.int .i64 1000) := by
        have := (hbw.cell hb).trans (hp (ps.length - 1) (by omega)).1
        rwa [HL.out] at this
      have hc4 : wr.cell? ⟨b, off + (ps.length - 1) * 2 + 1, none⟩ = some (.int .i64 1000) := by
        have := (hbw.cell hb).trans (hp (ps.length - 1) (by omega)).2
        rwa [HL.out] at this
      go_wp2
      clear hc1 hc2 hc3 hc4
      obtain ⟨wo, rfl⟩ : ∃ wo : World, wo = wr := ⟨_, rfl⟩
      go_loopw [6] (fun i wr => ∃ k : Nat, 1 ≤ k ∧ k ≤ j ∧ i = .int .i64 k ∧ Below w.heap.size w wr) (fun i _ => ps.length - (intOf i).toNat)
      case atStart => exact ⟨1, Nat.le_refl _, j1, rfl, hbw⟩
      case round =>
        obtain ⟨i, hi1, hij, rfl, hbw2⟩ := hrel
        by_cases hil : i < ps.length
        · have hi' : i - 1 < ps.length := by omega
          have hd1 : wr.cell? ⟨b, off + i * 2, none⟩ = some (.int .i64 ps[i].1) := (hbw2.cell hb).trans (hp i hil).1
          have hd2 : wr.cell? ⟨b, off + i * 2 + 1, none⟩ = some (.int .i64 ps[i].2) := (hbw2.cell hb).trans (hp i hil).2
          have hd3 : wr.cell? ⟨b, off + (i - 1) * 2, none⟩ = some (.int .i64 (ps[i - 1]'hi').1) := (hbw2.cell hb).trans (hp (i - 1) (by omega)).1
          have hd4 : wr.cell? ⟨b, off + (i - 1) * 2 + 1, none⟩ = some (.int .i64 (ps[i - 1]'hi').2) := (hbw2.cell hb).trans (hp (i - 1) (by omega)).2
          have q1 : (1 : Int) ≤ (i : Int) := by omega
          have q2 : (i : Int) < (ps.length : Int) := by omega
          have q3 : (0 : Int) ≤ (i : Int) - 1 := by omega
          have q4 : (i : Int) - 1 < (ps.length : Int) := by omega
          have q5 : ((i : Int) - 1).toNat = i - 1 := by omega
          have q6 : IntKind.i64.wrap ((i : Int) - 1) = (i : Int) - 1 := IntWalk.i64_in _ (by omega)
          have hA : (ps[i].1 ≤ (ps[i - 1]'hi').1 ∨ ps[i].2 < (ps[i - 1]'hi').2) → F = 7 := by
            intro hh
            have hnl : ¬ i < j := by
              intro hlt
              have := hg i hi1 hlt hil (by omega)
              omega
            rw [HF.out, if_pos (by omega)]
          have hB : ¬ (ps[i].1 ≤ (ps[i - 1]'hi').1 ∨ ps[i].2 < (ps[i - 1]'hi').2) → i < j := by
            intro hh
            rcases Nat.lt_or_ge i j with k | k
            · exact k
            · obtain rfl : i = j := by omega
              exact absurd (fun _ _ => by omega) (hbad hil)
          have HA := Lib.hid hA
          have HB := Lib.hid hB
          clear hg hbad hA hB
          generalize ps[i].1 = x1 at *
          generalize ps[i].2 = x2 at *
          generalize (ps[i - 1]'hi').1 = y1 at *
          generalize (ps[i - 1]'hi').2 = y2 at *
          by_cases t1 : x1 ≤ y1
          · have hF7 := Lib.hid (HA.out (.inl t1))
            go_wp2
            go_quiet (fail)
            go_wp2
            go_ret
            exact ⟨by rw [hF7.out]; rfl, below_drewN hbw2 _⟩
          · have d1 : decide (x1 ≤ y1) = false := by simpa using t1
            by_cases t2 : x2 < y2
            · have hF7 := Lib.hid (HA.out (.inr t2))
              go_wp2
              go_quiet (fail)
              go_wp2
              go_ret
              exact ⟨by rw [hF7.out]; rfl, below_drewN hbw2 _⟩
            · have d2 : decide (x2 < y2) = false := by simpa using t2
              have hi2 := HB.out (by omega)
              go_wp2
              go_quiet (fail)
              go_wp2
              go_roundw
              case rel => exact ⟨i + 1, by omega, by omega, by go_num, below_drewN hbw2 _⟩
              case measure => simp [intOf]; omega
        · go_wp2
          go_ret
          exact ⟨by rw [HF.out, if_neg (by omega)]; rfl, hbw2⟩
set_option maxHeartbeats 1000000 in
theorem table_range (b off cap : Nat) (ps : List (Int × Int)) (w : World) (hb : b < w.heap.size) (hp : PtsAt w b off ps) (h2 : 2 ≤ ps.length) (h20 : ps.length ≤ 20)
    (j : Nat) (hj : j < ps.length) (h : ∀ i (h : i < ps.length), i < j → inMil ps[i]) (hx : ¬ inMil ps[j]) :
    Calls Tryd.prog 21 #[.agg #[.int .i64 6, .slice (some ⟨b, off, none⟩) ps.length cap]] w fun e w' => e = .returned (.int .i64 1) ∧ Below w.heap.size w w' := by
  have HX := Lib.hid hx
  clear hx
  go_enter Tryd.func21, Tryd.ntmps21
  go_wp2_with (first | (go_at_call 54; refine (within_yes _ _ _ _ (by omega)).mono ?_; rintro e w' ⟨rfl, rfl⟩))
  go_loopw [28] (fun i wr => ∃ k : Nat, k ≤ j ∧ i = .int .i64 k ∧ Below w.heap.size w wr) (fun i _ => ps.length - (intOf i).toNat)
  case atStart => exact ⟨0, Nat.zero_le _, rfl, (Below.refl _ _).alloc (Nat.le_refl _) _⟩
  case round =>
    obtain ⟨k, hk, rfl, hbw⟩ := hrel
    have hlt : k < ps.length := by omega
    by_cases hkj : k < j
    · have hc1 : wr.cell? ⟨b, off + k * 2, none⟩ = some (.int .i64 ps[k].1) := (hbw.cell hb).trans (hp k hlt).1
      have hc2 : wr.cell? ⟨b, off + k * 2 + 1, none⟩ = some (.int .i64 ps[k].2) := (hbw.cell hb).trans (hp k hlt).2
      obtain ⟨⟨m1, m2⟩, m3, m4⟩ := h k hlt hkj
      go_wp2_with (first | (go_at_call 54; refine (within_yes _ _ _ _ (by omega)).mono ?_; rintro e w' ⟨rfl, rfl⟩))
      go_roundw
      case rel => exact ⟨k + 1, by omega, by go_num, hbw.alloc (hbw.size) _⟩
      case measure => simp [intOf]; omega
    · obtain rfl : k = j := by omega
      have hc1 : wr.cell? ⟨b, off + k * 2, none⟩ = some (.int .i64 ps[k].1) := (hbw.cell hb).trans (hp k hlt).1
      have hc2 : wr.cell? ⟨b, off + k * 2 + 1, none⟩ = some (.int .i64 ps[k].2) := (hbw.cell hb).trans (hp k hlt).2
      have hn := HX.out
      unfold inMil at hn
      clear HX
      generalize ps[k].1 = x at *
      generalize ps[k].2 = y at *
      by_cases tx : 0 ≤ x ∧ x ≤ 1000
      · obtain ⟨tx0, tx1⟩ := tx
        rcases (show y < 0 ∨ 1000 < y by omega) with ty | ty
        all_goals
          clear hn
          go_wp2_with (first | (go_at_call 54; refine (within_yes _ _ _ _ (by omega)).mono ?_; rintro e w' ⟨rfl, rfl⟩) | (go_at_call 54; refine (within_no _ _ _ _ (by omega)).mono ?_; rintro e w' ⟨rfl, rfl⟩))
          go_ret
          exact ⟨rfl, hbw.alloc hbw.size _⟩
      · rcases (show x < 0 ∨ 1000 < x by omega) with tx' | tx'
        all_goals
          clear hn tx
          go_wp2_with (first | (go_at_call 54; refine (within_yes _ _ _ _ (by omega)).mono ?_; rintro e w' ⟨rfl, rfl⟩) | (go_at_call 54; refine (within_no _ _ _ _ (by omega)).mono ?_; rintro e w' ⟨rfl, rfl⟩))
          go_ret
          exact ⟨rfl, hbw.alloc hbw.size _⟩

set_option maxHeartbeats 1000000 in
theorem table_head (b off cap : Nat) (ps : List (Int × Int)) (w : World) (hb : b < w.heap.size) (hp : PtsAt w b off ps) (h2 : 2 ≤ ps.length) (h20 : ps.length ≤ 20)
    (h : ∀ i (h : i < ps.length), inMil ps[i]) (hx : ¬ (ps[0].1, ps[0].2) = (0, 0)) :
    Calls Tryd.prog 21 #[.agg #[.int .i64 6, .slice (some ⟨b, off, none⟩) ps.length cap]] w fun e w' => e = .returned (.int .i64 3) ∧ Below w.heap.size w w' := by
  go_enter Tryd.func21, Tryd.ntmps21
  go_wp2_with (first | (go_at_call 54; refine (within_yes _ _ _ _ (by omega)).mono ?_; rintro e w' ⟨rfl, rfl⟩))
  go_loopw [28] (fun i wr => ∃ k : Nat, k ≤ ps.length ∧ i = .int .i64 k ∧ Below w.heap.size w wr) (fun i _ => ps.length - (intOf i).toNat)
  case atStart => exact ⟨0, Nat.zero_le _, rfl, (Below.refl _ _).alloc (Nat.le_refl _) _⟩
  case round =>
    obtain ⟨k, hk, rfl, hbw⟩ := hrel
    by_cases hlt : k < ps.length
    · have hc1 : wr.cell? ⟨b, off + k * 2, none⟩ = some (.int .i64 ps[k].1) := (hbw.cell hb).trans (hp k hlt).1
      have hc2 : wr.cell? ⟨b, off + k * 2 + 1, none⟩ = some (.int .i64 ps[k].2) := (hbw.cell hb).trans (hp k hlt).2
      obtain ⟨⟨m1, m2⟩, m3, m4⟩ := h k hlt
      go_wp2_with (first | (go_at_call 54; refine (within_yes _ _ _ _ (by omega)).mono ?_; rintro e w' ⟨rfl, rfl⟩))
      go_roundw
      case rel => exact ⟨k + 1, by omega, by go_num, hbw.alloc (hbw.size) _⟩
      case measure => simp [intOf]; omega
    · have hc1 : wr.cell? ⟨b, off, none⟩ = some (.int .i64 ps[0].1) := by
        have := (hbw.cell hb).trans (hp 0 (by omega)).1
        simpa using this
      have hc2 : wr.cell? ⟨b, off + 1, none⟩ = some (.int .i64 ps[0].2) := by
        have := (hbw.cell hb).trans (hp 0 (by omega)).2
        simpa using this
      have HX := Lib.hid hx
      clear hx
      generalize ps[0].1 = x at *
      generalize ps[0].2 = y at *
      by_cases tx : x = 0
      · subst tx
        have ty : ¬ y = 0 := fun k => HX.out (by rw [k])
        go_wp2
        go_ret
        exact ⟨rfl, hbw⟩
      · by_cases ty : y = 0
        · subst ty
          go_wp2
          go_ret
          exact ⟨rfl, hbw⟩
        · go_wp2
          go_ret
          exact ⟨rfl, hbw⟩

set_option maxHeartbeats 1000000 in
theorem table_last (b off cap : Nat) (ps : List (Int × Int)) (w : World) (hb : b < w.heap.size) (hp : PtsAt w b off ps) (h2 : 2 ≤ ps.length) (h20 : ps.length ≤ 20)
    (h : ∀ i (h : i < ps.length), inMil ps[i]) (h0 : ps[0] = (0, 0)) (hx : ¬ (ps[ps.length - 1].1, ps[ps.length - 1].2) = (1000, 1000)) :
    Calls Tryd.prog 21 #[.agg #[.int .i64 6, .slice (some ⟨b, off, none⟩) ps.length cap]] w fun e w' => e = .returned (.int .i64 3) ∧ Below w.heap.size w w' := by
  have H0 := Lib.hid h0
  clear h0
  go_enter Tryd.func21, Tryd.ntmps21
  go_wp2_with (first | (go_at_call 54; refine (within_yes _ _ _ _ (by omega)).mono ?_; rintro e w' ⟨rfl, rfl⟩))
  go_loopw [28] (fun i wr => ∃ k : Nat, k ≤ ps.length ∧ i = .int .i64 k ∧ Below w.heap.size w wr) (fun i _ => ps.length - (intOf i).toNat)
  case atStart => exact ⟨0, Nat.zero_le _, rfl, (Below.refl _ _).alloc (Nat.le_refl _) _⟩
  case round =>
    obtain ⟨k, hk, rfl, hbw⟩ := hrel
    by_cases hlt : k < ps.length
    · have hc1 : wr.cell? ⟨b, off + k * 2, none⟩ = some (.int .i64 ps[k].1) := (hbw.cell hb).trans (hp k hlt).1
      have hc2 : wr.cell? ⟨b, off + k * 2 + 1, none⟩ = some (.int .i64 ps[k].2) := (hbw.cell hb).trans (hp k hlt).2
      obtain ⟨⟨m1, m2⟩, m3, m4⟩ := h k hlt
      go_wp2_with (first | (go_at_call 54; refine (within_yes _ _ _ _ (by omega)).mono ?_; rintro e w' ⟨rfl, rfl⟩))
      go_roundw
      case rel => exact ⟨k + 1, by omega, by go_num, hbw.alloc (hbw.size) _⟩
      case measure => simp [intOf]; omega
    · have hc1 : wr.cell? ⟨b, off, none⟩ = some (.int .i64 0) := by
        have := (hbw.cell hb).trans (hp 0 (by omega)).1
        rw [H0.out] at this
        simpa using this
      have hc2 : wr.cell? ⟨b, off + 1, none⟩ = some (.int .i64 0) := by
        have := (hbw.cell hb).trans (hp 0 (by omega)).2
        rw [H0.out] at this
        simpa using this
      have hc3 : wr.cell? ⟨b, off + (ps.length - 1) * 2, none⟩ = some (.int .i64 ps[ps.length - 1].1) := (hbw.cell hb).trans (hp (ps.length - 1) (by omega)).1
      have hc4 : wr.cell? ⟨b, off + (ps.length - 1) * 2 + 1, none⟩ = some (.int .i64 ps[ps.length - 1].2) := (hbw.cell hb).trans (hp (ps.length - 1) (by omega)).2
      have HX := Lib.hid hx
      clear hx
      generalize ps[ps.length - 1].1 = x at *
      generalize ps[ps.length - 1].2 = y at *
      by_cases tx : x = 1000
      · subst tx
        have ty : ¬ y = 1000 := fun k => HX.out (by rw [k])
        go_wp2
        go_ret
        exact ⟨rfl, hbw⟩
      · by_cases ty : y = 1000
        · subst ty
          go_wp2
          go_ret
          exact ⟨rfl, hbw⟩
        · go_wp2
          go_ret
          exact ⟨rfl, hbw⟩

end Go.Proofs.YtdicoggpcobbpaaDoor
