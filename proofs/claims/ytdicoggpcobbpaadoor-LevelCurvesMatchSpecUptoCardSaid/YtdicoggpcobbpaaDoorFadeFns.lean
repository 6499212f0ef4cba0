/- Contracts of level.isTime, CheckFade, at, At, Ends, parts, Ease. -/
import Derived.Test.YtdicoggpcobbpaaDoorWayTable
import Derived.Test.YtdicoggpcobbpaaDoorFade
import Derived.Test.YtdicoggpcobbpaaDoorScale
namespace Go.Proofs.YtdicoggpcobbpaaDoor
open Go.RowKit

instance (t : Int) : Decidable (IsTm t) := by unfold IsTm; infer_instance
instance (t : Int) : Decidable (LvOk t) := by unfold LvOk; infer_instance

theorem row2c {k : IntKind} {W : World} {b : Nat} {x y : Int} (h1 : W.cell? ⟨b, 0, none⟩ = some (.int k x)) (h2 : W.cell? ⟨b, 1, none⟩ = some (.int k y)) : RowAt k W b 0 [x, y] := by
  intro i h
  match i, h with
  | 0, _ => simpa using h1
  | 1, _ => simpa using h2

theorem levels2c_yes (b : Nat) (x y : Int) (W : World) (h1 : W.cell? ⟨b, 0, none⟩ = some (.int .i64 x)) (h2 : W.cell? ⟨b, 1, none⟩ = some (.int .i64 y)) (hx : LvOk x) (hy : LvOk y) :
    Calls Tryd.prog 66 #[.slice (some ⟨b, 0, none⟩) 2 2] W fun e w' => e = .returned (.int .i64 0) ∧ W = w' := by
  refine levels_yes b 0 2 [x, y] W (by simp) (row2c h1 h2) ?_
  intro i h
  match i, h with
  | 0, _ => exact hx
  | 1, _ => exact hy

theorem levels2c_no (b : Nat) (x y : Int) (W : World) (h1 : W.cell? ⟨b, 0, none⟩ = some (.int .i64 x)) (h2 : W.cell? ⟨b, 1, none⟩ = some (.int .i64 y)) (h : ¬ (LvOk x ∧ LvOk y)) :
    Calls Tryd.prog 66 #[.slice (some ⟨b, 0, none⟩) 2 2] W fun e w' => e = .returned (.int .i64 1) ∧ W = w' := by
  by_cases hx : LvOk x
  · have hy : ¬ LvOk y := fun hy => h ⟨hx, hy⟩
    refine levels_no b 0 2 [x, y] W (by simp) (row2c h1 h2) 1 (by simp) ?_ ?_
    · intro i h hi
      match i, h with
      | 0, _ => exact hx
      | 1, _ => omega
    · unfold LvOk at hy
      simp; omega
  · refine levels_no b 0 2 [x, y] W (by simp) (row2c h1 h2) 0 (by simp) (by omega) ?_
    unfold LvOk at hx
    simp; omega

theorem first2c (b : Nat) (x y : Int) (W : World) (h1 : W.cell? ⟨b, 0, none⟩ = some (.int .i64 x)) (h2 : W.cell? ⟨b, 1, none⟩ = some (.int .i64 y)) :
    Calls Tryd.prog 62 #[.slice (some ⟨b, 0, none⟩) 2 2] W fun e w' => e = .returned (.int .i64 (if x = 0 then y else x)) ∧ W = w' := by
  refine (first_any b 0 2 [x, y] W (by simp) (row2c h1 h2)).mono ?_
  rintro e w' ⟨rfl, rfl⟩
  refine ⟨?_, rfl⟩
  simp only [firstF]
  congr 2
  split
  · split <;> omega
  · rfl

set_option maxHeartbeats 400000 in
theorem isTime_yes (n : Int) (w : World) (h : IsTm n) :
    Calls Tryd.prog 42 #[.int .i64 n] w fun e w' => e = .returned (.bool true) ∧ w = w' := by
  go_enter Tryd.func42, Tryd.ntmps42
  go_wp2_with (go_at_call 54; refine (within_yes _ _ _ _ h).mono ?_; rintro e w' ⟨rfl, rfl⟩)
  go_ret
  exact ⟨rfl, rfl⟩
set_option maxHeartbeats 400000 in
theorem isTime_no (n : Int) (w : World) (h : n < 0 ∨ 36000000 < n) :
    Calls Tryd.prog 42 #[.int .i64 n] w fun e w' => e = .returned (.bool false) ∧ w = w' := by
  go_enter Tryd.func42, Tryd.ntmps42
  go_wp2_with (go_at_call 54; refine (within_no _ _ _ _ h).mono ?_; rintro e w' ⟨rfl, rfl⟩)
  go_ret
  exact ⟨rfl, rfl⟩

/-- what CheckFade returns -/
noncomputable def checkF (f : Fd) : Int :=
  if ¬ (LvOk f.fr ∧ LvOk f.to) then 1 else if ¬ (IsTm f.start ∧ IsTm f.delay ∧ IsTm f.time ∧ IsTm (f.start + f.delay + f.time)) then 1 else checkC f.curve

theorem checkF_right (f : Fd) : checkF f = 0 ↔ RightF f := by
  unfold checkF RightF
  by_cases h1 : LvOk f.fr ∧ LvOk f.to
  · rw [if_neg (by simpa using h1)]
    by_cases h2 : IsTm f.start ∧ IsTm f.delay ∧ IsTm f.time ∧ IsTm (f.start + f.delay + f.time)
    · rw [if_neg (by simpa using h2), checkC_right]
      exact ⟨fun h => ⟨h1.1, h1.2, h2.1, h2.2.1, h2.2.2.1, h2.2.2.2, h⟩, fun h => h.2.2.2.2.2.2⟩
    · rw [if_pos h2]
      exact ⟨fun h => by omega, fun h => absurd ⟨h.2.2.1, h.2.2.2.1, h.2.2.2.2.1, h.2.2.2.2.2.1⟩ h2⟩
  · rw [if_pos h1]
    exact ⟨fun h => by omega, fun h => absurd ⟨h.1, h.2.1⟩ h1⟩

theorem ptsV_below {w W : World} {v : Value} {ps : List (Int × Int)} (hp : PtsV w v ps) (hW : Below w.heap.size w W) : PtsV W v ps := by
  rcases hp with ⟨h, ao, cap, rfl⟩ | ⟨h, hm, b, off, cap, rfl, hb, hp⟩
  · exact .inl ⟨h, ao, cap, rfl⟩
  · exact .inr ⟨h, hm, b, off, cap, rfl, Nat.lt_of_lt_of_le hb hW.size, fun i hi => ⟨(hW.cell hb).trans (hp i hi).1, (hW.cell hb).trans (hp i hi).2⟩⟩
theorem cvV_below {w W : World} {v : Value} {c : Cv} (hv : CvV w v c) (hW : Below w.heap.size w W) : CvV W v c := by
  obtain ⟨p, rfl, hp⟩ := hv
  exact ⟨p, rfl, ptsV_below hp hW⟩
theorem fdV_below {w W : World} {v : Value} {f : Fd} (hv : FdV w v f) (hW : Below w.heap.size w W) : FdV W v f := by
  obtain ⟨p, rfl, hp⟩ := hv
  exact ⟨p, rfl, ptsV_below hp hW⟩

set_option maxHeartbeats 1000000 in
theorem checkFade_any (v : Value) (f : Fd) (w : World) (hv : FdV w v f) :
    Calls Tryd.prog 63 #[v] w fun e w' => e = .returned (.int .i64 (checkF f)) ∧ Below w.heap.size w w' := by
  obtain ⟨p, rfl, hp⟩ := hv
  by_cases h1 : LvOk f.fr ∧ LvOk f.to
  · by_cases h2 : IsTm f.start ∧ IsTm f.delay ∧ IsTm f.time ∧ IsTm (f.start + f.delay + f.time)
    · have hF : checkF f = checkC f.curve := by unfold checkF; rw [if_neg (by simpa using h1), if_neg (by simpa using h2)]
      have HF := Lib.hid hF
      obtain ⟨a1, a2⟩ := h1
      obtain ⟨b1, b2, b3, b4⟩ := h2
      have A1 := Lib.hid a1
      have A2 := Lib.hid a2
      have B1 := Lib.hid b1
      have B2 := Lib.hid b2
      have B3 := Lib.hid b3
      have B4 := Lib.hid b4
      have CC := Lib.hid (fun W (hW : Below w.heap.size w W) => checkCurve_any (.agg #[.int .i64 f.curve.kind, p]) f.curve W ⟨p, rfl, ptsV_below hp hW⟩)
      clear hF hp
      unfold IsTm at b1 b2 b3 b4
      clear a1 a2
      go_enter Tryd.func63, Tryd.ntmps63
      go_wp2_with (first
        | (go_at_call 66; refine (levels2c_yes _ _ _ _ (by simp) (by simp) A1.out A2.out).mono ?_; rintro e w' ⟨rfl, rfl⟩)
        | (go_at_call 42; refine (isTime_yes _ _ (by unfold IsTm; omega)).mono ?_; rintro e w' ⟨rfl, rfl⟩))
      refine (CC.out _ below2).mono ?_
      rintro e w' ⟨rfl, hb⟩
      go_wp2
      go_ret
      exact ⟨by rw [HF.out]; rfl, bt below2 hb⟩
    · have hF : checkF f = 1 := by unfold checkF; rw [if_neg (by simpa using h1), if_pos h2]
      have HF := Lib.hid hF
      obtain ⟨a1, a2⟩ := h1
      have A1 := Lib.hid a1
      have A2 := Lib.hid a2
      clear hF hp a1 a2
      unfold IsTm at h2
      have hcase : (f.start < 0 ∨ 36000000 < f.start) ∨ ((0 ≤ f.start ∧ f.start ≤ 36000000) ∧ (f.delay < 0 ∨ 36000000 < f.delay)) ∨ ((0 ≤ f.start ∧ f.start ≤ 36000000) ∧ (0 ≤ f.delay ∧ f.delay ≤ 36000000) ∧ (f.time < 0 ∨ 36000000 < f.time)) ∨
          ((0 ≤ f.start ∧ f.start ≤ 36000000) ∧ (0 ≤ f.delay ∧ f.delay ≤ 36000000) ∧ (0 ≤ f.time ∧ f.time ≤ 36000000) ∧ 36000000 < f.start + f.delay + f.time) := by omega
      clear h2
      rcases hcase with (h | h) | ⟨⟨b1, b1'⟩, h | h⟩ | ⟨⟨b1, b1'⟩, ⟨b2, b2'⟩, h | h⟩ | ⟨⟨b1, b1'⟩, ⟨b2, b2'⟩, ⟨b3, b3'⟩, h⟩
      all_goals
        go_enter Tryd.func63, Tryd.ntmps63
        go_wp2_with (first
          | (go_at_call 66; refine (levels2c_yes _ _ _ _ (by simp) (by simp) A1.out A2.out).mono ?_; rintro e w' ⟨rfl, rfl⟩)
          | (go_at_call 42; refine (isTime_yes _ _ (by unfold IsTm; omega)).mono ?_; rintro e w' ⟨rfl, rfl⟩)
          | (go_at_call 42; refine (isTime_no _ _ (by omega)).mono ?_; rintro e w' ⟨rfl, rfl⟩))
        go_ret
        exact ⟨by rw [HF.out]; rfl, below2⟩
  · have hF : checkF f = 1 := by unfold checkF; rw [if_pos h1]
    have HF := Lib.hid hF
    have A1 := Lib.hid h1
    clear hF hp h1
    go_enter Tryd.func63, Tryd.ntmps63
    go_wp2_with (go_at_call 66; refine (levels2c_no _ _ _ _ (by simp) (by simp) A1.out).mono ?_; rintro e w' ⟨rfl, rfl⟩)
    go_ret
    exact ⟨by rw [HF.out]; rfl, below2⟩

set_option maxHeartbeats 1000000 in
theorem at_any (v : Value) (f : Fd) (t : Int) (w : World) (hv : FdV w v f) (hf : RightF f) (ht : IsTm t) :
    Calls Tryd.prog 64 #[v, .int .i64 t] w fun e w' => e = .returned (.int .i64 (atV f t)) ∧ Below w.heap.size w w' := by
  obtain ⟨p, rfl, hp⟩ := hv
  obtain ⟨a1, a2, b1, b2, b3, b4, hc⟩ := hf
  unfold IsTm at ht b1 b2 b3 b4
  by_cases h1 : f.start + f.delay + f.time ≤ t
  · have HF := Lib.hid (show atV f t = f.to from if_pos h1)
    clear hc hp a1 a2
    go_enter Tryd.func64, Tryd.ntmps64
    go_wp2
    go_ret
    exact ⟨by rw [HF.out]; rfl, below1⟩
  · by_cases h2 : t ≤ f.start + f.delay
    · have HF := Lib.hid (show atV f t = f.fr by unfold atV; rw [if_neg h1, if_pos h2])
      clear hc hp a1 a2
      go_enter Tryd.func64, Tryd.ntmps64
      go_wp2
      go_ret
      exact ⟨by rw [HF.out]; rfl, below1⟩
    · have HF := Lib.hid (show atV f t = f.fr + rnd ((f.to - f.fr) * wayN f.curve (t - (f.start + f.delay)) f.time) (wayD f.curve (t - (f.start + f.delay)) f.time) by unfold atV; rw [if_neg h1, if_neg h2])
      have hr := way_range f.curve hc (t - (f.start + f.delay)) f.time (by omega) (by omega) (by omega)
      have hd := wayD_bound f.curve hc (t - (f.start + f.delay)) f.time (by omega) (by omega) (by omega) (by omega)
      have CC := Lib.hid (fun W (hW : Below w.heap.size w W) => way_any (.agg #[.int .i64 f.curve.kind, p]) f.curve (t - (f.start + f.delay)) f.time W ⟨p, rfl, ptsV_below hp hW⟩ hc (by omega) (by omega) (by omega) (by omega))
      have TT := Lib.hid (fun W => toward_any f.fr f.to (wayN f.curve (t - (f.start + f.delay)) f.time) (wayD f.curve (t - (f.start + f.delay)) f.time) W a1 a2 hr.2.1 hr.2.2 hr.1 hd)
      clear hr hd hc hp a1 a2
      generalize wayN f.curve (t - (f.start + f.delay)) f.time = n at *
      generalize wayD f.curve (t - (f.start + f.delay)) f.time = d at *
      go_enter Tryd.func64, Tryd.ntmps64
      go_wp2_with fail
      refine (CC.out _ below1).mono ?_
      rintro e w1 ⟨rfl, hb⟩
      have hs1 : w.heap.size < w1.heap.size := by have := hb.size; simp at this; omega
      have hs2 : w.heap.size < w1.heap.size + 1 := by omega
      have e1 : w1.cell? ⟨w.heap.size, 0, none⟩ = some (.int .i64 f.fr) := (hb.cell (by simp)).trans (by simp)
      have e2 : w1.cell? ⟨w.heap.size, 1, none⟩ = some (.int .i64 f.to) := (hb.cell (by simp)).trans (by simp)
      have hbw := bt below1 hb
      clear hb
      go_wp2_with fail
      refine (TT.out _).mono ?_
      rintro e w2 ⟨rfl, hb2⟩
      go_wp2
      go_ret
      exact ⟨by rw [HF.out]; rfl, bt (bt hbw below2) hb2⟩
end Go.Proofs.YtdicoggpcobbpaaDoor
