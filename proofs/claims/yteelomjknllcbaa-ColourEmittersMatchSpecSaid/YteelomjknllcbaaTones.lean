/- Contracts of ToneOf and FromTone of both sides, and of the reference's Check. (printed by wip/gen/gen_tones.py) -/
import Derived.Test.YteelomjknllcbaaFromTone
import Derived.Test.YteelomjknllcbaaRMix
namespace Go.Proofs.Yteelomjknllcbaa
open Go.RowKit
set_option linter.unusedVariables false
set_option linter.unusedSimpArgs false

theorem rlev_yes (n : Int) (w : World) (h : LvOkC n) : Calls Try.prog 41 #[.int .i64 n] w fun e w' => e = .returned (.bool true) ∧ w = w' := rIsLevel_yes n w h
theorem rlev_no (n : Int) (w : World) (h : ¬ LvOkC n) : Calls Try.prog 41 #[.int .i64 n] w fun e w' => e = .returned (.bool false) ∧ w = w' := rIsLevel_no n w (by unfold LvOkC at h; omega)
theorem chk_yes {r g b : Int} (h : LvOkC r ∧ LvOkC g ∧ LvOkC b) : chkC r g b = 0 := if_pos h
theorem chk_no {r g b : Int} (h : ¬ (LvOkC r ∧ LvOkC g ∧ LvOkC b)) : chkC r g b = 1 := if_neg h
theorem pcheck_any (r g b : Int) (w : World) : Calls Try.prog 15 #[.agg #[.int .i64 r, .int .i64 g, .int .i64 b]] w fun e w' => e = .returned (.int .i64 (chkC r g b)) ∧ Below w.heap.size w w' :=
  (check_any r g b w).mono fun e w' h => ⟨h.1, by rw [h.2]; exact (Below.refl _ _).alloc (Nat.le_refl _) _⟩

set_option maxHeartbeats 1000000 in
theorem rcheck_any (r g b : Int) (w : World) : Calls Try.prog 16 #[.agg #[.int .i64 r, .int .i64 g, .int .i64 b]] w fun e w' => e = .returned (.int .i64 (chkC r g b)) ∧ Below w.heap.size w w' := by
  have hw : Below w.heap.size w (w.alloc (.cells #[.int .i64 r, .int .i64 g, .int .i64 b] 23)) := (Below.refl _ _).alloc (Nat.le_refl _) _
  by_cases hr : LvOkC r
  · by_cases hg : LvOkC g
    · by_cases hb : LvOkC b
      · have HF := Lib.hid (show chkC r g b = 0 from chk_yes (⟨hr, hg, hb⟩))
        have Hr := Lib.hid hr
        have Hg := Lib.hid hg
        have Hb := Lib.hid hb
        clear hr hg hb
        have HW := Lib.hid hw
        clear hw
        go_enter Try.func16, Try.ntmps16
        go_wp2_with fail
        refine (rlev_yes _ _ Hr.out).mono ?_
        rintro e w' ⟨rfl, rfl⟩
        go_wp2_with fail
        refine (rlev_yes _ _ Hg.out).mono ?_
        rintro e w' ⟨rfl, rfl⟩
        go_wp2_with fail
        refine (rlev_yes _ _ Hb.out).mono ?_
        rintro e w' ⟨rfl, rfl⟩
        go_wp2
        go_ret
        exact ⟨by rw [HF.out]; rfl, HW.out⟩
      · have HF := Lib.hid (show chkC r g b = 1 from chk_no (fun h => hb h.2.2))
        have Hr := Lib.hid hr
        have Hg := Lib.hid hg
        have Hb := Lib.hid hb
        clear hr hg hb
        have HW := Lib.hid hw
        clear hw
        go_enter Try.func16, Try.ntmps16
        go_wp2_with fail
        refine (rlev_yes _ _ Hr.out).mono ?_
        rintro e w' ⟨rfl, rfl⟩
        go_wp2_with fail
        refine (rlev_yes _ _ Hg.out).mono ?_
        rintro e w' ⟨rfl, rfl⟩
        go_wp2_with fail
        refine (rlev_no _ _ Hb.out).mono ?_
        rintro e w' ⟨rfl, rfl⟩
        go_wp2
        go_ret
        exact ⟨by rw [HF.out]; rfl, HW.out⟩
    · have HF := Lib.hid (show chkC r g b = 1 from chk_no (fun h => hg h.2.1))
      have Hr := Lib.hid hr
      have Hg := Lib.hid hg
      clear hr hg
      have HW := Lib.hid hw
      clear hw
      go_enter Try.func16, Try.ntmps16
      go_wp2_with fail
      refine (rlev_yes _ _ Hr.out).mono ?_
      rintro e w' ⟨rfl, rfl⟩
      go_wp2_with fail
      refine (rlev_no _ _ Hg.out).mono ?_
      rintro e w' ⟨rfl, rfl⟩
      go_wp2
      go_ret
      exact ⟨by rw [HF.out]; rfl, HW.out⟩
  · have HF := Lib.hid (show chkC r g b = 1 from chk_no (fun h => hr h.1))
    have Hr := Lib.hid hr
    clear hr
    have HW := Lib.hid hw
    clear hw
    go_enter Try.func16, Try.ntmps16
    go_wp2_with fail
    refine (rlev_no _ _ Hr.out).mono ?_
    rintro e w' ⟨rfl, rfl⟩
    go_wp2
    go_ret
    exact ⟨by rw [HF.out]; rfl, HW.out⟩

def tvH (r g b : Int) : Int := if chkC r g b = 0 then toneH r g b else 0
def tvS (r g b : Int) : Int := if chkC r g b = 0 then toneS r g b else 0
def tvV (r g b : Int) : Int := if chkC r g b = 0 then topV r g b else 0
def InTone (h s v : Int) : Prop := (0 ≤ h ∧ h ≤ 393209) ∧ LvOkC s ∧ LvOkC v
instance (h s v : Int) : Decidable (InTone h s v) := by unfold InTone; infer_instance
def ftE (h s v : Int) : Int := if InTone h s v then 0 else 1
def ftC (h s v : Int) : Int × Int × Int := if InTone h s v then frT h s v else (0, 0, 0)
/-- the parameter's variable and the result's one, ahead of a call -/
theorem two_boxes {w w1 : World} {a0 a1 a2 c0 c1 c2 : Value} {T U : TypeId} (hb : Below ((w.alloc (.cells #[a0, a1, a2] T)).alloc (.cells #[c0, c1, c2] U)).heap.size ((w.alloc (.cells #[a0, a1, a2] T)).alloc (.cells #[c0, c1, c2] U)) w1) :
    Box3 w1 w.heap.size a0 a1 a2 ∧ Box3 w1 (w.heap.size + 1) c0 c1 c2 ∧ Below w.heap.size w w1 ∧ w.heap.size + 1 < w1.heap.size := by
  have hz := hb.size
  simp at hz
  have a := ((box_new w a0 a1 a2 T).alloc (by simp) (.cells #[c0, c1, c2] U)).below hb (by simp <;> omega)
  have c := (box_new (w.alloc (.cells #[a0, a1, a2] T)) c0 c1 c2 U).below hb (by simp)
  exact ⟨a, by simpa using c, (((Below.refl _ _).alloc (Nat.le_refl _) _).alloc (by simp) _).trans (hb.mono (by simp <;> omega)), by omega⟩

set_option maxHeartbeats 1000000 in
theorem ToneOf_any (r g b : Int) (w : World) : Calls Try.prog 11 #[.agg #[.int .i64 r, .int .i64 g, .int .i64 b]] w fun e w' => e = .returned (.tuple #[.agg #[.int .i64 (tvH r g b), .int .i64 (tvS r g b), .int .i64 (tvV r g b)], .int .i64 (chkC r g b)]) ∧ Below w.heap.size w w' := by
  have CH := Lib.hid (fun W => pcheck_any r g b W)
  unfold tvH tvS tvV
  by_cases hc : LvOkC r ∧ LvOkC g ∧ LvOkC b
  · rw [chk_yes hc] at CH ⊢
    simp only [if_true]
    have TN := Lib.hid (fun W => toneOf_any r g b W hc.1 hc.2.1 hc.2.2)
    clear hc
    generalize toneH r g b = th at *
    generalize toneS r g b = ts at *
    generalize topV r g b = tv at *
    go_enter Try.func11, Try.ntmps11
    go_wp2_with fail
    refine (CH.out _).mono ?_
    rintro e w1 ⟨rfl, hb1⟩
    obtain ⟨⟨x0, x1, x2, _, _, _⟩, hB, hw1, hz⟩ := two_boxes hb1
    have HB := Lib.hid hB
    have HW := Lib.hid hw1
    obtain ⟨_, _, _, _, _, _⟩ := hB
    clear hb1 hw1
    go_wp2_with fail
    refine (TN.out _).mono ?_
    rintro e w2 ⟨rfl, hb2⟩
    obtain ⟨p0, p1, p2, p3, p4, p5⟩ := HB.out.below hb2 hz
    have HW2 := Lib.hid (bt' HW.out hb2)
    clear hb2
    go_wp2
    exact bodyPost_ret (v := .tuple #[.agg #[.int .i64 th, .int .i64 ts, .int .i64 tv], .int .i64 0]) (by simp [results, Try.results11, go_sem, p0, p1, p2]) rfl ⟨rfl, below_set3 HW2.out (by omega)⟩
  · rw [chk_no hc] at CH ⊢
    simp only [show ¬ ((1 : Int) = 0) by decide, if_false]
    clear hc
    go_enter Try.func11, Try.ntmps11
    go_wp2_with fail
    refine (CH.out _).mono ?_
    rintro e w1 ⟨rfl, hb1⟩
    obtain ⟨_, ⟨p0, p1, p2, p3, p4, p5⟩, hw1, hz⟩ := two_boxes hb1
    have HW := Lib.hid hw1
    clear hb1 hw1
    go_wp2
    exact bodyPost_ret (v := .tuple #[.agg #[.int .i64 0, .int .i64 0, .int .i64 0], .int .i64 1]) (by simp [results, Try.results11, go_sem, p0, p1, p2]) rfl ⟨rfl, by first | exact below_set3 HW.out (by omega) | exact HW.out⟩

set_option maxHeartbeats 1000000 in
theorem rToneOf_any (r g b : Int) (w : World) : Calls Try.prog 12 #[.agg #[.int .i64 r, .int .i64 g, .int .i64 b]] w fun e w' => e = .returned (.tuple #[.agg #[.int .i64 (tvH r g b), .int .i64 (tvS r g b), .int .i64 (tvV r g b)], .int .i64 (chkC r g b)]) ∧ Below w.heap.size w w' := by
  have CH := Lib.hid (fun W => rcheck_any r g b W)
  unfold tvH tvS tvV
  by_cases hc : LvOkC r ∧ LvOkC g ∧ LvOkC b
  · rw [chk_yes hc] at CH ⊢
    simp only [if_true]
    have TN := Lib.hid (fun W => rtone_any r g b W hc.1 hc.2.1 hc.2.2)
    clear hc
    generalize toneH r g b = th at *
    generalize toneS r g b = ts at *
    generalize topV r g b = tv at *
    go_enter Try.func12, Try.ntmps12
    go_wp2_with fail
    refine (CH.out _).mono ?_
    rintro e w1 ⟨rfl, hb1⟩
    obtain ⟨⟨x0, x1, x2, _, _, _⟩, hB, hw1, hz⟩ := two_boxes hb1
    have HB := Lib.hid hB
    have HW := Lib.hid hw1
    obtain ⟨_, _, _, _, _, _⟩ := hB
    clear hb1 hw1
    go_wp2_with fail
    refine (TN.out _).mono ?_
    rintro e w2 ⟨rfl, hb2⟩
    obtain ⟨p0, p1, p2, p3, p4, p5⟩ := HB.out.below hb2 hz
    have HW2 := Lib.hid (bt' HW.out hb2)
    clear hb2
    go_wp2
    exact bodyPost_ret (v := .tuple #[.agg #[.int .i64 th, .int .i64 ts, .int .i64 tv], .int .i64 0]) (by simp [results, Try.results12, go_sem, p0, p1, p2]) rfl ⟨rfl, below_set3 HW2.out (by omega)⟩
  · rw [chk_no hc] at CH ⊢
    simp only [show ¬ ((1 : Int) = 0) by decide, if_false]
    clear hc
    go_enter Try.func12, Try.ntmps12
    go_wp2_with fail
    refine (CH.out _).mono ?_
    rintro e w1 ⟨rfl, hb1⟩
    obtain ⟨_, ⟨p0, p1, p2, p3, p4, p5⟩, hw1, hz⟩ := two_boxes hb1
    have HW := Lib.hid hw1
    clear hb1 hw1
    go_wp2
    exact bodyPost_ret (v := .tuple #[.agg #[.int .i64 0, .int .i64 0, .int .i64 0], .int .i64 1]) (by simp [results, Try.results12, go_sem, p0, p1, p2]) rfl ⟨rfl, by first | exact below_set3 HW.out (by omega) | exact HW.out⟩

set_option maxHeartbeats 1000000 in
theorem FromTone_any (h s v : Int) (w : World) : Calls Try.prog 13 #[.agg #[.int .i64 h, .int .i64 s, .int .i64 v]] w fun e w' => e = .returned (.tuple #[.agg #[.int .i64 (ftC h s v).1, .int .i64 (ftC h s v).2.1, .int .i64 (ftC h s v).2.2], .int .i64 (ftE h s v)]) ∧ Below w.heap.size w w' := by
  have hw : Below w.heap.size w ((w.alloc (.cells #[.int .i64 h, .int .i64 s, .int .i64 v] 25)).alloc (.cells #[.int .i64 0, .int .i64 0, .int .i64 0] 23)) := ((Below.refl _ _).alloc (Nat.le_refl _) _).alloc (by simp) _
  have HW := Lib.hid hw
  clear hw
  by_cases hc : InTone h s v
  · have TN := Lib.hid (fun W => fromTone_any h s v W hc.1 hc.2.1 hc.2.2)
    have e1 : ftE h s v = 0 := if_pos hc
    have e2 : ftC h s v = frT h s v := if_pos hc
    rw [e1, e2]
    have Hh := Lib.hid hc.1
    have Hs := Lib.hid hc.2.1
    have Hv := Lib.hid hc.2.2
    clear hc e1 e2
    generalize frT h s v = ft at *
    obtain ⟨fa, fb, fc⟩ := ft
    go_enter Try.func13, Try.ntmps13
    go_wp2_with fail
    refine (within_yes _ _ _ _ Hh.out).mono ?_
    rintro e w' ⟨rfl, rfl⟩
    go_wp2_with fail
    refine (cLevel_yes _ _ Hs.out).mono ?_
    rintro e w' ⟨rfl, rfl⟩
    go_wp2_with fail
    refine (cLevel_yes _ _ Hv.out).mono ?_
    rintro e w' ⟨rfl, rfl⟩
    go_wp2_with fail
    refine (TN.out _).mono ?_
    rintro e w2 ⟨rfl, hb2⟩
    obtain ⟨_, ⟨p0, p1, p2, p3, p4, p5⟩, hw2, hz⟩ := two_boxes hb2
    have HW2 := Lib.hid hw2
    clear hb2 hw2
    go_wp2
    exact bodyPost_ret (v := .tuple #[.agg #[.int .i64 fa, .int .i64 fb, .int .i64 fc], .int .i64 0]) (by simp [results, Try.results13, go_sem, p0, p1, p2]) rfl ⟨rfl, below_set3 HW2.out (by omega)⟩
  · have e1 : ftE h s v = 1 := if_neg hc
    have e2 : ftC h s v = (0, 0, 0) := if_neg hc
    rw [e1, e2]
    unfold InTone at hc
    clear e1 e2
    have hcase : (h < 0 ∨ 393209 < h) ∨ ((0 ≤ h ∧ h ≤ 393209) ∧ ¬ LvOkC s) ∨ ((0 ≤ h ∧ h ≤ 393209) ∧ LvOkC s ∧ ¬ LvOkC v) := by
      by_cases a : 0 ≤ h ∧ h ≤ 393209
      · by_cases c : LvOkC s
        · exact .inr (.inr ⟨a, c, fun d => hc ⟨a, c, d⟩⟩)
        · exact .inr (.inl ⟨a, c⟩)
      · exact .inl (by omega)
    clear hc
    rcases hcase with a | ⟨a, c⟩ | ⟨a, c, d⟩
    · have Hh := Lib.hid a
      clear a
      go_enter Try.func13, Try.ntmps13
      go_wp2_with fail
      refine (within_no _ _ _ _ Hh.out).mono ?_
      rintro e w' ⟨rfl, rfl⟩
      go_wp2
      exact bodyPost_ret (v := .tuple #[.agg #[.int .i64 0, .int .i64 0, .int .i64 0], .int .i64 1]) (by simp [results, Try.results13, go_sem, World.cell?_alloc_past]) rfl ⟨rfl, by first | exact HW.out | exact below_set3 HW.out (by omega)⟩
    · have Hh := Lib.hid a
      have Hs := Lib.hid c
      clear a c
      go_enter Try.func13, Try.ntmps13
      go_wp2_with fail
      refine (within_yes _ _ _ _ Hh.out).mono ?_
      rintro e w' ⟨rfl, rfl⟩
      go_wp2_with fail
      refine (cLevel_no _ _ Hs.out).mono ?_
      rintro e w' ⟨rfl, rfl⟩
      go_wp2
      exact bodyPost_ret (v := .tuple #[.agg #[.int .i64 0, .int .i64 0, .int .i64 0], .int .i64 1]) (by simp [results, Try.results13, go_sem, World.cell?_alloc_past]) rfl ⟨rfl, by first | exact HW.out | exact below_set3 HW.out (by omega)⟩
    · have Hh := Lib.hid a
      have Hs := Lib.hid c
      have Hv := Lib.hid d
      clear a c d
      go_enter Try.func13, Try.ntmps13
      go_wp2_with fail
      refine (within_yes _ _ _ _ Hh.out).mono ?_
      rintro e w' ⟨rfl, rfl⟩
      go_wp2_with fail
      refine (cLevel_yes _ _ Hs.out).mono ?_
      rintro e w' ⟨rfl, rfl⟩
      go_wp2_with fail
      refine (cLevel_no _ _ Hv.out).mono ?_
      rintro e w' ⟨rfl, rfl⟩
      go_wp2
      exact bodyPost_ret (v := .tuple #[.agg #[.int .i64 0, .int .i64 0, .int .i64 0], .int .i64 1]) (by simp [results, Try.results13, go_sem, World.cell?_alloc_past]) rfl ⟨rfl, by first | exact HW.out | exact below_set3 HW.out (by omega)⟩

set_option maxHeartbeats 1000000 in
theorem rFromTone_any (h s v : Int) (w : World) : Calls Try.prog 14 #[.agg #[.int .i64 h, .int .i64 s, .int .i64 v]] w fun e w' => e = .returned (.tuple #[.agg #[.int .i64 (ftC h s v).1, .int .i64 (ftC h s v).2.1, .int .i64 (ftC h s v).2.2], .int .i64 (ftE h s v)]) ∧ Below w.heap.size w w' := by
  have hw : Below w.heap.size w ((w.alloc (.cells #[.int .i64 h, .int .i64 s, .int .i64 v] 25)).alloc (.cells #[.int .i64 0, .int .i64 0, .int .i64 0] 23)) := ((Below.refl _ _).alloc (Nat.le_refl _) _).alloc (by simp) _
  have HW := Lib.hid hw
  clear hw
  by_cases hc : InTone h s v
  · have TN := Lib.hid (fun W => rfrom_any h s v W hc.1 hc.2.1 hc.2.2)
    have e1 : ftE h s v = 0 := if_pos hc
    have e2 : ftC h s v = frT h s v := if_pos hc
    rw [e1, e2]
    have Hh := Lib.hid hc.1
    have Hs := Lib.hid hc.2.1
    have Hv := Lib.hid hc.2.2
    clear hc e1 e2
    generalize frT h s v = ft at *
    obtain ⟨fa, fb, fc⟩ := ft
    go_enter Try.func14, Try.ntmps14
    go_wp2_with fail
    refine (r1within_yes _ _ _ _ Hh.out).mono ?_
    rintro e w' ⟨rfl, rfl⟩
    go_wp2_with fail
    refine (rlev_yes _ _ Hs.out).mono ?_
    rintro e w' ⟨rfl, rfl⟩
    go_wp2_with fail
    refine (rlev_yes _ _ Hv.out).mono ?_
    rintro e w' ⟨rfl, rfl⟩
    go_wp2_with fail
    refine (TN.out _).mono ?_
    rintro e w2 ⟨rfl, hb2⟩
    obtain ⟨_, ⟨p0, p1, p2, p3, p4, p5⟩, hw2, hz⟩ := two_boxes hb2
    have HW2 := Lib.hid hw2
    clear hb2 hw2
    go_wp2
    exact bodyPost_ret (v := .tuple #[.agg #[.int .i64 fa, .int .i64 fb, .int .i64 fc], .int .i64 0]) (by simp [results, Try.results14, go_sem, p0, p1, p2]) rfl ⟨rfl, below_set3 HW2.out (by omega)⟩
  · have e1 : ftE h s v = 1 := if_neg hc
    have e2 : ftC h s v = (0, 0, 0) := if_neg hc
    rw [e1, e2]
    unfold InTone at hc
    clear e1 e2
    have hcase : (h < 0 ∨ 393209 < h) ∨ ((0 ≤ h ∧ h ≤ 393209) ∧ ¬ LvOkC s) ∨ ((0 ≤ h ∧ h ≤ 393209) ∧ LvOkC s ∧ ¬ LvOkC v) := by
      by_cases a : 0 ≤ h ∧ h ≤ 393209
      · by_cases c : LvOkC s
        · exact .inr (.inr ⟨a, c, fun d => hc ⟨a, c, d⟩⟩)
        · exact .inr (.inl ⟨a, c⟩)
      · exact .inl (by omega)
    clear hc
    rcases hcase with a | ⟨a, c⟩ | ⟨a, c, d⟩
    · have Hh := Lib.hid a
      clear a
      go_enter Try.func14, Try.ntmps14
      go_wp2_with fail
      refine (r1within_no _ _ _ _ Hh.out).mono ?_
      rintro e w' ⟨rfl, rfl⟩
      go_wp2
      exact bodyPost_ret (v := .tuple #[.agg #[.int .i64 0, .int .i64 0, .int .i64 0], .int .i64 1]) (by simp [results, Try.results14, go_sem, World.cell?_alloc_past]) rfl ⟨rfl, by first | exact HW.out | exact below_set3 HW.out (by omega)⟩
    · have Hh := Lib.hid a
      have Hs := Lib.hid c
      clear a c
      go_enter Try.func14, Try.ntmps14
      go_wp2_with fail
      refine (r1within_yes _ _ _ _ Hh.out).mono ?_
      rintro e w' ⟨rfl, rfl⟩
      go_wp2_with fail
      refine (rlev_no _ _ Hs.out).mono ?_
      rintro e w' ⟨rfl, rfl⟩
      go_wp2
      exact bodyPost_ret (v := .tuple #[.agg #[.int .i64 0, .int .i64 0, .int .i64 0], .int .i64 1]) (by simp [results, Try.results14, go_sem, World.cell?_alloc_past]) rfl ⟨rfl, by first | exact HW.out | exact below_set3 HW.out (by omega)⟩
    · have Hh := Lib.hid a
      have Hs := Lib.hid c
      have Hv := Lib.hid d
      clear a c d
      go_enter Try.func14, Try.ntmps14
      go_wp2_with fail
      refine (r1within_yes _ _ _ _ Hh.out).mono ?_
      rintro e w' ⟨rfl, rfl⟩
      go_wp2_with fail
      refine (rlev_yes _ _ Hs.out).mono ?_
      rintro e w' ⟨rfl, rfl⟩
      go_wp2_with fail
      refine (rlev_no _ _ Hv.out).mono ?_
      rintro e w' ⟨rfl, rfl⟩
      go_wp2
      exact bodyPost_ret (v := .tuple #[.agg #[.int .i64 0, .int .i64 0, .int .i64 0], .int .i64 1]) (by simp [results, Try.results14, go_sem, World.cell?_alloc_past]) rfl ⟨rfl, by first | exact HW.out | exact below_set3 HW.out (by omega)⟩
end Go.Proofs.Yteelomjknllcbaa
