/- level.Reach and its closure. -/
import Derived.Test.YtdicoggpcobbpaaDoorReach
import Derived.Deep.RegionHeld3
namespace Go.Proofs.YtdicoggpcobbpaaDoor
open Go.RowKit
set_option linter.unusedVariables false
set_option linter.unusedSimpArgs false

theorem at_end (f : Fd) : atV f (f.start + f.delay + f.time) = f.to := if_pos (Int.le_refl _)

set_option maxHeartbeats 4000000 in
theorem holds_any (f : Fd) (p : Value) (bf bk : Nat) (k t : Int) (w : World) (c0 : w.cell? ⟨bf, 0, none⟩ = some (.int .i64 f.fr)) (c1 : w.cell? ⟨bf, 1, none⟩ = some (.int .i64 f.to)) (c2 : w.cell? ⟨bf, 2, none⟩ = some (.int .i64 f.start)) (c3 : w.cell? ⟨bf, 3, none⟩ = some (.int .i64 f.delay)) (c4 : w.cell? ⟨bf, 4, none⟩ = some (.int .i64 f.time)) (c5 : w.cell? ⟨bf, 5, none⟩ = some (.int .i64 f.curve.kind)) (c6 : w.cell? ⟨bf, 6, none⟩ = some p)
    (ck : w.cell? ⟨bk, 0, none⟩ = some (.int .i64 k)) (hbf : bf < w.heap.size) (hbk : bk < w.heap.size) (hp : PtsV w p f.curve.pts) (hf : RightF f) (ht : IsTm t) :
    Calls Tryd.prog 67 #[.int .i64 t, .pointer (some ⟨bf, 0, none⟩), .pointer (some ⟨bk, 0, none⟩)] w fun e w' => e = .returned (.bool (reachB f (atV f t) k)) ∧ Below w.heap.size w w' := by
  have CA := Lib.hid (at_any (.agg #[.int .i64 f.fr, .int .i64 f.to, .int .i64 f.start, .int .i64 f.delay, .int .i64 f.time, .int .i64 f.curve.kind, p]) f t w ⟨p, rfl, hp⟩ hf ht)
  clear hp hf ht
  generalize atV f t = n at *
  by_cases h1 : f.fr < f.to
  · have h1' : ¬ f.to < f.fr := by omega
    by_cases h : k ≤ n
    · have HF := Lib.hid (show reachB f n k = true by unfold reachB; rw [if_pos h1]; simpa using h)
      go_enter Tryd.func67, Tryd.ntmps67
      go_wp2_with fail
      refine CA.out.mono ?_
      rintro e w1 ⟨rfl, hb1⟩
      have d0 := (hb1.cell (p := ⟨bf, 0, none⟩) hbf).trans c0
      have d1 := (hb1.cell (p := ⟨bf, 1, none⟩) hbf).trans c1
      have dk := (hb1.cell (p := ⟨bk, 0, none⟩) hbk).trans ck
      have HB := Lib.hid hb1
      clear hb1
      go_wp2
      go_ret
      exact ⟨by rw [HF.out]; first | rfl | simp [h], HB.out⟩
    · have HF := Lib.hid (show reachB f n k = false by unfold reachB; rw [if_pos h1]; simpa using h)
      go_enter Tryd.func67, Tryd.ntmps67
      go_wp2_with fail
      refine CA.out.mono ?_
      rintro e w1 ⟨rfl, hb1⟩
      have d0 := (hb1.cell (p := ⟨bf, 0, none⟩) hbf).trans c0
      have d1 := (hb1.cell (p := ⟨bf, 1, none⟩) hbf).trans c1
      have dk := (hb1.cell (p := ⟨bk, 0, none⟩) hbk).trans ck
      have HB := Lib.hid hb1
      clear hb1
      go_wp2
      go_ret
      exact ⟨by rw [HF.out]; first | rfl | simp [h], HB.out⟩
  · by_cases h2 : f.to < f.fr
    · by_cases h : n ≤ k
      · have HF := Lib.hid (show reachB f n k = true by unfold reachB; rw [if_neg h1, if_pos h2]; simpa using h)
        go_enter Tryd.func67, Tryd.ntmps67
        go_wp2_with fail
        refine CA.out.mono ?_
        rintro e w1 ⟨rfl, hb1⟩
        have d0 := (hb1.cell (p := ⟨bf, 0, none⟩) hbf).trans c0
        have d1 := (hb1.cell (p := ⟨bf, 1, none⟩) hbf).trans c1
        have dk := (hb1.cell (p := ⟨bk, 0, none⟩) hbk).trans ck
        have HB := Lib.hid hb1
        clear hb1
        go_wp2
        go_ret
        exact ⟨by rw [HF.out]; first | rfl | simp [h], HB.out⟩
      · have HF := Lib.hid (show reachB f n k = false by unfold reachB; rw [if_neg h1, if_pos h2]; simpa using h)
        go_enter Tryd.func67, Tryd.ntmps67
        go_wp2_with fail
        refine CA.out.mono ?_
        rintro e w1 ⟨rfl, hb1⟩
        have d0 := (hb1.cell (p := ⟨bf, 0, none⟩) hbf).trans c0
        have d1 := (hb1.cell (p := ⟨bf, 1, none⟩) hbf).trans c1
        have dk := (hb1.cell (p := ⟨bk, 0, none⟩) hbk).trans ck
        have HB := Lib.hid hb1
        clear hb1
        go_wp2
        go_ret
        exact ⟨by rw [HF.out]; first | rfl | simp [h], HB.out⟩
    · by_cases h : n = k
      · subst h
        have HF := Lib.hid (show reachB f n n = true by unfold reachB; rw [if_neg h1, if_neg h2]; simp)
        go_enter Tryd.func67, Tryd.ntmps67
        go_wp2_with fail
        refine CA.out.mono ?_
        rintro e w1 ⟨rfl, hb1⟩
        have d0 := (hb1.cell (p := ⟨bf, 0, none⟩) hbf).trans c0
        have d1 := (hb1.cell (p := ⟨bf, 1, none⟩) hbf).trans c1
        have dk := (hb1.cell (p := ⟨bk, 0, none⟩) hbk).trans ck
        have HB := Lib.hid hb1
        clear hb1
        go_wp2
        go_ret
        exact ⟨by rw [HF.out]; first | rfl | simp, HB.out⟩
      · have HF := Lib.hid (show reachB f n k = false by unfold reachB; rw [if_neg h1, if_neg h2]; simpa using h)
        have hb : (n == k) = false := by simpa using h
        go_enter Tryd.func67, Tryd.ntmps67
        go_wp2_with fail
        refine CA.out.mono ?_
        rintro e w1 ⟨rfl, hb1⟩
        have d0 := (hb1.cell (p := ⟨bf, 0, none⟩) hbf).trans c0
        have d1 := (hb1.cell (p := ⟨bf, 1, none⟩) hbf).trans c1
        have dk := (hb1.cell (p := ⟨bk, 0, none⟩) hbk).trans ck
        have HB := Lib.hid hb1
        clear hb1
        go_wp2
        go_ret
        exact ⟨by rw [HF.out]; first | rfl | simp [h], HB.out⟩
end Go.Proofs.YtdicoggpcobbpaaDoor
