/- The walk of cycloramalaw1.LevelChangesMatchSpec: for every input it returns true. -/
import Derived.Test.YthoiamaomhggiaaChgEqual
namespace Go.Proofs.Ythoiamaomhggiaa.levelChangesMatchSpec
open Go.RowKit
set_option linter.unusedVariables false
set_option linter.unusedSimpArgs false

theorem pts_shapeC {W : World} {v : Value} {ps : List (Int × Int)} (h : PtsV W v ps) : ∃ ao cap, v = .slice ao ps.length cap := by
  rcases h with ⟨rfl, ao, cap, rfl⟩ | ⟨h, hm, b, off, cap, rfl, hb, hp⟩
  · exact ⟨ao, cap, rfl⟩
  · exact ⟨_, cap, rfl⟩
theorem pts_lenC {W : World} {v : Value} {ps : List (Int × Int)} (h : PtsV W v ps) : ps.length ≤ 9223372036854775807 := by
  rcases h with ⟨rfl, _⟩ | ⟨_, hm, _⟩
  · simp
  · exact hm

set_option maxHeartbeats 4000000 in
set_option maxRecDepth 100000 in
theorem walk (a0 : Value) (w : World) (w0 : ∃ f, FdV w a0 f ∧ FdFit f) :
    Calls Try.prog 11 #[a0] w fun e w' => e = .returned (.bool true) ∧ Below w.heap.size w w' := by
  obtain ⟨f, hf, _⟩ := w0
  have C1 := Lib.hid (fun W (hW : Below w.heap.size w W) => Changes_any a0 f W (fdV_below hf hW))
  have C2 := Lib.hid (fun W (hW : Below w.heap.size w W) => rChanges_any a0 f W (fdV_below hf hW))
  generalize chgL f = L at *
  generalize chgE f 2 = E at *
  obtain ⟨p, rfl, _⟩ := hf
  have KC := Lib.hid (fade1 (w := w) (f := f) (p := p))
  go_enter Try.func11, Try.ntmps11
  go_wp2_with fail
  refine (C1.out _ below1).mono ?_
  rintro e w1 ⟨v1, rfl, hp1, hb1⟩
  obtain ⟨ao1, cap1, rfl⟩ := pts_shapeC hp1
  have HP1 := Lib.hid hp1
  have HW1 := Lib.hid (bt below1 hb1)
  obtain ⟨d0, d1, d2, d3, d4, d5, d6⟩ := KC.out w1 (hb1.mono (by simp))
  clear hb1 hp1 KC
  go_wp2_with fail
  refine (C2.out _ HW1.out).mono ?_
  rintro e w2 ⟨v2, rfl, hp2, hb2⟩
  obtain ⟨ao2, cap2, rfl⟩ := pts_shapeC hp2
  have HEQ := Lib.hid (chgEqual _ _ L w2 (ptsV_below HP1.out hb2) hp2 (pts_lenC hp2))
  have HW2 := Lib.hid (bt HW1.out hb2)
  clear hb2 hp2 d0 d1 d2 d3 d4 d5 d6
  go_wp2_with fail
  refine HEQ.out.mono ?_
  rintro e w3 ⟨rfl, hb3⟩
  have HW3 := Lib.hid (bt HW2.out hb3)
  clear hb3
  go_wp2
  go_ret
  exact ⟨by simp, HW3.out⟩
end Go.Proofs.Ythoiamaomhggiaa.levelChangesMatchSpec
