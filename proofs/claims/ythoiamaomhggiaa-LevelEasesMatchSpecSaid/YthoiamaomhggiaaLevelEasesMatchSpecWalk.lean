/- The walk of cycloramalaw1.LevelEasesMatchSpec: for every input it returns true. -/
import Derived.Test.YthoiamaomhggiaaREase
namespace Go.Proofs.Ythoiamaomhggiaa.levelEasesMatchSpec
open Go.RowKit
set_option linter.unusedVariables false
set_option linter.unusedSimpArgs false

set_option maxHeartbeats 2000000 in
theorem walk (a0 : Value) (a1 : Int) (a2 : Int) (w : World) (w0 : ∃ c, CvV w a0 c ∧ CvFit c) (_w1 : (Lit.int .i64 a1).wf = true) (_w2 : (Lit.int .i64 a2).wf = true) :
    Calls Try.prog 7 #[a0, .int .i64 a1, .int .i64 a2] w fun e w' => e = .returned (.bool true) ∧ Below w.heap.size w w' := by
  obtain ⟨c, hv, _⟩ := w0
  have C1 := Lib.hid (fun W (hW : Below w.heap.size w W) => Ease_any a0 c a1 a2 W (cvV_below hv hW))
  have C2 := Lib.hid (fun W (hW : Below w.heap.size w W) => rEase_any a0 c a1 a2 W (cvV_below hv hW))
  obtain ⟨p, rfl, hp⟩ := hv
  clear hp
  generalize easeV c a1 a2 = r at *
  generalize easeE c a1 a2 = f at *
  go_enter Try.func7, Try.ntmps7
  go_wp2_with fail
  refine (C1.out _ below1).mono ?_
  rintro e w1 ⟨rfl, hb1⟩
  have HB1 := Lib.hid (bt below1 hb1)
  have e0 := boxAt hb1 0 rfl
  have e1 := boxAt hb1 1 rfl
  clear hb1
  go_wp2_with fail
  refine (C2.out _ HB1.out).mono ?_
  rintro e w2 ⟨rfl, hb2⟩
  have HB2 := Lib.hid (bt HB1.out hb2)
  clear hb2
  go_wp2
  go_ret
  exact ⟨by simp, HB2.out⟩
end Go.Proofs.Ythoiamaomhggiaa.levelEasesMatchSpec
