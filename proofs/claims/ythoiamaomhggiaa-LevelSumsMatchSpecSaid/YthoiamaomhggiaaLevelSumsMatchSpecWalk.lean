/- The walk of cycloramalaw1.LevelSumsMatchSpec: for every input it returns true. -/
import Derived.Test.YthoiamaomhggiaaSums
namespace Go.Proofs.Ythoiamaomhggiaa.levelSumsMatchSpec
open Go.RowKit
set_option linter.unusedVariables false
set_option linter.unusedSimpArgs false

set_option maxHeartbeats 2000000 in
theorem walk (a b p q o : Int) (w : World) (_w0 : (Lit.int .i64 a).wf = true) (_w1 : (Lit.int .i64 b).wf = true) (_w2 : (Lit.int .i64 p).wf = true) (_w3 : (Lit.int .i64 q).wf = true) (w4 : (Lit.int .u8 o).wf = true) :
    Calls Try.prog 5 #[.int .i64 a, .int .i64 b, .int .i64 p, .int .i64 q, .int .u8 o] w fun e w' => e = .returned (.bool true) ∧ Below w.heap.size w w' := by
  have hb : 0 ≤ o ∧ o ≤ 255 := by
    simp [Lit.wf, IntKind.min, IntKind.max, IntKind.signed, IntKind.bits] at w4
    omega
  obtain ⟨hb0, hb1⟩ := hb
  clear w4 _w0 _w1 _w2 _w3
  have C1 := Lib.hid (fun W => scale_any a b W)
  have C2 := Lib.hid (fun W => rScale_any a b W)
  have C3 := Lib.hid (fun W => Mix_any a b p q W)
  have C4 := Lib.hid (fun W => rMix_any a b p q W)
  have C5 := Lib.hid (fun W => Octet_any a W)
  have C6 := Lib.hid (fun W => rOctet_any a W)
  generalize scaleV a b = x1 at *
  generalize scaleF a b = f1 at *
  generalize mixR a b p q = x2 at *
  generalize mixE a b p q = f2 at *
  generalize octR a = x3 at *
  generalize octE a = f3 at *
  go_enter Try.func5, Try.ntmps5
  go_wp2_with fail
  refine (C1.out _).mono ?_
  rintro e w1 ⟨rfl, hb1⟩
  go_wp2_with fail
  refine (C2.out _).mono ?_
  rintro e w2 ⟨rfl, hb2⟩
  go_wp2_with fail
  refine (C3.out _).mono ?_
  rintro e w3 ⟨rfl, hb3⟩
  go_wp2_with fail
  refine (C4.out _).mono ?_
  rintro e w4 ⟨rfl, hb4⟩
  go_wp2_with fail
  refine (C5.out _).mono ?_
  rintro e w5 ⟨rfl, hb5⟩
  go_wp2_with fail
  refine (C6.out _).mono ?_
  rintro e w6 ⟨rfl, hb6⟩
  go_wp2
  go_ret
  exact ⟨by simp, bt (bt (bt (bt (bt hb1 hb2) hb3) hb4) hb5) hb6⟩
end Go.Proofs.Ythoiamaomhggiaa.levelSumsMatchSpec
