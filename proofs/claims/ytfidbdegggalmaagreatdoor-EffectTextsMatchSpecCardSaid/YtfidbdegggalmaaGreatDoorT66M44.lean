/- The walk of cycloramalaw7.EffectTextsMatchSpec: for every text it returns true. (printed by wip/gen/gen_erread2.py) -/
import Derived.Test.YtfidbdegggalmaaGreatDoorT66M34
import Derived.Test.YtfidbdegggalmaaGreatDoorT66M38
import Derived.Test.YtfidbdegggalmaaGreatDoorT66M43

namespace Go.Proofs.YtfidbdegggalmaaGreatDoor.effectTextsMatchSpec
open Go.RowKit
set_option linter.unusedVariables false
set_option linter.unusedSimpArgs false

set_option maxRecDepth 100000 in
set_option maxHeartbeats 8000000 in
theorem walk (s : ByteArray) (w : World) (hs : s.size ≤ maxLen) (hT : TextW w) :
    Calls Tryz.prog 3 #[.string s] w fun e w' => e = .returned (.bool true) ∧ Below w.heap.size w w' := by
  obtain ⟨E, hE⟩ : ∃ E, rdR s = E := ⟨_, rfl⟩
  obtain ⟨F, hF⟩ : ∃ F, rdE s = F := ⟨_, rfl⟩
  obtain ⟨form, low, high, cycle, width, spread, back, rel, l⟩ := E
  have C1 := Lib.hid (show ∀ W, Below w.heap.size w W → Calls Tryz.prog 4 #[.string s] W fun e w' => Below W.heap.size W w' ∧ ∃ sx, e = .returned (.tuple #[.agg #[.int .i64 form, .int .i64 low, .int .i64 high, .int .i64 cycle, .int .i64 width, .int .i64 spread, .bool back, .bool rel, sx], .int .i64 F]) ∧ StS w'.heap.size w' sx l from fun W hb => by
    refine (eRead_any s W (hT.below hb)).mono (fun e w' h => ?_)
    unfold ReadPost at h
    rw [hE, hF] at h
    exact h)
  have C2 := Lib.hid (show ∀ W, Below w.heap.size w W → Calls Tryz.prog 5 #[.string s] W fun e w' => Below W.heap.size W w' ∧ ∃ sx, e = .returned (.tuple #[.agg #[.int .i64 form, .int .i64 low, .int .i64 high, .int .i64 cycle, .int .i64 width, .int .i64 spread, .bool back, .bool rel, sx], .int .i64 F]) ∧ StS w'.heap.size w' sx l from fun W hb => by
    refine (rRead_any s W (hT.below hb)).mono (fun e w' h => ?_)
    unfold ReadPost at h
    rw [hE, hF] at h
    exact h)
  clear hE hF hs hT
  go_enter Tryz.func3, Tryz.ntmps3
  go_wp2_with fail
  refine (C1.out _ (Below.refl _ _)).mono ?_
  rintro e w1 ⟨hb1, sx, rfl, hsx⟩
  obtain ⟨ax, cx, rfl, hlx, _⟩ := id hsx
  have HL := Lib.hid (show l.length ≤ 9223372036854775807 by unfold maxLen at hlx; omega)
  have HB1 := Lib.hid (hb1.alloc hb1.size (.cells #[.int .i64 form, .int .i64 low, .int .i64 high, .int .i64 cycle, .int .i64 width, .int .i64 spread, .bool back, .bool rel, .slice ax l.length cx] 24))
  have HT1 := Lib.hid (show TBox (w1.alloc (.cells #[.int .i64 form, .int .i64 low, .int .i64 high, .int .i64 cycle, .int .i64 width, .int .i64 spread, .bool back, .bool rel, .slice ax l.length cx] 24)) w1.heap.size 24 #[.int .i64 form, .int .i64 low, .int .i64 high, .int .i64 cycle, .int .i64 width, .int .i64 spread, .bool back, .bool rel, .slice ax l.length cx] from TBox.new _ _ _)
  have HS1 := Lib.hid ((hsx.below ((Below.refl _ _).alloc (Nat.le_refl _) (.cells #[.int .i64 form, .int .i64 low, .int .i64 high, .int .i64 cycle, .int .i64 width, .int .i64 spread, .bool back, .bool rel, .slice ax l.length cx] 24))).more (B' := (w1.alloc (.cells #[.int .i64 form, .int .i64 low, .int .i64 high, .int .i64 cycle, .int .i64 width, .int .i64 spread, .bool back, .bool rel, .slice ax l.length cx] 24)).heap.size) (by simp))
  clear hb1 hsx hlx
  go_wp2_with fail
  refine (C2.out _ HB1.out).mono ?_
  rintro e w2 ⟨hb2, sy, rfl, hsy⟩
  obtain ⟨ay, cy, rfl, _, _⟩ := id hsy
  have hba : Below w2.heap.size w2 (w2.alloc (.cells #[.int .i64 form, .int .i64 low, .int .i64 high, .int .i64 cycle, .int .i64 width, .int .i64 spread, .bool back, .bool rel, .slice ay l.length cy] 24)) := (Below.refl _ _).alloc (Nat.le_refl _) _
  have hT2 := (HT1.out.below hb2).below hba
  have HS2 := Lib.hid (((HS1.out.below hb2).more hb2.size).below hba)
  have HS3 := Lib.hid ((hsy.below hba).more (B' := (w2.alloc (.cells #[.int .i64 form, .int .i64 low, .int .i64 high, .int .i64 cycle, .int .i64 width, .int .i64 spread, .bool back, .bool rel, .slice ay l.length cy] 24)).heap.size) (by simp))
  have HS2' := Lib.hid (HS2.out.more (B' := (w2.alloc (.cells #[.int .i64 form, .int .i64 low, .int .i64 high, .int .i64 cycle, .int .i64 width, .int .i64 spread, .bool back, .bool rel, .slice ay l.length cy] 24)).heap.size) (by simp))
  have HB2 := Lib.hid ((HB1.out.trans (hb2.mono HB1.out.size)).trans (hba.mono (HB1.out.trans (hb2.mono HB1.out.size)).size))
  have e0 := hT2.cell (i := 0) rfl
  have e1 := hT2.cell (i := 1) rfl
  have e2 := hT2.cell (i := 2) rfl
  have e3 := hT2.cell (i := 3) rfl
  have e4 := hT2.cell (i := 4) rfl
  have e5 := hT2.cell (i := 5) rfl
  have e6 := hT2.cell (i := 6) rfl
  have e7 := hT2.cell (i := 7) rfl
  have e8 := hT2.cell (i := 8) rfl
  have el := hT2.lt
  clear hb2 hsy hba hT2
  go_wp2_with fail
  refine (sameEffect_any form low high cycle width spread back rel l _ _ _ (RowC.of_steps HS2'.out) (RowC.of_steps HS3.out) HL.out).mono ?_
  rintro e w3 ⟨rfl, hb3⟩
  have HB3 := Lib.hid (HB2.out.trans (hb3.mono HB2.out.size))
  clear hb3
  go_wp2_with fail
  go_ret
  exact ⟨by first | rfl | (simp; done), HB3.out⟩
end Go.Proofs.YtfidbdegggalmaaGreatDoor.effectTextsMatchSpec
