/- The walk of cycloramalaw7.EffectChecksMatchSpec: for every effect it returns true. (printed by wip/gen/gen_efchecks.py) -/
import Derived.Test.YtopmdeefcjdadaaDoorEfPeriod
namespace Go.Proofs.YtopmdeefcjdadaaDoor.effectChecksMatchSpec
open Go.RowKit
set_option linter.unusedVariables false
set_option linter.unusedSimpArgs false

set_option maxRecDepth 100000 in
set_option maxHeartbeats 8000000 in
theorem walk (v : Value) (w : World) (hv : EfV w v) (hT : TextW w) :
    Calls Tryd.prog 3 #[v] w fun e w' => e = .returned (.bool true) ∧ Below w.heap.size w w' := by
  obtain ⟨⟨form, low, high, cycle, width, spread, back, rel, l⟩, sv, rfl, ⟨ao, cap, rfl, hmax, hs⟩, _⟩ := hv
  obtain ⟨R, F, ht1, ht2⟩ := text_both form low high cycle width spread back rel ao cap l w hT hs hmax
  have T1 := Lib.hid ht1
  have T2 := Lib.hid ht2
  have P1 := Lib.hid (fun W (hb : Below w.heap.size w W) => efPeriod_any form low high cycle width spread back rel ao cap l W (StepsAt.below hs hb) hmax)
  have P2 := Lib.hid (fun W (hb : Below w.heap.size w W) => refPeriod_any form low high cycle width spread back rel ao cap l W (StepsAt.below hs hb) hmax)
  have C1 := Lib.hid (fun W (hb : Below w.heap.size w W) => efCheck_any form low high cycle width spread back rel ao cap l W (StepsAt.below hs hb) hmax)
  have C2 := Lib.hid (fun W (hb : Below w.heap.size w W) => refCheck_any form low high cycle width spread back rel ao cap l W (StepsAt.below hs hb) hmax)
  generalize perV (perF (chkF form low high cycle width spread l) form) (cycle + sumS l) = pv at *
  generalize perF (chkF form low high cycle width spread l) form = pf at *
  generalize chkF form low high cycle width spread l = k at *
  have KC := Lib.hid (efText_below w form low high cycle width spread back rel ao cap l)
  have KM := Lib.hid (show ∀ W W', Below (w.heap.size + 1) (w.alloc (.cells #[.int .i64 form, .int .i64 low, .int .i64 high, .int .i64 cycle, .int .i64 width, .int .i64 spread, .bool back, .bool rel, .slice ao l.length cap] 24)) W → Below W.heap.size W W' → Below (w.heap.size + 1) (w.alloc (.cells #[.int .i64 form, .int .i64 low, .int .i64 high, .int .i64 cycle, .int .i64 width, .int .i64 spread, .bool back, .bool rel, .slice ao l.length cap] 24)) W' from fun W W' h1 h2 => h1.trans (h2.mono (by have := h1.size; simp at this; omega)))
  clear ht1 ht2 hs hmax hT
  show Calls Tryd.prog 3 #[(.agg #[.int .i64 form, .int .i64 low, .int .i64 high, .int .i64 cycle, .int .i64 width, .int .i64 spread, .bool back, .bool rel, .slice ao l.length cap])] w fun e w' => e = .returned (.bool true) ∧ Below w.heap.size w w'
  have hw0 : Below (w.heap.size + 1) (w.alloc (.cells #[.int .i64 form, .int .i64 low, .int .i64 high, .int .i64 cycle, .int .i64 width, .int .i64 spread, .bool back, .bool rel, .slice ao l.length cap] 24)) (w.alloc (.cells #[.int .i64 form, .int .i64 low, .int .i64 high, .int .i64 cycle, .int .i64 width, .int .i64 spread, .bool back, .bool rel, .slice ao l.length cap] 24)) := Below.refl _ _
  go_enter Tryd.func3, Tryd.ntmps3
  go_wp2_with fail
  refine (T1.out _ (KC.out _ hw0).1).mono ?_
  rintro e WA ⟨rfl, hb⟩
  have hWA := KM.out _ _ hw0 hb
  clear hb
  obtain ⟨-, lWA, eWA0, eWA1, eWA2, eWA3, eWA4, eWA5, eWA6, eWA7, eWA8⟩ := KC.out _ hWA
  go_wp2_with fail
  refine (T2.out _ (KC.out _ hWA).1).mono ?_
  rintro e WB ⟨rfl, hb⟩
  have hWB := KM.out _ _ hWA hb
  clear hb
  obtain ⟨-, lWB, eWB0, eWB1, eWB2, eWB3, eWB4, eWB5, eWB6, eWB7, eWB8⟩ := KC.out _ hWB
  clear eWA0 eWA1 eWA2 eWA3 eWA4 eWA5 eWA6 eWA7 eWA8
  go_wp2_with fail
  refine (P1.out _ (KC.out _ hWB).1).mono ?_
  rintro e WC ⟨rfl, hb⟩
  have hWC := KM.out _ _ hWB hb
  clear hb
  obtain ⟨-, lWC, eWC0, eWC1, eWC2, eWC3, eWC4, eWC5, eWC6, eWC7, eWC8⟩ := KC.out _ hWC
  clear eWB0 eWB1 eWB2 eWB3 eWB4 eWB5 eWB6 eWB7 eWB8
  go_wp2_with fail
  refine (P2.out _ (KC.out _ hWC).1).mono ?_
  rintro e WD ⟨rfl, hb⟩
  have hWD := KM.out _ _ hWC hb
  clear hb
  obtain ⟨-, lWD, eWD0, eWD1, eWD2, eWD3, eWD4, eWD5, eWD6, eWD7, eWD8⟩ := KC.out _ hWD
  clear eWC0 eWC1 eWC2 eWC3 eWC4 eWC5 eWC6 eWC7 eWC8
  go_upto_region 5 with fail
  have hwd : Below (w.heap.size + 1) (w.alloc (.cells #[.int .i64 form, .int .i64 low, .int .i64 high, .int .i64 cycle, .int .i64 width, .int .i64 spread, .bool back, .bool rel, .slice ao l.length cap] 24)) (World.drew WD) := hWD.drew
  go_region_held3 (fun W => W.cell? ⟨w.heap.size, 0, none⟩ = some (.int .i64 form) ∧ W.cell? ⟨w.heap.size, 1, none⟩ = some (.int .i64 low) ∧ W.cell? ⟨w.heap.size, 2, none⟩ = some (.int .i64 high) ∧ W.cell? ⟨w.heap.size, 3, none⟩ = some (.int .i64 cycle) ∧ W.cell? ⟨w.heap.size, 4, none⟩ = some (.int .i64 width) ∧ W.cell? ⟨w.heap.size, 5, none⟩ = some (.int .i64 spread) ∧ W.cell? ⟨w.heap.size, 6, none⟩ = some (.bool back) ∧ W.cell? ⟨w.heap.size, 7, none⟩ = some (.bool rel) ∧ W.cell? ⟨w.heap.size, 8, none⟩ = some (.slice ao l.length cap))
    (exact (KC.out _ (by assumption)).2.2)
    (first
      | (go_at_call 9; (with_reducible refine (C1.out _ (KC.out _ (by assumption)).1).mono ?_); rintro e WE ⟨rfl, hbE⟩; have hwE := KM.out _ _ (by assumption) hbE; clear hbE)
      | (go_at_call 10; (with_reducible refine (C2.out _ (KC.out _ (by assumption)).1).mono ?_); rintro e WF ⟨rfl, hbF⟩; have hwF := KM.out _ _ (by assumption) hbF; clear hbF)
      | fail)
  all_goals
    go_wp2
    go_ret
    exact ⟨by simp, (KC.out _ (by assumption)).1⟩
end Go.Proofs.YtopmdeefcjdadaaDoor.effectChecksMatchSpec
