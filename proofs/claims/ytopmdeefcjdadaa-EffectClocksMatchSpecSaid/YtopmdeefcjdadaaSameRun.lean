/- sameEffect and sameRunning at alike values. (printed by wip/gen/gen_samerun.py) -/
import Derived.Test.YtopmdeefcjdadaaKeyFns
import Derived.Test.YtopmdeefcjdadaaClockTop
namespace Go.Proofs.Ytopmdeefcjdadaa
open Go.RowKit
set_option linter.unusedVariables false
set_option linter.unusedSimpArgs false

theorem rowC_up {B n : Nat} {w W : World} {v : Value} {xs : List Value} (h : RowC w.heap.size w v n xs) (hb : Below w.heap.size w W) : RowC W.heap.size W v n xs := by
  obtain ⟨a, b, c, d⟩ := h.below hb
  exact ⟨a, b, c, fun h => by obtain ⟨e, f, g, h, i⟩ := d h; exact ⟨e, f, g, Nat.lt_of_lt_of_le h hb.size, i⟩⟩
set_option maxRecDepth 100000 in
set_option maxHeartbeats 4000000 in
theorem sameEffect_any (form low high cycle width spread : Int) (back rel : Bool) (ls : List Stp) (sv sv2 : Value) (w : World) (h1 : RowC w.heap.size w sv ls.length (stCells ls)) (h2 : RowC w.heap.size w sv2 ls.length (stCells ls)) (hl : ls.length ≤ 9223372036854775807) :
    Calls Try.prog 40 #[(.agg #[.int .i64 form, .int .i64 low, .int .i64 high, .int .i64 cycle, .int .i64 width, .int .i64 spread, .bool back, .bool rel, sv]), (.agg #[.int .i64 form, .int .i64 low, .int .i64 high, .int .i64 cycle, .int .i64 width, .int .i64 spread, .bool back, .bool rel, sv2])] w fun e w' => e = .returned (.bool true) ∧ Below w.heap.size w w' := by
  have CS := Lib.hid (fun W (hb : Below w.heap.size w W) => steps_equal sv sv2 ls W (rowC_up (B := 0) h1 hb) (rowC_up (B := 0) h2 hb) hl)
  obtain ⟨sa, scap, rfl, _⟩ := h1
  obtain ⟨sb, scap2, rfl, _⟩ := h2
  have KC := Lib.hid (show ∀ W, Below (w.heap.size + 1 + 1) ((w.alloc (.cells #[.int .i64 form, .int .i64 low, .int .i64 high, .int .i64 cycle, .int .i64 width, .int .i64 spread, .bool back, .bool rel, .slice sa ls.length scap] 24)).alloc (.cells #[.int .i64 form, .int .i64 low, .int .i64 high, .int .i64 cycle, .int .i64 width, .int .i64 spread, .bool back, .bool rel, .slice sb ls.length scap2] 24)) W → Below w.heap.size w W ∧ w.heap.size + 1 < W.heap.size ∧ (W.cell? ⟨w.heap.size, 0, none⟩ = some (.int .i64 form) ∧ W.cell? ⟨w.heap.size, 1, none⟩ = some (.int .i64 low) ∧ W.cell? ⟨w.heap.size, 2, none⟩ = some (.int .i64 high) ∧ W.cell? ⟨w.heap.size, 3, none⟩ = some (.int .i64 cycle) ∧ W.cell? ⟨w.heap.size, 4, none⟩ = some (.int .i64 width) ∧ W.cell? ⟨w.heap.size, 5, none⟩ = some (.int .i64 spread) ∧ W.cell? ⟨w.heap.size, 6, none⟩ = some (.bool back) ∧ W.cell? ⟨w.heap.size, 7, none⟩ = some (.bool rel) ∧ W.cell? ⟨w.heap.size, 8, none⟩ = some (.slice sa ls.length scap) ∧ W.cell? ⟨w.heap.size + 1, 0, none⟩ = some (.int .i64 form) ∧ W.cell? ⟨w.heap.size + 1, 1, none⟩ = some (.int .i64 low) ∧ W.cell? ⟨w.heap.size + 1, 2, none⟩ = some (.int .i64 high) ∧ W.cell? ⟨w.heap.size + 1, 3, none⟩ = some (.int .i64 cycle) ∧ W.cell? ⟨w.heap.size + 1, 4, none⟩ = some (.int .i64 width) ∧ W.cell? ⟨w.heap.size + 1, 5, none⟩ = some (.int .i64 spread) ∧ W.cell? ⟨w.heap.size + 1, 6, none⟩ = some (.bool back) ∧ W.cell? ⟨w.heap.size + 1, 7, none⟩ = some (.bool rel) ∧ W.cell? ⟨w.heap.size + 1, 8, none⟩ = some (.slice sb ls.length scap2)) from fun W hW => by
    have hz := hW.size
    simp at hz
    refine ⟨(((Below.refl _ _).alloc (Nat.le_refl _) _).alloc (by simp) _).trans (hW.mono (by omega)), by omega, ?_, ?_, ?_, ?_, ?_, ?_, ?_, ?_, ?_, ?_, ?_, ?_, ?_, ?_, ?_, ?_, ?_, ?_⟩
    all_goals exact (hW.cell (p := ⟨_, _, none⟩) (by simp <;> omega)).trans (by simp [go_sem]))
  have KR : Below (w.heap.size + 1 + 1) ((w.alloc (.cells #[.int .i64 form, .int .i64 low, .int .i64 high, .int .i64 cycle, .int .i64 width, .int .i64 spread, .bool back, .bool rel, .slice sa ls.length scap] 24)).alloc (.cells #[.int .i64 form, .int .i64 low, .int .i64 high, .int .i64 cycle, .int .i64 width, .int .i64 spread, .bool back, .bool rel, .slice sb ls.length scap2] 24)) ((w.alloc (.cells #[.int .i64 form, .int .i64 low, .int .i64 high, .int .i64 cycle, .int .i64 width, .int .i64 spread, .bool back, .bool rel, .slice sa ls.length scap] 24)).alloc (.cells #[.int .i64 form, .int .i64 low, .int .i64 high, .int .i64 cycle, .int .i64 width, .int .i64 spread, .bool back, .bool rel, .slice sb ls.length scap2] 24)) := Below.refl _ _
  go_enter Try.func40, Try.ntmps40
  go_wp2_with fail
  refine (CS.out _ (KC.out _ KR).1).mono ?_
  rintro e w1 ⟨rfl, hb⟩
  have HB := Lib.hid (KC.out _ (KR.trans (hb.mono (by simp)))).1
  clear hb KR
  go_wp2_with fail
  go_ret
  exact ⟨rfl, HB.out⟩
set_option maxRecDepth 100000 in
set_option maxHeartbeats 8000000 in
theorem sameRunning_any (x : Run) (sv kv rv sv2 kv2 rv2 : Value) (w : World) (h1 : RunAt w.heap.size w x sv kv rv) (h2 : RunAt w.heap.size w x sv2 kv2 rv2) :
    Calls Try.prog 13 #[runV x sv kv rv, runV x sv2 kv2 rv2] w fun e w' => e = .returned (.bool true) ∧ Below w.heap.size w w' := by
  obtain ⟨⟨form, low, high, cycle, width, spread, back, rel, ls⟩, lk, start, lr, tin, tend, tout⟩ := x
  have l1 : ls.length ≤ 9223372036854775807 := by obtain ⟨_, _, _, h, _⟩ := h1.steps; unfold maxLen at h; exact h
  have l2 : lk.length ≤ 9223372036854775807 := by obtain ⟨_, _, _, h, h', _⟩ := h1.keys; unfold maxLen at h'; exact Nat.le_trans h h'
  have l3 : lr.length ≤ 9223372036854775807 := by obtain ⟨_, _, _, h, h', _⟩ := h1.rates; unfold maxLen at h'; exact Nat.le_trans h h'
  have C1 := Lib.hid (fun W (hb : Below w.heap.size w W) => sameEffect_any form low high cycle width spread back rel ls sv sv2 W (rowC_up (B := 0) (RowC.of_steps h1.steps) hb) (rowC_up (B := 0) (RowC.of_steps h2.steps) hb) l1)
  have C2 := Lib.hid (fun W (hb : Below w.heap.size w W) => keys_equal kv kv2 lk W (rowC_up (B := 0) (RowC.of_cells h1.keys) hb) (rowC_up (B := 0) (RowC.of_cells h2.keys) hb) l2)
  have C3 := Lib.hid (fun W (hb : Below w.heap.size w W) => rates_equal rv rv2 lr W (rowC_up (B := 0) (RowC.of_cells h1.rates) hb) (rowC_up (B := 0) (RowC.of_cells h2.rates) hb) l3)
  obtain ⟨⟨sa, scap, rfl⟩, ⟨ka, kcap, rfl⟩, ⟨ra, rcap, rfl⟩⟩ := runAt_shape h1
  obtain ⟨⟨sb, scap2, rfl⟩, ⟨kb, kcap2, rfl⟩, ⟨rb, rcap2, rfl⟩⟩ := runAt_shape h2
  clear h1 h2 l1 l2 l3
  simp only [runV] at *
  have KC := Lib.hid (show ∀ W, Below (w.heap.size + 1 + 1) ((w.alloc (.cells #[.int .i64 form, .int .i64 low, .int .i64 high, .int .i64 cycle, .int .i64 width, .int .i64 spread, .bool back, .bool rel, .slice sa ls.length scap, .slice ka lk.length kcap, .int .i64 start, .slice ra lr.length rcap, .int .i64 tin, .int .i64 tend, .int .i64 tout] 28)).alloc (.cells #[.int .i64 form, .int .i64 low, .int .i64 high, .int .i64 cycle, .int .i64 width, .int .i64 spread, .bool back, .bool rel, .slice sb ls.length scap2, .slice kb lk.length kcap2, .int .i64 start, .slice rb lr.length rcap2, .int .i64 tin, .int .i64 tend, .int .i64 tout] 28)) W → Below w.heap.size w W ∧ w.heap.size + 1 < W.heap.size ∧ (W.cell? ⟨w.heap.size, 0, none⟩ = some (.int .i64 form) ∧ W.cell? ⟨w.heap.size, 1, none⟩ = some (.int .i64 low) ∧ W.cell? ⟨w.heap.size, 2, none⟩ = some (.int .i64 high) ∧ W.cell? ⟨w.heap.size, 3, none⟩ = some (.int .i64 cycle) ∧ W.cell? ⟨w.heap.size, 4, none⟩ = some (.int .i64 width) ∧ W.cell? ⟨w.heap.size, 5, none⟩ = some (.int .i64 spread) ∧ W.cell? ⟨w.heap.size, 6, none⟩ = some (.bool back) ∧ W.cell? ⟨w.heap.size, 7, none⟩ = some (.bool rel) ∧ W.cell? ⟨w.heap.size, 8, none⟩ = some (.slice sa ls.length scap) ∧ W.cell? ⟨w.heap.size, 9, none⟩ = some (.slice ka lk.length kcap) ∧ W.cell? ⟨w.heap.size, 10, none⟩ = some (.int .i64 start) ∧ W.cell? ⟨w.heap.size, 11, none⟩ = some (.slice ra lr.length rcap) ∧ W.cell? ⟨w.heap.size, 12, none⟩ = some (.int .i64 tin) ∧ W.cell? ⟨w.heap.size, 13, none⟩ = some (.int .i64 tend) ∧ W.cell? ⟨w.heap.size, 14, none⟩ = some (.int .i64 tout) ∧ W.cell? ⟨w.heap.size + 1, 0, none⟩ = some (.int .i64 form) ∧ W.cell? ⟨w.heap.size + 1, 1, none⟩ = some (.int .i64 low) ∧ W.cell? ⟨w.heap.size + 1, 2, none⟩ = some (.int .i64 high) ∧ W.cell? ⟨w.heap.size + 1, 3, none⟩ = some (.int .i64 cycle) ∧ W.cell? ⟨w.heap.size + 1, 4, none⟩ = some (.int .i64 width) ∧ W.cell? ⟨w.heap.size + 1, 5, none⟩ = some (.int .i64 spread) ∧ W.cell? ⟨w.heap.size + 1, 6, none⟩ = some (.bool back) ∧ W.cell? ⟨w.heap.size + 1, 7, none⟩ = some (.bool rel) ∧ W.cell? ⟨w.heap.size + 1, 8, none⟩ = some (.slice sb ls.length scap2) ∧ W.cell? ⟨w.heap.size + 1, 9, none⟩ = some (.slice kb lk.length kcap2) ∧ W.cell? ⟨w.heap.size + 1, 10, none⟩ = some (.int .i64 start) ∧ W.cell? ⟨w.heap.size + 1, 11, none⟩ = some (.slice rb lr.length rcap2) ∧ W.cell? ⟨w.heap.size + 1, 12, none⟩ = some (.int .i64 tin) ∧ W.cell? ⟨w.heap.size + 1, 13, none⟩ = some (.int .i64 tend) ∧ W.cell? ⟨w.heap.size + 1, 14, none⟩ = some (.int .i64 tout)) from fun W hW => by
    have hz := hW.size
    simp at hz
    refine ⟨(((Below.refl _ _).alloc (Nat.le_refl _) _).alloc (by simp) _).trans (hW.mono (by omega)), by omega, ?_, ?_, ?_, ?_, ?_, ?_, ?_, ?_, ?_, ?_, ?_, ?_, ?_, ?_, ?_, ?_, ?_, ?_, ?_, ?_, ?_, ?_, ?_, ?_, ?_, ?_, ?_, ?_, ?_, ?_⟩
    all_goals exact (hW.cell (p := ⟨_, _, none⟩) (by simp <;> omega)).trans (by simp [go_sem]))
  have KR : Below (w.heap.size + 1 + 1) ((w.alloc (.cells #[.int .i64 form, .int .i64 low, .int .i64 high, .int .i64 cycle, .int .i64 width, .int .i64 spread, .bool back, .bool rel, .slice sa ls.length scap, .slice ka lk.length kcap, .int .i64 start, .slice ra lr.length rcap, .int .i64 tin, .int .i64 tend, .int .i64 tout] 28)).alloc (.cells #[.int .i64 form, .int .i64 low, .int .i64 high, .int .i64 cycle, .int .i64 width, .int .i64 spread, .bool back, .bool rel, .slice sb ls.length scap2, .slice kb lk.length kcap2, .int .i64 start, .slice rb lr.length rcap2, .int .i64 tin, .int .i64 tend, .int .i64 tout] 28)) ((w.alloc (.cells #[.int .i64 form, .int .i64 low, .int .i64 high, .int .i64 cycle, .int .i64 width, .int .i64 spread, .bool back, .bool rel, .slice sa ls.length scap, .slice ka lk.length kcap, .int .i64 start, .slice ra lr.length rcap, .int .i64 tin, .int .i64 tend, .int .i64 tout] 28)).alloc (.cells #[.int .i64 form, .int .i64 low, .int .i64 high, .int .i64 cycle, .int .i64 width, .int .i64 spread, .bool back, .bool rel, .slice sb ls.length scap2, .slice kb lk.length kcap2, .int .i64 start, .slice rb lr.length rcap2, .int .i64 tin, .int .i64 tend, .int .i64 tout] 28)) := Below.refl _ _
  have KT := Lib.hid (show ∀ W W1, Below (w.heap.size + 1 + 1) ((w.alloc (.cells #[.int .i64 form, .int .i64 low, .int .i64 high, .int .i64 cycle, .int .i64 width, .int .i64 spread, .bool back, .bool rel, .slice sa ls.length scap, .slice ka lk.length kcap, .int .i64 start, .slice ra lr.length rcap, .int .i64 tin, .int .i64 tend, .int .i64 tout] 28)).alloc (.cells #[.int .i64 form, .int .i64 low, .int .i64 high, .int .i64 cycle, .int .i64 width, .int .i64 spread, .bool back, .bool rel, .slice sb ls.length scap2, .slice kb lk.length kcap2, .int .i64 start, .slice rb lr.length rcap2, .int .i64 tin, .int .i64 tend, .int .i64 tout] 28)) W → Below W.heap.size W W1 → Below (w.heap.size + 1 + 1) ((w.alloc (.cells #[.int .i64 form, .int .i64 low, .int .i64 high, .int .i64 cycle, .int .i64 width, .int .i64 spread, .bool back, .bool rel, .slice sa ls.length scap, .slice ka lk.length kcap, .int .i64 start, .slice ra lr.length rcap, .int .i64 tin, .int .i64 tend, .int .i64 tout] 28)).alloc (.cells #[.int .i64 form, .int .i64 low, .int .i64 high, .int .i64 cycle, .int .i64 width, .int .i64 spread, .bool back, .bool rel, .slice sb ls.length scap2, .slice kb lk.length kcap2, .int .i64 start, .slice rb lr.length rcap2, .int .i64 tin, .int .i64 tend, .int .i64 tout] 28)) W1 from fun W W1 h1 h2 => h1.trans (h2.mono (KC.out W h1).2.1))
  go_enter Try.func13, Try.ntmps13
  go_wp2_with fail
  refine (C1.out _ (KC.out _ KR).1).mono ?_
  rintro e w1 ⟨rfl, hb⟩
  have HW1 := Lib.hid (KT.out _ _ KR hb)
  clear hb KR
  obtain ⟨hB, hz, q0, q1, q2, q3, q4, q5, q6, q7, q8, q9, q10, q11, q12, q13, q14, s0, s1, s2, s3, s4, s5, s6, s7, s8, s9, s10, s11, s12, s13, s14⟩ := KC.out _ HW1.out
  have HB := Lib.hid hB
  clear hB
  go_wp2_with fail
  refine (C2.out _ HB.out).mono ?_
  rintro e w2 ⟨rfl, hb⟩
  have HW2 := Lib.hid (KT.out _ _ HW1.out hb)
  clear hb hz HB q0 q1 q2 q3 q4 q5 q6 q7 q8 q9 q10 q11 q12 q13 q14 s0 s1 s2 s3 s4 s5 s6 s7 s8 s9 s10 s11 s12 s13 s14
  obtain ⟨hB, hz, q0, q1, q2, q3, q4, q5, q6, q7, q8, q9, q10, q11, q12, q13, q14, s0, s1, s2, s3, s4, s5, s6, s7, s8, s9, s10, s11, s12, s13, s14⟩ := KC.out _ HW2.out
  have HB := Lib.hid hB
  clear hB
  go_wp2_with fail
  refine (C3.out _ HB.out).mono ?_
  rintro e w3 ⟨rfl, hb⟩
  have HW3 := Lib.hid (KT.out _ _ HW2.out hb)
  clear hb hz HB q0 q1 q2 q3 q4 q5 q6 q7 q8 q9 q10 q11 q12 q13 q14 s0 s1 s2 s3 s4 s5 s6 s7 s8 s9 s10 s11 s12 s13 s14
  obtain ⟨hB, hz, q0, q1, q2, q3, q4, q5, q6, q7, q8, q9, q10, q11, q12, q13, q14, s0, s1, s2, s3, s4, s5, s6, s7, s8, s9, s10, s11, s12, s13, s14⟩ := KC.out _ HW3.out
  have HB := Lib.hid hB
  clear hB
  go_wp2_with fail
  go_ret
  exact ⟨rfl, HB.out⟩
end Go.Proofs.Ytopmdeefcjdadaa
