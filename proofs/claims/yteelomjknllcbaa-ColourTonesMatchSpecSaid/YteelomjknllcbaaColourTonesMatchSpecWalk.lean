/- The walk of cycloramalaw3.ColourTonesMatchSpec: for every input it returns true. (printed by wip/gen/gen_tonewalk.py) -/
import Derived.Test.YteelomjknllcbaaTones
import Derived.Test.YteelomjknllcbaaColOpens
namespace Go.Proofs.Yteelomjknllcbaa.colourTonesMatchSpec
open Go.RowKit
set_option linter.unusedVariables false
set_option linter.unusedSimpArgs false

set_option maxHeartbeats 8000000 in
set_option maxRecDepth 100000 in
theorem walk (a0 a1 : Value) (w : World) (w0 : TriV a0) (w1 : TriV a1) :
    Calls Try.prog 3 #[a0, a1] w fun e w' => e = .returned (.bool true) ∧ Below w.heap.size w w' := by
  obtain ⟨r, g, b, rfl, _, _, _⟩ := w0
  obtain ⟨h, s, v, rfl, _, _, _⟩ := w1
  have C1 := Lib.hid (fun W => ToneOf_any r g b W)
  have C2 := Lib.hid (fun W => rToneOf_any r g b W)
  have C3 := Lib.hid (fun W => FromTone_any h s v W)
  have C4 := Lib.hid (fun W => rFromTone_any h s v W)
  have C5 := Lib.hid (fun W => pcheck_any r g b W)
  have C6 := Lib.hid (fun W => rcheck_any r g b W)
  generalize tvH r g b = x1 at *
  generalize tvS r g b = x2 at *
  generalize tvV r g b = x3 at *
  generalize chkC r g b = f1 at *
  generalize ftE h s v = f2 at *
  generalize ftC h s v = y at *
  obtain ⟨y1, y2, y3⟩ := y
  simp only at C3 C4
  go_enter Try.func3, Try.ntmps3
  go_wp2_with fail
  refine (C1.out _).mono ?_
  rintro e w1 ⟨rfl, hb1⟩
  obtain ⟨hA1, hT1, hw1, z1⟩ := two_boxes hb1
  have z0 : w.heap.size < w1.heap.size := by omega
  have HA1 := Lib.hid hA1
  have HT1 := Lib.hid hT1
  have HW1 := Lib.hid hw1
  obtain ⟨p0, p1, p2, _, _, _⟩ := hA1
  clear hb1 hT1 hw1
  go_wp2_with fail
  refine (C2.out _).mono ?_
  rintro e w2 ⟨rfl, hb2⟩
  have s2 := hb2.size
  simp at s2
  have HA2 := Lib.hid ((HA1.out.alloc z0 _).below hb2 (by simp <;> omega))
  have HT2 := Lib.hid ((HT1.out.alloc z1 _).below hb2 (by simp <;> omega))
  have HX2 := Lib.hid ((box_new w1 (.int .i64 x1) (.int .i64 x2) (.int .i64 x3) 25).below hb2 (by simp))
  have HW2 := Lib.hid ((HW1.out.alloc (by omega) _).trans (hb2.mono (by simp <;> omega)))
  obtain ⟨t0, t1, t2, _, _, _⟩ := HT2.out
  have z2 : w.heap.size + 1 < w2.heap.size := by omega
  have z2' : w1.heap.size < w2.heap.size := by omega
  clear hb2 p0 p1 p2
  go_wp2_with fail
  refine (C3.out _).mono ?_
  rintro e w3 ⟨rfl, hb3⟩
  have s3 := hb3.size
  simp at s3
  have HA3 := Lib.hid ((HA2.out.alloc (by omega) _).below hb3 (by simp <;> omega))
  have HT3 := Lib.hid ((HT2.out.alloc z2 _).below hb3 (by simp <;> omega))
  have HX3 := Lib.hid ((HX2.out.alloc z2' _).below hb3 (by simp <;> omega))
  have HY3 := Lib.hid ((box_new w2 (.int .i64 x1) (.int .i64 x2) (.int .i64 x3) 25).below hb3 (by simp))
  have HW3 := Lib.hid ((HW2.out.alloc (by omega) _).trans (hb3.mono (by simp <;> omega)))
  clear hb3 t0 t1 t2
  obtain ⟨t0, t1, t2, _, _, _⟩ := HT3.out
  have z3 : w.heap.size + 1 < w3.heap.size := by omega
  have z3' : w1.heap.size < w3.heap.size := by omega
  have z3'' : w2.heap.size < w3.heap.size := by omega
  go_wp2_with fail
  refine (C4.out _).mono ?_
  rintro e w4 ⟨rfl, hb4⟩
  have s4 := hb4.size
  simp at s4
  have HA4 := Lib.hid ((HA3.out.alloc (by omega) _).below hb4 (by simp <;> omega))
  have HX4 := Lib.hid ((HX3.out.alloc z3' _).below hb4 (by simp <;> omega))
  have HY4 := Lib.hid ((HY3.out.alloc z3'' _).below hb4 (by simp <;> omega))
  have HZ4 := Lib.hid ((box_new w3 (.int .i64 y1) (.int .i64 y2) (.int .i64 y3) 23).below hb4 (by simp))
  have HW4 := Lib.hid ((HW3.out.alloc (by omega) _).trans (hb4.mono (by simp <;> omega)))
  clear hb4 t0 t1 t2
  have z4 : w.heap.size < w4.heap.size := by omega
  have z4a : w1.heap.size < w4.heap.size := by omega
  have z4b : w2.heap.size < w4.heap.size := by omega
  have z4c : w3.heap.size < w4.heap.size := by omega
  have KP := Lib.hid (show ∀ W, Below (w4.heap.size + 1) (w4.alloc (.cells #[.int .i64 y1, .int .i64 y2, .int .i64 y3] 23)) W → ((W.cell? ⟨w.heap.size, 0, none⟩ = some (.int .i64 r) ∧ W.cell? ⟨w.heap.size, 1, none⟩ = some (.int .i64 g) ∧ W.cell? ⟨w.heap.size, 2, none⟩ = some (.int .i64 b)) ∧ (W.cell? ⟨w1.heap.size, 0, none⟩ = some (.int .i64 x1) ∧ W.cell? ⟨w1.heap.size, 1, none⟩ = some (.int .i64 x2) ∧ W.cell? ⟨w1.heap.size, 2, none⟩ = some (.int .i64 x3)) ∧ (W.cell? ⟨w2.heap.size, 0, none⟩ = some (.int .i64 x1) ∧ W.cell? ⟨w2.heap.size, 1, none⟩ = some (.int .i64 x2) ∧ W.cell? ⟨w2.heap.size, 2, none⟩ = some (.int .i64 x3)) ∧ (W.cell? ⟨w3.heap.size, 0, none⟩ = some (.int .i64 y1) ∧ W.cell? ⟨w3.heap.size, 1, none⟩ = some (.int .i64 y2) ∧ W.cell? ⟨w3.heap.size, 2, none⟩ = some (.int .i64 y3)) ∧ (W.cell? ⟨w4.heap.size, 0, none⟩ = some (.int .i64 y1) ∧ W.cell? ⟨w4.heap.size, 1, none⟩ = some (.int .i64 y2) ∧ W.cell? ⟨w4.heap.size, 2, none⟩ = some (.int .i64 y3))) from fun W hW => by
    have a := (HA4.out.alloc z4 _).below hW (by omega)
    have c := (HX4.out.alloc z4a _).below hW (by omega)
    have d := (HY4.out.alloc z4b _).below hW (by omega)
    have e := (HZ4.out.alloc z4c _).below hW (by omega)
    have k := (box_new w4 (.int .i64 y1) (.int .i64 y2) (.int .i64 y3) 23).below hW (by omega)
    exact ⟨⟨a.c0, a.c1, a.c2⟩, ⟨c.c0, c.c1, c.c2⟩, ⟨d.c0, d.c1, d.c2⟩, ⟨e.c0, e.c1, e.c2⟩, ⟨k.c0, k.c1, k.c2⟩⟩)
  have KZ := Lib.hid (show ∀ W, Below (w4.heap.size + 1) (w4.alloc (.cells #[.int .i64 y1, .int .i64 y2, .int .i64 y3] 23)) W → w4.heap.size + 1 ≤ W.heap.size from fun W hW => by
    have := hW.size
    simpa using this)
  have KT := Lib.hid (show ∀ W W1, Below (w4.heap.size + 1) (w4.alloc (.cells #[.int .i64 y1, .int .i64 y2, .int .i64 y3] 23)) W → Below W.heap.size W W1 → Below (w4.heap.size + 1) (w4.alloc (.cells #[.int .i64 y1, .int .i64 y2, .int .i64 y3] 23)) W1 from fun W W1 h1 h2 => h1.trans (h2.mono (KZ.out W h1)))
  go_upto_region 5 with fail
  have hw0 : Below (w4.heap.size + 1) (w4.alloc (.cells #[.int .i64 y1, .int .i64 y2, .int .i64 y3] 23)) (World.drew (w4.alloc (.cells #[.int .i64 y1, .int .i64 y2, .int .i64 y3] 23))) := (Below.refl _ _).drew
  go_region_held3 (fun W => (W.cell? ⟨w.heap.size, 0, none⟩ = some (.int .i64 r) ∧ W.cell? ⟨w.heap.size, 1, none⟩ = some (.int .i64 g) ∧ W.cell? ⟨w.heap.size, 2, none⟩ = some (.int .i64 b)) ∧ (W.cell? ⟨w1.heap.size, 0, none⟩ = some (.int .i64 x1) ∧ W.cell? ⟨w1.heap.size, 1, none⟩ = some (.int .i64 x2) ∧ W.cell? ⟨w1.heap.size, 2, none⟩ = some (.int .i64 x3)) ∧ (W.cell? ⟨w2.heap.size, 0, none⟩ = some (.int .i64 x1) ∧ W.cell? ⟨w2.heap.size, 1, none⟩ = some (.int .i64 x2) ∧ W.cell? ⟨w2.heap.size, 2, none⟩ = some (.int .i64 x3)) ∧ (W.cell? ⟨w3.heap.size, 0, none⟩ = some (.int .i64 y1) ∧ W.cell? ⟨w3.heap.size, 1, none⟩ = some (.int .i64 y2) ∧ W.cell? ⟨w3.heap.size, 2, none⟩ = some (.int .i64 y3)) ∧ (W.cell? ⟨w4.heap.size, 0, none⟩ = some (.int .i64 y1) ∧ W.cell? ⟨w4.heap.size, 1, none⟩ = some (.int .i64 y2) ∧ W.cell? ⟨w4.heap.size, 2, none⟩ = some (.int .i64 y3)))
    (exact KP.out _ (by assumption))
    (first
      | (go_at_call 15; ((with_reducible refine (C5.out _).mono ?_); rintro e W5 ⟨rfl, hb⟩; have hw5 := KT.out _ _ (by assumption) hb; clear hb))
      | (go_at_call 16; ((with_reducible refine (C6.out _).mono ?_); rintro e W6 ⟨rfl, hb⟩; have hw6 := KT.out _ _ (by assumption) hb; clear hb))
      | fail)
  all_goals
    have HE := Lib.hid (show ∀ W, Below (w4.heap.size + 1) (w4.alloc (.cells #[.int .i64 y1, .int .i64 y2, .int .i64 y3] 23)) W → Below w.heap.size w W from fun W hW => (HW4.out.alloc (by omega) _).trans (hW.mono (by omega)))
    go_wp2
    go_ret
    exact ⟨by simp, HE.out _ (by assumption)⟩
end Go.Proofs.Yteelomjknllcbaa.colourTonesMatchSpec
