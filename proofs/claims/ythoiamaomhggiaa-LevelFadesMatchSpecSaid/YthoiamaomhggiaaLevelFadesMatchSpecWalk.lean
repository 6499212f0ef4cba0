/- The walk of cycloramalaw1.LevelFadesMatchSpec: for every input it returns true. (printed by wip/gen/gen_fadeswalk.py) -/
import Derived.Test.YthoiamaomhggiaaPReachB
namespace Go.Proofs.Ythoiamaomhggiaa.levelFadesMatchSpec
open Go.RowKit
set_option linter.unusedVariables false
set_option linter.unusedSimpArgs false

set_option maxHeartbeats 8000000 in
set_option maxRecDepth 100000 in
theorem walk (a0 : Value) (a1 : Int) (a2 : Int) (w : World) (w0 : ∃ f, FdV w a0 f ∧ FdFit f) (_w1 : (Lit.int .i64 a1).wf = true) (_w2 : (Lit.int .i64 a2).wf = true) :
    Calls Try.prog 13 #[a0, .int .i64 a1, .int .i64 a2] w fun e w' => e = .returned (.bool true) ∧ Below w.heap.size w w' := by
  obtain ⟨f, hv, _⟩ := w0
  have C1 := Lib.hid (fun W (hW : Below w.heap.size w W) => At_any a0 f a1 W (fdV_below hv hW))
  have C2 := Lib.hid (fun W (hW : Below w.heap.size w W) => rAt_any a0 f a1 W (fdV_below hv hW))
  have C3 := Lib.hid (fun W (hW : Below w.heap.size w W) => checkFade_any a0 f W (fdV_below hv hW))
  have C4 := Lib.hid (fun W (hW : Below w.heap.size w W) => rcheckFade_any a0 f W (fdV_below hv hW))
  have C5 := Lib.hid (fun W (hW : Below w.heap.size w W) => Ends_any a0 f W (fdV_below hv hW))
  have C6 := Lib.hid (fun W (hW : Below w.heap.size w W) => rEnds_any a0 f W (fdV_below hv hW))
  have C7 := Lib.hid (fun W (hW : Below w.heap.size w W) => Reach_any a0 f a2 W (fdV_below hv hW))
  have C8 := Lib.hid (fun W (hW : Below w.heap.size w W) => rReach_any a0 f a2 W (fdV_below hv hW))
  obtain ⟨p, rfl, hp⟩ := hv
  clear hp
  generalize atR f a1 = x1 at *
  generalize atE f a1 = x2 at *
  generalize checkF f = x3 at *
  generalize endsV f = x4 at *
  generalize rchT f a2 = x5 at *
  generalize rchB f a2 = x6 at *
  generalize rchE f a2 = x7 at *
  have KC := Lib.hid (show ∀ W, Below (w.heap.size + 1) (w.alloc (.cells #[.int .i64 f.fr, .int .i64 f.to, .int .i64 f.start, .int .i64 f.delay, .int .i64 f.time, .int .i64 f.curve.kind, p] 46)) W → (W.cell? ⟨w.heap.size, 0, none⟩ = some (.int .i64 f.fr) ∧ W.cell? ⟨w.heap.size, 1, none⟩ = some (.int .i64 f.to) ∧ W.cell? ⟨w.heap.size, 2, none⟩ = some (.int .i64 f.start) ∧ W.cell? ⟨w.heap.size, 3, none⟩ = some (.int .i64 f.delay) ∧ W.cell? ⟨w.heap.size, 4, none⟩ = some (.int .i64 f.time) ∧ W.cell? ⟨w.heap.size, 5, none⟩ = some (.int .i64 f.curve.kind) ∧ W.cell? ⟨w.heap.size, 6, none⟩ = some (p)) from fade_cells)
  have KZ := Lib.hid (show ∀ W, Below (w.heap.size + 1) (w.alloc (.cells #[.int .i64 f.fr, .int .i64 f.to, .int .i64 f.start, .int .i64 f.delay, .int .i64 f.time, .int .i64 f.curve.kind, p] 46)) W → (w.heap.size + 1) ≤ W.heap.size from fun W hW => by
    have := hW.size
    simpa using this)
  have KB := Lib.hid (show ∀ W, Below (w.heap.size + 1) (w.alloc (.cells #[.int .i64 f.fr, .int .i64 f.to, .int .i64 f.start, .int .i64 f.delay, .int .i64 f.time, .int .i64 f.curve.kind, p] 46)) W → Below w.heap.size w W from fun W hW => below1.trans (hW.mono (by omega)))
  have KT := Lib.hid (show ∀ W W1, Below (w.heap.size + 1) (w.alloc (.cells #[.int .i64 f.fr, .int .i64 f.to, .int .i64 f.start, .int .i64 f.delay, .int .i64 f.time, .int .i64 f.curve.kind, p] 46)) W → Below W.heap.size W W1 → Below (w.heap.size + 1) (w.alloc (.cells #[.int .i64 f.fr, .int .i64 f.to, .int .i64 f.start, .int .i64 f.delay, .int .i64 f.time, .int .i64 f.curve.kind, p] 46)) W1 from fun W W1 h1 h2 => h1.trans (h2.mono (KZ.out W h1)))
  have hw : Below (w.heap.size + 1) (w.alloc (.cells #[.int .i64 f.fr, .int .i64 f.to, .int .i64 f.start, .int .i64 f.delay, .int .i64 f.time, .int .i64 f.curve.kind, p] 46)) (w.alloc (.cells #[.int .i64 f.fr, .int .i64 f.to, .int .i64 f.start, .int .i64 f.delay, .int .i64 f.time, .int .i64 f.curve.kind, p] 46)) := Below.refl _ _
  go_enter Try.func13, Try.ntmps13
  go_wp2_with fail
  refine (C1.out _ (KB.out _ hw)).mono ?_
  rintro e w1 ⟨rfl, hb⟩
  have hw1 := KT.out _ _ hw hb
  clear hb
  obtain ⟨c10, c11, c12, c13, c14, c15, c16⟩ := KC.out _ hw1
  go_wp2_with fail
  refine (C2.out _ (KB.out _ hw1)).mono ?_
  rintro e w2 ⟨rfl, hb⟩
  have hw2 := KT.out _ _ hw1 hb
  clear hb
  obtain ⟨c20, c21, c22, c23, c24, c25, c26⟩ := KC.out _ hw2
  go_upto_region 3 with fail
  have hwd := Below.drew hw2
  go_region_held3 (fun W => W.cell? ⟨w.heap.size, 0, none⟩ = some (.int .i64 f.fr) ∧ W.cell? ⟨w.heap.size, 1, none⟩ = some (.int .i64 f.to) ∧ W.cell? ⟨w.heap.size, 2, none⟩ = some (.int .i64 f.start) ∧ W.cell? ⟨w.heap.size, 3, none⟩ = some (.int .i64 f.delay) ∧ W.cell? ⟨w.heap.size, 4, none⟩ = some (.int .i64 f.time) ∧ W.cell? ⟨w.heap.size, 5, none⟩ = some (.int .i64 f.curve.kind) ∧ W.cell? ⟨w.heap.size, 6, none⟩ = some (p))
    (exact KC.out _ (by assumption))
    (first
      | (go_at_call 39; ((with_reducible refine (C3.out _ (KB.out _ (by assumption))).mono ?_); rintro e W3 ⟨rfl, hb⟩; have hwx := KT.out _ _ (by assumption) hb; clear hb))
      | (go_at_call 40; ((with_reducible refine (C4.out _ (KB.out _ (by assumption))).mono ?_); rintro e W4 ⟨rfl, hb⟩; have hwy := KT.out _ _ (by assumption) hb; clear hb))
      | fail)
  all_goals
    obtain ⟨d0, d1, d2, d3, d4, d5, d6⟩ := KC.out _ hwx
    obtain ⟨f0, f1, f2, f3, f4, f5, f6⟩ := KC.out _ hwy
    go_wp2_with fail
    refine (C5.out _ (KB.out _ (by first | exact hwx | exact hwy))).mono ?_
    rintro e w5 ⟨rfl, hb⟩
    have hw5 := KT.out _ _ (by first | exact hwx | exact hwy) hb
    clear hb
    obtain ⟨c50, c51, c52, c53, c54, c55, c56⟩ := KC.out _ hw5
    go_wp2_with fail
    refine (C6.out _ (KB.out _ hw5)).mono ?_
    rintro e w6 ⟨rfl, hb⟩
    have hw6 := KT.out _ _ hw5 hb
    clear hb
    obtain ⟨c60, c61, c62, c63, c64, c65, c66⟩ := KC.out _ hw6
    go_wp2_with fail
    refine (C7.out _ (KB.out _ hw6)).mono ?_
    rintro e w7 ⟨rfl, hb⟩
    have hw7 := KT.out _ _ hw6 hb
    clear hb
    obtain ⟨c70, c71, c72, c73, c74, c75, c76⟩ := KC.out _ hw7
    go_wp2_with fail
    refine (C8.out _ (KB.out _ hw7)).mono ?_
    rintro e w8 ⟨rfl, hb⟩
    have hw8 := KT.out _ _ hw7 hb
    clear hb
    obtain ⟨c80, c81, c82, c83, c84, c85, c86⟩ := KC.out _ hw8
    have HZ := Lib.hid (KB.out _ hw8)
    go_wp2
    go_ret
    exact ⟨by simp, HZ.out⟩
end Go.Proofs.Ythoiamaomhggiaa.levelFadesMatchSpec
