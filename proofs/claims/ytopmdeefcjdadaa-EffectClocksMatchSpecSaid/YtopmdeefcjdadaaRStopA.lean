/- the reference's Stop: with a fault. (printed by wip/gen/gen_rfaster.py) -/
import Derived.Test.YtopmdeefcjdadaaStopA
import Derived.Test.YtopmdeefcjdadaaRRunCheck
import Derived.Test.YtopmdeefcjdadaaRunLaw
import Derived.Deep.RegionWith
import Derived.Deep.DeepCutAuto
namespace Go.Proofs.Ytopmdeefcjdadaa
open Go.RowKit
set_option linter.unusedVariables false
set_option linter.unusedSimpArgs false

set_option maxRecDepth 100000 in
set_option maxHeartbeats 16000000 in
theorem rstop_bad (form low high cycle width spread : Int) (back rel : Bool) (start tin tend tout : Int) (t out : Int) (sv kv rv : Value) (ls : List Stp) (lk : List (Int × ByteArray)) (lr : List (Int × Int)) (w : World)
    (hx : RunAt w.heap.size w ⟨⟨form, low, high, cycle, width, spread, back, rel, ls⟩, lk, start, lr, tin, tend, tout⟩ sv kv rv) (hf : RunFit ⟨⟨form, low, high, cycle, width, spread, back, rel, ls⟩, lk, start, lr, tin, tend, tout⟩) (hE : stopF ⟨⟨form, low, high, cycle, width, spread, back, rel, ls⟩, lk, start, lr, tin, tend, tout⟩ t out ≠ 0) :
    Calls Try.prog 15 #[runV ⟨⟨form, low, high, cycle, width, spread, back, rel, ls⟩, lk, start, lr, tin, tend, tout⟩ sv kv rv, .int .i64 t, .int .i64 out] w (RunRes w (stopF ⟨⟨form, low, high, cycle, width, spread, back, rel, ls⟩, lk, start, lr, tin, tend, tout⟩ t out) (stopR ⟨⟨form, low, high, cycle, width, spread, back, rel, ls⟩, lk, start, lr, tin, tend, tout⟩ t out)) := by
  have CE := Lib.hid (fun W (hb : Below w.heap.size w W) => rcheckAlone_any ⟨⟨form, low, high, cycle, width, spread, back, rel, ls⟩, lk, start, lr, tin, tend, tout⟩ sv kv rv W ((hx.below hb).more hb.size) hf)
  have HEE := Lib.hid (show fi4 (chkRun ⟨⟨form, low, high, cycle, width, spread, back, rel, ls⟩, lk, start, lr, tin, tend, tout⟩) (whenW (!inR t 0 36000000) 1) (whenW (decide (t < start) || !inR out 0 36000000) 1) (whenW (decide (tend ≠ -1)) 10) = stopF ⟨⟨form, low, high, cycle, width, spread, back, rel, ls⟩, lk, start, lr, tin, tend, tout⟩ t out from rfl)
  have HXR := Lib.hid (show stopR ⟨⟨form, low, high, cycle, width, spread, back, rel, ls⟩, lk, start, lr, tin, tend, tout⟩ t out = if stopF ⟨⟨form, low, high, cycle, width, spread, back, rel, ls⟩, lk, start, lr, tin, tend, tout⟩ t out = 0 then ⟨⟨form, low, high, cycle, width, spread, back, rel, ls⟩, lk, start, lr, tin, t, out⟩ else zRun from rfl)
  have HCK := Lib.hid (show chkRun ⟨⟨form, low, high, cycle, width, spread, back, rel, ls⟩, lk, start, lr, tin, tend, tout⟩ = 0 → ls.length ≤ 50 ∧ lk.length ≤ 400 ∧ lr.length ≤ 50 from fun h => by
    obtain ⟨k1, k2, k3, _, _, _, _, k4, k5⟩ := chkRun_zero h
    exact ⟨chkEf_steps k1, k3, k4⟩)
  generalize chkRun ⟨⟨form, low, high, cycle, width, spread, back, rel, ls⟩, lk, start, lr, tin, tend, tout⟩ = ce at *
  generalize stopF ⟨⟨form, low, high, cycle, width, spread, back, rel, ls⟩, lk, start, lr, tin, tend, tout⟩ t out = E at *
  generalize stopR ⟨⟨form, low, high, cycle, width, spread, back, rel, ls⟩, lk, start, lr, tin, tend, tout⟩ t out = RR at *
  have R1 := Lib.hid (RowC.of_steps hx.steps)
  have R2 := Lib.hid (RowC.of_cells hx.keys)
  have R3 := Lib.hid (RowC.of_cells hx.rates)
  obtain ⟨sa, scap, rfl, _⟩ := R1.out
  obtain ⟨ka, kcap, rfl, _⟩ := R2.out
  obtain ⟨ra, rcap, rfl, _⟩ := R3.out
  clear hx hf
  simp only [runV] at *
  have KC := Lib.hid (show ∀ W, Below (w.heap.size + 1 + 1) ((w.alloc (.cells #[.int .i64 form, .int .i64 low, .int .i64 high, .int .i64 cycle, .int .i64 width, .int .i64 spread, .bool back, .bool rel, .slice sa ls.length scap, .slice ka lk.length kcap, .int .i64 start, .slice ra lr.length rcap, .int .i64 tin, .int .i64 tend, .int .i64 tout] 28)).alloc (.cells #[.int .i64 0, .int .i64 0, .int .i64 0, .int .i64 0, .int .i64 0, .int .i64 0, .bool false, .bool false, .slice none 0 0, .slice none 0 0, .int .i64 0, .slice none 0 0, .int .i64 0, .int .i64 0, .int .i64 0] 28)) W → Box15 W w.heap.size (.int .i64 form) (.int .i64 low) (.int .i64 high) (.int .i64 cycle) (.int .i64 width) (.int .i64 spread) (.bool back) (.bool rel) (.slice sa ls.length scap) (.slice ka lk.length kcap) (.int .i64 start) (.slice ra lr.length rcap) (.int .i64 tin) (.int .i64 tend) (.int .i64 tout) ∧ Box15 W (w.heap.size + 1) (.int .i64 0) (.int .i64 0) (.int .i64 0) (.int .i64 0) (.int .i64 0) (.int .i64 0) (.bool false) (.bool false) (.slice none 0 0) (.slice none 0 0) (.int .i64 0) (.slice none 0 0) (.int .i64 0) (.int .i64 0) (.int .i64 0) from fun W hW => ⟨((box15_new w (.int .i64 form) (.int .i64 low) (.int .i64 high) (.int .i64 cycle) (.int .i64 width) (.int .i64 spread) (.bool back) (.bool rel) (.slice sa ls.length scap) (.slice ka lk.length kcap) (.int .i64 start) (.slice ra lr.length rcap) (.int .i64 tin) (.int .i64 tend) (.int .i64 tout) 28).alloc (by simp) _).below hW (by omega), by
    have c := (box15_new (w.alloc (.cells #[.int .i64 form, .int .i64 low, .int .i64 high, .int .i64 cycle, .int .i64 width, .int .i64 spread, .bool back, .bool rel, .slice sa ls.length scap, .slice ka lk.length kcap, .int .i64 start, .slice ra lr.length rcap, .int .i64 tin, .int .i64 tend, .int .i64 tout] 28)) (.int .i64 0) (.int .i64 0) (.int .i64 0) (.int .i64 0) (.int .i64 0) (.int .i64 0) (.bool false) (.bool false) (.slice none 0 0) (.slice none 0 0) (.int .i64 0) (.slice none 0 0) (.int .i64 0) (.int .i64 0) (.int .i64 0) 28).below hW (by simp)
    simpa using c⟩)
  have KZ := Lib.hid (show ∀ W, Below (w.heap.size + 1 + 1) ((w.alloc (.cells #[.int .i64 form, .int .i64 low, .int .i64 high, .int .i64 cycle, .int .i64 width, .int .i64 spread, .bool back, .bool rel, .slice sa ls.length scap, .slice ka lk.length kcap, .int .i64 start, .slice ra lr.length rcap, .int .i64 tin, .int .i64 tend, .int .i64 tout] 28)).alloc (.cells #[.int .i64 0, .int .i64 0, .int .i64 0, .int .i64 0, .int .i64 0, .int .i64 0, .bool false, .bool false, .slice none 0 0, .slice none 0 0, .int .i64 0, .slice none 0 0, .int .i64 0, .int .i64 0, .int .i64 0] 28)) W → (w.heap.size + 1 + 1) ≤ W.heap.size from fun W hW => by
    have := hW.size
    simp at this
    omega)
  have KB := Lib.hid (show ∀ W, Below (w.heap.size + 1 + 1) ((w.alloc (.cells #[.int .i64 form, .int .i64 low, .int .i64 high, .int .i64 cycle, .int .i64 width, .int .i64 spread, .bool back, .bool rel, .slice sa ls.length scap, .slice ka lk.length kcap, .int .i64 start, .slice ra lr.length rcap, .int .i64 tin, .int .i64 tend, .int .i64 tout] 28)).alloc (.cells #[.int .i64 0, .int .i64 0, .int .i64 0, .int .i64 0, .int .i64 0, .int .i64 0, .bool false, .bool false, .slice none 0 0, .slice none 0 0, .int .i64 0, .slice none 0 0, .int .i64 0, .int .i64 0, .int .i64 0] 28)) W → Below w.heap.size w W from fun W hW => (((Below.refl _ _).alloc (Nat.le_refl _) _).alloc (by simp) _).trans (hW.mono (by omega)))
  have KT := Lib.hid (show ∀ W W1, Below (w.heap.size + 1 + 1) ((w.alloc (.cells #[.int .i64 form, .int .i64 low, .int .i64 high, .int .i64 cycle, .int .i64 width, .int .i64 spread, .bool back, .bool rel, .slice sa ls.length scap, .slice ka lk.length kcap, .int .i64 start, .slice ra lr.length rcap, .int .i64 tin, .int .i64 tend, .int .i64 tout] 28)).alloc (.cells #[.int .i64 0, .int .i64 0, .int .i64 0, .int .i64 0, .int .i64 0, .int .i64 0, .bool false, .bool false, .slice none 0 0, .slice none 0 0, .int .i64 0, .slice none 0 0, .int .i64 0, .int .i64 0, .int .i64 0] 28)) W → Below W.heap.size W W1 → Below (w.heap.size + 1 + 1) ((w.alloc (.cells #[.int .i64 form, .int .i64 low, .int .i64 high, .int .i64 cycle, .int .i64 width, .int .i64 spread, .bool back, .bool rel, .slice sa ls.length scap, .slice ka lk.length kcap, .int .i64 start, .slice ra lr.length rcap, .int .i64 tin, .int .i64 tend, .int .i64 tout] 28)).alloc (.cells #[.int .i64 0, .int .i64 0, .int .i64 0, .int .i64 0, .int .i64 0, .int .i64 0, .bool false, .bool false, .slice none 0 0, .slice none 0 0, .int .i64 0, .slice none 0 0, .int .i64 0, .int .i64 0, .int .i64 0] 28)) W1 from fun W W1 h1 h2 => h1.trans (h2.mono (KZ.out W h1)))
  have KA := Lib.hid (show ∀ W o, Below (w.heap.size + 1 + 1) ((w.alloc (.cells #[.int .i64 form, .int .i64 low, .int .i64 high, .int .i64 cycle, .int .i64 width, .int .i64 spread, .bool back, .bool rel, .slice sa ls.length scap, .slice ka lk.length kcap, .int .i64 start, .slice ra lr.length rcap, .int .i64 tin, .int .i64 tend, .int .i64 tout] 28)).alloc (.cells #[.int .i64 0, .int .i64 0, .int .i64 0, .int .i64 0, .int .i64 0, .int .i64 0, .bool false, .bool false, .slice none 0 0, .slice none 0 0, .int .i64 0, .slice none 0 0, .int .i64 0, .int .i64 0, .int .i64 0] 28)) W → Below (w.heap.size + 1 + 1) ((w.alloc (.cells #[.int .i64 form, .int .i64 low, .int .i64 high, .int .i64 cycle, .int .i64 width, .int .i64 spread, .bool back, .bool rel, .slice sa ls.length scap, .slice ka lk.length kcap, .int .i64 start, .slice ra lr.length rcap, .int .i64 tin, .int .i64 tend, .int .i64 tout] 28)).alloc (.cells #[.int .i64 0, .int .i64 0, .int .i64 0, .int .i64 0, .int .i64 0, .int .i64 0, .bool false, .bool false, .slice none 0 0, .slice none 0 0, .int .i64 0, .slice none 0 0, .int .i64 0, .int .i64 0, .int .i64 0] 28)) (W.alloc o) from fun W o h1 => h1.alloc (KZ.out W h1) o)
  have hw : Below (w.heap.size + 1 + 1) ((w.alloc (.cells #[.int .i64 form, .int .i64 low, .int .i64 high, .int .i64 cycle, .int .i64 width, .int .i64 spread, .bool back, .bool rel, .slice sa ls.length scap, .slice ka lk.length kcap, .int .i64 start, .slice ra lr.length rcap, .int .i64 tin, .int .i64 tend, .int .i64 tout] 28)).alloc (.cells #[.int .i64 0, .int .i64 0, .int .i64 0, .int .i64 0, .int .i64 0, .int .i64 0, .bool false, .bool false, .slice none 0 0, .slice none 0 0, .int .i64 0, .slice none 0 0, .int .i64 0, .int .i64 0, .int .i64 0] 28)) ((w.alloc (.cells #[.int .i64 form, .int .i64 low, .int .i64 high, .int .i64 cycle, .int .i64 width, .int .i64 spread, .bool back, .bool rel, .slice sa ls.length scap, .slice ka lk.length kcap, .int .i64 start, .slice ra lr.length rcap, .int .i64 tin, .int .i64 tend, .int .i64 tout] 28)).alloc (.cells #[.int .i64 0, .int .i64 0, .int .i64 0, .int .i64 0, .int .i64 0, .int .i64 0, .bool false, .bool false, .slice none 0 0, .slice none 0 0, .int .i64 0, .slice none 0 0, .int .i64 0, .int .i64 0, .int .i64 0] 28)) := Below.refl _ _
  go_enter Try.func15, Try.ntmps15
  go_wp2_with fail
  refine (CE.out _ (KB.out _ hw)).mono ?_
  rintro e w2 ⟨rfl, hbC⟩
  have HB2 := Lib.hid (KT.out _ _ hw hbC)
  clear hbC hw CE
  have hE : ¬ E = 0 := hE
  have HV2 := Lib.hid (show RR = zRun by rw [HXR.out, if_neg hE])
  have hbl := KB.out _ HB2.out
  have hbx := (KC.out _ HB2.out).2
  obtain ⟨⟨p0, p1, p2, p3, p4, p5, p6, p7, p8, p9, p10, p11, p12, p13, p14, _, _, _, _, _, _, _, _, _, _, _, _, _, _, _⟩, _⟩ := KC.out _ HB2.out
  clear HXR HCK
  by_cases hce : ce = 0
  rotate_left
  · have HV3 := Lib.hid (show E = ce by rw [← HEE.out]; unfold fi4; rw [if_neg hce])
    clear HEE
    have HPUT := Lib.hid ((hbx).put (u0 := .int .i64 0) (u1 := .int .i64 0) (u2 := .int .i64 0) (u3 := .int .i64 0) (u4 := .int .i64 0) (u5 := .int .i64 0) (u6 := .bool false) (u7 := .bool false) (u8 := .slice none 0 0) (u9 := .slice none 0 0) (u10 := .int .i64 0) (u11 := .slice none 0 0) (u12 := .int .i64 0) (u13 := .int .i64 0) (u14 := .int .i64 0))
    have HBEL := Lib.hid (below_set15 (g := w.heap.size + 1) (u0 := .int .i64 0) (u1 := .int .i64 0) (u2 := .int .i64 0) (u3 := .int .i64 0) (u4 := .int .i64 0) (u5 := .int .i64 0) (u6 := .bool false) (u7 := .bool false) (u8 := .slice none 0 0) (u9 := .slice none 0 0) (u10 := .int .i64 0) (u11 := .slice none 0 0) (u12 := .int .i64 0) (u13 := .int .i64 0) (u14 := .int .i64 0) hbl (by omega))
    obtain ⟨y0, y1, y2, y3, y4, y5, y6, y7, y8, y9, y10, y11, y12, y13, y14, z0, z1, z2, z3, z4, z5, z6, z7, z8, z9, z10, z11, z12, z13, z14⟩ := hbx
    go_wp2_with (first | (go_at_call 36; ((with_reducible refine (rTime_R _ _).mono ?_); rintro e w' ⟨rfl, rfl⟩)) | fail)
    change bodyPost _ _ _ _ _ (set15 w2 (w.heap.size + 1) (.int .i64 0) (.int .i64 0) (.int .i64 0) (.int .i64 0) (.int .i64 0) (.int .i64 0) (.bool false) (.bool false) (.slice none 0 0) (.slice none 0 0) (.int .i64 0) (.slice none 0 0) (.int .i64 0) (.int .i64 0) (.int .i64 0))
    have hcc := HPUT.out
    have hbel := HBEL.out
    generalize set15 w2 (w.heap.size + 1) (.int .i64 0) (.int .i64 0) (.int .i64 0) (.int .i64 0) (.int .i64 0) (.int .i64 0) (.bool false) (.bool false) (.slice none 0 0) (.slice none 0 0) (.int .i64 0) (.slice none 0 0) (.int .i64 0) (.int .i64 0) (.int .i64 0) = w3 at *
    obtain ⟨x0, x1, x2, x3, x4, x5, x6, x7, x8, x9, x10, x11, x12, x13, x14, _, _, _, _, _, _, _, _, _, _, _, _, _, _, _⟩ := hcc
    exact bodyPost_ret (v := .tuple #[(.agg #[.int .i64 0, .int .i64 0, .int .i64 0, .int .i64 0, .int .i64 0, .int .i64 0, .bool false, .bool false, .slice none 0 0, .slice none 0 0, .int .i64 0, .slice none 0 0, .int .i64 0, .int .i64 0, .int .i64 0]), .int .i64 ce]) (by simp [results, Try.results15, go_sem, x0, x1, x2, x3, x4, x5, x6, x7, x8, x9, x10, x11, x12, x13, x14]) rfl ⟨_, _, _, by rw [HV3.out, HV2.out] <;> rfl, by rw [HV2.out]; exact zRun_new _ _, hbel⟩
  · subst hce
    cases h1 : inR t 0 36000000
    · skip
      have HV3 := Lib.hid (show E = 1 by rw [← HEE.out]; simp [fi4, fi3, fi2, whenW, h1])
      clear HEE
      have HPUT := Lib.hid ((hbx).put (u0 := .int .i64 0) (u1 := .int .i64 0) (u2 := .int .i64 0) (u3 := .int .i64 0) (u4 := .int .i64 0) (u5 := .int .i64 0) (u6 := .bool false) (u7 := .bool false) (u8 := .slice none 0 0) (u9 := .slice none 0 0) (u10 := .int .i64 0) (u11 := .slice none 0 0) (u12 := .int .i64 0) (u13 := .int .i64 0) (u14 := .int .i64 0))
      have HBEL := Lib.hid (below_set15 (g := w.heap.size + 1) (u0 := .int .i64 0) (u1 := .int .i64 0) (u2 := .int .i64 0) (u3 := .int .i64 0) (u4 := .int .i64 0) (u5 := .int .i64 0) (u6 := .bool false) (u7 := .bool false) (u8 := .slice none 0 0) (u9 := .slice none 0 0) (u10 := .int .i64 0) (u11 := .slice none 0 0) (u12 := .int .i64 0) (u13 := .int .i64 0) (u14 := .int .i64 0) hbl (by omega))
      obtain ⟨y0, y1, y2, y3, y4, y5, y6, y7, y8, y9, y10, y11, y12, y13, y14, z0, z1, z2, z3, z4, z5, z6, z7, z8, z9, z10, z11, z12, z13, z14⟩ := hbx
      go_wp2_with (first | (go_at_call 36; ((with_reducible refine (rTime_R _ _).mono ?_); rintro e w' ⟨rfl, rfl⟩)) | fail)
      change bodyPost _ _ _ _ _ (set15 w2 (w.heap.size + 1) (.int .i64 0) (.int .i64 0) (.int .i64 0) (.int .i64 0) (.int .i64 0) (.int .i64 0) (.bool false) (.bool false) (.slice none 0 0) (.slice none 0 0) (.int .i64 0) (.slice none 0 0) (.int .i64 0) (.int .i64 0) (.int .i64 0))
      have hcc := HPUT.out
      have hbel := HBEL.out
      generalize set15 w2 (w.heap.size + 1) (.int .i64 0) (.int .i64 0) (.int .i64 0) (.int .i64 0) (.int .i64 0) (.int .i64 0) (.bool false) (.bool false) (.slice none 0 0) (.slice none 0 0) (.int .i64 0) (.slice none 0 0) (.int .i64 0) (.int .i64 0) (.int .i64 0) = w3 at *
      obtain ⟨x0, x1, x2, x3, x4, x5, x6, x7, x8, x9, x10, x11, x12, x13, x14, _, _, _, _, _, _, _, _, _, _, _, _, _, _, _⟩ := hcc
      exact bodyPost_ret (v := .tuple #[(.agg #[.int .i64 0, .int .i64 0, .int .i64 0, .int .i64 0, .int .i64 0, .int .i64 0, .bool false, .bool false, .slice none 0 0, .slice none 0 0, .int .i64 0, .slice none 0 0, .int .i64 0, .int .i64 0, .int .i64 0]), .int .i64 1]) (by simp [results, Try.results15, go_sem, x0, x1, x2, x3, x4, x5, x6, x7, x8, x9, x10, x11, x12, x13, x14]) rfl ⟨_, _, _, by rw [HV3.out, HV2.out] <;> rfl, by rw [HV2.out]; exact zRun_new _ _, hbel⟩
    · by_cases h2 : t < start
      · have h2d : decide (t < start) = true := by simpa using h2
        have HV3 := Lib.hid (show E = 1 by rw [← HEE.out]; simp [fi4, fi3, fi2, whenW, h1, h2])
        clear HEE
        have HPUT := Lib.hid ((hbx).put (u0 := .int .i64 0) (u1 := .int .i64 0) (u2 := .int .i64 0) (u3 := .int .i64 0) (u4 := .int .i64 0) (u5 := .int .i64 0) (u6 := .bool false) (u7 := .bool false) (u8 := .slice none 0 0) (u9 := .slice none 0 0) (u10 := .int .i64 0) (u11 := .slice none 0 0) (u12 := .int .i64 0) (u13 := .int .i64 0) (u14 := .int .i64 0))
        have HBEL := Lib.hid (below_set15 (g := w.heap.size + 1) (u0 := .int .i64 0) (u1 := .int .i64 0) (u2 := .int .i64 0) (u3 := .int .i64 0) (u4 := .int .i64 0) (u5 := .int .i64 0) (u6 := .bool false) (u7 := .bool false) (u8 := .slice none 0 0) (u9 := .slice none 0 0) (u10 := .int .i64 0) (u11 := .slice none 0 0) (u12 := .int .i64 0) (u13 := .int .i64 0) (u14 := .int .i64 0) hbl (by omega))
        obtain ⟨y0, y1, y2, y3, y4, y5, y6, y7, y8, y9, y10, y11, y12, y13, y14, z0, z1, z2, z3, z4, z5, z6, z7, z8, z9, z10, z11, z12, z13, z14⟩ := hbx
        go_wp2_with (first | (go_at_call 36; ((with_reducible refine (rTime_R _ _).mono ?_); rintro e w' ⟨rfl, rfl⟩)) | fail)
        change bodyPost _ _ _ _ _ (set15 w2 (w.heap.size + 1) (.int .i64 0) (.int .i64 0) (.int .i64 0) (.int .i64 0) (.int .i64 0) (.int .i64 0) (.bool false) (.bool false) (.slice none 0 0) (.slice none 0 0) (.int .i64 0) (.slice none 0 0) (.int .i64 0) (.int .i64 0) (.int .i64 0))
        have hcc := HPUT.out
        have hbel := HBEL.out
        generalize set15 w2 (w.heap.size + 1) (.int .i64 0) (.int .i64 0) (.int .i64 0) (.int .i64 0) (.int .i64 0) (.int .i64 0) (.bool false) (.bool false) (.slice none 0 0) (.slice none 0 0) (.int .i64 0) (.slice none 0 0) (.int .i64 0) (.int .i64 0) (.int .i64 0) = w3 at *
        obtain ⟨x0, x1, x2, x3, x4, x5, x6, x7, x8, x9, x10, x11, x12, x13, x14, _, _, _, _, _, _, _, _, _, _, _, _, _, _, _⟩ := hcc
        exact bodyPost_ret (v := .tuple #[(.agg #[.int .i64 0, .int .i64 0, .int .i64 0, .int .i64 0, .int .i64 0, .int .i64 0, .bool false, .bool false, .slice none 0 0, .slice none 0 0, .int .i64 0, .slice none 0 0, .int .i64 0, .int .i64 0, .int .i64 0]), .int .i64 1]) (by simp [results, Try.results15, go_sem, x0, x1, x2, x3, x4, x5, x6, x7, x8, x9, x10, x11, x12, x13, x14]) rfl ⟨_, _, _, by rw [HV3.out, HV2.out] <;> rfl, by rw [HV2.out]; exact zRun_new _ _, hbel⟩
      · have h2d : decide (t < start) = false := by simpa using h2
        cases h3 : inR out 0 36000000
        · skip
          have HV3 := Lib.hid (show E = 1 by rw [← HEE.out]; simp [fi4, fi3, fi2, whenW, h1, h2, h3])
          clear HEE
          have HPUT := Lib.hid ((hbx).put (u0 := .int .i64 0) (u1 := .int .i64 0) (u2 := .int .i64 0) (u3 := .int .i64 0) (u4 := .int .i64 0) (u5 := .int .i64 0) (u6 := .bool false) (u7 := .bool false) (u8 := .slice none 0 0) (u9 := .slice none 0 0) (u10 := .int .i64 0) (u11 := .slice none 0 0) (u12 := .int .i64 0) (u13 := .int .i64 0) (u14 := .int .i64 0))
          have HBEL := Lib.hid (below_set15 (g := w.heap.size + 1) (u0 := .int .i64 0) (u1 := .int .i64 0) (u2 := .int .i64 0) (u3 := .int .i64 0) (u4 := .int .i64 0) (u5 := .int .i64 0) (u6 := .bool false) (u7 := .bool false) (u8 := .slice none 0 0) (u9 := .slice none 0 0) (u10 := .int .i64 0) (u11 := .slice none 0 0) (u12 := .int .i64 0) (u13 := .int .i64 0) (u14 := .int .i64 0) hbl (by omega))
          obtain ⟨y0, y1, y2, y3, y4, y5, y6, y7, y8, y9, y10, y11, y12, y13, y14, z0, z1, z2, z3, z4, z5, z6, z7, z8, z9, z10, z11, z12, z13, z14⟩ := hbx
          go_wp2_with (first | (go_at_call 36; ((with_reducible refine (rTime_R _ _).mono ?_); rintro e w' ⟨rfl, rfl⟩)) | fail)
          change bodyPost _ _ _ _ _ (set15 w2 (w.heap.size + 1) (.int .i64 0) (.int .i64 0) (.int .i64 0) (.int .i64 0) (.int .i64 0) (.int .i64 0) (.bool false) (.bool false) (.slice none 0 0) (.slice none 0 0) (.int .i64 0) (.slice none 0 0) (.int .i64 0) (.int .i64 0) (.int .i64 0))
          have hcc := HPUT.out
          have hbel := HBEL.out
          generalize set15 w2 (w.heap.size + 1) (.int .i64 0) (.int .i64 0) (.int .i64 0) (.int .i64 0) (.int .i64 0) (.int .i64 0) (.bool false) (.bool false) (.slice none 0 0) (.slice none 0 0) (.int .i64 0) (.slice none 0 0) (.int .i64 0) (.int .i64 0) (.int .i64 0) = w3 at *
          obtain ⟨x0, x1, x2, x3, x4, x5, x6, x7, x8, x9, x10, x11, x12, x13, x14, _, _, _, _, _, _, _, _, _, _, _, _, _, _, _⟩ := hcc
          exact bodyPost_ret (v := .tuple #[(.agg #[.int .i64 0, .int .i64 0, .int .i64 0, .int .i64 0, .int .i64 0, .int .i64 0, .bool false, .bool false, .slice none 0 0, .slice none 0 0, .int .i64 0, .slice none 0 0, .int .i64 0, .int .i64 0, .int .i64 0]), .int .i64 1]) (by simp [results, Try.results15, go_sem, x0, x1, x2, x3, x4, x5, x6, x7, x8, x9, x10, x11, x12, x13, x14]) rfl ⟨_, _, _, by rw [HV3.out, HV2.out] <;> rfl, by rw [HV2.out]; exact zRun_new _ _, hbel⟩
        · by_cases h4 : tend = -1
          · exfalso
            apply hE
            rw [← HEE.out]
            simp [fi4, fi3, fi2, whenW, h1, h2, h3, h4]
          · have h4b : (tend != -1) = true := by simp [h4]
            have HV3 := Lib.hid (show E = 10 by rw [← HEE.out]; simp [fi4, fi3, fi2, whenW, h1, h2, h3, h4])
            clear HEE
            have HPUT := Lib.hid ((hbx).put (u0 := .int .i64 0) (u1 := .int .i64 0) (u2 := .int .i64 0) (u3 := .int .i64 0) (u4 := .int .i64 0) (u5 := .int .i64 0) (u6 := .bool false) (u7 := .bool false) (u8 := .slice none 0 0) (u9 := .slice none 0 0) (u10 := .int .i64 0) (u11 := .slice none 0 0) (u12 := .int .i64 0) (u13 := .int .i64 0) (u14 := .int .i64 0))
            have HBEL := Lib.hid (below_set15 (g := w.heap.size + 1) (u0 := .int .i64 0) (u1 := .int .i64 0) (u2 := .int .i64 0) (u3 := .int .i64 0) (u4 := .int .i64 0) (u5 := .int .i64 0) (u6 := .bool false) (u7 := .bool false) (u8 := .slice none 0 0) (u9 := .slice none 0 0) (u10 := .int .i64 0) (u11 := .slice none 0 0) (u12 := .int .i64 0) (u13 := .int .i64 0) (u14 := .int .i64 0) hbl (by omega))
            obtain ⟨y0, y1, y2, y3, y4, y5, y6, y7, y8, y9, y10, y11, y12, y13, y14, z0, z1, z2, z3, z4, z5, z6, z7, z8, z9, z10, z11, z12, z13, z14⟩ := hbx
            go_wp2_with (first | (go_at_call 36; ((with_reducible refine (rTime_R _ _).mono ?_); rintro e w' ⟨rfl, rfl⟩)) | fail)
            change bodyPost _ _ _ _ _ (set15 w2 (w.heap.size + 1) (.int .i64 0) (.int .i64 0) (.int .i64 0) (.int .i64 0) (.int .i64 0) (.int .i64 0) (.bool false) (.bool false) (.slice none 0 0) (.slice none 0 0) (.int .i64 0) (.slice none 0 0) (.int .i64 0) (.int .i64 0) (.int .i64 0))
            have hcc := HPUT.out
            have hbel := HBEL.out
            generalize set15 w2 (w.heap.size + 1) (.int .i64 0) (.int .i64 0) (.int .i64 0) (.int .i64 0) (.int .i64 0) (.int .i64 0) (.bool false) (.bool false) (.slice none 0 0) (.slice none 0 0) (.int .i64 0) (.slice none 0 0) (.int .i64 0) (.int .i64 0) (.int .i64 0) = w3 at *
            obtain ⟨x0, x1, x2, x3, x4, x5, x6, x7, x8, x9, x10, x11, x12, x13, x14, _, _, _, _, _, _, _, _, _, _, _, _, _, _, _⟩ := hcc
            exact bodyPost_ret (v := .tuple #[(.agg #[.int .i64 0, .int .i64 0, .int .i64 0, .int .i64 0, .int .i64 0, .int .i64 0, .bool false, .bool false, .slice none 0 0, .slice none 0 0, .int .i64 0, .slice none 0 0, .int .i64 0, .int .i64 0, .int .i64 0]), .int .i64 10]) (by simp [results, Try.results15, go_sem, x0, x1, x2, x3, x4, x5, x6, x7, x8, x9, x10, x11, x12, x13, x14]) rfl ⟨_, _, _, by rw [HV3.out, HV2.out] <;> rfl, by rw [HV2.out]; exact zRun_new _ _, hbel⟩
end Go.Proofs.Ytopmdeefcjdadaa
