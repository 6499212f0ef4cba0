/- The reference's Clock. (printed by wip/gen/gen_samerun.py) -/
import Derived.Test.YtopmdeefcjdadaaRClock
namespace Go.Proofs.Ytopmdeefcjdadaa
open Go.RowKit
set_option linter.unusedVariables false
set_option linter.unusedSimpArgs false

set_option maxRecDepth 100000 in
set_option maxHeartbeats 4000000 in
theorem rclockTop_any (x : Run) (sv kv rv : Value) (t : Int) (w : World) (hx : RunAt w.heap.size w x sv kv rv) (hf : RunFit x) :
    Calls Try.prog 11 #[runV x sv kv rv, .int .i64 t] w fun e w' => e = .returned (.tuple #[.int .i64 (clockR x t), .int .i64 (clockF x t)]) ∧ Below w.heap.size w w' := by
  obtain ⟨⟨form, low, high, cycle, width, spread, back, rel, ls⟩, lk, start, lr, tin, tend, tout⟩ := x
  have CE := Lib.hid (fun W (hb : Below w.heap.size w W) => rcheckAlone_any ⟨⟨form, low, high, cycle, width, spread, back, rel, ls⟩, lk, start, lr, tin, tend, tout⟩ sv kv rv W ((hx.below hb).more hb.size) hf)
  have CK := Lib.hid (fun W (hb : Below w.heap.size w W) => show clockF ⟨⟨form, low, high, cycle, width, spread, back, rel, ls⟩, lk, start, lr, tin, tend, tout⟩ t = 0 → Calls Try.prog 37 #[runV ⟨⟨form, low, high, cycle, width, spread, back, rel, ls⟩, lk, start, lr, tin, tend, tout⟩ sv kv rv, .int .i64 t] W fun e w' => e = .returned (.int .i64 (clkV start lr t)) ∧ Below W.heap.size W w' from fun h => by
    obtain ⟨h1, h2⟩ := fi2_zero h
    obtain ⟨_, _, _, _, k5, _, _, k8, k9⟩ := chkRun_zero h1
    have h3 := (inR_iff _ _ _).1 k5
    have h4 : inR t 0 36000000 = true := by simpa using whenW_zero h2
    have h5 := (inR_iff _ _ _).1 h4
    have hr := (hx.below hb).more hb.size
    obtain ⟨_, _, a3, c3, rfl⟩ := runAt_shape hr
    by_cases hts : t ≤ start
    · exact rclock_early form low high cycle width spread start tin tend tout back rel sv kv a3 c3 lr t W hr.rates k9 k8 h3.1 h3.2 h5.1 h5.2 hts
    · exact rclock_late form low high cycle width spread start tin tend tout back rel sv kv a3 c3 lr t W hr.rates k9 k8 h3.1 h3.2 h5.1 h5.2 (by omega))
  have HEE := Lib.hid (show fi2 (chkRun ⟨⟨form, low, high, cycle, width, spread, back, rel, ls⟩, lk, start, lr, tin, tend, tout⟩) (whenW (!inR t 0 36000000) 1) = clockF ⟨⟨form, low, high, cycle, width, spread, back, rel, ls⟩, lk, start, lr, tin, tend, tout⟩ t from rfl)
  have HCR := Lib.hid (show clockR ⟨⟨form, low, high, cycle, width, spread, back, rel, ls⟩, lk, start, lr, tin, tend, tout⟩ t = if clockF ⟨⟨form, low, high, cycle, width, spread, back, rel, ls⟩, lk, start, lr, tin, tend, tout⟩ t = 0 then clkV start lr t else 0 from rfl)
  obtain ⟨⟨sa, scap, rfl⟩, ⟨ka, kcap, rfl⟩, ⟨ra, rcap, rfl⟩⟩ := runAt_shape hx
  generalize chkRun ⟨⟨form, low, high, cycle, width, spread, back, rel, ls⟩, lk, start, lr, tin, tend, tout⟩ = ce at *
  generalize clockF ⟨⟨form, low, high, cycle, width, spread, back, rel, ls⟩, lk, start, lr, tin, tend, tout⟩ t = E at *
  generalize clockR ⟨⟨form, low, high, cycle, width, spread, back, rel, ls⟩, lk, start, lr, tin, tend, tout⟩ t = R at *
  generalize clkV start lr t = V at *
  clear hx hf
  simp only [runV] at *
  have KC := Lib.hid (run_below w (.int .i64 form) (.int .i64 low) (.int .i64 high) (.int .i64 cycle) (.int .i64 width) (.int .i64 spread) (.bool back) (.bool rel) (.slice sa ls.length scap) (.slice ka lk.length kcap) (.int .i64 start) (.slice ra lr.length rcap) (.int .i64 tin) (.int .i64 tend) (.int .i64 tout) 28)
  have KR : Below (w.heap.size + 1) (w.alloc (.cells #[.int .i64 form, .int .i64 low, .int .i64 high, .int .i64 cycle, .int .i64 width, .int .i64 spread, .bool back, .bool rel, .slice sa ls.length scap, .slice ka lk.length kcap, .int .i64 start, .slice ra lr.length rcap, .int .i64 tin, .int .i64 tend, .int .i64 tout] 28)) (w.alloc (.cells #[.int .i64 form, .int .i64 low, .int .i64 high, .int .i64 cycle, .int .i64 width, .int .i64 spread, .bool back, .bool rel, .slice sa ls.length scap, .slice ka lk.length kcap, .int .i64 start, .slice ra lr.length rcap, .int .i64 tin, .int .i64 tend, .int .i64 tout] 28)) := Below.refl _ _
  go_enter Try.func11, Try.ntmps11
  go_wp2_with fail
  refine (CE.out _ (KC.out _ KR).1).mono ?_
  rintro e w2 ⟨rfl, hb1⟩
  have HW2 := Lib.hid (up_below KR (by simp) hb1)
  clear hb1 KR
  obtain ⟨hB, hz, q0, q1, q2, q3, q4, q5, q6, q7, q8, q9, q10, q11, q12, q13, q14⟩ := KC.out _ HW2.out
  have HB := Lib.hid hB
  clear hB
  by_cases hce : ce = 0
  rotate_left
  · have HV : Hid (E = ce ∧ R = 0) := Lib.hid (by
      have h : E = ce := by rw [← HEE.out]; unfold fi2; rw [if_neg hce]
      exact ⟨h, by rw [HCR.out, if_neg (by rw [h]; exact hce)]⟩)
    go_wp2_with fail
    go_ret2
    exact ⟨by rw [HV.out.1, HV.out.2] <;> rfl, HB.out⟩
  · cases h1 : inR t 0 36000000
    · have HV : Hid (E = 1 ∧ R = 0) := Lib.hid (by
        have h : E = 1 := by rw [← HEE.out, hce, h1]; rfl
        exact ⟨h, by rw [HCR.out, if_neg (by rw [h]; decide)]⟩)
      clear HEE HCR CK CE
      subst hce
      go_wp2_with (first | (go_at_call 36; ((with_reducible refine (rTime_R _ _).mono ?_); rintro e w' ⟨rfl, rfl⟩)) | fail)
      go_ret2
      exact ⟨by rw [HV.out.1, HV.out.2] <;> rfl, HB.out⟩
    · have hE : E = 0 := by rw [← HEE.out, hce, h1]; rfl
      have HV : Hid (E = 0 ∧ R = V) := Lib.hid ⟨hE, by rw [HCR.out, if_pos hE]⟩
      have CK2 := Lib.hid (CK.out _ HB.out hE)
      clear HEE HCR CK CE hE
      subst hce
      go_wp2_with (first | (go_at_call 36; ((with_reducible refine (rTime_R _ _).mono ?_); rintro e w' ⟨rfl, rfl⟩)) | fail)
      refine CK2.out.mono ?_
      rintro e w3 ⟨rfl, hb3⟩
      have HB3 := Lib.hid (HB.out.trans (hb3.mono HB.out.size))
      clear hb3
      go_wp2_with fail
      go_ret2
      exact ⟨by rw [HV.out.1, HV.out.2] <;> rfl, HB3.out⟩
end Go.Proofs.Ytopmdeefcjdadaa
