/- effect.Clock. -/
import Derived.Test.YtopmdeefcjdadaaClock
import Derived.Test.YtopmdeefcjdadaaFasterKit
namespace Go.Proofs.Ytopmdeefcjdadaa
open Go.RowKit
set_option linter.unusedVariables false
set_option linter.unusedSimpArgs false

def clockF (x : Run) (t : Int) : Int := fi2 (chkRun x) (whenW (!inR t 0 36000000) 1)
def clockR (x : Run) (t : Int) : Int := if clockF x t = 0 then clkV x.start x.rates t else 0
theorem fi2_zero {a b : Int} (h : fi2 a b = 0) : a = 0 ∧ b = 0 := by
  unfold fi2 at h
  split at h
  · exact ⟨by assumption, h⟩
  · exact absurd h (by assumption)
theorem runAt_shape {B : Nat} {W : World} {x : Run} {sv kv rv : Value} (h : RunAt B W x sv kv rv) : (∃ a c, sv = .slice a x.ef.steps.length c) ∧ (∃ a c, kv = .slice a x.keys.length c) ∧ ∃ a c, rv = .slice a x.rates.length c := by
  obtain ⟨⟨a, c, e, _⟩, ⟨a2, c2, e2, _⟩, ⟨a3, c3, e3, _⟩⟩ := h
  exact ⟨⟨a, c, e⟩, ⟨a2, c2, e2⟩, ⟨a3, c3, e3⟩⟩
set_option maxRecDepth 100000 in
set_option maxHeartbeats 4000000 in
theorem clockTop_any (x : Run) (sv kv rv : Value) (t : Int) (w : World) (hx : RunAt w.heap.size w x sv kv rv) (hf : RunFit x) :
    Calls Try.prog 10 #[runV x sv kv rv, .int .i64 t] w fun e w' => e = .returned (.tuple #[.int .i64 (clockR x t), .int .i64 (clockF x t)]) ∧ Below w.heap.size w w' := by
  obtain ⟨⟨form, low, high, cycle, width, spread, back, rel, ls⟩, lk, start, lr, tin, tend, tout⟩ := x
  have CE := Lib.hid (fun W (hb : Below w.heap.size w W) => check_nil ⟨⟨form, low, high, cycle, width, spread, back, rel, ls⟩, lk, start, lr, tin, tend, tout⟩ sv kv rv W ((hx.below hb).more hb.size) hf)
  have CK := Lib.hid (fun W (hb : Below w.heap.size w W) => show clockF ⟨⟨form, low, high, cycle, width, spread, back, rel, ls⟩, lk, start, lr, tin, tend, tout⟩ t = 0 → Calls Try.prog 34 #[runV ⟨⟨form, low, high, cycle, width, spread, back, rel, ls⟩, lk, start, lr, tin, tend, tout⟩ sv kv rv, .int .i64 t] W fun e w' => e = .returned (.int .i64 (clkV start lr t)) ∧ Below W.heap.size W w' from fun h => by
    obtain ⟨h1, h2⟩ := fi2_zero h
    obtain ⟨_, _, _, _, k5, _, _, k8, k9⟩ := chkRun_zero h1
    have h3 := (inR_iff _ _ _).1 k5
    have h4 : inR t 0 36000000 = true := by simpa using whenW_zero h2
    have h5 := (inR_iff _ _ _).1 h4
    have hr := (hx.below hb).more hb.size
    obtain ⟨_, _, a3, c3, rfl⟩ := runAt_shape hr
    exact clock_core form low high cycle width spread start tin tend tout back rel sv kv a3 c3 lr t W hr.rates k9 k8 h3.1 h3.2 h5.1 h5.2)
  have HEE := Lib.hid (show fi2 (chkRun ⟨⟨form, low, high, cycle, width, spread, back, rel, ls⟩, lk, start, lr, tin, tend, tout⟩) (whenW (!inR t 0 36000000) 1) = clockF ⟨⟨form, low, high, cycle, width, spread, back, rel, ls⟩, lk, start, lr, tin, tend, tout⟩ t from rfl)
  have HCR := Lib.hid (show clockR ⟨⟨form, low, high, cycle, width, spread, back, rel, ls⟩, lk, start, lr, tin, tend, tout⟩ t = if clockF ⟨⟨form, low, high, cycle, width, spread, back, rel, ls⟩, lk, start, lr, tin, tend, tout⟩ t = 0 then clkV start lr t else 0 from rfl)
  obtain ⟨⟨sa, scap, rfl⟩, ⟨ka, kcap, rfl⟩, ⟨ra, rcap, rfl⟩⟩ := runAt_shape hx
  generalize chkRun ⟨⟨form, low, high, cycle, width, spread, back, rel, ls⟩, lk, start, lr, tin, tend, tout⟩ = ce at *
  generalize clockF ⟨⟨form, low, high, cycle, width, spread, back, rel, ls⟩, lk, start, lr, tin, tend, tout⟩ t = E at *
  generalize clockR ⟨⟨form, low, high, cycle, width, spread, back, rel, ls⟩, lk, start, lr, tin, tend, tout⟩ t = R at *
  generalize clkV start lr t = V at *
  clear hx hf
  simp only [runV] at *
  have KC := Lib.hid (run_below w (.int .i64 form) (.int .i64 low) (.int .i64 high) (.int .i64 cycle) (.int .i64 width) (.int .i64 spread) (.bool back) (.bool rel) (.slice sa ls.length scap) (.slice ka lk.length kcap) (.int .i64 start) (.slice ra lr.length rcap) (.int .i64 tin) (.int .i64 tend) (.int .i64 tout) 28)
  have KR : Below (w.heap.size + 1) (w.alloc (.cells #[.int .i64 form, .int .i64 low, .int .i64 high, .int .i64 cycle, .int .i64 width, .int .i64 spread, .bool back, .bool rel, .slice sa ls.length scap, .slice ka lk.length kcap, .int .i64 start, .slice ra lr.length rcap, .int .i64 tin, .int .i64 tend, .int .i64 tout] 28)) (w.alloc (.cells #[.int .i64 form, .int .i64 low, .int .i64 high, .int .i64 cycle, .int .i64 width, .int .i64 spread, .bool back, .bool rel, .slice sa ls.length scap, .slice ka lk.length kcap, .int .i64 start, .slice ra lr.length rcap, .int .i64 tin, .int .i64 tend, .int .i64 tout] 28)) := Below.refl _ _
  go_enter Try.func10, Try.ntmps10
  go_wp2_with fail
  refine (CE.out _ (KC.out _ KR).1).mono ?_
  rintro e w1 ⟨rfl, hb1⟩
  have HW1 := Lib.hid (up_below KR (by simp) hb1)
  clear hb1
  go_upto_region 2 with (first
      | (go_at_call 29; ((with_reducible refine (eTime_R _ _).mono ?_); rintro e w' ⟨rfl, rfl⟩))
      | (go_at_call 28; ((with_reducible refine (when_R _ _ _).mono ?_); rintro e w' ⟨rfl, rfl⟩))
      | (go_at_call 26; refine (first_2 _ ce (whenW (!inR t 0 36000000) 1) _ (by simp [go_sem]) (by simp [go_sem])).mono ?_; rw [HEE.out]; rintro e w' ⟨rfl, rfl⟩)
      | fail)
  have HW2 := Lib.hid (up_alloc HW1.out (by simp) (.cells #[.int .i64 ce, .int .i64 (whenW (!inR t 0 36000000) 1)] 29))
  generalize w1.alloc (.cells #[.int .i64 ce, .int .i64 (whenW (!inR t 0 36000000) 1)] 29) = w2 at *
  obtain ⟨hB, hz, q0, q1, q2, q3, q4, q5, q6, q7, q8, q9, q10, q11, q12, q13, q14⟩ := KC.out _ HW2.out
  have HB := Lib.hid hB
  clear hB
  by_cases hE : E = 0
  · have HV := Lib.hid (show R = V by rw [HCR.out, if_pos hE])
    have CK2 := Lib.hid (CK.out _ HB.out hE)
    subst hE
    clear HCR HEE CK CE
    go_wp2_with fail
    refine CK2.out.mono ?_
    rintro e w3 ⟨rfl, hb3⟩
    have HB3 := Lib.hid (HB.out.trans (hb3.mono HB.out.size))
    clear hb3
    go_wp2_with fail
    go_ret2
    exact ⟨by rw [HV.out] <;> rfl, HB3.out⟩
  · have HV := Lib.hid (show R = 0 by rw [HCR.out, if_neg hE])
    clear HCR HEE CK CE
    go_wp2_with fail
    go_ret2
    exact ⟨by rw [HV.out] <;> rfl, HB.out⟩
end Go.Proofs.Ytopmdeefcjdadaa
