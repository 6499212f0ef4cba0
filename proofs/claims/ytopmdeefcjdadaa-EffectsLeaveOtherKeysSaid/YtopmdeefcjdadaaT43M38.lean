/- The box of a running effect. (printed by wip/gen/gen_runbox.py) The clock of a running effect. (printed by wip/gen/gen_runbox.py) -/
import Derived.Test.YtopmdeefcjdadaaT43M22
import Derived.Test.YtopmdeefcjdadaaT43M12
import Derived.Deep.RegionHeld3
import Derived.Deep.QuietTactic
import Derived.BigQuiet

namespace Go.Proofs.Ytopmdeefcjdadaa
open Go.RowKit
set_option linter.unusedVariables false
set_option linter.unusedSimpArgs false

theorem run_below (w : World) (c0 c1 c2 c3 c4 c5 c6 c7 c8 c9 c10 c11 c12 c13 c14 : Value) (T : TypeId) : ∀ W, Below (w.heap.size + 1) (w.alloc (.cells #[c0, c1, c2, c3, c4, c5, c6, c7, c8, c9, c10, c11, c12, c13, c14] T)) W → Below w.heap.size w W ∧ w.heap.size < W.heap.size ∧ (W.cell? ⟨w.heap.size, 0, none⟩ = some c0 ∧ W.cell? ⟨w.heap.size, 1, none⟩ = some c1 ∧ W.cell? ⟨w.heap.size, 2, none⟩ = some c2 ∧ W.cell? ⟨w.heap.size, 3, none⟩ = some c3 ∧ W.cell? ⟨w.heap.size, 4, none⟩ = some c4 ∧ W.cell? ⟨w.heap.size, 5, none⟩ = some c5 ∧ W.cell? ⟨w.heap.size, 6, none⟩ = some c6 ∧ W.cell? ⟨w.heap.size, 7, none⟩ = some c7 ∧ W.cell? ⟨w.heap.size, 8, none⟩ = some c8 ∧ W.cell? ⟨w.heap.size, 9, none⟩ = some c9 ∧ W.cell? ⟨w.heap.size, 10, none⟩ = some c10 ∧ W.cell? ⟨w.heap.size, 11, none⟩ = some c11 ∧ W.cell? ⟨w.heap.size, 12, none⟩ = some c12 ∧ W.cell? ⟨w.heap.size, 13, none⟩ = some c13 ∧ W.cell? ⟨w.heap.size, 14, none⟩ = some c14) := fun W hW => by
  have hz := hW.size
  simp at hz
  refine ⟨((Below.refl _ _).alloc (Nat.le_refl _) _).trans (hW.mono (by omega)), by omega, ?_, ?_, ?_, ?_, ?_, ?_, ?_, ?_, ?_, ?_, ?_, ?_, ?_, ?_, ?_⟩
  all_goals exact (hW.cell (p := ⟨w.heap.size, _, none⟩) (by simp)).trans (by simp [go_sem])
theorem up_alloc {B : Nat} {w W : World} (h : Below B w W) (hB : B ≤ w.heap.size) (o : Obj) : Below B w (W.alloc o) := h.alloc (Nat.le_trans hB h.size) o
theorem up_below {B : Nat} {w W W' : World} (h : Below B w W) (hB : B ≤ w.heap.size) (h2 : Below W.heap.size W W') : Below B w W' := h.trans (h2.mono (Nat.le_trans hB h.size))
theorem mul_bd {a p : Int} (h0 : 0 ≤ a) (h1 : a ≤ 36000000) (h2 : 0 ≤ p) (h3 : p ≤ 1000) : 0 ≤ a * p ∧ a * p ≤ 1000 * a ∧ a * p ≤ 36000000000 := by
  have e1 := Int.mul_nonneg h0 h2
  have e2 := Int.mul_le_mul_of_nonneg_left h3 h0
  omega
/-- the rates as cells -/
theorem rates_get {B : Nat} {w : World} {ro : Option Addr} {rcap : Nat} {rates : List (Int × Int)} (h : RateS B w (.slice ro rates.length rcap) rates) (k : Nat) (hk : k < rates.length) : ∃ b off, ro = some ⟨b, off, none⟩ ∧ b < B ∧ ∀ W, Below B w W → W.cell? ⟨b, off + k * 2, none⟩ = some (.int .i64 rates[k].1) ∧ W.cell? ⟨b, off + k * 2 + 1, none⟩ = some (.int .i64 rates[k].2) := by
  obtain ⟨ao, cap, e, h1, h2, h3⟩ := h
  injection e with e1 e2 e3
  subst e1
  obtain ⟨b, off, h4, h5, h6⟩ := h3 (by omega)
  have hg := cells2_get (fun k : Int × Int => Value.int .i64 k.1) (fun k => .int .i64 k.2) rates k hk
  exact ⟨b, off, h4, h5, fun W hb => ⟨(hb.cell (p := ⟨b, off + k * 2, none⟩) h5).trans (h6 _ _ hg.1), (hb.cell (p := ⟨b, off + k * 2 + 1, none⟩) h5).trans (h6 (k * 2 + 1) _ hg.2)⟩⟩
end Go.Proofs.Ytopmdeefcjdadaa

namespace Go.Proofs.Ytopmdeefcjdadaa
open Go.RowKit
set_option linter.unusedVariables false
set_option linter.unusedSimpArgs false

set_option maxRecDepth 100000 in
set_option maxHeartbeats 8000000 in
theorem clock_core (form low high cycle width spread start tin tend tout : Int) (back rel : Bool) (sv kv : Value) (ro : Option Addr) (rcap : Nat) (rates : List (Int × Int)) (t : Int) (w : World) (hx : RateS w.heap.size w (.slice ro rates.length rcap) rates) (hok : RatesOk start rates) (hl : rates.length ≤ 50) (s0 : 0 ≤ start) (s1 : start ≤ 36000000) (t0 : 0 ≤ t) (t1 : t ≤ 36000000) :
    Calls Try.prog 34 #[(.agg #[.int .i64 form, .int .i64 low, .int .i64 high, .int .i64 cycle, .int .i64 width, .int .i64 spread, .bool back, .bool rel, sv, kv, .int .i64 start, .slice ro rates.length rcap, .int .i64 tin, .int .i64 tend, .int .i64 tout]), .int .i64 t] w fun e w' => e = .returned (.int .i64 (clkV start rates t)) ∧ Below w.heap.size w w' := by
  have HG := Lib.hid (rates_get hx)
  have HOK := Lib.hid (ratesOk_get hok)
  clear hx
  have HE : Hid (∀ k s p, k ≤ rates.length → (∀ h : k < rates.length, t ≤ rates[k].1) → clkL t s p (rates.drop k) = (t - s) * p) := Lib.hid (by
    intro k s p hk h
    by_cases hlt : k < rates.length
    · rw [List.drop_eq_getElem_cons hlt]
      simp only [clkL]
      rw [if_pos (h hlt)]
    · rw [List.drop_of_length_le (by omega)]
      rfl)
  have HN : Hid (∀ k s p (h : k < rates.length), rates[k].1 < t → clkL t s p (rates.drop k) = (rates[k].1 - s) * p + clkL t rates[k].1 rates[k].2 (rates.drop (k + 1))) := Lib.hid (by
    intro k s p h hlt
    rw [List.drop_eq_getElem_cons h]
    simp only [clkL]
    rw [if_neg (by omega)])
  have HV0 := Lib.hid (show t ≤ start → clkV start rates t = 0 from fun h => if_pos h)
  have HV1 := Lib.hid (show ¬ t ≤ start → clkV start rates t = clkL t start 100 rates from fun h => if_neg h)
  have KC := Lib.hid (run_below w (.int .i64 form) (.int .i64 low) (.int .i64 high) (.int .i64 cycle) (.int .i64 width) (.int .i64 spread) (.bool back) (.bool rel) (sv) (kv) (.int .i64 start) (.slice ro rates.length rcap) (.int .i64 tin) (.int .i64 tend) (.int .i64 tout) 28)
  generalize clkV start rates t = RES at *
  go_enter Try.func34, Try.ntmps34
  go_wp2_with fail
  go_quiet (fail)
  go_wp2_with fail
  go_loopw [5, 6, 7, 15] (fun a s p i wr => ∃ (k : Nat) (A S P : Int), k ≤ rates.length ∧ a = .int .i64 A ∧ s = .int .i64 S ∧ p = .int .i64 P ∧ i = .int .i64 k ∧ Hid (A + clkL t S P (rates.drop k) = clkL t start 100 rates) ∧ start ≤ S ∧ S ≤ 36000000 ∧ 0 ≤ P ∧ P ≤ 1000 ∧ 0 ≤ A ∧ A ≤ 1000 * (S - start) ∧ Hid (S = start ∨ S < t) ∧ Hid (∀ h : k < rates.length, S ≤ rates[k].1) ∧ Hid (Below (w.heap.size + 1) (w.alloc (.cells #[.int .i64 form, .int .i64 low, .int .i64 high, .int .i64 cycle, .int .i64 width, .int .i64 spread, .bool back, .bool rel, sv, kv, .int .i64 start, .slice ro rates.length rcap, .int .i64 tin, .int .i64 tend, .int .i64 tout] 28)) wr)) (fun _ _ _ i _ => rates.length - (intOf i).toNat)
  case atStart => exact ⟨0, 0, start, 100, Nat.zero_le _, rfl, rfl, rfl, rfl, Lib.hid (by simp), by omega, by omega, by omega, by omega, by omega, by omega, Lib.hid (.inl rfl), Lib.hid (fun h => (HOK.out 0 h).1), Lib.hid (bel_drewN (Below.refl _ _) _)⟩
  case round =>
    obtain ⟨k, A, S, P, hk, rfl, rfl, rfl, rfl, HR, r1, r2, r3, r4, r5, r6, HST, HSR, HBW⟩ := hrel
    obtain ⟨hB, hz, q0, q1, q2, q3, q4, q5, q6, q7, q8, q9, q10, q11, q12, q13, q14⟩ := KC.out _ HBW.out
    by_cases hlt : k < rates.length
    · obtain ⟨b, off, rfl, hbb, hc⟩ := HG.out k hlt
      obtain ⟨d0, d1⟩ := hc _ hB
      have hbr := Nat.lt_of_lt_of_le hbb hB.size
      obtain ⟨g1, g2, g3, g4, g5⟩ := HOK.out k hlt
      have HGE := Lib.hid (HE.out k S P hk)
      have HLT := Lib.hid (HN.out k S P hlt)
      have hSR := HSR.out hlt
      have HNS : Hid (∀ h : k + 1 < rates.length, rates[k].1 ≤ rates[k + 1].1) := Lib.hid (fun h => Int.le_of_lt ((HOK.out (k + 1) h).2.2.2.2 k (by omega)))
      have HB4 := Lib.hid hB
      clear hB hc g5 HSR
      have HGE := Lib.hid (fun (hh : t ≤ rates[k].1) => HGE.out (fun _ => hh))
      generalize rates[k] = rk at *
      obtain ⟨rt, rp⟩ := rk
      simp only at *
      by_cases hge : t ≤ rt
      · have HF := Lib.hid (HGE.out hge)
        clear HLT HGE
        by_cases hts : t ≤ start
        · have HV := Lib.hid (HV0.out hts)
          go_wp2_with fail
          go_ret
          exact ⟨by rw [HV.out] <;> rfl, (KC.out _ (up_alloc HBW.out (by simp) _)).1⟩
        · have hst : S ≤ t := by have := HST.out; omega
          have hm := mul_bd (a := t - S) (p := P) (by omega) (by omega) r3 r4
          have HV := Lib.hid (show RES = A + (t - S) * P by rw [HV1.out (by omega), ← HR.out, HF.out])
          clear HV0 HV1
          go_wp2_with fail
          go_ret
          exact ⟨by rw [HV.out] <;> rfl, (KC.out _ (up_alloc HBW.out (by simp) _)).1⟩
      · have HF := Lib.hid (HLT.out (by omega))
        have hm := mul_bd (a := rt - S) (p := P) (by omega) (by omega) r3 r4
        have hle : decide (t ≤ rt) = false := by simpa using hge
        clear HLT HGE
        go_wp2_with fail
        go_quiet (fail)
        go_wp2_with fail
        go_roundw
        case rel => exact ⟨k + 1, A + (rt - S) * P, rt, rp, by omega, rfl, rfl, rfl, by go_num, Lib.hid (by have h1 := HR.out; have h2 := HF.out; omega), by omega, by omega, by omega, by omega, by omega, by omega, Lib.hid (.inr (by omega)), HNS, Lib.hid (bel_drewN (up_alloc HBW.out (by simp) _) _)⟩
        case measure => simp [intOf]; omega
    · have HF := Lib.hid (HE.out k S P hk (fun h => absurd h hlt))
      have HB4 := Lib.hid hB
      clear hB
      by_cases hts : t ≤ start
      · have HV := Lib.hid (HV0.out hts)
        go_wp2_with fail
        go_ret
        exact ⟨by rw [HV.out] <;> rfl, HB4.out⟩
      · have hst : S ≤ t := by have := HST.out; omega
        have hm := mul_bd (a := t - S) (p := P) (by omega) (by omega) r3 r4
        have HV := Lib.hid (show RES = A + (t - S) * P by rw [HV1.out (by omega), ← HR.out, HF.out])
        clear HV0 HV1
        go_wp2_with fail
        go_ret
        exact ⟨by rw [HV.out] <;> rfl, HB4.out⟩
end Go.Proofs.Ytopmdeefcjdadaa
