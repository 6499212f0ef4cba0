/- The reference's clock of a running effect. (printed by wip/gen/gen_rclock.py) -/
import Derived.Test.YtopmdeefcjdadaaClockTop
import Derived.Test.YtopmdeefcjdadaaRRunCheck
import Derived.Deep.QuietTactic
import Derived.BigQuiet
namespace Go.Proofs.Ytopmdeefcjdadaa
open Go.RowKit
set_option linter.unusedVariables false
set_option linter.unusedSimpArgs false

theorem clkL_at (t p : Int) (l : List (Int × Int)) (h : ∀ r ∈ l, t ≤ r.1) : clkL t t p l = 0 := by
  cases l with
  | nil => simp [clkL]
  | cons r l => simp [clkL, h r (by simp)]
set_option maxRecDepth 100000 in
set_option maxHeartbeats 8000000 in
theorem rclock_early (form low high cycle width spread start tin tend tout : Int) (back rel : Bool) (sv kv : Value) (ro : Option Addr) (rcap : Nat) (rates : List (Int × Int)) (t : Int) (w : World) (hx : RateS w.heap.size w (.slice ro rates.length rcap) rates) (hok : RatesOk start rates) (hl : rates.length ≤ 50) (s0 : 0 ≤ start) (s1 : start ≤ 36000000) (t0 : 0 ≤ t) (t1 : t ≤ 36000000) (hts : t ≤ start) :
    Calls Try.prog 37 #[(.agg #[.int .i64 form, .int .i64 low, .int .i64 high, .int .i64 cycle, .int .i64 width, .int .i64 spread, .bool back, .bool rel, sv, kv, .int .i64 start, .slice ro rates.length rcap, .int .i64 tin, .int .i64 tend, .int .i64 tout]), .int .i64 t] w fun e w' => e = .returned (.int .i64 (clkV start rates t)) ∧ Below w.heap.size w w' := by
  have HG := Lib.hid (rates_get hx)
  have HOK := Lib.hid (ratesOk_get hok)
  clear hx
  have HV0 := Lib.hid (show clkV start rates t = 0 from if_pos hts)
  generalize clkV start rates t = RES at *
  have KC := Lib.hid (run_below w (.int .i64 form) (.int .i64 low) (.int .i64 high) (.int .i64 cycle) (.int .i64 width) (.int .i64 spread) (.bool back) (.bool rel) (sv) (kv) (.int .i64 start) (.slice ro rates.length rcap) (.int .i64 tin) (.int .i64 tend) (.int .i64 tout) 28)
  go_enter Try.func37, Try.ntmps37
  go_wp2_with fail
  go_quiet (fail)
  go_wp2_with fail
  go_loopw [5, 6, 7, 16] (fun a s p i wr => ∃ (k : Nat) (P : Int), k ≤ rates.length ∧ a = .int .i64 0 ∧ s = .int .i64 start ∧ p = .int .i64 P ∧ i = .int .i64 k ∧ 0 ≤ P ∧ P ≤ 1000 ∧ Hid (Below (w.heap.size + 1) (w.alloc (.cells #[.int .i64 form, .int .i64 low, .int .i64 high, .int .i64 cycle, .int .i64 width, .int .i64 spread, .bool back, .bool rel, sv, kv, .int .i64 start, .slice ro rates.length rcap, .int .i64 tin, .int .i64 tend, .int .i64 tout] 28)) wr)) (fun _ _ _ i _ => rates.length - (intOf i).toNat)
  case atStart => exact ⟨0, 100, Nat.zero_le _, rfl, rfl, rfl, rfl, by omega, by omega, Lib.hid (bel_drewN (Below.refl _ _) _)⟩
  case round =>
    obtain ⟨k, P, hk, rfl, rfl, rfl, rfl, r3, r4, HBW⟩ := hrel
    obtain ⟨hB, hz, q0, q1, q2, q3, q4, q5, q6, q7, q8, q9, q10, q11, q12, q13, q14⟩ := KC.out _ HBW.out
    by_cases hlt : k < rates.length
    · obtain ⟨b, off, rfl, hbb, hc⟩ := HG.out k hlt
      obtain ⟨d0, d1⟩ := hc _ hB
      have hbr := Nat.lt_of_lt_of_le hbb hB.size
      obtain ⟨g1, g2, g3, g4, g5⟩ := HOK.out k hlt
      have HB4 := Lib.hid hB
      clear hB hc g5
      generalize rates[k] = rk at *
      obtain ⟨rt, rp⟩ := rk
      simp only at *
      have z1 : (start - start) * P = 0 := by rw [Int.sub_self, Int.zero_mul]
      by_cases hgt : t < rt
      · go_wp2_with fail
        all_goals first | omega | skip
        all_goals go_quiet (fail)
        all_goals go_wp2_with fail
        all_goals first | omega | skip
        all_goals go_ret
        all_goals exact ⟨by rw [HV0.out]; first | rfl | (congr 2; omega), bel_drewN (KC.out _ (up_alloc HBW.out (by simp) _)).1 _⟩
      · go_wp2_with fail
        all_goals first | omega | skip
        all_goals go_quiet (fail)
        all_goals go_wp2_with fail
        all_goals first | omega | skip
        all_goals go_roundw
        case rel => exact ⟨k + 1, rp, by omega, by first | rfl | (congr 1; omega), by first | rfl | (congr 1; omega), rfl, by go_num, by omega, by omega, Lib.hid (bel_drewN (up_alloc HBW.out (by simp) _) _)⟩
        case measure => simp [intOf]; omega
    · have HB4 := Lib.hid hB
      clear hB
      have z1 : (0 : Int) * P = 0 := Int.zero_mul _
      go_wp2_with fail
      all_goals first | omega | skip
      all_goals go_ret
      all_goals exact ⟨by rw [HV0.out]; first | rfl | (congr 2; omega), HB4.out⟩
set_option maxRecDepth 100000 in
set_option maxHeartbeats 8000000 in
theorem rclock_late (form low high cycle width spread start tin tend tout : Int) (back rel : Bool) (sv kv : Value) (ro : Option Addr) (rcap : Nat) (rates : List (Int × Int)) (t : Int) (w : World) (hx : RateS w.heap.size w (.slice ro rates.length rcap) rates) (hok : RatesOk start rates) (hl : rates.length ≤ 50) (s0 : 0 ≤ start) (s1 : start ≤ 36000000) (t0 : 0 ≤ t) (t1 : t ≤ 36000000) (hts : start < t) :
    Calls Try.prog 37 #[(.agg #[.int .i64 form, .int .i64 low, .int .i64 high, .int .i64 cycle, .int .i64 width, .int .i64 spread, .bool back, .bool rel, sv, kv, .int .i64 start, .slice ro rates.length rcap, .int .i64 tin, .int .i64 tend, .int .i64 tout]), .int .i64 t] w fun e w' => e = .returned (.int .i64 (clkV start rates t)) ∧ Below w.heap.size w w' := by
  have HG := Lib.hid (rates_get hx)
  have HOK := Lib.hid (ratesOk_get hok)
  clear hx
  have HV0 := Lib.hid (show clkV start rates t = clkL t start 100 rates from if_neg (by omega))
  have HE : Hid (∀ k s p, k ≤ rates.length → (∀ h : k < rates.length, t ≤ rates[k].1) → clkL t s p (rates.drop k) = (t - s) * p) := Lib.hid (by
    intro k s p hk h
    by_cases hlt : k < rates.length
    · rw [List.drop_eq_getElem_cons hlt]
      simp only [clkL]
      rw [if_pos (h hlt)]
    · rw [List.drop_of_length_le (by omega)]
      rfl)
  have HN : Hid (∀ k s p (h : k < rates.length), rates[k].1 < t → clkL t s p (rates.drop k) = (rates[k].1 - s) * p + clkL t rates[k].1 rates[k].2 (rates.drop (k + 1))) := Lib.hid (by
    intro k s p h hlt
    rw [List.drop_eq_getElem_cons h]
    simp only [clkL]
    rw [if_neg (by omega)])
  have HZ : Hid (∀ k p (h : k < rates.length), rates[k].1 = t → clkL t t p (rates.drop (k + 1)) = 0) := Lib.hid (by
    intro k p h he
    refine clkL_at t p _ (fun r hr => ?_)
    obtain ⟨j, hj, e⟩ := List.mem_iff_getElem.1 hr
    rw [List.length_drop] at hj
    rw [List.getElem_drop] at e
    have := (HOK.out (k + 1 + j) (by omega)).2.2.2.2 k (by omega)
    rw [← e]; omega)
  generalize clkV start rates t = RES at *
  have KC := Lib.hid (run_below w (.int .i64 form) (.int .i64 low) (.int .i64 high) (.int .i64 cycle) (.int .i64 width) (.int .i64 spread) (.bool back) (.bool rel) (sv) (kv) (.int .i64 start) (.slice ro rates.length rcap) (.int .i64 tin) (.int .i64 tend) (.int .i64 tout) 28)
  go_enter Try.func37, Try.ntmps37
  go_wp2_with fail
  go_quiet (fail)
  go_wp2_with fail
  go_loopw [5, 6, 7, 16] (fun a s p i wr => ∃ (k : Nat) (A S P : Int), k ≤ rates.length ∧ a = .int .i64 A ∧ s = .int .i64 S ∧ p = .int .i64 P ∧ i = .int .i64 k ∧ Hid (A + clkL t S P (rates.drop k) = clkL t start 100 rates) ∧ start ≤ S ∧ S ≤ t ∧ 0 ≤ P ∧ P ≤ 1000 ∧ 0 ≤ A ∧ A ≤ 1000 * (S - start) ∧ Hid (∀ h : k < rates.length, S ≤ rates[k].1) ∧ Hid (Below (w.heap.size + 1) (w.alloc (.cells #[.int .i64 form, .int .i64 low, .int .i64 high, .int .i64 cycle, .int .i64 width, .int .i64 spread, .bool back, .bool rel, sv, kv, .int .i64 start, .slice ro rates.length rcap, .int .i64 tin, .int .i64 tend, .int .i64 tout] 28)) wr)) (fun _ _ _ i _ => rates.length - (intOf i).toNat)
  case atStart => exact ⟨0, 0, start, 100, Nat.zero_le _, rfl, rfl, rfl, rfl, Lib.hid (by simp), by omega, by omega, by omega, by omega, by omega, by omega, Lib.hid (fun h => (HOK.out 0 h).1), Lib.hid (bel_drewN (Below.refl _ _) _)⟩
  case round =>
    obtain ⟨k, A, S, P, hk, rfl, rfl, rfl, rfl, HR, r1, r2, r3, r4, r5, r6, HSR, HBW⟩ := hrel
    obtain ⟨hB, hz, q0, q1, q2, q3, q4, q5, q6, q7, q8, q9, q10, q11, q12, q13, q14⟩ := KC.out _ HBW.out
    by_cases hlt : k < rates.length
    · obtain ⟨b, off, rfl, hbb, hc⟩ := HG.out k hlt
      obtain ⟨d0, d1⟩ := hc _ hB
      have hbr := Nat.lt_of_lt_of_le hbb hB.size
      obtain ⟨g1, g2, g3, g4, g5⟩ := HOK.out k hlt
      have HGE := Lib.hid (HE.out k S P hk)
      have HLT := Lib.hid (HN.out k S P hlt)
      have HEZ := Lib.hid (fun p => HZ.out k p hlt)
      have hSR := HSR.out hlt
      have HNS : Hid (∀ h : k + 1 < rates.length, rates[k].1 ≤ rates[k + 1].1) := Lib.hid (fun h => Int.le_of_lt ((HOK.out (k + 1) h).2.2.2.2 k (by omega)))
      have HB4 := Lib.hid hB
      clear hB hc g5 HSR
      have HGE := Lib.hid (fun (hh : t ≤ rates[k].1) => HGE.out (fun _ => hh))
      generalize rates[k] = rk at *
      obtain ⟨rt, rp⟩ := rk
      simp only at *
      by_cases hgt : t < rt
      · have hm := mul_bd (a := t - S) (p := P) (by omega) (by omega) r3 r4
        have HV := Lib.hid (show RES = A + (t - S) * P by rw [HV0.out, ← HR.out, HGE.out (by omega)])
        clear HLT HEZ HGE HV0
        by_cases hS : S = t
        · have HV1 := Lib.hid (show RES = A by rw [HV.out, hS, Int.sub_self, Int.zero_mul, Int.add_zero])
          subst hS
          clear HV hm
          have z0 : (S - S) * P = 0 := by rw [Int.sub_self, Int.zero_mul]
          go_wp2_with fail
          go_quiet (fail)
          go_wp2_with fail
          go_ret
          exact ⟨by rw [HV1.out] <;> rfl, bel_drewN (KC.out _ (up_alloc HBW.out (by simp) _)).1 _⟩
        · have hSt : S < t := by omega
          have hw1 : wrap64 ((t - S) * P) = (t - S) * P := IntWalk.wrap64_in _ (by omega)
          have hw2 : wrap64 (A + (t - S) * P) = A + (t - S) * P := IntWalk.wrap64_in _ (by omega)
          clear hS
          go_wp2_with fail
          go_quiet (fail)
          go_wp2_with fail
          go_ret
          exact ⟨by rw [HV.out] <;> rfl, bel_drewN (KC.out _ (up_alloc HBW.out (by simp) _)).1 _⟩
      · have hm := mul_bd (a := rt - S) (p := P) (by omega) (by omega) r3 r4
        have HNX := Lib.hid (show (A + (rt - S) * P) + clkL t rt rp (rates.drop (k + 1)) = clkL t start 100 rates by
          by_cases he : rt = t
          · rw [he, HEZ.out rp he]
            have h1 := HR.out
            rw [HGE.out (by omega)] at h1
            omega
          · have h1 := HR.out
            have h2 := HLT.out (by omega)
            omega)
        clear HLT HGE HEZ
        by_cases hS : S = rt
        · have HN3 := Lib.hid (show A + clkL t rt rp (rates.drop (k + 1)) = clkL t start 100 rates by have h := HNX.out; rw [hS, Int.sub_self, Int.zero_mul, Int.add_zero] at h; exact h)
          subst hS
          clear HNX hm
          have z0 : (S - S) * P = 0 := by rw [Int.sub_self, Int.zero_mul]
          go_wp2_with fail
          go_quiet (fail)
          go_wp2_with fail
          go_roundw
          case rel => exact ⟨k + 1, A, S, rp, by omega, rfl, rfl, rfl, by go_num, HN3, by omega, by omega, by omega, by omega, by omega, by omega, HNS, Lib.hid (bel_drewN (up_alloc HBW.out (by simp) _) _)⟩
          case measure => simp [intOf]; omega
        · have hSt : S < rt := by omega
          have hw1 : wrap64 ((rt - S) * P) = (rt - S) * P := IntWalk.wrap64_in _ (by omega)
          have hw2 : wrap64 (A + (rt - S) * P) = A + (rt - S) * P := IntWalk.wrap64_in _ (by omega)
          clear hS
          go_wp2_with fail
          go_quiet (fail)
          go_wp2_with fail
          go_roundw
          case rel => clear hw1 hw2; exact ⟨k + 1, A + (rt - S) * P, rt, rp, by omega, rfl, rfl, rfl, by go_num, HNX, by omega, by omega, by omega, by omega, by omega, by omega, HNS, Lib.hid (bel_drewN (up_alloc HBW.out (by simp) _) _)⟩
          case measure => clear hw1 hw2; simp [intOf]; omega
    · have HF := Lib.hid (HE.out k S P hk (fun h => absurd h hlt))
      have HB4 := Lib.hid hB
      clear hB
      have hm := mul_bd (a := t - S) (p := P) (by omega) (by omega) r3 r4
      have HV := Lib.hid (show RES = A + (t - S) * P by rw [HV0.out, ← HR.out, HF.out])
      clear HV0
      by_cases hS : S = t
      · have HV1 := Lib.hid (show RES = A by rw [HV.out, hS, Int.sub_self, Int.zero_mul, Int.add_zero])
        subst hS
        clear HV hm HF
        have z1 : (0 : Int) * P = 0 := Int.zero_mul _
        go_wp2_with fail
        go_ret
        exact ⟨by rw [HV1.out] <;> rfl, HB4.out⟩
      · have hSt : S < t := by omega
        have hw1 : wrap64 ((t - S) * P) = (t - S) * P := IntWalk.wrap64_in _ (by omega)
        have hw2 : wrap64 (A + (t - S) * P) = A + (t - S) * P := IntWalk.wrap64_in _ (by omega)
        clear hS
        go_wp2_with fail
        go_ret
        exact ⟨by rw [HV.out] <;> rfl, HB4.out⟩
end Go.Proofs.Ytopmdeefcjdadaa
