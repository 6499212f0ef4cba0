/- level.first: a search by halves over a closure. -/
import Derived.Test.YtdicoggpcobbpaaDoorRReach
namespace Go.Proofs.YtdicoggpcobbpaaDoor
open Go.RowKit
set_option linter.unusedVariables false
set_option linter.unusedSimpArgs false

set_option maxHeartbeats 2000000 in
theorem lfirst_any (n : Nat) (c1 c2 : Value) (P : Int → Bool) (lo hi : Int) (w : World)
    (hcf : ∀ (args : Array Value) (W : World), Sem.run Tryd.prog (callFunc n args) W = .ok (.enter n args) W)
    (HC : ∀ t W, 0 ≤ t → t ≤ 36000000 → Below w.heap.size w W → Calls Tryd.prog n #[.int .i64 t, c1, c2] W fun e w' => e = .returned (.bool (P t)) ∧ Below W.heap.size W w')
    (h0 : 0 ≤ lo) (h1 : lo ≤ hi) (h2 : hi ≤ 36000000) :
    Calls Tryd.prog 68 #[.int .i64 lo, .int .i64 hi, .func (.func n) #[] #[c1, c2]] w fun e w' => e = .returned (.int .i64 (bsV P lo hi)) ∧ Below w.heap.size w w' := by
  have CA := Lib.hid HC
  clear HC
  have BS := Lib.hid (fun (a b : Int) => bsV_end P (lo := a) (hi := b))
  have BY := Lib.hid (fun (a b : Int) => bsV_yes P (lo := a) (hi := b))
  have BN := Lib.hid (fun (a b : Int) => bsV_no P (lo := a) (hi := b))
  go_enter Tryd.func68, Tryd.ntmps68
  go_wp2_with fail
  go_loopw [0, 1] (fun i j wr => ∃ a b : Int, i = .int .i64 a ∧ j = .int .i64 b ∧ lo ≤ a ∧ a ≤ b ∧ b ≤ hi ∧ Hid (bsV P a b = bsV P lo hi) ∧ Below w.heap.size w wr) (fun i j _ => (intOf j - intOf i).toNat)
  case atStart => exact ⟨lo, hi, rfl, rfl, Int.le_refl _, h1, Int.le_refl _, Lib.hid rfl, Below.refl _ _⟩
  case round =>
    obtain ⟨a, b, rfl, rfl, r1, r2, r3, HB, hbw⟩ := hrel
    by_cases hab : a < b
    · have hm1 : a ≤ (a + b) / 2 := by omega
      have hm2 : (a + b) / 2 < b := by omega
      have hm3 : Int.tdiv (a + b) 2 = (a + b) / 2 := Int.tdiv_eq_ediv_of_nonneg (by omega)
      have CA2 := Lib.hid (CA.out ((a + b) / 2) wr (by omega) (by omega) hbw)
      have BY2 := Lib.hid (BY.out a b hab)
      have BN2 := Lib.hid (BN.out a b hab)
      generalize hmm : (a + b) / 2 = m at *
      cases hP : P m
      all_goals
        rw [hP] at CA2
        have HP := Lib.hid hP
        clear hP
        go_wp2_with fail
        refine CA2.out.mono ?_
        rintro e wR ⟨rfl, hbr⟩
        have HZ := Lib.hid (bt hbw hbr)
        clear hbr
        go_wp2_with fail
        go_roundw
        case rel =>
          first
            | exact ⟨a, m, rfl, rfl, by omega, by omega, by omega, Lib.hid ((BY2.out HP.out).symm.trans HB.out), HZ.out⟩
            | exact ⟨m + 1, b, by go_num, rfl, by omega, by omega, by omega, Lib.hid ((BN2.out HP.out).symm.trans HB.out), HZ.out⟩
        case measure => simp [intOf]; omega
    · have HV := Lib.hid ((BS.out a b (by omega)).symm.trans HB.out)
      have HZ := Lib.hid hbw
      go_wp2
      go_ret
      exact ⟨by rw [← HV.out]; rfl, HZ.out⟩
end Go.Proofs.YtdicoggpcobbpaaDoor
