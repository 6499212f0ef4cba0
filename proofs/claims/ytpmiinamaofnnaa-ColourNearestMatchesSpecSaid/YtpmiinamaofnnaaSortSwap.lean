/- slices.swapRangeCmpFunc, rotateCmpFunc at gels. (printed by wip/gen/gen_sort.py) -/
import Derived.Test.YtpmiinamaofnnaaSortRow
import Derived.Test.YtpmiinamaofnnaaWide
import Derived.Deep.DeepCutAuto
namespace Go.Proofs.Ytpmiinamaofnnaa
open Go.RowKit
set_option linter.unusedVariables false
set_option linter.unusedSimpArgs false

set_option maxRecDepth 100000 in
set_option maxHeartbeats 8000000 in
theorem swapRange_any (g N cap a b n : Nat) (D : Nat → Gel) (fv : Value) (W : World) (h : RowF W g N D) (hab : a + n ≤ b) (hb : b + n ≤ N) (hN : N ≤ 100000) :
    Calls Try.prog 42 #[.slice (some ⟨g, 0, none⟩) N cap, .int .i64 a, .int .i64 b, .int .i64 n, fv] W fun e w' => e = .returned (.tuple #[]) ∧ RowF w' g N (swr D a b n) ∧ W.grownBy w' (some g) := by
  have HR0 := Lib.hid (show RowF W g N (swr D a b 0) by rw [swr_zero]; exact h)
  have HG0 := Lib.hid (show W.grownBy W (some g) from ⟨rfl, rfl, rfl, Nat.le_refl _, fun _ _ _ => rfl⟩)
  clear h
  go_enter Try.func42, Try.ntmps42
  go_wp2_with fail
  go_loopw [10] (fun i wr => ∃ k : Nat, k ≤ n ∧ i = .int .i64 k ∧ Hid (RowF wr g N (swr D a b k)) ∧ Hid (W.grownBy wr (some g))) (fun i _ => n - (intOf i).toNat)
  case atStart => exact ⟨0, Nat.zero_le _, rfl, HR0, HG0⟩
  case round =>
    obtain ⟨k, hk, rfl, HR, HG⟩ := hrel
    by_cases hlt : k < n
    · have hlti : (k : Int) < n := by omega
      obtain ⟨p, hp⟩ : ∃ p, p = a + k := ⟨_, rfl⟩
      obtain ⟨q, hq⟩ : ∃ q, q = b + k := ⟨_, rfl⟩
      have hpi : (a : Int) + (k : Int) = (p : Int) := by omega
      have hqi : (b : Int) + (k : Int) = (q : Int) := by omega
      have hpn : p < N := by omega
      have hqn : q < N := by omega
      have hpz : (p : Int) < N := by omega
      have hqz : (q : Int) < N := by omega
      have hp0 : (0 : Int) ≤ p := by omega
      have hq0 : (0 : Int) ≤ q := by omega
      have hwp : IntKind.i64.wrap (p : Int) = p := IntWalk.i64_in _ (by omega)
      have hwq : IntKind.i64.wrap (q : Int) = q := IntWalk.i64_in _ (by omega)
      have HP := HR.out.elem hpn
      have HQ := HR.out.elem hqn
      have HST := Lib.hid (show swp2 (swr D a b k) p q = swr D a b (k + 1) by rw [hp, hq]; exact swr_step D a b k n hab hlt)
      have HRT := Lib.hid (HR.out.two hpn hqn)
      generalize hE : swr D a b k = E at *
      have c0 := HP.c0
      have f0 := HP.f0
      have c1 := HP.c1
      have f1 := HP.f1
      have c2 := HP.c2
      have f2 := HP.f2
      have c3 := HP.c3
      have f3 := HP.f3
      have c4 := HP.c4
      have f4 := HP.f4
      have d0 := HQ.c0
      have e0 := HQ.f0
      have d1 := HQ.c1
      have e1 := HQ.f1
      have d2 := HQ.c2
      have e2 := HQ.f2
      have d3 := HQ.c3
      have e3 := HQ.f3
      have d4 := HQ.c4
      have e4 := HQ.f4
      have HPQ := Lib.hid (And.intro hp hq)
      clear HP HQ hp hq hE
      generalize E p = x at *
      generalize E q = y at *
      go_upto_region 3 with fail
      go_region
      all_goals go_wp2_with fail
      all_goals go_roundw
      case rel => exact ⟨k + 1, by omega, by go_num, Lib.hid (by rw [← HST.out]; exact HRT.out.drew), Lib.hid (grown_trans HG.out (grown_trans (grown_two wr g p q y x) (grown_drew _ _)))⟩
      case measure => simp [intOf]; omega
    · have hkn : k = n := by omega
      subst hkn
      have hge : ¬ (k : Int) < k := by omega
      go_wp2_with fail
      go_end0
      exact ⟨rfl, HR.out, HG.out⟩
set_option maxRecDepth 100000 in
set_option maxHeartbeats 8000000 in
theorem rotate_any (g N cap a m b : Nat) (D : Nat → Gel) (fv : Value) (W : World) (h : RowF W g N D) (ha : a < m) (hm : m < b) (hb : b ≤ N) (hN : N ≤ 100000) :
    Calls Try.prog 40 #[.slice (some ⟨g, 0, none⟩) N cap, .int .i64 a, .int .i64 m, .int .i64 b, fv] W fun e w' => e = .returned (.tuple #[]) ∧ RowF w' g N (rot D a m b) ∧ W.grownBy w' (some g) := by
  have CW := Lib.hid (fun a b n E W' h1 h2 h3 => swapRange_any g N cap a b n E fv W' h1 h2 h3 hN)
  have HR0 := Lib.hid h
  have HG0 := Lib.hid (show W.grownBy W (some g) from ⟨rfl, rfl, rfl, Nat.le_refl _, fun _ _ _ => rfl⟩)
  have hi0 : (m : Int) - (a : Int) = ((m - a : Nat) : Int) := by omega
  have hj0 : (b : Int) - (m : Int) = ((b - m : Nat) : Int) := by omega
  have HE0 := Lib.hid (show rot D (m - (m - a)) m (m + (b - m)) = rot D a m b by rw [show m - (m - a) = a by omega, show m + (b - m) = b by omega])
  obtain ⟨i0, hi0'⟩ : ∃ i0, i0 = m - a := ⟨_, rfl⟩
  obtain ⟨j0, hj0'⟩ : ∃ j0, j0 = b - m := ⟨_, rfl⟩
  rw [← hi0', ← hj0'] at HE0
  rw [← hi0'] at hi0
  rw [← hj0'] at hj0
  have hip : 0 < i0 := by omega
  have hjp : 0 < j0 := by omega
  have hil : i0 ≤ m := by omega
  have hjl : m + j0 ≤ N := by omega
  clear h hi0' hj0'
  go_enter Try.func40, Try.ntmps40
  go_wp2_with fail
  go_loopw [10, 11] (fun vi vj wr => ∃ i j : Nat, ∃ E : Nat → Gel, 0 < i ∧ 0 < j ∧ i ≤ m ∧ m + j ≤ N ∧ vi = .int .i64 i ∧ vj = .int .i64 j ∧ Hid (rot E (m - i) m (m + j) = rot D a m b) ∧ Hid (RowF wr g N E) ∧ Hid (W.grownBy wr (some g))) (fun vi vj _ => (intOf vi).toNat + (intOf vj).toNat)
  case atStart => exact ⟨i0, j0, D, hip, hjp, hil, hjl, by go_num, by go_num, HE0, HR0, HG0⟩
  case round =>
    obtain ⟨i, j, E, hi, hj, him, hjn, rfl, rfl, HE, HR, HG⟩ := hrel
    have hmi : (m : Int) - (i : Int) = ((m - i : Nat) : Int) := by omega
    by_cases hij : i = j
    · subst hij
      have CS := Lib.hid (CW.out (m - i) m i E wr HR.out (by omega) (by omega))
      have HEQ := Lib.hid ((rot_same E him).trans HE.out)
      rw [HEQ.out] at CS
      clear CW HE HEQ
      go_wp2_with fail
      refine CS.out.mono ?_
      rintro e w' ⟨rfl, h1, h2⟩
      have HR9 := Lib.hid h1
      have HG9 := Lib.hid (grown_trans HG.out h2)
      clear h1 h2 CS
      go_wp2_with fail
      go_end0
      exact ⟨rfl, HR9.out, HG9.out⟩
    · have hne : ¬ (i : Int) = j := by omega
      have hnb : ((i : Int) != j) = true := by simpa using hne
      by_cases hgt : j < i
      · have hgi : (j : Int) < i := by omega
        have CS := Lib.hid (CW.out (m - i) m j E wr HR.out (by omega) (by omega))
        have HEQ := Lib.hid ((rot_more E him hgt).trans HE.out)
        have hsb : (i : Int) - (j : Int) = ((i - j : Nat) : Int) := by omega
        clear CW HE
        go_wp2_with fail
        refine CS.out.mono ?_
        rintro e w' ⟨rfl, h1, h2⟩
        have HR9 := Lib.hid h1
        have HG9 := Lib.hid (grown_trans HG.out h2)
        clear h1 h2 CS
        go_wp2_with fail
        go_roundw
        case rel => exact ⟨i - j, j, _, by omega, hj, by omega, hjn, by go_num, rfl, HEQ, HR9, HG9⟩
        case measure => simp [intOf]; omega
      · have hgi : ¬ (j : Int) < i := by omega
        have CS := Lib.hid (CW.out (m - i) (m + j - i) i E wr HR.out (by omega) (by omega))
        have HEQ := Lib.hid ((rot_less E him (by omega)).trans HE.out)
        have hsb : (j : Int) - (i : Int) = ((j - i : Nat) : Int) := by omega
        have hsm : (m : Int) + (j : Int) - (i : Int) = ((m + j - i : Nat) : Int) := by omega
        clear CW HE
        go_wp2_with fail
        refine CS.out.mono ?_
        rintro e w' ⟨rfl, h1, h2⟩
        have HR9 := Lib.hid h1
        have HG9 := Lib.hid (grown_trans HG.out h2)
        clear h1 h2 CS
        go_wp2_with fail
        go_roundw
        case rel => exact ⟨i, j - i, _, hi, by omega, him, by omega, rfl, by go_num, HEQ, HR9, HG9⟩
        case measure => simp [intOf]; omega
end Go.Proofs.Ytpmiinamaofnnaa
