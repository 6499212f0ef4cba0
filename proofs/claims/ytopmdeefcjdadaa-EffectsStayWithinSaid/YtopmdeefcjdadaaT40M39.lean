/- effect.greatest over a function value of three captures -/
import Derived.Test.YtopmdeefcjdadaaT40M19

namespace Go.Proofs.Ytopmdeefcjdadaa
open Go.RowKit
set_option linter.unusedVariables false
set_option linter.unusedSimpArgs false

set_option maxRecDepth 100000 in
set_option maxHeartbeats 8000000 in
theorem greatest3_any (fn : FuncId) (p q s : Value) (m : Int) (H : Int → Bool) (w : World) (hm0 : 0 ≤ m) (hm1 : m ≤ 1000000000)
    (hmono : ∀ a b, 0 ≤ a → a ≤ b → b ≤ m → H b = true → H a = true)
    (hcf : ∀ args W, Sem.run Try.prog (callFunc fn args) W = .ok (.enter fn args) W)
    (hc : ∀ k W, 0 ≤ k → k ≤ m → Below w.heap.size w W → Calls Try.prog fn #[.int .i64 k, p, q, s] W fun e w' => e = .returned (.bool (H k)) ∧ Below W.heap.size W w') :
    Calls Try.prog 47 #[.int .i64 m, .func (.func fn) #[] #[p, q, s]] w fun e w' => ∃ r, e = .returned (.int .i64 r) ∧ (0 ≤ r ∧ r ≤ m) ∧ (0 < r → H r = true) ∧ (r < m → H (r + 1) = false) ∧ Below w.heap.size w w' := by
  have HC := Lib.hid hc
  have HMO := Lib.hid hmono
  clear hc hmono
  go_enter Try.func47, Try.ntmps47
  go_wp2_with fail
  go_loopw [5, 6] (fun a b wx => ∃ (lo hi : Int), a = .int .i64 lo ∧ b = .int .i64 hi ∧ 0 ≤ lo ∧ lo ≤ hi ∧ hi ≤ m ∧ Hid (0 < lo → H lo = true) ∧ Hid (hi < m → H (hi + 1) = false) ∧ Hid (Below w.heap.size w wx)) (fun a b _ => (intOf b - intOf a).toNat)
  case atStart => exact ⟨0, m, rfl, rfl, by omega, by omega, by omega, Lib.hid (fun h => absurd h (by omega)), Lib.hid (fun h => absurd h (by omega)), Lib.hid (Below.refl _ _)⟩
  case round =>
    obtain ⟨lo, hi, rfl, rfl, h0, h1, h2, HL, HH, HB⟩ := hrel
    by_cases hlt : lo < hi
    · have a1 : IntKind.i64.wrap (lo + hi) = lo + hi := IntWalk.i64_in _ (by omega)
      have a2 : IntKind.i64.wrap (lo + hi + 1) = lo + hi + 1 := IntWalk.i64_in _ (by omega)
      have a3 : (lo + hi + 1).tdiv 2 = (lo + hi + 1) / 2 := Int.tdiv_eq_ediv_of_nonneg (by omega)
      obtain ⟨k, hk⟩ : ∃ k, (lo + hi + 1) / 2 = k := ⟨_, rfl⟩
      have hk1 : lo < k ∧ k ≤ hi := by omega
      rw [hk] at a3
      have a4 : IntKind.i64.wrap k = k := IntWalk.i64_in _ (by omega)
      have a5 : IntKind.i64.wrap (k - 1) = k - 1 := IntWalk.i64_in _ (by omega)
      have HCK := Lib.hid (HC.out k wr (by omega) (by omega) HB.out)
      clear hk
      cases hHk : H k
      · rw [hHk] at HCK
        have HN := Lib.hid (show k - 1 < m → H (k - 1 + 1) = false from fun _ => by rw [show k - 1 + 1 = k by omega]; exact hHk)
        clear hHk
        go_wp2_with fail
        refine HCK.out.mono ?_
        rintro e wz ⟨rfl, hb⟩
        have HBZ := Lib.hid (HB.out.trans (hb.mono HB.out.size))
        clear hb HCK
        go_wp2_with fail
        go_roundw
        case rel => exact ⟨lo, k - 1, rfl, by first | rfl | go_num, by omega, by omega, by omega, HL, HN, HBZ⟩
        case measure => simp [intOf]; omega
      · rw [hHk] at HCK
        have HN := Lib.hid (show 0 < k → H k = true from fun _ => hHk)
        clear hHk
        go_wp2_with fail
        refine HCK.out.mono ?_
        rintro e wz ⟨rfl, hb⟩
        have HBZ := Lib.hid (HB.out.trans (hb.mono HB.out.size))
        clear hb HCK
        go_wp2_with fail
        go_roundw
        case rel => exact ⟨k, hi, rfl, rfl, by omega, by omega, by omega, HN, HH, HBZ⟩
        case measure => simp [intOf]; omega
    · have he : lo = hi := by omega
      subst he
      go_wp2_with fail
      go_ret
      exact ⟨lo, rfl, ⟨h0, h2⟩, HL.out, HH.out, HB.out⟩
end Go.Proofs.Ytopmdeefcjdadaa
