/- The contracts of small and number. -/
import Derived.Test.YteelomjknllcbaaNat
namespace Go.Proofs.Yteelomjknllcbaa
open Go.RowKit
set_option linter.unusedVariables false
set_option linter.unusedSimpArgs false

theorem tmod_nat (m d : Nat) : Int.tmod (m : Int) (d : Int) = ((m % d : Nat) : Int) := (Int.ofNat_tmod m d).symm
theorem tdiv_nat (m d : Nat) : Int.tdiv (m : Int) (d : Int) = ((m / d : Nat) : Int) := (Int.ofNat_tdiv m d).symm
/-- a new number -/
def NewN (n : Nat) (w : World) (e : Ending) (w' : World) : Prop := ∃ v, e = .returned v ∧ IsN w'.heap.size w' v n ∧ Below w.heap.size w w'
theorem one_int (w : World) (x : Int) (T : TypeId) (fz : Nat × Nat) (j : Nat) (u : Value) (h : [Value.int .i64 x][j]? = some u) : (w.alloc (.cells #[.int .i64 x] T fz)).cell? ((⟨w.heap.size, 0, none⟩ : Addr).add j) = some u := by
  match j, h with
  | 0, h =>
    simp at h
    subst h
    exact World.cell?_alloc_mark w _ T fz 0
theorem int_one (x : Int) : ∀ u ∈ [Value.int .i64 x], u.oneCell' = true := by
  intro u hu
  simp at hu
  subst hu
  rfl
theorem below_own1 {w wr w2 : World} {v : Value} {e n : Nat} {xs : List Value} {o : Obj} (hb : Below w.heap.size w wr) (ho : wr.ownsRow w.heap.size e 1 v n xs) (hg : (wr.alloc o).grownBy w2 v.ownBlock) (hs : w.heap.size ≤ wr.heap.size) : Below w.heap.size w w2 :=
  (hb.alloc hs o).grown hg (by simp; omega) fun k hk => (ho.lt k hk).1
theorem qN_dg (n k : Nat) : dcells n (k + 1) = dcells n k ++ [.int .i64 ((qN n k % 1000000000 : Nat) : Int)] := dcells_succ n k
theorem BB20 : 9223372036854775807 < BB ^ 20 := by unfold BB; decide
theorem qN_20 {n : Nat} (h : n ≤ 9223372036854775807) : qN n 20 = 0 := Nat.div_eq_of_lt (Nat.lt_of_le_of_lt h BB20)
theorem lenOf_of_div {n k : Nat} (h : qN n k = 0) (hz : k = 0 ∨ qN n (k - 1) ≠ 0) : LenOf n k := by
  refine ⟨qN_lt h, fun hk0 => ?_⟩
  rcases hz with h | h
  · omega
  · by_cases hlt : n < BB ^ (k - 1)
    · exact absurd (Nat.div_eq_of_lt hlt) h
    · omega
theorem small_val {m m2 : Nat} (h : wrap64 ((m : Int) / 1000000000) = (m : Int) / 1000000000) (hv : m / 1000000000 = m2) :
    Value.int .i64 (wrap64 ((m : Int) / 1000000000)) = Value.int .i64 (m2 : Int) := by
  rw [h, ← hv]
  exact congrArg _ (by omega)
theorem small_less {m m2 : Nat} (h : wrap64 ((m : Int) / 1000000000) = (m : Int) / 1000000000) (hv : m / 1000000000 = m2) (hm : m ≠ 0) :
    (intOf (Value.int .i64 (wrap64 ((m : Int) / 1000000000)))).toNat < (intOf (Value.int .i64 (m : Int))).toNat := by
  rw [h]
  simp only [intOf]
  omega
theorem div_wrap {m : Nat} (h : m ≤ 9223372036854775807) : wrap64 ((m : Int) / 1000000000) = (m : Int) / 1000000000 := IntWalk.wrap64_in _ ⟨by omega, by omega⟩
theorem mod_val (m : Nat) : (m : Int) % 1000000000 = ((m % 1000000000 : Nat) : Int) := by omega

set_option maxHeartbeats 2000000 in
set_option maxRecDepth 100000 in
theorem small_any (n : Nat) (w : World) (h : n ≤ 9223372036854775807) : Calls Try.prog 93 #[.int .i64 n] w (NewO w.heap.size n w) := by
  have H := Lib.hid h
  clear h
  obtain ⟨i0, hi, hz0, hz1, hz2⟩ := info_parts int_info
  have Hi := Lib.hid hi
  have Hz0 := Lib.hid hz0
  have Hz1 := Lib.hid hz1
  have Hz2 := Lib.hid hz2
  clear hi hz0 hz1 hz2
  go_enter Try.func93, Try.ntmps93
  go_wp2
  go_loopw [0, 3] (fun x v wr => ∃ k : Nat, k ≤ 20 ∧ x = .int .i64 (qN n k : Nat) ∧ Hid (k = 0 ∨ qN n (k - 1) ≠ 0) ∧ wr.ownsRow w.heap.size 3 1 v k (dcells n k) ∧ Below w.heap.size w wr) (fun x _ _ => (intOf x).toNat)
  case atStart => exact ⟨0, by omega, by rw [qN_zero], Lib.hid (.inl rfl), by simpa [dcells] using World.ownsRow_nil _ _ _ _, Below.refl _ _⟩
  case round =>
    rename_i wr
    obtain ⟨k, hk, rfl, hnz, hown, hb⟩ := hrel
    have HO := Lib.hid hown
    have HB := Lib.hid hb
    have hsz := hb.size
    have HM := Lib.hid (qN_dg n k)
    have HV := Lib.hid (qN_div n k)
    have HZ := Lib.hid (fun h : qN n k = 0 => lenOf_of_div h hnz.out)
    have HK := Lib.hid (fun e : k = 20 => (show qN n k = 0 by rw [e]; exact qN_20 H.out))
    have HW := Lib.hid True.intro
    have HB9 := Lib.hid (Nat.le_trans (qN_le n k) H.out)
    obtain ⟨ao, cap, rfl⟩ := own_shape1 hown
    have HNZ := Lib.hid (fun h : qN n k ≠ 0 => (show k + 1 = 0 ∨ qN n (k + 1 - 1) ≠ 0 from .inr h))
    clear hown hb hnz
    generalize hm2 : qN n (k + 1) = m2 at *
    generalize hm : qN n k = m at *
    have HM2 := Lib.hid hm2
    clear hm2 hm
    by_cases h0 : m = 0
    · have HL := Lib.hid (HZ.out h0)
      subst h0
      clear HZ HW HNZ HK HM HV
      go_wp2
      go_ret
      exact ⟨_, k, rfl, HL.out, HO.out, HB.out⟩
    · have hpos : 0 < (m : Int) := by omega
      have hk20 : k < 20 := by
        by_cases he : k = 20
        · exact absurd (HK.out he) h0
        · omega
      have HNZ2 := Lib.hid (HNZ.out h0)
      have ht : Int.tmod (m : Int) 1000000000 = ((m % 1000000000 : Nat) : Int) := tmod_nat m 1000000000
      have hq : Int.tdiv (m : Int) 1000000000 = (m2 : Int) := by
        have := tdiv_nat m 1000000000
        rw [HV.out] at this
        exact this
      have H0 := Lib.hid h0
      clear HNZ HK HZ HW
      go_wp2_with (at_builtin; refine wpList_append_own _ rfl _ _ 80 rfl w.heap.size 3 i0 (.int .i64 0) 1 8 Try.underlying80 Hi.out Hz0.out Hz1.out Hz2.out rfl (by decide) _ _ _ rfl (HO.out.alloc _) ⟨wr.heap.size, 0, none⟩ 1 1 [.int .i64 ((m % 1000000000 : Nat) : Int)] rfl rfl ?c1 (int_one _) ?c3 ?c4 ?c5 ?_)
      case c1 => rw [← mod_val m]; exact one_int wr _ _ _
      case c3 => unfold maxLen; omega
      case c4 => omega
      case c5 => simp; omega
      intro v' w2 hown2 hgrow _
      rw [mod_val m, ← HM.out] at hown2
      obtain ⟨ao2, vc2, hv2⟩ := own_shape1 hown2
      have HB2 := Lib.hid (below_own1 HB.out HO.out hgrow hsz)
      rw [hv2] at hown2 ⊢
      have HO2 := Lib.hid hown2
      clear hv2 hown2 hgrow HM HO ht hq
      go_wp2
      go_roundw
      case rel => exact ⟨k + 1, by omega, by rw [HM2.out]; exact small_val (div_wrap HB9.out) HV.out, HNZ2, HO2.out, HB2.out⟩
      case measure => exact small_less (div_wrap HB9.out) HV.out H0.out
end Go.Proofs.Yteelomjknllcbaa
