/- The contract of the reference's minus. -/
import Derived.Test.YteelomjknllcbaaNatPlus
import Derived.Test.YteelomjknllcbaaNatOrder
namespace Go.Proofs.Yteelomjknllcbaa
open Go.RowKit
set_option linter.unusedVariables false
set_option linter.unusedSimpArgs false

theorem borrowM_le (a b i : Nat) : borrowM a b i ≤ 1 := by unfold borrowM; split <;> omega
theorem borrowM_zero (a b : Nat) : borrowM a b 0 = 0 := by simp [borrowM, Nat.mod_one]
/-- what a round computes out of s -/
theorem minus_pos {d c : Nat} {s x : Int} (h : (d : Int) = s + (if s < 0 then 1000000000 else 0) ∧ c = (if s < 0 then 1 else 0)) (hx : x = s) (h0 : ¬ s < 0) : Value.int .i64 x = Value.int .i64 (d : Nat) ∧ c = 0 := by
  obtain ⟨h1, h2⟩ := h
  rw [if_neg h0] at h1 h2
  exact ⟨by rw [h1, hx, Int.add_zero], h2⟩
theorem minus_neg {d c : Nat} {s x : Int} (h : (d : Int) = s + (if s < 0 then 1000000000 else 0) ∧ c = (if s < 0 then 1 else 0)) (hx : x = s) (h0 : s < 0) : Value.int .i64 (x + 1000000000) = Value.int .i64 (d : Nat) ∧ c = 1 := by
  obtain ⟨h1, h2⟩ := h
  rw [if_pos h0] at h1 h2
  exact ⟨by rw [h1, hx], h2⟩

set_option maxHeartbeats 4000000 in
set_option maxRecDepth 100000 in
theorem minus_any (B n m : Nat) (v u : Value) (w : World) (hB : B ≤ w.heap.size) (fn : Fit n) (hle : m ≤ n) (hv : IsN B w v n) (hu : IsN B w u m) : Calls Try.prog 98 #[v, u] w (NewO w.heap.size (n - m) w) := by
  obtain ⟨L, hL, ao, cap, rfl, c1, c2, hn, hx⟩ := hv
  obtain ⟨M, hM, bo, dap, rfl, d1, d2, hm, hy⟩ := hu
  have hl := fn.len hL
  have hml : M ≤ L := by
    by_cases h : L < M
    · have := len_less hL hM h
      omega
    · omega
  have HX := Lib.hid hx
  have HY := Lib.hid hy
  have Hn := Lib.hid hn
  have Hm := Lib.hid hm
  have Hle := Lib.hid hle
  clear hx hy hn hm hL hM fn hle
  obtain ⟨i0, hi, hz0, hz1, hz2⟩ := info_parts int_info
  have Hi := Lib.hid hi
  have Hz0 := Lib.hid hz0
  have Hz1 := Lib.hid hz1
  have Hz2 := Lib.hid hz2
  clear hi hz0 hz1 hz2
  go_enter Try.func98, Try.ntmps98
  go_wp2
  go_loopw [5, 6, 11] (fun o c i wr => ∃ k : Nat, k ≤ L ∧ i = .int .i64 k ∧ c = .int .i64 (borrowM n m k : Nat) ∧ wr.ownsRow w.heap.size 3 1 o k (dcells (n - m) k) ∧ Below w.heap.size w wr) (fun _ _ i _ => L - (intOf i).toNat)
  case atStart => exact ⟨0, by omega, rfl, by rw [borrowM_zero]; rfl, by simpa [dcells] using World.ownsRow_nil _ _ _ _, Below.refl _ _⟩
  case round =>
    rename_i wr
    obtain ⟨k, hk, rfl, rfl, hown, hb⟩ := hrel
    have HO := Lib.hid hown
    have HB := Lib.hid hb
    have hsz := hb.size
    have HD := Lib.hid (minus_dg n m k Hle.out)
    have HM0 := Lib.hid (fun h : M ≤ k => dg_zero_of_lt (lt_pow Hm.out h))
    have hc1 := borrowM_le n m k
    have hx9 := dg_le9 n k
    have hy9 := dg_le9 m k
    obtain ⟨ao2, cap2, rfl⟩ := own_shape1 hown
    generalize hcn : borrowM n m (k + 1) = cn at *
    have HCN := Lib.hid hcn
    generalize borrowM n m k = c at *
    clear hown hb hcn
    by_cases hkL : k < L
    · obtain ⟨b, off, rfl, hbb, hcx⟩ := HX.out (by omega)
      have hcx' := (HB.out.cell (p := ⟨b, off + k, none⟩) (Nat.lt_of_lt_of_le hbb hB)).trans (hcx k hkL)
      clear hcx
      generalize dg n k = x at *
      by_cases hkM : k < M
      · obtain ⟨b', off', rfl, hbb', hcy⟩ := HY.out (by omega)
        have hcy' := (HB.out.cell (p := ⟨b', off' + k, none⟩) (Nat.lt_of_lt_of_le hbb' hB)).trans (hcy k hkM)
        clear hcy HM0
        generalize dg m k = y at *
        by_cases hs : (x : Int) - (c : Int) - (y : Int) < 0
        · obtain ⟨hd2, hc2⟩ := minus_neg HD.out (x := (x : Int) - (c : Int) - (y : Int)) (by omega) (by omega)
          have HD2 := Lib.hid hd2
          obtain rfl := hc2
          clear HD hd2
          go_wp2_with (at_builtin; refine wpList_append_own _ rfl _ _ 80 rfl w.heap.size 3 i0 (.int .i64 0) 1 8 Try.underlying80 Hi.out Hz0.out Hz1.out Hz2.out rfl (by decide) _ _ _ rfl (HO.out.alloc _) ⟨wr.heap.size, 0, none⟩ 1 1 [.int .i64 ((x : Int) - (c : Int) - (y : Int) + 1000000000)] rfl rfl (one_int _ _ _ _) (int_one _) (by unfold maxLen; omega) (by omega) (by simp; omega) ?_)
          all_goals intro v' w2 hown2 hgrow _
          all_goals rw [cells_snoc HD2.out] at hown2
          all_goals have HB2 := Lib.hid (below_own2 HB.out HO.out hgrow hsz)
          all_goals obtain ⟨ao3, cap3, rfl⟩ := own_shape1 hown2
          all_goals have HO2 := Lib.hid hown2
          all_goals clear hown2 hgrow HO HB HD2
          all_goals go_wp2
          all_goals go_roundw
          all_goals (first | exact ⟨k + 1, by omega, by go_num, by rw [HCN.out]; rfl, HO2.out, HB2.out⟩ | (simp [intOf]; omega))
        · obtain ⟨hd2, hc2⟩ := minus_pos HD.out (x := (x : Int) - (c : Int) - (y : Int)) (by omega) (by omega)
          have HD2 := Lib.hid hd2
          obtain rfl := hc2
          clear HD hd2
          go_wp2_with (at_builtin; refine wpList_append_own _ rfl _ _ 80 rfl w.heap.size 3 i0 (.int .i64 0) 1 8 Try.underlying80 Hi.out Hz0.out Hz1.out Hz2.out rfl (by decide) _ _ _ rfl (HO.out.alloc _) ⟨wr.heap.size, 0, none⟩ 1 1 [.int .i64 ((x : Int) - (c : Int) - (y : Int))] rfl rfl (one_int _ _ _ _) (int_one _) (by unfold maxLen; omega) (by omega) (by simp; omega) ?_)
          all_goals intro v' w2 hown2 hgrow _
          all_goals rw [cells_snoc HD2.out] at hown2
          all_goals have HB2 := Lib.hid (below_own2 HB.out HO.out hgrow hsz)
          all_goals obtain ⟨ao3, cap3, rfl⟩ := own_shape1 hown2
          all_goals have HO2 := Lib.hid hown2
          all_goals clear hown2 hgrow HO HB HD2
          all_goals go_wp2
          all_goals go_roundw
          all_goals (first | exact ⟨k + 1, by omega, by go_num, by rw [HCN.out]; rfl, HO2.out, HB2.out⟩ | (simp [intOf]; omega))
      · have hy0 := HM0.out (by omega)
        rw [hy0] at HD
        clear HM0 hy0 hy9
        by_cases hs : (x : Int) - (c : Int) < 0
        · obtain ⟨hd2, hc2⟩ := minus_neg HD.out (x := (x : Int) - (c : Int)) (by omega) (by omega)
          have HD2 := Lib.hid hd2
          obtain rfl := hc2
          clear HD hd2
          go_wp2_with (at_builtin; refine wpList_append_own _ rfl _ _ 80 rfl w.heap.size 3 i0 (.int .i64 0) 1 8 Try.underlying80 Hi.out Hz0.out Hz1.out Hz2.out rfl (by decide) _ _ _ rfl (HO.out.alloc _) ⟨wr.heap.size, 0, none⟩ 1 1 [.int .i64 ((x : Int) - (c : Int) + 1000000000)] rfl rfl (one_int _ _ _ _) (int_one _) (by unfold maxLen; omega) (by omega) (by simp; omega) ?_)
          all_goals intro v' w2 hown2 hgrow _
          all_goals rw [cells_snoc HD2.out] at hown2
          all_goals have HB2 := Lib.hid (below_own2 HB.out HO.out hgrow hsz)
          all_goals obtain ⟨ao3, cap3, rfl⟩ := own_shape1 hown2
          all_goals have HO2 := Lib.hid hown2
          all_goals clear hown2 hgrow HO HB HD2
          all_goals go_wp2
          all_goals go_roundw
          all_goals (first | exact ⟨k + 1, by omega, by go_num, by rw [HCN.out]; rfl, HO2.out, HB2.out⟩ | (simp [intOf]; omega))
        · obtain ⟨hd2, hc2⟩ := minus_pos HD.out (x := (x : Int) - (c : Int)) (by omega) (by omega)
          have HD2 := Lib.hid hd2
          obtain rfl := hc2
          clear HD hd2
          go_wp2_with (at_builtin; refine wpList_append_own _ rfl _ _ 80 rfl w.heap.size 3 i0 (.int .i64 0) 1 8 Try.underlying80 Hi.out Hz0.out Hz1.out Hz2.out rfl (by decide) _ _ _ rfl (HO.out.alloc _) ⟨wr.heap.size, 0, none⟩ 1 1 [.int .i64 ((x : Int) - (c : Int))] rfl rfl (one_int _ _ _ _) (int_one _) (by unfold maxLen; omega) (by omega) (by simp; omega) ?_)
          all_goals intro v' w2 hown2 hgrow _
          all_goals rw [cells_snoc HD2.out] at hown2
          all_goals have HB2 := Lib.hid (below_own2 HB.out HO.out hgrow hsz)
          all_goals obtain ⟨ao3, cap3, rfl⟩ := own_shape1 hown2
          all_goals have HO2 := Lib.hid hown2
          all_goals clear hown2 hgrow HO HB HD2
          all_goals go_wp2
          all_goals go_roundw
          all_goals (first | exact ⟨k + 1, by omega, by go_num, by rw [HCN.out]; rfl, HO2.out, HB2.out⟩ | (simp [intOf]; omega))
    · obtain rfl : k = L := by omega
      have HL := Lib.hid (Nat.lt_of_le_of_lt (Nat.sub_le n m) Hn.out)
      clear HD HCN HM0 hx9 hy9
      go_wp2_with (go_at_call 108; refine (trim_own _ _ _ _ _ HO.out HL.out).mono ?_; rintro e w' ⟨⟨v', L', rfl, hl', ho'⟩, rfl⟩)
      all_goals
        have HO' := Lib.hid ho'
        have HL' := Lib.hid hl'
        clear ho' hl'
        go_wp2
        go_ret
        exact ⟨_, _, rfl, HL'.out, HO'.out, HB.out⟩
end Go.Proofs.Yteelomjknllcbaa
