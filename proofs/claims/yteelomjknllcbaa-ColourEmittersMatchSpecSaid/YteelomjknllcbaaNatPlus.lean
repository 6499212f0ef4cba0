/- The contract of the reference's plus. -/
import Derived.Test.YteelomjknllcbaaNatSmall
namespace Go.Proofs.Yteelomjknllcbaa
open Go.RowKit
set_option linter.unusedVariables false
set_option linter.unusedSimpArgs false

/-- a number of at most 20 digits -/
def Fit (n : Nat) : Prop := n < BB ^ 20
theorem Fit.len {n L : Nat} (h : Fit n) (hl : LenOf n L) : L ≤ 20 := lenOf_le hl h
theorem Fit.le {n m : Nat} (h : Fit m) (hl : n ≤ m) : Fit n := Nat.lt_of_le_of_lt hl h
theorem carry_end {n m k : Nat} (h1 : n < BB ^ k) (h2 : m < BB ^ k) : carryP n m (k + 1) = 0 := by
  unfold carryP
  have e : BB ^ (k + 1) = BB * BB ^ k := Nat.pow_succ'
  have h3 : 2 * BB ^ k ≤ BB * BB ^ k := Nat.mul_le_mul_right _ (by decide)
  have a1 : n % BB ^ (k + 1) ≤ n := Nat.mod_le _ _
  have a2 : m % BB ^ (k + 1) ≤ m := Nat.mod_le _ _
  exact Nat.div_eq_of_lt (by omega)
theorem plus_all {n m k : Nat} (h1 : n < BB ^ k) (h2 : m < BB ^ k) (h : carryP n m k = 0) : n + m < BB ^ k := by
  have := plus_div n m k
  rw [h, Nat.div_eq_of_lt h1, Nat.div_eq_of_lt h2] at this
  exact (Nat.div_eq_zero_iff_lt (BBp k)).1 (by omega)
theorem lt_pow {n L k : Nat} (h : n < BB ^ L) (hk : L ≤ k) : n < BB ^ k := Nat.lt_of_lt_of_le h (pow_mono hk)
/-- what a round computes out of s: the digit and the carry -/
theorem digit_val {s d : Nat} {x : Int} (hx : x = (s : Nat)) (h : d = s % BB) : Value.int .i64 (x % 1000000000) = Value.int .i64 (d : Nat) := by
  subst hx h
  unfold BB
  exact congrArg _ (by omega)
theorem carry_val {s c : Nat} {x : Int} (hx : x = (s : Nat)) (h : c = s / BB) : Value.int .i64 (x / 1000000000) = Value.int .i64 (c : Nat) := by
  subst hx h
  unfold BB
  exact congrArg _ (by omega)
theorem carry_valw {s c : Nat} {x : Int} (hx : x = (s : Nat)) (h : c = s / BB) (hs : s ≤ 9223372036854775807) : Value.int .i64 (wrap64 (x / 1000000000)) = Value.int .i64 (c : Nat) := by
  subst hx
  rw [div_wrap hs]
  exact carry_val rfl h
theorem cells_snoc {n k : Nat} {u : Value} (h : u = .int .i64 (dg n k : Nat)) : dcells n k ++ [u] = dcells n (k + 1) := by rw [dcells_succ, h]
theorem below_own2 {B : Nat} {w wr w2 : World} {v : Value} {e n : Nat} {xs : List Value} {o : Obj} (hb : Below B w wr) (ho : wr.ownsRow B e 1 v n xs) (hg : (wr.alloc o).grownBy w2 v.ownBlock) (hs : B ≤ wr.heap.size) : Below B w w2 :=
  (hb.alloc hs o).grown hg (by simp; omega) fun k hk => (ho.lt k hk).1
theorem dg_le9 (n i : Nat) : ((dg n i : Nat) : Int) ≤ 999999999 := by
  have := dg_lt n i
  unfold BB at this
  omega

/-- the first rounds of plus: how far -/
def PlusR (n m L M k : Nat) : Prop := k ≤ L ∨ k ≤ M ∨ (k ≤ max L M + 1 ∧ carryP n m k = 0)

set_option maxHeartbeats 4000000 in
set_option maxRecDepth 100000 in
theorem nplus_any (B n m : Nat) (v u : Value) (w : World) (hB : B ≤ w.heap.size) (fn : Fit n) (fm : Fit m) (hv : IsN B w v n) (hu : IsN B w u m) : Calls Try.prog 95 #[v, u] w (NewO w.heap.size (n + m) w) := by
  obtain ⟨L, hL, ao, cap, rfl, c1, c2, hn, hx⟩ := hv
  obtain ⟨M, hM, bo, dap, rfl, d1, d2, hm, hy⟩ := hu
  have hl := fn.len hL
  have hml := fm.len hM
  have HX := Lib.hid hx
  have HY := Lib.hid hy
  have Hn := Lib.hid hn
  have Hm := Lib.hid hm
  clear hx hy hn hm hL hM fn fm
  obtain ⟨i0, hi, hz0, hz1, hz2⟩ := info_parts int_info
  have Hi := Lib.hid hi
  have Hz0 := Lib.hid hz0
  have Hz1 := Lib.hid hz1
  have Hz2 := Lib.hid hz2
  clear hi hz0 hz1 hz2
  go_enter Try.func95, Try.ntmps95
  go_wp2
  go_loopw [5, 6, 7] (fun o c i wr => ∃ k : Nat, k ≤ max L M + 1 ∧ i = .int .i64 k ∧ c = .int .i64 (carryP n m k : Nat) ∧ wr.ownsRow w.heap.size 3 1 o k (dcells (n + m) k) ∧ Below w.heap.size w wr) (fun _ _ i _ => max L M + 2 - (intOf i).toNat)
  case atStart => exact ⟨0, by omega, rfl, by rw [carryP_zero]; rfl, by simpa [dcells] using World.ownsRow_nil _ _ _ _, Below.refl _ _⟩
  case round =>
    rename_i wr
    obtain ⟨k, hk, rfl, rfl, hown, hb⟩ := hrel
    have HO := Lib.hid hown
    have HB := Lib.hid hb
    have hsz := hb.size
    have HD := Lib.hid (plus_dg n m k)
    have HC := Lib.hid (plus_carry n m k)
    have HE := Lib.hid (fun (h1 : L ≤ k) (h2 : M ≤ k) (h : carryP n m k = 0) => plus_all (lt_pow Hn.out h1) (lt_pow Hm.out h2) h)
    have HF := Lib.hid (fun e : k = max L M + 1 => (show carryP n m k = 0 by rw [e]; exact carry_end (lt_pow Hn.out (Nat.le_max_left _ _)) (lt_pow Hm.out (Nat.le_max_right _ _))))
    have HN0 := Lib.hid (fun h : L ≤ k => dg_zero_of_lt (lt_pow Hn.out h))
    have HM0 := Lib.hid (fun h : M ≤ k => dg_zero_of_lt (lt_pow Hm.out h))
    have hc1 := carryP_le n m k
    have hx9 := dg_le9 n k
    have hy9 := dg_le9 m k
    obtain ⟨ao2, cap2, rfl⟩ := own_shape1 hown
    generalize hcn : carryP n m (k + 1) = cn at *
    have HCN := Lib.hid hcn
    generalize carryP n m k = c at *
    clear hown hb hcn
    by_cases hkL : k < L
    · obtain ⟨b, off, rfl, hbb, hcx⟩ := HX.out (by omega)
      have hcx' := (HB.out.cell (p := ⟨b, off + k, none⟩) (Nat.lt_of_lt_of_le hbb hB)).trans (hcx k hkL)
      clear hcx
      generalize dg n k = x at *
      by_cases hkM : k < M
      · obtain ⟨b', off', rfl, hbb', hcy⟩ := HY.out (by omega)
        have hcy' := (HB.out.cell (p := ⟨b', off' + k, none⟩) (Nat.lt_of_lt_of_le hbb' hB)).trans (hcy k hkM)
        clear hcy
        generalize dg m k = y at *
        clear HE HF HN0 HM0
        have HD2 := Lib.hid (show Value.int .i64 (((c : Int) + (x : Int) + (y : Int)) % 1000000000) = .int .i64 (dg (n + m) k : Nat) from digit_val (s := c + x + y) (by omega) HD.out)
        have HC2 := Lib.hid (show Value.int .i64 (((c : Int) + (x : Int) + (y : Int)) / 1000000000) = .int .i64 (cn : Nat) from carry_val (s := c + x + y) (by omega) HC.out)
        clear HD HC
        go_wp2_with (at_builtin; refine wpList_append_own _ rfl _ _ 80 rfl w.heap.size 3 i0 (.int .i64 0) 1 8 Try.underlying80 Hi.out Hz0.out Hz1.out Hz2.out rfl (by decide) _ _ _ rfl (HO.out.alloc _) ⟨wr.heap.size, 0, none⟩ 1 1 [.int .i64 (((c : Int) + (x : Int) + (y : Int)) % 1000000000)] rfl rfl (one_int _ _ _ _) (int_one _) (by unfold maxLen; omega) (by omega) (by simp; omega) ?_)
        all_goals intro v' w2 hown2 hgrow _
        all_goals rw [cells_snoc HD2.out] at hown2
        all_goals have HB2 := Lib.hid (below_own2 HB.out HO.out hgrow hsz)
        all_goals obtain ⟨ao3, cap3, rfl⟩ := own_shape1 hown2
        all_goals have HO2 := Lib.hid hown2
        all_goals clear hown2 hgrow HO HB HD2
        all_goals go_wp2
        all_goals go_roundw
        all_goals (first | exact ⟨k + 1, by omega, by go_num, by rw [HCN.out]; exact HC2.out, HO2.out, HB2.out⟩ | (simp [intOf]; omega))
      · have hy0 := HM0.out (by omega)
        rw [hy0] at HD HC
        clear HE HF HN0 HM0 hy0 hy9
        have HD2 := Lib.hid (show Value.int .i64 (((c : Int) + (x : Int)) % 1000000000) = .int .i64 (dg (n + m) k : Nat) from digit_val (s := c + x + 0) (by omega) HD.out)
        have HC2 := Lib.hid (show Value.int .i64 (((c : Int) + (x : Int)) / 1000000000) = .int .i64 (cn : Nat) from carry_val (s := c + x + 0) (by omega) HC.out)
        clear HD HC
        go_wp2_with (at_builtin; refine wpList_append_own _ rfl _ _ 80 rfl w.heap.size 3 i0 (.int .i64 0) 1 8 Try.underlying80 Hi.out Hz0.out Hz1.out Hz2.out rfl (by decide) _ _ _ rfl (HO.out.alloc _) ⟨wr.heap.size, 0, none⟩ 1 1 [.int .i64 (((c : Int) + (x : Int)) % 1000000000)] rfl rfl (one_int _ _ _ _) (int_one _) (by unfold maxLen; omega) (by omega) (by simp; omega) ?_)
        all_goals intro v' w2 hown2 hgrow _
        all_goals rw [cells_snoc HD2.out] at hown2
        all_goals have HB2 := Lib.hid (below_own2 HB.out HO.out hgrow hsz)
        all_goals obtain ⟨ao3, cap3, rfl⟩ := own_shape1 hown2
        all_goals have HO2 := Lib.hid hown2
        all_goals clear hown2 hgrow HO HB HD2
        all_goals go_wp2
        all_goals go_roundw
        all_goals (first | exact ⟨k + 1, by omega, by go_num, by rw [HCN.out]; exact HC2.out, HO2.out, HB2.out⟩ | (simp [intOf]; omega))
    · have hx0 := HN0.out (by omega)
      rw [hx0] at HD HC
      clear hx9
      by_cases hkM : k < M
      · obtain ⟨b', off', rfl, hbb', hcy⟩ := HY.out (by omega)
        have hcy' := (HB.out.cell (p := ⟨b', off' + k, none⟩) (Nat.lt_of_lt_of_le hbb' hB)).trans (hcy k hkM)
        clear hcy
        generalize dg m k = y at *
        clear HE HF HN0 HM0 hx0
        have HD2 := Lib.hid (show Value.int .i64 (((c : Int) + (y : Int)) % 1000000000) = .int .i64 (dg (n + m) k : Nat) from digit_val (s := c + 0 + y) (by omega) HD.out)
        have HC2 := Lib.hid (show Value.int .i64 (((c : Int) + (y : Int)) / 1000000000) = .int .i64 (cn : Nat) from carry_val (s := c + 0 + y) (by omega) HC.out)
        clear HD HC
        go_wp2_with (at_builtin; refine wpList_append_own _ rfl _ _ 80 rfl w.heap.size 3 i0 (.int .i64 0) 1 8 Try.underlying80 Hi.out Hz0.out Hz1.out Hz2.out rfl (by decide) _ _ _ rfl (HO.out.alloc _) ⟨wr.heap.size, 0, none⟩ 1 1 [.int .i64 (((c : Int) + (y : Int)) % 1000000000)] rfl rfl (one_int _ _ _ _) (int_one _) (by unfold maxLen; omega) (by omega) (by simp; omega) ?_)
        all_goals intro v' w2 hown2 hgrow _
        all_goals rw [cells_snoc HD2.out] at hown2
        all_goals have HB2 := Lib.hid (below_own2 HB.out HO.out hgrow hsz)
        all_goals obtain ⟨ao3, cap3, rfl⟩ := own_shape1 hown2
        all_goals have HO2 := Lib.hid hown2
        all_goals clear hown2 hgrow HO HB HD2
        all_goals go_wp2
        all_goals go_roundw
        all_goals (first | exact ⟨k + 1, by omega, by go_num, by rw [HCN.out]; exact HC2.out, HO2.out, HB2.out⟩ | (simp [intOf]; omega))
      · have hy0 := HM0.out (by omega)
        rw [hy0] at HD HC
        clear hy9
        by_cases hc0 : c = 0
        · have HL := Lib.hid (HE.out (by omega) (by omega) hc0)
          subst hc0
          clear HE HF HN0 HM0 hx0 hy0 HD HC HCN
          go_wp2_with (go_at_call 108; refine (trim_own _ _ _ _ _ HO.out HL.out).mono ?_; rintro e w' ⟨⟨v', L', rfl, hl', ho'⟩, rfl⟩)
          all_goals
            have HO' := Lib.hid ho'
            have HL' := Lib.hid hl'
            clear ho' hl'
            go_wp2
            go_ret
            exact ⟨_, _, rfl, HL'.out, HO'.out, HB.out⟩
        · have hk1 : k ≤ max L M := by
            by_cases e : k = max L M + 1
            · exact absurd (HF.out e) hc0
            · omega
          obtain rfl : c = 1 := by omega
          clear HE HF HN0 HM0 hx0 hy0 hc0
          have HD2 := Lib.hid (show Value.int .i64 1 = .int .i64 (dg (n + m) k : Nat) from by rw [HD.out]; rfl)
          have HC2 := Lib.hid (show Value.int .i64 0 = .int .i64 (cn : Nat) from by rw [HC.out]; rfl)
          clear HD HC
          go_wp2_with (at_builtin; refine wpList_append_own _ rfl _ _ 80 rfl w.heap.size 3 i0 (.int .i64 0) 1 8 Try.underlying80 Hi.out Hz0.out Hz1.out Hz2.out rfl (by decide) _ _ _ rfl (HO.out.alloc _) ⟨wr.heap.size, 0, none⟩ 1 1 [.int .i64 1] rfl rfl (one_int _ _ _ _) (int_one _) (by unfold maxLen; omega) (by omega) (by simp; omega) ?_)
          all_goals intro v' w2 hown2 hgrow _
          all_goals rw [cells_snoc HD2.out] at hown2
          all_goals have HB2 := Lib.hid (below_own2 HB.out HO.out hgrow hsz)
          all_goals obtain ⟨ao3, cap3, rfl⟩ := own_shape1 hown2
          all_goals have HO2 := Lib.hid hown2
          all_goals clear hown2 hgrow HO HB HD2
          all_goals go_wp2
          all_goals go_roundw
          all_goals (first | exact ⟨k + 1, by omega, by go_num, by rw [HCN.out]; exact HC2.out, HO2.out, HB2.out⟩ | (simp [intOf]; omega))
end Go.Proofs.Yteelomjknllcbaa
