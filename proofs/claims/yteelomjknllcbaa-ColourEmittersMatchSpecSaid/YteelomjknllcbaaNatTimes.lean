/- The contract of the reference's times. -/
import Derived.Test.YteelomjknllcbaaNatMut
import Derived.Deep.QuietTactic
import Derived.BigQuiet
namespace Go.Proofs.Yteelomjknllcbaa
open Go.RowKit
set_option linter.unusedVariables false
set_option linter.unusedSimpArgs false

/-- what the outer loop has done behind i places -/
def timS (n m i : Nat) : Nat := n % BB ^ i * m
theorem timS_zero (n m : Nat) : timS n m 0 = 0 := by simp [timS, Nat.mod_one]
theorem timS_all {n m L : Nat} (h : n < BB ^ L) : timS n m L = n * m := by unfold timS; rw [Nat.mod_eq_of_lt h]
theorem timS_succ (n m i : Nat) : timS n m (i + 1) = timS n m i + dg n i * m * BB ^ i := row_next n m i
theorem timS_low {n m M i : Nat} (hm : m < BB ^ M) : timS n m i / BB ^ i < BB ^ M := low_lt hm
theorem timS_dg (n m i k : Nat) : dg (timS n m (i + 1)) (i + k) = (dg (timS n m i) (i + k) + accC (timS n m i / BB ^ i) m (dg n i) k + dg n i * dg m k) % BB := by
  rw [timS_succ, dg_add_at, accC_dg, dg_div]
theorem timS_carry (n m i k : Nat) : accC (timS n m i / BB ^ i) m (dg n i) (k + 1) = (dg (timS n m i) (i + k) + accC (timS n m i / BB ^ i) m (dg n i) k + dg n i * dg m k) / BB := by
  rw [accC_succ, dg_div]
/-- where the inner loop ends, the row is that of the next place -/
theorem timS_end {n m M i k T : Nat} (hm : m < BB ^ M) (hk : M ≤ k) (hc : accC (timS n m i / BB ^ i) m (dg n i) k = 0) : mcells (timS n m (i + 1)) (timS n m i) (i + k) T = dcells (timS n m (i + 1)) T := by
  refine mcells_eq fun p hp => ?_
  by_cases h : p < i + k
  · exact mixd_low h
  · rw [mixd_high (by omega)]
    have h1 : timS n m i / BB ^ i < BB ^ k := Nat.lt_of_lt_of_le (timS_low hm) (pow_mono hk)
    have h2 := acc_all h1 (Nat.lt_of_lt_of_le hm (pow_mono hk)) hc
    obtain ⟨q, rfl⟩ : ∃ q, p = i + q := ⟨p - i, by omega⟩
    rw [timS_succ, dg_add_at, dg_zero_of_lt (Nat.lt_of_lt_of_le h2 (pow_mono (by omega))), ← dg_div, dg_zero_of_lt (Nat.lt_of_lt_of_le h1 (pow_mono (by omega)))]
theorem timS_start {n m i T : Nat} : mcells (timS n m (i + 1)) (timS n m i) i T = dcells (timS n m i) T := by
  refine mcells_eq fun p hp => ?_
  by_cases h : p < i
  · rw [mixd_low h, timS_succ, dg_add_high _ _ _ _ h]
  · exact mixd_high (by omega)
theorem timS_lt {n m L M : Nat} (hn : n < BB ^ L) (hm : m < BB ^ M) : n * m < BB ^ (L + M + 1) := by
  have h1 : n * m ≤ BB ^ L * BB ^ M := Nat.mul_le_mul (Nat.le_of_lt hn) (Nat.le_of_lt hm)
  rw [← Nat.pow_add] at h1
  have h2 : BB ^ (L + M) < BB ^ (L + M + 1) := Nat.pow_lt_pow_right (by decide) (by omega)
  omega

theorem mul_le9 {x y : Nat} (hx : (x : Int) ≤ 999999999) (hy : (y : Int) ≤ 999999999) : x * y ≤ 999999998000000001 := by
  have h1 : x ≤ 999999999 := by omega
  have h2 : y ≤ 999999999 := by omega
  exact Nat.mul_le_mul h1 h2
theorem tim_sum {o c x y : Nat} (ho : (o : Int) ≤ 999999999) (hc : c ≤ x) (hx : (x : Int) ≤ 999999999) (hy : (y : Int) ≤ 999999999) : wrap64 ((o : Int) + (c : Int) + wrap64 ((x : Int) * (y : Int))) = ((o + c + x * y : Nat) : Int) := by
  have h := mul_le9 hx hy
  rw [← Int.natCast_mul]
  generalize x * y = p at *
  have h1 : wrap64 (p : Int) = (p : Int) := IntWalk.wrap64_in _ ⟨by omega, by omega⟩
  rw [h1, IntWalk.wrap64_in _ ⟨by omega, by omega⟩]
  omega
theorem dig_mod {S d : Nat} (h : d = S % BB) : Int.tmod (S : Int) 1000000000 = (d : Int) := by
  rw [h]
  unfold BB
  exact tmod_nat S 1000000000
theorem dig_div {S d : Nat} (h : d = S / BB) : Int.tdiv (S : Int) 1000000000 = (d : Int) := by
  rw [h]
  unfold BB
  exact tdiv_nat S 1000000000
theorem dig_emod {S d : Nat} (h : d = S % BB) : (S : Int) % 1000000000 = (d : Int) := by
  rw [h]
  unfold BB
  omega
theorem dig_ediv {S d : Nat} (h : d = S / BB) : (S : Int) / 1000000000 = (d : Int) := by
  rw [h]
  unfold BB
  omega
theorem carry_small {o c x y cn : Nat} (ho : (o : Int) ≤ 999999999) (hc : c ≤ x) (hx : (x : Int) ≤ 999999999) (hy : (y : Int) ≤ 999999999) (h : cn = (o + c + x * y) / BB) : wrap64 (cn : Int) = (cn : Int) := by
  have h2 := mul_le9 hx hy
  unfold BB at h
  exact IntWalk.wrap64_in _ ⟨by omega, by omega⟩

set_option maxHeartbeats 4000000 in
set_option maxRecDepth 100000 in
theorem ntimes_any (B n m : Nat) (v u : Value) (w : World) (hB : B ≤ w.heap.size) (fn : Fit n) (fm : Fit m) (hv : IsN B w v n) (hu : IsN B w u m) : Calls Try.prog 94 #[v, u] w (NewO w.heap.size (n * m) w) := by
  obtain ⟨L, hL, ao, cap, rfl, c1, c2, hn, hx⟩ := hv
  obtain ⟨M, hM, bo, dap, rfl, d1, d2, hm, hy⟩ := hu
  have hl := fn.len hL
  have hml := fm.len hM
  have HX := Lib.hid hx
  have HY := Lib.hid hy
  have Hn := Lib.hid hn
  have Hm := Lib.hid hm
  clear hx hy hn hm hL hM fn fm
  obtain ⟨i0, hi, hz0, hz1, hz2⟩ := info_parts int_info
  have Hi := Lib.hid hi
  have Hz0 := Lib.hid hz0
  have Hz1 := Lib.hid hz1
  have Hz2 := Lib.hid hz2
  clear hi hz0 hz1 hz2
  obtain ⟨T, hT⟩ : ∃ T : Nat, T = L + M + 1 := ⟨_, rfl⟩
  have HT := Lib.hid hT
  have hTi : (L : Int) + (M : Int) + 1 = (T : Int) := by omega
  clear hT
  go_enter Try.func94, Try.ntmps94
  go_wp2_with (at_make; refine wpList_make_full _ rfl _ _ 80 rfl w.heap.size 3 i0 (.int .i64 0) 1 Try.underlying80 Hi.out Hz0.out Hz1.out .i64 .i64 _ _ T rfl rfl ?c1 ?c2 ?c3 ?c4 (Nat.le_refl _) ?_)
  case c1 => rfl
  case c2 => rfl
  case c3 => rw [HT.out, Hz2.out]; omega
  case c4 => rw [HT.out]; unfold maxLen; omega
  intro w1 hown1 hg1
  rw [toList_madeCells_one, dcells_zero] at hown1
  have HO1 := Lib.hid (show Row w.heap.size w1 w.heap.size T T (dcells 0 T) from hown1)
  have HB1 := Lib.hid ((Below.refl w.heap.size w).grown hg1 (Nat.le_refl _) (by simp))
  clear hown1 hg1
  go_wp2
  go_loopw [19] (fun t wr => ∃ i : Nat, i ≤ L ∧ t = .int .i64 i ∧ Row w.heap.size wr w.heap.size T T (dcells (timS n m i) T) ∧ Below w.heap.size w wr) (fun t _ => L - (intOf t).toNat)
  case atStart => exact ⟨0, by omega, rfl, by rw [timS_zero]; exact HO1.out, HB1.out⟩
  case round =>
    rename_i wr
    obtain ⟨i, hi, rfl, hrow, hb⟩ := hrel
    have HR := Lib.hid hrow
    have HB := Lib.hid hb
    clear hrow hb HO1 HB1
    obtain ⟨wo, rfl⟩ : ∃ wo : World, wo = wr := ⟨_, rfl⟩
    by_cases hiL : i < L
    · have HR2 := Lib.hid (show Row w.heap.size wo w.heap.size T T (mcells (timS n m (i + 1)) (timS n m i) (i + 0) T) by show Row _ _ _ _ _ (mcells _ _ i T); rw [timS_start]; exact HR.out)
      obtain ⟨b, off, rfl, hbb, hcx⟩ := HX.out (by omega)
      have HCX := Lib.hid (hcx i hiL)
      have hx9 := dg_le9 n i
      have hd9 := dg_lt n i
      clear hcx HR
      go_wp2
      go_loopw [7, 8] (fun c kk wr => ∃ k : Nat, k ≤ M + 1 ∧ kk = .int .i64 k ∧ c = .int .i64 (accC (timS n m i / BB ^ i) m (dg n i) k : Nat) ∧ Row w.heap.size wr w.heap.size T T (mcells (timS n m (i + 1)) (timS n m i) (i + k) T) ∧ Below w.heap.size w wr) (fun _ kk _ => M + 2 - (intOf kk).toNat)
      case atStart => exact ⟨0, by omega, rfl, by rw [accC_zero]; rfl, HR2.out, HB.out⟩
      case round =>
        rename_i wr
        obtain ⟨k, hk, rfl, rfl, hrow, hb⟩ := hrel
        have HR := Lib.hid hrow
        have HBr := Lib.hid hb
        have HD := Lib.hid (timS_dg n m i k)
        have HC := Lib.hid (timS_carry n m i k)
        have HE := Lib.hid (fun (h : M ≤ k) (hc : accC (timS n m i / BB ^ i) m (dg n i) k = 0) => timS_end (T := T) Hm.out h hc)
        have HF := Lib.hid (fun e : k = M + 1 => (show accC (timS n m i / BB ^ i) m (dg n i) k = 0 by rw [e]; exact accC_end (timS_low Hm.out) Hm.out (dg_lt n i)))
        have HM0 := Lib.hid (fun h : M ≤ k => dg_zero_of_lt (lt_pow Hm.out h))
        have hc9 := accC_le (timS n m i / BB ^ i) m (dg n i) k
        have ho9 := dg_le9 (timS n m i) (i + k)
        have hy9 := dg_le9 m k
        have hcx := (hb.cell (p := ⟨b, off + i, none⟩) (Nat.lt_of_lt_of_le hbb hB)).trans HCX.out
        clear hrow hb HR2
        generalize hcn : accC (timS n m i / BB ^ i) m (dg n i) (k + 1) = cn at *
        have HCN := Lib.hid hcn
        generalize accC (timS n m i / BB ^ i) m (dg n i) k = c at *
        clear hcn
        by_cases hkM : k < M
        · obtain ⟨b', off', rfl, hbb', hcy⟩ := HY.out (by omega)
          have hcy' := (HBr.out.cell (p := ⟨b', off' + k, none⟩) (Nat.lt_of_lt_of_le hbb' hB)).trans (hcy k hkM)
          have hTn : i + k < T := by omega
          have hco := HR.out.at hTn
          rw [mixd_high (Nat.le_refl _)] at hco
          have hfo := HR.out.free (i + k)
          have hik : ((i : Int) + (k : Int)).toNat = i + k := by omega
          have hTlt : (i : Int) + (k : Int) < (T : Int) := by omega
          clear hcy HE HF HM0
          generalize dg (timS n m i) (i + k) = o at *
          generalize hxx : dg n i = x at *
          generalize hyy : dg m k = y at *
          have HXX := Lib.hid hxx
          clear hxx hyy
          go_wp2
          go_quiet (fail)
          go_wp2
          have E := tim_sum ho9 hc9 hx9 hy9
          rw [E, dig_mod HD.out, dig_div HC.out, carry_small ho9 hc9 hx9 hy9 HC.out]
          exact ⟨⟨k + 1, by omega, by go_num, by rw [HCN.out], HR.out.up hTn, (below_drewN HBr.out).setCell (Nat.le_refl _) _⟩, by simp [intOf]; omega⟩
        · by_cases hc0 : c = 0
          · subst hc0
            have HRE := Lib.hid (HE.out (by omega) rfl)
            have HR2 := Lib.hid (show Row w.heap.size wr w.heap.size T T (dcells (timS n m (i + 1)) T) by rw [← HRE.out]; exact HR.out)
            clear HE HF HM0 HD HC HCN HRE HR
            go_wp2
            go_roundw
            case rel => exact ⟨i + 1, by omega, by go_num, HR2.out, HBr.out⟩
            case measure => simp [intOf]; omega
          · have hk1 : k ≤ M := by
              by_cases e : k = M + 1
              · exact absurd (HF.out e) hc0
              · omega
            have hTn : i + k < T := by have := HT.out; omega
            have hco := HR.out.at hTn
            rw [mixd_high (Nat.le_refl _)] at hco
            have hfo := HR.out.free (i + k)
            have hik : ((i : Int) + (k : Int)).toNat = i + k := by omega
            have hTlt : (i : Int) + (k : Int) < (T : Int) := by omega
            have hy0 := HM0.out (by omega)
            rw [hy0] at HD HC
            have hcp : 0 < (c : Int) := by omega
            have hcp9 : (c : Int) ≤ 999999999 := by omega
            clear HE HF HM0 hy0 hy9 hc0
            generalize dg (timS n m i) (i + k) = o at *
            go_wp2
            have E : (o : Int) + (c : Int) = ((o + c + dg n i * 0 : Nat) : Int) := by rw [Nat.mul_zero]; omega
            rw [E, dig_emod HD.out, dig_ediv HC.out]
            exact ⟨⟨k + 1, by omega, by go_num, by rw [HCN.out], HR.out.up hTn, HBr.out.setCell (Nat.le_refl _) _⟩, by simp [intOf]; omega⟩
    · obtain rfl : i = L := by omega
      have HL := Lib.hid (show n * m < BB ^ T by rw [HT.out]; exact timS_lt Hn.out Hm.out)
      have HR3 := Lib.hid (show wo.ownsRow w.heap.size 3 1 (.slice (some ⟨w.heap.size, 0, none⟩) T T) T (dcells (n * m) T) by rw [← timS_all (m := m) Hn.out]; exact HR.out)
      clear HR
      go_wp2_with (go_at_call 108; refine (trim_own _ _ _ _ _ HR3.out HL.out).mono ?_; rintro e w' ⟨⟨v', L', rfl, hl', ho'⟩, rfl⟩)
      have HO' := Lib.hid ho'
      have HL' := Lib.hid hl'
      clear ho' hl'
      go_wp2
      go_ret
      exact ⟨_, _, rfl, HL'.out, HO'.out, HB.out⟩
end Go.Proofs.Yteelomjknllcbaa
