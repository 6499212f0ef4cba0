/- The contracts of the reference's scaled and short. -/
import Derived.Test.YteelomjknllcbaaNatTimes
namespace Go.Proofs.Yteelomjknllcbaa
open Go.RowKit
set_option linter.unusedVariables false
set_option linter.unusedSimpArgs false

def scC (a f k : Nat) : Nat := accC 0 a f k
theorem scC_zero (a f : Nat) : scC a f 0 = 0 := accC_zero _ _ _
theorem dg_nil (k : Nat) : dg 0 k = 0 := by simp [dg]
theorem sc_dg (a f k : Nat) : dg (f * a) k = (dg a k * f + scC a f k) % BB := by
  have := accC_dg 0 a f k
  rw [Nat.zero_add, dg_nil, Nat.zero_add, Nat.add_comm (accC 0 a f k), Nat.mul_comm f (dg a k)] at this
  exact this
theorem sc_succ (a f k : Nat) : scC a f (k + 1) = (dg a k * f + scC a f k) / BB := by
  have := accC_succ 0 a f k
  rw [dg_nil, Nat.zero_add, Nat.add_comm (accC 0 a f k), Nat.mul_comm f (dg a k)] at this
  exact this
theorem sc_le (a f k : Nat) : scC a f k ≤ f := accC_le _ _ _ _
theorem sc_all {a f k : Nat} (ha : a < BB ^ k) (h : scC a f k = 0) : f * a < BB ^ k := by
  have := acc_all (T := 0) (BBp k) ha h
  rwa [Nat.zero_add] at this
theorem prod_nat (x f : Nat) (hx : (x : Int) ≤ 999999999) (hf : (f : Int) ≤ 500000000) : ∃ p : Nat, x * f = p ∧ (x : Int) * (f : Int) = (p : Int) ∧ (p : Int) ≤ 999999999000000000 := by
  refine ⟨x * f, rfl, (Int.natCast_mul x f).symm, ?_⟩
  have h1 : x ≤ 999999999 := by omega
  have h2 : f ≤ 500000000 := by omega
  have := Nat.mul_le_mul h1 h2
  omega

set_option maxHeartbeats 4000000 in
set_option maxRecDepth 100000 in
theorem scaled_any (B a f : Nat) (v : Value) (w : World) (hB : B ≤ w.heap.size) (fa : Fit a) (hf0 : (0 : Int) < (f : Int)) (hf1 : (f : Int) ≤ 500000000) (hv : IsN B w v a) : Calls Try.prog 117 #[v, .int .i64 f] w (NewO w.heap.size (f * a) w) := by
  obtain ⟨L, hL, ao, cap, rfl, c1, c2, hn, hx⟩ := hv
  have hl := fa.len hL
  have HX := Lib.hid hx
  have Hn := Lib.hid hn
  clear hx hn hL fa
  obtain ⟨i0, hi, hz0, hz1, hz2⟩ := info_parts int_info
  have Hi := Lib.hid hi
  have Hz0 := Lib.hid hz0
  have Hz1 := Lib.hid hz1
  have Hz2 := Lib.hid hz2
  clear hi hz0 hz1 hz2
  go_enter Try.func117, Try.ntmps117
  go_wp2
  go_loopw [5, 6, 11] (fun o c i wr => ∃ k : Nat, k ≤ L ∧ i = .int .i64 k ∧ c = .int .i64 (scC a f k : Nat) ∧ wr.ownsRow w.heap.size 3 1 o k (dcells (f * a) k) ∧ Below w.heap.size w wr) (fun _ _ i _ => L - (intOf i).toNat)
  case atStart => exact ⟨0, by omega, rfl, by rw [scC_zero]; rfl, by simpa [dcells] using World.ownsRow_nil _ _ _ _, Below.refl _ _⟩
  case round =>
    rename_i wr
    obtain ⟨k, hk, rfl, rfl, hown, hb⟩ := hrel
    have HO := Lib.hid hown
    have HB := Lib.hid hb
    have hsz := hb.size
    have HD := Lib.hid (sc_dg a f k)
    have HC := Lib.hid (sc_succ a f k)
    have hc9 := sc_le a f k
    have hx9 := dg_le9 a k
    obtain ⟨ao2, cap2, rfl⟩ := own_shape1 hown
    by_cases hkL : k < L
    · obtain ⟨b, off, rfl, hbb, hcx⟩ := HX.out (by omega)
      have hcx' := (HB.out.cell (p := ⟨b, off + k, none⟩) (Nat.lt_of_lt_of_le hbb hB)).trans (hcx k hkL)
      clear hcx hown hb
      generalize hcn : scC a f (k + 1) = cn at *
      have HCN := Lib.hid hcn
      generalize scC a f k = c at *
      generalize dg a k = x at *
      obtain ⟨p, hp0, hp, hp9⟩ := prod_nat x f hx9 hf1
      rw [hp0] at HD HC
      have HD2 := Lib.hid (show Value.int .i64 (((p : Int) + (c : Int)) % 1000000000) = .int .i64 (dg (f * a) k : Nat) from digit_val (s := p + c) (by omega) HD.out)
      have HC2 := Lib.hid (show Value.int .i64 (((p : Int) + (c : Int)) / 1000000000) = .int .i64 (cn : Nat) from carry_val (s := p + c) (by omega) HC.out)
      clear HD HC hp0 hcn
      go_wp2_with (at_builtin; refine wpList_append_own _ rfl _ _ 80 rfl w.heap.size 3 i0 (.int .i64 0) 1 8 Try.underlying80 Hi.out Hz0.out Hz1.out Hz2.out rfl (by decide) _ _ _ rfl (HO.out.alloc _) ⟨wr.heap.size, 0, none⟩ 1 1 [.int .i64 (((p : Int) + (c : Int)) % 1000000000)] rfl rfl (one_int _ _ _ _) (int_one _) (by unfold maxLen; omega) (by omega) (by simp; omega) ?_)
      intro v' w2 hown2 hgrow _
      rw [cells_snoc HD2.out] at hown2
      have HB2 := Lib.hid (below_own2 HB.out HO.out hgrow hsz)
      obtain ⟨ao3, cap3, rfl⟩ := own_shape1 hown2
      have HO2 := Lib.hid hown2
      clear hown2 hgrow HO HB HD2
      go_wp2
      go_roundw
      case rel => exact ⟨k + 1, by omega, by go_num, by rw [HCN.out]; exact HC2.out, HO2.out, HB2.out⟩
      case measure => simp [intOf]; omega
    · obtain rfl : k = L := by omega
      clear HD HC hx9 hown hb
      obtain ⟨wo, rfl⟩ : ∃ wo : World, wo = wr := ⟨_, rfl⟩
      go_wp2
      go_loopw [5, 6] (fun o c wr => ∃ t : Nat, t ≤ 1 ∧ c = .int .i64 (scC a f (k + t) : Nat) ∧ Hid (t = 1 → scC a f (k + t) = 0) ∧ wr.ownsRow w.heap.size 3 1 o (k + t) (dcells (f * a) (k + t)) ∧ Below w.heap.size w wr) (fun _ c _ => (intOf c).toNat)
      case atStart => exact ⟨0, by omega, rfl, Lib.hid (by omega), HO.out, HB.out⟩
      case round =>
        obtain ⟨t, ht, rfl, hz, hown, hb⟩ := hrel
        have HO3 := Lib.hid hown
        have HB3 := Lib.hid hb
        have hsz3 := hb.size
        have HD := Lib.hid (sc_dg a f (k + t))
        have HC := Lib.hid (sc_succ a f (k + t))
        have HN0 := Lib.hid (show dg a (k + t) = 0 from dg_zero_of_lt (lt_pow Hn.out (by omega)))
        have HE := Lib.hid (fun h => sc_all (f := f) (lt_pow Hn.out (show k ≤ k + t by omega)) h)
        have hc9 := sc_le a f (k + t)
        obtain ⟨ao3, cap3, rfl⟩ := own_shape1 hown
        rw [HN0.out, Nat.zero_mul, Nat.zero_add] at HD HC
        clear hown hb HO HB
        by_cases hc0 : scC a f (k + t) = 0
        · have HL := Lib.hid (HE.out hc0)
          rw [hc0]
          clear HD HC hz HE
          go_wp2_with (go_at_call 108; refine (trim_own _ _ _ _ _ HO3.out HL.out).mono ?_; rintro e w' ⟨⟨v', L', rfl, hl', ho'⟩, rfl⟩)
          have HO' := Lib.hid ho'
          have HL' := Lib.hid hl'
          clear ho' hl'
          go_wp2
          go_ret
          exact ⟨_, _, rfl, HL'.out, HO'.out, HB3.out⟩
        · obtain rfl : t = 0 := by
            by_cases h : t = 1
            · exact absurd (hz.out h) hc0
            · omega
          have HZ1 := Lib.hid (show scC a f (k + (0 + 1)) = 0 by
            show scC a f (k + 0 + 1) = 0
            rw [HC.out]
            exact Nat.div_eq_of_lt (by unfold BB; omega))
          have hcp : 0 < ((scC a f (k + 0) : Nat) : Int) := by omega
          have hcp9 : ((scC a f (k + 0) : Nat) : Int) ≤ 500000000 := by omega
          clear hz hc0 HE HC HN0 hc9
          generalize scC a f (k + 0) = c at *
          have HD2 := Lib.hid (show Value.int .i64 ((c : Int) % 1000000000) = .int .i64 (dg (f * a) k : Nat) from digit_val (s := c) (by omega) HD.out)
          have HO4 := Lib.hid (show World.ownsRow _ w.heap.size 3 1 (.slice ao3 k cap3) k (dcells (f * a) k) from HO3.out)
          clear HO3
          have HO3 := HO4
          clear HO4
          have hd : (c : Int).tdiv 1000000000 = 0 := by rw [Int.tdiv_eq_ediv_of_nonneg (by omega)]; omega
          have hd2 : (c : Int) / 1000000000 = 0 := by omega
          clear HD
          go_wp2_with (at_builtin; refine wpList_append_own _ rfl _ _ 80 rfl w.heap.size 3 i0 (.int .i64 0) 1 8 Try.underlying80 Hi.out Hz0.out Hz1.out Hz2.out rfl (by decide) _ _ _ rfl (HO3.out.alloc _) _ 1 1 [.int .i64 ((c : Int) % 1000000000)] rfl rfl (one_int _ _ _ _) (int_one _) (by unfold maxLen; omega) (by omega) (by simp; omega) ?_)
          intro v' w2 hown2 hgrow _
          rw [cells_snoc HD2.out] at hown2
          have HB2 := Lib.hid (below_own2 HB3.out HO3.out hgrow hsz3)
          obtain ⟨ao4, cap4, rfl⟩ := own_shape1 hown2
          have HO2 := Lib.hid hown2
          clear hown2 hgrow HO3 HB3 HD2
          go_wp2
          go_roundw
          case rel => exact ⟨1, by omega, by rw [HZ1.out]; rfl, Lib.hid (fun _ => HZ1.out), HO2.out, HB2.out⟩
          case measure => simp [intOf]; omega
end Go.Proofs.Yteelomjknllcbaa
