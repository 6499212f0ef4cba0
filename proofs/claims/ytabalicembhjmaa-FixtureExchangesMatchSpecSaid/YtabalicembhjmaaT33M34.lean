/- The contracts of the reference's scaled and short. The contract of the reference's short: the division by a number of one digit. -/
import Derived.Test.YtabalicembhjmaaT33M33

namespace Go.Proofs.Ytabalicembhjmaa
open Go.RowKit
set_option linter.unusedVariables false
set_option linter.unusedSimpArgs false

def scC (a f k : Nat) : Nat := accC 0 a f k
theorem scC_zero (a f : Nat) : scC a f 0 = 0 := accC_zero _ _ _
theorem dg_nil (k : Nat) : dg 0 k = 0 := by simp [dg]
theorem sc_dg (a f k : Nat) : dg (f * a) k = (dg a k * f + scC a f k) % BB := by
  have := accC_dg 0 a f k
  rw [Nat.zero_add, dg_nil, Nat.zero_add, Nat.add_comm (accC 0 a f k), Nat.mul_comm f (dg a k)] at this
  exact this
theorem sc_succ (a f k : Nat) : scC a f (k + 1) = (dg a k * f + scC a f k) / BB := by
  have := accC_succ 0 a f k
  rw [dg_nil, Nat.zero_add, Nat.add_comm (accC 0 a f k), Nat.mul_comm f (dg a k)] at this
  exact this
theorem sc_le (a f k : Nat) : scC a f k ≤ f := accC_le _ _ _ _
theorem sc_all {a f k : Nat} (ha : a < BB ^ k) (h : scC a f k = 0) : f * a < BB ^ k := by
  have := acc_all (T := 0) (BBp k) ha h
  rwa [Nat.zero_add] at this
theorem prod_nat (x f : Nat) (hx : (x : Int) ≤ 999999999) (hf : (f : Int) ≤ 500000000) : ∃ p : Nat, x * f = p ∧ (x : Int) * (f : Int) = (p : Int) ∧ (p : Int) ≤ 999999999000000000 := by
  refine ⟨x * f, rfl, (Int.natCast_mul x f).symm, ?_⟩
  have h1 : x ≤ 999999999 := by omega
  have h2 : f ≤ 500000000 := by omega
  have := Nat.mul_le_mul h1 h2
  omega

set_option maxHeartbeats 4000000 in
set_option maxRecDepth 100000 in
theorem scaled_any (B a f : Nat) (v : Value) (w : World) (hB : B ≤ w.heap.size) (fa : Fit a) (hf0 : (0 : Int) < (f : Int)) (hf1 : (f : Int) ≤ 500000000) (hv : IsN B w v a) : Calls Try.prog 128 #[v, .int .i64 f] w (NewO w.heap.size (f * a) w) := by
  obtain ⟨L, hL, ao, cap, rfl, c1, c2, hn, hx⟩ := hv
  have hl := fa.len hL
  have HX := Lib.hid hx
  have Hn := Lib.hid hn
  clear hx hn hL fa
  obtain ⟨i0, hi, hz0, hz1, hz2⟩ := info_parts int_info
  have Hi := Lib.hid hi
  have Hz0 := Lib.hid hz0
  have Hz1 := Lib.hid hz1
  have Hz2 := Lib.hid hz2
  clear hi hz0 hz1 hz2
  go_enter Try.func128, Try.ntmps128
  go_wp2
  go_loopw [5, 6, 11] (fun o c i wr => ∃ k : Nat, k ≤ L ∧ i = .int .i64 k ∧ c = .int .i64 (scC a f k : Nat) ∧ wr.ownsRow w.heap.size 3 1 o k (dcells (f * a) k) ∧ Below w.heap.size w wr) (fun _ _ i _ => L - (intOf i).toNat)
  case atStart => exact ⟨0, by omega, rfl, by rw [scC_zero]; rfl, by simpa [dcells] using World.ownsRow_nil _ _ _ _, Below.refl _ _⟩
  case round =>
    rename_i wr
    obtain ⟨k, hk, rfl, rfl, hown, hb⟩ := hrel
    have HO := Lib.hid hown
    have HB := Lib.hid hb
    have hsz := hb.size
    have HD := Lib.hid (sc_dg a f k)
    have HC := Lib.hid (sc_succ a f k)
    have hc9 := sc_le a f k
    have hx9 := dg_le9 a k
    obtain ⟨ao2, cap2, rfl⟩ := own_shape1 hown
    by_cases hkL : k < L
    · obtain ⟨b, off, rfl, hbb, hcx⟩ := HX.out (by omega)
      have hcx' := (HB.out.cell (p := ⟨b, off + k, none⟩) (Nat.lt_of_lt_of_le hbb hB)).trans (hcx k hkL)
      clear hcx hown hb
      generalize hcn : scC a f (k + 1) = cn at *
      have HCN := Lib.hid hcn
      generalize scC a f k = c at *
      generalize dg a k = x at *
      obtain ⟨p, hp0, hp, hp9⟩ := prod_nat x f hx9 hf1
      rw [hp0] at HD HC
      have HD2 := Lib.hid (show Value.int .i64 (((p : Int) + (c : Int)) % 1000000000) = .int .i64 (dg (f * a) k : Nat) from digit_val (s := p + c) (by omega) HD.out)
      have HC2 := Lib.hid (show Value.int .i64 (((p : Int) + (c : Int)) / 1000000000) = .int .i64 (cn : Nat) from carry_val (s := p + c) (by omega) HC.out)
      clear HD HC hp0 hcn
      go_wp2_with (at_builtin; refine wpList_append_own _ rfl _ _ 126 rfl w.heap.size 3 i0 (.int .i64 0) 1 8 Try.underlying126 Hi.out Hz0.out Hz1.out Hz2.out rfl (by decide) _ _ _ rfl (HO.out.alloc _) ⟨wr.heap.size, 0, none⟩ 1 1 [.int .i64 (((p : Int) + (c : Int)) % 1000000000)] rfl rfl (one_int _ _ _ _) (int_one _) (by unfold maxLen; omega) (by omega) (by simp; omega) ?_)
      intro v' w2 hown2 hgrow _
      rw [cells_snoc HD2.out] at hown2
      have HB2 := Lib.hid (below_own2 HB.out HO.out hgrow hsz)
      obtain ⟨ao3, cap3, rfl⟩ := own_shape1 hown2
      have HO2 := Lib.hid hown2
      clear hown2 hgrow HO HB HD2
      go_wp2
      go_roundw
      case rel => exact ⟨k + 1, by omega, by go_num, by rw [HCN.out]; exact HC2.out, HO2.out, HB2.out⟩
      case measure => simp [intOf]; omega
    · obtain rfl : k = L := by omega
      clear HD HC hx9 hown hb
      obtain ⟨wo, rfl⟩ : ∃ wo : World, wo = wr := ⟨_, rfl⟩
      go_wp2
      go_loopw [5, 6] (fun o c wr => ∃ t : Nat, t ≤ 1 ∧ c = .int .i64 (scC a f (k + t) : Nat) ∧ Hid (t = 1 → scC a f (k + t) = 0) ∧ wr.ownsRow w.heap.size 3 1 o (k + t) (dcells (f * a) (k + t)) ∧ Below w.heap.size w wr) (fun _ c _ => (intOf c).toNat)
      case atStart => exact ⟨0, by omega, rfl, Lib.hid (by omega), HO.out, HB.out⟩
      case round =>
        obtain ⟨t, ht, rfl, hz, hown, hb⟩ := hrel
        have HO3 := Lib.hid hown
        have HB3 := Lib.hid hb
        have hsz3 := hb.size
        have HD := Lib.hid (sc_dg a f (k + t))
        have HC := Lib.hid (sc_succ a f (k + t))
        have HN0 := Lib.hid (show dg a (k + t) = 0 from dg_zero_of_lt (lt_pow Hn.out (by omega)))
        have HE := Lib.hid (fun h => sc_all (f := f) (lt_pow Hn.out (show k ≤ k + t by omega)) h)
        have hc9 := sc_le a f (k + t)
        obtain ⟨ao3, cap3, rfl⟩ := own_shape1 hown
        rw [HN0.out, Nat.zero_mul, Nat.zero_add] at HD HC
        clear hown hb HO HB
        by_cases hc0 : scC a f (k + t) = 0
        · have HL := Lib.hid (HE.out hc0)
          rw [hc0]
          clear HD HC hz HE
          go_wp2_with (go_at_call 114; refine (trim_own _ _ _ _ _ HO3.out HL.out).mono ?_; rintro e w' ⟨⟨v', L', rfl, hl', ho'⟩, rfl⟩)
          have HO' := Lib.hid ho'
          have HL' := Lib.hid hl'
          clear ho' hl'
          go_wp2
          go_ret
          exact ⟨_, _, rfl, HL'.out, HO'.out, HB3.out⟩
        · obtain rfl : t = 0 := by
            by_cases h : t = 1
            · exact absurd (hz.out h) hc0
            · omega
          have HZ1 := Lib.hid (show scC a f (k + (0 + 1)) = 0 by
            show scC a f (k + 0 + 1) = 0
            rw [HC.out]
            exact Nat.div_eq_of_lt (by unfold BB; omega))
          have hcp : 0 < ((scC a f (k + 0) : Nat) : Int) := by omega
          have hcp9 : ((scC a f (k + 0) : Nat) : Int) ≤ 500000000 := by omega
          clear hz hc0 HE HC HN0 hc9
          generalize scC a f (k + 0) = c at *
          have HD2 := Lib.hid (show Value.int .i64 ((c : Int) % 1000000000) = .int .i64 (dg (f * a) k : Nat) from digit_val (s := c) (by omega) HD.out)
          have HO4 := Lib.hid (show World.ownsRow _ w.heap.size 3 1 (.slice ao3 k cap3) k (dcells (f * a) k) from HO3.out)
          clear HO3
          have HO3 := HO4
          clear HO4
          have hd : (c : Int).tdiv 1000000000 = 0 := by rw [Int.tdiv_eq_ediv_of_nonneg (by omega)]; omega
          have hd2 : (c : Int) / 1000000000 = 0 := by omega
          clear HD
          go_wp2_with (at_builtin; refine wpList_append_own _ rfl _ _ 126 rfl w.heap.size 3 i0 (.int .i64 0) 1 8 Try.underlying126 Hi.out Hz0.out Hz1.out Hz2.out rfl (by decide) _ _ _ rfl (HO3.out.alloc _) _ 1 1 [.int .i64 ((c : Int) % 1000000000)] rfl rfl (one_int _ _ _ _) (int_one _) (by unfold maxLen; omega) (by omega) (by simp; omega) ?_)
          intro v' w2 hown2 hgrow _
          rw [cells_snoc HD2.out] at hown2
          have HB2 := Lib.hid (below_own2 HB3.out HO3.out hgrow hsz3)
          obtain ⟨ao4, cap4, rfl⟩ := own_shape1 hown2
          have HO2 := Lib.hid hown2
          clear hown2 hgrow HO3 HB3 HD2
          go_wp2
          go_roundw
          case rel => exact ⟨1, by omega, by rw [HZ1.out]; rfl, Lib.hid (fun _ => HZ1.out), HO2.out, HB2.out⟩
          case measure => simp [intOf]; omega
end Go.Proofs.Ytabalicembhjmaa

namespace Go.Proofs.Ytabalicembhjmaa
open Go.RowKit
set_option linter.unusedVariables false
set_option linter.unusedSimpArgs false

/-- a new number and a rest -/
def ShortO (base q r : Nat) (w : World) (e : Ending) (w' : World) : Prop := ∃ v L, e = .returned (.tuple #[v, .int .i64 (r : Nat)]) ∧ LenOf q L ∧ w'.ownsRow base 3 1 v L (dcells q L) ∧ Below base w w'
theorem quo_facts {s d q : Nat} (h : s / d = q) : Int.tdiv (s : Int) (d : Int) = (q : Int) ∧ (s : Int) / (d : Int) = (q : Int) := by
  subst h
  exact ⟨tdiv_nat s d, (Int.natCast_ediv s d).symm⟩
theorem rem_facts {s d r : Nat} (h : s % d = r) : Int.tmod (s : Int) (d : Int) = (r : Int) ∧ (s : Int) % (d : Int) = (r : Int) := by
  subst h
  exact ⟨tmod_nat s d, (Int.natCast_emod s d).symm⟩
theorem quot_lt {a d L : Nat} (h : a < BB ^ L) : a / d < BB ^ L := Nat.lt_of_le_of_lt (Nat.div_le_self _ _) h

set_option maxHeartbeats 4000000 in
set_option maxRecDepth 100000 in
theorem short_any (B a d L : Nat) (v : Value) (w : World) (hB : B ≤ w.heap.size) (hl : L ≤ 40) (hd0 : (0 : Int) < (d : Int)) (hd1 : (d : Int) ≤ 999999999) (hv : RowN B w v a L) : Calls Try.prog 127 #[v, .int .i64 d] w (ShortO w.heap.size (a / d) (a % d) w) := by
  obtain ⟨ao, cap, rfl, c1, c2, hn, hx⟩ := hv
  have HX := Lib.hid hx
  have Hn := Lib.hid hn
  clear hx hn
  obtain ⟨i0, hi, hz0, hz1, hz2⟩ := info_parts int_info
  have Hi := Lib.hid hi
  have Hz0 := Lib.hid hz0
  have Hz1 := Lib.hid hz1
  have Hz2 := Lib.hid hz2
  clear hi hz0 hz1 hz2
  go_enter Try.func127, Try.ntmps127
  go_wp2_with (at_make; refine wpList_make_full _ rfl _ _ 126 rfl w.heap.size 3 i0 (.int .i64 0) 1 Try.underlying126 Hi.out Hz0.out Hz1.out .i64 .i64 _ _ L rfl rfl ?c1 ?c2 ?c3 ?c4 (Nat.le_refl _) ?_)
  case c1 => rfl
  case c2 => rfl
  case c3 => rw [Hz2.out]; omega
  case c4 => unfold maxLen; omega
  intro w1 hown1 hg1
  rw [toList_madeCells_one, dcells_zero] at hown1
  have HO1 := Lib.hid (show Row w.heap.size w1 w.heap.size L L (mcells 0 (a / d) L L) by rw [mcells_all (Nat.le_refl _)]; exact hown1)
  have HB1 := Lib.hid ((Below.refl w.heap.size w).grown hg1 (Nat.le_refl _) (by simp))
  clear hown1 hg1
  go_wp2
  go_loopw [7, 8] (fun r i wr => ∃ k : Nat, k ≤ L ∧ i = .int .i64 ((k : Int) - 1) ∧ r = .int .i64 (restQ a d k : Nat) ∧ Row w.heap.size wr w.heap.size L L (mcells 0 (a / d) k L) ∧ Below w.heap.size w wr) (fun _ i _ => (intOf i + 1).toNat)
  case atStart => exact ⟨L, by omega, by go_num, by rw [restQ_top Hn.out]; rfl, HO1.out, HB1.out⟩
  case round =>
    obtain ⟨k, hk, rfl, rfl, hrow, hb⟩ := hrel
    have HR := Lib.hid hrow
    have HB := Lib.hid hb
    clear hrow hb HO1 HB1
    by_cases h0 : k = 0
    · subst h0
      have HQ := Lib.hid (quot_lt (d := d) Hn.out)
      have HR3 := Lib.hid (show World.ownsRow _ w.heap.size 3 1 (.slice (some ⟨w.heap.size, 0, none⟩) L L) L (dcells (a / d) L) by rw [← mcells_none (A := 0)]; exact HR.out)
      have HZ := Lib.hid (restQ_zero a d)
      clear HR
      go_wp2_with (go_at_call 114; refine (trim_own _ _ _ _ _ HR3.out HQ.out).mono ?_; rintro e w' ⟨⟨v', L', rfl, hl', ho'⟩, rfl⟩)
      have HO' := Lib.hid ho'
      have HL' := Lib.hid hl'
      clear ho' hl'
      rw [HZ.out]
      go_wp2
      go_ret2
      exact ⟨_, _, rfl, HL'.out, HO'.out, HB.out⟩
    · obtain ⟨k, rfl⟩ : ∃ j, k = j + 1 := ⟨k - 1, by omega⟩
      have e1 : ((k + 1 : Nat) : Int) - 1 = (k : Nat) := by omega
      rw [e1]
      obtain ⟨b, off, rfl, hbb, hcx⟩ := HX.out (by omega)
      have hcx' := (HB.out.cell (p := ⟨b, off + k, none⟩) (Nat.lt_of_lt_of_le hbb hB)).trans (hcx k (by omega))
      obtain ⟨g1, g2, g3⟩ := long_step a d k (by omega)
      have hr9 := restQ_lt a (k + 1) (show 0 < d by omega)
      have hx9 := dg_le9 a k
      have hkL : k < L := by omega
      have HQ := Lib.hid (show Row w.heap.size _ w.heap.size L L (mcells 0 (a / d) (k + 1) L) from HR.out)
      have hfo := HR.out.free k
      have hco := HR.out.at hkL
      rw [mixd_low (Nat.lt_succ_self k), dg_nil] at hco
      clear hcx e1 h0 HR
      generalize dg a k = x at *
      generalize restQ a d (k + 1) = r at *
      obtain ⟨s, hs⟩ : ∃ s : Nat, r * BB + x = s := ⟨_, rfl⟩
      rw [hs] at g1 g2 g3
      have hs2 : (r : Int) * 1000000000 + (x : Int) = (s : Int) := by unfold BB at hs; omega
      have hs9 : (s : Int) ≤ 999999999000000000 := by unfold BB at g3; omega
      obtain ⟨q1, q2⟩ := quo_facts g1
      obtain ⟨r1, r2⟩ := rem_facts g2
      have HQD := Lib.hid g1
      have hq9 : ((dg (a / d) k : Nat) : Int) ≤ 999999999 := dg_le9 _ _
      have hrr9 : ((restQ a d k : Nat) : Int) ≤ 999999999 := by have := restQ_lt a k (show 0 < d by omega); omega
      generalize hqq : dg (a / d) k = q at *
      have HQQ := Lib.hid hqq
      generalize hrr : restQ a d k = r' at *
      have HRR := Lib.hid hrr
      clear hs g1 g2 g3 hqq HQD hrr
      go_wp2
      exact ⟨⟨k, by omega, rfl, by rw [HRR.out], by rw [← HQQ.out]; exact HQ.out.down hkL, HB.out.setCell (Nat.le_refl _) _⟩, by simp [intOf]⟩

set_option maxHeartbeats 4000000 in
set_option maxRecDepth 100000 in
theorem nnumber_any (B a : Nat) (v : Value) (w : World) (hB : B ≤ w.heap.size) (fa : Fit a) (ha : a ≤ 9223372036854775807) (hv : IsN B w v a) : Calls Try.prog 117 #[v] w fun e w' => e = .returned (.int .i64 (a : Nat)) ∧ w = w' := by
  obtain ⟨L, hL, ao, cap, rfl, c1, c2, hn, hx⟩ := hv
  have hl := fa.len hL
  have HX := Lib.hid hx
  have Hn := Lib.hid hn
  have Ha := Lib.hid ha
  clear hx hn hL fa ha
  go_enter Try.func117, Try.ntmps117
  go_wp2
  go_loop [3, 4] (fun r i => ∃ k : Nat, k ≤ L ∧ i = .int .i64 ((k : Int) - 1) ∧ r = .int .i64 (qN a k : Nat)) (fun _ i => (intOf i + 1).toNat)
  case atStart => exact ⟨L, by omega, by go_num, by rw [qN_top Hn.out]; rfl⟩
  case round =>
    obtain ⟨k, hk, rfl, rfl⟩ := hrel
    by_cases h0 : k = 0
    · subst h0
      have HZ := Lib.hid (qN_zero a)
      go_wp2
      go_ret
      exact ⟨by rw [HZ.out]; rfl, rfl⟩
    · obtain ⟨k, rfl⟩ : ∃ j, k = j + 1 := ⟨k - 1, by omega⟩
      have e1 : ((k + 1 : Nat) : Int) - 1 = (k : Nat) := by omega
      rw [e1]
      obtain ⟨b, off, rfl, hbb, hcx⟩ := HX.out (by omega)
      have hcx' := hcx k (by omega)
      have hkL : k < L := by omega
      have hst := qN_step a k
      have hle := Nat.le_trans (qN_le a k) Ha.out
      generalize hqq : qN a k = s at *
      have HQQ := Lib.hid hqq
      generalize qN a (k + 1) = r at *
      generalize dg a k = x at *
      have hs2 : (r : Int) * 1000000000 + (x : Int) = (s : Int) := by unfold BB at hst; omega
      have hr9 : (r : Int) * 1000000000 ≤ 9223372036854775807 := by omega
      have hs9 : (s : Int) ≤ 9223372036854775807 := by omega
      clear hcx e1 h0 hst hle hqq
      go_wp2
      go_round
      case rel => exact ⟨k, by omega, by go_num, by rw [HQQ.out]⟩
      case measure => simp [intOf]
end Go.Proofs.Ytabalicembhjmaa
