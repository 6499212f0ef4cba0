/- The contract of the reference's short: the division by a number of one digit. -/
import Derived.Test.YteelomjknllcbaaNatScaled
namespace Go.Proofs.Yteelomjknllcbaa
open Go.RowKit
set_option linter.unusedVariables false
set_option linter.unusedSimpArgs false

/-- a new number and a rest -/
def ShortO (base q r : Nat) (w : World) (e : Ending) (w' : World) : Prop := ∃ v L, e = .returned (.tuple #[v, .int .i64 (r : Nat)]) ∧ LenOf q L ∧ w'.ownsRow base 3 1 v L (dcells q L) ∧ Below base w w'
theorem quo_facts {s d q : Nat} (h : s / d = q) : Int.tdiv (s : Int) (d : Int) = (q : Int) ∧ (s : Int) / (d : Int) = (q : Int) := by
  subst h
  exact ⟨tdiv_nat s d, (Int.natCast_ediv s d).symm⟩
theorem rem_facts {s d r : Nat} (h : s % d = r) : Int.tmod (s : Int) (d : Int) = (r : Int) ∧ (s : Int) % (d : Int) = (r : Int) := by
  subst h
  exact ⟨tmod_nat s d, (Int.natCast_emod s d).symm⟩
theorem quot_lt {a d L : Nat} (h : a < BB ^ L) : a / d < BB ^ L := Nat.lt_of_le_of_lt (Nat.div_le_self _ _) h

set_option maxHeartbeats 4000000 in
set_option maxRecDepth 100000 in
theorem short_any (B a d L : Nat) (v : Value) (w : World) (hB : B ≤ w.heap.size) (hl : L ≤ 40) (hd0 : (0 : Int) < (d : Int)) (hd1 : (d : Int) ≤ 999999999) (hv : RowN B w v a L) : Calls Try.prog 116 #[v, .int .i64 d] w (ShortO w.heap.size (a / d) (a % d) w) := by
  obtain ⟨ao, cap, rfl, c1, c2, hn, hx⟩ := hv
  have HX := Lib.hid hx
  have Hn := Lib.hid hn
  clear hx hn
  obtain ⟨i0, hi, hz0, hz1, hz2⟩ := info_parts int_info
  have Hi := Lib.hid hi
  have Hz0 := Lib.hid hz0
  have Hz1 := Lib.hid hz1
  have Hz2 := Lib.hid hz2
  clear hi hz0 hz1 hz2
  go_enter Try.func116, Try.ntmps116
  go_wp2_with (at_make; refine wpList_make_full _ rfl _ _ 80 rfl w.heap.size 3 i0 (.int .i64 0) 1 Try.underlying80 Hi.out Hz0.out Hz1.out .i64 .i64 _ _ L rfl rfl ?c1 ?c2 ?c3 ?c4 (Nat.le_refl _) ?_)
  case c1 => rfl
  case c2 => rfl
  case c3 => rw [Hz2.out]; omega
  case c4 => unfold maxLen; omega
  intro w1 hown1 hg1
  rw [toList_madeCells_one, dcells_zero] at hown1
  have HO1 := Lib.hid (show Row w.heap.size w1 w.heap.size L L (mcells 0 (a / d) L L) by rw [mcells_all (Nat.le_refl _)]; exact hown1)
  have HB1 := Lib.hid ((Below.refl w.heap.size w).grown hg1 (Nat.le_refl _) (by simp))
  clear hown1 hg1
  go_wp2
  go_loopw [7, 8] (fun r i wr => ∃ k : Nat, k ≤ L ∧ i = .int .i64 ((k : Int) - 1) ∧ r = .int .i64 (restQ a d k : Nat) ∧ Row w.heap.size wr w.heap.size L L (mcells 0 (a / d) k L) ∧ Below w.heap.size w wr) (fun _ i _ => (intOf i + 1).toNat)
  case atStart => exact ⟨L, by omega, by go_num, by rw [restQ_top Hn.out]; rfl, HO1.out, HB1.out⟩
  case round =>
    obtain ⟨k, hk, rfl, rfl, hrow, hb⟩ := hrel
    have HR := Lib.hid hrow
    have HB := Lib.hid hb
    clear hrow hb HO1 HB1
    by_cases h0 : k = 0
    · subst h0
      have HQ := Lib.hid (quot_lt (d := d) Hn.out)
      have HR3 := Lib.hid (show World.ownsRow _ w.heap.size 3 1 (.slice (some ⟨w.heap.size, 0, none⟩) L L) L (dcells (a / d) L) by rw [← mcells_none (A := 0)]; exact HR.out)
      have HZ := Lib.hid (restQ_zero a d)
      clear HR
      go_wp2_with (go_at_call 108; refine (trim_own _ _ _ _ _ HR3.out HQ.out).mono ?_; rintro e w' ⟨⟨v', L', rfl, hl', ho'⟩, rfl⟩)
      have HO' := Lib.hid ho'
      have HL' := Lib.hid hl'
      clear ho' hl'
      rw [HZ.out]
      go_wp2
      go_ret2
      exact ⟨_, _, rfl, HL'.out, HO'.out, HB.out⟩
    · obtain ⟨k, rfl⟩ : ∃ j, k = j + 1 := ⟨k - 1, by omega⟩
      have e1 : ((k + 1 : Nat) : Int) - 1 = (k : Nat) := by omega
      rw [e1]
      obtain ⟨b, off, rfl, hbb, hcx⟩ := HX.out (by omega)
      have hcx' := (HB.out.cell (p := ⟨b, off + k, none⟩) (Nat.lt_of_lt_of_le hbb hB)).trans (hcx k (by omega))
      obtain ⟨g1, g2, g3⟩ := long_step a d k (by omega)
      have hr9 := restQ_lt a (k + 1) (show 0 < d by omega)
      have hx9 := dg_le9 a k
      have hkL : k < L := by omega
      have HQ := Lib.hid (show Row w.heap.size _ w.heap.size L L (mcells 0 (a / d) (k + 1) L) from HR.out)
      have hfo := HR.out.free k
      have hco := HR.out.at hkL
      rw [mixd_low (Nat.lt_succ_self k), dg_nil] at hco
      clear hcx e1 h0 HR
      generalize dg a k = x at *
      generalize restQ a d (k + 1) = r at *
      obtain ⟨s, hs⟩ : ∃ s : Nat, r * BB + x = s := ⟨_, rfl⟩
      rw [hs] at g1 g2 g3
      have hs2 : (r : Int) * 1000000000 + (x : Int) = (s : Int) := by unfold BB at hs; omega
      have hs9 : (s : Int) ≤ 999999999000000000 := by unfold BB at g3; omega
      obtain ⟨q1, q2⟩ := quo_facts g1
      obtain ⟨r1, r2⟩ := rem_facts g2
      have HQD := Lib.hid g1
      have hq9 : ((dg (a / d) k : Nat) : Int) ≤ 999999999 := dg_le9 _ _
      have hrr9 : ((restQ a d k : Nat) : Int) ≤ 999999999 := by have := restQ_lt a k (show 0 < d by omega); omega
      generalize hqq : dg (a / d) k = q at *
      have HQQ := Lib.hid hqq
      generalize hrr : restQ a d k = r' at *
      have HRR := Lib.hid hrr
      clear hs g1 g2 g3 hqq HQD hrr
      go_wp2
      exact ⟨⟨k, by omega, rfl, by rw [HRR.out], by rw [← HQQ.out]; exact HQ.out.down hkL, HB.out.setCell (Nat.le_refl _) _⟩, by simp [intOf]⟩

set_option maxHeartbeats 4000000 in
set_option maxRecDepth 100000 in
theorem nnumber_any (B a : Nat) (v : Value) (w : World) (hB : B ≤ w.heap.size) (fa : Fit a) (ha : a ≤ 9223372036854775807) (hv : IsN B w v a) : Calls Try.prog 111 #[v] w fun e w' => e = .returned (.int .i64 (a : Nat)) ∧ w = w' := by
  obtain ⟨L, hL, ao, cap, rfl, c1, c2, hn, hx⟩ := hv
  have hl := fa.len hL
  have HX := Lib.hid hx
  have Hn := Lib.hid hn
  have Ha := Lib.hid ha
  clear hx hn hL fa ha
  go_enter Try.func111, Try.ntmps111
  go_wp2
  go_loop [3, 4] (fun r i => ∃ k : Nat, k ≤ L ∧ i = .int .i64 ((k : Int) - 1) ∧ r = .int .i64 (qN a k : Nat)) (fun _ i => (intOf i + 1).toNat)
  case atStart => exact ⟨L, by omega, by go_num, by rw [qN_top Hn.out]; rfl⟩
  case round =>
    obtain ⟨k, hk, rfl, rfl⟩ := hrel
    by_cases h0 : k = 0
    · subst h0
      have HZ := Lib.hid (qN_zero a)
      go_wp2
      go_ret
      exact ⟨by rw [HZ.out]; rfl, rfl⟩
    · obtain ⟨k, rfl⟩ : ∃ j, k = j + 1 := ⟨k - 1, by omega⟩
      have e1 : ((k + 1 : Nat) : Int) - 1 = (k : Nat) := by omega
      rw [e1]
      obtain ⟨b, off, rfl, hbb, hcx⟩ := HX.out (by omega)
      have hcx' := hcx k (by omega)
      have hkL : k < L := by omega
      have hst := qN_step a k
      have hle := Nat.le_trans (qN_le a k) Ha.out
      generalize hqq : qN a k = s at *
      have HQQ := Lib.hid hqq
      generalize qN a (k + 1) = r at *
      generalize dg a k = x at *
      have hs2 : (r : Int) * 1000000000 + (x : Int) = (s : Int) := by unfold BB at hst; omega
      have hr9 : (r : Int) * 1000000000 ≤ 9223372036854775807 := by omega
      have hs9 : (s : Int) ≤ 9223372036854775807 := by omega
      clear hcx e1 h0 hst hle hqq
      go_wp2
      go_round
      case rel => exact ⟨k, by omega, by go_num, by rw [HQQ.out]⟩
      case measure => simp [intOf]
end Go.Proofs.Yteelomjknllcbaa
