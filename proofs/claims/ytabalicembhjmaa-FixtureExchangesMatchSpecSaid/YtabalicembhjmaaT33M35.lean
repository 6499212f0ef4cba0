/- The contract of the reference's guess: a digit of the quotient, at most one too great. The contracts of the reference's take and give. -/
import Derived.Test.YtabalicembhjmaaT33M34

namespace Go.Proofs.Ytabalicembhjmaa
open Go.RowKit
set_option linter.unusedVariables false
set_option linter.unusedSimpArgs false

theorem top_two {y M : Nat} (h : y < BB ^ (M + 2)) : y / BB ^ M = dg y (M + 1) * BB + dg y M := by
  have h1 := qN_step y M
  have h2 := qN_step y (M + 1)
  have h3 : qN y (M + 1 + 1) = 0 := qN_top h
  rw [h3, Nat.mul_zero, Nat.zero_add] at h2
  have : y / BB ^ M = qN y M := rfl
  rw [this, h1, h2, Nat.mul_comm]
theorem top_three {W M : Nat} (h : W < BB ^ (M + 3)) : W / BB ^ M = (dg W (M + 2) * BB + dg W (M + 1)) * BB + dg W M := by
  have h1 := qN_step W M
  have h2 := qN_step W (M + 1)
  have h3 := qN_step W (M + 2)
  have h4 : qN W (M + 2 + 1) = 0 := qN_top h
  rw [h4, Nat.mul_zero, Nat.zero_add] at h3
  have : W / BB ^ M = qN W M := rfl
  have e : qN W (M + 1 + 1) = qN W (M + 2) := rfl
  rw [this, h1, h2, e, h3, Nat.mul_comm BB (BB * _ + _), Nat.mul_comm BB (dg W (M + 2))]
theorem guess_top {W y P v1 v2 top x3 : Nat} (hP : 0 < P) (hv : y / P = v1 * BB + v2) (hv2 : v2 < BB) (hw : W / P = top * BB + x3) (hx : x3 < BB) (hW : W < y * BB) : top < v1 * BB + BB := by
  have a1 := Nat.div_add_mod y P
  have a3 := Nat.mod_lt y hP
  have c1 : y < (v1 * BB + v2 + 1) * P := by
    rw [Nat.add_mul (v1 * BB + v2) 1, Nat.one_mul, ← hv, Nat.mul_comm (y / P) P]; omega
  have c2 : y * BB < (v1 * BB + v2 + 1) * BB * P := by
    rw [Nat.mul_right_comm]; exact Nat.mul_lt_mul_of_pos_right c1 BB_pos
  have c3 : W / P < (v1 * BB + v2 + 1) * BB := (Nat.div_lt_iff_lt_mul hP).2 (by omega)
  rw [hw] at c3
  have c4 : top * BB < (v1 * BB + BB) * BB := by
    have : (v1 * BB + v2 + 1) * BB ≤ (v1 * BB + BB) * BB := Nat.mul_le_mul_right _ (by omega)
    omega
  exact Nat.lt_of_mul_lt_mul_right c4

/-- what the loop of the guess keeps -/
structure GS (W y v1 v2 top x3 q r : Nat) : Prop where
  eq : top = q * v1 + r
  low : W / y ≤ q
  high : q ≤ 2000000000
  rest : r < 1000000000
/-- what is known of the numbers -/
structure GK (W y P v1 v2 top x3 : Nat) : Prop where
  hP : 0 < P
  hv : y / P = v1 * BB + v2
  hw : W / P = top * BB + x3
  hy : 0 < y
  hW : W < y * BB
  hv1 : 0 < v1
  hv1b : v1 < BB
  hv2 : v2 < BB
  hx : x3 < BB
theorem GK.start {W y P v1 v2 top x3 : Nat} (k : GK W y P v1 v2 top x3) : GS W y v1 v2 top x3 (top / v1) (top % v1) := by
  obtain ⟨h1, h2⟩ := guess_start W y P v1 v2 top x3 (W / y) k.hP k.hv k.hv2 k.hw k.hx k.hv1 rfl k.hW
  have h3 := Nat.mod_lt top k.hv1
  have h4 := k.hv1b
  unfold BB at h2 h4
  exact ⟨by rw [Nat.mul_comm]; exact (Nat.div_add_mod top v1).symm, h1, by omega, by omega⟩
/-- the test says 'too great' -/
theorem GK.down {W y P v1 v2 top x3 q r : Nat} (k : GK W y P v1 v2 top x3) (s : GS W y v1 v2 top x3 q r) (h : 1000000000 ≤ q ∨ r * 1000000000 + x3 < q * v2) :
    1 ≤ q ∧ (r + v1 < 1000000000 → GS W y v1 v2 top x3 (q - 1) (r + v1)) ∧ (1000000000 ≤ r + v1 → W / y ≤ q - 1 ∧ q - 1 ≤ W / y + 1) := by
  have hd := guess_down W y P v1 v2 top x3 (W / y) q r k.hP k.hv k.hw k.hy rfl k.hW s.eq h
  have e : top = (q - 1) * v1 + (r + v1) := by
    obtain ⟨p, rfl⟩ : ∃ p, q = p + 1 := ⟨q - 1, (Nat.sub_add_cancel (Nat.le_trans (Nat.le_add_left 1 _) hd)).symm⟩
    have := s.eq
    rw [Nat.add_mul, Nat.one_mul] at this
    rw [Nat.add_sub_cancel]
    omega
  refine ⟨Nat.le_trans (Nat.le_add_left 1 _) hd, fun hr => ⟨e, Nat.le_sub_one_of_lt hd, by have := s.high; omega, hr⟩, fun hr => ⟨Nat.le_sub_one_of_lt hd, ?_⟩⟩
  refine guess_break W y P v1 v2 top x3 (W / y) (q - 1) (r + v1) k.hP k.hv k.hw k.hy rfl k.hv1 k.hv2 e ?_ hr
  have ht := guess_top k.hP k.hv k.hv2 k.hw k.hx k.hW
  rw [e] at ht
  have : (q - 1) * v1 < BB * v1 := by
    have hr' : BB ≤ r + v1 := hr
    rw [Nat.mul_comm BB]
    omega
  exact Nat.le_of_lt (Nat.lt_of_mul_lt_mul_right this)
theorem GK.stop {W y P v1 v2 top x3 q r : Nat} (k : GK W y P v1 v2 top x3) (s : GS W y v1 v2 top x3 q r) (h1 : q < 1000000000) (h2 : q * v2 ≤ r * 1000000000 + x3) : W / y ≤ q ∧ q ≤ W / y + 1 :=
  ⟨s.low, guess_stop W y P v1 v2 top x3 (W / y) q r k.hP k.hv k.hw k.hy rfl k.hv1 s.eq h1 h2⟩
theorem GK.mk' {X y j M : Nat} (hy : LenOf y (M + 2)) (hX : X / BB ^ j < y * BB) : GK (X / BB ^ j) y (BB ^ M) (dg y (M + 1)) (dg y M) (dg X (j + (M + 2)) * BB + dg X (j + (M + 1))) (dg X (j + M)) := by
  have h0 : 0 < y := Nat.lt_of_lt_of_le (BBp _) (hy.2 (by omega))
  have h1 : X / BB ^ j < BB ^ (M + 3) := by
    have : y * BB < BB ^ (M + 2) * BB := Nat.mul_lt_mul_of_pos_right hy.1 BB_pos
    rw [← Nat.pow_succ] at this
    exact Nat.lt_trans hX this
  refine ⟨BBp M, top_two hy.1, ?_, h0, hX, ?_, dg_lt _ _, dg_lt _ _, dg_lt _ _⟩
  · rw [top_three h1]
    simp only [dg_div]
  · exact dg_top hy (by omega)
theorem GS.prod {W y v1 v2 top x3 q r : Nat} (s : GS W y v1 v2 top x3 q r) (hv2 : (v2 : Int) ≤ 999999999) : ∃ p : Nat, q * v2 = p ∧ (q : Int) * (v2 : Int) = (p : Int) ∧ (p : Int) ≤ 1999999998000000000 := by
  refine ⟨q * v2, rfl, (Int.natCast_mul q v2).symm, ?_⟩
  have h1 := s.high
  have h2 : v2 ≤ 999999999 := by omega
  have := Nat.mul_le_mul h1 h2
  omega

def GuessP (qt : Nat) (w : World) (e : Ending) (w' : World) : Prop := (∃ q : Nat, e = .returned (.int .i64 q) ∧ qt ≤ q ∧ q ≤ qt + 1) ∧ ∃ n, w' = w.drewN n

set_option maxHeartbeats 8000000 in
set_option maxRecDepth 100000 in
theorem guess_core (W y P x0 x1 x2 v1 v2 top j T g h cx cy N N1 M J0 J1 J2 : Nat) (w : World) (hk : GK W y P v1 v2 top x2) (hT : T ≤ 100) (hN : N ≤ 100)
    (k0 : w.cell? ⟨g, J0, none⟩ = some (.int .i64 (x0 : Nat))) (k1 : w.cell? ⟨g, J1, none⟩ = some (.int .i64 (x1 : Nat))) (k2 : w.cell? ⟨g, J2, none⟩ = some (.int .i64 (x2 : Nat)))
    (l1 : w.cell? ⟨h, N1, none⟩ = some (.int .i64 (v1 : Nat))) (l2 : w.cell? ⟨h, M, none⟩ = some (.int .i64 (v2 : Nat)))
    (b0 : (x0 : Int) ≤ 999999999) (b1 : (x1 : Int) ≤ 999999999) (b2 : (x2 : Int) ≤ 999999999) (b3 : (v1 : Int) ≤ 999999999) (b4 : (v2 : Int) ≤ 999999999)
    (ht2 : (x0 : Int) * 1000000000 + (x1 : Int) = (top : Int))
    (i0 : (j : Int) + (N : Int) = (J0 : Int)) (i1 : (J0 : Int) - 1 = (J1 : Int)) (i2 : (J0 : Int) - 2 = (J2 : Int)) (n1 : (N : Int) - 1 = (N1 : Int)) (n2 : (N : Int) - 2 = (M : Int))
    (s0 : J0 < T) (s1 : J1 < T) (s2 : J2 < T) (m1 : N1 < N) (m2 : M < N) :
    Calls Try.prog 129 #[.slice (some ⟨g, 0, none⟩) T cx, .slice (some ⟨h, 0, none⟩) N cy, .int .i64 j] w (GuessP (W / y) w) := by
  have HS := Lib.hid hk.start
  have HK := Lib.hid hk
  clear hk
  have hv1 : (0 : Int) < (v1 : Int) := by have := HK.out.hv1; omega
  obtain ⟨q0, hq0⟩ : ∃ q : Nat, top / v1 = q := ⟨_, rfl⟩
  obtain ⟨r0, hr0⟩ : ∃ q : Nat, top % v1 = q := ⟨_, rfl⟩
  rw [hq0, hr0] at HS
  obtain ⟨dq1, dq2⟩ := quo_facts hq0
  obtain ⟨dr1, dr2⟩ := rem_facts hr0
  have htop : (top : Int) ≤ 999999999999999999 := by omega
  have hq9 : (q0 : Int) ≤ 2000000000 := by have := HS.out.high; omega
  have hr9 : (r0 : Int) ≤ 999999999 := by have := HS.out.rest; omega
  clear hq0 hr0
  go_enter Try.func129, Try.ntmps129
  go_wp2
  go_quiet (fail)
  go_wp2
  go_loopw [9, 10] (fun qq rr wr => ∃ q r : Nat, qq = .int .i64 q ∧ rr = .int .i64 r ∧ GS W y v1 v2 top x2 q r ∧ ∃ n, wr = w.drewN n) (fun qq _ _ => (intOf qq).toNat)
  case atStart => exact ⟨q0, r0, rfl, rfl, HS.out, _, rfl⟩
  case round =>
    obtain ⟨q, r, rfl, rfl, hs, nn, rfl⟩ := hrel
    have HS2 := Lib.hid hs
    have hq9' : (q : Int) ≤ 2000000000 := by have := hs.high; omega
    have hr9' : (r : Int) ≤ 999999999 := by have := hs.rest; omega
    clear hs HS hq9 hr9 dq1 dq2 dr1 dr2
    by_cases hA : (1000000000 : Int) ≤ (q : Int)
    · obtain ⟨d1, d2, d3⟩ := HK.out.down HS2.out (.inl (by omega))
      have D2 := Lib.hid d2
      have D3 := Lib.hid d3
      clear d2 d3
      have hA2 : decide ((1000000000 : Int) ≤ (q : Int)) = true := by simp; omega
      go_wp2
      go_quiet (fail)
      by_cases hB : (1000000000 : Int) ≤ (r : Int) + (v1 : Int)
      · have HB3 := Lib.hid (D3.out (by omega))
        have HQ := Lib.hid (show Ending.returned (.int .i64 ((q : Int) - 1)) = .returned (.int .i64 ((q - 1 : Nat) : Int)) by congr 2; omega)
        clear D2 D3
        go_wp2
        go_ret
        exact ⟨⟨q - 1, HQ.out, HB3.out⟩, _, rfl⟩
      · have HD2 := Lib.hid (D2.out (by omega))
        have HQ := Lib.hid (show Value.int .i64 ((q : Int) - 1) = .int .i64 ((q - 1 : Nat) : Int) by congr 1; omega)
        clear D2 D3
        go_wp2
        go_roundw
        case rel => exact ⟨q - 1, r + v1, HQ.out, by go_num, HD2.out, _, rfl⟩
        case measure => simp [intOf]; omega
    · have hA2 : decide ((1000000000 : Int) ≤ (q : Int)) = false := by simp; omega
      have hA3 : (q : Int) ≤ 999999999 := by omega
      obtain ⟨p, hp0, hp, hp9⟩ := HS2.out.prod b4
      have HP := Lib.hid hp0
      clear hp0
      by_cases hT2 : (r : Int) * 1000000000 + (x2 : Int) < (p : Int)
      · obtain ⟨d1, d2, d3⟩ := HK.out.down HS2.out (.inr (by rw [HP.out]; omega))
        have D2 := Lib.hid d2
        have D3 := Lib.hid d3
        clear d2 d3
        have hT3 : decide ((r : Int) * 1000000000 + (x2 : Int) < (p : Int)) = true := by simp; omega
        go_wp2
        go_quiet (fail)
        by_cases hB : (1000000000 : Int) ≤ (r : Int) + (v1 : Int)
        · have HB3 := Lib.hid (D3.out (by omega))
          have HQ := Lib.hid (show Ending.returned (.int .i64 ((q : Int) - 1)) = .returned (.int .i64 ((q - 1 : Nat) : Int)) by congr 2; omega)
          clear D2 D3
          go_wp2
          go_ret
          exact ⟨⟨q - 1, HQ.out, HB3.out⟩, _, rfl⟩
        · have HD2 := Lib.hid (D2.out (by omega))
          have HQ := Lib.hid (show Value.int .i64 ((q : Int) - 1) = .int .i64 ((q - 1 : Nat) : Int) by congr 1; omega)
          clear D2 D3
          go_wp2
          go_roundw
          case rel => exact ⟨q - 1, r + v1, HQ.out, by go_num, HD2.out, _, rfl⟩
          case measure => simp [intOf]; omega
      · have HB3 := Lib.hid (HK.out.stop HS2.out (by omega) (by rw [HP.out]; omega))
        have hT3 : decide ((r : Int) * 1000000000 + (x2 : Int) < (p : Int)) = false := by simp; omega
        go_wp2
        go_quiet (fail)
        go_wp2
        go_ret
        exact ⟨⟨q, rfl, HB3.out⟩, nn + nq, by first | rfl | simp⟩

theorem guess_any (X y j M T g h cx cy : Nat) (w : World) (hy : LenOf y (M + 2)) (hX : X / BB ^ j < y * BB) (hj : j + M + 2 < T) (hT : T ≤ 100)
    (hcx : ∀ i, i < T → w.cell? ⟨g, i, none⟩ = some (.int .i64 (dg X i : Nat))) (hcy : ∀ i, i < M + 2 → w.cell? ⟨h, i, none⟩ = some (.int .i64 (dg y i : Nat))) :
    Calls Try.prog 129 #[.slice (some ⟨g, 0, none⟩) T cx, .slice (some ⟨h, 0, none⟩) (M + 2 : Nat) cy, .int .i64 j] w (GuessP (X / BB ^ j / y) w) :=
  guess_core (X / BB ^ j) y (BB ^ M) (dg X (j + (M + 2))) (dg X (j + (M + 1))) (dg X (j + M)) (dg y (M + 1)) (dg y M) (dg X (j + (M + 2)) * BB + dg X (j + (M + 1))) j T g h cx cy (M + 2) (M + 1) M (j + (M + 2)) (j + (M + 1)) (j + M) w
    (GK.mk' hy hX) hT (by omega) (hcx _ (by omega)) (hcx _ (by omega)) (hcx _ (by omega)) (hcy _ (by omega)) (hcy _ (by omega))
    (dg_le9 _ _) (dg_le9 _ _) (dg_le9 _ _) (dg_le9 _ _) (dg_le9 _ _) (by unfold BB; omega) (by omega) (by omega) (by omega) (by omega) (by omega) (by omega) (by omega) (by omega) (by omega) (by omega)
end Go.Proofs.Ytabalicembhjmaa

namespace Go.Proofs.Ytabalicembhjmaa
open Go.RowKit
set_option linter.unusedVariables false
set_option linter.unusedSimpArgs false

/-- what take borrows at place i -/
def borT (W y q i : Nat) : Nat := (-cryT W y q i).toNat
theorem borT_int (W y q i : Nat) : ((borT W y q i : Nat) : Int) = -cryT W y q i := by
  unfold borT
  have := cryT_le W y q i
  omega
theorem borT_zero (W y q : Nat) : borT W y q 0 = 0 := by unfold borT; rw [cryT_zero]; rfl
theorem borT_le (W y q i : Nat) : borT W y q i ≤ q := by
  have := cryT_ge W y q i
  have := borT_int W y q i
  omega
/-- is q times y more than the window? -/
def overB (W y q : Nat) : Bool := decide (W < q * y)
theorem overB_yes {W y q : Nat} (h : W < q * y) : overB W y q = true := decide_eq_true h
theorem overB_no {W y q : Nat} (h : q * y ≤ W) : overB W y q = false := decide_eq_false (by omega)
theorem borT_end {W y q n : Nat} (hW : W < BB ^ n) (hy : y < BB ^ n) (hq : q * y ≤ W + y) : decide (0 < borT W y q n) = overB W y q := by
  obtain ⟨_, _, h⟩ := takeV_dg hW hy hq
  have h2 := borT_int W y q n
  rw [h] at h2
  by_cases hc : q * y ≤ W
  · rw [if_pos hc] at h2
    rw [overB_no hc, show borT W y q n = 0 by omega]
    rfl
  · rw [if_neg hc] at h2
    rw [overB_yes (by omega), show borT W y q n = 1 by omega]
    rfl
/-- a round of take -/
theorem take_pos {W y q n i : Nat} {s : Int} (hW : W < BB ^ n) (hy : y < BB ^ n) (hq : q * y ≤ W + y) (hi : i < n) (hs : s = (dg W i : Int) - (borT W y q i : Int) - ((q * dg y i : Nat) : Int)) (h0 : 0 ≤ s) :
    s = (dg (takeV W y q n) i : Nat) ∧ borT W y q (i + 1) = 0 := by
  obtain ⟨_, h, _⟩ := takeV_dg hW hy hq
  have h1 := h i hi
  unfold dgT at h1
  have h2 := borT_int W y q i
  have h3 := borT_int W y q (i + 1)
  rw [cryT_succ] at h3
  have h4 := dg_lt W i
  rw [Int.natCast_mul] at hs
  have hs' : (dg W i : Int) + cryT W y q i - (q : Int) * (dg y i : Int) = s := by omega
  rw [hs'] at h1 h3
  have h5 : (0 : Int) ≤ (q : Int) * (dg y i : Int) := Int.mul_nonneg (by omega) (by omega)
  have hb : s < (BB : Int) := by omega
  rw [Int.emod_eq_of_lt h0 hb] at h1
  rw [Int.ediv_eq_zero_of_lt h0 hb] at h3
  exact ⟨h1, by omega⟩
theorem take_neg {W y q n i s : Nat} (hW : W < BB ^ n) (hy : y < BB ^ n) (hq : q * y ≤ W + y) (hi : i < n) (hs : -(s : Int) = (dg W i : Int) - (borT W y q i : Int) - ((q * dg y i : Nat) : Int)) (h0 : 0 < s) :
    borT W y q (i + 1) = (s + 999999999) / 1000000000 ∧ -(s : Int) + (borT W y q (i + 1) : Int) * 1000000000 = (dg (takeV W y q n) i : Nat) := by
  obtain ⟨_, h, _⟩ := takeV_dg hW hy hq
  have h1 := h i hi
  unfold dgT at h1
  have h2 := borT_int W y q i
  have h3 := borT_int W y q (i + 1)
  rw [cryT_succ] at h3
  rw [Int.natCast_mul] at hs
  have hs' : (dg W i : Int) + cryT W y q i - (q : Int) * (dg y i : Int) = -(s : Int) := by omega
  rw [hs'] at h1 h3
  have e : (BB : Int) = 1000000000 := rfl
  rw [e] at h1 h3
  clear hs hs' h e
  constructor
  · omega
  · omega
/-- what take leaves -/
def takeX (X y q j n : Nat) : Nat := lowHigh X (takeV (X / BB ^ j) y q n) j
theorem takeX_start (X y q j n T : Nat) : mcells (takeX X y q j n) X j T = dcells X T := by
  refine mcells_eq fun p hp => ?_
  by_cases h : p < j
  · rw [mixd_low h]; exact lowHigh_dg_low _ _ h
  · exact mixd_high (by omega)
theorem takeX_end {X y q j n T : Nat} (hW : X / BB ^ j < BB ^ n) (hy : y < BB ^ n) (hq : q * y ≤ X / BB ^ j + y) : mcells (takeX X y q j n) X (j + n) T = dcells (takeX X y q j n) T := by
  refine mcells_eq fun p hp => ?_
  by_cases h : p < j + n
  · exact mixd_low h
  · rw [mixd_high (by omega)]
    obtain ⟨k, rfl⟩ : ∃ k, p = j + k := ⟨p - j, by omega⟩
    unfold takeX
    rw [lowHigh_dg_high, ← dg_div, dg_zero_of_lt (lt_pow hW (by omega)), dg_zero_of_lt (lt_pow (takeV_dg hW hy hq).1 (by omega))]
theorem takeX_dg (X y q j n i : Nat) : dg (takeX X y q j n) (j + i) = dg (takeV (X / BB ^ j) y q n) i := lowHigh_dg_high _ _ _ _
theorem prod_q (q d : Nat) (hq : (q : Int) ≤ 1000000000) (hd : (d : Int) ≤ 999999999) : ∃ p : Nat, q * d = p ∧ (q : Int) * (d : Int) = (p : Int) ∧ (p : Int) ≤ 1000000000000000000 := by
  refine ⟨q * d, rfl, (Int.natCast_mul q d).symm, ?_⟩
  have h1 : q ≤ 1000000000 := by omega
  have h2 : d ≤ 999999999 := by omega
  have := Nat.mul_le_mul h1 h2
  omega

def NTakeP (base X y q j n g T cx : Nat) (w : World) (e : Ending) (w' : World) : Prop :=
  e = .returned (.bool (overB (X / BB ^ j) y q)) ∧ Row base w' g T cx (dcells (takeX X y q j n) T) ∧ w.grownBy w' (some g)

set_option maxHeartbeats 8000000 in
set_option maxRecDepth 100000 in
theorem ntake_any (base X y q j N T g h cx cy : Nat) (w : World) (hW : X / BB ^ j < BB ^ (N + 1)) (hy : y < BB ^ N) (hq : q * y ≤ X / BB ^ j + y) (hq9 : (q : Int) ≤ 1000000000) (hj : j + N < T) (hT : T ≤ 100) (hne : h ≠ g) (hh : h < w.heap.size)
    (hrow : Row base w g T cx (dcells X T)) (hcy : ∀ i, i < N → w.cell? ⟨h, i, none⟩ = some (.int .i64 (dg y i : Nat))) :
    Calls Try.prog 130 #[.slice (some ⟨g, 0, none⟩) T cx, .slice (some ⟨h, 0, none⟩) N cy, .int .i64 j, .int .i64 q] w (NTakeP base X y q j (N + 1) g T cx w) := by
  have hy' : y < BB ^ (N + 1) := lt_pow hy (by omega)
  have HR0 := Lib.hid (show Row base w g T cx (mcells (takeX X y q j (N + 1)) X (j + 0) T) by show Row _ _ _ _ _ (mcells _ _ j T); rw [takeX_start]; exact hrow)
  have HE := Lib.hid (takeX_end (T := T) hW hy' hq)
  have HO := Lib.hid (borT_end hW hy' hq)
  have HY := Lib.hid hcy
  have HP := Lib.hid (fun i (hi : i < N + 1) s => take_pos (s := s) hW hy' hq hi)
  have HN := Lib.hid (fun i (hi : i < N + 1) s => take_neg (s := s) hW hy' hq hi)
  have Hyz := Lib.hid (show dg y N = 0 from dg_zero_of_lt hy)
  have Hne := Lib.hid hne
  clear hrow hcy hW hy hy' hq hne
  go_enter Try.func130, Try.ntmps130
  go_wp2
  go_loopw [9, 10] (fun bb ii wr => ∃ i : Nat, i ≤ N + 1 ∧ ii = .int .i64 i ∧ bb = .int .i64 (borT (X / BB ^ j) y q i : Nat) ∧ Row base wr g T cx (mcells (takeX X y q j (N + 1)) X (j + i) T) ∧ w.grownBy wr (some g)) (fun _ ii _ => N + 1 - (intOf ii).toNat)
  case atStart => exact ⟨0, by omega, rfl, by rw [borT_zero]; rfl, HR0.out, World.grownBy.refl _ _⟩
  case round =>
    obtain ⟨i, hi, rfl, rfl, hrow, hg⟩ := hrel
    have HR := Lib.hid hrow
    have HG := Lib.hid hg
    clear hrow hg HR0
    by_cases hiN : i < N + 1
    · have hTn : j + i < T := by omega
      have hco := HR.out.at hTn
      rw [mixd_high (Nat.le_refl _), ← dg_div] at hco
      have hfo := HR.out.free (j + i)
      obtain ⟨J, hJ⟩ : ∃ J : Nat, J = j + i := ⟨_, rfl⟩
      have HJ := Lib.hid hJ
      rw [← hJ] at hco hfo hTn
      have hJi : (i : Int) + (j : Int) = (J : Int) := by omega
      have HXD := Lib.hid (takeX_dg X y q j (N + 1) i)
      have hb9 := borT_le (X / BB ^ j) y q i
      have hx9 := dg_le9 (X / BB ^ j) i
      have P := HP.out i hiN
      have HDV := Lib.hid (dg_le9 (takeV (X / BB ^ j) y q (N + 1)) i)
      have M := HN.out i hiN
      clear hJ HP HN
      generalize hbn : borT (X / BB ^ j) y q (i + 1) = bn at *
      have HBN := Lib.hid hbn
      generalize borT (X / BB ^ j) y q i = b at *
      generalize dg (X / BB ^ j) i = x at *
      generalize dg (takeV (X / BB ^ j) y q (N + 1)) i = d at *
      clear hbn
      by_cases hin : i < N
      · have hcy := (grown_cellN (o := i) HG.out hh (by intro e; injection e with e; exact Hne.out e)).trans (HY.out i hin)
        have hy9 := dg_le9 y i
        generalize dg y i = yd at *
        obtain ⟨p, hp0, hp, hp9⟩ := prod_q q yd hq9 hy9
        rw [hp0] at P M
        obtain ⟨S, hS⟩ : ∃ S : Int, (x : Int) - (b : Int) - (p : Int) = S := ⟨_, rfl⟩
        by_cases hneg : S < 0
        · obtain ⟨s, rfl⟩ : ∃ s : Nat, S = -(s : Int) := ⟨(-S).toNat, by omega⟩
          obtain ⟨e1, e2⟩ := M s hS.symm (by omega)
          have hd9 : (d : Int) ≤ 999999999 := by have := HDV.out; omega
          have hs9 : (s : Int) ≤ 1000000001000000000 := by omega
          obtain ⟨s2, hs12⟩ : ∃ s2 : Nat, (s : Int) + 1000000000 = (s2 : Int) := ⟨s + 1000000000, by omega⟩
          obtain ⟨s1, hs1⟩ : ∃ s1 : Nat, (s2 : Int) - 1 = (s1 : Int) := ⟨s2 - 1, by omega⟩
          have hs2 : (s1 : Int) / 1000000000 = (bn : Int) := by omega
          have hs3 : (s1 : Int).tdiv 1000000000 = (bn : Int) := by rw [Int.tdiv_eq_ediv_of_nonneg (by omega)]; exact hs2
          have hbn9 : (bn : Int) ≤ 1000000002 := by omega
          have hs4 : (bn : Int) * 1000000000 ≤ 1000000002000000000 := by omega
          clear P M e1 hp0
          go_wp2
          exact ⟨⟨i + 1, by omega, by go_num, by rw [HBN.out], by rw [HJ.out, ← HXD.out]; exact HR.out.up (by omega), grown_trans1 HG.out (grown_set1 _ _ _ _)⟩, by simp [intOf] <;> omega⟩
        · have hs_ : True := trivial
          obtain ⟨s, rfl⟩ : ∃ s : Nat, S = (s : Int) := ⟨S.toNat, by omega⟩
          obtain ⟨e1, e2⟩ := P s hS.symm (by omega)
          have e3 : s = d := by omega
          subst e3
          have HBZ := Lib.hid (HBN.out.trans e2)
          have hs0 : decide ((s : Int) < 0) = false := by simp
          clear P M e1 hp0 hs_
          go_wp2
          exact ⟨⟨i + 1, by omega, by go_num, by rw [HBZ.out]; rfl, by rw [HJ.out, ← HXD.out]; exact HR.out.up (by omega), grown_trans1 HG.out (grown_set1 _ _ _ _)⟩, by simp [intOf] <;> omega⟩
      · obtain rfl : i = N := by omega
        have hy0 := Hyz.out
        rw [hy0, Nat.mul_zero] at P M
        obtain ⟨S, hS⟩ : ∃ S : Int, (x : Int) - (b : Int) = S := ⟨_, rfl⟩
        by_cases hneg : S < 0
        · obtain ⟨s, rfl⟩ : ∃ s : Nat, S = -(s : Int) := ⟨(-S).toNat, by omega⟩
          obtain ⟨e1, e2⟩ := M s (by omega) (by omega)
          have hd9 : (d : Int) ≤ 999999999 := by have := HDV.out; omega
          have hs9 : (s : Int) ≤ 1000000001000000000 := by omega
          obtain ⟨s2, hs12⟩ : ∃ s2 : Nat, (s : Int) + 1000000000 = (s2 : Int) := ⟨s + 1000000000, by omega⟩
          obtain ⟨s1, hs1⟩ : ∃ s1 : Nat, (s2 : Int) - 1 = (s1 : Int) := ⟨s2 - 1, by omega⟩
          have hs2 : (s1 : Int) / 1000000000 = (bn : Int) := by omega
          have hs3 : (s1 : Int).tdiv 1000000000 = (bn : Int) := by rw [Int.tdiv_eq_ediv_of_nonneg (by omega)]; exact hs2
          have hbn9 : (bn : Int) ≤ 1000000002 := by omega
          have hs4 : (bn : Int) * 1000000000 ≤ 1000000002000000000 := by omega
          clear P M e1 hy0
          go_wp2
          exact ⟨⟨i + 1, by omega, by go_num, by rw [HBN.out], by rw [HJ.out, ← HXD.out]; exact HR.out.up (by omega), grown_trans1 HG.out (grown_set1 _ _ _ _)⟩, by simp [intOf] <;> omega⟩
        · have hs_ : True := trivial
          obtain ⟨s, rfl⟩ : ∃ s : Nat, S = (s : Int) := ⟨S.toNat, by omega⟩
          obtain ⟨e1, e2⟩ := P s (by omega) (by omega)
          have e3 : s = d := by omega
          subst e3
          have HBZ := Lib.hid (HBN.out.trans e2)
          have hs0 : decide ((s : Int) < 0) = false := by simp
          clear P M e1 hy0 hs_
          go_wp2
          exact ⟨⟨i + 1, by omega, by go_num, by rw [HBZ.out]; rfl, by rw [HJ.out, ← HXD.out]; exact HR.out.up (by omega), grown_trans1 HG.out (grown_set1 _ _ _ _)⟩, by simp [intOf] <;> omega⟩
    · obtain rfl : i = N + 1 := by omega
      have HRE := Lib.hid (show Row base _ g T cx (dcells (takeX X y q j (N + 1)) T) by rw [← HE.out]; exact HR.out)
      generalize borT (X / BB ^ j) y q (N + 1) = b at *
      have HO2 := HO
      clear HO
      clear HE HP HN HR
      go_wp2
      go_ret
      exact ⟨by rw [← HO2.out]; rfl, HRE.out, HG.out⟩
end Go.Proofs.Ytabalicembhjmaa
