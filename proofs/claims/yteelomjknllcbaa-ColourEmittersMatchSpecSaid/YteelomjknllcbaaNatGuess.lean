/- The contract of the reference's guess: a digit of the quotient, at most one too great. -/
import Derived.Test.YteelomjknllcbaaNatShort
namespace Go.Proofs.Yteelomjknllcbaa
open Go.RowKit
set_option linter.unusedVariables false
set_option linter.unusedSimpArgs false

theorem top_two {y M : Nat} (h : y < BB ^ (M + 2)) : y / BB ^ M = dg y (M + 1) * BB + dg y M := by
  have h1 := qN_step y M
  have h2 := qN_step y (M + 1)
  have h3 : qN y (M + 1 + 1) = 0 := qN_top h
  rw [h3, Nat.mul_zero, Nat.zero_add] at h2
  have : y / BB ^ M = qN y M := rfl
  rw [this, h1, h2, Nat.mul_comm]
theorem top_three {W M : Nat} (h : W < BB ^ (M + 3)) : W / BB ^ M = (dg W (M + 2) * BB + dg W (M + 1)) * BB + dg W M := by
  have h1 := qN_step W M
  have h2 := qN_step W (M + 1)
  have h3 := qN_step W (M + 2)
  have h4 : qN W (M + 2 + 1) = 0 := qN_top h
  rw [h4, Nat.mul_zero, Nat.zero_add] at h3
  have : W / BB ^ M = qN W M := rfl
  have e : qN W (M + 1 + 1) = qN W (M + 2) := rfl
  rw [this, h1, h2, e, h3, Nat.mul_comm BB (BB * _ + _), Nat.mul_comm BB (dg W (M + 2))]
theorem guess_top {W y P v1 v2 top x3 : Nat} (hP : 0 < P) (hv : y / P = v1 * BB + v2) (hv2 : v2 < BB) (hw : W / P = top * BB + x3) (hx : x3 < BB) (hW : W < y * BB) : top < v1 * BB + BB := by
  have a1 := Nat.div_add_mod y P
  have a3 := Nat.mod_lt y hP
  have c1 : y < (v1 * BB + v2 + 1) * P := by
    rw [Nat.add_mul (v1 * BB + v2) 1, Nat.one_mul, ← hv, Nat.mul_comm (y / P) P]; omega
  have c2 : y * BB < (v1 * BB + v2 + 1) * BB * P := by
    rw [Nat.mul_right_comm]; exact Nat.mul_lt_mul_of_pos_right c1 BB_pos
  have c3 : W / P < (v1 * BB + v2 + 1) * BB := (Nat.div_lt_iff_lt_mul hP).2 (by omega)
  rw [hw] at c3
  have c4 : top * BB < (v1 * BB + BB) * BB := by
    have : (v1 * BB + v2 + 1) * BB ≤ (v1 * BB + BB) * BB := Nat.mul_le_mul_right _ (by omega)
    omega
  exact Nat.lt_of_mul_lt_mul_right c4

/-- what the loop of the guess keeps -/
structure GS (W y v1 v2 top x3 q r : Nat) : Prop where
  eq : top = q * v1 + r
  low : W / y ≤ q
  high : q ≤ 2000000000
  rest : r < 1000000000
/-- what is known of the numbers -/
structure GK (W y P v1 v2 top x3 : Nat) : Prop where
  hP : 0 < P
  hv : y / P = v1 * BB + v2
  hw : W / P = top * BB + x3
  hy : 0 < y
  hW : W < y * BB
  hv1 : 0 < v1
  hv1b : v1 < BB
  hv2 : v2 < BB
  hx : x3 < BB
theorem GK.start {W y P v1 v2 top x3 : Nat} (k : GK W y P v1 v2 top x3) : GS W y v1 v2 top x3 (top / v1) (top % v1) := by
  obtain ⟨h1, h2⟩ := guess_start W y P v1 v2 top x3 (W / y) k.hP k.hv k.hv2 k.hw k.hx k.hv1 rfl k.hW
  have h3 := Nat.mod_lt top k.hv1
  have h4 := k.hv1b
  unfold BB at h2 h4
  exact ⟨by rw [Nat.mul_comm]; exact (Nat.div_add_mod top v1).symm, h1, by omega, by omega⟩
/-- the test says 'too great' -/
theorem GK.down {W y P v1 v2 top x3 q r : Nat} (k : GK W y P v1 v2 top x3) (s : GS W y v1 v2 top x3 q r) (h : 1000000000 ≤ q ∨ r * 1000000000 + x3 < q * v2) :
    1 ≤ q ∧ (r + v1 < 1000000000 → GS W y v1 v2 top x3 (q - 1) (r + v1)) ∧ (1000000000 ≤ r + v1 → W / y ≤ q - 1 ∧ q - 1 ≤ W / y + 1) := by
  have hd := guess_down W y P v1 v2 top x3 (W / y) q r k.hP k.hv k.hw k.hy rfl k.hW s.eq h
  have e : top = (q - 1) * v1 + (r + v1) := by
    obtain ⟨p, rfl⟩ : ∃ p, q = p + 1 := ⟨q - 1, (Nat.sub_add_cancel (Nat.le_trans (Nat.le_add_left 1 _) hd)).symm⟩
    have := s.eq
    rw [Nat.add_mul, Nat.one_mul] at this
    rw [Nat.add_sub_cancel]
    omega
  refine ⟨Nat.le_trans (Nat.le_add_left 1 _) hd, fun hr => ⟨e, Nat.le_sub_one_of_lt hd, by have := s.high; omega, hr⟩, fun hr => ⟨Nat.le_sub_one_of_lt hd, ?_⟩⟩
  refine guess_break W y P v1 v2 top x3 (W / y) (q - 1) (r + v1) k.hP k.hv k.hw k.hy rfl k.hv1 k.hv2 e ?_ hr
  have ht := guess_top k.hP k.hv k.hv2 k.hw k.hx k.hW
  rw [e] at ht
  have : (q - 1) * v1 < BB * v1 := by
    have hr' : BB ≤ r + v1 := hr
    rw [Nat.mul_comm BB]
    omega
  exact Nat.le_of_lt (Nat.lt_of_mul_lt_mul_right this)
theorem GK.stop {W y P v1 v2 top x3 q r : Nat} (k : GK W y P v1 v2 top x3) (s : GS W y v1 v2 top x3 q r) (h1 : q < 1000000000) (h2 : q * v2 ≤ r * 1000000000 + x3) : W / y ≤ q ∧ q ≤ W / y + 1 :=
  ⟨s.low, guess_stop W y P v1 v2 top x3 (W / y) q r k.hP k.hv k.hw k.hy rfl k.hv1 s.eq h1 h2⟩
theorem GK.mk' {X y j M : Nat} (hy : LenOf y (M + 2)) (hX : X / BB ^ j < y * BB) : GK (X / BB ^ j) y (BB ^ M) (dg y (M + 1)) (dg y M) (dg X (j + (M + 2)) * BB + dg X (j + (M + 1))) (dg X (j + M)) := by
  have h0 : 0 < y := Nat.lt_of_lt_of_le (BBp _) (hy.2 (by omega))
  have h1 : X / BB ^ j < BB ^ (M + 3) := by
    have : y * BB < BB ^ (M + 2) * BB := Nat.mul_lt_mul_of_pos_right hy.1 BB_pos
    rw [← Nat.pow_succ] at this
    exact Nat.lt_trans hX this
  refine ⟨BBp M, top_two hy.1, ?_, h0, hX, ?_, dg_lt _ _, dg_lt _ _, dg_lt _ _⟩
  · rw [top_three h1]
    simp only [dg_div]
  · exact dg_top hy (by omega)
theorem GS.prod {W y v1 v2 top x3 q r : Nat} (s : GS W y v1 v2 top x3 q r) (hv2 : (v2 : Int) ≤ 999999999) : ∃ p : Nat, q * v2 = p ∧ (q : Int) * (v2 : Int) = (p : Int) ∧ (p : Int) ≤ 1999999998000000000 := by
  refine ⟨q * v2, rfl, (Int.natCast_mul q v2).symm, ?_⟩
  have h1 := s.high
  have h2 : v2 ≤ 999999999 := by omega
  have := Nat.mul_le_mul h1 h2
  omega

def GuessP (qt : Nat) (w : World) (e : Ending) (w' : World) : Prop := (∃ q : Nat, e = .returned (.int .i64 q) ∧ qt ≤ q ∧ q ≤ qt + 1) ∧ ∃ n, w' = w.drewN n

set_option maxHeartbeats 8000000 in
set_option maxRecDepth 100000 in
theorem guess_core (W y P x0 x1 x2 v1 v2 top j T g h cx cy N N1 M J0 J1 J2 : Nat) (w : World) (hk : GK W y P v1 v2 top x2) (hT : T ≤ 100) (hN : N ≤ 100)
    (k0 : w.cell? ⟨g, J0, none⟩ = some (.int .i64 (x0 : Nat))) (k1 : w.cell? ⟨g, J1, none⟩ = some (.int .i64 (x1 : Nat))) (k2 : w.cell? ⟨g, J2, none⟩ = some (.int .i64 (x2 : Nat)))
    (l1 : w.cell? ⟨h, N1, none⟩ = some (.int .i64 (v1 : Nat))) (l2 : w.cell? ⟨h, M, none⟩ = some (.int .i64 (v2 : Nat)))
    (b0 : (x0 : Int) ≤ 999999999) (b1 : (x1 : Int) ≤ 999999999) (b2 : (x2 : Int) ≤ 999999999) (b3 : (v1 : Int) ≤ 999999999) (b4 : (v2 : Int) ≤ 999999999)
    (ht2 : (x0 : Int) * 1000000000 + (x1 : Int) = (top : Int))
    (i0 : (j : Int) + (N : Int) = (J0 : Int)) (i1 : (J0 : Int) - 1 = (J1 : Int)) (i2 : (J0 : Int) - 2 = (J2 : Int)) (n1 : (N : Int) - 1 = (N1 : Int)) (n2 : (N : Int) - 2 = (M : Int))
    (s0 : J0 < T) (s1 : J1 < T) (s2 : J2 < T) (m1 : N1 < N) (m2 : M < N) :
    Calls Try.prog 118 #[.slice (some ⟨g, 0, none⟩) T cx, .slice (some ⟨h, 0, none⟩) N cy, .int .i64 j] w (GuessP (W / y) w) := by
  have HS := Lib.hid hk.start
  have HK := Lib.hid hk
  clear hk
  have hv1 : (0 : Int) < (v1 : Int) := by have := HK.out.hv1; omega
  obtain ⟨q0, hq0⟩ : ∃ q : Nat, top / v1 = q := ⟨_, rfl⟩
  obtain ⟨r0, hr0⟩ : ∃ q : Nat, top % v1 = q := ⟨_, rfl⟩
  rw [hq0, hr0] at HS
  obtain ⟨dq1, dq2⟩ := quo_facts hq0
  obtain ⟨dr1, dr2⟩ := rem_facts hr0
  have htop : (top : Int) ≤ 999999999999999999 := by omega
  have hq9 : (q0 : Int) ≤ 2000000000 := by have := HS.out.high; omega
  have hr9 : (r0 : Int) ≤ 999999999 := by have := HS.out.rest; omega
  clear hq0 hr0
  go_enter Try.func118, Try.ntmps118
  go_wp2
  go_quiet (fail)
  go_wp2
  go_loopw [9, 10] (fun qq rr wr => ∃ q r : Nat, qq = .int .i64 q ∧ rr = .int .i64 r ∧ GS W y v1 v2 top x2 q r ∧ ∃ n, wr = w.drewN n) (fun qq _ _ => (intOf qq).toNat)
  case atStart => exact ⟨q0, r0, rfl, rfl, HS.out, _, rfl⟩
  case round =>
    obtain ⟨q, r, rfl, rfl, hs, nn, rfl⟩ := hrel
    have HS2 := Lib.hid hs
    have hq9' : (q : Int) ≤ 2000000000 := by have := hs.high; omega
    have hr9' : (r : Int) ≤ 999999999 := by have := hs.rest; omega
    clear hs HS hq9 hr9 dq1 dq2 dr1 dr2
    by_cases hA : (1000000000 : Int) ≤ (q : Int)
    · obtain ⟨d1, d2, d3⟩ := HK.out.down HS2.out (.inl (by omega))
      have D2 := Lib.hid d2
      have D3 := Lib.hid d3
      clear d2 d3
      have hA2 : decide ((1000000000 : Int) ≤ (q : Int)) = true := by simp; omega
      go_wp2
      go_quiet (fail)
      by_cases hB : (1000000000 : Int) ≤ (r : Int) + (v1 : Int)
      · have HB3 := Lib.hid (D3.out (by omega))
        have HQ := Lib.hid (show Ending.returned (.int .i64 ((q : Int) - 1)) = .returned (.int .i64 ((q - 1 : Nat) : Int)) by congr 2; omega)
        clear D2 D3
        go_wp2
        go_ret
        exact ⟨⟨q - 1, HQ.out, HB3.out⟩, _, rfl⟩
      · have HD2 := Lib.hid (D2.out (by omega))
        have HQ := Lib.hid (show Value.int .i64 ((q : Int) - 1) = .int .i64 ((q - 1 : Nat) : Int) by congr 1; omega)
        clear D2 D3
        go_wp2
        go_roundw
        case rel => exact ⟨q - 1, r + v1, HQ.out, by go_num, HD2.out, _, rfl⟩
        case measure => simp [intOf]; omega
    · have hA2 : decide ((1000000000 : Int) ≤ (q : Int)) = false := by simp; omega
      have hA3 : (q : Int) ≤ 999999999 := by omega
      obtain ⟨p, hp0, hp, hp9⟩ := HS2.out.prod b4
      have HP := Lib.hid hp0
      clear hp0
      by_cases hT2 : (r : Int) * 1000000000 + (x2 : Int) < (p : Int)
      · obtain ⟨d1, d2, d3⟩ := HK.out.down HS2.out (.inr (by rw [HP.out]; omega))
        have D2 := Lib.hid d2
        have D3 := Lib.hid d3
        clear d2 d3
        have hT3 : decide ((r : Int) * 1000000000 + (x2 : Int) < (p : Int)) = true := by simp; omega
        go_wp2
        go_quiet (fail)
        by_cases hB : (1000000000 : Int) ≤ (r : Int) + (v1 : Int)
        · have HB3 := Lib.hid (D3.out (by omega))
          have HQ := Lib.hid (show Ending.returned (.int .i64 ((q : Int) - 1)) = .returned (.int .i64 ((q - 1 : Nat) : Int)) by congr 2; omega)
          clear D2 D3
          go_wp2
          go_ret
          exact ⟨⟨q - 1, HQ.out, HB3.out⟩, _, rfl⟩
        · have HD2 := Lib.hid (D2.out (by omega))
          have HQ := Lib.hid (show Value.int .i64 ((q : Int) - 1) = .int .i64 ((q - 1 : Nat) : Int) by congr 1; omega)
          clear D2 D3
          go_wp2
          go_roundw
          case rel => exact ⟨q - 1, r + v1, HQ.out, by go_num, HD2.out, _, rfl⟩
          case measure => simp [intOf]; omega
      · have HB3 := Lib.hid (HK.out.stop HS2.out (by omega) (by rw [HP.out]; omega))
        have hT3 : decide ((r : Int) * 1000000000 + (x2 : Int) < (p : Int)) = false := by simp; omega
        go_wp2
        go_quiet (fail)
        go_wp2
        go_ret
        exact ⟨⟨q, rfl, HB3.out⟩, nn + nq, by first | rfl | simp⟩

theorem guess_any (X y j M T g h cx cy : Nat) (w : World) (hy : LenOf y (M + 2)) (hX : X / BB ^ j < y * BB) (hj : j + M + 2 < T) (hT : T ≤ 100)
    (hcx : ∀ i, i < T → w.cell? ⟨g, i, none⟩ = some (.int .i64 (dg X i : Nat))) (hcy : ∀ i, i < M + 2 → w.cell? ⟨h, i, none⟩ = some (.int .i64 (dg y i : Nat))) :
    Calls Try.prog 118 #[.slice (some ⟨g, 0, none⟩) T cx, .slice (some ⟨h, 0, none⟩) (M + 2 : Nat) cy, .int .i64 j] w (GuessP (X / BB ^ j / y) w) :=
  guess_core (X / BB ^ j) y (BB ^ M) (dg X (j + (M + 2))) (dg X (j + (M + 1))) (dg X (j + M)) (dg y (M + 1)) (dg y M) (dg X (j + (M + 2)) * BB + dg X (j + (M + 1))) j T g h cx cy (M + 2) (M + 1) M (j + (M + 2)) (j + (M + 1)) (j + M) w
    (GK.mk' hy hX) hT (by omega) (hcx _ (by omega)) (hcx _ (by omega)) (hcx _ (by omega)) (hcy _ (by omega)) (hcy _ (by omega))
    (dg_le9 _ _) (dg_le9 _ _) (dg_le9 _ _) (dg_le9 _ _) (dg_le9 _ _) (by unfold BB; omega) (by omega) (by omega) (by omega) (by omega) (by omega) (by omega) (by omega) (by omega) (by omega) (by omega)
end Go.Proofs.Yteelomjknllcbaa
