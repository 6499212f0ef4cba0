/- The contract of the reference's divide by a number of two digits or more: long division. -/
import Derived.Test.YtabalicembhjmaaT33M36

namespace Go.Proofs.Ytabalicembhjmaa
open Go.RowKit
set_option linter.unusedVariables false
set_option linter.unusedSimpArgs false

/-- what is known of a window -/
theorem long_win (a y j : Nat) (hy : 0 < y) : remX a y (j + 1) / BB ^ j / y = dg (a / y) j ∧ remX a y (j + 1) / BB ^ j < y * BB := by
  obtain ⟨h1, h2, h3⟩ := long_step a y j hy
  rw [(remX_win a y j).1]
  exact ⟨h1, h3⟩
theorem win_mul {W y q : Nat} (h : q ≤ W / y + 1) : q * y ≤ W + y := by
  have h1 : q * y ≤ (W / y + 1) * y := Nat.mul_le_mul_right _ h
  have h2 := Nat.div_mul_le_self W y
  rw [Nat.add_mul, Nat.one_mul] at h1
  omega
theorem win_pow {W y N : Nat} (h : W < y * BB) (hy : y < BB ^ N) : W < BB ^ (N + 1) := by
  have : y * BB < BB ^ N * BB := Nat.mul_lt_mul_of_pos_right hy BB_pos
  rw [← Nat.pow_succ] at this
  exact Nat.lt_trans h this
theorem long_no {a y j q n : Nat} (hy : 0 < y) (h1 : dg (a / y) j ≤ q) (h : q * y ≤ remX a y (j + 1) / BB ^ j) : q = dg (a / y) j ∧ takeX (remX a y (j + 1)) y q j n = remX a y j := by
  have hq : q = dg (a / y) j := by
    have := (Nat.le_div_iff_mul_le hy).2 h
    rw [(long_win a y j hy).1] at this
    omega
  refine ⟨hq, ?_⟩
  unfold takeX takeV lowHigh
  rw [if_pos h, remX_step a y j hy, (remX_win a y j).1, (remX_win a y j).2, ← hq, Nat.add_comm]
theorem long_over {a y j q N : Nat} (hy : 0 < y) (hyN : y < BB ^ N) (h1 : q ≤ dg (a / y) j + 1) (h : remX a y (j + 1) / BB ^ j < q * y) :
    q = dg (a / y) j + 1 ∧ giveX (takeX (remX a y (j + 1)) y q j (N + 1)) y j (N + 1) = remX a y j ∧ takeX (remX a y (j + 1)) y q j (N + 1) / BB ^ j < BB ^ (N + 1) := by
  obtain ⟨w1, w2⟩ := long_win a y j hy
  have hq : q = dg (a / y) j + 1 := by
    have := (Nat.div_lt_iff_lt_mul hy).2 h
    rw [w1] at this
    omega
  have hW := win_pow w2 hyN
  have hy' : y < BB ^ (N + 1) := lt_pow hyN (by omega)
  have hm : q * y ≤ remX a y (j + 1) / BB ^ j + y := win_mul (by rw [w1]; exact h1)
  have hg := giveV hy' hm (by omega)
  refine ⟨hq, ?_, ?_⟩
  · unfold giveX takeX
    rw [lowHigh_div, hg]
    unfold lowHigh
    rw [Nat.add_mul_mod_self_right, Nat.mod_mod, remX_step a y j hy, (remX_win a y j).1, (remX_win a y j).2, hq, Nat.add_sub_cancel, Nat.add_comm]
  · unfold takeX
    rw [lowHigh_div]
    exact (takeV_dg hW hy' hm).1
theorem quo_fact1 {d q : Nat} (h : BB / d = q) : Int.tdiv 1000000000 (d : Int) = (q : Int) ∧ (1000000000 : Int) / (d : Int) = (q : Int) := quo_facts (s := 1000000000) h

theorem guess_N (X y j M N T g h cx cy : Nat) (w : World) (hN : N = M + 2) (hy : LenOf y N) (hX : X / BB ^ j < y * BB) (hj : j + N < T) (hT : T ≤ 100)
    (hcx : ∀ i, i < T → w.cell? ⟨g, i, none⟩ = some (.int .i64 (dg X i : Nat))) (hcy : ∀ i, i < N → w.cell? ⟨h, i, none⟩ = some (.int .i64 (dg y i : Nat))) :
    Calls Try.prog 129 #[.slice (some ⟨g, 0, none⟩) T cx, .slice (some ⟨h, 0, none⟩) N cy, .int .i64 j] w (GuessP (X / BB ^ j / y) w) := by
  subst hN
  exact guess_any X y j M T g h cx cy w hy hX hj hT hcx hcy
/-- what stays of y -/
def YC (w : World) (g y N : Nat) : Prop := g < w.heap.size ∧ ∀ i, i < N → w.cell? ⟨g, i, none⟩ = some (.int .i64 (dg y i : Nat))
theorem YC.grown {w w' : World} {g y N : Nat} {r : Option Nat} (h : YC w g y N) (hg : w.grownBy w' r) (hn : some g ≠ r) : YC w' g y N :=
  ⟨Nat.lt_of_lt_of_le h.1 hg.size, fun i hi => (grown_cellN hg h.1 hn).trans (h.2 i hi)⟩
theorem YC.below {w w' : World} {g y N : Nat} (h : YC w g y N) (hb : Below w.heap.size w w') : YC w' g y N :=
  ⟨Nat.lt_of_lt_of_le h.1 hb.size, fun i hi => (hb.cell (p := ⟨g, i, none⟩) h.1).trans (h.2 i hi)⟩
theorem YC.of_own {w : World} {base g y N c : Nat} (h : w.ownsRow base 3 1 (.slice (some ⟨g, 0, none⟩) N c) N (dcells y N)) : YC w g y N :=
  ⟨(h.lt g rfl).2, fun i hi => (World.ownsRow.cellAt h i (by omega)).trans (dcells_at hi)⟩
theorem Row.grown {base g T cap : Nat} {w w' : World} {xs : List Value} {r : Option Nat} (h : Row base w g T cap xs) (hg : w.grownBy w' r) (hn : some g ≠ r) : Row base w' g T cap xs := own_grown h hg (.inr hn)
theorem some_ne {a b : Nat} (h : a ≠ b) : some a ≠ some b := fun e => h (by injection e)
theorem size_set (w : World) (a : Addr) (u : Value) : (w.setCell a u).heap.size = w.heap.size := by simp
theorem below_grown1 {B g : Nat} {w wr w2 : World} (hb : Below B w wr) (hg : wr.grownBy w2 (some g)) (h1 : B ≤ g) (hs : B ≤ wr.heap.size) : Below B w w2 := hb.grown hg hs (fun k hk => by injection hk with hk; omega)

set_option maxHeartbeats 16000000 in
set_option maxRecDepth 100000 in
theorem div_long (B a b M N : Nat) (v u : Value) (w : World) (hB : B ≤ w.heap.size) (fa : Fit a) (hle : b ≤ a) (eN : N = M + 2) (hb1 : LenOf b N) (hv : IsN B w v a) (hu : IsN B w u b) : Calls Try.prog 116 #[v, u] w (DivP (a / b) (a % b) w) := by
  obtain ⟨o, ho⟩ : ∃ o, ordV a b = o := ⟨_, rfl⟩
  have HO := Lib.hid (order_o B a b o v u w hB ho hv hu)
  have ho0 : 0 ≤ o := by rw [← ho]; exact ordV_ge hle
  have hod : decide (o < 0) = false := by simpa using ho0
  have HV := Lib.hid hv
  have HU := Lib.hid hu
  have fb : Fit b := fa.le hle
  have FA := Lib.hid fa
  have FB := Lib.hid fb
  obtain ⟨La, hLa, ao, cap, rfl, c1, c2, hn, hx⟩ := hv
  obtain ⟨Lb, hLb, bo, cap2, rfl, d1, d2, hm, hy⟩ := hu
  obtain rfl := lenOf_unique hLb hb1
  have hl := fa.len hLa
  have hMl := fb.len hb1
  have hN2 : 2 ≤ Lb := by omega
  have hNL : Lb ≤ La := by
    by_cases h : La < Lb
    · have := len_less hLa hb1 h
      omega
    · omega
  obtain ⟨b0, off, rfl, hbb, hcy⟩ := hy (by omega)
  obtain ⟨N1, eN1⟩ : ∃ N1 : Nat, N1 = Lb - 1 := ⟨_, rfl⟩
  have n1 : (Lb : Int) - 1 = (N1 : Int) := by omega
  have n2 : N1 < Lb := by omega
  have hc0 := hcy N1 n2
  have hbt9 := dg_le9 b N1
  obtain ⟨f, hf⟩ : ∃ f, f = BB / (dg b (Lb - 1) + 1) := ⟨_, rfl⟩
  obtain ⟨f0, f1, f2, f3⟩ := factor_ok hb1 (by omega) hf
  rw [← eN1] at hf
  have hf0 : (0 : Int) < (f : Int) := by omega
  have hf9 : (f : Int) ≤ 500000000 := by unfold BB at f2; omega
  obtain ⟨bt1, hbt1⟩ : ∃ t : Nat, (dg b N1 : Int) + 1 = (t : Int) := ⟨dg b N1 + 1, by omega⟩
  have hbt1' : dg b N1 + 1 = bt1 := by omega
  rw [hbt1'] at hf
  obtain ⟨q1, q2⟩ := quo_fact1 hf.symm
  have hbt10 : (0 : Int) < (bt1 : Int) := by omega
  have hbt19 : (bt1 : Int) ≤ 1000000000 := by omega
  have ha0 : 0 < f * a := Nat.mul_pos f0 (Nat.lt_of_lt_of_le (Nat.lt_of_lt_of_le (BBp _) (hb1.2 (by omega))) hle)
  have hb0' : 0 < f * b := Nat.lt_of_lt_of_le (BBp _) (f3.2 (by omega))
  have hxl := scaled_lt hn f0 (by omega)
  have hqs := quot_start hLa hb1 (by omega) hNL f0
  obtain ⟨e1, e2⟩ := quot_end (a := a) (b := b) f0
  have HQE := Lib.hid e1
  have HRE := Lib.hid e2
  have HQS := Lib.hid hqs
  have HXL := Lib.hid hxl
  have HY3 := Lib.hid f3
  have HA0 := Lib.hid ha0
  have HB0 := Lib.hid hb0'
  have HN := Lib.hid eN
  generalize dg b N1 = bt at *
  clear hle hLa hLb hn hx hm hy hcy ho hb1 fa fb hf f0 f1 f2 f3 ha0 hb0' hxl hqs e1 e2 hbt1' eN eN1
  go_enter Try.func116, Try.ntmps116
  go_wp2_with fail
  refine HO.out.mono ?_
  rintro e w1 ⟨rfl, hb1⟩
  have HB1 := Lib.hid hb1
  have hct := (hb1.cell (p := ⟨b0, off + N1, none⟩) (by show b0 < _; omega)).trans hc0
  have hsz := hb1.size
  have HVw := Lib.hid (HV.out.below (hb1.mono hB))
  have HUw := Lib.hid (HU.out.below (hb1.mono hB))
  clear hb1 hc0 HO HV HU
  go_wp2_with fail
  refine (scaled_any B a f _ w1 (by omega) FA.out hf0 hf9 HVw.out).mono ?_
  rintro e w2 ⟨vx, Lx, rfl, hlx, hox, hb2⟩
  obtain ⟨gx, cx, rfl⟩ := own_shape_pos hox (by
    by_cases h : Lx = 0
    · exact absurd ((lenOf_zero_iff hlx).2 h) (Nat.ne_of_gt HA0.out)
    · omega)
  have HLX := Lib.hid hlx
  have HOX := Lib.hid hox
  have HB2 := Lib.hid hb2
  have HUw2 := Lib.hid (HUw.out.below (hb2.mono (Nat.le_trans hB hsz)))
  have hsz2 := hb2.size
  clear hlx hox hb2
  go_wp2_with fail
  refine (scaled_any B b f _ w2 (by omega) FB.out hf0 hf9 HUw2.out).mono ?_
  rintro e w3 ⟨vy, Ly, rfl, hly, hoy, hb3⟩
  obtain rfl := lenOf_unique hly HY3.out
  obtain ⟨gy, cy, rfl⟩ := own_shape_pos hoy (by omega)
  have hgx : gx < w2.heap.size := (HOX.out.lt gx rfl).2
  have hgy := (hoy.lt gy rfl).1
  have HYC := Lib.hid (YC.of_own hoy)
  have HOX3 := Lib.hid (own_baseN (own_below HOX.out hb3 (fun g hg => by cases hg; exact hgx)) (show w.heap.size ≤ w1.heap.size from hsz))
  have HB3 := Lib.hid ((HB1.out.trans (HB2.out.mono hsz)).trans (hb3.mono (Nat.le_trans hsz hsz2)))
  have hsz3 := hb3.size
  have hLxT : Lx ≤ La + 1 := lenOf_le HLX.out HXL.out
  clear hly hoy hb3 HOX HB1 HB2 HVw HUw HUw2 q1 q2 hct
  go_wp2
  go_loopw [9] (fun x wr => ∃ T g c : Nat, T ≤ La + 1 ∧ x = .slice (some ⟨g, 0, none⟩) T c ∧ Lx ≤ T ∧ wr.ownsRow w.heap.size 3 1 (.slice (some ⟨g, 0, none⟩) T c) T (dcells (f * a) T) ∧ g ≠ gy ∧ YC wr gy (f * b) Ly ∧ Below w.heap.size w wr) (fun x _ => match x with | .slice _ n _ => La + 2 - n | _ => 0)
  case atStart => exact ⟨Lx, gx, cx, by omega, rfl, Nat.le_refl _, HOX3.out, by omega, HYC.out, HB3.out⟩
  case round =>
    obtain ⟨T, g, c, hT, rfl, hT2, hox, hne, hyc, hb⟩ := hrel
    have HOX := Lib.hid hox
    have HYC2 := Lib.hid hyc
    have HB := Lib.hid hb
    have hsz4 := hb.size
    have hgs : gy < _ := hyc.1
    have hgx2 := (hox.lt g rfl).2
    have hgx1 := (hox.lt g rfl).1
    clear hox hyc hb HOX3 HYC HB3
    by_cases hTL : T ≤ La
    · have HD := Lib.hid (show dg (f * a) T = 0 from dg_zero_of_lt (lt_pow HLX.out.1 hT2))
      go_wp2_with (at_builtin; refine wpList_append_where _ rfl _ _ rfl w.heap.size T g c 1 (dcells (f * a) T) _ (.int .i64 0) rfl rfl (HOX.out.alloc _) (one_int _ _ _ _) (int_one _) (by omega) (by simp; omega) ?_)
      intro g' c' w4 ho4 hg4 hw4
      have HO4 := Lib.hid (show w4.ownsRow w.heap.size 3 1 (.slice (some ⟨g', 0, none⟩) (T + 1) c') (T + 1) (dcells (f * a) (T + 1)) by rw [dcells_succ, HD.out]; exact ho4)
      have hne4 : g' ≠ gy := by
        rcases hw4 with h | h
        · omega
        · omega
      have HYC4 := Lib.hid ((HYC2.out.grown (World.grownBy_alloc _ _ none) (by simp)).grown hg4 (some_ne (Ne.symm hne)))
      have HB4 := Lib.hid ((HB.out.alloc hsz4 _).grown hg4 (by simp; omega) (fun k hk => by injection hk with hk; omega))
      clear ho4 hg4 hw4
      go_wp2
      exact ⟨⟨T + 1, g', c', by omega, rfl, by omega, HO4.out, hne4, HYC4.out, HB4.out⟩, by show La + 2 - (T + 1) < La + 2 - T; omega⟩
    · have hTe : T = La + 1 := by omega
      have hgt : La < T := by omega
      have hdT : decide (T ≤ La) = false := by simpa using hgt
      obtain ⟨K, hK⟩ : ∃ K : Nat, K = T - Ly := ⟨_, rfl⟩
      have hKi : (T : Int) - (Ly : Int) = (K : Int) := by omega
      have hK0 : 0 < K := by omega
      have hKT : K + Ly = T := by omega
      have HX0 := Lib.hid (show Row w.heap.size _ g T c (dcells (remX (f * a) (f * b) K) T) by rw [remX_top (show qN (f * a) K < f * b by have := HQS.out; rwa [show La + 1 - Ly = K by omega] at this)]; exact HOX.out)
      have HQT := Lib.hid (show a / b < BB ^ K by
        have h := HQS.out
        rw [show La + 1 - Ly = K by omega] at h
        unfold qN at h
        have h2 := (Nat.div_lt_iff_lt_mul (BBp K)).1 h
        rw [← HQE.out]
        exact (Nat.div_lt_iff_lt_mul HB0.out).2 (by rw [Nat.mul_comm (BB ^ K)]; exact h2))
      obtain ⟨i0, hi, hz0, hz1, hz2⟩ := info_parts int_info
      have Hi := Lib.hid hi
      have Hz0 := Lib.hid hz0
      have Hz1 := Lib.hid hz1
      have Hz2 := Lib.hid hz2
      clear hi hz0 hz1 hz2 hTe hTL HOX HQS hK
      go_wp2_with (at_make; refine wpList_make_full _ rfl _ _ 126 rfl w.heap.size 3 i0 (.int .i64 0) 1 Try.underlying126 Hi.out Hz0.out Hz1.out .i64 .i64 _ _ K rfl rfl ?c1 ?c2 ?c3 ?c4 ?c5 ?_)
      case c1 => rfl
      case c2 => rfl
      case c3 => rw [Hz2.out]; omega
      case c4 => unfold maxLen; omega
      case c5 => omega
      intro w5 ho5 hg5
      rw [toList_madeCells_one, dcells_zero] at ho5
      have HQ5 := Lib.hid (show Row w.heap.size w5 _ K K (mcells 0 (f * a / (f * b)) K K) by rw [mcells_all (Nat.le_refl _)]; exact ho5)
      have HX5 := Lib.hid (HX0.out.grown hg5 (by simp))
      have HYC5 := Lib.hid (HYC2.out.grown hg5 (by simp))
      have HB5 := Lib.hid (HB.out.grown hg5 hsz4 (by simp))
      have hsz5 := hg5.size
      have hgq5 := (ho5.lt _ rfl).2
      obtain ⟨wo, rfl⟩ : ∃ wo : World, wo = wr := ⟨_, rfl⟩
      clear ho5 hg5 HX0 HYC2 HB Hi Hz0 Hz1 Hz2
      generalize wo.heap.size = gq at *
      go_wp2
      go_loopw [13] (fun jj wr => ∃ k : Nat, k ≤ K ∧ jj = .int .i64 ((k : Int) - 1) ∧ Row w.heap.size wr g T c (dcells (remX (f * a) (f * b) k) T) ∧ Row w.heap.size wr gq K K (mcells 0 (f * a / (f * b)) k K) ∧ YC wr gy (f * b) Ly ∧ Below w.heap.size w wr) (fun jj _ => (intOf jj + 1).toNat)
      case atStart => exact ⟨K, Nat.le_refl _, rfl, HX5.out, HQ5.out, HYC5.out, HB5.out⟩
      case round =>
        obtain ⟨k, hk, rfl, hrx, hrq, hyc, hb⟩ := hrel
        have HRX := Lib.hid hrx
        have HRQ := Lib.hid hrq
        have HYC := Lib.hid hyc
        have HB := Lib.hid hb
        have hsz6 := hb.size
        have hlg := hrx.block.2
        have hlq := hrq.block.2
        have hly := hyc.1
        clear hrx hrq hyc hb HX5 HQ5 HYC5 HB5
        by_cases h0 : k = 0
        · subst h0
          have hxl : f * a % (f * b) < BB ^ T := Nat.lt_of_le_of_lt (Nat.mod_le _ _) (lt_pow HXL.out (by omega))
          have HXT := Lib.hid hxl
          have HRX0 := Lib.hid (show World.ownsRow wr w.heap.size 3 1 (.slice (some ⟨g, 0, none⟩) T c) T (dcells (f * a % (f * b)) T) by rw [← remX_zero]; exact HRX.out)
          have HRQ0 := Lib.hid (show World.ownsRow wr w.heap.size 3 1 (.slice (some ⟨gq, 0, none⟩) K K) K (dcells (a / b) K) by rw [← HQE.out, ← mcells_none (A := 0)]; exact HRQ.out)
          clear hxl HRX HRQ
          go_wp2_with fail
          refine (trim_own _ _ _ _ _ HRX0.out HXT.out).mono ?_
          rintro e w6 ⟨⟨v6, L6, rfl, hl6, ho6⟩, rfl⟩
          obtain ⟨ao6, cap6, rfl⟩ := own_shape1 ho6
          have hL6 : L6 ≤ 40 := by have := lenOf_le hl6 HXT.out; omega
          have HR6 := Lib.hid (RowN.of_own ho6 hl6.1)
          clear hl6 ho6
          go_wp2_with fail
          refine (short_any wr.heap.size (f * a % (f * b)) f L6 _ wr (Nat.le_refl _) hL6 hf0 (by omega) HR6.out).mono ?_
          rw [HRE.out]
          rintro e w7 ⟨v7, L7, rfl, hl7, ho7, hb7⟩
          have HI7 := Lib.hid (isN_own ho7 hl7)
          obtain ⟨ao7, cap7, rfl⟩ := own_shape1 ho7
          have HRQ7 := Lib.hid (own_below HRQ0.out hb7 (fun g hg => (HRQ0.out.lt g hg).2))
          have HB7 := Lib.hid (HB.out.trans (hb7.mono hsz6))
          clear hl7 ho7 hb7
          go_wp2_with fail
          refine (trim_own _ _ _ _ _ HRQ7.out HQT.out).mono ?_
          rintro e w8 ⟨⟨v8, L8, rfl, hl8, ho8⟩, rfl⟩
          obtain ⟨ao8, cap8, rfl⟩ := own_shape1 ho8
          have HI8 := Lib.hid (isN_own ho8 hl8)
          clear hl8 ho8
          go_wp2
          go_ret2
          exact ⟨_, _, rfl, HI8.out, HI7.out, HB7.out⟩
        · obtain ⟨j, rfl⟩ : ∃ j, k = j + 1 := ⟨k - 1, by omega⟩
          have e1 : ((j + 1 : Nat) : Int) - 1 = (j : Nat) := by omega
          rw [e1]
          have hjK : j < K := by omega
          have hjT : j + Ly < T := by omega
          obtain ⟨w1', w2'⟩ := long_win (f * a) (f * b) j HB0.out
          have HWE := Lib.hid w1'
          have HWL := Lib.hid w2'
          have hqd9 := dg_le9 (f * a / (f * b)) j
          have hqd := dg_lt (f * a / (f * b)) j
          clear h0 e1 w1' w2'
          go_wp2_with fail
          refine (guess_N (remX (f * a) (f * b) (j + 1)) (f * b) j M Ly T g gy c cy _ HN.out HY3.out HWL.out hjT (by omega) (fun i hi => HRX.out.atD hi) HYC.out.2).mono ?_
          rintro e w6 ⟨⟨qh, rfl, hq1, hq2⟩, nn, rfl⟩
          rw [HWE.out] at hq1 hq2
          have hfq := HRQ.out.free j
          have hcq := HRQ.out.at hjK
          have hqh9 : (qh : Int) ≤ 1000000000 := by omega
          have HWM := Lib.hid (win_mul (W := remX (f * a) (f * b) (j + 1) / BB ^ j) (y := f * b) (q := qh) (by rw [HWE.out]; exact hq2))
          have HWP := Lib.hid (win_pow HWL.out HY3.out.1)
          go_wp2_with fail
          obtain ⟨st1, st2⟩ := World.ownsRow.stored (HRQ.out.drawn (n := nn)) j (.int .i64 qh)
          have HRQ7 := Lib.hid (show Row w.heap.size _ gq K K _ from st1)
          have HRX7 := Lib.hid ((HRX.out.drawn (n := nn)).grown st2 (some_ne (by omega)))
          have HYC7 := Lib.hid (YC.grown (w := wr.drewN nn) HYC.out st2 (some_ne (by omega)))
          have HB7 := Lib.hid (below_grown1 (below_drewN (n := nn) HB.out) st2 (by omega) hsz6)
          have hsz7 := st2.size
          have hcq7 : ((wr.drewN nn).setCell ⟨gq, j, none⟩ (.int .i64 qh)).cell? ⟨gq, j, none⟩ = some (.int .i64 qh) := by
            refine (World.ownsRow.cellAt HRQ7.out j (by omega)).trans ?_
            simp [mcells_len, hjK]
          have hfq7 := HRQ7.out.free j
          have hsz8 : w.heap.size ≤ ((wr.drewN nn).setCell ⟨gq, j, none⟩ (.int .i64 qh)).heap.size := HB7.out.size
          generalize (wr.drewN nn).setCell ⟨gq, j, none⟩ (.int .i64 qh) = w7 at *
          clear st1 st2 HRX HRQ HYC HB hcq hfq hsz7
          refine (ntake_any w.heap.size (remX (f * a) (f * b) (j + 1)) (f * b) qh j Ly T g gy c cy w7 HWP.out HY3.out.1 HWM.out hqh9 hjT (by omega) (by omega) HYC7.out.1 HRX7.out HYC7.out.2).mono ?_
          rintro e w8 ⟨rfl, hrow8, hg8⟩
          have hgq8 : gq < w7.heap.size := HRQ7.out.block.2
          have HRQ8 := Lib.hid (HRQ7.out.grown hg8 (some_ne (by omega)))
          have HYC8 := Lib.hid (HYC7.out.grown hg8 (some_ne (by omega)))
          have HB8 := Lib.hid (below_grown1 HB7.out hg8 (by omega) hsz8)
          have hsz9 : w.heap.size ≤ w8.heap.size := HB8.out.size
          have hcq8 := (grown_cellN (o := j) hg8 hgq8 (some_ne (by omega))).trans hcq7
          have hfq8 := HRQ8.out.free j
          by_cases hov : remX (f * a) (f * b) (j + 1) / BB ^ j < qh * (f * b)
          · rw [overB_yes hov]
            obtain ⟨z1, z2, z3⟩ := long_over HB0.out HY3.out.1 hq2 hov
            have HZ2 := Lib.hid z2
            have HZ3 := Lib.hid z3
            have HZ1 := Lib.hid z1
            have HRX8 := Lib.hid hrow8
            have hz1 : (qh : Int) - 1 = ((dg (f * a / (f * b)) j : Nat) : Int) := by omega
            clear z2 z3 z1 hov hrow8 hg8 HRX7 HRQ7 HYC7 HB7 hcq7 hfq7
            go_wp2_with fail
            obtain ⟨st1, st2⟩ := World.ownsRow.stored HRQ8.out j (.int .i64 ((dg (f * a / (f * b)) j : Nat) : Int))
            rw [List.set_set, mcells_down hjK] at st1
            have HRQ9 := Lib.hid (show Row w.heap.size _ gq K K _ from st1)
            have HRX9 := Lib.hid (HRX8.out.grown st2 (some_ne (by omega)))
            have HYC9 := Lib.hid (HYC8.out.grown st2 (some_ne (by omega)))
            have HB9 := Lib.hid (below_grown1 HB8.out st2 (by omega) hsz9)
            have hsz10 : w.heap.size ≤ (w8.setCell ⟨gq, j, none⟩ (.int .i64 ((dg (f * a / (f * b)) j : Nat) : Int))).heap.size := HB9.out.size
            generalize w8.setCell ⟨gq, j, none⟩ (.int .i64 ((dg (f * a / (f * b)) j : Nat) : Int)) = w9 at *
            clear st1 st2 HRX8 HRQ8 HYC8 HB8 hcq8 hfq8
            refine (give_any w.heap.size _ (f * b) j Ly T g gy c cy w9 HZ3.out HY3.out.1 hjT (by omega) (by omega) HYC9.out.1 HRX9.out HYC9.out.2).mono ?_
            rintro e w10 ⟨⟨v, rfl⟩, hrow10, hg10⟩
            have HRX10 := Lib.hid (show Row w.heap.size w10 g T c (dcells (remX (f * a) (f * b) j) T) by rw [← HZ2.out]; exact hrow10)
            have HRQ10 := Lib.hid (HRQ9.out.grown hg10 (some_ne (by omega)))
            have HYC10 := Lib.hid (HYC9.out.grown hg10 (some_ne (by omega)))
            have HB10 := Lib.hid (below_grown1 HB9.out hg10 (by omega) hsz10)
            clear hrow10 hg10 HRX9 HRQ9 HYC9 HB9 HZ1 HZ2 HZ3
            go_wp2
            go_roundw
            case rel => exact ⟨j, by omega, by go_num, HRX10.out, HRQ10.out, HYC10.out, HB10.out⟩
            case measure => simp [intOf]
          · rw [overB_no (by omega)]
            obtain ⟨z1, z2⟩ := long_no (n := Ly + 1) HB0.out hq1 (by omega)
            have HRX9 := Lib.hid (show Row w.heap.size w8 g T c (dcells (remX (f * a) (f * b) j) T) by rw [← z2]; exact hrow8)
            have HRQ9 := Lib.hid (show Row w.heap.size w8 gq K K (mcells 0 (f * a / (f * b)) j K) by rw [← mcells_down hjK, ← z1]; exact HRQ8.out)
            clear z1 z2 hov hrow8 hg8 HRX7 HRQ7 HYC7 HB7 hcq7 hfq7 HRQ8 hcq8 hfq8
            go_wp2
            go_roundw
            case rel => exact ⟨j, by omega, by go_num, HRX9.out, HRQ9.out, HYC8.out, HB8.out⟩
            case measure => simp [intOf]

theorem divide_any (B a b : Nat) (v u : Value) (w : World) (hB : B ≤ w.heap.size) (fa : Fit a) (hb : 0 < b) (hv : IsN B w v a) (hu : IsN B w u b) : Calls Try.prog 116 #[v, u] w (DivP (a / b) (a % b) w) := by
  obtain ⟨L, hL⟩ := lenOf_exists b
  by_cases hlt : a < b
  · exact div_less B a b v u w hB hlt hv hu
  · have h0 : L ≠ 0 := fun h => by have := (lenOf_zero_iff hL).2 h; omega
    by_cases h1 : L = 1
    · subst h1
      exact div_one B a b v u w hB fa (by omega) hL hv hu
    · exact div_long B a b (L - 2) L v u w hB fa (by omega) (by omega) hL hv hu
#print axioms divide_any
end Go.Proofs.Ytabalicembhjmaa
