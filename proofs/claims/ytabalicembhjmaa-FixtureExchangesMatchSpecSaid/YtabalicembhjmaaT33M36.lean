/- The contract of the reference's give. The contract of the reference's divide. -/
import Derived.Test.YtabalicembhjmaaT33M35

namespace Go.Proofs.Ytabalicembhjmaa
open Go.RowKit
set_option linter.unusedVariables false
set_option linter.unusedSimpArgs false

/-- what give leaves -/
def giveX (Z y j n : Nat) : Nat := lowHigh Z ((Z / BB ^ j + y) % BB ^ n) j
theorem giveX_start (Z y j n T : Nat) : mcells (giveX Z y j n) Z j T = dcells Z T := by
  refine mcells_eq fun p hp => ?_
  by_cases h : p < j
  · rw [mixd_low h]; exact lowHigh_dg_low _ _ h
  · exact mixd_high (by omega)
theorem giveX_end {Z y j n T : Nat} (hW : Z / BB ^ j < BB ^ n) : mcells (giveX Z y j n) Z (j + n) T = dcells (giveX Z y j n) T := by
  refine mcells_eq fun p hp => ?_
  by_cases h : p < j + n
  · exact mixd_low h
  · rw [mixd_high (by omega)]
    obtain ⟨k, rfl⟩ : ∃ k, p = j + k := ⟨p - j, by omega⟩
    unfold giveX
    rw [lowHigh_dg_high, ← dg_div, dg_zero_of_lt (lt_pow hW (by omega)), dg_zero_of_lt (lt_pow (Nat.mod_lt _ (BBp n)) (by omega))]
theorem giveX_dg {Z y j n i : Nat} (hi : i < n) : dg (giveX Z y j n) (j + i) = dg (Z / BB ^ j + y) i := by
  unfold giveX
  rw [lowHigh_dg_high, dg_mod hi]

def GiveP (base Z y j n g T cx : Nat) (w : World) (e : Ending) (w' : World) : Prop :=
  (∃ v, e = .returned v) ∧ Row base w' g T cx (dcells (giveX Z y j n) T) ∧ w.grownBy w' (some g)

set_option maxHeartbeats 8000000 in
set_option maxRecDepth 100000 in
theorem give_any (base Z y j N T g h cx cy : Nat) (w : World) (hW : Z / BB ^ j < BB ^ (N + 1)) (hy : y < BB ^ N) (hj : j + N < T) (hT : T ≤ 100) (hne : h ≠ g) (hh : h < w.heap.size)
    (hrow : Row base w g T cx (dcells Z T)) (hcy : ∀ i, i < N → w.cell? ⟨h, i, none⟩ = some (.int .i64 (dg y i : Nat))) :
    Calls Try.prog 131 #[.slice (some ⟨g, 0, none⟩) T cx, .slice (some ⟨h, 0, none⟩) N cy, .int .i64 j] w (GiveP base Z y j (N + 1) g T cx w) := by
  have HR0 := Lib.hid (show Row base w g T cx (mcells (giveX Z y j (N + 1)) Z (j + 0) T) by show Row _ _ _ _ _ (mcells _ _ j T); rw [giveX_start]; exact hrow)
  have HE := Lib.hid (giveX_end (y := y) (T := T) hW)
  have HY := Lib.hid hcy
  have Hyz := Lib.hid (show dg y N = 0 from dg_zero_of_lt hy)
  have Hne := Lib.hid hne
  clear hrow hcy hW hy hne
  go_enter Try.func131, Try.ntmps131
  go_wp2
  go_loopw [6, 7] (fun cc ii wr => ∃ i : Nat, i ≤ N + 1 ∧ ii = .int .i64 i ∧ cc = .int .i64 (carryP (Z / BB ^ j) y i : Nat) ∧ Row base wr g T cx (mcells (giveX Z y j (N + 1)) Z (j + i) T) ∧ w.grownBy wr (some g)) (fun _ ii _ => N + 1 - (intOf ii).toNat)
  case atStart => exact ⟨0, by omega, rfl, by rw [carryP_zero]; rfl, HR0.out, World.grownBy.refl _ _⟩
  case round =>
    obtain ⟨i, hi, rfl, rfl, hrow, hg⟩ := hrel
    have HR := Lib.hid hrow
    have HG := Lib.hid hg
    clear hrow hg HR0
    by_cases hiN : i < N + 1
    · have hTn : j + i < T := by omega
      have hco := HR.out.at hTn
      rw [mixd_high (Nat.le_refl _), ← dg_div] at hco
      have hfo := HR.out.free (j + i)
      obtain ⟨J, hJ⟩ : ∃ J : Nat, J = j + i := ⟨_, rfl⟩
      have HJ := Lib.hid hJ
      rw [← hJ] at hco hfo hTn
      have hJi : (i : Int) + (j : Int) = (J : Int) := by omega
      have HXD := Lib.hid (giveX_dg (Z := Z) (y := y) (j := j) hiN)
      have HD := Lib.hid (plus_dg (Z / BB ^ j) y i)
      have HC := Lib.hid (plus_carry (Z / BB ^ j) y i)
      have hc1 := carryP_le (Z / BB ^ j) y i
      have hx9 := dg_le9 (Z / BB ^ j) i
      clear hJ
      generalize hcn : carryP (Z / BB ^ j) y (i + 1) = cn at *
      have HCN := Lib.hid hcn
      generalize carryP (Z / BB ^ j) y i = c at *
      generalize dg (Z / BB ^ j) i = x at *
      generalize dg (Z / BB ^ j + y) i = d at *
      clear hcn
      by_cases hin : i < N
      · have hcy := (grown_cellN (o := i) HG.out hh (by intro e; injection e with e; exact Hne.out e)).trans (HY.out i hin)
        have hy9 := dg_le9 y i
        generalize dg y i = yd at *
        obtain ⟨s, hs⟩ : ∃ s : Nat, (x : Int) + (c : Int) + (yd : Int) = (s : Int) := ⟨x + c + yd, by omega⟩
        have hs9 : (s : Int) ≤ 2999999999 := by omega
        have hsn : c + x + yd = s := by omega
        rw [hsn] at HD HC
        have HM := Lib.hid (dig_emod HD.out)
        have HV := Lib.hid (dig_ediv HC.out)
        clear HD HC hsn
        go_wp2
        rw [HM.out, HV.out]
        exact ⟨⟨i + 1, by omega, by go_num, by rw [HCN.out], by rw [HJ.out, ← HXD.out]; exact HR.out.up (by omega), grown_trans1 HG.out (grown_set1 _ _ _ _)⟩, by simp [intOf] <;> omega⟩
      · obtain rfl : i = N := by omega
        have hy0 := Hyz.out
        rw [hy0, Nat.add_zero] at HD HC
        obtain ⟨s, hs⟩ : ∃ s : Nat, (x : Int) + (c : Int) = (s : Int) := ⟨x + c, by omega⟩
        have hs9 : (s : Int) ≤ 2999999999 := by omega
        have hsn : c + x = s := by omega
        rw [hsn] at HD HC
        have HM := Lib.hid (dig_emod HD.out)
        have HV := Lib.hid (dig_ediv HC.out)
        clear HD HC hsn hy0
        go_wp2
        rw [HM.out, HV.out]
        exact ⟨⟨i + 1, by omega, by go_num, by rw [HCN.out], by rw [HJ.out, ← HXD.out]; exact HR.out.up (by omega), grown_trans1 HG.out (grown_set1 _ _ _ _)⟩, by simp [intOf] <;> omega⟩
    · obtain rfl : i = N + 1 := by omega
      have HRE := Lib.hid (show Row base _ g T cx (dcells (giveX Z y j (N + 1)) T) by rw [← HE.out]; exact HR.out)
      generalize carryP (Z / BB ^ j) y (N + 1) = b at *
      clear HE HR
      go_wp2
      go_end0
      exact ⟨⟨_, rfl⟩, HRE.out, HG.out⟩
end Go.Proofs.Ytabalicembhjmaa

namespace Go.Proofs.Ytabalicembhjmaa
open Go.RowKit
set_option linter.unusedVariables false
set_option linter.unusedSimpArgs false

theorem own_below {w w' : World} {B base e size n : Nat} {v : Value} {xs : List Value} (h : w.ownsRow base e size v n xs) (hb : Below B w w') (hv : ∀ g, v.ownBlock = some g → g < B) : w'.ownsRow base e size v n xs := by
  refine ⟨h.1, ?_⟩
  rcases h.2 with h' | ⟨g, cap, cur, rfl, h1, h2, h3⟩
  · exact .inl h'
  · exact .inr ⟨g, cap, cur, rfl, h1, (hb.block g (hv g rfl)).trans h2, h3⟩
theorem own_grown {w w' : World} {base e size n : Nat} {r : Option Nat} {v : Value} {xs : List Value} (h : w.ownsRow base e size v n xs) (hg : w.grownBy w' r) (hv : v.ownBlock = none ∨ v.ownBlock ≠ r) : w'.ownsRow base e size v n xs := h.kept hg hv
theorem own_baseN {w : World} {base base' e size n : Nat} {v : Value} {xs : List Value} (h : w.ownsRow base e size v n xs) (hv : base' ≤ base) : w.ownsRow base' e size v n xs := by
  refine ⟨h.1, ?_⟩
  rcases h.2 with h' | ⟨g, cap, cur, rfl, h1, h2, h3⟩
  · exact .inl h'
  · exact .inr ⟨g, cap, cur, rfl, by omega, h2, h3⟩
theorem own_shape_pos {w : World} {base : Nat} {e : TypeId} {size : Nat} {v : Value} {n : Nat} {xs : List Value} (h : w.ownsRow base e size v n xs) (hn : 0 < n) : ∃ g cap, v = .slice (some ⟨g, 0, none⟩) n cap := by
  rcases h.2 with ⟨rfl, rfl⟩ | ⟨g, cap, cur, rfl, _⟩
  · omega
  · exact ⟨_, _, rfl⟩
/-- append of one cell to an own row: where the row lies behind it -/
theorem append_where {w : World} {base n g cap c : Nat} {xs : List Value} {a : Addr} {u : Value} (ty : TypeId) (hown : w.ownsRow base 3 1 (.slice (some ⟨g, 0, none⟩) n cap) n xs)
    (hnews : ∀ j x, [u][j]? = some x → w.cell? (a.add j) = some x) (h1 : ∀ x ∈ [u], x.oneCell' = true) (hn : n ≤ 100) (hbase : base ≤ w.heap.size) :
    ∃ g' cap' w', (Builtin.append_ #[126, 126] ty #[.slice (some ⟨g, 0, none⟩) n cap, .slice (some a) 1 c]).run Try.prog w = .ok (.slice (some ⟨g', 0, none⟩) (n + 1) cap') w' ∧
      w'.ownsRow base 3 1 (.slice (some ⟨g', 0, none⟩) (n + 1) cap') (n + 1) (xs ++ [u]) ∧ w.grownBy w' (some g) ∧ (g' = g ∨ g' = w.heap.size) := by
  obtain ⟨i0, hi, hz0, hz1, hz2⟩ := info_parts int_info
  obtain ⟨v', w', hr, o1, o2, _⟩ := run_append_own (P := Try.prog) w base 126 ty 3 i0 (.int .i64 0) 1 8 Try.underlying126 hi hz0 hz1 hz2 rfl (by decide) _ n xs hown a 1 c [u] rfl hnews h1 (by unfold maxLen; omega) (by omega) hbase
  obtain ⟨g', cap', rfl⟩ := own_shape_pos o1 (by omega)
  refine ⟨g', cap', w', hr, o1, o2, ?_⟩
  rcases hown.2 with ⟨h', _⟩ | ⟨g2, cap2, cur, h', hbg, hg, hnc, hcm, hcs, htake⟩
  · simp at h'
  · injection h' with e1 e2 e3
    injection e1 with e1
    injection e1 with e1
    subst e1 e3
    by_cases hroom : n + 1 ≤ cap
    · obtain ⟨w2, hr2, _⟩ := run_append_fits (P := Try.prog) w base 126 ty 3 i0 1 Try.underlying126 hi hz1 g n cap xs hown a 1 c [u] rfl hnews h1 hroom
      rw [hr] at hr2
      injection hr2 with hr2
      injection hr2 with hr2
      injection hr2 with hr2
      injection hr2 with hr2
      exact .inl hr2
    · have holds : ∀ j u, xs[j]? = some u → w.cell? ((⟨g, 0, none⟩ : Addr).add j) = some u := hown.cells (g := g) rfl
      have hr2 := run_append_grow (P := Try.prog) w 126 ty 3 i0 (.int .i64 0) Try.underlying126 hi hz0 ⟨g, 0, none⟩ n cap xs (by rw [hz1]; exact hown.1) holds a 1 c [u] (by rw [hz1]; rfl) hnews (by omega) (by omega) (growslice_fits (by omega) (by rw [hz2]; omega))
      rw [hr] at hr2
      injection hr2 with hr2
      injection hr2 with hr2
      injection hr2 with hr2
      injection hr2 with hr2
      exact .inr hr2
theorem wpList_append_where (w : World) {ops : Array Oper} {rest : List Oper} {o : Oper} {a : Act} {Q : Exit → Act → World → Prop} (hgd : o.guard = none) (s x : Operand)
    (ho : o.op = .call { callee := .builtin .append, args := #[s, x], argTypes := #[126, 126] })
    (base n g cap c : Nat) (xs : List Value) (ad : Addr) (u : Value) (hs : a.eval s = .slice (some ⟨g, 0, none⟩) n cap) (hx : a.eval x = .slice (some ad) 1 c)
    (hown : w.ownsRow base 3 1 (.slice (some ⟨g, 0, none⟩) n cap) n xs)
    (hnews : ∀ j x, [u][j]? = some x → w.cell? (ad.add j) = some x) (h1 : ∀ x ∈ [u], x.oneCell' = true) (hn : n ≤ 100) (hbase : base ≤ w.heap.size)
    (h : ∀ g' cap' w', w'.ownsRow base 3 1 (.slice (some ⟨g', 0, none⟩) (n + 1) cap') (n + 1) (xs ++ [u]) → w.grownBy w' (some g) → (g' = g ∨ g' = w.heap.size) → wpList Try.prog ops Q rest (a.put o.dst (.slice (some ⟨g', 0, none⟩) (n + 1) cap')) w') : wpList Try.prog ops Q (o :: rest) a w := by
  refine wpList_plain hgd fun K hK' => ?_
  obtain ⟨g', cap', w', hrun, r1, r2, r3⟩ := append_where (c := c) o.type hown hnews h1 hn hbase
  unfold Oper.wp
  simp [execOp, ho, resolve, invoke, builtin, hs, hx, hrun, Result.andThen]
  exact hK' _ _ (h g' cap' w' r1 r2 r3)

/-- quotient and rest, as numbers anywhere -/
def DivP (q r : Nat) (w : World) (e : Ending) (w' : World) : Prop := ∃ v1 v2, e = .returned (.tuple #[v1, v2]) ∧ IsN w'.heap.size w' v1 q ∧ IsN w'.heap.size w' v2 r ∧ Below w.heap.size w w'
theorem isN_nil (B : Nat) (w : World) : IsN B w (.slice none 0 0) 0 := ⟨0, lenOf_zero, none, 0, rfl, by omega, by omega, by decide, by omega⟩
theorem isN_own {w : World} {base e n L : Nat} {v : Value} (h : w.ownsRow base e 1 v L (dcells n L)) (hl : LenOf n L) : IsN w.heap.size w v n := ⟨L, hl, RowN.of_own h hl.1⟩
theorem ordV_ge {a b : Nat} (h : b ≤ a) : 0 ≤ ordV a b := by
  unfold ordV
  rw [if_neg (by omega)]
  split <;> omega

def OrdQ (o : Int) (w : World) (e : Ending) (w' : World) : Prop := e = .returned (.int .i64 o) ∧ Below w.heap.size w w'
theorem order_o (B n m : Nat) (o : Int) (v u : Value) (w : World) (hB : B ≤ w.heap.size) (ho : ordV n m = o) (hv : IsN B w v n) (hu : IsN B w u m) : Calls Try.prog 102 #[v, u] w (OrdQ o w) := by
  subst ho
  exact order_any B n m v u w hB hv hu

set_option maxHeartbeats 4000000 in
set_option maxRecDepth 100000 in
theorem div_less (B a b : Nat) (v u : Value) (w : World) (hB : B ≤ w.heap.size) (hlt : a < b) (hv : IsN B w v a) (hu : IsN B w u b) : Calls Try.prog 116 #[v, u] w (DivP (a / b) (a % b) w) := by
  have HO := Lib.hid (order_o B a b (-1) v u w hB (ordV_less hlt) hv hu)
  have HV := Lib.hid hv
  have HQ := Lib.hid (Nat.div_eq_of_lt hlt)
  have HR := Lib.hid (Nat.mod_eq_of_lt hlt)
  obtain ⟨La, hLa, ao, cap, rfl, _⟩ := hv
  obtain ⟨Lb, hLb, bo, cap2, rfl, _⟩ := hu
  clear hlt hLa hLb
  go_enter Try.func116, Try.ntmps116
  go_wp2_with (go_at_call 102; refine HO.out.mono ?_; rintro e w1 ⟨rfl, hb1⟩)
  have HB1 := Lib.hid hb1
  clear hb1
  go_wp2
  go_ret2
  have hb := HB1.out
  exact ⟨_, _, rfl, by rw [HQ.out]; exact isN_nil _ _, by rw [HR.out]; exact (HV.out.below (hb.mono hB)).more (by have := hb.size; omega), hb⟩

set_option maxHeartbeats 4000000 in
set_option maxRecDepth 100000 in
theorem div_one (B a b : Nat) (v u : Value) (w : World) (hB : B ≤ w.heap.size) (fa : Fit a) (hle : b ≤ a) (hb1 : LenOf b 1) (hv : IsN B w v a) (hu : IsN B w u b) : Calls Try.prog 116 #[v, u] w (DivP (a / b) (a % b) w) := by
  obtain ⟨o, ho⟩ : ∃ o, ordV a b = o := ⟨_, rfl⟩
  have HO := Lib.hid (order_o B a b o v u w hB ho hv hu)
  have ho0 : 0 ≤ o := by rw [← ho]; exact ordV_ge hle
  have hod : decide (o < 0) = false := by simpa using ho0
  obtain ⟨La, hLa, ao, cap, rfl, c1, c2, hn, hx⟩ := hv
  obtain ⟨Lb, hLb, bo, cap2, rfl, d1, d2, hm, hy⟩ := hu
  obtain rfl := lenOf_unique hLb hb1
  have hl := fa.len hLa
  obtain ⟨b0, off, rfl, hbb, hcy⟩ := hy (by omega)
  have hc0 := hcy 0 (by omega)
  have hbd : dg b 0 = b := by
    unfold dg
    rw [Nat.pow_zero, Nat.div_one]
    exact Nat.mod_eq_of_lt (by simpa using hb1.1)
  rw [hbd] at hc0
  have hb9 : (b : Int) ≤ 999999999 := by have := hb1.1; unfold BB at this; omega
  have hb0 : (0 : Int) < (b : Int) := by have := hb1.2 (by omega); simp at this; omega
  have HRW := Lib.hid (show RowN B w (.slice ao La cap) a La from ⟨_, _, rfl, c1, c2, hn, hx⟩)
  clear hle hLa hLb hn hx hm hy hcy hbd ho hb1 fa
  go_enter Try.func116, Try.ntmps116
  go_wp2_with fail
  refine HO.out.mono ?_
  rintro e w1 ⟨rfl, hb1⟩
  have HB1 := Lib.hid hb1
  have hc1 := (hb1.cell (p := ⟨b0, off, none⟩) (by show b0 < _; omega)).trans hc0
  have hsz := hb1.size
  have HR1 := Lib.hid (HRW.out.below (hb1.mono hB))
  clear hb1 hc0
  go_wp2_with fail
  refine (short_any B a b La _ _ (by omega) (by omega) hb0 hb9 HR1.out).mono ?_
  rintro e w2 ⟨v2, L2, rfl, hl2, ho2, hb2⟩
  have HL2 := Lib.hid hl2
  have HO2 := Lib.hid ho2
  have HB2 := Lib.hid hb2
  obtain ⟨ao2, cap3, rfl⟩ := own_shape1 ho2
  have hr9 : a % b ≤ 9223372036854775807 := by have := Nat.mod_lt a (show 0 < b by omega); omega
  clear hl2 ho2 hb2
  generalize a % b = r at *
  go_wp2_with fail
  refine (small_any r _ hr9).mono ?_
  rintro e w3 ⟨v3, L3, rfl, hl3, ho3, hb3⟩
  have hn3 := isN_own ho3 hl3
  clear ho3
  have HN3 := Lib.hid hn3
  have HB3 := Lib.hid hb3
  obtain ⟨L4, _, ao4, cap4, rfl, _⟩ := hn3
  clear hb3
  go_wp2
  go_ret2
  refine ⟨_, _, rfl, ?_, HN3.out, ?_⟩
  · exact isN_own (own_below HO2.out HB3.out (fun g hg => (HO2.out.lt g hg).2)) HL2.out
  · exact (HB1.out.trans (HB2.out.mono hsz)).trans (HB3.out.mono (by have := HB2.out.size; omega))
end Go.Proofs.Ytabalicembhjmaa
