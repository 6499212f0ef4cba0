/- The contract of order: the plain laws first. Rows of digits that are written place by place, as cells of an own row; rows of the naturals that come as arguments, read at a later world. The contract of the reference's times. -/
import Derived.Test.YtabalicembhjmaaT33M32
import Derived.Deep.QuietTactic
import Derived.BigQuiet

namespace Go.Proofs.Ytabalicembhjmaa
open Go.RowKit
set_option linter.unusedVariables false
set_option linter.unusedSimpArgs false

/-- what order answers -/
def ordV (n m : Nat) : Int := if n < m then -1 else if m < n then 1 else 0
theorem len_less {n m L M : Nat} (h : LenOf n L) (k : LenOf m M) (hl : L < M) : n < m := by
  have h1 := k.2 (by omega)
  have h2 : BB ^ L ≤ BB ^ (M - 1) := Nat.pow_le_pow_right BB_pos (by omega)
  have := h.1
  omega
theorem ordV_less {n m : Nat} (h : n < m) : ordV n m = -1 := if_pos h
theorem ordV_more {n m : Nat} (h : m < n) : ordV n m = 1 := by unfold ordV; rw [if_neg (by omega), if_pos h]
theorem ordV_same (n : Nat) : ordV n n = 0 := by unfold ordV; rw [if_neg (by omega), if_neg (by omega)]
theorem qN_lt_of {n m i : Nat} (h : qN n i < qN m i) : n < m := by
  unfold qN at h
  by_cases hlt : n < m
  · exact hlt
  · have := Nat.div_le_div_right (c := BB ^ i) (Nat.le_of_not_lt hlt)
    omega
theorem ord_less {n m i : Nat} (h : qN n (i + 1) = qN m (i + 1)) (hd : dg n i < dg m i) : n < m := by
  have h1 := qN_step n i
  have h2 := qN_step m i
  rw [h] at h1
  exact qN_lt_of (i := i) (by omega)
theorem ord_same {n m i : Nat} (h : qN n (i + 1) = qN m (i + 1)) (hd : dg n i = dg m i) : qN n i = qN m i := by
  rw [qN_step n i, qN_step m i, h, hd]
theorem ord_end {n m : Nat} (h : qN n 0 = qN m 0) : n = m := by rwa [qN_zero, qN_zero] at h

def OrdP (n m : Nat) (w : World) (e : Ending) (w' : World) : Prop := e = .returned (.int .i64 (ordV n m)) ∧ Below w.heap.size w w'
set_option maxHeartbeats 2000000 in
set_option maxRecDepth 100000 in
theorem order_any (B n m : Nat) (v u : Value) (w : World) (hB : B ≤ w.heap.size) (hv : IsN B w v n) (hu : IsN B w u m) : Calls Try.prog 102 #[v, u] w (OrdP n m w) := by
  obtain ⟨L, hL, ao, cap, rfl, c1, c2, hn, hx⟩ := hv
  obtain ⟨M, hM, bo, dap, rfl, d1, d2, hm, hy⟩ := hu
  have HX := Lib.hid hx
  have HY := Lib.hid hy
  have HT := Lib.hid (fun e : L = M => (qN_top hn).trans (qN_top (e ▸ hm)).symm)
  have HL := Lib.hid (fun e : L < M => ordV_less (len_less hL hM e))
  have HM := Lib.hid (fun e : M < L => ordV_more (len_less hM hL e))
  clear hx hy hn hm hL hM
  by_cases hlt : L < M
  · have hv := HL.out hlt
    unfold OrdP
    rw [hv]
    clear HL HM HT hv
    go_enter Try.func102, Try.ntmps102
    go_wp2
    go_ret
    exact ⟨rfl, Below.refl _ _⟩
  · by_cases hgt : M < L
    · have hv := HM.out hgt
      unfold OrdP
      rw [hv]
      clear HL HM HT hv
      go_enter Try.func102, Try.ntmps102
      go_wp2
      go_ret
      exact ⟨rfl, Below.refl _ _⟩
    · obtain rfl : L = M := by omega
      have HT2 := Lib.hid (HT.out rfl)
      clear HL HM HT hlt hgt
      go_enter Try.func102, Try.ntmps102
      go_wp2
      go_loopw [5] (fun x wr => ∃ i : Nat, i ≤ L ∧ x = .int .i64 ((i : Int) - 1) ∧ Hid (qN n i = qN m i) ∧ Below w.heap.size w wr) (fun x _ => (intOf x + 1).toNat)
      case atStart => exact ⟨L, Nat.le_refl _, by go_num, HT2, Below.refl _ _⟩
      case round =>
        rename_i wr
        obtain ⟨i, hi, rfl, hq, hbw⟩ := hrel
        have HW := Lib.hid hbw
        by_cases h0 : i = 0
        · subst h0
          have HE := Lib.hid (show ordV n m = 0 by rw [ord_end hq.out]; exact ordV_same m)
          go_wp2
          go_ret
          exact ⟨by rw [HE.out]; rfl, by first | exact HW.out | exact HW.out.drew | exact HW.out.drew.drew⟩
        · obtain ⟨i, rfl⟩ : ∃ j, i = j + 1 := ⟨i - 1, by omega⟩
          obtain ⟨b, off, rfl, hb, hc⟩ := HX.out (by omega)
          obtain ⟨b', off', rfl, hb', hc'⟩ := HY.out (by omega)
          have h1 := (hbw.cell (p := ⟨b, off + i, none⟩) (Nat.lt_of_lt_of_le hb hB)).trans (hc i (by omega))
          have h2 := (hbw.cell (p := ⟨b', off' + i, none⟩) (Nat.lt_of_lt_of_le hb' hB)).trans (hc' i (by omega))
          clear hbw
          have e1 : ((i + 1 : Nat) : Int) - 1 = (i : Nat) := by omega
          rw [e1]
          have HA := Lib.hid (fun h : dg n i < dg m i => ordV_less (ord_less hq.out h))
          have HB := Lib.hid (fun h : dg m i < dg n i => ordV_more (ord_less hq.out.symm h))
          have HC := Lib.hid (fun h : dg n i = dg m i => ord_same hq.out h)
          clear hc hc' hq e1
          generalize dg n i = x at *
          generalize dg m i = y at *
          by_cases hxy : x = y
          · subst hxy
            have HC2 := Lib.hid (HC.out rfl)
            clear HA HB HC
            go_wp2_with go_region
            all_goals go_roundw
            all_goals (first | exact ⟨i, by omega, by go_num, HC2, by first | exact HW.out | exact HW.out.drew⟩ | (simp [intOf]; done) | (simp [intOf]; omega))
          · by_cases hl : x < y
            · have HE := Lib.hid (HA.out hl)
              clear HA HB HC
              go_wp2_with go_region
              all_goals go_ret
              all_goals exact ⟨by rw [HE.out]; rfl, by first | exact HW.out | exact HW.out.drew | exact HW.out.drew.drew⟩
            · have HE := Lib.hid (HB.out (by omega))
              clear HA HB HC
              go_wp2_with go_region
              all_goals go_ret
              all_goals exact ⟨by rw [HE.out]; rfl, by first | exact HW.out | exact HW.out.drew | exact HW.out.drew.drew⟩
end Go.Proofs.Ytabalicembhjmaa

namespace Go.Proofs.Ytabalicembhjmaa
open Go.RowKit
set_option linter.unusedVariables false
set_option linter.unusedSimpArgs false

/-- the cells of digits of A below place j, of B from there on -/
def mcells (A B j L : Nat) : List Value := (List.range L).map fun i => .int .i64 (mixd A B j i : Nat)
theorem mcells_len (A B j L : Nat) : (mcells A B j L).length = L := by simp [mcells]
theorem mcells_at {A B j L i : Nat} (h : i < L) : (mcells A B j L)[i]? = some (.int .i64 (mixd A B j i : Nat)) := by simp [mcells, h]
theorem mcells_up {A B j L : Nat} (h : j < L) : (mcells A B j L).set j (.int .i64 (dg A j : Nat)) = mcells A B (j + 1) L := by
  apply List.ext_getElem?
  intro i
  rw [List.getElem?_set]
  by_cases hi : i < L
  · rw [mcells_at hi, mcells_len]
    by_cases e : j = i
    · subst e
      rw [if_pos rfl, if_pos hi, mcells_at hi, mixd_low (by omega)]
    · rw [if_neg e, mcells_at hi]
      unfold mixd
      by_cases h2 : i < j
      · rw [if_pos h2, if_pos (by omega)]
      · rw [if_neg h2, if_neg (by omega)]
  · have h1 : ∀ j, (mcells A B j L)[i]? = none := fun j => List.getElem?_eq_none (by rw [mcells_len]; omega)
    rw [h1, h1]
    rw [if_neg (by omega)]
theorem mcells_down {A B j L : Nat} (h : j < L) : (mcells A B (j + 1) L).set j (.int .i64 (dg B j : Nat)) = mcells A B j L := by
  apply List.ext_getElem?
  intro i
  rw [List.getElem?_set]
  by_cases hi : i < L
  · rw [mcells_at hi, mcells_len]
    by_cases e : j = i
    · subst e
      rw [if_pos rfl, if_pos hi, mcells_at hi, mixd_high (by omega)]
    · rw [if_neg e, mcells_at hi]
      unfold mixd
      by_cases h2 : i < j
      · rw [if_pos h2, if_pos (by omega)]
      · rw [if_neg h2, if_neg (by omega)]
  · have h1 : ∀ j, (mcells A B j L)[i]? = none := fun j => List.getElem?_eq_none (by rw [mcells_len]; omega)
    rw [h1, h1]
    rw [if_neg (by omega)]
theorem mcells_eq {A B j L C : Nat} (h : ∀ i, i < L → mixd A B j i = dg C i) : mcells A B j L = dcells C L := by
  unfold mcells dcells
  exact List.map_congr_left fun i hi => by rw [h i (List.mem_range.1 hi)]
theorem dcells_eq {A C L : Nat} (h : ∀ i, i < L → dg A i = dg C i) : dcells A L = dcells C L := by
  unfold dcells
  exact List.map_congr_left fun i hi => by rw [h i (List.mem_range.1 hi)]
theorem mcells_all {A B j L : Nat} (h : L ≤ j) : mcells A B j L = dcells A L := mcells_eq fun i hi => mixd_low (by omega)
theorem mcells_none {A B L : Nat} : mcells A B 0 L = dcells B L := mcells_eq fun i hi => mixd_high (by omega)
theorem mcells_cong {A B A' B' j j' L : Nat} (h : ∀ i, i < L → mixd A B j i = mixd A' B' j' i) : mcells A B j L = mcells A' B' j' L := by
  unfold mcells
  exact List.map_congr_left fun i hi => by rw [h i (List.mem_range.1 hi)]
theorem dcells_at {A L i : Nat} (h : i < L) : (dcells A L)[i]? = some (.int .i64 (dg A i : Nat)) := by simp [dcells, h]
/-- an own row of T places, at its block's head -/
def Row (base : Nat) (w : World) (g T cap : Nat) (xs : List Value) : Prop := w.ownsRow base 3 1 (.slice (some ⟨g, 0, none⟩) T cap) T xs
theorem Row.at {base g T cap A B j i : Nat} {w : World} (h : Row base w g T cap (mcells A B j T)) (hi : i < T) : w.cell? ⟨g, i, none⟩ = some (.int .i64 (mixd A B j i : Nat)) :=
  (World.ownsRow.cellAt h i (by omega)).trans (mcells_at hi)
theorem Row.atD {base g T cap A i : Nat} {w : World} (h : Row base w g T cap (dcells A T)) (hi : i < T) : w.cell? ⟨g, i, none⟩ = some (.int .i64 (dg A i : Nat)) :=
  (World.ownsRow.cellAt h i (by omega)).trans (dcells_at hi)
theorem Row.free {base g T cap : Nat} {w : World} {xs : List Value} (h : Row base w g T cap xs) (i : Nat) : w.frozen? ⟨g, i, none⟩ = false := World.ownsRow.frozenAt h i
theorem Row.up {base g T cap A B j : Nat} {w : World} (h : Row base w g T cap (mcells A B j T)) (hj : j < T) : Row base (w.setCell ⟨g, j, none⟩ (.int .i64 (dg A j : Nat))) g T cap (mcells A B (j + 1) T) := by
  have := (World.ownsRow.stored h j (.int .i64 (dg A j : Nat))).1
  rwa [mcells_up hj] at this
theorem Row.down {base g T cap A B j : Nat} {w : World} (h : Row base w g T cap (mcells A B (j + 1) T)) (hj : j < T) : Row base (w.setCell ⟨g, j, none⟩ (.int .i64 (dg B j : Nat))) g T cap (mcells A B j T) := by
  have := (World.ownsRow.stored h j (.int .i64 (dg B j : Nat))).1
  rwa [mcells_down hj] at this
theorem Row.block {base g T cap : Nat} {w : World} {xs : List Value} (h : Row base w g T cap xs) : base ≤ g ∧ g < w.heap.size := World.ownsRow.lt h g rfl
theorem Row.drawn {base g T cap n : Nat} {w : World} {xs : List Value} (h : Row base w g T cap xs) : Row base (w.drewN n) g T cap xs := h
theorem dcells_zero (T : Nat) : List.replicate T (Value.int .i64 0) = dcells 0 T := by
  apply List.ext_getElem?
  intro i
  by_cases hi : i < T
  · rw [dcells_at hi]
    simp [hi, dg]
  · rw [List.getElem?_eq_none (by simp; omega), List.getElem?_eq_none (by rw [dcells_len]; omega)]
theorem below_drewN {B n : Nat} {a w : World} (h : Below B a w) : Below B a (w.drewN n) := ⟨h.os, h.tape, h.output, h.size, h.block⟩
theorem grown_set1 (w : World) (g i : Nat) (u : Value) : w.grownBy (w.setCell ⟨g, i, none⟩ u) (some g) :=
  ⟨rfl, rfl, rfl, by simp, fun k _ hk => heap_setCell_other w ⟨g, i, none⟩ k u (fun e => hk (by simp [e]))⟩
theorem grown_trans1 {w w1 w2 : World} {r : Option Nat} (h : w.grownBy w1 r) (k : w1.grownBy w2 r) : w.grownBy w2 r :=
  ⟨k.os.trans h.os, k.tape.trans h.tape, k.output.trans h.output, Nat.le_trans h.size k.size, fun j hj hn => (k.block j (Nat.lt_of_lt_of_le hj h.size) hn).trans (h.block j hj hn)⟩
theorem grown_cellN {w w' : World} {r : Option Nat} (h : w.grownBy w' r) {b o : Nat} (hb : b < w.heap.size) (hn : some b ≠ r) : w'.cell? ⟨b, o, none⟩ = w.cell? ⟨b, o, none⟩ := World.cell?_of_block (a := ⟨b, o, none⟩) (h.block b hb hn)
theorem grown_drewN {w w' : World} {r : Option Nat} {n : Nat} (h : w.grownBy w' r) : w.grownBy (w'.drewN n) r := ⟨h.os, h.tape, h.output, h.size, h.block⟩
theorem grown_drewN' {w w' : World} {r : Option Nat} {n : Nat} (h : (w.drewN n).grownBy w' r) : w.grownBy w' r := ⟨h.os, h.tape, h.output, h.size, h.block⟩
end Go.Proofs.Ytabalicembhjmaa

namespace Go.Proofs.Ytabalicembhjmaa
open Go.RowKit
set_option linter.unusedVariables false
set_option linter.unusedSimpArgs false

/-- what the outer loop has done behind i places -/
def timS (n m i : Nat) : Nat := n % BB ^ i * m
theorem timS_zero (n m : Nat) : timS n m 0 = 0 := by simp [timS, Nat.mod_one]
theorem timS_all {n m L : Nat} (h : n < BB ^ L) : timS n m L = n * m := by unfold timS; rw [Nat.mod_eq_of_lt h]
theorem timS_succ (n m i : Nat) : timS n m (i + 1) = timS n m i + dg n i * m * BB ^ i := row_next n m i
theorem timS_low {n m M i : Nat} (hm : m < BB ^ M) : timS n m i / BB ^ i < BB ^ M := low_lt hm
theorem timS_dg (n m i k : Nat) : dg (timS n m (i + 1)) (i + k) = (dg (timS n m i) (i + k) + accC (timS n m i / BB ^ i) m (dg n i) k + dg n i * dg m k) % BB := by
  rw [timS_succ, dg_add_at, accC_dg, dg_div]
theorem timS_carry (n m i k : Nat) : accC (timS n m i / BB ^ i) m (dg n i) (k + 1) = (dg (timS n m i) (i + k) + accC (timS n m i / BB ^ i) m (dg n i) k + dg n i * dg m k) / BB := by
  rw [accC_succ, dg_div]
/-- where the inner loop ends, the row is that of the next place -/
theorem timS_end {n m M i k T : Nat} (hm : m < BB ^ M) (hk : M ≤ k) (hc : accC (timS n m i / BB ^ i) m (dg n i) k = 0) : mcells (timS n m (i + 1)) (timS n m i) (i + k) T = dcells (timS n m (i + 1)) T := by
  refine mcells_eq fun p hp => ?_
  by_cases h : p < i + k
  · exact mixd_low h
  · rw [mixd_high (by omega)]
    have h1 : timS n m i / BB ^ i < BB ^ k := Nat.lt_of_lt_of_le (timS_low hm) (pow_mono hk)
    have h2 := acc_all h1 (Nat.lt_of_lt_of_le hm (pow_mono hk)) hc
    obtain ⟨q, rfl⟩ : ∃ q, p = i + q := ⟨p - i, by omega⟩
    rw [timS_succ, dg_add_at, dg_zero_of_lt (Nat.lt_of_lt_of_le h2 (pow_mono (by omega))), ← dg_div, dg_zero_of_lt (Nat.lt_of_lt_of_le h1 (pow_mono (by omega)))]
theorem timS_start {n m i T : Nat} : mcells (timS n m (i + 1)) (timS n m i) i T = dcells (timS n m i) T := by
  refine mcells_eq fun p hp => ?_
  by_cases h : p < i
  · rw [mixd_low h, timS_succ, dg_add_high _ _ _ _ h]
  · exact mixd_high (by omega)
theorem timS_lt {n m L M : Nat} (hn : n < BB ^ L) (hm : m < BB ^ M) : n * m < BB ^ (L + M + 1) := by
  have h1 : n * m ≤ BB ^ L * BB ^ M := Nat.mul_le_mul (Nat.le_of_lt hn) (Nat.le_of_lt hm)
  rw [← Nat.pow_add] at h1
  have h2 : BB ^ (L + M) < BB ^ (L + M + 1) := Nat.pow_lt_pow_right (by decide) (by omega)
  omega

theorem mul_le9 {x y : Nat} (hx : (x : Int) ≤ 999999999) (hy : (y : Int) ≤ 999999999) : x * y ≤ 999999998000000001 := by
  have h1 : x ≤ 999999999 := by omega
  have h2 : y ≤ 999999999 := by omega
  exact Nat.mul_le_mul h1 h2
theorem tim_sum {o c x y : Nat} (ho : (o : Int) ≤ 999999999) (hc : c ≤ x) (hx : (x : Int) ≤ 999999999) (hy : (y : Int) ≤ 999999999) : wrap64 ((o : Int) + (c : Int) + wrap64 ((x : Int) * (y : Int))) = ((o + c + x * y : Nat) : Int) := by
  have h := mul_le9 hx hy
  rw [← Int.natCast_mul]
  generalize x * y = p at *
  have h1 : wrap64 (p : Int) = (p : Int) := IntWalk.wrap64_in _ ⟨by omega, by omega⟩
  rw [h1, IntWalk.wrap64_in _ ⟨by omega, by omega⟩]
  omega
theorem dig_mod {S d : Nat} (h : d = S % BB) : Int.tmod (S : Int) 1000000000 = (d : Int) := by
  rw [h]
  unfold BB
  exact tmod_nat S 1000000000
theorem dig_div {S d : Nat} (h : d = S / BB) : Int.tdiv (S : Int) 1000000000 = (d : Int) := by
  rw [h]
  unfold BB
  exact tdiv_nat S 1000000000
theorem dig_emod {S d : Nat} (h : d = S % BB) : (S : Int) % 1000000000 = (d : Int) := by
  rw [h]
  unfold BB
  omega
theorem dig_ediv {S d : Nat} (h : d = S / BB) : (S : Int) / 1000000000 = (d : Int) := by
  rw [h]
  unfold BB
  omega
theorem carry_small {o c x y cn : Nat} (ho : (o : Int) ≤ 999999999) (hc : c ≤ x) (hx : (x : Int) ≤ 999999999) (hy : (y : Int) ≤ 999999999) (h : cn = (o + c + x * y) / BB) : wrap64 (cn : Int) = (cn : Int) := by
  have h2 := mul_le9 hx hy
  unfold BB at h
  exact IntWalk.wrap64_in _ ⟨by omega, by omega⟩

set_option maxHeartbeats 4000000 in
set_option maxRecDepth 100000 in
theorem ntimes_any (B n m : Nat) (v u : Value) (w : World) (hB : B ≤ w.heap.size) (fn : Fit n) (fm : Fit m) (hv : IsN B w v n) (hu : IsN B w u m) : Calls Try.prog 99 #[v, u] w (NewO w.heap.size (n * m) w) := by
  obtain ⟨L, hL, ao, cap, rfl, c1, c2, hn, hx⟩ := hv
  obtain ⟨M, hM, bo, dap, rfl, d1, d2, hm, hy⟩ := hu
  have hl := fn.len hL
  have hml := fm.len hM
  have HX := Lib.hid hx
  have HY := Lib.hid hy
  have Hn := Lib.hid hn
  have Hm := Lib.hid hm
  clear hx hy hn hm hL hM fn fm
  obtain ⟨i0, hi, hz0, hz1, hz2⟩ := info_parts int_info
  have Hi := Lib.hid hi
  have Hz0 := Lib.hid hz0
  have Hz1 := Lib.hid hz1
  have Hz2 := Lib.hid hz2
  clear hi hz0 hz1 hz2
  obtain ⟨T, hT⟩ : ∃ T : Nat, T = L + M + 1 := ⟨_, rfl⟩
  have HT := Lib.hid hT
  have hTi : (L : Int) + (M : Int) + 1 = (T : Int) := by omega
  clear hT
  go_enter Try.func99, Try.ntmps99
  go_wp2_with (at_make; refine wpList_make_full _ rfl _ _ 126 rfl w.heap.size 3 i0 (.int .i64 0) 1 Try.underlying126 Hi.out Hz0.out Hz1.out .i64 .i64 _ _ T rfl rfl ?c1 ?c2 ?c3 ?c4 (Nat.le_refl _) ?_)
  case c1 => rfl
  case c2 => rfl
  case c3 => rw [HT.out, Hz2.out]; omega
  case c4 => rw [HT.out]; unfold maxLen; omega
  intro w1 hown1 hg1
  rw [toList_madeCells_one, dcells_zero] at hown1
  have HO1 := Lib.hid (show Row w.heap.size w1 w.heap.size T T (dcells 0 T) from hown1)
  have HB1 := Lib.hid ((Below.refl w.heap.size w).grown hg1 (Nat.le_refl _) (by simp))
  clear hown1 hg1
  go_wp2
  go_loopw [19] (fun t wr => ∃ i : Nat, i ≤ L ∧ t = .int .i64 i ∧ Row w.heap.size wr w.heap.size T T (dcells (timS n m i) T) ∧ Below w.heap.size w wr) (fun t _ => L - (intOf t).toNat)
  case atStart => exact ⟨0, by omega, rfl, by rw [timS_zero]; exact HO1.out, HB1.out⟩
  case round =>
    rename_i wr
    obtain ⟨i, hi, rfl, hrow, hb⟩ := hrel
    have HR := Lib.hid hrow
    have HB := Lib.hid hb
    clear hrow hb HO1 HB1
    obtain ⟨wo, rfl⟩ : ∃ wo : World, wo = wr := ⟨_, rfl⟩
    by_cases hiL : i < L
    · have HR2 := Lib.hid (show Row w.heap.size wo w.heap.size T T (mcells (timS n m (i + 1)) (timS n m i) (i + 0) T) by show Row _ _ _ _ _ (mcells _ _ i T); rw [timS_start]; exact HR.out)
      obtain ⟨b, off, rfl, hbb, hcx⟩ := HX.out (by omega)
      have HCX := Lib.hid (hcx i hiL)
      have hx9 := dg_le9 n i
      have hd9 := dg_lt n i
      clear hcx HR
      go_wp2
      go_loopw [7, 8] (fun c kk wr => ∃ k : Nat, k ≤ M + 1 ∧ kk = .int .i64 k ∧ c = .int .i64 (accC (timS n m i / BB ^ i) m (dg n i) k : Nat) ∧ Row w.heap.size wr w.heap.size T T (mcells (timS n m (i + 1)) (timS n m i) (i + k) T) ∧ Below w.heap.size w wr) (fun _ kk _ => M + 2 - (intOf kk).toNat)
      case atStart => exact ⟨0, by omega, rfl, by rw [accC_zero]; rfl, HR2.out, HB.out⟩
      case round =>
        rename_i wr
        obtain ⟨k, hk, rfl, rfl, hrow, hb⟩ := hrel
        have HR := Lib.hid hrow
        have HBr := Lib.hid hb
        have HD := Lib.hid (timS_dg n m i k)
        have HC := Lib.hid (timS_carry n m i k)
        have HE := Lib.hid (fun (h : M ≤ k) (hc : accC (timS n m i / BB ^ i) m (dg n i) k = 0) => timS_end (T := T) Hm.out h hc)
        have HF := Lib.hid (fun e : k = M + 1 => (show accC (timS n m i / BB ^ i) m (dg n i) k = 0 by rw [e]; exact accC_end (timS_low Hm.out) Hm.out (dg_lt n i)))
        have HM0 := Lib.hid (fun h : M ≤ k => dg_zero_of_lt (lt_pow Hm.out h))
        have hc9 := accC_le (timS n m i / BB ^ i) m (dg n i) k
        have ho9 := dg_le9 (timS n m i) (i + k)
        have hy9 := dg_le9 m k
        have hcx := (hb.cell (p := ⟨b, off + i, none⟩) (Nat.lt_of_lt_of_le hbb hB)).trans HCX.out
        clear hrow hb HR2
        generalize hcn : accC (timS n m i / BB ^ i) m (dg n i) (k + 1) = cn at *
        have HCN := Lib.hid hcn
        generalize accC (timS n m i / BB ^ i) m (dg n i) k = c at *
        clear hcn
        by_cases hkM : k < M
        · obtain ⟨b', off', rfl, hbb', hcy⟩ := HY.out (by omega)
          have hcy' := (HBr.out.cell (p := ⟨b', off' + k, none⟩) (Nat.lt_of_lt_of_le hbb' hB)).trans (hcy k hkM)
          have hTn : i + k < T := by omega
          have hco := HR.out.at hTn
          rw [mixd_high (Nat.le_refl _)] at hco
          have hfo := HR.out.free (i + k)
          have hik : ((i : Int) + (k : Int)).toNat = i + k := by omega
          have hTlt : (i : Int) + (k : Int) < (T : Int) := by omega
          clear hcy HE HF HM0
          generalize dg (timS n m i) (i + k) = o at *
          generalize hxx : dg n i = x at *
          generalize hyy : dg m k = y at *
          have HXX := Lib.hid hxx
          clear hxx hyy
          go_wp2
          go_quiet (fail)
          go_wp2
          have E := tim_sum ho9 hc9 hx9 hy9
          rw [E, dig_mod HD.out, dig_div HC.out, carry_small ho9 hc9 hx9 hy9 HC.out]
          exact ⟨⟨k + 1, by omega, by go_num, by rw [HCN.out], HR.out.up hTn, (below_drewN HBr.out).setCell (Nat.le_refl _) _⟩, by simp [intOf]; omega⟩
        · by_cases hc0 : c = 0
          · subst hc0
            have HRE := Lib.hid (HE.out (by omega) rfl)
            have HR2 := Lib.hid (show Row w.heap.size wr w.heap.size T T (dcells (timS n m (i + 1)) T) by rw [← HRE.out]; exact HR.out)
            clear HE HF HM0 HD HC HCN HRE HR
            go_wp2
            go_roundw
            case rel => exact ⟨i + 1, by omega, by go_num, HR2.out, HBr.out⟩
            case measure => simp [intOf]; omega
          · have hk1 : k ≤ M := by
              by_cases e : k = M + 1
              · exact absurd (HF.out e) hc0
              · omega
            have hTn : i + k < T := by have := HT.out; omega
            have hco := HR.out.at hTn
            rw [mixd_high (Nat.le_refl _)] at hco
            have hfo := HR.out.free (i + k)
            have hik : ((i : Int) + (k : Int)).toNat = i + k := by omega
            have hTlt : (i : Int) + (k : Int) < (T : Int) := by omega
            have hy0 := HM0.out (by omega)
            rw [hy0] at HD HC
            have hcp : 0 < (c : Int) := by omega
            have hcp9 : (c : Int) ≤ 999999999 := by omega
            clear HE HF HM0 hy0 hy9 hc0
            generalize dg (timS n m i) (i + k) = o at *
            go_wp2
            have E : (o : Int) + (c : Int) = ((o + c + dg n i * 0 : Nat) : Int) := by rw [Nat.mul_zero]; omega
            rw [E, dig_emod HD.out, dig_ediv HC.out]
            exact ⟨⟨k + 1, by omega, by go_num, by rw [HCN.out], HR.out.up hTn, HBr.out.setCell (Nat.le_refl _) _⟩, by simp [intOf]; omega⟩
    · obtain rfl : i = L := by omega
      have HL := Lib.hid (show n * m < BB ^ T by rw [HT.out]; exact timS_lt Hn.out Hm.out)
      have HR3 := Lib.hid (show wo.ownsRow w.heap.size 3 1 (.slice (some ⟨w.heap.size, 0, none⟩) T T) T (dcells (n * m) T) by rw [← timS_all (m := m) Hn.out]; exact HR.out)
      clear HR
      go_wp2_with (go_at_call 114; refine (trim_own _ _ _ _ _ HR3.out HL.out).mono ?_; rintro e w' ⟨⟨v', L', rfl, hl', ho'⟩, rfl⟩)
      have HO' := Lib.hid ho'
      have HL' := Lib.hid hl'
      clear ho' hl'
      go_wp2
      go_ret
      exact ⟨_, _, rfl, HL'.out, HO'.out, HB.out⟩
end Go.Proofs.Ytabalicembhjmaa
