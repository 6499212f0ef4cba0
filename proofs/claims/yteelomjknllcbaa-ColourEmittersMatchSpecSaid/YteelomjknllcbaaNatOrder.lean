/- The contract of order: the plain laws first. -/
import Derived.Test.YteelomjknllcbaaNatSmall
namespace Go.Proofs.Yteelomjknllcbaa
open Go.RowKit
set_option linter.unusedVariables false
set_option linter.unusedSimpArgs false

/-- what order answers -/
def ordV (n m : Nat) : Int := if n < m then -1 else if m < n then 1 else 0
theorem len_less {n m L M : Nat} (h : LenOf n L) (k : LenOf m M) (hl : L < M) : n < m := by
  have h1 := k.2 (by omega)
  have h2 : BB ^ L ≤ BB ^ (M - 1) := Nat.pow_le_pow_right BB_pos (by omega)
  have := h.1
  omega
theorem ordV_less {n m : Nat} (h : n < m) : ordV n m = -1 := if_pos h
theorem ordV_more {n m : Nat} (h : m < n) : ordV n m = 1 := by unfold ordV; rw [if_neg (by omega), if_pos h]
theorem ordV_same (n : Nat) : ordV n n = 0 := by unfold ordV; rw [if_neg (by omega), if_neg (by omega)]
theorem qN_lt_of {n m i : Nat} (h : qN n i < qN m i) : n < m := by
  unfold qN at h
  by_cases hlt : n < m
  · exact hlt
  · have := Nat.div_le_div_right (c := BB ^ i) (Nat.le_of_not_lt hlt)
    omega
theorem ord_less {n m i : Nat} (h : qN n (i + 1) = qN m (i + 1)) (hd : dg n i < dg m i) : n < m := by
  have h1 := qN_step n i
  have h2 := qN_step m i
  rw [h] at h1
  exact qN_lt_of (i := i) (by omega)
theorem ord_same {n m i : Nat} (h : qN n (i + 1) = qN m (i + 1)) (hd : dg n i = dg m i) : qN n i = qN m i := by
  rw [qN_step n i, qN_step m i, h, hd]
theorem ord_end {n m : Nat} (h : qN n 0 = qN m 0) : n = m := by rwa [qN_zero, qN_zero] at h

def OrdP (n m : Nat) (w : World) (e : Ending) (w' : World) : Prop := e = .returned (.int .i64 (ordV n m)) ∧ Below w.heap.size w w'
set_option maxHeartbeats 2000000 in
set_option maxRecDepth 100000 in
theorem order_any (B n m : Nat) (v u : Value) (w : World) (hB : B ≤ w.heap.size) (hv : IsN B w v n) (hu : IsN B w u m) : Calls Try.prog 97 #[v, u] w (OrdP n m w) := by
  obtain ⟨L, hL, ao, cap, rfl, c1, c2, hn, hx⟩ := hv
  obtain ⟨M, hM, bo, dap, rfl, d1, d2, hm, hy⟩ := hu
  have HX := Lib.hid hx
  have HY := Lib.hid hy
  have HT := Lib.hid (fun e : L = M => (qN_top hn).trans (qN_top (e ▸ hm)).symm)
  have HL := Lib.hid (fun e : L < M => ordV_less (len_less hL hM e))
  have HM := Lib.hid (fun e : M < L => ordV_more (len_less hM hL e))
  clear hx hy hn hm hL hM
  by_cases hlt : L < M
  · have hv := HL.out hlt
    unfold OrdP
    rw [hv]
    clear HL HM HT hv
    go_enter Try.func97, Try.ntmps97
    go_wp2
    go_ret
    exact ⟨rfl, Below.refl _ _⟩
  · by_cases hgt : M < L
    · have hv := HM.out hgt
      unfold OrdP
      rw [hv]
      clear HL HM HT hv
      go_enter Try.func97, Try.ntmps97
      go_wp2
      go_ret
      exact ⟨rfl, Below.refl _ _⟩
    · obtain rfl : L = M := by omega
      have HT2 := Lib.hid (HT.out rfl)
      clear HL HM HT hlt hgt
      go_enter Try.func97, Try.ntmps97
      go_wp2
      go_loopw [5] (fun x wr => ∃ i : Nat, i ≤ L ∧ x = .int .i64 ((i : Int) - 1) ∧ Hid (qN n i = qN m i) ∧ Below w.heap.size w wr) (fun x _ => (intOf x + 1).toNat)
      case atStart => exact ⟨L, Nat.le_refl _, by go_num, HT2, Below.refl _ _⟩
      case round =>
        rename_i wr
        obtain ⟨i, hi, rfl, hq, hbw⟩ := hrel
        have HW := Lib.hid hbw
        by_cases h0 : i = 0
        · subst h0
          have HE := Lib.hid (show ordV n m = 0 by rw [ord_end hq.out]; exact ordV_same m)
          go_wp2
          go_ret
          exact ⟨by rw [HE.out]; rfl, by first | exact HW.out | exact HW.out.drew | exact HW.out.drew.drew⟩
        · obtain ⟨i, rfl⟩ : ∃ j, i = j + 1 := ⟨i - 1, by omega⟩
          obtain ⟨b, off, rfl, hb, hc⟩ := HX.out (by omega)
          obtain ⟨b', off', rfl, hb', hc'⟩ := HY.out (by omega)
          have h1 := (hbw.cell (p := ⟨b, off + i, none⟩) (Nat.lt_of_lt_of_le hb hB)).trans (hc i (by omega))
          have h2 := (hbw.cell (p := ⟨b', off' + i, none⟩) (Nat.lt_of_lt_of_le hb' hB)).trans (hc' i (by omega))
          clear hbw
          have e1 : ((i + 1 : Nat) : Int) - 1 = (i : Nat) := by omega
          rw [e1]
          have HA := Lib.hid (fun h : dg n i < dg m i => ordV_less (ord_less hq.out h))
          have HB := Lib.hid (fun h : dg m i < dg n i => ordV_more (ord_less hq.out.symm h))
          have HC := Lib.hid (fun h : dg n i = dg m i => ord_same hq.out h)
          clear hc hc' hq e1
          generalize dg n i = x at *
          generalize dg m i = y at *
          by_cases hxy : x = y
          · subst hxy
            have HC2 := Lib.hid (HC.out rfl)
            clear HA HB HC
            go_wp2_with go_region
            all_goals go_roundw
            all_goals (first | exact ⟨i, by omega, by go_num, HC2, by first | exact HW.out | exact HW.out.drew⟩ | (simp [intOf]; done) | (simp [intOf]; omega))
          · by_cases hl : x < y
            · have HE := Lib.hid (HA.out hl)
              clear HA HB HC
              go_wp2_with go_region
              all_goals go_ret
              all_goals exact ⟨by rw [HE.out]; rfl, by first | exact HW.out | exact HW.out.drew | exact HW.out.drew.drew⟩
            · have HE := Lib.hid (HB.out (by omega))
              clear HA HB HC
              go_wp2_with go_region
              all_goals go_ret
              all_goals exact ⟨by rw [HE.out]; rfl, by first | exact HW.out | exact HW.out.drew | exact HW.out.drew.drew⟩
end Go.Proofs.Yteelomjknllcbaa
