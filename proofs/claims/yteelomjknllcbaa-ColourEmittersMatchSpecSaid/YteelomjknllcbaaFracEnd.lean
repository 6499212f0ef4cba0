/- The reference's fractions: Order, Floor, Round. -/
import Derived.Test.YteelomjknllcbaaFracMore
namespace Go.Proofs.Yteelomjknllcbaa
open Go.RowKit
set_option linter.unusedVariables false
set_option linter.unusedSimpArgs false

/-- the sign of a number -/
def ordI (p : Int) : Int := if p = 0 then 0 else if p < 0 then -1 else 1
theorem isQ_shape {B d : Nat} {p : Int} {w : World} {v : Value} (h : IsQ B w v p d) : ∃ s ao L cap bo M cap2, v = .agg #[.bool s, .slice ao L cap, .slice bo M cap2] := by
  obtain ⟨s, x, y, rfl, n, h1, h2, h3⟩ := h
  obtain ⟨ao, L, cap, rfl, _⟩ := isN_len h1
  obtain ⟨bo, M, cap2, rfl, _⟩ := isN_len h2
  exact ⟨_, _, _, _, _, _, _, rfl⟩
theorem isQ_sign {B d : Nat} {p : Int} {w : World} {s : Bool} {x y : Value} (h : IsQ B w (.agg #[.bool s, x, y]) p d) (hp : p ≠ 0) : (s = true ∧ p < 0) ∨ (s = false ∧ 0 < p) := by
  obtain ⟨s', x', y', e, n, h1, h2, h3⟩ := h
  cases e
  cases s
  · right; simp only [sg] at h3; exact ⟨rfl, by omega⟩
  · left; simp only [sg] at h3; exact ⟨rfl, by omega⟩
theorem two_alloc {w W : World} {o1 o2 : Obj} (h : Below ((w.alloc o1).alloc o2).heap.size ((w.alloc o1).alloc o2) W) : Below w.heap.size w W ∧ w.heap.size + 1 + 1 ≤ W.heap.size := by
  have h1 := h.size
  simp at h1
  exact ⟨(((Below.refl _ _).alloc (Nat.le_refl _) o1).alloc (by simp) o2).trans (h.mono (by simp <;> omega)), by omega⟩

/-- the floor of a fraction below 0 -/
theorem neg_floor {n d : Nat} (hd : 0 < d) : (-(n : Int)) / (d : Int) = -((n / d : Nat) : Int) - (if 0 < n % d then 1 else 0) := by
  have h1 := Nat.div_add_mod n d
  have h2 := Nat.mod_lt n hd
  have e : -(n : Int) = -((n % d : Nat) : Int) + (d : Int) * (-((n / d : Nat) : Int)) := by
    have : (n : Int) = (d : Int) * ((n / d : Nat) : Int) + ((n % d : Nat) : Int) := by exact_mod_cast h1.symm
    rw [Int.mul_neg]; omega
  rw [e, Int.add_mul_ediv_left _ _ (by omega)]
  generalize n % d = r at *
  by_cases h0 : 0 < r
  · rw [if_pos h0]
    have : (-(r : Int)) / (d : Int) = -1 := by
      rw [show -(r : Int) = ((d : Int) - r) + (d : Int) * (-1) by omega, Int.add_mul_ediv_left _ _ (by omega), Int.ediv_eq_zero_of_lt (by omega) (by omega)]
      omega
    omega
  · obtain rfl : r = 0 := by omega
    rw [if_neg (by omega)]
    simp

set_option maxHeartbeats 8000000 in
set_option maxRecDepth 100000 in
theorem floorQ (B d : Nat) (p : Int) (v : Value) (w : World) (hB : B ≤ w.heap.size) (hs : Sm p d) (hd : 0 < d) (hr : p.natAbs / d ≤ 4611686018427387904) (hv : IsQ B w v p d) :
    Calls Try.prog 99 #[v] w fun e w' => e = .returned (.int .i64 (p / (d : Int))) ∧ Below w.heap.size w w' := by
  obtain ⟨s, x, y, rfl, n, hx, hy, rfl⟩ := hv
  obtain ⟨ao, L, cap, rfl, _⟩ := isN_len hx
  obtain ⟨bo, M, cap2, rfl, _⟩ := isN_len hy
  have fn := Fit.of6 (sm_sg hs).1
  rw [sg_abs] at hr
  have HD := Lib.hid (fun (W : World) (hW : Below w.heap.size w W) => divide_any B n d _ _ W (Nat.le_trans hB hW.size) fn hd (hx.below (hW.mono hB)) (hy.below (hW.mono hB)))
  have HF := Lib.hid (show Fit (n / d) from fn.le (Nat.div_le_self _ _))
  have HN := Lib.hid (neg_floor (n := n) hd)
  have HP := Lib.hid (Int.natCast_ediv n d)
  clear hx hy hs fn hd
  generalize hq : n / d = q at *
  generalize hrr : n % d = r at *
  clear hq hrr
  go_enter Try.func99, Try.ntmps99
  go_wp2_with fail
  refine (HD.out _ ((Below.refl _ _).alloc (Nat.le_refl _) _)).mono ?_
  rintro e w1 ⟨v1, v2, rfl, h1, h2, hb⟩
  have hc := ((box_new w _ _ _ _).below hb (by simp)).c0
  obtain ⟨hbw, hsz⟩ := below_size1 hb
  have HQ := Lib.hid h1
  have HBW := Lib.hid hbw
  obtain ⟨ao1, N1, c1, rfl, hl1⟩ := isN_len h1
  obtain ⟨ao2, N2, c2, rfl, hl2⟩ := isN_len h2
  have HR0 := Lib.hid (lenOf_zero_iff hl2)
  clear h1 h2 hb hbw HD hl1 hl2
  go_wp2_with fail
  refine (nnumber_any _ q _ w1 (Nat.le_refl _) HF.out (by omega) HQ.out).mono ?_
  rintro e w2 ⟨rfl, rfl⟩
  cases s
  · have HE := Lib.hid (show sg false n / (d : Int) = (q : Int) from HP.out.symm)
    clear HN HP HR0
    go_wp2
    go_ret
    exact ⟨by rw [HE.out]; rfl, HBW.out⟩
  · by_cases h0 : N2 = 0
    · have hr0 := HR0.out.2 h0
      subst h0 hr0
      have HE := Lib.hid (show sg true n / (d : Int) = -(q : Int) by show -(n : Int) / (d : Int) = _; rw [HN.out]; simp)
      clear HN HP HR0
      go_wp2
      go_ret
      exact ⟨by rw [HE.out]; rfl, HBW.out⟩
    · have hr0 : 0 < r := by
        have : r ≠ 0 := fun h => h0 (HR0.out.1 h)
        omega
      have HE := Lib.hid (show sg true n / (d : Int) = -((q : Int) + 1) by show -(n : Int) / (d : Int) = _; rw [HN.out, if_pos hr0]; omega)
      have hN2 : (0 : Int) < (N2 : Int) := by omega
      clear HN HP HR0 hr0 h0
      go_wp2
      go_ret
      exact ⟨by rw [HE.out]; rfl, HBW.out⟩

/-- the nearest whole number -/
def rndQ (p : Int) (d : Nat) : Int := (p * 2 + d) / ((d * 2 : Nat) : Int)
set_option maxHeartbeats 8000000 in
set_option maxRecDepth 100000 in
theorem roundQ (B d : Nat) (p : Int) (v : Value) (w : World) (hB : B ≤ w.heap.size) (hs : Sm p d) (hs2 : Sm (p * 2 + d) (d * 2)) (hd : 0 < d) (hr : (p * 2 + d).natAbs / (d * 2) ≤ 4611686018427387904) (hv : IsQ B w v p d) :
    Calls Try.prog 68 #[v] w fun e w' => e = .returned (.int .i64 (rndQ p d)) ∧ Below w.heap.size w w' := by
  have HV := Lib.hid hv
  obtain ⟨s, ao, L, cap, bo, M, cap2, rfl⟩ := isQ_shape hv
  have h12 : Sm ((1 : Nat) : Int) 2 := ⟨by decide, by decide⟩
  have HP := Lib.hid (fun (W : World) (u : Value) (hW : Below w.heap.size w W) (hu : IsQ W.heap.size W u ((1 : Nat) : Int) 2) => plusQ W.heap.size d 2 p ((1 : Nat) : Int) _ u W (Nat.le_refl _) hs h12 (by rw [show p * ((2 : Nat) : Int) + ((1 : Nat) : Int) * (d : Int) = p * 2 + d by omega]; exact hs2) ((hv.below (hW.mono hB)).more (Nat.le_trans hB hW.size)) hu)
  have HF := Lib.hid (fun (W : World) (u : Value) (hu : IsQ W.heap.size W u (p * ((2 : Nat) : Int) + ((1 : Nat) : Int) * (d : Int)) (d * 2)) => floorQ W.heap.size (d * 2) _ u W (Nat.le_refl _) (by rw [show p * ((2 : Nat) : Int) + ((1 : Nat) : Int) * (d : Int) = p * 2 + d by omega]; exact hs2) (by omega) (by rw [show p * ((2 : Nat) : Int) + ((1 : Nat) : Int) * (d : Int) = p * 2 + d by omega]; exact hr) hu)
  have HE := Lib.hid (show (p * 2 + (d : Int)) / ((d : Int) * 2) = rndQ p d by unfold rndQ; rw [Int.natCast_mul]; rfl)
  clear hv hs hs2 hd hr h12
  have KP := Lib.hid (show ∀ W, Below (w.heap.size + 1) (w.alloc (.cells #[.bool s, .slice ao L cap, .slice bo M cap2] 82)) W → (Below (w.heap.size + 1) (w.alloc (.cells #[.bool s, .slice ao L cap, .slice bo M cap2] 82)) W ∧ W.cell? ⟨w.heap.size, 0, none⟩ = some (.bool s) ∧ W.cell? ⟨w.heap.size, 1, none⟩ = some (.slice ao L cap) ∧ W.cell? ⟨w.heap.size, 2, none⟩ = some (.slice bo M cap2)) from fun W hW => by
    have a := (box_new w _ _ _ _).below hW (by omega)
    exact ⟨hW, a.c0, a.c1, a.c2⟩)
  have KB := Lib.hid (show ∀ W, Below (w.heap.size + 1) (w.alloc (.cells #[.bool s, .slice ao L cap, .slice bo M cap2] 82)) W → Below w.heap.size w W ∧ w.heap.size + 1 ≤ W.heap.size from fun W hW => by
    have h1 := hW.size
    simp at h1
    exact ⟨((Below.refl _ _).alloc (Nat.le_refl _) _).trans (hW.mono (by omega)), h1⟩)
  go_enter Try.func68, Try.ntmps68
  go_wp2_with fail
  have hw0 : Below (w.heap.size + 1) (w.alloc (.cells #[.bool s, .slice ao L cap, .slice bo M cap2] 82)) (World.drew (w.alloc (.cells #[.bool s, .slice ao L cap, .slice bo M cap2] 82))) := (Below.refl _ _).drew
  go_region_held3 (fun W => Below (w.heap.size + 1) (w.alloc (.cells #[.bool s, .slice ao L cap, .slice bo M cap2] 82)) W ∧ W.cell? ⟨w.heap.size, 0, none⟩ = some (.bool s) ∧ W.cell? ⟨w.heap.size, 1, none⟩ = some (.slice ao L cap) ∧ W.cell? ⟨w.heap.size, 2, none⟩ = some (.slice bo M cap2))
    (first | exact KP.out _ (by assumption) | exact KP.out _ ((Below.refl _ _).drew))
    (first
      | (go_at_call 67; refine (part_any 1 2 _ (by omega) (by omega)).mono ?_; rintro e W1 ⟨v1, rfl, hq1, _, hb1⟩; have hw1 := hw0.trans (hb1.mono (KB.out _ hw0).2); have HQ1 := Lib.hid hq1; obtain ⟨s1, ao1, L1, cap1, bo1, M1, capm1, rfl⟩ := isQ_shape hq1; clear hq1 hb1)
      | (go_at_call 64; refine (HP.out _ _ (KB.out _ hw1).1 HQ1.out).mono ?_; rintro e W2 ⟨v2, rfl, hq2, _, hb2⟩; have hw2 := hw1.trans (hb2.mono (KB.out _ hw1).2); have HQ2 := Lib.hid hq2; obtain ⟨s2, ao2, L2, cap3, bo2, M2, capm2, rfl⟩ := isQ_shape hq2; clear hq2 hb2)
      | (go_at_call 99; refine (HF.out _ _ HQ2.out).mono ?_; rintro e W3 ⟨rfl, hb3⟩; have hw3 := hw2.trans (hb3.mono (KB.out _ hw2).2); clear hb3)
      | fail)
  all_goals
    have HW3 := Lib.hid (KB.out _ hw3)
    go_wp2
    go_ret
    exact ⟨by rw [← HE.out]; rfl, HW3.out.1⟩
end Go.Proofs.Yteelomjknllcbaa
