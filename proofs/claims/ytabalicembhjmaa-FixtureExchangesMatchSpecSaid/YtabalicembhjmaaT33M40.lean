/- The reference's fractions by value: Plus, Times, Over, Minus, Zero, Order, Floor, Round. The reference's fractions: Order, Floor, Round. The reference's Octet. (printed by wip/gen/gen_octet.py) A region that draws its order, by an invariant: of each operation that has come up something is known of its slot, whatever came up besides. For any program. -/
import Derived.Test.YtabalicembhjmaaT33M39
import Derived.Test.YtabalicembhjmaaT33M29
import Derived.Test.YtabalicembhjmaaT33M03
import Derived.Test.YtabalicembhjmaaProg
import Derived.RegionTactic
import Derived.WalkKit

namespace Go.Proofs.Ytabalicembhjmaa
open Go.RowKit
set_option linter.unusedVariables false
set_option linter.unusedSimpArgs false

theorem sm_sg {s : Bool} {n d : Nat} (h : Sm (sg s n) d) : n < BB ^ 6 ∧ d < BB ^ 5 := ⟨by have := h.1; rwa [sg_abs] at this, h.2⟩
theorem plusQ (B da db : Nat) (pa pb : Int) (v u : Value) (w : World) (hB : B ≤ w.heap.size) (ha : Sm pa da) (hb : Sm pb db) (h : Sm (pa * (db : Int) + pb * (da : Int)) (da * db)) (hv : IsQ B w v pa da) (hu : IsQ B w u pb db) :
    Calls Try.prog 85 #[v, u] w (NewQ (pa * (db : Int) + pb * (da : Int)) (da * db) w) := by
  obtain ⟨s, x, y, rfl, na, h1, h2, rfl⟩ := hv
  obtain ⟨t, z, u, rfl, nb, h3, h4, rfl⟩ := hu
  exact plus_frac B na nb da db s t x y z u w hB (sm_sg ha).1 ha.2 (sm_sg hb).1 hb.2 h h1 h2 h3 h4
def zB (p : Int) : Bool := decide (p = 0)
theorem zB_yes {p : Int} (h : p = 0) : zB p = true := decide_eq_true h
theorem zB_no {p : Int} (h : p ≠ 0) : zB p = false := decide_eq_false h
end Go.Proofs.Ytabalicembhjmaa

namespace Go.Proofs.Ytabalicembhjmaa
open Go.RowKit
set_option linter.unusedVariables false
set_option linter.unusedSimpArgs false

/-- the sign of a number -/
def ordI (p : Int) : Int := if p = 0 then 0 else if p < 0 then -1 else 1
theorem isQ_shape {B d : Nat} {p : Int} {w : World} {v : Value} (h : IsQ B w v p d) : ∃ s ao L cap bo M cap2, v = .agg #[.bool s, .slice ao L cap, .slice bo M cap2] := by
  obtain ⟨s, x, y, rfl, n, h1, h2, h3⟩ := h
  obtain ⟨ao, L, cap, rfl, _⟩ := isN_len h1
  obtain ⟨bo, M, cap2, rfl, _⟩ := isN_len h2
  exact ⟨_, _, _, _, _, _, _, rfl⟩
theorem isQ_sign {B d : Nat} {p : Int} {w : World} {s : Bool} {x y : Value} (h : IsQ B w (.agg #[.bool s, x, y]) p d) (hp : p ≠ 0) : (s = true ∧ p < 0) ∨ (s = false ∧ 0 < p) := by
  obtain ⟨s', x', y', e, n, h1, h2, h3⟩ := h
  cases e
  cases s
  · right; simp only [sg] at h3; exact ⟨rfl, by omega⟩
  · left; simp only [sg] at h3; exact ⟨rfl, by omega⟩
theorem two_alloc {w W : World} {o1 o2 : Obj} (h : Below ((w.alloc o1).alloc o2).heap.size ((w.alloc o1).alloc o2) W) : Below w.heap.size w W ∧ w.heap.size + 1 + 1 ≤ W.heap.size := by
  have h1 := h.size
  simp at h1
  exact ⟨(((Below.refl _ _).alloc (Nat.le_refl _) o1).alloc (by simp) o2).trans (h.mono (by simp <;> omega)), by omega⟩

/-- the floor of a fraction below 0 -/
theorem neg_floor {n d : Nat} (hd : 0 < d) : (-(n : Int)) / (d : Int) = -((n / d : Nat) : Int) - (if 0 < n % d then 1 else 0) := by
  have h1 := Nat.div_add_mod n d
  have h2 := Nat.mod_lt n hd
  have e : -(n : Int) = -((n % d : Nat) : Int) + (d : Int) * (-((n / d : Nat) : Int)) := by
    have : (n : Int) = (d : Int) * ((n / d : Nat) : Int) + ((n % d : Nat) : Int) := by exact_mod_cast h1.symm
    rw [Int.mul_neg]; omega
  rw [e, Int.add_mul_ediv_left _ _ (by omega)]
  generalize n % d = r at *
  by_cases h0 : 0 < r
  · rw [if_pos h0]
    have : (-(r : Int)) / (d : Int) = -1 := by
      rw [show -(r : Int) = ((d : Int) - r) + (d : Int) * (-1) by omega, Int.add_mul_ediv_left _ _ (by omega), Int.ediv_eq_zero_of_lt (by omega) (by omega)]
      omega
    omega
  · obtain rfl : r = 0 := by omega
    rw [if_neg (by omega)]
    simp

set_option maxHeartbeats 8000000 in
set_option maxRecDepth 100000 in
theorem floorQ (B d : Nat) (p : Int) (v : Value) (w : World) (hB : B ≤ w.heap.size) (hs : Sm p d) (hd : 0 < d) (hr : p.natAbs / d ≤ 4611686018427387904) (hv : IsQ B w v p d) :
    Calls Try.prog 104 #[v] w fun e w' => e = .returned (.int .i64 (p / (d : Int))) ∧ Below w.heap.size w w' := by
  obtain ⟨s, x, y, rfl, n, hx, hy, rfl⟩ := hv
  obtain ⟨ao, L, cap, rfl, _⟩ := isN_len hx
  obtain ⟨bo, M, cap2, rfl, _⟩ := isN_len hy
  have fn := Fit.of6 (sm_sg hs).1
  rw [sg_abs] at hr
  have HD := Lib.hid (fun (W : World) (hW : Below w.heap.size w W) => divide_any B n d _ _ W (Nat.le_trans hB hW.size) fn hd (hx.below (hW.mono hB)) (hy.below (hW.mono hB)))
  have HF := Lib.hid (show Fit (n / d) from fn.le (Nat.div_le_self _ _))
  have HN := Lib.hid (neg_floor (n := n) hd)
  have HP := Lib.hid (Int.natCast_ediv n d)
  clear hx hy hs fn hd
  generalize hq : n / d = q at *
  generalize hrr : n % d = r at *
  clear hq hrr
  go_enter Try.func104, Try.ntmps104
  go_wp2_with fail
  refine (HD.out _ ((Below.refl _ _).alloc (Nat.le_refl _) _)).mono ?_
  rintro e w1 ⟨v1, v2, rfl, h1, h2, hb⟩
  have hc := ((box_new w _ _ _ _).below hb (by simp)).c0
  obtain ⟨hbw, hsz⟩ := below_size1 hb
  have HQ := Lib.hid h1
  have HBW := Lib.hid hbw
  obtain ⟨ao1, N1, c1, rfl, hl1⟩ := isN_len h1
  obtain ⟨ao2, N2, c2, rfl, hl2⟩ := isN_len h2
  have HR0 := Lib.hid (lenOf_zero_iff hl2)
  clear h1 h2 hb hbw HD hl1 hl2
  go_wp2_with fail
  refine (nnumber_any _ q _ w1 (Nat.le_refl _) HF.out (by omega) HQ.out).mono ?_
  rintro e w2 ⟨rfl, rfl⟩
  cases s
  · have HE := Lib.hid (show sg false n / (d : Int) = (q : Int) from HP.out.symm)
    clear HN HP HR0
    go_wp2
    go_ret
    exact ⟨by rw [HE.out]; rfl, HBW.out⟩
  · by_cases h0 : N2 = 0
    · have hr0 := HR0.out.2 h0
      subst h0 hr0
      have HE := Lib.hid (show sg true n / (d : Int) = -(q : Int) by show -(n : Int) / (d : Int) = _; rw [HN.out]; simp)
      clear HN HP HR0
      go_wp2
      go_ret
      exact ⟨by rw [HE.out]; rfl, HBW.out⟩
    · have hr0 : 0 < r := by
        have : r ≠ 0 := fun h => h0 (HR0.out.1 h)
        omega
      have HE := Lib.hid (show sg true n / (d : Int) = -((q : Int) + 1) by show -(n : Int) / (d : Int) = _; rw [HN.out, if_pos hr0]; omega)
      have hN2 : (0 : Int) < (N2 : Int) := by omega
      clear HN HP HR0 hr0 h0
      go_wp2
      go_ret
      exact ⟨by rw [HE.out]; rfl, HBW.out⟩

/-- the nearest whole number -/
def rndQ (p : Int) (d : Nat) : Int := (p * 2 + d) / ((d * 2 : Nat) : Int)
set_option maxHeartbeats 8000000 in
set_option maxRecDepth 100000 in
theorem roundQ (B d : Nat) (p : Int) (v : Value) (w : World) (hB : B ≤ w.heap.size) (hs : Sm p d) (hs2 : Sm (p * 2 + d) (d * 2)) (hd : 0 < d) (hr : (p * 2 + d).natAbs / (d * 2) ≤ 4611686018427387904) (hv : IsQ B w v p d) :
    Calls Try.prog 87 #[v] w fun e w' => e = .returned (.int .i64 (rndQ p d)) ∧ Below w.heap.size w w' := by
  have HV := Lib.hid hv
  obtain ⟨s, ao, L, cap, bo, M, cap2, rfl⟩ := isQ_shape hv
  have h12 : Sm ((1 : Nat) : Int) 2 := ⟨by decide, by decide⟩
  have HP := Lib.hid (fun (W : World) (u : Value) (hW : Below w.heap.size w W) (hu : IsQ W.heap.size W u ((1 : Nat) : Int) 2) => plusQ W.heap.size d 2 p ((1 : Nat) : Int) _ u W (Nat.le_refl _) hs h12 (by rw [show p * ((2 : Nat) : Int) + ((1 : Nat) : Int) * (d : Int) = p * 2 + d by omega]; exact hs2) ((hv.below (hW.mono hB)).more (Nat.le_trans hB hW.size)) hu)
  have HF := Lib.hid (fun (W : World) (u : Value) (hu : IsQ W.heap.size W u (p * ((2 : Nat) : Int) + ((1 : Nat) : Int) * (d : Int)) (d * 2)) => floorQ W.heap.size (d * 2) _ u W (Nat.le_refl _) (by rw [show p * ((2 : Nat) : Int) + ((1 : Nat) : Int) * (d : Int) = p * 2 + d by omega]; exact hs2) (by omega) (by rw [show p * ((2 : Nat) : Int) + ((1 : Nat) : Int) * (d : Int) = p * 2 + d by omega]; exact hr) hu)
  have HE := Lib.hid (show (p * 2 + (d : Int)) / ((d : Int) * 2) = rndQ p d by unfold rndQ; rw [Int.natCast_mul]; rfl)
  clear hv hs hs2 hd hr h12
  have KP := Lib.hid (show ∀ W, Below (w.heap.size + 1) (w.alloc (.cells #[.bool s, .slice ao L cap, .slice bo M cap2] 128)) W → (Below (w.heap.size + 1) (w.alloc (.cells #[.bool s, .slice ao L cap, .slice bo M cap2] 128)) W ∧ W.cell? ⟨w.heap.size, 0, none⟩ = some (.bool s) ∧ W.cell? ⟨w.heap.size, 1, none⟩ = some (.slice ao L cap) ∧ W.cell? ⟨w.heap.size, 2, none⟩ = some (.slice bo M cap2)) from fun W hW => by
    have a := (box_new w _ _ _ _).below hW (by omega)
    exact ⟨hW, a.c0, a.c1, a.c2⟩)
  have KB := Lib.hid (show ∀ W, Below (w.heap.size + 1) (w.alloc (.cells #[.bool s, .slice ao L cap, .slice bo M cap2] 128)) W → Below w.heap.size w W ∧ w.heap.size + 1 ≤ W.heap.size from fun W hW => by
    have h1 := hW.size
    simp at h1
    exact ⟨((Below.refl _ _).alloc (Nat.le_refl _) _).trans (hW.mono (by omega)), h1⟩)
  go_enter Try.func87, Try.ntmps87
  go_wp2_with fail
  have hw0 : Below (w.heap.size + 1) (w.alloc (.cells #[.bool s, .slice ao L cap, .slice bo M cap2] 128)) (World.drew (w.alloc (.cells #[.bool s, .slice ao L cap, .slice bo M cap2] 128))) := (Below.refl _ _).drew
  go_region_held3 (fun W => Below (w.heap.size + 1) (w.alloc (.cells #[.bool s, .slice ao L cap, .slice bo M cap2] 128)) W ∧ W.cell? ⟨w.heap.size, 0, none⟩ = some (.bool s) ∧ W.cell? ⟨w.heap.size, 1, none⟩ = some (.slice ao L cap) ∧ W.cell? ⟨w.heap.size, 2, none⟩ = some (.slice bo M cap2))
    (first | exact KP.out _ (by assumption) | exact KP.out _ ((Below.refl _ _).drew))
    (first
      | (go_at_call 86; refine (part_any 1 2 _ (by omega) (by omega)).mono ?_; rintro e W1 ⟨v1, rfl, hq1, _, hb1⟩; have hw1 := hw0.trans (hb1.mono (KB.out _ hw0).2); have HQ1 := Lib.hid hq1; obtain ⟨s1, ao1, L1, cap1, bo1, M1, capm1, rfl⟩ := isQ_shape hq1; clear hq1 hb1)
      | (go_at_call 85; refine (HP.out _ _ (KB.out _ hw1).1 HQ1.out).mono ?_; rintro e W2 ⟨v2, rfl, hq2, _, hb2⟩; have hw2 := hw1.trans (hb2.mono (KB.out _ hw1).2); have HQ2 := Lib.hid hq2; obtain ⟨s2, ao2, L2, cap3, bo2, M2, capm2, rfl⟩ := isQ_shape hq2; clear hq2 hb2)
      | (go_at_call 104; refine (HF.out _ _ HQ2.out).mono ?_; rintro e W3 ⟨rfl, hb3⟩; have hw3 := hw2.trans (hb3.mono (KB.out _ hw2).2); clear hb3)
      | fail)
  all_goals
    have HW3 := Lib.hid (KB.out _ hw3)
    go_wp2
    go_ret
    exact ⟨by rw [← HE.out]; rfl, HW3.out.1⟩
end Go.Proofs.Ytabalicembhjmaa

namespace Go.Proofs.Ytabalicembhjmaa
open Go.RowKit
set_option linter.unusedVariables false
set_option linter.unusedSimpArgs false
theorem BB5_eqO : BB ^ 5 = BB ^ 4 * BB := Nat.pow_succ BB 4
theorem BB6_eqO : BB ^ 6 = BB ^ 5 * BB := Nat.pow_succ BB 5
theorem BB4_5O {d : Nat} (h : d < BB ^ 4) : d * 131072 < BB ^ 5 := by
  have h1 : d * 131072 ≤ d * BB := Nat.mul_le_mul_left _ (by decide)
  have h2 : d * BB < BB ^ 4 * BB := Nat.mul_lt_mul_of_pos_right h BB_pos
  rw [← BB5_eqO] at h2
  exact Nat.lt_of_le_of_lt h1 h2
theorem sm_ofO {p : Int} {d e : Nat} (h1 : p.natAbs ≤ d * 131072) (h2 : d ≤ e * 2) (h3 : e < BB ^ 4) : Sm p d := by
  have h5 : e * 2 ≤ e * 131072 := Nat.mul_le_mul_left _ (by decide)
  have h6 : d * 131072 ≤ e * 2 * 131072 := Nat.mul_le_mul_right _ h2
  have h7 : e * 2 * 131072 ≤ e * 131072 * BB := by
    rw [Nat.mul_right_comm]
    exact Nat.mul_le_mul_left _ (by decide)
  have h8 : e * 131072 * BB < BB ^ 5 * BB := Nat.mul_lt_mul_of_pos_right (BB4_5O h3) BB_pos
  rw [← BB6_eqO] at h8
  exact ⟨Nat.lt_of_le_of_lt (Nat.le_trans h1 (Nat.le_trans h6 h7)) h8, Nat.lt_of_le_of_lt (Nat.le_trans h2 h5) (BB4_5O h3)⟩
theorem rndQ_rndO (p : Int) (d : Nat) : rndQ p d = rnd p (d : Int) := by
  unfold rndQ rnd
  rw [Int.natCast_mul, Int.mul_comm p 2, Int.mul_comm (d : Int)]
  rfl
/-- a rounded part of small numbers, by the reference -/
theorem rpart {a d : Nat} (W W1 : World) (v : Value) (hd : 0 < d) (ha : a ≤ 65536 * d) (hdB : d < BB ^ 4) (hq : IsQ W1.heap.size W1 v ((a : Nat) : Int) d) :
    Calls Try.prog 87 #[v] W1 fun e w' => e = .returned (.int .i64 (rnd (a : Int) (d : Int))) ∧ Below W1.heap.size W1 w' := by
  have := roundQ W1.heap.size d (a : Int) v W1 (Nat.le_refl _) (sm_ofO (e := d) (by omega) (by omega) hdB) (sm_ofO (e := d) (by omega) (by omega) hdB) hd (by
    have h1 : ((a : Int) * 2 + (d : Int)).natAbs ≤ 65537 * (d * 2) := by omega
    have h2 := Nat.div_le_div_right (c := d * 2) h1
    rw [Nat.mul_div_cancel _ (by omega)] at h2
    omega) hq
  rwa [rndQ_rndO] at this

set_option maxHeartbeats 1000000 in
theorem rOctet_any (n : Int) (w : World) :
    Calls Try.prog 95 #[.int .i64 n] w fun e w' => e = .returned (.tuple #[.int .u8 (octR n), .int .i64 (octE n)]) ∧ Below w.heap.size w w' := by
  by_cases h : LvIn n
  · have HV := Lib.hid (show octR n = rnd (n * 255) 65535 from if_pos h)
    have HF := Lib.hid (show octE n = 0 from if_pos h)
    obtain ⟨o0, o1⟩ := oct_byte h
    have HL := Lib.hid h
    unfold LvIn at h
    obtain ⟨x, hx⟩ : ∃ x : Nat, n * 255 = (x : Int) := ⟨(n * 255).toNat, by omega⟩
    have HP := Lib.hid (fun W => part_any x 65535 W (by omega) (by omega))
    have HR := Lib.hid (fun W W1 v hq => rpart (a := x) (d := 65535) W W1 v (by omega) (by omega) (by decide) hq)
    rw [hx] at HV o0 o1
    rw [show ((65535 : Nat) : Int) = 65535 from rfl] at HR
    generalize rnd (x : Int) 65535 = r at *
    go_enter Try.func95, Try.ntmps95
    go_wp2_with fail
    refine (rIsLevel_yes _ _ HL.out).mono ?_
    rintro e w' ⟨rfl, rfl⟩
    go_wp2_with fail
    refine (HP.out _).mono ?_
    rintro e w1 ⟨v1, rfl, hq, _, hb1⟩
    have HQ := Lib.hid hq
    have HB1 := Lib.hid hb1
    obtain ⟨s1, ao1, L1, cap1, bo1, M1, capm1, rfl⟩ := isQ_shape hq
    clear hq hb1
    go_wp2_with fail
    refine (HR.out w _ _ HQ.out).mono ?_
    rintro e w2 ⟨rfl, hb2⟩
    have HB2 := Lib.hid (HB1.out.trans (hb2.mono HB1.out.size))
    clear hb2
    go_wp2
    go_ret2
    exact ⟨by rw [HV.out, HF.out]; rfl, HB2.out⟩
  · have HV := Lib.hid (show octR n = 0 from if_neg h)
    have HF := Lib.hid (show octE n = 1 from if_neg h)
    have h2 : n < 0 ∨ 65535 < n := by unfold LvIn at h; omega
    have H2 := Lib.hid h2
    clear h h2
    go_enter Try.func95, Try.ntmps95
    go_wp2_with (first | (go_at_call 83; refine (rIsLevel_no _ _ H2.out).mono ?_; rintro e w' ⟨rfl, rfl⟩))
    go_ret2
    exact ⟨by rw [HV.out, HF.out]; rfl, Below.refl _ _⟩
end Go.Proofs.Ytabalicembhjmaa

namespace Go.Proofs.Ytabalicembhjmaa
open Go.RowKit
set_option linter.unusedVariables false
set_option linter.unusedSimpArgs false

section
variable {P : Program} {ops : Array Oper} {Q : Exit → Act → World → Prop} {md : Region.Mode}

def todo (l : Array Bool) : Nat := l.toList.countP (fun b => !b)
theorem getD_false {l : Array Bool} {i : Nat} (h : l.getD i true = false) : ∃ hi : i < l.size, l[i] = false := by
  by_cases hi : i < l.size
  · refine ⟨hi, ?_⟩
    simpa [Array.getD, hi] using h
  · simp [Array.getD, hi] at h
theorem todo_set (l : Array Bool) (i : Nat) (h : l.getD i true = false) : todo (l.setIfInBounds i true) + 1 = todo l := by
  obtain ⟨hi, hf⟩ := getD_false h
  unfold todo
  rw [Array.toList_setIfInBounds, List.countP_set (by simpa using hi)]
  have h1 : l.toList[i]'(by simpa using hi) = false := by simpa using hf
  have h2 : 0 < l.toList.countP (fun b => !b) := List.countP_pos_iff.2 ⟨false, by rw [← h1]; exact List.getElem_mem _, rfl⟩
  rw [h1]
  simp only [Bool.not_false, Bool.not_true, if_true, Bool.false_eq_true, if_false]
  omega
theorem todo_zero (l : Array Bool) (h : todo l = 0) (i : Nat) : l.getD i true = true := by
  by_cases hf : l.getD i true = false
  · have := todo_set l i hf; omega
  · simpa using hf

theorem any_inv (Inv : Array Bool → Act → World → Prop)
    (hstep : ∀ l a w i, Inv l a w → i ∈ Region.ready md ops l → wpOp P ops Q i (fun a' w' => Inv (l.setIfInBounds i true) a' w') a w)
    (hfin : ∀ l a w, Inv l a w → Region.ready md ops l = [] → Q .normal a w) :
    ∀ (fuel : Nat) (l : Array Bool) (a : Act) (w : World), Inv l a w → todo l ≤ fuel → wpAny P md ops Q fuel l a w := by
  intro fuel
  induction fuel with
  | zero =>
    intro l a w h ht
    have hr : Region.ready md ops l = [] := by
      cases hr : Region.ready md ops l with
      | nil => rfl
      | cons i r =>
        have hi : i ∈ Region.ready md ops l := by rw [hr]; simp
        have h1 := (mem_ready.1 hi).1
        rw [todo_zero l (by omega) i] at h1
        cases h1
    exact ⟨hr, hfin l a w h hr⟩
  | succ fuel ih =>
    intro l a w h ht
    refine ⟨hfin l a w h, fun i hi => ?_⟩
    have h1 := todo_set l i (mem_ready.1 hi).1
    exact wpOp_mono (fun a' w' h' => ih _ a' w' h' (by omega)) (hstep l a w i h hi)

/-- each operation waits for earlier ones alone -/
def dagB (ops : Array Oper) : Bool := (List.range ops.size).all fun j => ((ops[j]?).map fun o => o.after.toList.all fun e => decide (e.on < j)).getD true
/-- no guard; each writes a slot; no two the same -/
def dstB (ops : Array Oper) : Bool := (ops.toList.all fun o => o.guard.isNone && o.dst.isSome) && decide (ops.toList.map (·.dst)).Nodup

theorem dag_of (h : dagB ops = true) {j : Nat} {o : Oper} (ho : ops[j]? = some o) : ∀ e ∈ o.after, e.on < j := by
  have hj : j < ops.size := (Array.getElem?_eq_some_iff.1 ho).1
  unfold dagB at h
  rw [List.all_eq_true] at h
  have h1 := h j (List.mem_range.2 hj)
  rw [ho] at h1
  simp only [Option.map_some, Option.getD_some, List.all_eq_true, decide_eq_true_eq] at h1
  intro e he
  exact h1 e (by simpa using he)
theorem dst_of (h : dstB ops = true) {j : Nat} {o : Oper} (ho : ops[j]? = some o) : o.guard = none ∧ ∃ d, o.dst = some d := by
  unfold dstB at h
  rw [Bool.and_eq_true, List.all_eq_true] at h
  have h1 := h.1 o (by
    have := (Array.getElem?_eq_some_iff.1 ho)
    obtain ⟨hj, e⟩ := this
    rw [← e]; simp)
  rw [Bool.and_eq_true] at h1
  exact ⟨Option.isNone_iff_eq_none.1 h1.1, Option.isSome_iff_exists.1 h1.2⟩
theorem dst_inj (h : dstB ops = true) {i j : Nat} {o p : Oper} (ho : ops[i]? = some o) (hp : ops[j]? = some p) (hd : o.dst = p.dst) : i = j := by
  unfold dstB at h
  rw [Bool.and_eq_true] at h
  have hn := of_decide_eq_true h.2
  obtain ⟨hi, ei⟩ := Array.getElem?_eq_some_iff.1 ho
  obtain ⟨hj, ej⟩ := Array.getElem?_eq_some_iff.1 hp
  have hi' : i < (ops.toList.map (·.dst)).length := by simpa using hi
  have hj' : j < (ops.toList.map (·.dst)).length := by simpa using hj
  refine (List.getElem_inj (h₀ := hi') (h₁ := hj') hn).1 ?_
  simp [ei, ej, hd]

/-- the frame but for the region's own slots -/
def ShapeF (ops : Array Oper) (a0 a : Act) : Prop := a.tmps.size = a0.tmps.size ∧ a.defers = a0.defers ∧ ∀ s, (∀ (j : Nat) (o : Oper), ops[j]? = some o → o.dst ≠ some s) → a.tmps.getD s undef = a0.tmps.getD s undef

theorem region_phi (hm : P.follows .mixedOrders = true) {id : Nat} {a0 : Act} {w0 : World} (hdag : dagB ops = true) (hdst : dstB ops = true)
    (φ : Nat → Value → World → Prop) (W : World → Prop) (G : World → World → Prop)
    (hW0 : W { w0 with drawn := w0.drawn + 1 })
    (hmono : ∀ j v w w', φ j v w → G w w' → φ j v w')
    (hin : ∀ (j : Nat) (o : Oper) d, ops[j]? = some o → o.dst = some d → d < a0.tmps.size)
    (hop : ∀ (i : Nat) (o : Oper) (a : Act) (w : World), ops[i]? = some o → ShapeF ops a0 a → W w →
      (∀ e ∈ o.after, Region.binds .any e = true → ∀ (p : Oper) d, ops[e.on]? = some p → p.dst = some d → φ e.on (a.tmps.getD d undef) w) →
      o.wp P a w (fun a' w' => ∃ v, a' = a.put o.dst v ∧ φ i v w' ∧ W w' ∧ G w w') Q)
    (hfin : ∀ a w, ShapeF ops a0 a → W w → (∀ (j : Nat) (o : Oper) d, ops[j]? = some o → o.dst = some d → φ j (a.tmps.getD d undef) w) → Q .normal a w) :
    (Code.region id ops true).wp P Q a0 w0 := by
  refine wp_region_any hm ?_
  refine any_inv (fun l a w => l.size = ops.size ∧ ShapeF ops a0 a ∧ W w ∧ ∀ (j : Nat) (o : Oper) d, ops[j]? = some o → l.getD j false = true → o.dst = some d → φ j (a.tmps.getD d undef) w) ?_ ?_ _ _ _ _ ?_ ?_
  · rintro l a w i ⟨hl, hs, hw, hφ⟩ hi
    obtain ⟨hnot, o, ho, hafter⟩ := mem_ready.1 hi
    obtain ⟨hg, d, hd⟩ := dst_of hdst ho
    unfold wpOp
    simp only [ho]
    rw [if_pos (by simp [Region.wanted, hg])]
    refine .inl (Oper.wp_mono ?_ (hop i o a w ho hs hw fun e he hb p d' hp hd' => hφ e.on p d' hp (hafter e he hb) hd'))
    rintro a' w' ⟨v, rfl, hv, hw', hG⟩
    have hput : a.put o.dst v = { a with tmps := a.tmps.setIfInBounds d v } := by unfold Act.put; rw [hd]
    rw [hput]
    refine ⟨by simpa using hl, ⟨by simpa using hs.1, hs.2.1, fun s hns => ?_⟩, hw', fun j p d' hp hlj hd' => ?_⟩
    · have hne : d ≠ s := by rintro rfl; exact hns i o ho hd
      rw [← hs.2.2 s hns]
      simp [Array.getD_eq_getD_getElem?, Array.getElem?_setIfInBounds_ne hne]
    · by_cases hij : j = i
      · subst hij
        rw [ho] at hp
        cases hp
        rw [hd] at hd'
        cases hd'
        have hsz : d < a.tmps.size := by rw [hs.1]; exact hin _ _ _ ho hd
        have : (a.tmps.setIfInBounds d v).getD d undef = v := by simp [Array.getD_eq_getD_getElem?, hsz]
        rw [this]
        exact hv
      · have hne : d ≠ d' := by
          rintro rfl
          exact hij (dst_inj hdst hp ho (by rw [hd, hd']))
        have : (a.tmps.setIfInBounds d v).getD d' undef = a.tmps.getD d' undef := by simp [Array.getD_eq_getD_getElem?, Array.getElem?_setIfInBounds_ne hne]
        rw [this]
        refine hmono _ _ _ _ (hφ j p d' hp ?_ hd') hG
        have hni : i ≠ j := fun e => hij e.symm
        rw [← hlj]
        simp [Array.getD_eq_getD_getElem?, Array.getElem?_setIfInBounds_ne hni]
  · rintro l a w ⟨hl, hs, hw, hφ⟩ hr
    refine hfin a w hs hw fun j o d ho hd => hφ j o d ho ?_ hd
    -- all have come up
    have key : ∀ n j, j ≤ n → j < ops.size → l.getD j true = true := by
      intro n
      induction n with
      | zero =>
        intro j hj hjs
        by_cases hf : l.getD j true = false
        · have : j ∈ Region.ready .any ops l := mem_ready.2 ⟨hf, ops[j], Array.getElem?_eq_getElem hjs, fun e he _ => by
            have := dag_of hdag (Array.getElem?_eq_getElem hjs) e he; omega⟩
          rw [hr] at this; cases this
        · simpa using hf
      | succ n ih =>
        intro j hj hjs
        by_cases hf : l.getD j true = false
        · have : j ∈ Region.ready .any ops l := mem_ready.2 ⟨hf, ops[j], Array.getElem?_eq_getElem hjs, fun e he _ => by
            have h1 := dag_of hdag (Array.getElem?_eq_getElem hjs) e he
            have h2 := ih e.on (by omega) (by omega)
            have h3 : e.on < l.size := by omega
            simpa [Array.getD, h3] using h2⟩
          rw [hr] at this; cases this
        · simpa using hf
    have hjs : j < ops.size := (Array.getElem?_eq_some_iff.1 ho).1
    have h1 := key j j (Nat.le_refl _) hjs
    have h3 : j < l.size := by omega
    simpa [Array.getD, h3] using h1
  · refine ⟨by simp, ⟨rfl, rfl, fun _ _ => rfl⟩, hW0, fun j o d ho hlj _ => ?_⟩
    exfalso
    by_cases hjs : j < ops.size
    · simp [Array.getD, hjs] at hlj
    · simp [Array.getD, hjs] at hlj
  · have : todo (Array.replicate ops.size false) = ops.size := by unfold todo; rw [Array.toList_replicate, List.countP_replicate]; rfl
    omega
end
end Go.Proofs.Ytabalicembhjmaa
