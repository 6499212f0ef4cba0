/- The reference's Within, IsLevel, IsTime, mix. -/
import Derived.Test.YteelomjknllcbaaFracEnd
import Derived.Test.YteelomjknllcbaaLvPlain
namespace Go.Proofs.Yteelomjknllcbaa
open Go.RowKit
set_option linter.unusedVariables false
set_option linter.unusedSimpArgs false

set_option maxHeartbeats 400000 in
theorem r1within_yes (n lo hi : Int) (w : World) (h : lo ≤ n ∧ n ≤ hi) :
    Calls Try.prog 40 #[.int .i64 n, .int .i64 lo, .int .i64 hi] w fun e w' => e = .returned (.bool true) ∧ w = w' := by
  obtain ⟨h1, h2⟩ := h
  have e2 : decide (n ≤ hi) = true := by simpa using h2
  go_enter Try.func40, Try.ntmps40
  go_wp2
  go_ret
  exact ⟨rfl, rfl⟩
set_option maxHeartbeats 400000 in
theorem r1within_no (n lo hi : Int) (w : World) (h : n < lo ∨ hi < n) :
    Calls Try.prog 40 #[.int .i64 n, .int .i64 lo, .int .i64 hi] w fun e w' => e = .returned (.bool false) ∧ w = w' := by
  by_cases h1 : lo ≤ n
  · have e2 : decide (n ≤ hi) = false := by simp; omega
    have h2 : hi < n := by omega
    clear h
    go_enter Try.func40, Try.ntmps40
    go_wp2
    go_ret
    exact ⟨rfl, rfl⟩
  · have h2 : n < lo := by omega
    clear h
    go_enter Try.func40, Try.ntmps40
    go_wp2
    go_ret
    exact ⟨rfl, rfl⟩
set_option maxHeartbeats 400000 in
theorem rIsLevel_yes (n : Int) (w : World) (h : 0 ≤ n ∧ n ≤ 65535) :
    Calls Try.prog 41 #[.int .i64 n] w fun e w' => e = .returned (.bool true) ∧ w = w' := by
  go_enter Try.func41, Try.ntmps41
  go_wp2_with (go_at_call 40; refine (r1within_yes _ _ _ _ h).mono ?_; rintro e w' ⟨rfl, rfl⟩)
  go_ret
  exact ⟨rfl, rfl⟩
set_option maxHeartbeats 400000 in
theorem rIsLevel_no (n : Int) (w : World) (h : n < 0 ∨ 65535 < n) :
    Calls Try.prog 41 #[.int .i64 n] w fun e w' => e = .returned (.bool false) ∧ w = w' := by
  go_enter Try.func41, Try.ntmps41
  go_wp2_with (go_at_call 40; refine (r1within_no _ _ _ _ h).mono ?_; rintro e w' ⟨rfl, rfl⟩)
  go_ret
  exact ⟨rfl, rfl⟩

theorem rndQ_rnd (p : Int) (d : Nat) : rndQ p d = rnd p (d : Int) := by
  unfold rndQ rnd
  rw [Int.natCast_mul, Int.mul_comm p 2, Int.mul_comm (d : Int)]
  rfl
/-- a part of a whole, in numbers that are not too long -/
structure Unit1 (p : Int) (d : Nat) : Prop where
  p0 : 0 ≤ p
  pd : p ≤ (d : Int)
  d0 : 0 < d
  dB : d < BB ^ 4
theorem BB5_eq : BB ^ 5 = BB ^ 4 * BB := Nat.pow_succ BB 4
theorem BB6_eq : BB ^ 6 = BB ^ 5 * BB := Nat.pow_succ BB 5
theorem BB4_5 {d : Nat} (h : d < BB ^ 4) : d * 131072 < BB ^ 5 := by
  have h1 : d * 131072 ≤ d * BB := Nat.mul_le_mul_left _ (by decide)
  have h2 : d * BB < BB ^ 4 * BB := Nat.mul_lt_mul_of_pos_right h BB_pos
  rw [← BB5_eq] at h2
  exact Nat.lt_of_le_of_lt h1 h2
theorem sm_of {p : Int} {d e : Nat} (h1 : p.natAbs ≤ d * 131072) (h2 : d ≤ e * 2) (h3 : e < BB ^ 4) : Sm p d := by
  have h5 : e * 2 ≤ e * 131072 := Nat.mul_le_mul_left _ (by decide)
  have h6 : d * 131072 ≤ e * 2 * 131072 := Nat.mul_le_mul_right _ h2
  have h7 : e * 2 * 131072 ≤ e * 131072 * BB := by
    rw [Nat.mul_right_comm]
    exact Nat.mul_le_mul_left _ (by decide)
  have h8 : e * 131072 * BB < BB ^ 5 * BB := Nat.mul_lt_mul_of_pos_right (BB4_5 h3) BB_pos
  rw [← BB6_eq] at h8
  exact ⟨Nat.lt_of_le_of_lt (Nat.le_trans h1 (Nat.le_trans h6 h7)) h8, Nat.lt_of_le_of_lt (Nat.le_trans h2 h5) (BB4_5 h3)⟩
theorem Unit1.sm {p : Int} {d : Nat} (h : Unit1 p d) : Sm p d := sm_of (e := d) (by have := h.p0; have := h.pd; omega) (by omega) h.dB
theorem sm_small {p : Int} (h : p.natAbs ≤ 131072) : Sm p 1 := sm_of (e := 1) (by omega) (by omega) (by decide)
theorem nat_wide {n d : Nat} (h : n ≤ d * 65535) : n ≤ d * 131072 := Nat.le_trans h (Nat.mul_le_mul_left d (by decide))
theorem mixS (a b p : Int) (d : Nat) (ha : 0 ≤ a ∧ a ≤ 65535) (hb : 0 ≤ b ∧ b ≤ 65535) (h : Unit1 p d) :
    0 ≤ a * (d : Int) + (b - a) * p ∧ a * (d : Int) + (b - a) * p ≤ 65535 * (d : Int) ∧ ((b - a) * p).natAbs ≤ d * 65535 := by
  have h0 := h.p0
  have h1 := h.pd
  have e : a * (d : Int) + (b - a) * p = a * ((d : Int) - p) + b * p := by grind
  have a1 : 0 ≤ a * ((d : Int) - p) := Int.mul_nonneg ha.1 (by omega)
  have a2 : a * ((d : Int) - p) ≤ 65535 * ((d : Int) - p) := Int.mul_le_mul_of_nonneg_right ha.2 (by omega)
  have a3 : 0 ≤ b * p := Int.mul_nonneg hb.1 h0
  have a4 : b * p ≤ 65535 * p := Int.mul_le_mul_of_nonneg_right hb.2 h0
  have a5 : 0 ≤ a * p := Int.mul_nonneg ha.1 h0
  have a6 : a * p ≤ 65535 * p := Int.mul_le_mul_of_nonneg_right ha.2 h0
  have e2 : (b - a) * p = b * p - a * p := by grind
  have e3 : 65535 * ((d : Int) - p) = 65535 * (d : Int) - 65535 * p := by grind
  refine ⟨by omega, by omega, by omega⟩

/-- what mix gives -/
def mixV (a b p : Int) (d : Int) : Int := rnd (a * d + (b - a) * p) d
theorem isQ_up {d : Nat} {p : Int} {w w' : World} {v : Value} (h : IsQ w.heap.size w v p d) (hb : Below w.heap.size w w') : IsQ w'.heap.size w' v p d := (h.below hb).more hb.size
theorem isQ_to {d d' B : Nat} {p p' : Int} {w : World} {v : Value} (h : IsQ B w v p d) (hp : p = p') (hd : d = d') : IsQ B w v p' d' := by subst hp hd; exact h

set_option maxHeartbeats 8000000 in
set_option maxRecDepth 100000 in
theorem mixQ (B d : Nat) (a b p : Int) (v : Value) (w : World) (hB : B ≤ w.heap.size) (ha : 0 ≤ a ∧ a ≤ 65535) (hb : 0 ≤ b ∧ b ≤ 65535) (h : Unit1 p d) (hv : IsQ B w v p d) :
    Calls Try.prog 92 #[.int .i64 a, .int .i64 b, v] w fun e w' => e = .returned (.int .i64 (mixV a b p d)) ∧ Below w.heap.size w w' := by
  obtain ⟨s, ao, L, cap, bo, M, cap2, rfl⟩ := isQ_shape hv
  obtain ⟨m0, m1, m2⟩ := mixS a b p d ha hb h
  have hsT : Sm ((b - a) * p) (1 * d) := by rw [Nat.one_mul]; exact sm_of (e := d) (nat_wide m2) (by omega) h.dB
  have hsA : Sm a 1 := sm_small (by omega)
  have hsB : Sm (b - a) 1 := sm_small (by omega)
  have eT : a * ((1 * d : Nat) : Int) + (b - a) * p * ((1 : Nat) : Int) = a * (d : Int) + (b - a) * p := by rw [Nat.one_mul]; simp
  have hsP : Sm (a * ((1 * d : Nat) : Int) + (b - a) * p * ((1 : Nat) : Int)) (1 * (1 * d)) := by rw [eT, Nat.one_mul, Nat.one_mul]; exact sm_of (e := d) (by omega) (by omega) h.dB
  have hsR : Sm ((a * (d : Int) + (b - a) * p) * 2 + (d : Int)) (d * 2) := sm_of (e := d) (by omega) (by omega) h.dB
  have hbR : ((a * (d : Int) + (b - a) * p) * 2 + (d : Int)).natAbs / (d * 2) ≤ 4611686018427387904 := by
    have : ((a * (d : Int) + (b - a) * p) * 2 + (d : Int)).natAbs ≤ 65536 * (d * 2) := by omega
    have h2 := Nat.div_le_div_right (c := d * 2) this
    rw [Nat.mul_div_cancel _ (by have := h.d0; omega)] at h2
    omega
  have HW1 := Lib.hid (fun W => whole_any a W (by omega) (by omega))
  have HW2 := Lib.hid (fun W => whole_any (b - a) W (by omega) (by omega))
  have HT := Lib.hid (fun (W : World) (u : Value) (hW : Below w.heap.size w W) (hu : IsQ W.heap.size W u (b - a) 1) => timesQ W.heap.size 1 d (b - a) p u _ W (Nat.le_refl _) hsB h.sm hsT hu ((hv.below (hW.mono hB)).more (Nat.le_trans hB hW.size)))
  have HP := Lib.hid (fun (W : World) (u u2 : Value) (hu : IsQ W.heap.size W u a 1) (hu2 : IsQ W.heap.size W u2 ((b - a) * p) (1 * d)) => plusQ W.heap.size 1 (1 * d) a ((b - a) * p) u u2 W (Nat.le_refl _) hsA hsT hsP hu hu2)
  have HR := Lib.hid (fun (W : World) (u : Value) (hu : IsQ W.heap.size W u (a * ((1 * d : Nat) : Int) + (b - a) * p * ((1 : Nat) : Int)) (1 * (1 * d))) => roundQ W.heap.size d _ u W (Nat.le_refl _) (by rw [← eT]; rw [Nat.one_mul, Nat.one_mul] at hsP; rw [Nat.one_mul]; exact hsP) hsR h.d0 hbR (isQ_to hu eT (by rw [Nat.one_mul, Nat.one_mul])))
  have HE := Lib.hid (show rndQ (a * (d : Int) + (b - a) * p) d = mixV a b p d from rndQ_rnd _ _)
  rw [HE.out] at HR
  have hd9 : IntKind.i64.wrap (b - a) = b - a := IntWalk.i64_in _ (by omega)
  clear hsT hsA hsB eT hsP hsR hbR m0 m1 m2 h hv HE
  have KP := Lib.hid (show ∀ W, Below (w.heap.size + 1) (w.alloc (.cells #[.bool s, .slice ao L cap, .slice bo M cap2] 82)) W → (Below (w.heap.size + 1) (w.alloc (.cells #[.bool s, .slice ao L cap, .slice bo M cap2] 82)) W ∧ W.cell? ⟨w.heap.size, 0, none⟩ = some (.bool s) ∧ W.cell? ⟨w.heap.size, 1, none⟩ = some (.slice ao L cap) ∧ W.cell? ⟨w.heap.size, 2, none⟩ = some (.slice bo M cap2)) from fun W hW => by
    have a := (box_new w _ _ _ _).below hW (by omega)
    exact ⟨hW, a.c0, a.c1, a.c2⟩)
  have KB := Lib.hid (show ∀ W, Below (w.heap.size + 1) (w.alloc (.cells #[.bool s, .slice ao L cap, .slice bo M cap2] 82)) W → Below w.heap.size w W ∧ w.heap.size + 1 ≤ W.heap.size from fun W hW => by
    have h1 := hW.size
    simp at h1
    exact ⟨((Below.refl _ _).alloc (Nat.le_refl _) _).trans (hW.mono (by omega)), h1⟩)
  have KT := Lib.hid (show ∀ W W1, Below (w.heap.size + 1) (w.alloc (.cells #[.bool s, .slice ao L cap, .slice bo M cap2] 82)) W → Below W.heap.size W W1 → Below (w.heap.size + 1) (w.alloc (.cells #[.bool s, .slice ao L cap, .slice bo M cap2] 82)) W1 from fun W W1 h1 h2 => h1.trans (h2.mono (KB.out W h1).2))
  go_enter Try.func92, Try.ntmps92
  go_wp2_with fail
  have hw0 : Below (w.heap.size + 1) (w.alloc (.cells #[.bool s, .slice ao L cap, .slice bo M cap2] 82)) (World.drew (w.alloc (.cells #[.bool s, .slice ao L cap, .slice bo M cap2] 82))) := (Below.refl _ _).drew
  go_region_held3 (fun W => Below (w.heap.size + 1) (w.alloc (.cells #[.bool s, .slice ao L cap, .slice bo M cap2] 82)) W ∧ W.cell? ⟨w.heap.size, 0, none⟩ = some (.bool s) ∧ W.cell? ⟨w.heap.size, 1, none⟩ = some (.slice ao L cap) ∧ W.cell? ⟨w.heap.size, 2, none⟩ = some (.slice bo M cap2))
    (first | exact KP.out _ (by assumption) | exact KP.out _ ((Below.refl _ _).drew))
    (first
      | (go_at_call 63; ((with_reducible refine (HW1.out _).mono ?_); rintro e WA ⟨va, rfl, hqa, _, hba⟩; have hwa := KT.out _ _ (by assumption) hba; have HQA := Lib.hid hqa; have HBA := Lib.hid hba; obtain ⟨sa, aoa, La, capa, boa, Ma, capma, rfl⟩ := isQ_shape hqa; clear hqa hba))
      | (go_at_call 63; ((with_reducible refine (HW2.out _).mono ?_); rintro e WB ⟨vb, rfl, hqb, _, hbb⟩; have hwb := KT.out _ _ (by assumption) hbb; have HQB := Lib.hid hqb; have HBB := Lib.hid hbb; obtain ⟨sb, aob, Lb, capb, bob, Mb, capmb, rfl⟩ := isQ_shape hqb; clear hqb hbb))
      | (go_at_call 66; refine (HT.out _ _ (KB.out _ (by assumption)).1 (by first | exact HQB.out | exact isQ_up HQB.out HBA.out)).mono ?_; rintro e WT ⟨vt, rfl, hqt, _, hbt⟩; have hwt := KT.out _ _ (by assumption) hbt; have HQT := Lib.hid hqt; have HBT := Lib.hid hbt; obtain ⟨st, aot, Lt, capt, bot, Mt, capmt, rfl⟩ := isQ_shape hqt; clear hqt hbt)
      | (go_at_call 64; refine (HP.out _ _ _ (by first | exact HQA.out | exact isQ_up HQA.out HBT.out | exact isQ_up (isQ_up HQA.out HBB.out) HBT.out) (by first | exact HQT.out | exact isQ_up HQT.out HBA.out)).mono ?_; rintro e WP ⟨vp, rfl, hqp, _, hbp⟩; have hwp := KT.out _ _ (by assumption) hbp; have HQP := Lib.hid hqp; obtain ⟨sp, aop, Lp, capp, bop, Mp, capmp, rfl⟩ := isQ_shape hqp; clear hqp hbp)
      | (go_at_call 68; refine (HR.out _ _ HQP.out).mono ?_; rintro e WR ⟨rfl, hbr⟩; have hwr := KT.out _ _ hwp hbr; clear hbr)
      | fail)
  all_goals
    have HW3 := Lib.hid (KB.out _ hwr)
    go_wp2
    go_ret
    exact ⟨rfl, HW3.out.1⟩
end Go.Proofs.Yteelomjknllcbaa
