/- Tones of colours: colour.toneOf and the reference's tone; signed, modulo. -/
import Derived.Test.YteelomjknllcbaaColour
import Derived.Test.YteelomjknllcbaaFracEnd
namespace Go.Proofs.Yteelomjknllcbaa
open Go.RowKit
set_option linter.unusedVariables false
set_option linter.unusedSimpArgs false

theorem mod_any (n : Int) : (Int.tmod n 393210 + 393210) % 393210 = n % 393210 := by
  rcases Int.le_total 0 n with h | h
  · rw [Int.tmod_eq_emod_of_nonneg h]
    omega
  · have e : Int.tmod n 393210 = -((-n) % 393210) := by
      rw [← Int.tmod_eq_emod_of_nonneg (show 0 ≤ -n by omega), Int.neg_tmod]
      omega
    rw [e]
    omega
theorem tmod_range (n : Int) : -393210 < Int.tmod n 393210 ∧ Int.tmod n 393210 < 393210 := by
  rcases Int.le_total 0 n with h | h
  · rw [Int.tmod_eq_emod_of_nonneg h]
    omega
  · have e : Int.tmod n 393210 = -((-n) % 393210) := by
      rw [← Int.tmod_eq_emod_of_nonneg (show 0 ≤ -n by omega), Int.neg_tmod]
      omega
    rw [e]
    omega

set_option maxHeartbeats 400000 in
theorem cmod_any (n : Int) (w : World) (h1 : -1000000000000000 ≤ n) (h2 : n ≤ 1000000000000000) :
    Calls Try.prog 57 #[.int .i64 n] w fun e w' => e = .returned (.int .i64 (n % 393210)) ∧ w = w' := by
  go_enter Try.func57, Try.ntmps57
  go_wp2_with fail
  refine (floor_any _ _ _ (by omega) (by omega) (by omega) (by omega)).mono ?_
  rintro e w' ⟨rfl, rfl⟩
  go_wp2
  go_ret
  exact ⟨by simp; omega, rfl⟩
set_option maxHeartbeats 400000 in
theorem rmod_any (n : Int) (w : World) :
    Calls Try.prog 69 #[.int .i64 n, .int .i64 393210] w fun e w' => e = .returned (.int .i64 (n % 393210)) ∧ w = w' := by
  have HM := Lib.hid (mod_any n)
  obtain ⟨t1, t2⟩ := tmod_range n
  generalize hm : Int.tmod n 393210 = m at *
  go_enter Try.func69, Try.ntmps69
  go_wp2
  go_ret
  exact ⟨by rw [← HM.out]; rfl, rfl⟩

/-- a number that is not too long for one division -/
def Mid (a : Int) : Prop := -1000000000000000 ≤ a ∧ a ≤ 1000000000000000
theorem sm_mid {p : Int} {d : Nat} (h1 : p.natAbs ≤ 10000000000000000000000000) (h2 : d ≤ 10000000000000000000000000) : Sm p d :=
  ⟨Nat.lt_of_le_of_lt h1 (by decide), Nat.lt_of_le_of_lt h2 (by decide)⟩
theorem rndQ_rnd' (p : Int) (d : Nat) : rndQ p d = rnd p (d : Int) := by
  unfold rndQ rnd
  rw [Int.natCast_mul, Int.mul_comm p 2, Int.mul_comm (d : Int)]
  rfl
theorem rnd_mid {n d : Int} (hd : 0 < d) (hd2 : d ≤ 10000000000) (h1 : -10000000000 ≤ n) (h2 : n ≤ 10000000000) : -30000000000 ≤ rnd n d ∧ rnd n d ≤ 30000000000 := by
  have := ediv_bounds (2 * n + d) (2 * d) 30000000000 (by omega) (by omega) (by omega) (by omega)
  unfold rnd
  exact this
theorem bt' {a b c : World} (h : Below a.heap.size a b) (k : Below b.heap.size b c) : Below a.heap.size a c := h.trans (k.mono h.size)
theorem isQ_lift {d : Nat} {p : Int} {w w' : World} {v : Value} (h : IsQ w.heap.size w v p d) (hb : Below w.heap.size w w') : IsQ w'.heap.size w' v p d := (h.below hb).more hb.size
theorem newQ_is {p p' : Int} {d d' : Nat} {w w' : World} {e : Ending} (h : NewQ p d w e w') (hp : p = p') (hd : d = d') : NewQ p' d' w e w' := by subst hp hd; exact h

set_option maxHeartbeats 400000 in
theorem signed_any (a : Int) (d : Nat) (w : World) (ha : Mid a) (hd : 0 < d) (hd2 : d ≤ 1000000000000000) :
    Calls Try.prog 81 #[.int .i64 a, .int .i64 d] w fun e w' => e = .returned (.int .i64 (rnd a d)) ∧ Below w.heap.size w w' := by
  unfold Mid at ha
  have HW1 := Lib.hid (fun W => whole_any a W (by omega) (by omega))
  have HW2 := Lib.hid (fun W => whole_any (d : Int) W (by omega) (by omega))
  have s1 : Sm a 1 := sm_mid (by omega) (by omega)
  have s2 : Sm (d : Int) 1 := sm_mid (by omega) (by omega)
  have s3 : Sm a d := sm_mid (by omega) (by omega)
  have s4 : Sm (a * 2 + d) (d * 2) := sm_mid (by omega) (by omega)
  have m1 : a * ((1 : Nat) : Int) = a := Int.mul_one a
  have HO := Lib.hid (fun (W : World) (u u2 : Value) (hu : IsQ W.heap.size W u a 1) (hu2 : IsQ W.heap.size W u2 (d : Int) 1) => (overQ W.heap.size 1 1 a d u u2 W (Nat.le_refl _) s1 s2 hd (by rw [m1, Nat.one_mul]; exact s3) hu hu2).mono fun e w' k => newQ_is k m1 (Nat.one_mul _))
  have HR := Lib.hid (fun (W : World) (u : Value) (hu : IsQ W.heap.size W u a d) => roundQ W.heap.size d a u W (Nat.le_refl _) s3 s4 hd (Nat.le_trans (Nat.div_le_self _ _) (by omega)) hu)
  rw [rndQ_rnd'] at HR
  clear s1 s2 s3 s4 m1 ha hd hd2
  go_enter Try.func81, Try.ntmps81
  go_wp2_with fail
  refine (HW1.out _).mono ?_
  rintro e w1 ⟨v1, rfl, hq1, _, hb1⟩
  have HQ1 := Lib.hid hq1
  have HB1 := Lib.hid hb1
  clear hq1 hb1
  go_wp2_with fail
  refine (HW2.out _).mono ?_
  rintro e w2 ⟨v2, rfl, hq2, _, hb2⟩
  have HQ2 := Lib.hid hq2
  have HB2 := Lib.hid hb2
  clear hq2 hb2
  go_wp2_with fail
  refine (HO.out _ _ _ (isQ_lift HQ1.out HB2.out) HQ2.out).mono ?_
  rintro e w3 ⟨v3, rfl, hq3, _, hb3⟩
  have HQ3 := Lib.hid hq3
  have HB3 := Lib.hid hb3
  clear hq3 hb3
  go_wp2_with fail
  refine (HR.out _ _ HQ3.out).mono ?_
  rintro e w4 ⟨rfl, hb4⟩
  have HB4 := Lib.hid hb4
  clear hb4
  go_wp2
  go_ret
  exact ⟨rfl, bt' (bt' (bt' HB1.out HB2.out) HB3.out) HB4.out⟩
end Go.Proofs.Yteelomjknllcbaa
