/- colour.distance: the sum of three weighed squares. -/
import Derived.Test.YtpmiinamaofnnaaColour
namespace Go.Proofs.Ytpmiinamaofnnaa
open Go.RowKit
set_option linter.unusedVariables false
set_option linter.unusedSimpArgs false

def distV (r g b r' g' b' : Int) : Int := 2 * (r - r') * (r - r') + 4 * (g - g') * (g - g') + 3 * (b - b') * (b - b')
/-- a square of a step of levels, weighed by at most 4, leaves room -/
theorem sq_fits {k x : Int} (hk0 : 0 ≤ k) (hk : k ≤ 4) (h1 : -65535 ≤ x) (h2 : x ≤ 65535) : 0 ≤ k * x * x ∧ k * x * x ≤ 17179344900 := by
  have a1 : 0 ≤ x * x := by
    rcases Int.le_total 0 x with h | h
    · exact Int.mul_nonneg h h
    · exact Int.mul_nonneg_of_nonpos_of_nonpos h h
  have a2 : x * x ≤ 65535 * 65535 := by
    have hn : x.natAbs ≤ 65535 := by omega
    have := Nat.mul_le_mul hn hn
    have e : ((x.natAbs * x.natAbs : Nat) : Int) = x * x := Int.natAbs_mul_self
    omega
  rw [Int.mul_assoc]
  refine ⟨Int.mul_nonneg hk0 a1, ?_⟩
  have b1 := Int.mul_le_mul_of_nonneg_right hk a1
  omega
set_option maxRecDepth 100000 in
set_option maxHeartbeats 4000000 in
theorem distance_any (r g b r' g' b' : Int) (w : World) (h1 : LvOkC r) (h2 : LvOkC g) (h3 : LvOkC b) (h4 : LvOkC r') (h5 : LvOkC g') (h6 : LvOkC b') :
    Calls Try.prog 20 #[.agg #[.int .i64 r, .int .i64 g, .int .i64 b], .agg #[.int .i64 r', .int .i64 g', .int .i64 b']] w fun e w' => e = .returned (.int .i64 (distV r g b r' g' b')) ∧ Below w.heap.size w w' := by
  unfold LvOkC at h1 h2 h3 h4 h5 h6
  obtain ⟨x, hx⟩ : ∃ x, r - r' = x := ⟨_, rfl⟩
  obtain ⟨y, hy⟩ : ∃ y, g - g' = y := ⟨_, rfl⟩
  obtain ⟨z, hz⟩ : ∃ z, b - b' = z := ⟨_, rfl⟩
  obtain ⟨p, hp⟩ : ∃ p, 2 * x * x = p := ⟨_, rfl⟩
  obtain ⟨q, hq⟩ : ∃ q, 4 * y * y = q := ⟨_, rfl⟩
  obtain ⟨s, hs⟩ : ∃ s, 3 * z * z = s := ⟨_, rfl⟩
  have hp1 := sq_fits (k := 2) (x := x) (by omega) (by omega) (by omega) (by omega)
  have hq1 := sq_fits (k := 4) (x := y) (by omega) (by omega) (by omega) (by omega)
  have hs1 := sq_fits (k := 3) (x := z) (by omega) (by omega) (by omega) (by omega)
  rw [hp] at hp1
  rw [hq] at hq1
  rw [hs] at hs1
  have hx1 : -65535 ≤ x ∧ x ≤ 65535 := by omega
  have hy1 : -65535 ≤ y ∧ y ≤ 65535 := by omega
  have hz1 : -65535 ≤ z ∧ z ≤ 65535 := by omega
  have HV := Lib.hid (show distV r g b r' g' b' = p + q + s by unfold distV; rw [hx, hy, hz, hp, hq, hs])
  obtain ⟨p0, p1⟩ := hp1
  obtain ⟨q0, q1⟩ := hq1
  obtain ⟨s0, s1⟩ := hs1
  obtain ⟨x0, x1⟩ := hx1
  obtain ⟨y0, y1⟩ := hy1
  obtain ⟨z0, z1⟩ := hz1
  clear h1 h2 h3 h4 h5 h6
  go_enter Try.func20, Try.ntmps20
  go_upto_region 1 with fail
  go_cut [5, 6, 7] (fun s5 s6 s7 wx => s5 = .int .i64 x ∧ s6 = .int .i64 y ∧ s7 = .int .i64 z ∧ Hid (Below w.heap.size w wx))
  case first =>
    go_region
    all_goals go_wp2_with fail
    all_goals go_meet
    all_goals exact ⟨by first | rfl | rw [hx], by first | rfl | rw [hy], by first | rfl | rw [hz], Lib.hid (by repeat' first | exact Below.refl _ _ | apply Below.drew | refine Below.alloc ?_ (by simp <;> omega) _)⟩
  case rest =>
  obtain ⟨rfl, rfl, rfl, HBL⟩ := hcut
  go_wp2_with fail
  go_ret
  exact ⟨by rw [HV.out]; rfl, HBL.out⟩
end Go.Proofs.Ytpmiinamaofnnaa
