/- How far the way of an effect is done, as numbers: two numbers for each form, the first one no greater. No walk in it. -/
import Derived.Test.YtopmdeefcjdadaaT29M26
import Derived.Test.YtopmdeefcjdadaaT29M12

namespace Go.Proofs.Ytopmdeefcjdadaa
open Go.RowKit
set_option linter.unusedVariables false
set_option linter.unusedSimpArgs false

def wvP (form width : Int) (l : List Stp) (c pn pd pk index : Int) : Int × Int :=
  if form = 1 then (peakV pn pd, pd) else if form = 2 then (pn, pd) else if form = 3 then (pd - pn, pd) else if form = 4 then (sqN width pn pd, 1)
  else if form = 5 then (peakV pn pd * (peakV pn pd * (3 * pd - 2 * peakV pn pd)), pd * (pd * pd)) else if form = 6 then (chN index pk, 65536) else stW l (pn * c) pd l.length 0 0
/-- two numbers that are a way: the first one no greater, both no larger than what has room -/
def WayOk (x : Int × Int) : Prop := 0 ≤ x.1 ∧ x.1 ≤ x.2 ∧ 1 ≤ x.2 ∧ x.2 ≤ 1000000000000000000 * (1000000000000000000 * 1000000000000000000)
theorem soft_ok {u d : Int} (h0 : 0 ≤ u) (h1 : u ≤ d) : 0 ≤ u * (u * (3 * d - 2 * u)) ∧ u * (u * (3 * d - 2 * u)) ≤ d * (d * d) := by
  refine ⟨Int.mul_nonneg h0 (Int.mul_nonneg h0 (by omega)), ?_⟩
  obtain ⟨x, rfl⟩ : ∃ x, d = u + x := ⟨d - u, by omega⟩
  have hx : 0 ≤ x := by omega
  have e : (u + x) * ((u + x) * (u + x)) = u * (u * (3 * (u + x) - 2 * u)) + (3 * (u * (x * x)) + x * (x * x)) := by grind
  have h2 : 0 ≤ u * (x * x) := Int.mul_nonneg h0 (Int.mul_nonneg hx hx)
  have h3 : 0 ≤ x * (x * x) := Int.mul_nonneg hx (Int.mul_nonneg hx hx)
  omega
theorem stW_ok {L : List Stp} (hL : 0 < L.length) (hA : ∀ k (h : k < L.length), (0 ≤ L[k].lv ∧ L[k].lv ≤ 65535) ∧ (0 ≤ L[k].hold ∧ L[k].hold ≤ 3600000) ∧ 0 ≤ L[k].fade ∧ L[k].fade ≤ 3600000) {p d : Int} (hd : 1 ≤ d) (hd9 : d ≤ 1000000000000000) :
    ∀ (c j : Nat) (b : Int), j + c = L.length → WayOk (stW L p d c j b)
  | 0, j, b, _ => by unfold stW WayOk; simp
  | c + 1, j, b, h => by
    have hj : j < L.length := by omega
    have hn : (j + 1) % L.length < L.length := Nat.mod_lt _ hL
    obtain ⟨⟨l0, l1⟩, ⟨h0, h1⟩, f0, f1⟩ := hA j hj
    obtain ⟨⟨m0, m1⟩, _⟩ := hA _ hn
    unfold stW
    rw [stAt_get hj, stAt_get hn]
    split
    · unfold WayOk; simp only; omega
    · split
      · rename_i g1 g2
        have hadd : d * (b + L[j].hold + L[j].fade) = d * (b + L[j].hold) + d * L[j].fade := Int.mul_add _ _ _
        have hw : d * L[j].fade ≤ 1000000000000000 * 3600000 := Int.le_trans (Int.mul_le_mul_of_nonneg_right hd9 f0) (Int.mul_le_mul_of_nonneg_left f1 (by omega))
        have hz0 : 0 ≤ p - d * (b + L[j].hold) := by omega
        have hzw : p - d * (b + L[j].hold) < d * L[j].fade := by omega
        generalize d * L[j].fade = wh at *
        generalize p - d * (b + L[j].hold) = zz at *
        have k1 : 0 ≤ (wh - zz) * L[j].lv := Int.mul_nonneg (by omega) l0
        have k2 : 0 ≤ zz * L[(j + 1) % L.length].lv := Int.mul_nonneg hz0 m0
        have k3 : (wh - zz) * L[j].lv ≤ (wh - zz) * 65535 := Int.mul_le_mul_of_nonneg_left l1 (by omega)
        have k4 : zz * L[(j + 1) % L.length].lv ≤ zz * 65535 := Int.mul_le_mul_of_nonneg_left m1 hz0
        unfold WayOk
        simp only
        omega
      · exact stW_ok hL hA hd hd9 c (j + 1) _ (by omega)
theorem wvP_ok {form width : Int} {l : List Stp} {c pn pd pk index : Int} (hf : 1 ≤ form ∧ form ≤ 7) (h7 : form = 7 → 0 < l.length) (hall : l.all stpB = true) (n0 : 0 ≤ pn) (n1 : pn ≤ pd) (d0 : 1 ≤ pd) (d1 : pd ≤ 1000000000000000) : WayOk (wvP form width l c pn pd pk index) := by
  obtain ⟨p0, p1⟩ := peakV_range n0 n1
  have hA := fun k (h : k < l.length) => stpB_le (List.all_eq_true.1 hall _ (List.getElem_mem h))
  unfold wvP
  by_cases h : form = 7
  · subst h
    rw [if_neg (by decide), if_neg (by decide), if_neg (by decide), if_neg (by decide), if_neg (by decide), if_neg (by decide)]
    exact stW_ok (h7 rfl) hA d0 d1 _ _ _ (by omega)
  by_cases h1 : form = 1
  · rw [if_pos h1]; unfold WayOk; simp only; omega
  rw [if_neg h1]
  by_cases h2 : form = 2
  · rw [if_pos h2]; unfold WayOk; simp only; omega
  rw [if_neg h2]
  by_cases h3 : form = 3
  · rw [if_pos h3]; unfold WayOk; simp only; omega
  rw [if_neg h3]
  by_cases h4 : form = 4
  · rw [if_pos h4]; unfold WayOk sqN; simp only; split <;> omega
  rw [if_neg h4]
  by_cases h5 : form = 5
  · rw [if_pos h5]
    obtain ⟨s0, s1⟩ := soft_ok p0 p1
    have k1 := mul_both (a := pd) (b := pd) (A := 1000000000000000) (B := 1000000000000000) (by omega) (by omega) (by omega) (by omega)
    have k2 := mul_both (a := pd) (b := pd * pd) (A := 1000000000000000) (B := 1000000000000000 * 1000000000000000) (by omega) k1.1 (by omega) k1.2
    have k3 : 1 ≤ pd * (pd * pd) := by
      have a1 : 1 * 1 ≤ pd * pd := Int.mul_le_mul d0 d0 (by omega) (by omega)
      have a2 : 1 * (1 * 1) ≤ pd * (pd * pd) := Int.mul_le_mul d0 a1 (by omega) (by omega)
      omega
    unfold WayOk
    simp only
    exact ⟨s0, Int.le_trans s1 (Int.le_refl _), k3, by omega⟩
  rw [if_neg h5, if_pos (by omega)]
  obtain ⟨c0, c1⟩ := chN_range index pk
  unfold WayOk
  simp only
  omega
/-- the way as a level -/
def wayV (x : Int × Int) : Int := (x.1 * 131070 + x.2) / (2 * x.2)
theorem wayV_unique {x : Int × Int} (h : WayOk x) {r : Int} (r0 : 0 ≤ r) (r1 : r ≤ 65535) (h1 : 0 < r → ¬ (x.1 * 131070 + x.2 < x.2 * (2 * r))) (h2 : r < 65535 → x.1 * 131070 + x.2 < x.2 * (2 * (r + 1))) : r = wayV x := by
  obtain ⟨a0, a1, a2, _⟩ := h
  obtain ⟨N, D⟩ := x
  simp only at *
  unfold wayV
  simp only
  have e1 : D * (2 * r) = r * (2 * D) := by grind
  have e2 : D * (2 * (r + 1)) = (r + 1) * (2 * D) := by grind
  rw [e1] at h1
  rw [e2] at h2
  have lo : r ≤ (N * 131070 + D) / (2 * D) := by
    rw [Int.le_ediv_iff_mul_le (by omega)]
    by_cases c : 0 < r
    · have := h1 c; omega
    · have : r = 0 := by omega
      subst this
      omega
  have hi : (N * 131070 + D) / (2 * D) < r + 1 := by
    rw [Int.ediv_lt_iff_lt_mul (by omega)]
    by_cases c : r < 65535
    · exact h2 c
    · have hr : r = 65535 := by omega
      subst hr
      have : (65535 + 1) * (2 * D) = 131072 * D := by omega
      omega
  omega
end Go.Proofs.Ytopmdeefcjdadaa
