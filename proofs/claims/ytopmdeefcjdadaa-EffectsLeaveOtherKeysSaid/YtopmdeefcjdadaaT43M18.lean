/- How far the way of an effect is done, as numbers: two numbers for each form, the first one no greater. No walk in it. What an effect without a fault has (cut out of XEfShow). (printed by wip/gen/gen_waytop.py) What running effects make of settings: plain data. No walk in it. -/
import Derived.Test.YtopmdeefcjdadaaT43M17
import Derived.Test.YtopmdeefcjdadaaT43M10
import Derived.Test.YtopmdeefcjdadaaT43M12

namespace Go.Proofs.Ytopmdeefcjdadaa
open Go.RowKit
set_option linter.unusedVariables false
set_option linter.unusedSimpArgs false

def wvP (form width : Int) (l : List Stp) (c pn pd pk index : Int) : Int × Int :=
  if form = 1 then (peakV pn pd, pd) else if form = 2 then (pn, pd) else if form = 3 then (pd - pn, pd) else if form = 4 then (sqN width pn pd, 1)
  else if form = 5 then (peakV pn pd * (peakV pn pd * (3 * pd - 2 * peakV pn pd)), pd * (pd * pd)) else if form = 6 then (chN index pk, 65536) else stW l (pn * c) pd l.length 0 0
/-- two numbers that are a way: the first one no greater, both no larger than what has room -/
def WayOk (x : Int × Int) : Prop := 0 ≤ x.1 ∧ x.1 ≤ x.2 ∧ 1 ≤ x.2 ∧ x.2 ≤ 1000000000000000000 * (1000000000000000000 * 1000000000000000000)
theorem soft_ok {u d : Int} (h0 : 0 ≤ u) (h1 : u ≤ d) : 0 ≤ u * (u * (3 * d - 2 * u)) ∧ u * (u * (3 * d - 2 * u)) ≤ d * (d * d) := by
  refine ⟨Int.mul_nonneg h0 (Int.mul_nonneg h0 (by omega)), ?_⟩
  obtain ⟨x, rfl⟩ : ∃ x, d = u + x := ⟨d - u, by omega⟩
  have hx : 0 ≤ x := by omega
  have e : (u + x) * ((u + x) * (u + x)) = u * (u * (3 * (u + x) - 2 * u)) + (3 * (u * (x * x)) + x * (x * x)) := by grind
  have h2 : 0 ≤ u * (x * x) := Int.mul_nonneg h0 (Int.mul_nonneg hx hx)
  have h3 : 0 ≤ x * (x * x) := Int.mul_nonneg hx (Int.mul_nonneg hx hx)
  omega
theorem stW_ok {L : List Stp} (hL : 0 < L.length) (hA : ∀ k (h : k < L.length), (0 ≤ L[k].lv ∧ L[k].lv ≤ 65535) ∧ (0 ≤ L[k].hold ∧ L[k].hold ≤ 3600000) ∧ 0 ≤ L[k].fade ∧ L[k].fade ≤ 3600000) {p d : Int} (hd : 1 ≤ d) (hd9 : d ≤ 1000000000000000) :
    ∀ (c j : Nat) (b : Int), j + c = L.length → WayOk (stW L p d c j b)
  | 0, j, b, _ => by unfold stW WayOk; simp
  | c + 1, j, b, h => by
    have hj : j < L.length := by omega
    have hn : (j + 1) % L.length < L.length := Nat.mod_lt _ hL
    obtain ⟨⟨l0, l1⟩, ⟨h0, h1⟩, f0, f1⟩ := hA j hj
    obtain ⟨⟨m0, m1⟩, _⟩ := hA _ hn
    unfold stW
    rw [stAt_get hj, stAt_get hn]
    split
    · unfold WayOk; simp only; omega
    · split
      · rename_i g1 g2
        have hadd : d * (b + L[j].hold + L[j].fade) = d * (b + L[j].hold) + d * L[j].fade := Int.mul_add _ _ _
        have hw : d * L[j].fade ≤ 1000000000000000 * 3600000 := Int.le_trans (Int.mul_le_mul_of_nonneg_right hd9 f0) (Int.mul_le_mul_of_nonneg_left f1 (by omega))
        have hz0 : 0 ≤ p - d * (b + L[j].hold) := by omega
        have hzw : p - d * (b + L[j].hold) < d * L[j].fade := by omega
        generalize d * L[j].fade = wh at *
        generalize p - d * (b + L[j].hold) = zz at *
        have k1 : 0 ≤ (wh - zz) * L[j].lv := Int.mul_nonneg (by omega) l0
        have k2 : 0 ≤ zz * L[(j + 1) % L.length].lv := Int.mul_nonneg hz0 m0
        have k3 : (wh - zz) * L[j].lv ≤ (wh - zz) * 65535 := Int.mul_le_mul_of_nonneg_left l1 (by omega)
        have k4 : zz * L[(j + 1) % L.length].lv ≤ zz * 65535 := Int.mul_le_mul_of_nonneg_left m1 hz0
        unfold WayOk
        simp only
        omega
      · exact stW_ok hL hA hd hd9 c (j + 1) _ (by omega)
theorem wvP_ok {form width : Int} {l : List Stp} {c pn pd pk index : Int} (hf : 1 ≤ form ∧ form ≤ 7) (h7 : form = 7 → 0 < l.length) (hall : l.all stpB = true) (n0 : 0 ≤ pn) (n1 : pn ≤ pd) (d0 : 1 ≤ pd) (d1 : pd ≤ 1000000000000000) : WayOk (wvP form width l c pn pd pk index) := by
  obtain ⟨p0, p1⟩ := peakV_range n0 n1
  have hA := fun k (h : k < l.length) => stpB_le (List.all_eq_true.1 hall _ (List.getElem_mem h))
  unfold wvP
  by_cases h : form = 7
  · subst h
    rw [if_neg (by decide), if_neg (by decide), if_neg (by decide), if_neg (by decide), if_neg (by decide), if_neg (by decide)]
    exact stW_ok (h7 rfl) hA d0 d1 _ _ _ (by omega)
  by_cases h1 : form = 1
  · rw [if_pos h1]; unfold WayOk; simp only; omega
  rw [if_neg h1]
  by_cases h2 : form = 2
  · rw [if_pos h2]; unfold WayOk; simp only; omega
  rw [if_neg h2]
  by_cases h3 : form = 3
  · rw [if_pos h3]; unfold WayOk; simp only; omega
  rw [if_neg h3]
  by_cases h4 : form = 4
  · rw [if_pos h4]; unfold WayOk sqN; simp only; split <;> omega
  rw [if_neg h4]
  by_cases h5 : form = 5
  · rw [if_pos h5]
    obtain ⟨s0, s1⟩ := soft_ok p0 p1
    have k1 := mul_both (a := pd) (b := pd) (A := 1000000000000000) (B := 1000000000000000) (by omega) (by omega) (by omega) (by omega)
    have k2 := mul_both (a := pd) (b := pd * pd) (A := 1000000000000000) (B := 1000000000000000 * 1000000000000000) (by omega) k1.1 (by omega) k1.2
    have k3 : 1 ≤ pd * (pd * pd) := by
      have a1 : 1 * 1 ≤ pd * pd := Int.mul_le_mul d0 d0 (by omega) (by omega)
      have a2 : 1 * (1 * 1) ≤ pd * (pd * pd) := Int.mul_le_mul d0 a1 (by omega) (by omega)
      omega
    unfold WayOk
    simp only
    exact ⟨s0, Int.le_trans s1 (Int.le_refl _), k3, by omega⟩
  rw [if_neg h5, if_pos (by omega)]
  obtain ⟨c0, c1⟩ := chN_range index pk
  unfold WayOk
  simp only
  omega
/-- the way as a level -/
def wayV (x : Int × Int) : Int := (x.1 * 131070 + x.2) / (2 * x.2)
theorem wayV_unique {x : Int × Int} (h : WayOk x) {r : Int} (r0 : 0 ≤ r) (r1 : r ≤ 65535) (h1 : 0 < r → ¬ (x.1 * 131070 + x.2 < x.2 * (2 * r))) (h2 : r < 65535 → x.1 * 131070 + x.2 < x.2 * (2 * (r + 1))) : r = wayV x := by
  obtain ⟨a0, a1, a2, _⟩ := h
  obtain ⟨N, D⟩ := x
  simp only at *
  unfold wayV
  simp only
  have e1 : D * (2 * r) = r * (2 * D) := by grind
  have e2 : D * (2 * (r + 1)) = (r + 1) * (2 * D) := by grind
  rw [e1] at h1
  rw [e2] at h2
  have lo : r ≤ (N * 131070 + D) / (2 * D) := by
    rw [Int.le_ediv_iff_mul_le (by omega)]
    by_cases c : 0 < r
    · have := h1 c; omega
    · have : r = 0 := by omega
      subst this
      omega
  have hi : (N * 131070 + D) / (2 * D) < r + 1 := by
    rw [Int.ediv_lt_iff_lt_mul (by omega)]
    by_cases c : r < 65535
    · exact h2 c
    · have hr : r = 65535 := by omega
      subst hr
      have : (65535 + 1) * (2 * D) = 131072 * D := by omega
      omega
  omega
end Go.Proofs.Ytopmdeefcjdadaa

namespace Go.Proofs.Ytopmdeefcjdadaa
open Go.RowKit
set_option linter.unusedVariables false
set_option linter.unusedSimpArgs false
theorem chkE_zero {form low high cycle width spread : Int} {l : List Stp} (h : chkF form low high cycle width spread l = 0) :
    (1 ≤ form ∧ form ≤ 7) ∧ (0 ≤ low ∧ low ≤ 65535) ∧ (0 ≤ high ∧ high ≤ 65535) ∧ low ≤ high ∧ (0 ≤ cycle ∧ cycle ≤ 3600000) ∧ (0 ≤ width ∧ width ≤ 1000) ∧ (-10000 ≤ spread ∧ spread ≤ 10000) ∧ l.length ≤ 50 ∧ l.all stpB = true ∧ (form ≠ 7 → l.length = 0) ∧ (form = 7 → cycle = 0) := by
  have e0 : 1 ≤ form ∧ form ≤ 7 := by
    by_cases c : inR form 1 7 = true
    · simpa [inR] using c
    · simp [chkF, chkB, c] at h
  by_cases f7 : form = 7
  · subst f7
    simp only [chkF, chkB] at h
    have fb : inR 7 1 7 = true := by decide
    rw [fb] at h
    simp only [Bool.not_true, Bool.false_eq_true, if_false, beq_self_eq_true, Bool.true_and, Bool.not_false, Bool.false_and, Bool.or_false] at h
    split at h
    · omega
    · rename_i h1
      split at h
      · omega
      · rename_i h2
        split at h
        · omega
        · rename_i h3
          split at h
          · omega
          · split at h
            · omega
            · rename_i h5
              split at h
              · omega
              · rename_i h6
                simp [inR] at h1 h2 h3 h5 h6
                have hc : cycle = 0 := by omega
                refine ⟨e0, by omega, by omega, by omega, by omega, by omega, by omega, by omega, by simpa using h6, by omega, fun _ => hc⟩
  · simp only [chkF, chkB] at h
    have fb : inR form 1 7 = true := by simpa [inR] using e0
    have g7 : (form == 7) = false := by simpa using f7
    rw [fb, g7] at h
    simp only [Bool.not_true, Bool.false_eq_true, if_false, Bool.false_and, Bool.or_false, Bool.not_false, Bool.true_and] at h
    split at h
    · omega
    · rename_i h1
      split at h
      · omega
      · rename_i h2
        split at h
        · omega
        · rename_i h3
          simp [inR] at h1 h2 h3
          have hl : l.length = 0 := by
            have := h1.2
            simpa using this
          have hn : l = [] := List.length_eq_zero_iff.1 hl
          refine ⟨e0, by omega, by omega, by omega, by omega, by omega, by omega, by omega, by rw [hn]; rfl, fun _ => hl, fun h => absurd h f7⟩
end Go.Proofs.Ytopmdeefcjdadaa

namespace Go.Proofs.Ytopmdeefcjdadaa
open Go.RowKit
set_option linter.unusedVariables false
set_option linter.unusedSimpArgs false

/-! ### numbers -/
def clampL (n : Int) : Int := if n < 0 then 0 else if 65535 < n then 65535 else n
theorem clampL_range (n : Int) : 0 ≤ clampL n ∧ clampL n ≤ 65535 := by unfold clampL; split <;> (try split) <;> omega
theorem clamp_unique {N D r : Int} (hD : 0 < D) (r0 : 0 ≤ r) (r1 : r ≤ 65535) (h1 : 0 < r → r * D ≤ N) (h2 : r < 65535 → N < (r + 1) * D) : r = clampL (N / D) := by
  unfold clampL
  by_cases c : N / D < 0
  · rw [if_pos c]
    by_cases d : 0 < r
    · have := (Int.le_ediv_iff_mul_le hD).2 (h1 d)
      omega
    · omega
  · rw [if_neg c]
    by_cases d : 65535 < N / D
    · rw [if_pos d]
      by_cases e : r < 65535
      · have := (Int.ediv_lt_iff_lt_mul hD).2 (h2 e)
        omega
      · omega
    · rw [if_neg d]
      have a1 : r ≤ N / D := by
        by_cases e : 0 < r
        · exact (Int.le_ediv_iff_mul_le hD).2 (h1 e)
        · omega
      have a2 : N / D ≤ r := by
        by_cases e : r < 65535
        · have := (Int.ediv_lt_iff_lt_mul hD).2 (h2 e)
          omega
        · omega
      omega
/-- the two numbers whose quotient a moved level is, ahead of the bounds -/
def movN (rel : Bool) (low high b : Int) (w s : Int × Int) : Int :=
  if rel then w.2 * s.2 * (2 * b) + s.1 * w.1 * (2 * (high - low)) + w.2 * s.2 - s.1 * w.2 * (high - low)
  else ((s.2 - s.1) * w.2 * b + s.1 * (w.2 * low + w.1 * (high - low))) * 2 + w.2 * s.2
def movV (rel : Bool) (low high b : Int) (w s : Int × Int) : Int := clampL (movN rel low high b w s / (2 * (w.2 * s.2)))
theorem movV_rel {low high b : Int} {w s : Int × Int} {r : Int} (hd : 0 < w.2 * s.2) (r0 : 0 ≤ r) (r1 : r ≤ 65535)
    (h1 : 0 < r → ¬ w.2 * s.2 * (2 * b) + s.1 * w.1 * (2 * (high - low)) + w.2 * s.2 < w.2 * s.2 * (2 * r) + s.1 * w.2 * (high - low))
    (h2 : r < 65535 → w.2 * s.2 * (2 * b) + s.1 * w.1 * (2 * (high - low)) + w.2 * s.2 < w.2 * s.2 * (2 * (r + 1)) + s.1 * w.2 * (high - low)) : r = movV true low high b w s := by
  unfold movV
  refine clamp_unique (by omega) r0 r1 (fun h => ?_) (fun h => ?_)
  · have := h1 h
    simp only [movN, if_true]
    have e : r * (2 * (w.2 * s.2)) = w.2 * s.2 * (2 * r) := by grind
    omega
  · have := h2 h
    simp only [movN, if_true]
    have e : (r + 1) * (2 * (w.2 * s.2)) = w.2 * s.2 * (2 * (r + 1)) := by grind
    omega
theorem movV_abs {low high b : Int} {w s : Int × Int} {r : Int} (hd : 0 < w.2 * s.2) (r0 : 0 ≤ r) (r1 : r ≤ 65535)
    (h1 : 0 < r → ¬ ((s.2 - s.1) * w.2 * b + s.1 * (w.2 * low + w.1 * (high - low))) * 2 + w.2 * s.2 < w.2 * s.2 * (2 * r))
    (h2 : r < 65535 → ((s.2 - s.1) * w.2 * b + s.1 * (w.2 * low + w.1 * (high - low))) * 2 + w.2 * s.2 < w.2 * s.2 * (2 * (r + 1))) : r = movV false low high b w s := by
  unfold movV
  refine clamp_unique (by omega) r0 r1 (fun h => ?_) (fun h => ?_)
  · have := h1 h
    simp only [movN, Bool.false_eq_true, if_false]
    have e : r * (2 * (w.2 * s.2)) = w.2 * s.2 * (2 * r) := by grind
    omega
  · have := h2 h
    simp only [movN, Bool.false_eq_true, if_false]
    have e : (r + 1) * (2 * (w.2 * s.2)) = w.2 * s.2 * (2 * (r + 1)) := by grind
    omega
/-- an effect at its full size, not relative: from Low to High -/
theorem movV_full {low high b : Int} {w : Int × Int} (hw : WayOk w) (h : low ≤ high) (l0 : 0 ≤ low) (h1 : high ≤ 65535) : low ≤ movV false low high b w (1, 1) ∧ movV false low high b w (1, 1) ≤ high := by
  obtain ⟨a0, a1, a2, _⟩ := hw
  obtain ⟨n, d⟩ := w
  simp only at a0 a1 a2
  unfold movV movN
  simp only [Bool.false_eq_true, if_false, Int.mul_one, Int.one_mul, Int.sub_self, Int.zero_mul, Int.zero_add]
  have k0 : 0 ≤ n * (high - low) := Int.mul_nonneg a0 (by omega)
  have k1 : n * (high - low) ≤ d * (high - low) := Int.mul_le_mul_of_nonneg_right a1 (by omega)
  have k2 : d * (high - low) = d * high - d * low := Int.mul_sub _ _ _
  have lo : low ≤ ((d * low + n * (high - low)) * 2 + d) / (2 * d) := by
    rw [Int.le_ediv_iff_mul_le (by omega)]
    have : low * (2 * d) = d * low * 2 := by grind
    omega
  have hi : ((d * low + n * (high - low)) * 2 + d) / (2 * d) < high + 1 := by
    rw [Int.ediv_lt_iff_lt_mul (by omega)]
    have : (high + 1) * (2 * d) = d * high * 2 + 2 * d := by grind
    omega
  unfold clampL
  rw [if_neg (by omega), if_neg (by omega)]
  omega
/-- how much of a running effect is there -/
def sizV (start tin tend tout t : Int) : Int × Int :=
  if tend ≠ -1 ∧ tend < t then ((if t - start < tin then t - start else 1) * (tend + tout - t), (if t - start < tin then tin else 1) * tout) else (if t - start < tin then t - start else 1, if t - start < tin then tin else 1)
/-- two numbers that are a size -/
def SizeOk (s : Int × Int) : Prop := 0 ≤ s.1 ∧ s.1 ≤ s.2 ∧ 1 ≤ s.2 ∧ s.2 ≤ 10000000000000000
def goneB (x : Run) (t : Int) : Bool := decide (t < x.start) || (decide (x.tend ≠ -1) && decide (x.tend + x.tout ≤ t))
theorem sizV_ok {start tin tend tout t : Int} (h0 : start ≤ t) (hi : 0 ≤ tin ∧ tin ≤ 36000000) (ho : 0 ≤ tout ∧ tout ≤ 36000000) (hg : tend = -1 ∨ t < tend + tout) : SizeOk (sizV start tin tend tout t) := by
  unfold sizV SizeOk
  have a : ∀ n d : Int, 0 ≤ n → n ≤ d → 1 ≤ d → d ≤ 36000000 → tend ≠ -1 ∧ tend < t → 0 ≤ n * (tend + tout - t) ∧ n * (tend + tout - t) ≤ d * tout ∧ 1 ≤ d * tout ∧ d * tout ≤ 10000000000000000 := by
    intro n d n0 n1 d0 d1 hc
    have h1 : 0 < tend + tout - t := by rcases hg with h | h <;> omega
    have k1 : n * (tend + tout - t) ≤ d * (tend + tout - t) := Int.mul_le_mul_of_nonneg_right n1 (by omega)
    have k2 : d * (tend + tout - t) ≤ d * tout := Int.mul_le_mul_of_nonneg_left (by omega) (by omega)
    have k3 : d * tout ≤ 36000000 * 36000000 := mul_both (by omega) (by omega) d1 ho.2 |>.2
    have k4 : 1 * 1 ≤ d * tout := Int.mul_le_mul d0 (by omega) (by omega) (by omega)
    exact ⟨Int.mul_nonneg n0 (by omega), by omega, by omega, by omega⟩
  by_cases c : tend ≠ -1 ∧ tend < t
  · rw [if_pos c]
    by_cases d : t - start < tin
    · simp only [if_pos d]
      exact a _ _ (by omega) (by omega) (by omega) hi.2 c
    · simp only [if_neg d]
      exact a 1 1 (by omega) (by omega) (by omega) (by omega) c
  · rw [if_neg c]
    by_cases d : t - start < tin
    · simp only [if_pos d]; omega
    · simp only [if_neg d]; omega

/-! ### settings -/
def cycE (e : Eff) : Int := e.cycle + sumS e.steps
/-- the way of an effect, of unit i of several -/
def wayP (e : Eff) (i count clock : Int) : Int × Int := wvP e.form e.width e.steps (cycE e) (whN e.back (whY (cycE e) e.spread i count clock) (whD (cycE e) count)) (whD (cycE e) count) (whY (cycE e) e.spread i count clock / whD (cycE e) count) i
def stgOf (x : Run) (t : Int) (lev : Int × ByteArray → Int) (i : Nat) (k : Int × ByteArray) : Stg :=
  ⟨k.1, k.2, movV x.ef.rel x.ef.low x.ef.high (lev k) (wayP x.ef i x.keys.length (clkV x.start x.rates t)) (sizV x.start x.tin x.tend x.tout t)⟩
def setsR (x : Run) (t : Int) (lev : Int × ByteArray → Int) : List Stg := x.keys.mapIdx (stgOf x t lev)
/-- the settings that a running effect gives -/
def runSets (x : Run) (t : Int) (lev : Int × ByteArray → Int) : List Stg := if goneB x t then [] else setsR x t lev
theorem setsR_take (x : Run) (t : Int) (lev : Int × ByteArray → Int) (k : Nat) (h : k < x.keys.length) : (setsR x t lev).take (k + 1) = (setsR x t lev).take k ++ [stgOf x t lev k x.keys[k]] := by
  have h1 : k < (setsR x t lev).length := by simpa [setsR] using h
  rw [List.take_succ_eq_append_getElem h1]
  simp [setsR]
theorem setsR_len (x : Run) (t : Int) (lev : Int × ByteArray → Int) : (setsR x t lev).length = x.keys.length := by simp [setsR]
/-- the default of a key of a rig -/
def dfO (r : Rig) (k : Int × ByteArray) : Option Int := (findO r k.1 k.2.data.toList).map Par.dflt
/-- the level that is there -/
def levO (r : Rig) (l : List Stg) (k : Int × ByteArray) : Option Int := match l.reverse.find? (isK k) with
  | some s => some s.lv
  | none => dfO r k
def levV (r : Rig) (l : List Stg) (k : Int × ByteArray) : Int := (levO r l k).getD 0
/-- the fault of a running effect in a rig -/
def keyFR (r : Rig) (pre : List (Int × ByteArray)) (k : Int × ByteArray) : Int := if (dfO r k).isNone then 8 else if pre.any (fun y => decide (y = k)) then 6 else 0
def chkRunR (r : Rig) (x : Run) : Int :=
  if chkKy (chkEf x.ef) x.keys ≠ 0 then chkKy (chkEf x.ef) x.keys else if scanF (keyFR r) x.keys 0 ≠ 0 then scanF (keyFR r) x.keys 0 else chkTm x.start x.tin x.tend x.tout x.rates
theorem dfO_none (r : Rig) (k : Int × ByteArray) : (dfO r k).isNone = (findO r k.1 k.2.data.toList).isNone := by unfold dfO; cases findO r k.1 k.2.data.toList <;> rfl
/-- what a right running effect has -/
theorem chkRunR_zero {r : Rig} {x : Run} (h : chkRunR r x = 0) : chkEf x.ef = 0 ∧ (0 < x.keys.length ∧ x.keys.length ≤ 400) ∧ (∀ k ∈ x.keys, (dfO r k).isSome) ∧ x.keys.Nodup ∧ (0 ≤ x.start ∧ x.start ≤ 36000000) ∧ (0 ≤ x.tin ∧ x.tin ≤ 36000000) ∧ (0 ≤ x.tout ∧ x.tout ≤ 36000000) ∧ (x.tend = -1 ∨ x.start ≤ x.tend ∧ x.tend ≤ 36000000) ∧ x.rates.length ≤ 50 ∧ RatesOk x.start x.rates := by
  unfold chkRunR at h
  by_cases c : chkKy (chkEf x.ef) x.keys = 0
  · rw [if_neg (by simpa using c)] at h
    by_cases d : scanF (keyFR r) x.keys 0 = 0
    · rw [if_neg (by simpa using d)] at h
      have h1 : chkEf x.ef = 0 ∧ 0 < x.keys.length ∧ x.keys.length ≤ 400 := by
        unfold chkKy fi3 fi2 whenW at c
        by_cases e : chkEf x.ef = 0
        · rw [if_pos e] at c
          by_cases f : x.keys.length = 0
          · simp [f] at c
          · by_cases g : 400 < x.keys.length
            · simp [f, g] at c
            · exact ⟨e, by omega, by omega⟩
        · rw [if_neg e] at c
          exact absurd c e
      have h2 : ∀ k (hk : k < x.keys.length), (dfO r x.keys[k]).isSome ∧ x.keys[k] ∉ x.keys.take k := by
        intro k hk
        have := scanF_zero _ _ d k hk
        unfold keyFR at this
        by_cases e : (dfO r x.keys[k]).isNone
        · rw [if_pos e] at this; cases this
        · rw [if_neg e] at this
          by_cases f : (x.keys.take k).any (fun y => decide (y = x.keys[k])) = true
          · rw [if_pos f] at this; cases this
          · refine ⟨by simpa [Option.isSome_iff_ne_none] using e, fun hin => f ?_⟩
            rw [List.any_eq_true]
            exact ⟨_, hin, by simp⟩
      have h3 : ∀ n, n ≤ x.keys.length → (x.keys.take n).Nodup := by
        intro n
        induction n with
        | zero => intro _; simp
        | succ n ih => intro hn; exact (nodup_take_succ _ n (by omega)).2 ⟨ih (by omega), (h2 n (by omega)).2⟩
      have h4 := h3 _ (Nat.le_refl _)
      rw [List.take_length] at h4
      unfold chkTm at h
      cases e : bad1 x.start x.tin x.tend x.tout
      · rw [e] at h
        by_cases f : (decide (x.tend = -1) && decide (x.tout ≠ 0)) = true
        · rw [f] at h; simp at h
        · have f' : (decide (x.tend = -1) && decide (x.tout ≠ 0)) = false := by simpa using f
          rw [f'] at h
          by_cases g : 50 < x.rates.length
          · rw [if_pos g] at h; simp at h
          · rw [if_neg g] at h
            simp at h
            unfold bad1 at e
            simp only [Bool.or_eq_false_iff, Bool.not_eq_false', Bool.and_eq_false_iff, decide_eq_false_iff_not, Decidable.not_not, inR_iff] at e
            obtain ⟨⟨⟨e1, e2⟩, e3⟩, e4⟩ := e
            refine ⟨h1.1, h1.2, fun k hk => ?_, h4, e1, e2, e3, ?_, by omega, (ratesOk_iff _ _).1 h⟩
            · obtain ⟨j, hj, rfl⟩ := List.getElem_of_mem hk
              exact (h2 j hj).1
            · rcases e4 with e4 | e4
              · exact .inl e4
              · exact .inr e4
      · rw [e] at h; simp at h
    · rw [if_pos d] at h; exact absurd h d
  · rw [if_pos c] at h; exact absurd h c
/-- the fault of Settings -/
def stsF (r : Rig) (x : Run) (base : List Stg) (t : Int) : Int := if chkRig r ≠ 0 then chkRig r else fi3 (chkRunR r x) (chkStgs r base) (whenW (!inR t 0 36000000) 1)
theorem stsF_zero {r : Rig} {x : Run} {base : List Stg} {t : Int} (h : stsF r x base t = 0) : chkRig r = 0 ∧ chkRunR r x = 0 ∧ chkStgs r base = 0 ∧ 0 ≤ t ∧ t ≤ 36000000 := by
  unfold stsF at h
  by_cases c : chkRig r = 0
  · rw [if_neg (by simpa using c)] at h
    unfold fi3 at h
    by_cases d : chkRunR r x = 0
    · rw [if_pos d] at h
      unfold fi2 at h
      by_cases e : chkStgs r base = 0
      · rw [if_pos e] at h
        unfold whenW at h
        cases f : inR t 0 36000000
        · simp [f] at h
        · exact ⟨c, d, e, (inR_iff _ _ _).1 f⟩
      · rw [if_neg e] at h; exact absurd h e
    · rw [if_neg d] at h; exact absurd h d
  · rw [if_pos c] at h; exact absurd h c
def stsV (r : Rig) (x : Run) (base : List Stg) (t : Int) : List Stg := if stsF r x base t = 0 then runSets x t (levV r base) else []

/-! ### settings put on others -/
/-- a setting in the place of that of its key, or behind all -/
def putS (l : List Stg) (s : Stg) : List Stg := if l.any (isK s.k) then l.map (fun y => if isK s.k y then s else y) else l ++ [s]
def applyOne (r : Rig) (t : Int) (l : List Stg) (x : Run) : List Stg := (runSets x t (levV r l)).foldl putS l
def applyL (r : Rig) (xs : List Run) (base : List Stg) (t : Int) : List Stg := xs.foldl (applyOne r t) base
/-- the first fault of running effects -/
def runsF (r : Rig) : List Run → Int
  | [] => 0
  | x :: l => if chkRunR r x ≠ 0 then chkRunR r x else runsF r l
theorem runsF_step (r : Rig) (l : List Run) (k : Nat) (h : k < l.length) : runsF r (l.drop k) = if chkRunR r l[k] ≠ 0 then chkRunR r l[k] else runsF r (l.drop (k + 1)) := by
  rw [List.drop_eq_getElem_cons h]
  rfl
theorem runsF_zero {r : Rig} {l : List Run} (h : runsF r l = 0) : ∀ x ∈ l, chkRunR r x = 0 := by
  induction l with
  | nil => intro x hx; cases hx
  | cons a l ih =>
    unfold runsF at h
    by_cases c : chkRunR r a = 0
    · rw [if_neg (by simpa using c)] at h
      intro x hx
      rcases List.mem_cons.1 hx with rfl | hx
      · exact c
      · exact ih h x hx
    · rw [if_pos c] at h; exact absurd h c
def aplF (r : Rig) (xs : List Run) (base : List Stg) (t : Int) : Int :=
  if fi2 (chkRig r) (whenW (decide (100 < xs.length)) 2) ≠ 0 then fi2 (chkRig r) (whenW (decide (100 < xs.length)) 2) else if runsF r xs ≠ 0 then runsF r xs else fi2 (chkStgs r base) (whenW (!inR t 0 36000000) 1)
def aplV (r : Rig) (xs : List Run) (base : List Stg) (t : Int) : List Stg := if aplF r xs base t = 0 then applyL r xs base t else []
end Go.Proofs.Ytopmdeefcjdadaa
