/- The clock of a running effect, in plain Lean. The box of a running effect. (printed by wip/gen/gen_runbox.py) -/
import Derived.Test.YtfidbdegggalmaaGreatDoorT66M39
import Derived.Test.YtfidbdegggalmaaGreatDoorT66M40

namespace Go.Proofs.YtfidbdegggalmaaGreatDoor
set_option linter.unusedVariables false
set_option linter.unusedSimpArgs false

/-- the clock at t, from a time and a percentage on -/
def clkL (t : Int) : Int → Int → List (Int × Int) → Int
  | s, p, [] => (t - s) * p
  | s, p, r :: l => if t ≤ r.1 then (t - s) * p else (r.1 - s) * p + clkL t r.1 r.2 l
def clkV (start : Int) (rates : List (Int × Int)) (t : Int) : Int := if t ≤ start then 0 else clkL t start 100 rates
/-- the rates behind a new one -/
def fasterR (rates : List (Int × Int)) (t p : Int) : List (Int × Int) := rates.filter (fun r => decide (r.1 < t)) ++ [(t, p)]
/-- rates in order, each from start on -/
def RatesOk (start : Int) : List (Int × Int) → Prop
  | [] => True
  | r :: l => (start ≤ r.1 ∧ r.1 ≤ 36000000 ∧ 0 ≤ r.2 ∧ r.2 ≤ 1000 ∧ (∀ q ∈ l, r.1 < q.1)) ∧ RatesOk start l
theorem inR_iff (n a b : Int) : inR n a b = true ↔ a ≤ n ∧ n ≤ b := by simp [inR]
theorem rF_any (start : Int) (l : List (Int × Int)) : ∀ p, rF start p l = 0 → RatesOk start l ∧ ∀ q, p = some q → ∀ r ∈ l, q < r.1 := by
  induction l with
  | nil => intro p _; exact ⟨trivial, fun _ _ r h => by cases h⟩
  | cons r l ih =>
    intro p h
    simp only [rF] at h
    split at h
    · rename_i hc
      rw [Bool.and_eq_true, inR_iff, inR_iff] at hc
      split at h
      · omega
      · rename_i hp
        obtain ⟨h1, h2⟩ := ih _ h
        refine ⟨⟨⟨hc.1.1, hc.1.2, hc.2.1, hc.2.2, h2 _ rfl⟩, h1⟩, ?_⟩
        intro q hq s hs
        subst hq
        simp at hp
        rcases List.mem_cons.1 hs with rfl | hs
        · exact hp
        · have := h2 _ rfl s hs; omega
    · omega
theorem rF_of (start : Int) (l : List (Int × Int)) : ∀ p, RatesOk start l → (∀ q, p = some q → ∀ r ∈ l, q < r.1) → rF start p l = 0 := by
  induction l with
  | nil => intros; rfl
  | cons r l ih =>
    intro p ⟨⟨h1, h2, h3, h4, h5⟩, h6⟩ hp
    simp only [rF]
    rw [if_pos (by rw [Bool.and_eq_true, inR_iff, inR_iff]; exact ⟨⟨h1, h2⟩, h3, h4⟩), if_neg]
    · exact ih _ h6 (fun q hq s hs => by cases hq; exact h5 s hs)
    · cases p with
      | none => simp
      | some q => have := hp q rfl r (by simp); simp; exact this
theorem ratesOk_iff (start : Int) (l : List (Int × Int)) : rF start none l = 0 ↔ RatesOk start l :=
  ⟨fun h => (rF_any start l _ h).1, fun h => rF_of start l _ h (fun _ h => by cases h)⟩
theorem filter_none_of_le {l : List (Int × Int)} {t : Int} (h : ∀ q ∈ l, t ≤ q.1) : l.filter (fun r => decide (r.1 < t)) = [] := by
  rw [List.filter_eq_nil_iff]
  intro q hq
  have := h q hq
  simp
  omega
theorem ratesOk_faster (start t p : Int) (l : List (Int × Int)) (h : RatesOk start l) (h1 : start ≤ t) (h2 : t ≤ 36000000) (h3 : 0 ≤ p) (h4 : p ≤ 1000) : RatesOk start (fasterR l t p) := by
  unfold fasterR
  induction l with
  | nil => exact ⟨⟨h1, h2, h3, h4, fun q hq => by cases hq⟩, trivial⟩
  | cons r l ih =>
    obtain ⟨⟨a1, a2, a3, a4, a5⟩, a6⟩ := h
    rw [List.filter_cons]
    split
    · rename_i hc
      simp at hc
      refine ⟨⟨a1, a2, a3, a4, ?_⟩, ih a6⟩
      intro q hq
      rcases List.mem_append.1 hq with hq | hq
      · exact a5 q (List.mem_filter.1 hq).1
      · simp at hq; subst hq; exact hc
    · exact ih a6
theorem clk_le (t u p : Int) (h : u ≤ t) (start : Int) (l : List (Int × Int)) : ∀ s q, RatesOk start l → clkL u s q (fasterR l t p) = clkL u s q l := by
  unfold fasterR
  induction l with
  | nil => intro s q _; simp [clkL, h]
  | cons r l ih =>
    intro s q ⟨⟨a1, a2, a3, a4, a5⟩, a6⟩
    rw [List.filter_cons]
    split
    · simp only [List.cons_append, clkL]
      rw [ih _ _ a6]
    · rename_i hc
      simp at hc
      rw [filter_none_of_le (fun q hq => by have := a5 q hq; omega)]
      simp only [List.nil_append, clkL]
      rw [if_pos h, if_pos (by omega)]
theorem clk_gt (t u p : Int) (h : t < u) (start : Int) (l : List (Int × Int)) : ∀ s q, RatesOk start l → clkL u s q (fasterR l t p) = clkL t s q l + (u - t) * p := by
  unfold fasterR
  induction l with
  | nil =>
    intro s q _
    simp only [List.filter_nil, List.nil_append, clkL]
    rw [if_neg (by omega)]
  | cons r l ih =>
    intro s q ⟨⟨a1, a2, a3, a4, a5⟩, a6⟩
    rw [List.filter_cons]
    split
    · rename_i hc
      simp at hc
      simp only [List.cons_append, clkL]
      rw [ih _ _ a6, if_neg (by omega), if_neg (by omega)]
      omega
    · rename_i hc
      simp at hc
      rw [filter_none_of_le (fun q hq => by have := a5 q hq; omega)]
      simp only [List.nil_append, clkL]
      rw [if_neg (by omega), if_pos hc]
theorem clkV_at (start t : Int) (l : List (Int × Int)) (h : RatesOk start l) (h1 : start ≤ t) : clkV start l t = clkL t start 100 l := by
  unfold clkV
  split
  · have : t = start := by omega
    subst this
    cases l with
    | nil => simp [clkL]
    | cons r l => obtain ⟨⟨a1, _⟩, _⟩ := h; simp [clkL, a1]
  · rfl
theorem clkV_le (start t u p : Int) (l : List (Int × Int)) (h : RatesOk start l) (h1 : u ≤ t) : clkV start (fasterR l t p) u = clkV start l u := by
  unfold clkV
  split
  · rfl
  · exact clk_le t u p h1 start l _ _ h
theorem clkV_gt (start t u p : Int) (l : List (Int × Int)) (h : RatesOk start l) (h1 : t < u) (h2 : start ≤ t) : clkV start (fasterR l t p) u = clkV start l t + (u - t) * p := by
  rw [clkV_at start t l h h2]
  unfold clkV
  rw [if_neg (by omega)]
  exact clk_gt t u p h1 start l _ _ h
theorem ratesOk_get {start : Int} {l : List (Int × Int)} (h : RatesOk start l) : ∀ k (hk : k < l.length), start ≤ l[k].1 ∧ l[k].1 ≤ 36000000 ∧ 0 ≤ l[k].2 ∧ l[k].2 ≤ 1000 ∧ ∀ j (hj : j < k), l[j].1 < l[k].1 := by
  induction l with
  | nil => intro k hk; simp at hk
  | cons r l ih =>
    obtain ⟨⟨a1, a2, a3, a4, a5⟩, a6⟩ := h
    intro k hk
    cases k with
    | zero => exact ⟨a1, a2, a3, a4, fun j hj => by omega⟩
    | succ k =>
      obtain ⟨b1, b2, b3, b4, b5⟩ := ih a6 k (by simpa using hk)
      refine ⟨b1, b2, b3, b4, fun j hj => ?_⟩
      cases j with
      | zero => exact a5 _ (List.getElem_mem _)
      | succ j => exact b5 j (by omega)
/-- the length of what is kept -/
theorem filter_take {start : Int} {l : List (Int × Int)} (h : RatesOk start l) (t : Int) : ∃ n, n ≤ l.length ∧ l.filter (fun r => decide (r.1 < t)) = l.take n ∧ (∀ k (hk : k < l.length), k < n → l[k].1 < t) ∧ ∀ k (hk : k < l.length), n ≤ k → t ≤ l[k].1 := by
  induction l with
  | nil => exact ⟨0, Nat.le_refl _, rfl, fun k hk => by simp at hk, fun k hk => by simp at hk⟩
  | cons r l ih =>
    obtain ⟨⟨a1, a2, a3, a4, a5⟩, a6⟩ := h
    by_cases hc : r.1 < t
    · obtain ⟨n, h1, h2, h3, h4⟩ := ih a6
      refine ⟨n + 1, by simpa using h1, by rw [List.filter_cons, if_pos (by simpa using hc), h2]; rfl, fun k hk hkn => ?_, fun k hk hkn => ?_⟩
      · cases k with
        | zero => exact hc
        | succ k => exact h3 k (by simpa using hk) (by omega)
      · cases k with
        | zero => omega
        | succ k => exact h4 k (by simpa using hk) (by omega)
    · refine ⟨0, Nat.zero_le _, by rw [List.filter_cons, if_neg (by simpa using hc), filter_none_of_le (fun q hq => by have := a5 q hq; omega)]; rfl, fun k hk hkn => by omega, fun k hk _ => ?_⟩
      cases k with
      | zero => simpa using hc
      | succ k => have := a5 _ (List.getElem_mem (l := l) (n := k) (by simpa using hk)); simp; omega
theorem mul_bd0 {a p : Int} (h0 : 0 ≤ a) (h2 : 0 ≤ p) (h3 : p ≤ 1000) : 0 ≤ a * p ∧ a * p ≤ 1000 * a := by
  have e1 := Int.mul_nonneg h0 h2
  have e2 := Int.mul_le_mul_of_nonneg_left h3 h0
  omega
theorem clkL_bd (t start : Int) (l : List (Int × Int)) : ∀ s q, s ≤ t → 0 ≤ q → q ≤ 1000 → RatesOk start l → (∀ r ∈ l, s ≤ r.1) → 0 ≤ clkL t s q l ∧ clkL t s q l ≤ 1000 * (t - s) := by
  induction l with
  | nil => intro s q h1 h2 h3 _ _; exact mul_bd0 (by omega) h2 h3
  | cons r l ih =>
    intro s q h1 h2 h3 ⟨⟨a1, a2, a3, a4, a5⟩, a6⟩ h5
    simp only [clkL]
    split
    · exact mul_bd0 (by omega) h2 h3
    · have := ih r.1 r.2 (by omega) a3 a4 a6 (fun x hx => Int.le_of_lt (a5 x hx))
      have := mul_bd0 (a := r.1 - s) (p := q) (by have := h5 r (by simp); omega) h2 h3
      omega
theorem ratesOk_ge {start : Int} {l : List (Int × Int)} (h : RatesOk start l) : ∀ r ∈ l, start ≤ r.1 := by
  induction l with
  | nil => intro r hr; cases hr
  | cons a l ih =>
    intro r hr
    rcases List.mem_cons.1 hr with rfl | hr
    · exact h.1.1
    · exact ih h.2 r hr
theorem clkV_bd {start t : Int} {l : List (Int × Int)} (h : RatesOk start l) (h0 : 0 ≤ start) (h1 : t ≤ 36000000) : 0 ≤ clkV start l t ∧ clkV start l t ≤ 36000000000 := by
  unfold clkV
  split
  · omega
  · have := clkL_bd t start l start 100 (by omega) (by omega) (by omega) h (ratesOk_ge h)
    omega
end Go.Proofs.YtfidbdegggalmaaGreatDoor

namespace Go.Proofs.YtfidbdegggalmaaGreatDoor
open Go.RowKit
set_option linter.unusedVariables false
set_option linter.unusedSimpArgs false

theorem run_below (w : World) (c0 c1 c2 c3 c4 c5 c6 c7 c8 c9 c10 c11 c12 c13 c14 : Value) (T : TypeId) : ∀ W, Below (w.heap.size + 1) (w.alloc (.cells #[c0, c1, c2, c3, c4, c5, c6, c7, c8, c9, c10, c11, c12, c13, c14] T)) W → Below w.heap.size w W ∧ w.heap.size < W.heap.size ∧ (W.cell? ⟨w.heap.size, 0, none⟩ = some c0 ∧ W.cell? ⟨w.heap.size, 1, none⟩ = some c1 ∧ W.cell? ⟨w.heap.size, 2, none⟩ = some c2 ∧ W.cell? ⟨w.heap.size, 3, none⟩ = some c3 ∧ W.cell? ⟨w.heap.size, 4, none⟩ = some c4 ∧ W.cell? ⟨w.heap.size, 5, none⟩ = some c5 ∧ W.cell? ⟨w.heap.size, 6, none⟩ = some c6 ∧ W.cell? ⟨w.heap.size, 7, none⟩ = some c7 ∧ W.cell? ⟨w.heap.size, 8, none⟩ = some c8 ∧ W.cell? ⟨w.heap.size, 9, none⟩ = some c9 ∧ W.cell? ⟨w.heap.size, 10, none⟩ = some c10 ∧ W.cell? ⟨w.heap.size, 11, none⟩ = some c11 ∧ W.cell? ⟨w.heap.size, 12, none⟩ = some c12 ∧ W.cell? ⟨w.heap.size, 13, none⟩ = some c13 ∧ W.cell? ⟨w.heap.size, 14, none⟩ = some c14) := fun W hW => by
  have hz := hW.size
  simp at hz
  refine ⟨((Below.refl _ _).alloc (Nat.le_refl _) _).trans (hW.mono (by omega)), by omega, ?_, ?_, ?_, ?_, ?_, ?_, ?_, ?_, ?_, ?_, ?_, ?_, ?_, ?_, ?_⟩
  all_goals exact (hW.cell (p := ⟨w.heap.size, _, none⟩) (by simp)).trans (by simp [go_sem])
theorem up_alloc {B : Nat} {w W : World} (h : Below B w W) (hB : B ≤ w.heap.size) (o : Obj) : Below B w (W.alloc o) := h.alloc (Nat.le_trans hB h.size) o
theorem up_below {B : Nat} {w W W' : World} (h : Below B w W) (hB : B ≤ w.heap.size) (h2 : Below W.heap.size W W') : Below B w W' := h.trans (h2.mono (Nat.le_trans hB h.size))
theorem mul_bd {a p : Int} (h0 : 0 ≤ a) (h1 : a ≤ 36000000) (h2 : 0 ≤ p) (h3 : p ≤ 1000) : 0 ≤ a * p ∧ a * p ≤ 1000 * a ∧ a * p ≤ 36000000000 := by
  have e1 := Int.mul_nonneg h0 h2
  have e2 := Int.mul_le_mul_of_nonneg_left h3 h0
  omega
/-- the rates as cells -/
theorem rates_get {B : Nat} {w : World} {ro : Option Addr} {rcap : Nat} {rates : List (Int × Int)} (h : RateS B w (.slice ro rates.length rcap) rates) (k : Nat) (hk : k < rates.length) : ∃ b off, ro = some ⟨b, off, none⟩ ∧ b < B ∧ ∀ W, Below B w W → W.cell? ⟨b, off + k * 2, none⟩ = some (.int .i64 rates[k].1) ∧ W.cell? ⟨b, off + k * 2 + 1, none⟩ = some (.int .i64 rates[k].2) := by
  obtain ⟨ao, cap, e, h1, h2, h3⟩ := h
  injection e with e1 e2 e3
  subst e1
  obtain ⟨b, off, h4, h5, h6⟩ := h3 (by omega)
  have hg := cells2_get (fun k : Int × Int => Value.int .i64 k.1) (fun k => .int .i64 k.2) rates k hk
  exact ⟨b, off, h4, h5, fun W hb => ⟨(hb.cell (p := ⟨b, off + k * 2, none⟩) h5).trans (h6 _ _ hg.1), (hb.cell (p := ⟨b, off + k * 2 + 1, none⟩) h5).trans (h6 (k * 2 + 1) _ hg.2)⟩⟩
end Go.Proofs.YtfidbdegggalmaaGreatDoor
