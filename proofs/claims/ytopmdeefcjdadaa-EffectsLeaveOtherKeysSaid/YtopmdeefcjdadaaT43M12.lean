/- The fault of a running effect; words of its check. The clock of a running effect, in plain Lean. Numbers of six words of 64 bits: what times, plus, minus, less, mul do to the words, and what the words are worth. No program in it. -/
import Derived.Test.YtopmdeefcjdadaaT43M10
import Derived.Test.YtopmdeefcjdadaaT43M11
import Derived.Test.YtopmdeefcjdadaaT43M03

namespace Go.Proofs.Ytopmdeefcjdadaa
open Go.RowKit
set_option linter.unusedVariables false
set_option linter.unusedSimpArgs false

theorem row2r {k : IntKind} {W : World} {b : Nat} {x y : Int} (h1 : W.cell? ⟨b, 0, none⟩ = some (.int k x)) (h2 : W.cell? ⟨b, 1, none⟩ = some (.int k y)) : RowAt k W b 0 [x, y] := by
  intro i h
  match i, h with
  | 0, _ => simpa using h1
  | 1, _ => simpa using h2
theorem row3r {k : IntKind} {W : World} {b : Nat} {x y z : Int} (h1 : W.cell? ⟨b, 0, none⟩ = some (.int k x)) (h2 : W.cell? ⟨b, 1, none⟩ = some (.int k y)) (h3 : W.cell? ⟨b, 2, none⟩ = some (.int k z)) : RowAt k W b 0 [x, y, z] := by
  intro i h
  match i, h with
  | 0, _ => simpa using h1
  | 1, _ => simpa using h2
  | 2, _ => simpa using h3
theorem row4r {k : IntKind} {W : World} {b : Nat} {x y z u : Int} (h1 : W.cell? ⟨b, 0, none⟩ = some (.int k x)) (h2 : W.cell? ⟨b, 1, none⟩ = some (.int k y)) (h3 : W.cell? ⟨b, 2, none⟩ = some (.int k z)) (h4 : W.cell? ⟨b, 3, none⟩ = some (.int k u)) : RowAt k W b 0 [x, y, z, u] := by
  intro i h
  match i, h with
  | 0, _ => simpa using h1
  | 1, _ => simpa using h2
  | 2, _ => simpa using h3
  | 3, _ => simpa using h4
def fi2 (x y : Int) : Int := if x = 0 then y else x
def fi3 (x y z : Int) : Int := if x = 0 then fi2 y z else x
def fi4 (x y z u : Int) : Int := if x = 0 then fi3 y z u else x
theorem fi2_eq (x y : Int) : firstF [x, y] = fi2 x y := by
  simp only [firstF, fi2]
  split
  · split <;> simp_all
  · rfl
theorem fi3_eq (x y z : Int) : firstF [x, y, z] = fi3 x y z := by
  unfold fi3
  rw [← fi2_eq]
  rfl
theorem fi4_eq (x y z u : Int) : firstF [x, y, z, u] = fi4 x y z u := by
  unfold fi4
  rw [← fi3_eq]
  rfl
theorem first_2 (b : Nat) (x y : Int) (W : World) (h1 : W.cell? ⟨b, 0, none⟩ = some (.int .i64 x)) (h2 : W.cell? ⟨b, 1, none⟩ = some (.int .i64 y)) :
    Calls Try.prog 26 #[.slice (some ⟨b, 0, none⟩) 2 2] W fun e w' => e = .returned (.int .i64 (fi2 x y)) ∧ W = w' := by
  rw [← fi2_eq]
  exact first_any b 0 2 [x, y] W (by simp) (row2r h1 h2)
theorem first_3 (b : Nat) (x y z : Int) (W : World) (h1 : W.cell? ⟨b, 0, none⟩ = some (.int .i64 x)) (h2 : W.cell? ⟨b, 1, none⟩ = some (.int .i64 y)) (h3 : W.cell? ⟨b, 2, none⟩ = some (.int .i64 z)) :
    Calls Try.prog 26 #[.slice (some ⟨b, 0, none⟩) 3 3] W fun e w' => e = .returned (.int .i64 (fi3 x y z)) ∧ W = w' := by
  rw [← fi3_eq]
  exact first_any b 0 3 [x, y, z] W (by simp) (row3r h1 h2 h3)
theorem first_4 (b : Nat) (x y z u : Int) (W : World) (h1 : W.cell? ⟨b, 0, none⟩ = some (.int .i64 x)) (h2 : W.cell? ⟨b, 1, none⟩ = some (.int .i64 y)) (h3 : W.cell? ⟨b, 2, none⟩ = some (.int .i64 z)) (h4 : W.cell? ⟨b, 3, none⟩ = some (.int .i64 u)) :
    Calls Try.prog 26 #[.slice (some ⟨b, 0, none⟩) 4 4] W fun e w' => e = .returned (.int .i64 (fi4 x y z u)) ∧ W = w' := by
  rw [← fi4_eq]
  exact first_any b 0 4 [x, y, z, u] W (by simp) (row4r h1 h2 h3 h4)
set_option maxHeartbeats 400000 in
theorem eTime_R (n : Int) (w : World) : Calls Try.prog 29 #[.int .i64 n] w fun e w' => e = .returned (.bool (inR n 0 36000000)) ∧ w = w' := by
  go_enter Try.func29, Try.ntmps29
  go_wp2_with (go_at_call 30; refine (within_R _ _ _ _).mono ?_; rintro e w' ⟨rfl, rfl⟩)
  go_ret
  exact ⟨rfl, rfl⟩
set_option maxHeartbeats 400000 in
theorem rTime_R (n : Int) (w : World) : Calls Try.prog 36 #[.int .i64 n] w fun e w' => e = .returned (.bool (inR n 0 36000000)) ∧ w = w' := by
  go_enter Try.func36, Try.ntmps36
  go_wp2_with (go_at_call 38; refine (rwithin_R _ _ _ _).mono ?_; rintro e w' ⟨rfl, rfl⟩)
  go_ret
  exact ⟨rfl, rfl⟩

/-- the first fault of rates -/
def rF (start : Int) : Option Int → List (Int × Int) → Int
  | _, [] => 0
  | p, r :: l => if inR r.1 start 36000000 && inR r.2 0 1000 then (if p.any (fun q => decide (r.1 ≤ q)) then 7 else rF start (some r.1) l) else 1
def prevT (l : List (Int × Int)) (k : Nat) : Option Int := if k = 0 then none else (l[k - 1]?).map (·.1)
theorem rF_step (start : Int) (l : List (Int × Int)) (k : Nat) (h : k < l.length) :
    rF start (prevT l k) (l.drop k) = if inR l[k].1 start 36000000 && inR l[k].2 0 1000 then (if (prevT l k).any (fun q => decide (l[k].1 ≤ q)) then 7 else rF start (prevT l (k + 1)) (l.drop (k + 1))) else 1 := by
  rw [List.drop_eq_getElem_cons h]
  simp only [rF]
  have : prevT l (k + 1) = some l[k].1 := by simp [prevT, List.getElem?_eq_getElem h]
  rw [this]
theorem prevT_pos (l : List (Int × Int)) (k : Nat) (h0 : 0 < k) (h : k < l.length) : prevT l k = some (l[k - 1]'(by omega)).1 := by
  unfold prevT
  rw [if_neg (by omega), List.getElem?_eq_getElem (by omega)]
  rfl
def bad1 (start tin tend tout : Int) : Bool := !inR start 0 36000000 || !inR tin 0 36000000 || !inR tout 0 36000000 || (decide (tend ≠ -1) && !inR tend start 36000000)
def chkTm (start tin tend tout : Int) (rates : List (Int × Int)) : Int :=
  if bad1 start tin tend tout then 1 else if decide (tend = -1) && decide (tout ≠ 0) then 3 else if 50 < rates.length then 2 else rF start none rates
def chkKy (ke : Int) (keys : List (Int × ByteArray)) : Int := fi3 ke (whenW (decide (keys.length = 0)) 8) (whenW (decide (400 < keys.length)) 2)
/-- the fault of a running effect without a rig -/
def chkRun (x : Run) : Int :=
  if chkKy (chkEf x.ef) x.keys ≠ 0 then chkKy (chkEf x.ef) x.keys else if ¬ x.keys.Nodup then 6 else chkTm x.start x.tin x.tend x.tout x.rates
theorem nodup_take_succ {α : Type} (l : List α) (k : Nat) (h : k < l.length) : (l.take (k + 1)).Nodup ↔ (l.take k).Nodup ∧ l[k] ∉ l.take k := by
  rw [List.take_succ_eq_append_getElem h, List.nodup_append]
  simp
  intro _
  constructor
  · intro h1 h2; exact h1 _ h2 rfl
  · intro h1 a ha e; subst e; exact h1 ha
theorem not_nodup_of {α : Type} (l : List α) (k : Nat) (h : k < l.length) (hin : l[k] ∈ l.take k) : ¬ l.Nodup := by
  intro hn
  have : (l.take (k + 1)).Nodup := hn.sublist (List.take_sublist _ _)
  exact ((nodup_take_succ l k h).1 this).2 hin
end Go.Proofs.Ytopmdeefcjdadaa

namespace Go.Proofs.Ytopmdeefcjdadaa
set_option linter.unusedVariables false
set_option linter.unusedSimpArgs false

/-- the clock at t, from a time and a percentage on -/
def clkL (t : Int) : Int → Int → List (Int × Int) → Int
  | s, p, [] => (t - s) * p
  | s, p, r :: l => if t ≤ r.1 then (t - s) * p else (r.1 - s) * p + clkL t r.1 r.2 l
def clkV (start : Int) (rates : List (Int × Int)) (t : Int) : Int := if t ≤ start then 0 else clkL t start 100 rates
/-- the rates behind a new one -/
def fasterR (rates : List (Int × Int)) (t p : Int) : List (Int × Int) := rates.filter (fun r => decide (r.1 < t)) ++ [(t, p)]
/-- rates in order, each from start on -/
def RatesOk (start : Int) : List (Int × Int) → Prop
  | [] => True
  | r :: l => (start ≤ r.1 ∧ r.1 ≤ 36000000 ∧ 0 ≤ r.2 ∧ r.2 ≤ 1000 ∧ (∀ q ∈ l, r.1 < q.1)) ∧ RatesOk start l
theorem inR_iff (n a b : Int) : inR n a b = true ↔ a ≤ n ∧ n ≤ b := by simp [inR]
theorem rF_any (start : Int) (l : List (Int × Int)) : ∀ p, rF start p l = 0 → RatesOk start l ∧ ∀ q, p = some q → ∀ r ∈ l, q < r.1 := by
  induction l with
  | nil => intro p _; exact ⟨trivial, fun _ _ r h => by cases h⟩
  | cons r l ih =>
    intro p h
    simp only [rF] at h
    split at h
    · rename_i hc
      rw [Bool.and_eq_true, inR_iff, inR_iff] at hc
      split at h
      · omega
      · rename_i hp
        obtain ⟨h1, h2⟩ := ih _ h
        refine ⟨⟨⟨hc.1.1, hc.1.2, hc.2.1, hc.2.2, h2 _ rfl⟩, h1⟩, ?_⟩
        intro q hq s hs
        subst hq
        simp at hp
        rcases List.mem_cons.1 hs with rfl | hs
        · exact hp
        · have := h2 _ rfl s hs; omega
    · omega
theorem rF_of (start : Int) (l : List (Int × Int)) : ∀ p, RatesOk start l → (∀ q, p = some q → ∀ r ∈ l, q < r.1) → rF start p l = 0 := by
  induction l with
  | nil => intros; rfl
  | cons r l ih =>
    intro p ⟨⟨h1, h2, h3, h4, h5⟩, h6⟩ hp
    simp only [rF]
    rw [if_pos (by rw [Bool.and_eq_true, inR_iff, inR_iff]; exact ⟨⟨h1, h2⟩, h3, h4⟩), if_neg]
    · exact ih _ h6 (fun q hq s hs => by cases hq; exact h5 s hs)
    · cases p with
      | none => simp
      | some q => have := hp q rfl r (by simp); simp; exact this
theorem ratesOk_iff (start : Int) (l : List (Int × Int)) : rF start none l = 0 ↔ RatesOk start l :=
  ⟨fun h => (rF_any start l _ h).1, fun h => rF_of start l _ h (fun _ h => by cases h)⟩
theorem filter_none_of_le {l : List (Int × Int)} {t : Int} (h : ∀ q ∈ l, t ≤ q.1) : l.filter (fun r => decide (r.1 < t)) = [] := by
  rw [List.filter_eq_nil_iff]
  intro q hq
  have := h q hq
  simp
  omega
theorem ratesOk_faster (start t p : Int) (l : List (Int × Int)) (h : RatesOk start l) (h1 : start ≤ t) (h2 : t ≤ 36000000) (h3 : 0 ≤ p) (h4 : p ≤ 1000) : RatesOk start (fasterR l t p) := by
  unfold fasterR
  induction l with
  | nil => exact ⟨⟨h1, h2, h3, h4, fun q hq => by cases hq⟩, trivial⟩
  | cons r l ih =>
    obtain ⟨⟨a1, a2, a3, a4, a5⟩, a6⟩ := h
    rw [List.filter_cons]
    split
    · rename_i hc
      simp at hc
      refine ⟨⟨a1, a2, a3, a4, ?_⟩, ih a6⟩
      intro q hq
      rcases List.mem_append.1 hq with hq | hq
      · exact a5 q (List.mem_filter.1 hq).1
      · simp at hq; subst hq; exact hc
    · exact ih a6
theorem clk_le (t u p : Int) (h : u ≤ t) (start : Int) (l : List (Int × Int)) : ∀ s q, RatesOk start l → clkL u s q (fasterR l t p) = clkL u s q l := by
  unfold fasterR
  induction l with
  | nil => intro s q _; simp [clkL, h]
  | cons r l ih =>
    intro s q ⟨⟨a1, a2, a3, a4, a5⟩, a6⟩
    rw [List.filter_cons]
    split
    · simp only [List.cons_append, clkL]
      rw [ih _ _ a6]
    · rename_i hc
      simp at hc
      rw [filter_none_of_le (fun q hq => by have := a5 q hq; omega)]
      simp only [List.nil_append, clkL]
      rw [if_pos h, if_pos (by omega)]
theorem clk_gt (t u p : Int) (h : t < u) (start : Int) (l : List (Int × Int)) : ∀ s q, RatesOk start l → clkL u s q (fasterR l t p) = clkL t s q l + (u - t) * p := by
  unfold fasterR
  induction l with
  | nil =>
    intro s q _
    simp only [List.filter_nil, List.nil_append, clkL]
    rw [if_neg (by omega)]
  | cons r l ih =>
    intro s q ⟨⟨a1, a2, a3, a4, a5⟩, a6⟩
    rw [List.filter_cons]
    split
    · rename_i hc
      simp at hc
      simp only [List.cons_append, clkL]
      rw [ih _ _ a6, if_neg (by omega), if_neg (by omega)]
      omega
    · rename_i hc
      simp at hc
      rw [filter_none_of_le (fun q hq => by have := a5 q hq; omega)]
      simp only [List.nil_append, clkL]
      rw [if_neg (by omega), if_pos hc]
theorem clkV_at (start t : Int) (l : List (Int × Int)) (h : RatesOk start l) (h1 : start ≤ t) : clkV start l t = clkL t start 100 l := by
  unfold clkV
  split
  · have : t = start := by omega
    subst this
    cases l with
    | nil => simp [clkL]
    | cons r l => obtain ⟨⟨a1, _⟩, _⟩ := h; simp [clkL, a1]
  · rfl
theorem clkV_le (start t u p : Int) (l : List (Int × Int)) (h : RatesOk start l) (h1 : u ≤ t) : clkV start (fasterR l t p) u = clkV start l u := by
  unfold clkV
  split
  · rfl
  · exact clk_le t u p h1 start l _ _ h
theorem clkV_gt (start t u p : Int) (l : List (Int × Int)) (h : RatesOk start l) (h1 : t < u) (h2 : start ≤ t) : clkV start (fasterR l t p) u = clkV start l t + (u - t) * p := by
  rw [clkV_at start t l h h2]
  unfold clkV
  rw [if_neg (by omega)]
  exact clk_gt t u p h1 start l _ _ h
theorem ratesOk_get {start : Int} {l : List (Int × Int)} (h : RatesOk start l) : ∀ k (hk : k < l.length), start ≤ l[k].1 ∧ l[k].1 ≤ 36000000 ∧ 0 ≤ l[k].2 ∧ l[k].2 ≤ 1000 ∧ ∀ j (hj : j < k), l[j].1 < l[k].1 := by
  induction l with
  | nil => intro k hk; simp at hk
  | cons r l ih =>
    obtain ⟨⟨a1, a2, a3, a4, a5⟩, a6⟩ := h
    intro k hk
    cases k with
    | zero => exact ⟨a1, a2, a3, a4, fun j hj => by omega⟩
    | succ k =>
      obtain ⟨b1, b2, b3, b4, b5⟩ := ih a6 k (by simpa using hk)
      refine ⟨b1, b2, b3, b4, fun j hj => ?_⟩
      cases j with
      | zero => exact a5 _ (List.getElem_mem _)
      | succ j => exact b5 j (by omega)
/-- the length of what is kept -/
theorem filter_take {start : Int} {l : List (Int × Int)} (h : RatesOk start l) (t : Int) : ∃ n, n ≤ l.length ∧ l.filter (fun r => decide (r.1 < t)) = l.take n ∧ (∀ k (hk : k < l.length), k < n → l[k].1 < t) ∧ ∀ k (hk : k < l.length), n ≤ k → t ≤ l[k].1 := by
  induction l with
  | nil => exact ⟨0, Nat.le_refl _, rfl, fun k hk => by simp at hk, fun k hk => by simp at hk⟩
  | cons r l ih =>
    obtain ⟨⟨a1, a2, a3, a4, a5⟩, a6⟩ := h
    by_cases hc : r.1 < t
    · obtain ⟨n, h1, h2, h3, h4⟩ := ih a6
      refine ⟨n + 1, by simpa using h1, by rw [List.filter_cons, if_pos (by simpa using hc), h2]; rfl, fun k hk hkn => ?_, fun k hk hkn => ?_⟩
      · cases k with
        | zero => exact hc
        | succ k => exact h3 k (by simpa using hk) (by omega)
      · cases k with
        | zero => omega
        | succ k => exact h4 k (by simpa using hk) (by omega)
    · refine ⟨0, Nat.zero_le _, by rw [List.filter_cons, if_neg (by simpa using hc), filter_none_of_le (fun q hq => by have := a5 q hq; omega)]; rfl, fun k hk hkn => by omega, fun k hk _ => ?_⟩
      cases k with
      | zero => simpa using hc
      | succ k => have := a5 _ (List.getElem_mem (l := l) (n := k) (by simpa using hk)); simp; omega
theorem mul_bd0 {a p : Int} (h0 : 0 ≤ a) (h2 : 0 ≤ p) (h3 : p ≤ 1000) : 0 ≤ a * p ∧ a * p ≤ 1000 * a := by
  have e1 := Int.mul_nonneg h0 h2
  have e2 := Int.mul_le_mul_of_nonneg_left h3 h0
  omega
theorem clkL_bd (t start : Int) (l : List (Int × Int)) : ∀ s q, s ≤ t → 0 ≤ q → q ≤ 1000 → RatesOk start l → (∀ r ∈ l, s ≤ r.1) → 0 ≤ clkL t s q l ∧ clkL t s q l ≤ 1000 * (t - s) := by
  induction l with
  | nil => intro s q h1 h2 h3 _ _; exact mul_bd0 (by omega) h2 h3
  | cons r l ih =>
    intro s q h1 h2 h3 ⟨⟨a1, a2, a3, a4, a5⟩, a6⟩ h5
    simp only [clkL]
    split
    · exact mul_bd0 (by omega) h2 h3
    · have := ih r.1 r.2 (by omega) a3 a4 a6 (fun x hx => Int.le_of_lt (a5 x hx))
      have := mul_bd0 (a := r.1 - s) (p := q) (by have := h5 r (by simp); omega) h2 h3
      omega
theorem ratesOk_ge {start : Int} {l : List (Int × Int)} (h : RatesOk start l) : ∀ r ∈ l, start ≤ r.1 := by
  induction l with
  | nil => intro r hr; cases hr
  | cons a l ih =>
    intro r hr
    rcases List.mem_cons.1 hr with rfl | hr
    · exact h.1.1
    · exact ih h.2 r hr
theorem clkV_bd {start t : Int} {l : List (Int × Int)} (h : RatesOk start l) (h0 : 0 ≤ start) (h1 : t ≤ 36000000) : 0 ≤ clkV start l t ∧ clkV start l t ≤ 36000000000 := by
  unfold clkV
  split
  · omega
  · have := clkL_bd t start l start 100 (by omega) (by omega) (by omega) h (ratesOk_ge h)
    omega
end Go.Proofs.Ytopmdeefcjdadaa

namespace Go.Proofs.Ytopmdeefcjdadaa
set_option linter.unusedVariables false
set_option linter.unusedSimpArgs false

def W64 : Int := 18446744073709551616
theorem w64_pos : 0 < W64 := by unfold W64; decide
theorem split_W (x : Int) : loW x + W64 * hiW x = x := by unfold loW hiW W64; omega
theorem lo_range (x : Int) : 0 ≤ loW x ∧ loW x < W64 := by unfold loW W64; omega
theorem hi_nonneg {x : Int} (h : 0 ≤ x) : 0 ≤ hiW x := by unfold hiW; omega
theorem oneW_iff (x : Int) : OneW x ↔ 0 ≤ x ∧ x < W64 := Iff.rfl
/-- what words are worth, the lowest one first -/
def valH : List Int → Int
  | [] => 0
  | a :: l => a + W64 * valH l
def powW : Nat → Int
  | 0 => 1
  | n + 1 => W64 * powW n
theorem powW_pos : ∀ n, 0 < powW n
  | 0 => by decide
  | n + 1 => Int.mul_pos w64_pos (powW_pos n)
def Words (l : List Int) : Prop := ∀ x ∈ l, OneW x
theorem Words.head {x : Int} {l : List Int} (h : Words (x :: l)) : OneW x := h x (by simp)
theorem Words.tail {x : Int} {l : List Int} (h : Words (x :: l)) : Words l := fun y hy => h y (by simp [hy])
theorem words_cons {x : Int} {l : List Int} (h : OneW x) (k : Words l) : Words (x :: l) := fun y hy => by
  rcases List.mem_cons.1 hy with rfl | hy
  · exact h
  · exact k y hy
theorem valH_bound : ∀ l : List Int, Words l → 0 ≤ valH l ∧ valH l < powW l.length
  | [], _ => by simp [valH, powW]
  | x :: l, h => by
    obtain ⟨h1, h2⟩ := valH_bound l h.tail
    obtain ⟨x0, x1⟩ := (oneW_iff x).1 h.head
    simp only [valH, powW, List.length_cons]
    have a1 : 0 ≤ W64 * valH l := Int.mul_nonneg (Int.le_of_lt w64_pos) h1
    have a2 : W64 * (valH l + 1) ≤ W64 * powW l.length := Int.mul_le_mul_of_nonneg_left (by omega) (Int.le_of_lt w64_pos)
    rw [Int.mul_add, Int.mul_one] at a2
    omega
theorem le_of_W {a p : Int} (h : W64 * a < W64 * p) : a < p := Int.lt_of_mul_lt_mul_left h (Int.le_of_lt w64_pos)
/-! ### times -/
def timesL (n : Int) : List Int → Int → List Int
  | [], _ => []
  | x :: l, c => loW (x * n + c) :: timesL n l (hiW (x * n + c))
theorem timesL_len (n : Int) : ∀ l c, (timesL n l c).length = l.length
  | [], _ => rfl
  | x :: l, c => by simp [timesL, timesL_len n l]
theorem timesL_words (n : Int) : ∀ l c, Words (timesL n l c)
  | [], _ => by simp [timesL, Words]
  | x :: l, c => words_cons (lo_range _) (timesL_words n l _)
theorem timesL_val {n : Int} (hn : 0 ≤ n) : ∀ l c, 0 ≤ c → Words l → valH l * n + c < powW l.length → valH (timesL n l c) = valH l * n + c
  | [], c, hc, _, h => by simp [valH, powW, timesL] at *; omega
  | x :: l, c, hc, hw, h => by
    have hs : 0 ≤ x * n + c := Int.add_nonneg (Int.mul_nonneg hw.head.1 hn) hc
    have e : valH (x :: l) * n + c = loW (x * n + c) + W64 * (valH l * n + hiW (x * n + c)) := by
      have := split_W (x * n + c)
      simp only [valH]
      have e1 : (x + W64 * valH l) * n = x * n + W64 * (valH l * n) := by rw [Int.add_mul, Int.mul_assoc]
      rw [e1, Int.mul_add]
      omega
    rw [e] at h ⊢
    simp only [List.length_cons, powW] at h
    have := (lo_range (x * n + c)).1
    have h2 : valH l * n + hiW (x * n + c) < powW l.length := le_of_W (by omega)
    rw [timesL, valH, timesL_val hn l _ (hi_nonneg hs) hw.tail h2]
/-- a carry stays a word -/
theorem carry_word {x y c : Int} (hx : OneW x) (hy : OneW y) (hc : OneW c) : OneW (hiW (x * y + c)) := by
  rw [oneW_iff] at *
  have hp : 0 ≤ x * y := Int.mul_nonneg hx.1 hy.1
  refine ⟨hi_nonneg (by omega), ?_⟩
  have h1 : x * y ≤ (W64 - 1) * (W64 - 1) := Int.le_trans (Int.mul_le_mul_of_nonneg_right (by omega) hy.1) (Int.mul_le_mul_of_nonneg_left (by omega) (by omega))
  have h2 : (W64 - 1) * (W64 - 1) + (W64 - 1) = W64 * (W64 - 1) := by have := Int.sub_mul W64 1 (W64 - 1); omega
  have h3 := split_W (x * y + c)
  have h4 := (lo_range (x * y + c)).1
  have h5 : W64 * hiW (x * y + c) < W64 * W64 := by have h6 := Int.mul_sub W64 W64 1; have := w64_pos; omega
  exact le_of_W h5
theorem carry_word2 {o x y c : Int} (ho : OneW o) (hx : OneW x) (hy : OneW y) (hc : OneW c) : OneW (hiW (o + x * y + c)) := by
  rw [oneW_iff] at *
  have hp : 0 ≤ x * y := Int.mul_nonneg hx.1 hy.1
  refine ⟨hi_nonneg (by omega), ?_⟩
  have h1 : x * y ≤ (W64 - 1) * (W64 - 1) := Int.le_trans (Int.mul_le_mul_of_nonneg_right (by omega) hy.1) (Int.mul_le_mul_of_nonneg_left (by omega) (by omega))
  have h2 : (W64 - 1) + (W64 - 1) * (W64 - 1) + (W64 - 1) = W64 * W64 - 1 := by have := Int.sub_mul W64 1 (W64 - 1); have := Int.mul_sub W64 W64 1; omega
  have h3 := split_W (o + x * y + c)
  have h4 := (lo_range (o + x * y + c)).1
  exact le_of_W (by omega)
/-! ### plus and minus -/
def plusL : List Int → List Int → Int → List Int
  | x :: l, y :: m, c => loW (x + y + c) :: plusL l m (hiW (x + y + c))
  | _, _, _ => []
theorem plusL_words : ∀ l m c, Words (plusL l m c)
  | x :: l, y :: m, c => words_cons (lo_range _) (plusL_words l m _)
  | [], _, _ => by simp [plusL, Words]
  | _ :: _, [], _ => by simp [plusL, Words]
theorem plusL_len : ∀ l m c, l.length = m.length → (plusL l m c).length = l.length
  | x :: l, y :: m, c, h => by simp [plusL, plusL_len l m _ (by simpa using h)]
  | [], _, _, _ => by simp [plusL]
  | _ :: _, [], _, h => by simp at h
theorem plusL_val : ∀ l m c, l.length = m.length → 0 ≤ c → Words l → Words m → valH l + valH m + c < powW l.length → valH (plusL l m c) = valH l + valH m + c
  | [], [], c, _, hc, _, _, h => by simp [valH, powW, plusL] at *; omega
  | x :: l, y :: m, c, hlm, hc, hw, hv, h => by
    have hs : 0 ≤ x + y + c := by have := hw.head.1; have := hv.head.1; omega
    have e : valH (x :: l) + valH (y :: m) + c = loW (x + y + c) + W64 * (valH l + valH m + hiW (x + y + c)) := by
      have := split_W (x + y + c)
      simp only [valH]
      rw [Int.mul_add, Int.mul_add]
      omega
    rw [e] at h ⊢
    simp only [List.length_cons, powW] at h
    have := (lo_range (x + y + c)).1
    have h2 : valH l + valH m + hiW (x + y + c) < powW l.length := le_of_W (by omega)
    rw [plusL, valH, plusL_val l m _ (by simpa using hlm) (hi_nonneg hs) hw.tail hv.tail h2]
  | [], _ :: _, _, h, _, _, _, _ => by simp at h
  | _ :: _, [], _, h, _, _, _, _ => by simp at h
/-- the words of a difference; c: what is borrowed, 0 or 1 -/
def minusL : List Int → List Int → Int → List Int
  | x :: l, y :: m, c => loW (x - y - c) :: minusL l m (-hiW (x - y - c))
  | _, _, _ => []
theorem minusL_words : ∀ l m c, Words (minusL l m c)
  | x :: l, y :: m, c => words_cons (lo_range _) (minusL_words l m _)
  | [], _, _ => by simp [minusL, Words]
  | _ :: _, [], _ => by simp [minusL, Words]
theorem minusL_len : ∀ l m c, l.length = m.length → (minusL l m c).length = l.length
  | x :: l, y :: m, c, h => by simp [minusL, minusL_len l m _ (by simpa using h)]
  | [], _, _, _ => by simp [minusL]
  | _ :: _, [], _, h => by simp at h
theorem minusL_val : ∀ l m c, l.length = m.length → Words l → Words m → 0 ≤ valH l - valH m - c → valH l - valH m - c < powW l.length → valH (minusL l m c) = valH l - valH m - c
  | [], [], c, _, _, _, h, h' => by simp [valH, minusL, powW] at *; omega
  | x :: l, y :: m, c, hlm, hw, hv, h, h' => by
    have e : valH (x :: l) - valH (y :: m) - c = loW (x - y - c) + W64 * (valH l - valH m - -hiW (x - y - c)) := by
      have := split_W (x - y - c)
      simp only [valH]
      rw [Int.mul_sub, Int.mul_sub, Int.mul_neg]
      omega
    rw [e] at h h' ⊢
    simp only [List.length_cons, powW] at h'
    have := lo_range (x - y - c)
    have h2 : 0 ≤ valH l - valH m - -hiW (x - y - c) := by
      by_cases k : 0 ≤ valH l - valH m - -hiW (x - y - c)
      · exact k
      · have h3 : W64 * (valH l - valH m - -hiW (x - y - c)) ≤ W64 * (-1) := Int.mul_le_mul_of_nonneg_left (by omega) (Int.le_of_lt w64_pos)
        omega
    have h4 : valH l - valH m - -hiW (x - y - c) < powW l.length := le_of_W (by omega)
    rw [minusL, valH, minusL_val l m _ (by simpa using hlm) hw.tail hv.tail h2 h4]
  | [], _ :: _, _, h, _, _, _, _ => by simp at h
  | _ :: _, [], _, h, _, _, _, _ => by simp at h
/-! ### less -/
theorem less_head {x y : Int} {l m : List Int} (hx : OneW x) (hy : OneW y) (hl : Words l) (hm : Words m) : valH (x :: l) < valH (y :: m) ↔ valH l < valH m ∨ (valH l = valH m ∧ x < y) := by
  simp only [valH]
  obtain ⟨x0, x1⟩ := (oneW_iff x).1 hx
  obtain ⟨y0, y1⟩ := (oneW_iff y).1 hy
  constructor
  · intro h
    rcases Int.lt_trichotomy (valH l) (valH m) with c | c | c
    · exact .inl c
    · exact .inr ⟨c, by rw [c] at h; omega⟩
    · have := Int.mul_le_mul_of_nonneg_left (show valH m + 1 ≤ valH l by omega) (Int.le_of_lt w64_pos)
      rw [Int.mul_add, Int.mul_one] at this
      omega
  · rintro (c | ⟨c, h⟩)
    · have := Int.mul_le_mul_of_nonneg_left (show valH l + 1 ≤ valH m by omega) (Int.le_of_lt w64_pos)
      rw [Int.mul_add, Int.mul_one] at this
      omega
    · rw [c]; omega
theorem less_same {l m s : List Int} (hlm : l.length = m.length) : valH (l ++ s) < valH (m ++ s) ↔ valH l < valH m := by
  induction l generalizing m with
  | nil =>
    obtain rfl : m = [] := List.eq_nil_of_length_eq_zero (by simpa using hlm.symm)
    simp
  | cons x l ih =>
    match m, hlm with
    | y :: m, h =>
      have key : ∀ l m : List Int, l.length = m.length → valH (l ++ s) - valH (m ++ s) = valH l - valH m := by
        intro l
        induction l with
        | nil =>
          intro m h
          obtain rfl : m = [] := List.eq_nil_of_length_eq_zero (by simpa using h.symm)
          simp [valH]
        | cons x l ih =>
          intro m h
          match m, h with
          | y :: m, h =>
            have := ih m (by simpa using h)
            simp only [List.cons_append, valH]
            have e1 : W64 * valH (l ++ s) - W64 * valH (m ++ s) = W64 * valH l - W64 * valH m := by rw [← Int.mul_sub, ← Int.mul_sub, this]
            omega
      have := key (x :: l) (y :: m) h
      omega
/-- two rows that differ at a word, and not above it -/
theorem less_at {l m s : List Int} {x y : Int} (hlm : l.length = m.length) (hl : Words l) (hm : Words m) (hxy : x ≠ y) : (valH (l ++ x :: s) < valH (m ++ y :: s)) ↔ x < y := by
  have e1 : l ++ x :: s = (l ++ [x]) ++ s := by simp
  have e2 : m ++ y :: s = (m ++ [y]) ++ s := by simp
  rw [e1, e2, less_same (by simp [hlm])]
  clear e1 e2
  have key : ∀ l m : List Int, l.length = m.length → Words l → Words m → (valH (l ++ [x]) < valH (m ++ [y]) ↔ x < y) := by
    intro l
    induction l with
    | nil =>
      intro m h _ _
      obtain rfl : m = [] := List.eq_nil_of_length_eq_zero (by simpa using h.symm)
      simp [valH]
    | cons a l ih =>
      intro m h hl hm
      match m, h, hm with
      | b :: m, h, hm =>
        have := ih m (by simpa using h) hl.tail hm.tail
        obtain ⟨x0, x1⟩ := (oneW_iff a).1 hl.head
        obtain ⟨y0, y1⟩ := (oneW_iff b).1 hm.head
        simp only [List.cons_append, valH]
        rw [← this]
        constructor
        · intro hq
          by_cases c : valH (l ++ [x]) < valH (m ++ [y])
          · exact c
          · exfalso
            by_cases d : valH (l ++ [x]) = valH (m ++ [y])
            · have key2 : ∀ l m : List Int, l.length = m.length → Words l → Words m → valH (l ++ [x]) = valH (m ++ [y]) → x = y := by
                intro l
                induction l with
                | nil =>
                  intro m h _ _ e
                  obtain rfl : m = [] := List.eq_nil_of_length_eq_zero (by simpa using h.symm)
                  simpa [valH] using e
                | cons a l ih =>
                  intro m h hl hm e
                  match m, h, hm with
                  | b :: m, h, hm =>
                    obtain ⟨x0, x1⟩ := (oneW_iff a).1 hl.head
                    obtain ⟨y0, y1⟩ := (oneW_iff b).1 hm.head
                    simp only [List.cons_append, valH] at e
                    refine ih m (by simpa using h) hl.tail hm.tail ?_
                    rcases Int.lt_trichotomy (valH (l ++ [x])) (valH (m ++ [y])) with c | c | c
                    · have := Int.mul_le_mul_of_nonneg_left (show valH (l ++ [x]) + 1 ≤ valH (m ++ [y]) by omega) (Int.le_of_lt w64_pos)
                      rw [Int.mul_add, Int.mul_one] at this
                      omega
                    · exact c
                    · have := Int.mul_le_mul_of_nonneg_left (show valH (m ++ [y]) + 1 ≤ valH (l ++ [x]) by omega) (Int.le_of_lt w64_pos)
                      rw [Int.mul_add, Int.mul_one] at this
                      omega
              exact hxy (key2 l m (by simpa using h) hl.tail hm.tail d)
            · have := Int.mul_le_mul_of_nonneg_left (show valH (m ++ [y]) + 1 ≤ valH (l ++ [x]) by omega) (Int.le_of_lt w64_pos)
              rw [Int.mul_add, Int.mul_one] at this
              omega
        · intro c
          have := Int.mul_le_mul_of_nonneg_left (show valH (l ++ [x]) + 1 ≤ valH (m ++ [y]) by omega) (Int.le_of_lt w64_pos)
          rw [Int.mul_add, Int.mul_one] at this
          omega
  exact key l m hlm hl hm
/-! ### mul -/
/-- a row of a product on what stands there; what has no room is dropped -/
def rowL (y : Int) : List Int → List Int → Int → List Int
  | o :: os, x :: l, c => loW (o + x * y + c) :: rowL y os l (hiW (o + x * y + c))
  | os, _, _ => os
theorem rowL_words (y : Int) : ∀ os l c, Words os → Words (rowL y os l c)
  | o :: os, x :: l, c, h => words_cons (lo_range _) (rowL_words y os l _ h.tail)
  | [], _, _, h => by simp [rowL, Words]
  | _ :: _, [], _, h => by simpa [rowL] using h
theorem rowL_len (y : Int) : ∀ os l c, (rowL y os l c).length = os.length
  | o :: os, x :: l, c => by simp [rowL, rowL_len y os l]
  | [], _, _ => by simp [rowL]
  | _ :: _, [], _ => by simp [rowL]
theorem rowL_val {y : Int} (hy : 0 ≤ y) : ∀ os l c, os.length ≤ l.length → 0 ≤ c → Words os → Words l → valH os + valH l * y + c < powW os.length → valH (rowL y os l c) = valH os + valH l * y + c
  | [], l, c, _, hc, _, hl, h => by
    have := Int.mul_nonneg (valH_bound l hl).1 hy
    have e : valH (rowL y [] l c) = 0 := by cases l <;> simp [rowL, valH]
    rw [e]
    simp only [valH, powW, List.length_nil] at h ⊢
    omega
  | o :: os, x :: l, c, hlm, hc, hw, hv, h => by
    have hs : 0 ≤ o + x * y + c := by have := hw.head.1; have := Int.mul_nonneg hv.head.1 hy; omega
    have e : valH (o :: os) + valH (x :: l) * y + c = loW (o + x * y + c) + W64 * (valH os + valH l * y + hiW (o + x * y + c)) := by
      have := split_W (o + x * y + c)
      simp only [valH]
      have e1 : (x + W64 * valH l) * y = x * y + W64 * (valH l * y) := by rw [Int.add_mul, Int.mul_assoc]
      rw [e1, Int.mul_add, Int.mul_add]
      omega
    rw [e] at h ⊢
    simp only [List.length_cons, powW] at h
    have := (lo_range (o + x * y + c)).1
    have h2 : valH os + valH l * y + hiW (o + x * y + c) < powW os.length := le_of_W (by omega)
    rw [rowL, valH, rowL_val hy os l _ (by simpa using hlm) (hi_nonneg hs) hw.tail hv.tail h2]
  | _ :: _, [], _, h, _, _, _, _ => by simp at h
/-- the rows of a product, one behind the other, each one word further -/
def mulL (l : List Int) : List Int → List Int → List Int
  | [], out => out
  | y :: m, out => match rowL y out l 0 with
    | [] => []
    | o :: os => o :: mulL l m os
theorem mulL_words (l : List Int) : ∀ m out, Words out → Words (mulL l m out)
  | [], out, h => h
  | y :: m, out, h => by
    have h1 := rowL_words y out l 0 h
    unfold mulL
    cases hr : rowL y out l 0 with
    | nil => simp [Words]
    | cons o os =>
      rw [hr] at h1
      exact words_cons h1.head (mulL_words l m os h1.tail)
theorem mulL_len (l : List Int) : ∀ m out, (mulL l m out).length = out.length
  | [], out => rfl
  | y :: m, out => by
    have h1 := rowL_len y out l 0
    unfold mulL
    cases hr : rowL y out l 0 with
    | nil => rw [hr] at h1; simpa using h1
    | cons o os =>
      rw [hr] at h1
      simp only [List.length_cons, mulL_len l m os]
      simpa using h1
theorem mulL_val {l : List Int} (hl : Words l) : ∀ m out, out.length = m.length → m.length ≤ l.length → Words m → Words out → valH out + valH l * valH m < powW out.length → valH (mulL l m out) = valH out + valH l * valH m
  | [], out, h0, _, _, _, h => by
    obtain rfl : out = [] := List.eq_nil_of_length_eq_zero (by simpa using h0)
    simp [mulL, valH]
  | y :: m, out, h0, h1, hm, ho, h => by
    have hy := hm.head.1
    have a0 := (valH_bound l hl).1
    have a1 := (valH_bound m hm.tail).1
    have e : valH l * valH (y :: m) = valH l * y + W64 * (valH l * valH m) := by
      simp only [valH]
      rw [Int.mul_add, ← Int.mul_assoc, ← Int.mul_assoc, Int.mul_comm W64]
    have a2 : 0 ≤ valH l * valH m := Int.mul_nonneg a0 a1
    have a3 : 0 ≤ W64 * (valH l * valH m) := Int.mul_nonneg (Int.le_of_lt w64_pos) a2
    have hr := rowL_val hy out l 0 (by rw [h0]; exact h1) (Int.le_refl _) ho hl (by rw [e] at h; omega)
    have hrl := rowL_len y out l 0
    have hrw := rowL_words y out l 0 ho
    unfold mulL
    cases hc : rowL y out l 0 with
    | nil => rw [hc, h0] at hrl; simp at hrl
    | cons o os =>
      rw [hc] at hr hrl hrw
      rw [e]
      simp only [valH, Int.add_zero] at hr ⊢
      have hol : os.length = m.length := by simp at hrl h0; omega
      have hb : valH os + valH l * valH m < powW os.length := by
        rw [e] at h
        have e2 : powW out.length = W64 * powW os.length := by rw [← hrl]; rfl
        rw [e2] at h
        refine le_of_W ?_
        rw [Int.mul_add]
        have := hrw.head.1
        omega
      rw [mulL_val hl m os hol (by simp at h1; omega) hm.tail hrw.tail hb, Int.mul_add]
      omega
end Go.Proofs.Ytopmdeefcjdadaa
