/- The reference's reached and first: a search by halves. -/
import Derived.Test.YthoiamaomhggiaaRFade
namespace Go.Proofs.Ythoiamaomhggiaa
open Go.RowKit
set_option linter.unusedVariables false
set_option linter.unusedSimpArgs false

def reachB (f : Fd) (n k : Int) : Bool := if f.fr < f.to then decide (k ≤ n) else if f.to < f.fr then decide (n ≤ k) else decide (n = k)
/-- a search by halves -/
def bs (P : Int → Bool) : Nat → Int → Int → Int
  | 0, lo, _ => lo
  | n + 1, lo, hi => if lo < hi then (if P ((lo + hi) / 2) then bs P n lo ((lo + hi) / 2) else bs P n ((lo + hi) / 2 + 1) hi) else lo
def bsV (P : Int → Bool) (lo hi : Int) : Int := bs P (hi - lo).toNat lo hi
theorem bs_enough (P : Int → Bool) : ∀ (n m : Nat) (lo hi : Int), (hi - lo).toNat ≤ n → (hi - lo).toNat ≤ m → bs P n lo hi = bs P m lo hi := by
  intro n
  induction n with
  | zero =>
    intro m lo hi h1 h2
    cases m with
    | zero => rfl
    | succ m => simp only [bs]; rw [if_neg (by omega)]
  | succ n ih =>
    intro m lo hi h1 h2
    cases m with
    | zero => simp only [bs]; rw [if_neg (by omega)]
    | succ m =>
      simp only [bs]
      by_cases h : lo < hi
      · rw [if_pos h, if_pos h, ih m lo ((lo + hi) / 2) (by omega) (by omega), ih m ((lo + hi) / 2 + 1) hi (by omega) (by omega)]
      · rw [if_neg h, if_neg h]
theorem bsV_end (P : Int → Bool) {lo hi : Int} (h : hi ≤ lo) : bsV P lo hi = lo := by
  unfold bsV
  rw [show (hi - lo).toNat = 0 by omega]
  rfl
theorem bsV_yes (P : Int → Bool) {lo hi : Int} (h : lo < hi) (hp : P ((lo + hi) / 2) = true) : bsV P lo hi = bsV P lo ((lo + hi) / 2) := by
  unfold bsV
  rw [bs_enough P (hi - lo).toNat ((hi - lo).toNat - 1 + 1) lo hi (by omega) (by omega)]
  simp only [bs]
  rw [if_pos h, if_pos hp]
  exact bs_enough P _ _ _ _ (by omega) (by omega)
theorem bsV_no (P : Int → Bool) {lo hi : Int} (h : lo < hi) (hp : P ((lo + hi) / 2) = false) : bsV P lo hi = bsV P ((lo + hi) / 2 + 1) hi := by
  unfold bsV
  rw [bs_enough P (hi - lo).toNat ((hi - lo).toNat - 1 + 1) lo hi (by omega) (by omega)]
  simp only [bs]
  rw [if_pos h, if_neg (by simp [hp])]
  exact bs_enough P _ _ _ _ (by omega) (by omega)

set_option maxHeartbeats 2000000 in
theorem reached_any (v : Value) (f : Fd) (n k : Int) (w : World) (hv : FdV w v f) :
    Calls Try.prog 72 #[v, .int .i64 n, .int .i64 k] w fun e w' => e = .returned (.bool (reachB f n k)) ∧ Below w.heap.size w w' := by
  obtain ⟨p, rfl, hp⟩ := hv
  clear hp
  by_cases h1 : f.fr < f.to
  · have h1' : ¬ f.to < f.fr := by omega
    by_cases h : k ≤ n
    · have HF := Lib.hid (show reachB f n k = true by unfold reachB; rw [if_pos h1]; simpa using h)
      go_enter Try.func72, Try.ntmps72
      go_wp2
      go_ret
      exact ⟨by rw [HF.out]; first | rfl | simp [h], below1⟩
    · have HF := Lib.hid (show reachB f n k = false by unfold reachB; rw [if_pos h1]; simpa using h)
      go_enter Try.func72, Try.ntmps72
      go_wp2
      go_ret
      exact ⟨by rw [HF.out]; first | rfl | simp [h], below1⟩
  · by_cases h2 : f.to < f.fr
    · by_cases h : n ≤ k
      · have HF := Lib.hid (show reachB f n k = true by unfold reachB; rw [if_neg h1, if_pos h2]; simpa using h)
        go_enter Try.func72, Try.ntmps72
        go_wp2
        go_ret
        exact ⟨by rw [HF.out]; first | rfl | simp [h], below1⟩
      · have HF := Lib.hid (show reachB f n k = false by unfold reachB; rw [if_neg h1, if_pos h2]; simpa using h)
        go_enter Try.func72, Try.ntmps72
        go_wp2
        go_ret
        exact ⟨by rw [HF.out]; first | rfl | simp [h], below1⟩
    · by_cases h : n = k
      · subst h
        have HF := Lib.hid (show reachB f n n = true by unfold reachB; rw [if_neg h1, if_neg h2]; simp)
        go_enter Try.func72, Try.ntmps72
        go_wp2
        go_ret
        exact ⟨by rw [HF.out]; first | rfl | simp, below1⟩
      · have HF := Lib.hid (show reachB f n k = false by unfold reachB; rw [if_neg h1, if_neg h2]; simpa using h)
        have hb : (n == k) = false := by simpa using h
        go_enter Try.func72, Try.ntmps72
        go_wp2
        go_ret
        exact ⟨by rw [HF.out]; first | rfl | simp [h], below1⟩

theorem fade_cells {w : World} {c0 c1 c2 c3 c4 c5 c6 : Value} {T : TypeId} : ∀ W, Below (w.heap.size + 1) (w.alloc (.cells #[c0, c1, c2, c3, c4, c5, c6] T)) W → W.cell? ⟨w.heap.size, 0, none⟩ = some c0 ∧ W.cell? ⟨w.heap.size, 1, none⟩ = some c1 ∧ W.cell? ⟨w.heap.size, 2, none⟩ = some c2 ∧ W.cell? ⟨w.heap.size, 3, none⟩ = some c3 ∧ W.cell? ⟨w.heap.size, 4, none⟩ = some c4 ∧ W.cell? ⟨w.heap.size, 5, none⟩ = some c5 ∧ W.cell? ⟨w.heap.size, 6, none⟩ = some c6 := fun W hW => by
  have hW' : Below (w.alloc (.cells #[c0, c1, c2, c3, c4, c5, c6] T)).heap.size (w.alloc (.cells #[c0, c1, c2, c3, c4, c5, c6] T)) W := hW.mono (by simp)
  exact ⟨boxAt hW' 0 rfl, boxAt hW' 1 rfl, boxAt hW' 2 rfl, boxAt hW' 3 rfl, boxAt hW' 4 rfl, boxAt hW' 5 rfl, boxAt hW' 6 rfl⟩

set_option maxHeartbeats 4000000 in
theorem rfirst_any (v : Value) (f : Fd) (lo hi k : Int) (w : World) (hv : FdV w v f) (hf : RightF f) (h0 : 0 ≤ lo) (h1 : lo ≤ hi) (h2 : hi ≤ 36000000) :
    Calls Try.prog 69 #[v, .int .i64 lo, .int .i64 hi, .int .i64 k] w fun e w' => e = .returned (.int .i64 (bsV (fun t => reachB f (atV f t) k) lo hi)) ∧ Below w.heap.size w w' := by
  have CA := Lib.hid (fun (t : Int) (ht : IsTm t) W (hW : Below w.heap.size w W) => rLevelAt_any v f t W (fdV_below hv hW) hf ht)
  have CR := Lib.hid (fun (n : Int) W (hW : Below w.heap.size w W) => reached_any v f n k W (fdV_below hv hW))
  obtain ⟨p, rfl, hp⟩ := hv
  clear hp hf
  have BS := Lib.hid (fun (a b : Int) => bsV_end (fun t => reachB f (atV f t) k) (lo := a) (hi := b))
  have BY := Lib.hid (fun (a b : Int) => bsV_yes (fun t => reachB f (atV f t) k) (lo := a) (hi := b))
  have BN := Lib.hid (fun (a b : Int) => bsV_no (fun t => reachB f (atV f t) k) (lo := a) (hi := b))
  go_enter Try.func69, Try.ntmps69
  go_wp2_with fail
  have KC := Lib.hid (fade_cells (w := w) (c0 := .int .i64 f.fr) (c1 := .int .i64 f.to) (c2 := .int .i64 f.start) (c3 := .int .i64 f.delay) (c4 := .int .i64 f.time) (c5 := .int .i64 f.curve.kind) (c6 := p) (T := 46))
  have KB := Lib.hid (show ∀ W, Below (w.heap.size + 1) (w.alloc (.cells #[.int .i64 f.fr, .int .i64 f.to, .int .i64 f.start, .int .i64 f.delay, .int .i64 f.time, .int .i64 f.curve.kind, p] 46)) W → Below w.heap.size w W from fun W hW => below1.trans (hW.mono (by omega)))
  have KZ := Lib.hid (show ∀ W, Below (w.heap.size + 1) (w.alloc (.cells #[.int .i64 f.fr, .int .i64 f.to, .int .i64 f.start, .int .i64 f.delay, .int .i64 f.time, .int .i64 f.curve.kind, p] 46)) W → w.heap.size + 1 ≤ W.heap.size from fun W hW => by
    have := hW.size
    simpa using this)
  have KT := Lib.hid (show ∀ W W', Below (w.heap.size + 1) (w.alloc (.cells #[.int .i64 f.fr, .int .i64 f.to, .int .i64 f.start, .int .i64 f.delay, .int .i64 f.time, .int .i64 f.curve.kind, p] 46)) W → Below W.heap.size W W' → Below (w.heap.size + 1) (w.alloc (.cells #[.int .i64 f.fr, .int .i64 f.to, .int .i64 f.start, .int .i64 f.delay, .int .i64 f.time, .int .i64 f.curve.kind, p] 46)) W' from fun W W' h1 h2 => h1.trans (h2.mono (KZ.out W h1)))
  go_loopw [1, 2] (fun i j wr => ∃ a b : Int, i = .int .i64 a ∧ j = .int .i64 b ∧ lo ≤ a ∧ a ≤ b ∧ b ≤ hi ∧ Hid (bsV (fun t => reachB f (atV f t) k) a b = bsV (fun t => reachB f (atV f t) k) lo hi) ∧ Below (w.heap.size + 1) (w.alloc (.cells #[.int .i64 f.fr, .int .i64 f.to, .int .i64 f.start, .int .i64 f.delay, .int .i64 f.time, .int .i64 f.curve.kind, p] 46)) wr) (fun i j _ => (intOf j - intOf i).toNat)
  case atStart => exact ⟨lo, hi, rfl, rfl, Int.le_refl _, h1, Int.le_refl _, Lib.hid rfl, Below.refl _ _⟩
  case round =>
    obtain ⟨a, b, rfl, rfl, r1, r2, r3, HB, hbw⟩ := hrel
    by_cases hab : a < b
    · have hm1 : a ≤ (a + b) / 2 := by omega
      have hm2 : (a + b) / 2 < b := by omega
      have hm3 : Int.tdiv (a + b) 2 = (a + b) / 2 := Int.tdiv_eq_ediv_of_nonneg (by omega)
      have hw0 : Below (w.heap.size + 1) (w.alloc (.cells #[.int .i64 f.fr, .int .i64 f.to, .int .i64 f.start, .int .i64 f.delay, .int .i64 f.time, .int .i64 f.curve.kind, p] 46)) (World.drew wr) := hbw.drew
      have CA2 := Lib.hid (CA.out ((a + b) / 2) ⟨by omega, by omega⟩)
      have CR2 := Lib.hid (CR.out (atV f ((a + b) / 2)))
      have BY2 := Lib.hid (BY.out a b hab)
      have BN2 := Lib.hid (BN.out a b hab)
      generalize hmm : (a + b) / 2 = m at *
      cases hP : reachB f (atV f m) k
      all_goals
        rw [hP] at CR2
        have HP := Lib.hid hP
        clear hP
        generalize atV f m = n at CA2 CR2
        go_upto_region 3 with fail
        go_region_held3 (fun W => W.cell? ⟨w.heap.size, 0, none⟩ = some (.int .i64 f.fr) ∧ W.cell? ⟨w.heap.size, 1, none⟩ = some (.int .i64 f.to) ∧ W.cell? ⟨w.heap.size, 2, none⟩ = some (.int .i64 f.start) ∧ W.cell? ⟨w.heap.size, 3, none⟩ = some (.int .i64 f.delay) ∧ W.cell? ⟨w.heap.size, 4, none⟩ = some (.int .i64 f.time) ∧ W.cell? ⟨w.heap.size, 5, none⟩ = some (.int .i64 f.curve.kind) ∧ W.cell? ⟨w.heap.size, 6, none⟩ = some p)
          (exact KC.out _ (by assumption))
          (first
            | (go_at_call 68; ((with_reducible refine (CA2.out _ (KB.out _ (by assumption))).mono ?_); rintro e WA ⟨rfl, hb⟩; have hwA := KT.out _ _ (by assumption) hb; clear hb))
            | (go_at_call 72; ((with_reducible refine (CR2.out _ (KB.out _ hwA)).mono ?_); rintro e WR ⟨rfl, hb⟩; have hwR := KT.out _ _ hwA hb; clear hb))
            | fail)
        all_goals
          have HZ := Lib.hid hwR
          go_wp2_with fail
          go_roundw
          case rel =>
            first
              | exact ⟨a, m, rfl, rfl, by omega, by omega, by omega, Lib.hid ((BY2.out HP.out).symm.trans HB.out), HZ.out⟩
              | exact ⟨m + 1, b, by go_num, rfl, by omega, by omega, by omega, Lib.hid ((BN2.out HP.out).symm.trans HB.out), HZ.out⟩
          case measure => simp [intOf]; omega
    · have HV := Lib.hid ((BS.out a b (by omega)).symm.trans HB.out)
      have HZ := Lib.hid (KB.out _ hbw)
      go_wp2
      go_ret
      exact ⟨by rw [← HV.out]; rfl, HZ.out⟩
end Go.Proofs.Ythoiamaomhggiaa
