/- The walk of cycloramalaw1.LevelReachIsFirst: for every input it returns true. -/
import Derived.Test.YtdicoggpcobbpaaDoorPReachB
import Derived.Test.YtdicoggpcobbpaaDoorChgPlain
import Derived.Test.YtdicoggpcobbpaaDoorTextTimes
namespace Go.Proofs.YtdicoggpcobbpaaDoor.levelReachIsFirst
open Go.RowKit
set_option linter.unusedVariables false
set_option linter.unusedSimpArgs false

theorem reach_mono (f : Fd) (hf : RightF f) (k : Int) (hk : f.fr ≠ f.to) (a b : Int) (h : a ≤ b) (ha : reachB f (atV f a) k = true) : reachB f (atV f b) k = true := by
  have m := at_mono f hf a b h
  unfold reachB at ha ⊢
  rcases Int.lt_trichotomy f.fr f.to with h1 | h1 | h1
  · rw [if_pos h1] at ha ⊢
    have := m.1 (by omega)
    have := of_decide_eq_true ha
    exact decide_eq_true (by omega)
  · exact absurd h1 hk
  · rw [if_neg (by omega), if_pos h1] at ha ⊢
    have := m.2 (by omega)
    have := of_decide_eq_true ha
    exact decide_eq_true (by omega)
theorem flat (f : Fd) (hf : RightF f) (h : f.fr = f.to) (t : Int) : atV f t = f.to := by
  have r := at_range f hf t
  have := r.1 (by omega)
  omega
/-- what a reached level says -/
theorem reach_facts (f : Fd) (k : Int) (h : rchB f k = true) :
    rchE f k = 0 ∧ RightF f ∧ (0 ≤ rchT f k ∧ rchT f k ≤ 36000000) ∧ f.start ≤ rchT f k ∧ reachB f (atV f (rchT f k)) k = true ∧ (rchT f k ≠ f.start → reachB f (atV f (rchT f k - 1)) k = false) := by
  have hE : rchE f k = 0 := by
    unfold rchB at h
    split at h
    · assumption
    · cases h
  have hr : reachB f f.to k = true := by unfold rchB at h; rw [if_pos hE] at h; exact h
  have hc : checkF f = 0 := by
    unfold rchE firstE at hE
    split at hE
    · assumption
    · exact hE
  have hf := (checkF_right f).1 hc
  have ht : rchT f k = bsV (fun t => reachB f (atV f t) k) f.start (f.start + f.delay + f.time) := by unfold rchT; rw [if_pos h]
  have hend : atV f (f.start + f.delay + f.time) = f.to := at_end f
  obtain ⟨_, _, b1, b2, b3, b4, _⟩ := hf
  have hf := (checkF_right f).1 hc
  unfold IsTm at b1 b2 b3 b4
  have hm : ∀ a b, f.start ≤ a → a ≤ b → b ≤ f.start + f.delay + f.time → (fun t => reachB f (atV f t) k) a = true → (fun t => reachB f (atV f t) k) b = true := by
    intro a b _ h2 _ h4
    by_cases e : f.fr = f.to
    · show reachB f (atV f b) k = true
      rw [flat f hf e b]
      exact hr
    · exact reach_mono f hf k e a b h2 h4
  obtain ⟨a1, a2, a3, a4⟩ := bsV_least (fun t => reachB f (atV f t) k) f.start (f.start + f.delay + f.time) (by omega) hm (by show reachB f (atV f _) k = true; rw [hend]; exact hr)
  rw [← ht] at a1 a2 a3 a4
  exact ⟨hE, hf, ⟨by omega, by omega⟩, a1, a3, fun hne => a4 (rchT f k - 1) (by omega) (by omega)⟩
theorem reach_none (f : Fd) (k : Int) (h : rchB f k = false) : rchT f k = 0 := by unfold rchT; rw [h]; rfl

set_option maxHeartbeats 2000000 in
theorem beyond_any (bf bk : Nat) (f : Fd) (n k : Int) (w : World) (c0 : w.cell? ⟨bf, 0, none⟩ = some (.int .i64 f.fr)) (c1 : w.cell? ⟨bf, 1, none⟩ = some (.int .i64 f.to)) (ck : w.cell? ⟨bk, 0, none⟩ = some (.int .i64 k)) :
    Calls Tryd.prog 33 #[.int .i64 n, .pointer (some ⟨bf, 0, none⟩), .pointer (some ⟨bk, 0, none⟩)] w fun e w' => e = .returned (.bool (reachB f n k)) ∧ w = w' := by
  have HR : Hid (reachB f n k = if f.fr < f.to then decide (k ≤ n) else if f.to < f.fr then decide (n ≤ k) else decide (n = k)) := rfl
  generalize reachB f n k = r at *
  generalize f.fr = x at *
  generalize f.to = y at *
  rcases Int.lt_trichotomy x y with h1 | h1 | h1
  · have h2 : ¬ y < x := by omega
    have hb : (x == y) = false := by simp; omega
    have hr := HR.out
    rw [if_pos h1] at hr
    by_cases h : k ≤ n
    · have HF := Lib.hid (hr.trans (decide_eq_true h))
      clear hr HR
      go_enter Tryd.func33, Tryd.ntmps33
      go_wp2
      go_ret
      exact ⟨by rw [HF.out]; first | rfl | (simp [*]; done) | (simp <;> omega), rfl⟩
    · have HF := Lib.hid (hr.trans (decide_eq_false h))
      clear hr HR
      go_enter Tryd.func33, Tryd.ntmps33
      go_wp2
      go_ret
      exact ⟨by rw [HF.out]; first | rfl | (simp [*]; done) | (simp <;> omega), rfl⟩
  · subst h1
    have hr := HR.out
    rw [if_neg (Int.lt_irrefl _), if_neg (Int.lt_irrefl _)] at hr
    by_cases h : n = k
    · have HF := Lib.hid (hr.trans (decide_eq_true h))
      subst h
      clear hr HR
      go_enter Tryd.func33, Tryd.ntmps33
      go_wp2
      go_ret
      exact ⟨by rw [HF.out]; first | rfl | (simp [*]; done) | (simp <;> omega), rfl⟩
    · have HF := Lib.hid (hr.trans (decide_eq_false h))
      have hb : (n == k) = false := by simpa using h
      have HH := Lib.hid h
      clear hr HR h
      go_enter Tryd.func33, Tryd.ntmps33
      go_wp2
      go_ret
      exact ⟨by rw [HF.out]; first | rfl | (simp [*]; done) | (simp <;> omega), rfl⟩
  · have h2 : ¬ x < y := by omega
    have hb : (x == y) = false := by simp; omega
    have hr := HR.out
    rw [if_neg h2, if_pos h1] at hr
    by_cases h : n ≤ k
    · have HF := Lib.hid (hr.trans (decide_eq_true h))
      clear hr HR
      go_enter Tryd.func33, Tryd.ntmps33
      go_wp2
      go_ret
      exact ⟨by rw [HF.out]; first | rfl | (simp [*]; done) | (simp <;> omega), rfl⟩
    · have HF := Lib.hid (hr.trans (decide_eq_false h))
      clear hr HR
      go_enter Tryd.func33, Tryd.ntmps33
      go_wp2
      go_ret
      exact ⟨by rw [HF.out]; first | rfl | (simp [*]; done) | (simp <;> omega), rfl⟩

set_option maxHeartbeats 8000000 in
set_option maxRecDepth 100000 in
theorem walk (a0 : Value) (k : Int) (w : World) (w0 : ∃ f, FdV w a0 f ∧ FdFit f) (_w1 : (Lit.int .i64 k).wf = true) (hT : TextW w) :
    Calls Tryd.prog 10 #[a0, .int .i64 k] w fun e w' => e = .returned (.bool true) ∧ Below w.heap.size w w' := by
  obtain ⟨f, hf, _⟩ := w0
  have C1 := Lib.hid (fun W (hW : Below w.heap.size w W) => Reach_any a0 f k W (fdV_below hf hW))
  have C2 := Lib.hid (fun (t : Int) W (hW : Below w.heap.size w W) => At_any a0 f t W (fdV_below hf hW))
  have CT := Lib.hid (fun W (hW : Below w.heap.size w W) => timesAreRead_yes W (hT.below hW))
  have HRF := Lib.hid (reach_facts f k)
  have HRN := Lib.hid (reach_none f k)
  obtain ⟨p, rfl, _⟩ := hf
  clear _w1 hT
  have KC := Lib.hid (show ∀ W, Below (w.heap.size + 1 + 1) ((w.alloc (.cells #[.int .i64 f.fr, .int .i64 f.to, .int .i64 f.start, .int .i64 f.delay, .int .i64 f.time, .int .i64 f.curve.kind, p] 40)).alloc (.cells #[.int .i64 k] 3)) W → (W.cell? ⟨w.heap.size, 0, none⟩ = some (.int .i64 f.fr) ∧ W.cell? ⟨w.heap.size, 1, none⟩ = some (.int .i64 f.to) ∧ W.cell? ⟨w.heap.size, 2, none⟩ = some (.int .i64 f.start) ∧ W.cell? ⟨w.heap.size, 3, none⟩ = some (.int .i64 f.delay) ∧ W.cell? ⟨w.heap.size, 4, none⟩ = some (.int .i64 f.time) ∧ W.cell? ⟨w.heap.size, 5, none⟩ = some (.int .i64 f.curve.kind) ∧ W.cell? ⟨w.heap.size, 6, none⟩ = some (p) ∧ W.cell? ⟨w.heap.size + 1, 0, none⟩ = some (.int .i64 k)) from fun W hW => by
    have hW' : Below (w.alloc (.cells #[.int .i64 f.fr, .int .i64 f.to, .int .i64 f.start, .int .i64 f.delay, .int .i64 f.time, .int .i64 f.curve.kind, p] 40)).heap.size (w.alloc (.cells #[.int .i64 f.fr, .int .i64 f.to, .int .i64 f.start, .int .i64 f.delay, .int .i64 f.time, .int .i64 f.curve.kind, p] 40)) W := (Below.alloc (Below.refl _ _) (Nat.le_refl _) _).trans (hW.mono (by simp))
    have c : W.cell? ⟨(w.alloc (.cells #[.int .i64 f.fr, .int .i64 f.to, .int .i64 f.start, .int .i64 f.delay, .int .i64 f.time, .int .i64 f.curve.kind, p] 40)).heap.size, 0, none⟩ = some (.int .i64 k) := boxAt (hW.mono (by simp)) 0 rfl
    exact ⟨boxAt hW' 0 rfl, boxAt hW' 1 rfl, boxAt hW' 2 rfl, boxAt hW' 3 rfl, boxAt hW' 4 rfl, boxAt hW' 5 rfl, boxAt hW' 6 rfl, by simpa using c⟩)
  have KZ := Lib.hid (show ∀ W, Below (w.heap.size + 1 + 1) ((w.alloc (.cells #[.int .i64 f.fr, .int .i64 f.to, .int .i64 f.start, .int .i64 f.delay, .int .i64 f.time, .int .i64 f.curve.kind, p] 40)).alloc (.cells #[.int .i64 k] 3)) W → (w.heap.size + 1 + 1) ≤ W.heap.size from fun W hW => by
    have := hW.size
    simpa using this)
  have KB := Lib.hid (show ∀ W, Below (w.heap.size + 1 + 1) ((w.alloc (.cells #[.int .i64 f.fr, .int .i64 f.to, .int .i64 f.start, .int .i64 f.delay, .int .i64 f.time, .int .i64 f.curve.kind, p] 40)).alloc (.cells #[.int .i64 k] 3)) W → Below w.heap.size w W from fun W hW => below2.trans (hW.mono (by omega)))
  have KT := Lib.hid (show ∀ W W1, Below (w.heap.size + 1 + 1) ((w.alloc (.cells #[.int .i64 f.fr, .int .i64 f.to, .int .i64 f.start, .int .i64 f.delay, .int .i64 f.time, .int .i64 f.curve.kind, p] 40)).alloc (.cells #[.int .i64 k] 3)) W → Below W.heap.size W W1 → Below (w.heap.size + 1 + 1) ((w.alloc (.cells #[.int .i64 f.fr, .int .i64 f.to, .int .i64 f.start, .int .i64 f.delay, .int .i64 f.time, .int .i64 f.curve.kind, p] 40)).alloc (.cells #[.int .i64 k] 3)) W1 from fun W W1 h1 h2 => h1.trans (h2.mono (KZ.out W h1)))
  have KR := Lib.hid (show Below (w.heap.size + 1 + 1) ((w.alloc (.cells #[.int .i64 f.fr, .int .i64 f.to, .int .i64 f.start, .int .i64 f.delay, .int .i64 f.time, .int .i64 f.curve.kind, p] 40)).alloc (.cells #[.int .i64 k] 3)) ((w.alloc (.cells #[.int .i64 f.fr, .int .i64 f.to, .int .i64 f.start, .int .i64 f.delay, .int .i64 f.time, .int .i64 f.curve.kind, p] 40)).alloc (.cells #[.int .i64 k] 3)) from Below.refl _ _)
  have hmf : ∀ (fn : Fn) (first cap : Array Value) (w : World), (Instr.makeFunc fn first cap).run Tryd.prog w = .ok (.func fn first cap) w := fun _ _ _ _ => rfl
  cases hB : rchB f k
  · rw [hB, HRN.out hB] at C1
    generalize rchE f k = E at *
    clear hB HRF HRN C2
    go_enter Tryd.func10, Tryd.ntmps10
    go_wp2_with fail
    refine (C1.out _ (KB.out _ KR.out)).mono ?_
    rintro e w1 ⟨rfl, hb1⟩
    have hw1 := KT.out _ _ KR.out hb1
    clear hb1
    go_wp2_with fail
    refine (CT.out _ (KB.out _ hw1)).mono ?_
    rintro e w2 ⟨rfl, hb2⟩
    have HW2 := Lib.hid (KB.out _ (KT.out _ _ hw1 hb2))
    clear hb2 hw1
    go_wp2
    all_goals go_ret
    all_goals exact ⟨by first | rfl | (simp; done), HW2.out⟩
  · obtain ⟨hE, hf, ht, hs, hr, hr2⟩ := HRF.out hB
    rw [hB, hE] at C1
    have hA : atE f (rchT f k) = 0 := (atE_ok f _).2 ⟨hf, ht⟩
    have hAV : atR f (rchT f k) = atV f (rchT f k) := by unfold atR; rw [if_pos hA]
    have CA := Lib.hid (C2.out (rchT f k))
    rw [hA, hAV] at CA
    have HA1 := Lib.hid (fun (hne : rchT f k ≠ f.start) => show atE f (rchT f k - 1) = 0 from (atE_ok f _).2 ⟨hf, by obtain ⟨_, _, b1, _⟩ := hf; unfold IsTm at b1 ⊢; omega⟩)
    have HV1 := Lib.hid (fun (hne : rchT f k ≠ f.start) => show atR f (rchT f k - 1) = atV f (rchT f k - 1) from by unfold atR; rw [if_pos (HA1.out hne)])
    have CA1 := Lib.hid (C2.out (rchT f k - 1))
    have b1 := hf.2.2.1
    unfold IsTm at b1
    obtain ⟨b1, b1'⟩ := b1
    generalize rchT f k = T at *
    have HY := Lib.hid (fun bf bk W c0 c1 ck => beyond_any bf bk f (atV f T) k W c0 c1 ck)
    rw [hr] at HY
    have HY1 := Lib.hid (fun bf bk W c0 c1 ck => beyond_any bf bk f (atV f (T - 1)) k W c0 c1 ck)
    obtain ⟨t0, t9⟩ := ht
    clear hB HRF HRN C2 hE hf hr hA hAV
    generalize atV f T = x at *
    by_cases hne : T = f.start
    · have hnb : (T == f.start) = true := by simpa using hne
      have hlt : decide (T < f.start) = false := by simp; omega
      clear hne HA1 HV1 CA1 HY1 hr2 hs
      go_enter Tryd.func10, Tryd.ntmps10
      go_wp2_with fail
      refine (C1.out _ (KB.out _ KR.out)).mono ?_
      rintro e w1 ⟨rfl, hb1⟩
      have hw1 := KT.out _ _ KR.out hb1
      clear hb1
      go_wp2_with fail
      refine (CT.out _ (KB.out _ hw1)).mono ?_
      rintro e w2 ⟨rfl, hb2⟩
      have hw2 := KT.out _ _ hw1 hb2
      clear hb2 hw1
      obtain ⟨d0, d1, d2, d3, d4, d5, d6, dk⟩ := KC.out _ hw2
      go_wp2_with fail
      refine (CA.out _ (KB.out _ hw2)).mono ?_
      rintro e w3 ⟨rfl, hb3⟩
      have hw3 := KT.out _ _ hw2 hb3
      clear hb3 hw2 d0 d1 d2 d3 d4 d5 d6 dk
      obtain ⟨d0, d1, d2, d3, d4, d5, d6, dk⟩ := KC.out _ hw3
      have HW3 := Lib.hid (KB.out _ hw3)
      go_wp2_with fail
      refine (HY.out _ _ _ d0 d1 dk).mono ?_
      rintro e w' ⟨rfl, rfl⟩
      go_wp2
      go_ret
      exact ⟨by first | rfl | (simp; done), HW3.out⟩
    · have hnb : (T == f.start) = false := by simpa using hne
      have hlt : decide (T < f.start) = false := by simp; omega
      rw [HA1.out hne, HV1.out hne] at CA1
      rw [hr2 hne] at HY1
      generalize atV f (T - 1) = y at *
      clear HA1 HV1 hr2
      have hgt : f.start < T := by omega
      clear hne hs
      go_enter Tryd.func10, Tryd.ntmps10
      go_wp2_with fail
      refine (C1.out _ (KB.out _ KR.out)).mono ?_
      rintro e w1 ⟨rfl, hb1⟩
      have hw1 := KT.out _ _ KR.out hb1
      clear hb1
      go_wp2_with fail
      refine (CT.out _ (KB.out _ hw1)).mono ?_
      rintro e w2 ⟨rfl, hb2⟩
      have hw2 := KT.out _ _ hw1 hb2
      clear hb2 hw1
      obtain ⟨d0, d1, d2, d3, d4, d5, d6, dk⟩ := KC.out _ hw2
      go_wp2_with fail
      refine (CA.out _ (KB.out _ hw2)).mono ?_
      rintro e w3 ⟨rfl, hb3⟩
      have hw3 := KT.out _ _ hw2 hb3
      clear hb3 hw2 d0 d1 d2 d3 d4 d5 d6 dk
      obtain ⟨d0, d1, d2, d3, d4, d5, d6, dk⟩ := KC.out _ hw3
      go_wp2_with fail
      refine (HY.out _ _ _ d0 d1 dk).mono ?_
      rintro e w' ⟨rfl, rfl⟩
      go_wp2_with fail
      refine (CA1.out _ (KB.out _ hw3)).mono ?_
      rintro e w4 ⟨rfl, hb4⟩
      have hw4 := KT.out _ _ hw3 hb4
      clear hb4 hw3 d0 d1 d2 d3 d4 d5 d6 dk
      obtain ⟨d0, d1, d2, d3, d4, d5, d6, dk⟩ := KC.out _ hw4
      have HW4 := Lib.hid (KB.out _ hw4)
      go_wp2_with fail
      refine (HY1.out _ _ _ d0 d1 dk).mono ?_
      rintro e w' ⟨rfl, rfl⟩
      go_wp2
      go_ret
      exact ⟨by first | rfl | (simp; done), HW4.out⟩
end Go.Proofs.YtdicoggpcobbpaaDoor.levelReachIsFirst
