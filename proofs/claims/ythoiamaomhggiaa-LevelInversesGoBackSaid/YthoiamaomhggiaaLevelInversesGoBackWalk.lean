/- The walk of cycloramalaw1.LevelInversesGoBack: for every curve and any two numbers it returns true. -/
import Derived.Test.YthoiamaomhggiaaInverse
namespace Go.Proofs.Ythoiamaomhggiaa.levelInversesGoBack
open Go.RowKit

theorem back_sum (c : Cv) (p q : Int) (hc : RightC c) (h5 : c.kind ≠ 5) (hp : PartOk p q) :
    easeE (invC c) (q - p) q = 0 ∧ (easeV c p q + easeV (invC c) (q - p) q = 65535 ∨ easeV c p q + easeV (invC c) (q - p) q = 65536) := by
  obtain ⟨⟨q1, q2⟩, p0, p1⟩ := hp
  have hr := right_inv c hc h5
  have e1 : easeE c p q = 0 := (easeE_ok c p q).2 ⟨hc, ⟨q1, q2⟩, p0, p1⟩
  have e2 : easeE (invC c) (q - p) q = 0 := (easeE_ok _ _ _).2 ⟨hr, ⟨q1, q2⟩, by omega, by omega⟩
  have w1 := way_range c hc p q (by omega) p0 p1
  have w2 := way_range (invC c) hr (q - p) q (by omega) (by omega) (by omega)
  have hi := inv_way c hc h5 p q (by omega) p0 p1
  refine ⟨e2, ?_⟩
  unfold easeV
  rw [if_pos e1, if_pos e2, rnd_congr (a := 65535 * wayN (invC c) (q - p) q) (b := wayD (invC c) (q - p) q) (c := 65535 * (wayD c p q - wayN c p q)) (e := wayD c p q) w2.1 w1.1 (by
    rw [Int.mul_assoc, Int.mul_assoc, hi])]
  exact rnd_two 65535 (wayN c p q) (wayD c p q) w1.1

theorem invE_zero (c : Cv) (h : invE c = 0) : RightC c ∧ c.kind ≠ 5 ∧ invR c = invC c := by
  unfold invE at h
  by_cases hk : checkC c = 0
  · rw [if_neg (fun k => k hk)] at h
    by_cases h5 : c.kind = 5
    · rw [if_pos h5] at h; omega
    · exact ⟨(checkC_right c).1 hk, h5, by unfold invR; rw [if_neg (fun k => k hk), if_neg h5]⟩
  · rw [if_pos hk] at h; exact absurd h hk
theorem invE_pos (c : Cv) (h : invE c ≠ 0) : invR c = ⟨0, []⟩ := by
  unfold invE at h
  unfold invR
  by_cases hk : checkC c = 0
  · rw [if_neg (fun k => k hk)] at h ⊢
    by_cases h5 : c.kind = 5
    · rw [if_pos h5]
    · rw [if_neg h5] at h; exact absurd rfl h
  · rw [if_pos hk]

theorem pts_shape {w : World} {v : Value} {ps : List (Int × Int)} (h : PtsV w v ps) : ∃ ao cap, v = .slice ao ps.length cap := by
  rcases h with ⟨h, ao, cap, rfl⟩ | ⟨_, _, b, off, cap, rfl, _⟩
  · exact ⟨ao, cap, by rw [h]; rfl⟩
  · exact ⟨_, cap, rfl⟩

set_option maxHeartbeats 2000000 in
theorem walk (a0 : Value) (a1 : Int) (a2 : Int) (w : World) (w0 : ∃ c, CvV w a0 c ∧ CvFit c) (_w1 : (Lit.int .i64 a1).wf = true) (_w2 : (Lit.int .i64 a2).wf = true) :
    Calls Try.prog 8 #[a0, .int .i64 a1, .int .i64 a2] w fun e w' => e = .returned (.bool true) ∧ Below w.heap.size w w' := by
  obtain ⟨c, hv, _⟩ := w0
  have IN := Lib.hid (fun W (hW : Below w.heap.size w W) => Inverse_any a0 c W (cvV_below hv hW))
  have EA := Lib.hid (fun W (hW : Below w.heap.size w W) => Ease_any a0 c a1 a2 W (cvV_below hv hW))
  obtain ⟨p, rfl, hp⟩ := hv
  obtain ⟨ao, cp, rfl⟩ := pts_shape hp
  clear hp
  by_cases hf : invE c = 0
  · obtain ⟨hc, h5, hR⟩ := invE_zero c hf
    rw [hf, hR] at IN
    by_cases hg : easeE c a1 a2 = 0
    · have hpo := ((easeE_ok c a1 a2).1 hg).2
      obtain ⟨he2, hsum⟩ := back_sum c a1 a2 hc h5 hpo
      rw [hg] at EA
      obtain ⟨⟨q1, q2⟩, p0, p1⟩ := hpo
      have HE2 := Lib.hid he2
      have hw : ∃ s : Int, s = easeV (invC c) (a2 - a1) a2 := ⟨_, rfl⟩
      obtain ⟨s, hs⟩ := hw
      rw [← hs] at hsum
      have HS := Lib.hid hs.symm
      generalize easeV c a1 a2 = av at *
      clear hs he2 hf hg hR h5 hc
      have hbound : av + s = 65535 ∨ av + s = 65536 := hsum
      clear hsum
      go_enter Try.func8, Try.ntmps8
      go_wp2_with fail
      refine (IN.out _ below1).mono ?_
      rintro e w1 ⟨vr, rfl, ⟨pr, rfl, hpr⟩, hb1⟩
      obtain ⟨ar, cr, rfl⟩ := pts_shape hpr
      have hs1 : w.heap.size < w1.heap.size := by have := hb1.size; simp at this; omega
      have hs1' : w.heap.size < w1.heap.size + 1 := by omega
      have hbw1 := bt below1 hb1
      have e0 := boxAt hb1 0 rfl
      have e1 := boxAt hb1 1 rfl
      have BK := Lib.hid (fun W (hW : Below w1.heap.size w1 W) => Ease_any _ (invC c) (a2 - a1) a2 W (cvV_below ⟨_, rfl, hpr⟩ hW))
      rw [HE2.out, HS.out] at BK
      clear hb1 hpr
      go_wp2_with fail
      refine (EA.out _ (bt hbw1 below1)).mono ?_
      rintro e w2 ⟨rfl, hb2⟩
      have hbw2 := bt (bt hbw1 below1) hb2
      have hb12 := bt below1 hb2
      have hs2 : w1.heap.size < w2.heap.size := by have := hb2.size; simp at this; omega
      have g0 := boxAt hb2 0 rfl
      have g1 := boxAt hb2 1 rfl
      clear hb2
      go_wp2_with fail
      refine (BK.out _ hb12).mono ?_
      rintro e w3 ⟨rfl, hb3⟩
      have hbw3 := bt hbw2 hb3
      rcases hbound with hsum | hsum
      all_goals
        go_wp2
        go_ret
        exact ⟨rfl, hbw3⟩
    · have hav : easeV c a1 a2 = 0 := by unfold easeV; rw [if_neg hg]
      rw [hav] at EA
      generalize easeE c a1 a2 = g at *
      have hgb : (g != 0) = true := by simpa using hg
      clear hg hav hf hR h5 hc
      go_enter Try.func8, Try.ntmps8
      go_wp2_with fail
      refine (IN.out _ below1).mono ?_
      rintro e w1 ⟨vr, rfl, ⟨pr, rfl, hpr⟩, hb1⟩
      obtain ⟨ar, cr, rfl⟩ := pts_shape hpr
      have hs1 : w.heap.size < w1.heap.size := by have := hb1.size; simp at this; omega
      have hs1' : w.heap.size < w1.heap.size + 1 := by omega
      have hbw1 := bt below1 hb1
      have e0 := boxAt hb1 0 rfl
      have e1 := boxAt hb1 1 rfl
      clear hb1 hpr
      go_wp2_with fail
      refine (EA.out _ (bt hbw1 below1)).mono ?_
      rintro e w2 ⟨rfl, hb2⟩
      have hbw2 := bt (bt hbw1 below1) hb2
      have g0 := boxAt hb2 0 rfl
      have g1 := boxAt hb2 1 rfl
      clear hb2
      go_wp2
      go_ret
      exact ⟨rfl, hbw2⟩
  · have hR := invE_pos c hf
    rw [hR] at IN
    generalize invE c = fv at *
    have hfb : (fv != 0) = true := by simpa using hf
    clear hf hR
    generalize easeV c a1 a2 = av at *
    generalize easeE c a1 a2 = g at *
    go_enter Try.func8, Try.ntmps8
    go_wp2_with fail
    refine (IN.out _ below1).mono ?_
    rintro e w1 ⟨vr, rfl, ⟨pr, rfl, hpr⟩, hb1⟩
    obtain ⟨ar, cr, rfl⟩ := pts_shape hpr
    have hs1 : w.heap.size < w1.heap.size := by have := hb1.size; simp at this; omega
    have hs1' : w.heap.size < w1.heap.size + 1 := by omega
    have hbw1 := bt below1 hb1
    have e0 := boxAt hb1 0 rfl
    have e1 := boxAt hb1 1 rfl
    clear hb1 hpr
    go_wp2_with fail
    refine (EA.out _ (bt hbw1 below1)).mono ?_
    rintro e w2 ⟨rfl, hb2⟩
    have hbw2 := bt (bt hbw1 below1) hb2
    have g0 := boxAt hb2 0 rfl
    have g1 := boxAt hb2 1 rfl
    clear hb2
    go_wp2
    go_ret
    exact ⟨rfl, hbw2⟩
end Go.Proofs.Ythoiamaomhggiaa.levelInversesGoBack
