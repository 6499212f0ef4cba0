/- Contracts of level.parts and level.Ease. -/
import Derived.Test.YthoiamaomhggiaaAt
namespace Go.Proofs.Ythoiamaomhggiaa
open Go.RowKit

def PartOk (p q : Int) : Prop := (1 ≤ q ∧ q ≤ 36000000) ∧ 0 ≤ p ∧ p ≤ q
instance (p q : Int) : Decidable (PartOk p q) := by unfold PartOk; infer_instance

set_option maxHeartbeats 1000000 in
theorem parts_any (p q : Int) (w : World) :
    Calls Try.prog 51 #[.int .i64 p, .int .i64 q] w fun e w' => e = .returned (.int .i64 (if PartOk p q then 0 else 1)) ∧ w = w' := by
  by_cases h : PartOk p q
  · rw [if_pos h]
    obtain ⟨h1, h2⟩ := h
    have H1 := Lib.hid h1
    have H2 := Lib.hid h2
    clear h1 h2
    go_enter Try.func51, Try.ntmps51
    go_wp2_with fail
    refine (within_yes _ _ _ _ H1.out).mono ?_
    rintro e w' ⟨rfl, rfl⟩
    go_wp2_with fail
    refine (within_yes _ _ _ _ H2.out).mono ?_
    rintro e w' ⟨rfl, rfl⟩
    go_wp2_with (go_at_call 55; refine (when_no _ _).mono ?_; rintro e w' ⟨rfl, rfl⟩)
    go_ret
    exact ⟨rfl, rfl⟩
  · rw [if_neg h]
    unfold PartOk at h
    by_cases h1 : 1 ≤ q ∧ q ≤ 36000000
    · have H1 := Lib.hid h1
      have H2 := Lib.hid (show p < 0 ∨ q < p by omega)
      clear h h1
      go_enter Try.func51, Try.ntmps51
      go_wp2_with fail
      refine (within_yes _ _ _ _ H1.out).mono ?_
      rintro e w' ⟨rfl, rfl⟩
      go_wp2_with fail
      refine (within_no _ _ _ _ H2.out).mono ?_
      rintro e w' ⟨rfl, rfl⟩
      go_wp2_with (go_at_call 55; refine (when_yes _ _).mono ?_; rintro e w' ⟨rfl, rfl⟩)
      go_ret
      exact ⟨rfl, rfl⟩
    · have H1 := Lib.hid (show q < 1 ∨ 36000000 < q by omega)
      clear h h1
      go_enter Try.func51, Try.ntmps51
      go_wp2_with fail
      refine (within_no _ _ _ _ H1.out).mono ?_
      rintro e w' ⟨rfl, rfl⟩
      go_wp2_with (go_at_call 55; refine (when_yes _ _).mono ?_; rintro e w' ⟨rfl, rfl⟩)
      go_ret
      exact ⟨rfl, rfl⟩

noncomputable def easeE (c : Cv) (p q : Int) : Int := firstE (checkC c) (if PartOk p q then 0 else 1)
noncomputable def easeV (c : Cv) (p q : Int) : Int := if easeE c p q = 0 then rnd (65535 * wayN c p q) (wayD c p q) else 0

theorem easeE_ok (c : Cv) (p q : Int) : easeE c p q = 0 ↔ RightC c ∧ PartOk p q := by
  unfold easeE firstE
  rw [← checkC_right]
  by_cases h : checkC c = 0
  · rw [if_pos h]
    by_cases k : PartOk p q
    · rw [if_pos k]; exact ⟨fun _ => ⟨h, k⟩, fun _ => rfl⟩
    · rw [if_neg k]; exact ⟨fun e => by omega, fun e => absurd e.2 k⟩
  · rw [if_neg h]; exact ⟨fun e => absurd e h, fun e => absurd e.1 h⟩

set_option maxHeartbeats 1000000 in
theorem Ease_any (v : Value) (c : Cv) (p q : Int) (w : World) (hv : CvV w v c) :
    Calls Try.prog 27 #[v, .int .i64 p, .int .i64 q] w fun e w' => e = .returned (.tuple #[.int .i64 (easeV c p q), .int .i64 (easeE c p q)]) ∧ Below w.heap.size w w' := by
  have CF := Lib.hid (fun W (hW : Below w.heap.size w W) => checkCurve_any v c W (cvV_below hv hW))
  have CR := Lib.hid (checkC_right c)
  have EE : Hid (easeE c p q = firstE (checkC c) (if PartOk p q then 0 else 1)) := rfl
  have ER : Hid (easeV c p q = if easeE c p q = 0 then rnd (65535 * wayN c p q) (wayD c p q) else 0) := rfl
  have WW := Lib.hid (fun (hc : RightC c) (hp : PartOk p q) W (hW : Below w.heap.size w W) => way_any v c p q W (cvV_below hv hW) hc hp.2.1 hp.2.2 (by have := hp.1; omega) hp.1.2)
  have TT := Lib.hid (fun (hc : RightC c) (hp : PartOk p q) (W : World) => by
    have hr := way_range c hc p q (by have := hp.1; omega) hp.2.1 hp.2.2
    exact toward_any 0 65535 (wayN c p q) (wayD c p q) W ⟨by omega, by omega⟩ ⟨by omega, by omega⟩ hr.2.1 hr.2.2 hr.1 (wayD_bound c hc p q hp.2.1 hp.2.2 (by have := hp.1; omega) hp.1.2))
  obtain ⟨pv, rfl, hp⟩ := hv
  clear hp
  generalize hc : checkC c = k at *
  generalize hev : easeE c p q = ev at *
  generalize hrv : easeV c p q = rv at *
  clear hev hrv hc
  by_cases h0 : k = 0
  · subst h0
    have HF := Lib.hid (CR.out.1 rfl)
    by_cases hpo : PartOk p q
    · have e1 : ev = 0 := by rw [EE.out, firstE, if_pos rfl, if_pos hpo]
      have e2 : rv = rnd (65535 * wayN c p q) (wayD c p q) := by rw [ER.out, if_pos e1]
      have HE := Lib.hid e1
      have HR := Lib.hid e2
      have HP := Lib.hid hpo
      have HT := Lib.hid (TT.out HF.out hpo)
      have HW := Lib.hid (WW.out HF.out hpo)
      have HPA := Lib.hid (fun W => parts_any p q W)
      rw [if_pos hpo] at HPA
      clear e1 e2 hpo TT WW
      generalize wayN c p q = n at *
      generalize wayD c p q = d at *
      go_enter Try.func27, Try.ntmps27
      go_wp2_with fail
      refine (CF.out _ below1).mono ?_
      rintro e w1 ⟨rfl, hb1⟩
      have hs1 : w.heap.size < w1.heap.size := by have := hb1.size; simp at this; omega
      have hs2 : w.heap.size < w1.heap.size + 1 := by omega
      have hbw := bt below1 hb1
      have e0 := boxAt hb1 0 rfl
      have e1 := boxAt hb1 1 rfl
      clear hb1
      go_wp2_with (first
        | (go_at_call 51; refine (HPA.out _).mono ?_; rintro e w' ⟨rfl, rfl⟩)
        | (go_at_call 50; refine (first2c _ 0 0 _ (by simp) (by simp)).mono ?_; rintro e w' ⟨rfl, rfl⟩))
      refine (HW.out _ (bt hbw below1)).mono ?_
      rintro e w2 ⟨rfl, hb2⟩
      have hbw2 := bt (bt hbw below1) hb2
      clear hb2 e0 e1 hs1 hs2
      go_wp2_with fail
      refine (HT.out _).mono ?_
      rintro e w3 ⟨rfl, hb3⟩
      go_wp2
      go_ret2
      exact ⟨by rw [HE.out, HR.out]; simp, bt (bt hbw2 below2) hb3⟩
    · have e1 : ev = 1 := by rw [EE.out, firstE, if_pos rfl, if_neg hpo]
      have e2 : rv = 0 := by rw [ER.out, if_neg (by omega)]
      have HE := Lib.hid e1
      have HR := Lib.hid e2
      have HPA := Lib.hid (fun W => parts_any p q W)
      rw [if_neg hpo] at HPA
      clear e1 e2 hpo TT WW
      go_enter Try.func27, Try.ntmps27
      go_wp2_with fail
      refine (CF.out _ below1).mono ?_
      rintro e w1 ⟨rfl, hb1⟩
      have hbw := bt below1 hb1
      go_wp2_with (first
        | (go_at_call 51; refine (HPA.out _).mono ?_; rintro e w' ⟨rfl, rfl⟩)
        | (go_at_call 50; refine (first2c _ 0 1 _ (by simp) (by simp)).mono ?_; rintro e w' ⟨rfl, rfl⟩))
      go_ret2
      exact ⟨by rw [HE.out, HR.out]; rfl, bt hbw below1⟩
  · have e1 : ev = k := by rw [EE.out, firstE, if_neg h0]
    have e2 : rv = 0 := by rw [ER.out, if_neg (by omega)]
    have HE := Lib.hid e1
    have HR := Lib.hid e2
    have hkb : (k != 0) = true := by simpa using h0
    have HPA := Lib.hid (fun W => parts_any p q W)
    clear e1 e2 TT WW
    generalize (if PartOk p q then (0 : Int) else 1) = z at *
    go_enter Try.func27, Try.ntmps27
    go_wp2_with fail
    refine (CF.out _ below1).mono ?_
    rintro e w1 ⟨rfl, hb1⟩
    have hbw := bt below1 hb1
    have HK := Lib.hid h0
    clear h0
    go_wp2_with (first
      | (go_at_call 51; refine (HPA.out _).mono ?_; rintro e w' ⟨rfl, rfl⟩)
      | (go_at_call 50; refine (first2c _ k z _ (by simp) (by simp)).mono ?_; rw [if_neg HK.out]; rintro e w' ⟨rfl, rfl⟩))
    go_ret2
    exact ⟨by rw [HE.out, HR.out]; rfl, bt hbw below1⟩
end Go.Proofs.Ythoiamaomhggiaa
