/- The reference's Ease. -/
import Derived.Test.YthoiamaomhggiaaRWayAll
namespace Go.Proofs.Ythoiamaomhggiaa
open Go.RowKit
set_option linter.unusedVariables false
set_option linter.unusedSimpArgs false

theorem two_cells {w w1 : World} {x y : Value} {T : TypeId} (hb : Below (w.alloc (.cells #[x, y] T)).heap.size (w.alloc (.cells #[x, y] T)) w1) : ∀ W, Below w1.heap.size w1 W → W.cell? ⟨w.heap.size, 0, none⟩ = some x ∧ W.cell? ⟨w.heap.size, 1, none⟩ = some y := fun W hW => by
  have hs : w.heap.size < w1.heap.size := by have := hb.size; simp at this; omega
  exact ⟨(hW.cell (p := ⟨w.heap.size, 0, none⟩) hs).trans (boxAt hb 0 rfl), (hW.cell (p := ⟨w.heap.size, 1, none⟩) hs).trans (boxAt hb 1 rfl)⟩

set_option maxHeartbeats 4000000 in
theorem rEase_any (v : Value) (c : Cv) (p q : Int) (w : World) (hv : CvV w v c) :
    Calls Try.prog 28 #[v, .int .i64 p, .int .i64 q] w fun e w' => e = .returned (.tuple #[.int .i64 (easeV c p q), .int .i64 (easeE c p q)]) ∧ Below w.heap.size w w' := by
  have CF := Lib.hid (fun W (hW : Below w.heap.size w W) => rcheckCurve_any v c W (cvV_below hv hW))
  have CR := Lib.hid (checkC_right c)
  have EE : Hid (easeE c p q = firstE (checkC c) (if PartOk p q then 0 else 1)) := rfl
  have ER : Hid (easeV c p q = if easeE c p q = 0 then rnd (65535 * wayN c p q) (wayD c p q) else 0) := rfl
  have HV := Lib.hid hv
  obtain ⟨pv, rfl, hp⟩ := hv
  clear hp
  generalize hc : checkC c = k at *
  generalize hev : easeE c p q = ev at *
  generalize hrv : easeV c p q = rv at *
  clear hev hrv hc
  by_cases h0 : k = 0
  · subst h0
    have HF := Lib.hid (CR.out.1 rfl)
    by_cases hpo : PartOk p q
    · have e1 : ev = 0 := by rw [EE.out, firstE, if_pos rfl, if_pos hpo]
      have e2 : rv = rnd (65535 * wayN c p q) (wayD c p q) := by rw [ER.out, if_pos e1]
      obtain ⟨⟨q1, q9⟩, p0, pq⟩ := hpo
      obtain ⟨a, rfl⟩ : ∃ a : Nat, p = (a : Int) := ⟨p.toNat, by omega⟩
      obtain ⟨b, rfl⟩ : ∃ b : Nat, q = (b : Int) := ⟨q.toNat, by omega⟩
      have hPQ : PQ a b := ⟨by omega, by omega, by omega⟩
      have hD := (way_range c HF.out a b (by omega) p0 pq).1
      have HP := Lib.hid (fun W => part_any a b W (by omega) (by omega))
      have HW := Lib.hid (fun (W : World) (u : Value) (hW : Below w.heap.size w W) (hu : IsQ W.heap.size W u (a : Int) b) => rWay_any W.heap.size a b _ u c W (Nat.le_refl _) hPQ hu (cvV_below HV.out hW) HF.out)
      have HM := Lib.hid (fun (W : World) (u : Value) (n : Int) (d : Nat) (hu : Unit1 n d) (he : n * wayD c a b = wayN c a b * (d : Int)) (hq : IsQ W.heap.size W u n d) => (mixWay W.heap.size 0 65535 n d a b c u W (Nat.le_refl _) ⟨by omega, by omega⟩ ⟨by omega, by omega⟩ hu hD he hq))
      rw [show (0 : Int) * wayD c a b + (65535 - 0) * wayN c a b = 65535 * wayN c a b by omega, ← e2] at HM
      have HE := Lib.hid e1
      have H1 := Lib.hid (show (1 : Int) ≤ (b : Int) ∧ (b : Int) ≤ 36000000 from ⟨q1, q9⟩)
      have H2 := Lib.hid (show (0 : Int) ≤ (a : Int) ∧ (a : Int) ≤ (b : Int) from ⟨p0, pq⟩)
      clear e1 e2 q1 q9 p0 pq hPQ hD EE ER HV
      go_enter Try.func28, Try.ntmps28
      go_wp2_with fail
      refine (CF.out _ below1).mono ?_
      rintro e w1 ⟨rfl, hb1⟩
      have hs1 : w.heap.size < w1.heap.size := by have := hb1.size; simp at this; omega
      have HBW := Lib.hid (bt below1 hb1)
      have KP := Lib.hid (two_cells hb1)
      have KB := Lib.hid (show ∀ W, Below w1.heap.size w1 W → Below w.heap.size w W from fun W hW => bt HBW.out hW)
      have KT := Lib.hid (show ∀ W W', Below w1.heap.size w1 W → Below W.heap.size W W' → Below w1.heap.size w1 W' from fun W W' h1 h2 => bt h1 h2)
      clear hb1
      go_wp2_with fail
      refine (r1within_yes _ _ _ _ H1.out).mono ?_
      rintro e w' ⟨rfl, rfl⟩
      go_wp2_with fail
      refine (r1within_yes _ _ _ _ H2.out).mono ?_
      rintro e w' ⟨rfl, rfl⟩
      go_wp2_with fail
      have hw0 : Below w1.heap.size w1 (World.drew w1) := (Below.refl _ _).drew
      go_region_held3 (fun W => W.cell? ⟨w.heap.size, 0, none⟩ = some (.int .i64 c.kind) ∧ W.cell? ⟨w.heap.size, 1, none⟩ = some pv)
        (exact KP.out _ (by assumption))
        (first
          | (go_at_call 48; ((with_reducible refine (HP.out _).mono ?_); rintro e WP ⟨vP, rfl, hq, hnv, hb⟩; have hwP := KT.out _ _ (by assumption) hb; have HQP := Lib.hid hq; clear hq hnv hb))
          | (go_at_call 61; ((with_reducible refine (HW.out _ _ (KB.out _ hwP) HQP.out).mono ?_); rintro e WW ⟨n, d, ⟨vW, rfl, hq, hb⟩, hu, he⟩; have hwW := KT.out _ _ hwP hb; have HQW := Lib.hid hq; have HU := Lib.hid hu; have HN := Lib.hid he; clear hq hb hu he))
          | (go_at_call 54; ((with_reducible refine (HM.out _ _ _ _ HU.out HN.out HQW.out).mono ?_); rintro e WM ⟨rfl, hb⟩; have hwM := KT.out _ _ hwW hb; clear hb))
          | fail)
      all_goals
        have HZ := Lib.hid (KB.out _ hwM)
        go_wp2
        go_ret2
        exact ⟨by rw [HE.out]; rfl, HZ.out⟩
    · have e1 : ev = 1 := by rw [EE.out, firstE, if_pos rfl, if_neg hpo]
      have e2 : rv = 0 := by rw [ER.out, if_neg (by omega)]
      have HE := Lib.hid e1
      have HR := Lib.hid e2
      have hpo' : ¬ ((1 ≤ q ∧ q ≤ 36000000) ∧ 0 ≤ p ∧ p ≤ q) := hpo
      clear e1 e2 EE ER HV hpo
      by_cases hq : 1 ≤ q ∧ q ≤ 36000000
      · have H1 := Lib.hid hq
        have H2 := Lib.hid (show p < 0 ∨ q < p by omega)
        clear hq hpo'
        go_enter Try.func28, Try.ntmps28
        go_wp2_with fail
        refine (CF.out _ below1).mono ?_
        rintro e w1 ⟨rfl, hb1⟩
        have HBW := Lib.hid (bt below1 hb1)
        clear hb1
        go_wp2_with fail
        refine (r1within_yes _ _ _ _ H1.out).mono ?_
        rintro e w' ⟨rfl, rfl⟩
        go_wp2_with fail
        refine (r1within_no _ _ _ _ H2.out).mono ?_
        rintro e w' ⟨rfl, rfl⟩
        go_wp2
        go_ret2
        exact ⟨by rw [HE.out, HR.out]; rfl, HBW.out⟩
      · have H1 := Lib.hid (show q < 1 ∨ 36000000 < q by omega)
        clear hq hpo'
        go_enter Try.func28, Try.ntmps28
        go_wp2_with fail
        refine (CF.out _ below1).mono ?_
        rintro e w1 ⟨rfl, hb1⟩
        have HBW := Lib.hid (bt below1 hb1)
        clear hb1
        go_wp2_with fail
        refine (r1within_no _ _ _ _ H1.out).mono ?_
        rintro e w' ⟨rfl, rfl⟩
        go_wp2
        go_ret2
        exact ⟨by rw [HE.out, HR.out]; rfl, HBW.out⟩
  · have e1 : ev = k := by rw [EE.out, firstE, if_neg h0]
    have e2 : rv = 0 := by rw [ER.out, if_neg (by omega)]
    have HE := Lib.hid e1
    have HR := Lib.hid e2
    have hkb : (k != 0) = true := by simpa using h0
    clear e1 e2 EE ER HV
    go_enter Try.func28, Try.ntmps28
    go_wp2_with fail
    refine (CF.out _ below1).mono ?_
    rintro e w1 ⟨rfl, hb1⟩
    have HBW := Lib.hid (bt below1 hb1)
    clear hb1
    go_wp2
    go_ret2
    exact ⟨by rw [HE.out, HR.out]; rfl, HBW.out⟩
end Go.Proofs.Ythoiamaomhggiaa
