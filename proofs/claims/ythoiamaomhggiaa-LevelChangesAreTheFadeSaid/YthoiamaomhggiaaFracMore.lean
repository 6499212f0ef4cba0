/- The reference's fractions by value: Plus, Times, Over, Minus, Zero, Order, Floor, Round. -/
import Derived.Test.YthoiamaomhggiaaFracPlus
namespace Go.Proofs.Ythoiamaomhggiaa
open Go.RowKit
set_option linter.unusedVariables false
set_option linter.unusedSimpArgs false

theorem sm_sg {s : Bool} {n d : Nat} (h : Sm (sg s n) d) : n < BB ^ 6 ∧ d < BB ^ 5 := ⟨by have := h.1; rwa [sg_abs] at this, h.2⟩
theorem plusQ (B da db : Nat) (pa pb : Int) (v u : Value) (w : World) (hB : B ≤ w.heap.size) (ha : Sm pa da) (hb : Sm pb db) (h : Sm (pa * (db : Int) + pb * (da : Int)) (da * db)) (hv : IsQ B w v pa da) (hu : IsQ B w u pb db) :
    Calls Try.prog 75 #[v, u] w (NewQ (pa * (db : Int) + pb * (da : Int)) (da * db) w) := by
  obtain ⟨s, x, y, rfl, na, h1, h2, rfl⟩ := hv
  obtain ⟨t, z, u, rfl, nb, h3, h4, rfl⟩ := hu
  exact plus_frac B na nb da db s t x y z u w hB (sm_sg ha).1 ha.2 (sm_sg hb).1 hb.2 h h1 h2 h3 h4
theorem timesQ (B da db : Nat) (pa pb : Int) (v u : Value) (w : World) (hB : B ≤ w.heap.size) (ha : Sm pa da) (hb : Sm pb db) (h : Sm (pa * pb) (da * db)) (hv : IsQ B w v pa da) (hu : IsQ B w u pb db) :
    Calls Try.prog 78 #[v, u] w (NewQ (pa * pb) (da * db) w) := by
  obtain ⟨s, x, y, rfl, na, h1, h2, rfl⟩ := hv
  obtain ⟨t, z, u, rfl, nb, h3, h4, rfl⟩ := hu
  rw [← sg_mul] at h ⊢
  exact times_frac B na nb da db s t x y z u w hB (sm_sg ha).1 ha.2 (sm_sg hb).1 hb.2 (sm_sg h).1 h.2 h1 h2 h3 h4
theorem overQ (B da db : Nat) (pa : Int) (nb : Nat) (v u : Value) (w : World) (hB : B ≤ w.heap.size) (ha : Sm pa da) (hb : Sm nb db) (hp : 0 < nb) (h : Sm (pa * (db : Int)) (da * nb)) (hv : IsQ B w v pa da) (hu : IsQ B w u nb db) :
    Calls Try.prog 98 #[v, u] w (NewQ (pa * (db : Int)) (da * nb) w) := by
  obtain ⟨s, x, y, rfl, na, h1, h2, rfl⟩ := hv
  obtain ⟨t, z, u, rfl, nc, h3, h4, hnc⟩ := hu
  have ht : t = false := by
    cases t
    · rfl
    · simp only [sg] at hnc; omega
  subst ht
  have hnb : nc = nb := by simp only [sg] at hnc; omega
  subst hnb
  rw [sg_scale] at h ⊢
  have := over_frac B na nc da db s false x y z u w hB (sm_sg ha).1 ha.2 (by have := hb.1; simpa using this) hb.2 (sm_sg h).1 h.2 h1 h2 h3 h4
  rwa [Bool.bne_false] at this

def zB (p : Int) : Bool := decide (p = 0)
theorem zB_yes {p : Int} (h : p = 0) : zB p = true := decide_eq_true h
theorem zB_no {p : Int} (h : p ≠ 0) : zB p = false := decide_eq_false h
set_option maxHeartbeats 4000000 in
set_option maxRecDepth 100000 in
theorem zeroQ (B d : Nat) (p : Int) (v : Value) (w : World) (h : IsQ B w v p d) : Calls Try.prog 97 #[v] w fun e w' => e = .returned (.bool (zB p)) ∧ Below w.heap.size w w' := by
  obtain ⟨s, x, y, rfl, n, h1, h2, rfl⟩ := h
  obtain ⟨ao, L, cap, rfl, hl⟩ := isN_len h1
  obtain ⟨bo, M, cap2, rfl, hm⟩ := isN_len h2
  have hz := lenOf_zero_iff hl
  clear h1 h2 hl hm
  by_cases h0 : L = 0
  · have hn := hz.2 h0
    subst h0 hn
    have HE := Lib.hid (zB_yes (p := sg s 0) (by cases s <;> rfl))
    rw [HE.out]
    clear hz
    go_enter Try.func97, Try.ntmps97
    go_wp2
    go_ret
    exact ⟨rfl, by go_grown⟩
  · have HE := Lib.hid (zB_no (p := sg s n) (by have : n ≠ 0 := fun h => h0 (hz.1 h); cases s <;> simp only [sg] <;> omega))
    rw [HE.out]
    have hd : ((L : Int) == 0) = false := by simp; omega
    clear hz
    go_enter Try.func97, Try.ntmps97
    go_wp2
    go_ret
    exact ⟨by simp [h0], by go_grown⟩

set_option maxHeartbeats 8000000 in
set_option maxRecDepth 100000 in
theorem minusQ (B da db : Nat) (pa pb : Int) (v u : Value) (w : World) (hB : B ≤ w.heap.size) (ha : Sm pa da) (hb : Sm pb db) (h : Sm (pa * (db : Int) - pb * (da : Int)) (da * db)) (hv : IsQ B w v pa da) (hu : IsQ B w u pb db) :
    Calls Try.prog 83 #[v, u] w (NewQ (pa * (db : Int) - pb * (da : Int)) (da * db) w) := by
  obtain ⟨s, x, y, rfl, na, hx, hy, rfl⟩ := hv
  obtain ⟨t, z, u, rfl, nb, hz, hu, rfl⟩ := hu
  have e : sg s na * (db : Int) - sg t nb * (da : Int) = sg s na * (db : Int) + sg (!t) nb * (da : Int) := by rw [sg_not, Int.neg_mul]; omega
  rw [e] at h ⊢
  have HX := Lib.hid hx
  have HY := Lib.hid hy
  have HZ := Lib.hid hz
  have HU := Lib.hid hu
  have HSM := Lib.hid h
  have SA := Lib.hid (sm_sg ha)
  have SB := Lib.hid (sm_sg hb)
  obtain ⟨ao, La, ac, rfl, _⟩ := isN_len hx
  obtain ⟨co, Lc, cc, rfl, _⟩ := isN_len hy
  obtain ⟨bo, Lb, bc, rfl, _⟩ := isN_len hz
  obtain ⟨dd, Ld, dc, rfl, _⟩ := isN_len hu
  clear hx hy hz hu ha hb h e
  have KP := Lib.hid (show ∀ W, Below (w.heap.size + 1 + 1) (W3 w s t (.slice ao La ac) (.slice co Lc cc) (.slice bo Lb bc) (.slice dd Ld dc)) W → (Below (w.heap.size + 1 + 1) (W3 w s t (.slice ao La ac) (.slice co Lc cc) (.slice bo Lb bc) (.slice dd Ld dc)) W ∧ W.cell? ⟨w.heap.size, 0, none⟩ = some (.bool s) ∧ W.cell? ⟨w.heap.size, 1, none⟩ = some (.slice ao La ac) ∧ W.cell? ⟨w.heap.size, 2, none⟩ = some (.slice co Lc cc) ∧ W.cell? ⟨w.heap.size + 1, 0, none⟩ = some (.bool t) ∧ W.cell? ⟨w.heap.size + 1, 1, none⟩ = some (.slice bo Lb bc) ∧ W.cell? ⟨w.heap.size + 1, 2, none⟩ = some (.slice dd Ld dc)) from fun W hW => by
    have a := (W3_a w s t (.slice ao La ac) (.slice co Lc cc) (.slice bo Lb bc) (.slice dd Ld dc)).below hW (by omega)
    have b := (W3_b w s t (.slice ao La ac) (.slice co Lc cc) (.slice bo Lb bc) (.slice dd Ld dc)).below hW (by omega)
    exact ⟨hW, a.c0, a.c1, a.c2, b.c0, b.c1, b.c2⟩)
  have KR := Lib.hid (show ∀ W, Below (w.heap.size + 1 + 1 + 1) (W3 w s t (.slice ao La ac) (.slice co Lc cc) (.slice bo Lb bc) (.slice dd Ld dc)) W → Box3 W (w.heap.size + 1 + 1) (.bool false) (.slice none 0 0) (.slice none 0 0) from fun W hW =>
    (W3_r w s t (.slice ao La ac) (.slice co Lc cc) (.slice bo Lb bc) (.slice dd Ld dc)).below hW (by omega))
  have KB := Lib.hid (show ∀ W, Below (w.heap.size + 1 + 1 + 1) (W3 w s t (.slice ao La ac) (.slice co Lc cc) (.slice bo Lb bc) (.slice dd Ld dc)) W → Below w.heap.size w W ∧ (w.heap.size + 1 + 1 + 1) ≤ W.heap.size from fun W hW => by
    have := hW.size
    rw [W3_size] at this
    exact ⟨(W3_below w s t _ _ _ _).trans (hW.mono (by omega)), this⟩)
  have T1 := Lib.hid (show ∀ W, Below (w.heap.size + 1 + 1 + 1) (W3 w s t (.slice ao La ac) (.slice co Lc cc) (.slice bo Lb bc) (.slice dd Ld dc)) W → Calls Try.prog 75 #[.agg #[.bool s, .slice ao La ac, .slice co Lc cc], .agg #[.bool (!t), .slice bo Lb bc, .slice dd Ld dc]] W (fun e W1 => NewQ (sg s na * (db : Int) + sg (!t) nb * (da : Int)) (da * db) W e W1) from fun W hS => by
    obtain ⟨hb, hs⟩ := KB.out W hS
    exact plus_frac B na nb da db s (!t) _ _ _ _ W (by omega) SA.out.1 SA.out.2 SB.out.1 SB.out.2 HSM.out (HX.out.below (hb.mono hB)) (HY.out.below (hb.mono hB)) (HZ.out.below (hb.mono hB)) (HU.out.below (hb.mono hB)))
  clear HX HY HZ HU
  go_enter Try.func83, Try.ntmps83
  go_wp2_with fail
  have hw0 : Below (w.heap.size + 1 + 1 + 1) (W3 w s t (.slice ao La ac) (.slice co Lc cc) (.slice bo Lb bc) (.slice dd Ld dc)) (World.drew (((w.alloc (.cells #[.bool s, .slice ao La ac, .slice co Lc cc] 70)).alloc (.cells #[.bool t, .slice bo Lb bc, .slice dd Ld dc] 70)).alloc (.cells #[.bool false, .slice none 0 0, .slice none 0 0] 70))) := (Below.refl _ _).drew
  go_region_held3 (fun W => Below (w.heap.size + 1 + 1) (W3 w s t (.slice ao La ac) (.slice co Lc cc) (.slice bo Lb bc) (.slice dd Ld dc)) W ∧ W.cell? ⟨w.heap.size, 0, none⟩ = some (.bool s) ∧ W.cell? ⟨w.heap.size, 1, none⟩ = some (.slice ao La ac) ∧ W.cell? ⟨w.heap.size, 2, none⟩ = some (.slice co Lc cc) ∧ W.cell? ⟨w.heap.size + 1, 0, none⟩ = some (.bool t) ∧ W.cell? ⟨w.heap.size + 1, 1, none⟩ = some (.slice bo Lb bc) ∧ W.cell? ⟨w.heap.size + 1, 2, none⟩ = some (.slice dd Ld dc))
    (first | exact KP.out _ (by assumption) | exact KP.out _ ((Below.refl _ _).drew) | exact KP.out _ (below_set3 hv3 (Nat.le_refl _)))
    (first
      | (go_at_call 96; refine (opposite_any _ _ _ _ ⟨_, _, _, rfl⟩ ⟨_, _, _, rfl⟩).mono ?_; rintro e W1 ⟨rfl, hb1⟩; have hw1 := hw0.trans (hb1.mono (KB.out _ hw0).2); have hv1 := hw1.mono (Nat.le_succ (w.heap.size + 1 + 1)); clear hb1)
      | (go_at_call 75; refine (T1.out _ hw1).mono ?_; rintro e W2 ⟨v2, rfl, hq2, hnv, hb2⟩; have hw3 := hw1.trans (hb2.mono (KB.out _ hw1).2); have hv3 := hw3.mono (Nat.le_succ (w.heap.size + 1 + 1)); have HNV := Lib.hid (hnv.less (KB.out _ hw1).2); have HQ2 := Lib.hid hq2; obtain ⟨s2, x2, y2, rfl, n2, hn2, hd2, hp2⟩ := hq2; obtain ⟨ao2, L2, cap2, rfl, _⟩ := isN_len hn2; obtain ⟨ao3, L3, cap3, rfl, _⟩ := isN_len hd2; obtain ⟨r0, r1, r2, r3, r4, r5⟩ := KR.out _ hw3; clear hb2 hn2 hd2 hp2 hnv)
      | fail)
  all_goals
    have HW3 := Lib.hid (KB.out _ hw3)
    go_wp2
    refine bodyPost_ret (v := .agg #[.bool s2, .slice ao2 L2 cap2, .slice ao3 L3 cap3]) (by simp [results, Try.results83, go_sem, r0, r1, r2]) rfl ⟨_, rfl, ?_, HNV.out.less (by omega), below_set3 HW3.out.1 (by omega)⟩
    rw [size_set3]
    exact HQ2.out.set3 HNV.out
end Go.Proofs.Ythoiamaomhggiaa
