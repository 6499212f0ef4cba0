/- The reference's along: the way of a table. -/
import Derived.Test.YthoiamaomhggiaaRWay
import Derived.Test.YthoiamaomhggiaaWayTable
import Derived.Deep.DeepCutAuto
namespace Go.Proofs.Ythoiamaomhggiaa
open Go.RowKit
set_option linter.unusedVariables false
set_option linter.unusedSimpArgs false

def tQ (p : Nat) : Int := (p : Int) * 1000
def partN (a : Int × Int) (p q : Nat) : Int := tQ p - a.1 * (q : Int)
def partD (a b : Int × Int) (q : Nat) : Nat := q * (b.1 - a.1).toNat
def alN (a b : Int × Int) (p q : Nat) : Int := a.2 * (partD a b q : Int) + (b.2 - a.2) * partN a p q
def alD (a b : Int × Int) (q : Nat) : Nat := partD a b q * 1000
theorem newQ_to {p p' : Int} {d d' : Nat} {w w' : World} {e : Ending} (h : NewQ p d w e w') (hp : p = p') (hd : d = d') : NewQ p' d' w e w' := by subst hp hd; exact h
theorem isQ_al {d : Nat} {p : Int} {w : World} {v : Value} (o : Obj) (h : IsQ w.heap.size w v p d) : IsQ (w.alloc o).heap.size (w.alloc o) v p d := isQ_up h ((Below.refl _ _).alloc (Nat.le_refl _) o)
theorem isQ_dr {d : Nat} {p : Int} {w : World} {v : Value} (h : IsQ w.heap.size w v p d) : IsQ w.drew.heap.size w.drew v p d := h
/-- bounds of the numbers of a segment -/
theorem part_bounds (a b : Int × Int) (p q : Nat) (h : PQ p q) (ha : 0 ≤ a.1 ∧ a.1 ≤ 1000 ∧ 0 ≤ a.2 ∧ a.2 ≤ 1000) (hb : 0 ≤ b.1 ∧ b.1 ≤ 1000 ∧ 0 ≤ b.2 ∧ b.2 ≤ 1000) (hab : a.1 < b.1) :
    (tQ p).natAbs ≤ 36000000000 ∧ (b.1 * (q : Int)).natAbs ≤ 36000000000 ∧ (partN a p q).natAbs ≤ 72000000000 ∧ partD a b q ≤ 36000000000 ∧ ((b.2 - a.2) * partN a p q).natAbs ≤ 72000000000000 ∧ (alN a b p q).natAbs ≤ 108000000000000 ∧ ((b.1 - a.1).toNat : Int) = b.1 - a.1 ∧ 0 < (b.1 - a.1).toNat ∧ (b.1 - a.1).toNat ≤ 1000 := by
  have h9 := h.q9
  have h8 := h.pq
  have e1 : (tQ p).natAbs ≤ 36000000000 := by unfold tQ; omega
  have e2 : (b.1 * (q : Int)).natAbs ≤ 36000000000 := by rw [Int.natAbs_mul]; exact Nat.mul_le_mul (show b.1.natAbs ≤ 1000 by omega) (show (q : Int).natAbs ≤ 36000000 by omega)
  have e3 : (a.1 * (q : Int)).natAbs ≤ 36000000000 := by rw [Int.natAbs_mul]; exact Nat.mul_le_mul (show a.1.natAbs ≤ 1000 by omega) (show (q : Int).natAbs ≤ 36000000 by omega)
  have e4 : (partN a p q).natAbs ≤ 72000000000 := by unfold partN; omega
  have e5 : partD a b q ≤ 36000000000 := by unfold partD; rw [Nat.mul_comm]; exact Nat.mul_le_mul (show (b.1 - a.1).toNat ≤ 1000 by omega) h9
  have e6 : ((b.2 - a.2) * partN a p q).natAbs ≤ 72000000000000 := by rw [Int.natAbs_mul]; exact Nat.mul_le_mul (show (b.2 - a.2).natAbs ≤ 1000 by omega) e4
  have e7 : (a.2 * (partD a b q : Int)).natAbs ≤ 36000000000000 := by rw [Int.natAbs_mul]; exact Nat.mul_le_mul (show a.2.natAbs ≤ 1000 by omega) (show ((partD a b q : Nat) : Int).natAbs ≤ 36000000000 by omega)
  exact ⟨e1, e2, e4, e5, e6, by unfold alN; omega, by omega, by omega, by omega⟩
/-- the contracts that one round wants -/
structure RoundC (a b : Int × Int) (p q : Nat) : Prop where
  ord : ∀ (W : World) (t u : Value), IsQ W.heap.size W t (tQ p) q → IsQ W.heap.size W u b.1 1 → Calls Try.prog 84 #[t, u] W fun e w' => e = .returned (.int .i64 (ordI (tQ p - b.1 * (q : Int)))) ∧ Below W.heap.size W w'
  mns : ∀ (W : World) (t u : Value), IsQ W.heap.size W t (tQ p) q → IsQ W.heap.size W u a.1 1 → Calls Try.prog 83 #[t, u] W (NewQ (partN a p q) q W)
  ovr : ∀ (W : World) (t u : Value), IsQ W.heap.size W t (partN a p q) q → IsQ W.heap.size W u (b.1 - a.1) 1 → Calls Try.prog 98 #[t, u] W (NewQ (partN a p q) (partD a b q) W)
  tms : ∀ (W : World) (t u : Value), IsQ W.heap.size W t (b.2 - a.2) 1 → IsQ W.heap.size W u (partN a p q) (partD a b q) → Calls Try.prog 78 #[t, u] W (NewQ ((b.2 - a.2) * partN a p q) (partD a b q) W)
  pls : ∀ (W : World) (t u : Value), IsQ W.heap.size W t a.2 1 → IsQ W.heap.size W u ((b.2 - a.2) * partN a p q) (partD a b q) → Calls Try.prog 75 #[t, u] W (NewQ (alN a b p q) (partD a b q) W)
  end9 : ∀ (W : World) (t u : Value), IsQ W.heap.size W t (alN a b p q) (partD a b q) → IsQ W.heap.size W u 1000 1 → Calls Try.prog 98 #[t, u] W (NewQ (alN a b p q) (alD a b q) W)
theorem roundC (a b : Int × Int) (p q : Nat) (h : PQ p q) (ha : 0 ≤ a.1 ∧ a.1 ≤ 1000 ∧ 0 ≤ a.2 ∧ a.2 ≤ 1000) (hb : 0 ≤ b.1 ∧ b.1 ≤ 1000 ∧ 0 ≤ b.2 ∧ b.2 ≤ 1000) (hab : a.1 < b.1) : RoundC a b p q := by
  obtain ⟨c1, c2, c3, c4, c5, c6, c7, c8, c9⟩ := part_bounds a b p q h ha hb hab
  have hq := h.q9
  have sT : Sm (tQ p) q := sm_num (by omega) (by omega)
  have sb : ∀ {x : Int}, -1000 ≤ x → x ≤ 1000 → Sm x 1 := fun h1 h2 => sm_num (by omega) (by omega)
  have sN : Sm (partN a p q) q := sm_num (by omega) (by omega)
  have sND : Sm (partN a p q) (partD a b q) := sm_num (by omega) (by omega)
  have sT2 : Sm ((b.2 - a.2) * partN a p q) (partD a b q) := sm_num (by omega) (by omega)
  have sA : Sm (alN a b p q) (partD a b q) := sm_num (by omega) (by omega)
  have sE : Sm (alN a b p q) (alD a b q) := sm_num (by omega) (by unfold alD; omega)
  have m1 : ∀ x : Int, x * ((1 : Nat) : Int) = x := fun x => Int.mul_one x
  refine ⟨fun W t u ht hu => ?_, fun W t u ht hu => ?_, fun W t u ht hu => ?_, fun W t u ht hu => ?_, fun W t u ht hu => ?_, fun W t u ht hu => ?_⟩
  · have := orderQ W.heap.size q 1 (tQ p) b.1 t u W (Nat.le_refl _) sT (sb (by omega) (by omega)) (by rw [m1, Nat.mul_one]; exact sm_num (by omega) (by omega)) ht hu
    rw [m1] at this
    exact this
  · refine (minusQ W.heap.size q 1 (tQ p) a.1 t u W (Nat.le_refl _) sT (sb (by omega) (by omega)) (by rw [m1, Nat.mul_one]; exact sN) ht hu).mono fun e w' k => newQ_to k (by rw [m1]; rfl) (Nat.mul_one _)
  · have hu' : IsQ W.heap.size W u ((b.1 - a.1).toNat : Int) 1 := by rw [c7]; exact hu
    refine (overQ W.heap.size q 1 (partN a p q) (b.1 - a.1).toNat t u W (Nat.le_refl _) sN (sb (by omega) (by omega)) c8 (by rw [m1]; exact sND) ht hu').mono fun e w' k => newQ_to k (m1 _) rfl
  · refine (timesQ W.heap.size 1 (partD a b q) (b.2 - a.2) (partN a p q) t u W (Nat.le_refl _) (sb (by omega) (by omega)) sND (by rw [Nat.one_mul]; exact sT2) ht hu).mono fun e w' k => newQ_to k rfl (Nat.one_mul _)
  · refine (plusQ W.heap.size 1 (partD a b q) a.2 ((b.2 - a.2) * partN a p q) t u W (Nat.le_refl _) (sb (by omega) (by omega)) sT2 (by rw [m1, Nat.one_mul]; exact sA) ht hu).mono fun e w' k => newQ_to k (by rw [m1]; rfl) (Nat.one_mul _)
  · refine (overQ W.heap.size (partD a b q) 1 (alN a b p q) 1000 t u W (Nat.le_refl _) sA (sb (by omega) (by omega)) (by omega) (by rw [m1]; exact sE) ht hu).mono fun e w' k => newQ_to k (m1 _) rfl
theorem ordI_le {x : Int} (h : x ≤ 0) : ∃ c : Int, ordI x = c ∧ c ≤ 0 := by
  unfold ordI
  by_cases e : x = 0
  · exact ⟨0, by rw [if_pos e], Int.le_refl _⟩
  · exact ⟨-1, by rw [if_neg e, if_pos (by omega)], by omega⟩
theorem ordI_gt {x : Int} (h : 0 < x) : ordI x = 1 := by
  unfold ordI
  rw [if_neg (by omega), if_neg (by omega)]

theorem Box3.put {W : World} {g : Nat} {c0 c1 c2 u0 u1 u2 : Value} (h : Box3 W g c0 c1 c2) : Box3 (((W.setCell ⟨g, 0, none⟩ u0).setCell ⟨g, 1, none⟩ u1).setCell ⟨g, 2, none⟩ u2) g u0 u1 u2 := by
  obtain ⟨a0, a1, a2, f0, f1, f2⟩ := h
  exact ⟨by simp [go_sem, a0, a1, a2], by simp [go_sem, a0, a1, a2], by simp [go_sem, a0, a1, a2], by simp [go_sem, f0, f1, f2], by simp [go_sem, f0, f1, f2], by simp [go_sem, f0, f1, f2]⟩
theorem box_newd (w : World) (c0 c1 c2 : Value) (T : TypeId) : Box3 (w.alloc (.cells #[c0, c1, c2] T)).drew w.heap.size c0 c1 c2 :=
  ⟨by simp [go_sem], by simp [go_sem], by simp [go_sem], by simp [go_sem], by simp [go_sem], by simp [go_sem]⟩
theorem cell_set3 {W : World} {g g' i : Nat} {u0 u1 u2 : Value} (hg : g ≠ g') : (((W.setCell ⟨g', 0, none⟩ u0).setCell ⟨g', 1, none⟩ u1).setCell ⟨g', 2, none⟩ u2).cell? ⟨g, i, none⟩ = W.cell? ⟨g, i, none⟩ := by
  have hb : (((W.setCell ⟨g', 0, none⟩ u0).setCell ⟨g', 1, none⟩ u1).setCell ⟨g', 2, none⟩ u2).heap[g]? = W.heap[g]? := by
    rw [heap_setCell_other _ _ _ _ (by simpa using hg), heap_setCell_other _ _ _ _ (by simpa using hg), heap_setCell_other _ _ _ _ (by simpa using hg)]
  exact World.cell?_of_block (a := ⟨g, i, none⟩) hb
theorem isQ_put {g d : Nat} {p : Int} {W W' : World} {v u0 u1 u2 : Value} (h : IsQ W.heap.size W v p d) (hb : Below W.heap.size W W') (hg : W.heap.size ≤ g) : IsQ (((W'.setCell ⟨g, 0, none⟩ u0).setCell ⟨g, 1, none⟩ u1).setCell ⟨g, 2, none⟩ u2).heap.size (((W'.setCell ⟨g, 0, none⟩ u0).setCell ⟨g, 1, none⟩ u1).setCell ⟨g, 2, none⟩ u2) v p d := by
  rw [size_set3]
  exact isQ_old h hb hg hb.size
theorem isQ_put2 {g d : Nat} {p : Int} {W : World} {v u0 u1 u2 : Value} (h : IsQ W.heap.size W v p d) (hn : NewV (g + 1) v) : IsQ (((W.setCell ⟨g, 0, none⟩ u0).setCell ⟨g, 1, none⟩ u1).setCell ⟨g, 2, none⟩ u2).heap.size (((W.setCell ⟨g, 0, none⟩ u0).setCell ⟨g, 1, none⟩ u1).setCell ⟨g, 2, none⟩ u2) v p d := by
  rw [size_set3]
  exact h.set3 hn

set_option maxHeartbeats 8000000 in
set_option maxRecDepth 100000 in
theorem along_any (B p q b off cap : Nat) (ps : List (Int × Int)) (v : Value) (w : World) (hB : B ≤ w.heap.size) (h : PQ p q) (hv : IsQ B w v (p : Int) q)
    (hb : b < w.heap.size) (hp : PtsAt w b off ps) (h2 : 2 ≤ ps.length) (h20 : ps.length ≤ 20) (hr : ∀ x ∈ ps, 0 ≤ x.1 ∧ x.1 ≤ 1000 ∧ 0 ≤ x.2 ∧ x.2 ≤ 1000)
    (hst : ∀ k (hk : k + 1 < ps.length), (ps[k]'(by omega)).1 < ps[k + 1].1) (hh : (ps[0]'(by omega)).1 = 0) (hl : ∀ k (hk : k < ps.length), k + 1 = ps.length → ps[k].1 = 1000) :
    Calls Try.prog 85 #[.slice (some ⟨b, off, none⟩) ps.length cap, v] w fun e w' => ∃ k, ∃ hk : k + 1 < ps.length, (ps[k]'(by omega)).1 * (q : Int) ≤ 1000 * (p : Int) ∧ 1000 * (p : Int) ≤ ps[k + 1].1 * (q : Int) ∧ NewQ (alN (ps[k]'(by omega)) ps[k + 1] p q) (alD (ps[k]'(by omega)) ps[k + 1] q) w e w' := by
  obtain ⟨s, ao, L, capx, bo, M, capy, rfl⟩ := isQ_shape hv
  have hs1 : Sm ((p : Int) * 1000) (q * 1) := sm_num (by have := h.pq; have := h.q9; omega) (by have := h.q9; omega)
  have HT := Lib.hid (fun (W : World) (u : Value) (hW : Below w.heap.size w W) (hu : IsQ W.heap.size W u 1000 1) => (timesQ W.heap.size q 1 p 1000 _ u W (Nat.le_refl _) h.sm (sm_num (by omega) (by omega)) hs1 ((hv.below (hW.mono hB)).more (Nat.le_trans hB hW.size)) hu).mono fun e w' k => newQ_to (p' := tQ p) (d' := q) k rfl (Nat.mul_one _))
  have HK := Lib.hid (fun W => whole_any 1000 W (by omega) (by omega))
  have HR := Lib.hid (fun k (hk : k + 1 < ps.length) => roundC (ps[k]'(by omega)) ps[k + 1] p q h (hr _ (List.getElem_mem _)) (hr _ (List.getElem_mem _)) (hst k hk))
  have HG := Lib.hid (fun k (hk : k < ps.length) => hr ps[k] (List.getElem_mem _))
  have HST := Lib.hid hst
  have HL := Lib.hid hl
  have HP := Lib.hid hp
  have HH := Lib.hid h
  have H0 := Lib.hid (show (ps[0]'(by omega)).1 * (q : Int) ≤ 1000 * (p : Int) by rw [hh]; omega)
  clear hs1 hr hst hl hp hh hv h
  have KB := Lib.hid (show ∀ W, Below (w.heap.size + 1 + 1) ((w.alloc (.cells #[.bool s, .slice ao L capx, .slice bo M capy] 70)).alloc (.cells #[.bool false, .slice none 0 0, .slice none 0 0] 70)) W → Below w.heap.size w W from fun W hW => (((Below.refl _ _).alloc (Nat.le_refl _) _).alloc (by simp) _).trans (hW.mono (by omega)))
  have KR := Lib.hid (show ∀ W, Below (w.heap.size + 1 + 1) ((w.alloc (.cells #[.bool s, .slice ao L capx, .slice bo M capy] 70)).alloc (.cells #[.bool false, .slice none 0 0, .slice none 0 0] 70)) W → Box3 W (w.heap.size + 1) (.bool false) (.slice none 0 0) (.slice none 0 0) from fun W hW => by
    have c := (box_new (w.alloc (.cells #[.bool s, .slice ao L capx, .slice bo M capy] 70)) (.bool false) (.slice none 0 0) (.slice none 0 0) 70).below hW (by simp)
    simpa using c)
  have KP1 := Lib.hid (show ∀ W, Below (w.heap.size + 1 + 1) ((w.alloc (.cells #[.bool s, .slice ao L capx, .slice bo M capy] 70)).alloc (.cells #[.bool false, .slice none 0 0, .slice none 0 0] 70)) W → (W.cell? ⟨w.heap.size, 0, none⟩ = some (.bool s) ∧ W.cell? ⟨w.heap.size, 1, none⟩ = some (.slice ao L capx) ∧ W.cell? ⟨w.heap.size, 2, none⟩ = some (.slice bo M capy)) from fun W hW => by
      have a := ((box_new w (.bool s) (.slice ao L capx) (.slice bo M capy) 70).alloc (by simp) (.cells #[.bool false, .slice none 0 0, .slice none 0 0] 70)).below hW (by omega)
      exact ⟨a.c0, a.c1, a.c2⟩)
  have KZ1 := Lib.hid (show ∀ W, Below (w.heap.size + 1 + 1) ((w.alloc (.cells #[.bool s, .slice ao L capx, .slice bo M capy] 70)).alloc (.cells #[.bool false, .slice none 0 0, .slice none 0 0] 70)) W → (w.heap.size + 1 + 1) ≤ W.heap.size from fun W hW => by
    have := hW.size
    first | omega | (simp at this; omega))
  have KT1 := Lib.hid (show ∀ W W1, Below (w.heap.size + 1 + 1) ((w.alloc (.cells #[.bool s, .slice ao L capx, .slice bo M capy] 70)).alloc (.cells #[.bool false, .slice none 0 0, .slice none 0 0] 70)) W → Below W.heap.size W W1 → Below (w.heap.size + 1 + 1) ((w.alloc (.cells #[.bool s, .slice ao L capx, .slice bo M capy] 70)).alloc (.cells #[.bool false, .slice none 0 0, .slice none 0 0] 70)) W1 from fun W W1 h1 h2 => h1.trans (h2.mono (KZ1.out W h1)))
  have KA1 := Lib.hid (show ∀ W o, Below (w.heap.size + 1 + 1) ((w.alloc (.cells #[.bool s, .slice ao L capx, .slice bo M capy] 70)).alloc (.cells #[.bool false, .slice none 0 0, .slice none 0 0] 70)) W → Below (w.heap.size + 1 + 1) ((w.alloc (.cells #[.bool s, .slice ao L capx, .slice bo M capy] 70)).alloc (.cells #[.bool false, .slice none 0 0, .slice none 0 0] 70)) (W.alloc o) from fun W o h1 => h1.alloc (KZ1.out W h1) o)
  have KS1 := Lib.hid (show ∀ W g u0 u1 u2, (w.heap.size + 1 + 1) ≤ g → Below (w.heap.size + 1 + 1) ((w.alloc (.cells #[.bool s, .slice ao L capx, .slice bo M capy] 70)).alloc (.cells #[.bool false, .slice none 0 0, .slice none 0 0] 70)) W → Below (w.heap.size + 1 + 1) ((w.alloc (.cells #[.bool s, .slice ao L capx, .slice bo M capy] 70)).alloc (.cells #[.bool false, .slice none 0 0, .slice none 0 0] 70)) (((W.setCell ⟨g, 0, none⟩ u0).setCell ⟨g, 1, none⟩ u1).setCell ⟨g, 2, none⟩ u2) from fun W g u0 u1 u2 hg h1 => below_set3 h1 hg)
  go_enter Try.func85, Try.ntmps85
  go_upto_region 1 with fail
  have hw0 : Below (w.heap.size + 1 + 1) ((w.alloc (.cells #[.bool s, .slice ao L capx, .slice bo M capy] 70)).alloc (.cells #[.bool false, .slice none 0 0, .slice none 0 0] 70)) (World.drew ((w.alloc (.cells #[.bool s, .slice ao L capx, .slice bo M capy] 70)).alloc (.cells #[.bool false, .slice none 0 0, .slice none 0 0] 70))) := (Below.refl _ _).drew
  have hs0 : (World.drew ((w.alloc (.cells #[.bool s, .slice ao L capx, .slice bo M capy] 70)).alloc (.cells #[.bool false, .slice none 0 0, .slice none 0 0] 70))).heap.size = w.heap.size + 1 + 1 := by simp
  go_cut [5] (fun s5 wx => ∃ g c0 c1 c2, s5 = .pointer (some ⟨g, 0, none⟩) ∧ w.heap.size + 1 + 1 ≤ g ∧ g < wx.heap.size ∧ Box3 wx g c0 c1 c2 ∧ IsQ wx.heap.size wx (.agg #[c0, c1, c2]) (tQ p) q ∧ Below (w.heap.size + 1 + 1) ((w.alloc (.cells #[.bool s, .slice ao L capx, .slice bo M capy] 70)).alloc (.cells #[.bool false, .slice none 0 0, .slice none 0 0] 70)) wx)
  case first =>
    go_region_held3 (fun W => W.cell? ⟨w.heap.size, 0, none⟩ = some (.bool s) ∧ W.cell? ⟨w.heap.size, 1, none⟩ = some (.slice ao L capx) ∧ W.cell? ⟨w.heap.size, 2, none⟩ = some (.slice bo M capy))
      (exact KP1.out _ (by first | assumption | exact KA1.out _ _ (by assumption) | exact KS1.out _ _ _ _ _ (by first | omega | (simp <;> omega)) (by first | assumption | exact KA1.out _ _ (by assumption))))
      (first
        | (go_at_call 77; ((with_reducible refine (HK.out _).mono ?_); rintro e WK ⟨vK, rfl, hq, hnv, hb⟩; have hwK := KT1.out _ _ (by first | assumption | exact KA1.out _ _ (by assumption)) hb; have hsK := hb.size; (try (simp at hsK)); (try (with_reducible first | have HBX := Lib.hid (HBX.out.below hb (by first | omega | (simp <;> omega))) | have HBX := Lib.hid (show Box3 WK (w.heap.size + 1 + 1) (.bool false) (.slice none 0 0) (.slice none 0 0) from by simpa using ((box_newd ((w.alloc (.cells #[.bool s, .slice ao L capx, .slice bo M capy] 70)).alloc (.cells #[.bool false, .slice none 0 0, .slice none 0 0] 70)) (.bool false) (.slice none 0 0) (.slice none 0 0) 70).below hb (by simp))) | have HBX := Lib.hid ((box_new _ (.bool false) (.slice none 0 0) (.slice none 0 0) _).below hb (by simp)) | have HBX := Lib.hid ((box_newd _ (.bool false) (.slice none 0 0) (.slice none 0 0) _).below hb (by simp)))); have HQK := Lib.hid hq; have HNK := Lib.hid hnv; (try (with_reducible first | have HQT := Lib.hid (isQ_up HQT.out hb) | have HQT := Lib.hid (isQ_up (isQ_al _ HQT.out) hb))); obtain ⟨sK, aoK, LK, capK, boK, MK, capmK, rfl⟩ := isQ_shape hq; clear hq hnv hb))
        | (go_at_call 78; ((with_reducible refine (HT.out _ _ (KB.out _ (by first | assumption | exact KA1.out _ _ (by assumption))) (by first | exact HQK.out | exact isQ_al _ HQK.out)).mono ?_); rintro e WT ⟨vT, rfl, hq, hnv, hb⟩; have hwT := KT1.out _ _ (by first | assumption | exact KA1.out _ _ (by assumption)) hb; have hsT := hb.size; (try (simp at hsT)); (try (with_reducible first | have HBX := Lib.hid (HBX.out.below hb (by first | omega | (simp <;> omega))) | have HBX := Lib.hid ((box_new _ (.bool false) (.slice none 0 0) (.slice none 0 0) _).below hb (by simp)) | have HBX := Lib.hid ((box_newd _ (.bool false) (.slice none 0 0) (.slice none 0 0) _).below hb (by simp)))); have HQT := Lib.hid hq; have HNT := Lib.hid hnv; (try (with_reducible first | have HQK := Lib.hid (isQ_up HQK.out hb) | have HQK := Lib.hid (isQ_up (isQ_al _ HQK.out) hb))); obtain ⟨sT, aoT, LT, capT, boT, MT, capmT, rfl⟩ := isQ_shape hq; (try (obtain ⟨t0, t1, t2, t3, t4, t5⟩ := HBX.out)); clear hq hnv hb))
        | fail)
    all_goals
      go_wp2_with fail
      go_meet
      refine ⟨_, .bool sT, .slice aoT LT capT, .slice boT MT capmT, rfl, ?_, ?_, ?_, ?_, ?_⟩
      · first | omega | (simp <;> omega)
      · first | omega | (simp <;> omega)
      · with_reducible first | exact HBX.out.put | exact box_new _ _ _ _ _
      · with_reducible first | exact isQ_put2 HQT.out (HNT.out.less (by first | omega | (simp <;> omega))) | exact isQ_al _ HQT.out
      · with_reducible first | exact KS1.out _ _ _ _ _ (by first | omega | (simp <;> omega)) (by assumption) | exact KA1.out _ _ (by assumption)
  case rest =>
    obtain ⟨g, c0, c1, c2, rfl, hg, hgl, hbox, hq, hbx⟩ := hcut
    obtain ⟨wA, rfl⟩ : ∃ x, x = wc := ⟨wc, rfl⟩
    have kp1 := KB.out _ hbx
    have kz := hbx.size
    simp at kz
    have HRS := Lib.hid (KR.out _ hbx)
    obtain ⟨s5, ao5, L5, cap5, bo5, M5, capm5, e5⟩ := isQ_shape hq
    simp at e5
    obtain ⟨rfl, rfl, rfl⟩ := e5
    have HBG := Lib.hid hbox
    have HQT := Lib.hid hq
    have HCE := Lib.hid (show ∀ W, Below wA.heap.size wA W → ∀ k (hk : k < ps.length), W.cell? ⟨b, off + k * 2, none⟩ = some (.int .i64 ps[k].1) ∧ W.cell? ⟨b, off + k * 2 + 1, none⟩ = some (.int .i64 ps[k].2) from fun W hW k hk => by
      have hbA : b < wA.heap.size := Nat.lt_of_lt_of_le hb kp1.size
      exact ⟨(hW.cell hbA).trans ((kp1.cell hb).trans (HP.out k hk).1), (hW.cell hbA).trans ((kp1.cell hb).trans (HP.out k hk).2)⟩)
    have hbA : b < wA.heap.size := Nat.lt_of_lt_of_le hb kp1.size
    have HB1 := Lib.hid kp1
    clear hbox hq hbx kp1 HT KP1 KT1 KA1 KS1 KB KR KZ1 hw0 hs0 HP
    go_wp2_with fail
    go_loopw [6] (fun i wr => ∃ k : Nat, i = .int .i64 ((k : Int) + 1) ∧ ∃ hk : k + 1 < ps.length, Hid ((ps[k]'(by omega)).1 * (q : Int) ≤ 1000 * (p : Int)) ∧ Below wA.heap.size wA wr) (fun i _ => ps.length - (intOf i).toNat)
    case atStart => exact ⟨0, rfl, by omega, H0, Below.refl _ _⟩
    case round =>
      obtain ⟨k, rfl, hk, HK0, hbw⟩ := hrel
      obtain ⟨a, ha⟩ : ∃ a, a = (ps[k]'(by omega)) := ⟨_, rfl⟩
      obtain ⟨b2, hb2⟩ : ∃ b2, b2 = ps[k + 1] := ⟨_, rfl⟩
      have RC := Lib.hid (HR.out k hk)
      have r1 := HG.out k (by omega)
      have r2 := HG.out (k + 1) hk
      obtain ⟨hc1, hc2⟩ := HCE.out _ hbw k (by omega)
      obtain ⟨hd1, hd2⟩ := HCE.out _ hbw (k + 1) hk
      have hlt := HST.out k hk
      rw [← ha, ← hb2] at RC
      rw [← ha] at r1 hc1 hc2 HK0 hlt
      rw [← hb2] at r2 hd1 hd2 hlt
      have HA2 := Lib.hid ha
      have HB2 := Lib.hid hb2
      clear ha hb2
      obtain ⟨r11, r12, r13, r14⟩ := r1
      obtain ⟨r21, r22, r23, r24⟩ := r2
      have hsr := hbw.size
      have hbr : b < wr.heap.size := by omega
      have HKP := Lib.hid (show ∀ w', Below wr.heap.size wr w' → w'.cell? ⟨b, off + k * 2, none⟩ = some (.int .i64 a.1) ∧ w'.cell? ⟨b, off + k * 2 + 1, none⟩ = some (.int .i64 a.2) ∧ w'.cell? ⟨b, off + (k + 1) * 2, none⟩ = some (.int .i64 b2.1) ∧ w'.cell? ⟨b, off + (k + 1) * 2 + 1, none⟩ = some (.int .i64 b2.2) from
        fun w' kk => ⟨(kk.cell hbr).trans hc1, (kk.cell hbr).trans hc2, (kk.cell hbr).trans hd1, (kk.cell hbr).trans hd2⟩)
      go_upto_region 5 with fail
      clear hc1 hc2 hd1 hd2
      have z1 : (0 : Int) ≤ (k : Int) := by omega
      have z2 : (k : Int) < (ps.length : Int) := by omega
      have z3 : IntKind.i64.wrap ((k : Int) + 1 - 1) = (k : Int) := by rw [Int.add_sub_cancel]; exact IntWalk.i64_in _ (by omega)
      have z3' : IntKind.i64.wrap (k : Int) = (k : Int) := IntWalk.i64_in _ (by omega)
      have z4 : (k : Int) + 1 < (ps.length : Int) := by omega
      have z5 : ((k : Int) + 1).toNat = k + 1 := by omega
      have z6 : (0 : Int) ≤ (k : Int) + 1 := by omega
      go_cut [7, 8] (fun s7 s8 wx => ∃ g7 g8 : Nat, s7 = .pointer (some ⟨g7, 0, none⟩) ∧ s8 = .pointer (some ⟨g8, 0, none⟩) ∧ wx.cell? ⟨g7, 0, none⟩ = some (.int .i64 a.1) ∧ wx.cell? ⟨g7, 1, none⟩ = some (.int .i64 a.2) ∧ wx.cell? ⟨g8, 0, none⟩ = some (.int .i64 b2.1) ∧ wx.cell? ⟨g8, 1, none⟩ = some (.int .i64 b2.2) ∧ (g7 < wx.heap.size ∧ wr.heap.size ≤ g7) ∧ (g8 < wx.heap.size ∧ wr.heap.size ≤ g8) ∧ Below wr.heap.size wr wx)
      case first =>
        go_region_held3 (fun w' => w'.cell? ⟨b, off + k * 2, none⟩ = some (.int .i64 a.1) ∧ w'.cell? ⟨b, off + k * 2 + 1, none⟩ = some (.int .i64 a.2) ∧ w'.cell? ⟨b, off + (k + 1) * 2, none⟩ = some (.int .i64 b2.1) ∧ w'.cell? ⟨b, off + (k + 1) * 2 + 1, none⟩ = some (.int .i64 b2.2))
          ((refine HKP.out _ ?_; (repeat' first | exact Below.refl _ _ | apply Below.drew | refine Below.alloc ?_ (by simp <;> omega) _)))
          (first | fail)
        all_goals (go_wp2_with fail; go_meet; exact ⟨_, _, rfl, rfl, by simp [go_sem, World.cell?_alloc_past], by simp [go_sem, World.cell?_alloc_past], by simp [go_sem, World.cell?_alloc_past], by simp [go_sem, World.cell?_alloc_past], ⟨by simp <;> omega, by simp <;> omega⟩, ⟨by simp <;> omega, by simp <;> omega⟩, by (repeat' first | exact Below.refl _ _ | apply Below.drew | refine Below.alloc ?_ (by simp <;> omega) _)⟩)
      case rest =>
        obtain ⟨g7, g8, rfl, rfl, k1, k2, k3, k4, ⟨hg7, hg7b⟩, ⟨hg8, hg8b⟩, hbx⟩ := hcut
        obtain ⟨wB, rfl⟩ : ∃ x, x = wc := ⟨wc, rfl⟩
        clear z1 z2 z3 z3' z4 z5 z6 HKP HCE
        have hbB : Below wA.heap.size wA wB := hbw.trans (hbx.mono hbw.size)
        have hszB := hbB.size
        have hgB : g < wB.heap.size := by omega
        have HBG2 := Lib.hid (HBG.out.below hbB hgl)
        have HQ6 := Lib.hid (show ∀ W, Below wB.heap.size wB W → IsQ W.heap.size W (.agg #[.bool s5, .slice ao5 L5 cap5, .slice bo5 M5 capm5]) (tQ p) q from fun W hW => isQ_up (isQ_up HQT.out hbB) hW)
        have HRB := Lib.hid (HRS.out.below hbB (by omega))
        have HWB := Lib.hid (HB1.out.trans (hbB.mono HB1.out.size))
        have HW6 := Lib.hid (fun W => whole_any b2.1 W (by omega) (by omega))
        have hrsB : w.heap.size + 1 + 1 ≤ wB.heap.size := by omega
        have HBX9 := Lib.hid hbB
        clear hbx hbB
        by_cases hgo : tQ p - b2.1 * (q : Int) ≤ 0
        · obtain ⟨c, hce, hc0⟩ := ordI_le hgo
          have HO6 := Lib.hid RC.out.ord
          rw [hce] at HO6
          have HGO := Lib.hid hgo
          clear hce hgo
          have KP6 := Lib.hid (show ∀ W, Below wB.heap.size wB W → (W.cell? ⟨g, 0, none⟩ = some (.bool s5) ∧ W.cell? ⟨g, 1, none⟩ = some (.slice ao5 L5 cap5) ∧ W.cell? ⟨g, 2, none⟩ = some (.slice bo5 M5 capm5) ∧ W.cell? ⟨g8, 0, none⟩ = some (.int .i64 b2.1)) from fun W hW => by
              have x := HBG2.out.below hW hgB
              exact ⟨x.c0, x.c1, x.c2, (hW.cell hg8).trans k3⟩)
          have KZ6 := Lib.hid (show ∀ W, Below wB.heap.size wB W → wB.heap.size ≤ W.heap.size from fun W hW => by
            have := hW.size
            first | omega | (simp at this; omega))
          have KT6 := Lib.hid (show ∀ W W1, Below wB.heap.size wB W → Below W.heap.size W W1 → Below wB.heap.size wB W1 from fun W W1 h1 h2 => h1.trans (h2.mono (KZ6.out W h1)))
          have KA6 := Lib.hid (show ∀ W o, Below wB.heap.size wB W → Below wB.heap.size wB (W.alloc o) from fun W o h1 => h1.alloc (KZ6.out W h1) o)
          have KS6 := Lib.hid (show ∀ W g u0 u1 u2, wB.heap.size ≤ g → Below wB.heap.size wB W → Below wB.heap.size wB (((W.setCell ⟨g, 0, none⟩ u0).setCell ⟨g, 1, none⟩ u1).setCell ⟨g, 2, none⟩ u2) from fun W g u0 u1 u2 hg h1 => below_set3 h1 hg)
          go_upto_region 6 with fail
          have hw0 : Below wB.heap.size wB (World.drew wB) := (Below.refl _ _).drew
          go_region_held3 (fun W => W.cell? ⟨g, 0, none⟩ = some (.bool s5) ∧ W.cell? ⟨g, 1, none⟩ = some (.slice ao5 L5 cap5) ∧ W.cell? ⟨g, 2, none⟩ = some (.slice bo5 M5 capm5) ∧ W.cell? ⟨g8, 0, none⟩ = some (.int .i64 b2.1))
            (exact KP6.out _ (by first | assumption | exact KA6.out _ _ (by assumption) | exact KS6.out _ _ _ _ _ (by first | omega | (simp <;> omega)) (by first | assumption | exact KA6.out _ _ (by assumption))))
            (first
              | (go_at_call 77; ((with_reducible refine (HW6.out _).mono ?_); rintro e WK ⟨vK, rfl, hq, hnv, hb⟩; have hwK := KT6.out _ _ (by first | assumption | exact KA6.out _ _ (by assumption)) hb; have hsK := hb.size; (try (simp at hsK)); have HQK := Lib.hid hq; have HNK := Lib.hid hnv; obtain ⟨sK, aoK, LK, capK, boK, MK, capmK, rfl⟩ := isQ_shape hq; clear hq hnv hb))
              | (go_at_call 84; ((with_reducible refine (HO6.out _ _ _ (HQ6.out _ hwK) HQK.out).mono ?_); rintro e wO ⟨rfl, hb⟩; have hwO := KT6.out _ _ hwK hb; clear hb))
              | fail)
          all_goals
            have hsO := hwO.size
            have q1 := (hwO.cell (p := ⟨g7, 0, none⟩) hg7).trans k1
            have q2 := (hwO.cell (p := ⟨g7, 1, none⟩) hg7).trans k2
            have q3 := (hwO.cell (p := ⟨g8, 0, none⟩) hg8).trans k3
            have q4 := (hwO.cell (p := ⟨g8, 1, none⟩) hg8).trans k4
            have hg7o : g7 < wO.heap.size := by omega
            have hg8o : g8 < wO.heap.size := by omega
            have HBG3 := Lib.hid (HBG2.out.below hwO hgB)
            have HQ7 := Lib.hid (show ∀ W, Below wO.heap.size wO W → IsQ W.heap.size W (.agg #[.bool s5, .slice ao5 L5 cap5, .slice bo5 M5 capm5]) (tQ p) q from fun W hW => isQ_up (HQ6.out _ hwO) hW)
            have HRO := Lib.hid (HRB.out.below hwO (by omega))
            have HWO := Lib.hid (HWB.out.trans (hwO.mono HWB.out.size))
            have hgO : g < wO.heap.size := by omega
            have hrsO : w.heap.size + 1 + 1 ≤ wO.heap.size := by omega
            clear k1 k2 k3 k4 hw0 hwK hwO HQK HNK HW6 HO6 KP6 KA6 KS6 KT6 KZ6 HQ6 HRB HWB
            go_upto_region 7 with fail
            have hd7 : IntKind.i64.wrap (b2.1 - a.1) = b2.1 - a.1 := IntWalk.i64_in _ (by omega)
            have HW71 := Lib.hid (fun W => whole_any a.1 W (by omega) (by omega))
            have HW72 := Lib.hid (fun W => whole_any (b2.1 - a.1) W (by omega) (by omega))
            have KP7 := Lib.hid (show ∀ W, Below wO.heap.size wO W → (W.cell? ⟨g, 0, none⟩ = some (.bool s5) ∧ W.cell? ⟨g, 1, none⟩ = some (.slice ao5 L5 cap5) ∧ W.cell? ⟨g, 2, none⟩ = some (.slice bo5 M5 capm5) ∧ W.cell? ⟨g7, 0, none⟩ = some (.int .i64 a.1) ∧ W.cell? ⟨g8, 0, none⟩ = some (.int .i64 b2.1)) from fun W hW => by
                have x := HBG3.out.below hW hgO
                exact ⟨x.c0, x.c1, x.c2, (hW.cell hg7o).trans q1, (hW.cell hg8o).trans q3⟩)
            have KZ7 := Lib.hid (show ∀ W, Below wO.heap.size wO W → wO.heap.size ≤ W.heap.size from fun W hW => by
              have := hW.size
              first | omega | (simp at this; omega))
            have KT7 := Lib.hid (show ∀ W W1, Below wO.heap.size wO W → Below W.heap.size W W1 → Below wO.heap.size wO W1 from fun W W1 h1 h2 => h1.trans (h2.mono (KZ7.out W h1)))
            have KA7 := Lib.hid (show ∀ W o, Below wO.heap.size wO W → Below wO.heap.size wO (W.alloc o) from fun W o h1 => h1.alloc (KZ7.out W h1) o)
            have KS7 := Lib.hid (show ∀ W g u0 u1 u2, wO.heap.size ≤ g → Below wO.heap.size wO W → Below wO.heap.size wO (((W.setCell ⟨g, 0, none⟩ u0).setCell ⟨g, 1, none⟩ u1).setCell ⟨g, 2, none⟩ u2) from fun W g u0 u1 u2 hg h1 => below_set3 h1 hg)
            have hw0 : Below wO.heap.size wO (World.drew wO) := (Below.refl _ _).drew
            go_cut [9] (fun s9 wx => ∃ g9 d0 d1 d2, s9 = .pointer (some ⟨g9, 0, none⟩) ∧ wO.heap.size ≤ g9 ∧ g9 < wx.heap.size ∧ Box3 wx g9 d0 d1 d2 ∧ IsQ wx.heap.size wx (.agg #[d0, d1, d2]) (partN a p q) (partD a b2 q) ∧ Below wO.heap.size wO wx)
            case first =>
              go_region_held3 (fun W => W.cell? ⟨g, 0, none⟩ = some (.bool s5) ∧ W.cell? ⟨g, 1, none⟩ = some (.slice ao5 L5 cap5) ∧ W.cell? ⟨g, 2, none⟩ = some (.slice bo5 M5 capm5) ∧ W.cell? ⟨g7, 0, none⟩ = some (.int .i64 a.1) ∧ W.cell? ⟨g8, 0, none⟩ = some (.int .i64 b2.1))
                (exact KP7.out _ (by first | assumption | exact KA7.out _ _ (by assumption) | exact KS7.out _ _ _ _ _ (by first | omega | (simp <;> omega)) (by first | assumption | exact KA7.out _ _ (by assumption))))
                (first
                  | (go_at_call 77; ((with_reducible refine (HW71.out _).mono ?_); rintro e WK ⟨vK, rfl, hq, hnv, hb⟩; have hwK := KT7.out _ _ (by first | assumption | exact KA7.out _ _ (by assumption)) hb; have hsK := hb.size; (try (simp at hsK)); (try (with_reducible first | have HBX := Lib.hid (HBX.out.below hb (by first | omega | (simp <;> omega))) | have HBX := Lib.hid ((box_new _ (.bool false) (.slice none 0 0) (.slice none 0 0) _).below hb (by simp)) | have HBX := Lib.hid ((box_newd _ (.bool false) (.slice none 0 0) (.slice none 0 0) _).below hb (by simp)))); have HQK := Lib.hid hq; have HNK := Lib.hid hnv; (try (with_reducible first | have HQN := Lib.hid (isQ_up HQN.out hb) | have HQN := Lib.hid (isQ_up (isQ_al _ HQN.out) hb))); (try (with_reducible first | have HQM := Lib.hid (isQ_up HQM.out hb) | have HQM := Lib.hid (isQ_up (isQ_al _ HQM.out) hb))); (try (with_reducible first | have HQV := Lib.hid (isQ_up HQV.out hb) | have HQV := Lib.hid (isQ_up (isQ_al _ HQV.out) hb))); obtain ⟨sK, aoK, LK, capK, boK, MK, capmK, rfl⟩ := isQ_shape hq; clear hq hnv hb))
                  | (go_at_call 77; ((with_reducible refine (HW72.out _).mono ?_); rintro e WN ⟨vN, rfl, hq, hnv, hb⟩; have hwN := KT7.out _ _ (by first | assumption | exact KA7.out _ _ (by assumption)) hb; have hsN := hb.size; (try (simp at hsN)); (try (with_reducible first | have HBX := Lib.hid (HBX.out.below hb (by first | omega | (simp <;> omega))) | have HBX := Lib.hid ((box_new _ (.bool false) (.slice none 0 0) (.slice none 0 0) _).below hb (by simp)) | have HBX := Lib.hid ((box_newd _ (.bool false) (.slice none 0 0) (.slice none 0 0) _).below hb (by simp)))); have HQN := Lib.hid hq; have HNN := Lib.hid hnv; (try (with_reducible first | have HQK := Lib.hid (isQ_up HQK.out hb) | have HQK := Lib.hid (isQ_up (isQ_al _ HQK.out) hb))); (try (with_reducible first | have HQM := Lib.hid (isQ_up HQM.out hb) | have HQM := Lib.hid (isQ_up (isQ_al _ HQM.out) hb))); (try (with_reducible first | have HQV := Lib.hid (isQ_up HQV.out hb) | have HQV := Lib.hid (isQ_up (isQ_al _ HQV.out) hb))); obtain ⟨sN, aoN, LN, capN, boN, MN, capmN, rfl⟩ := isQ_shape hq; clear hq hnv hb))
                  | (go_at_call 83; ((with_reducible refine (RC.out.mns _ _ _ (HQ7.out _ (by first | assumption | exact KA7.out _ _ (by assumption))) (by first | exact HQK.out | exact isQ_al _ HQK.out)).mono ?_); rintro e WM ⟨vM, rfl, hq, hnv, hb⟩; have hwM := KT7.out _ _ (by first | assumption | exact KA7.out _ _ (by assumption)) hb; have hsM := hb.size; (try (simp at hsM)); (try (with_reducible first | have HBX := Lib.hid (HBX.out.below hb (by first | omega | (simp <;> omega))) | have HBX := Lib.hid ((box_new _ (.bool false) (.slice none 0 0) (.slice none 0 0) _).below hb (by simp)) | have HBX := Lib.hid ((box_newd _ (.bool false) (.slice none 0 0) (.slice none 0 0) _).below hb (by simp)))); have HQM := Lib.hid hq; have HNM := Lib.hid hnv; (try (with_reducible first | have HQK := Lib.hid (isQ_up HQK.out hb) | have HQK := Lib.hid (isQ_up (isQ_al _ HQK.out) hb))); (try (with_reducible first | have HQN := Lib.hid (isQ_up HQN.out hb) | have HQN := Lib.hid (isQ_up (isQ_al _ HQN.out) hb))); (try (with_reducible first | have HQV := Lib.hid (isQ_up HQV.out hb) | have HQV := Lib.hid (isQ_up (isQ_al _ HQV.out) hb))); obtain ⟨sM, aoM, LM, capM, boM, MM, capmM, rfl⟩ := isQ_shape hq; clear hq hnv hb))
                  | (go_at_call 98; ((with_reducible refine (RC.out.ovr _ _ _ (by first | exact HQM.out | exact isQ_al _ HQM.out) (by first | exact HQN.out | exact isQ_al _ HQN.out)).mono ?_); rintro e WV ⟨vV, rfl, hq, hnv, hb⟩; have hwV := KT7.out _ _ (by first | assumption | exact KA7.out _ _ (by assumption)) hb; have hsV := hb.size; (try (simp at hsV)); (try (with_reducible first | have HBX := Lib.hid (HBX.out.below hb (by first | omega | (simp <;> omega))) | have HBX := Lib.hid ((box_new _ (.bool false) (.slice none 0 0) (.slice none 0 0) _).below hb (by simp)) | have HBX := Lib.hid ((box_newd _ (.bool false) (.slice none 0 0) (.slice none 0 0) _).below hb (by simp)))); have HQV := Lib.hid hq; have HNV := Lib.hid hnv; (try (with_reducible first | have HQK := Lib.hid (isQ_up HQK.out hb) | have HQK := Lib.hid (isQ_up (isQ_al _ HQK.out) hb))); (try (with_reducible first | have HQN := Lib.hid (isQ_up HQN.out hb) | have HQN := Lib.hid (isQ_up (isQ_al _ HQN.out) hb))); (try (with_reducible first | have HQM := Lib.hid (isQ_up HQM.out hb) | have HQM := Lib.hid (isQ_up (isQ_al _ HQM.out) hb))); obtain ⟨sV, aoV, LV, capV, boV, MV, capmV, rfl⟩ := isQ_shape hq; (try (obtain ⟨t0, t1, t2, t3, t4, t5⟩ := HBX.out)); clear hq hnv hb))
                  | fail)
              all_goals
                go_wp2_with fail
                go_meet
                refine ⟨_, .bool sV, .slice aoV LV capV, .slice boV MV capmV, rfl, ?_, ?_, ?_, ?_, ?_⟩
                · first | omega | (simp <;> omega)
                · first | omega | (simp <;> omega)
                · with_reducible first | exact HBX.out.put | exact box_new _ _ _ _ _
                · with_reducible first | exact isQ_put2 HQV.out (HNV.out.less (by first | omega | (simp <;> omega))) | exact isQ_al _ HQV.out
                · with_reducible first | exact KS7.out _ _ _ _ _ (by first | omega | (simp <;> omega)) (by assumption) | exact KA7.out _ _ (by assumption)
            case rest =>
              obtain ⟨g9, d0, d1, d2, rfl, hg9, hgl9, hbox9, hq9, hbx⟩ := hcut
              obtain ⟨wD, rfl⟩ : ∃ x, x = wc := ⟨wc, rfl⟩
              obtain ⟨s9, ao9, L9, cap9, bo9, M9, capm9, e9⟩ := isQ_shape hq9
              simp at e9
              obtain ⟨rfl, rfl, rfl⟩ := e9
              have HBG9 := Lib.hid hbox9
              have HQ8 := Lib.hid (show ∀ W, Below wD.heap.size wD W → IsQ W.heap.size W (.agg #[.bool s9, .slice ao9 L9 cap9, .slice bo9 M9 capm9]) (partN a p q) (partD a b2 q) from fun W hW => isQ_up hq9 hW)
              have p2 := (hbx.cell (p := ⟨g7, 1, none⟩) hg7o).trans q2
              have p4 := (hbx.cell (p := ⟨g8, 1, none⟩) hg8o).trans q4
              have hsD := hbx.size
              have hg7d : g7 < wD.heap.size := by omega
              have hg8d : g8 < wD.heap.size := by omega
              have hg9d : w.heap.size + 1 ≠ g9 := by omega
              have hrsD : w.heap.size + 1 + 1 ≤ wD.heap.size := by omega
              have HRD := Lib.hid (HRO.out.below hbx (by omega))
              have HWD := Lib.hid (HWO.out.trans (hbx.mono HWO.out.size))
              clear hbox9 hq9 hbx q1 q2 q3 q4 HW71 HW72 KP7 KA7 KS7 KT7 KZ7 hw0 HQ7 HRO HWO hd7
              go_upto_region 8 with fail
              have hd8 : IntKind.i64.wrap (b2.2 - a.2) = b2.2 - a.2 := IntWalk.i64_in _ (by omega)
              have HW81 := Lib.hid (fun W => whole_any a.2 W (by omega) (by omega))
              have HW82 := Lib.hid (fun W => whole_any (b2.2 - a.2) W (by omega) (by omega))
              have KP8 := Lib.hid (show ∀ W, Below wD.heap.size wD W → (W.cell? ⟨g9, 0, none⟩ = some (.bool s9) ∧ W.cell? ⟨g9, 1, none⟩ = some (.slice ao9 L9 cap9) ∧ W.cell? ⟨g9, 2, none⟩ = some (.slice bo9 M9 capm9) ∧ W.cell? ⟨g7, 1, none⟩ = some (.int .i64 a.2) ∧ W.cell? ⟨g8, 1, none⟩ = some (.int .i64 b2.2)) from fun W hW => by
                  have x := HBG9.out.below hW hgl9
                  exact ⟨x.c0, x.c1, x.c2, (hW.cell hg7d).trans p2, (hW.cell hg8d).trans p4⟩)
              have KZ8 := Lib.hid (show ∀ W, Below wD.heap.size wD W → wD.heap.size ≤ W.heap.size from fun W hW => by
                have := hW.size
                first | omega | (simp at this; omega))
              have KT8 := Lib.hid (show ∀ W W1, Below wD.heap.size wD W → Below W.heap.size W W1 → Below wD.heap.size wD W1 from fun W W1 h1 h2 => h1.trans (h2.mono (KZ8.out W h1)))
              have KA8 := Lib.hid (show ∀ W o, Below wD.heap.size wD W → Below wD.heap.size wD (W.alloc o) from fun W o h1 => h1.alloc (KZ8.out W h1) o)
              have KS8 := Lib.hid (show ∀ W g u0 u1 u2, wD.heap.size ≤ g → Below wD.heap.size wD W → Below wD.heap.size wD (((W.setCell ⟨g, 0, none⟩ u0).setCell ⟨g, 1, none⟩ u1).setCell ⟨g, 2, none⟩ u2) from fun W g u0 u1 u2 hg h1 => below_set3 h1 hg)
              have n9 : g9 ≠ w.heap.size + 1 := by omega
              have n7 : g7 ≠ w.heap.size + 1 := by omega
              have n8 : g8 ≠ w.heap.size + 1 := by omega
              have KQ8 := Lib.hid (show ∀ W u0 u1 u2, Below wD.heap.size wD W → ((((W.setCell ⟨w.heap.size + 1, 0, none⟩ u0).setCell ⟨w.heap.size + 1, 1, none⟩ u1).setCell ⟨w.heap.size + 1, 2, none⟩ u2).cell? ⟨g9, 0, none⟩ = some (.bool s9) ∧ (((W.setCell ⟨w.heap.size + 1, 0, none⟩ u0).setCell ⟨w.heap.size + 1, 1, none⟩ u1).setCell ⟨w.heap.size + 1, 2, none⟩ u2).cell? ⟨g9, 1, none⟩ = some (.slice ao9 L9 cap9) ∧ (((W.setCell ⟨w.heap.size + 1, 0, none⟩ u0).setCell ⟨w.heap.size + 1, 1, none⟩ u1).setCell ⟨w.heap.size + 1, 2, none⟩ u2).cell? ⟨g9, 2, none⟩ = some (.slice bo9 M9 capm9) ∧ (((W.setCell ⟨w.heap.size + 1, 0, none⟩ u0).setCell ⟨w.heap.size + 1, 1, none⟩ u1).setCell ⟨w.heap.size + 1, 2, none⟩ u2).cell? ⟨g7, 1, none⟩ = some (.int .i64 a.2) ∧ (((W.setCell ⟨w.heap.size + 1, 0, none⟩ u0).setCell ⟨w.heap.size + 1, 1, none⟩ u1).setCell ⟨w.heap.size + 1, 2, none⟩ u2).cell? ⟨g8, 1, none⟩ = some (.int .i64 b2.2)) from fun W u0 u1 u2 hW => by
                have x := KP8.out W hW
                exact ⟨(cell_set3 n9).trans x.1, (cell_set3 n9).trans x.2.1, (cell_set3 n9).trans x.2.2.1, (cell_set3 n7).trans x.2.2.2.1, (cell_set3 n8).trans x.2.2.2.2⟩)
              have hw0 : Below wD.heap.size wD (World.drew wD) := (Below.refl _ _).drew
              go_region_held3 (fun W => W.cell? ⟨g9, 0, none⟩ = some (.bool s9) ∧ W.cell? ⟨g9, 1, none⟩ = some (.slice ao9 L9 cap9) ∧ W.cell? ⟨g9, 2, none⟩ = some (.slice bo9 M9 capm9) ∧ W.cell? ⟨g7, 1, none⟩ = some (.int .i64 a.2) ∧ W.cell? ⟨g8, 1, none⟩ = some (.int .i64 b2.2))
                (first | exact KP8.out _ (by first | assumption | exact KA8.out _ _ (by assumption) | exact KS8.out _ _ _ _ _ (by first | omega | (simp <;> omega)) (by first | assumption | exact KA8.out _ _ (by assumption))) | exact KQ8.out _ _ _ _ (by assumption))
                (first
                  | (go_at_call 77; ((with_reducible refine (HW81.out _).mono ?_); rintro e WK ⟨vK, rfl, hq, hnv, hb⟩; have hwK := KT8.out _ _ (by first | assumption | exact KA8.out _ _ (by assumption)) hb; have hsK := hb.size; (try (simp at hsK)); have HQK := Lib.hid hq; have HNK := Lib.hid hnv; (try (with_reducible first | have HQN := Lib.hid (isQ_up HQN.out hb) | have HQN := Lib.hid (isQ_up (isQ_al _ HQN.out) hb))); (try (with_reducible first | have HQT := Lib.hid (isQ_up HQT.out hb) | have HQT := Lib.hid (isQ_up (isQ_al _ HQT.out) hb))); (try (with_reducible first | have HQP := Lib.hid (isQ_up HQP.out hb) | have HQP := Lib.hid (isQ_up (isQ_al _ HQP.out) hb))); (try (with_reducible first | have HQX := Lib.hid (isQ_up HQX.out hb) | have HQX := Lib.hid (isQ_up (isQ_al _ HQX.out) hb))); (try (with_reducible first | have HQV := Lib.hid (isQ_up HQV.out hb) | have HQV := Lib.hid (isQ_up (isQ_al _ HQV.out) hb))); obtain ⟨sK, aoK, LK, capK, boK, MK, capmK, rfl⟩ := isQ_shape hq; clear hq hnv hb))
                  | (go_at_call 77; ((with_reducible refine (HW82.out _).mono ?_); rintro e WN ⟨vN, rfl, hq, hnv, hb⟩; have hwN := KT8.out _ _ (by first | assumption | exact KA8.out _ _ (by assumption)) hb; have hsN := hb.size; (try (simp at hsN)); have HQN := Lib.hid hq; have HNN := Lib.hid hnv; (try (with_reducible first | have HQK := Lib.hid (isQ_up HQK.out hb) | have HQK := Lib.hid (isQ_up (isQ_al _ HQK.out) hb))); (try (with_reducible first | have HQT := Lib.hid (isQ_up HQT.out hb) | have HQT := Lib.hid (isQ_up (isQ_al _ HQT.out) hb))); (try (with_reducible first | have HQP := Lib.hid (isQ_up HQP.out hb) | have HQP := Lib.hid (isQ_up (isQ_al _ HQP.out) hb))); (try (with_reducible first | have HQX := Lib.hid (isQ_up HQX.out hb) | have HQX := Lib.hid (isQ_up (isQ_al _ HQX.out) hb))); (try (with_reducible first | have HQV := Lib.hid (isQ_up HQV.out hb) | have HQV := Lib.hid (isQ_up (isQ_al _ HQV.out) hb))); obtain ⟨sN, aoN, LN, capN, boN, MN, capmN, rfl⟩ := isQ_shape hq; clear hq hnv hb))
                  | (go_at_call 77; ((with_reducible refine (HK.out _).mono ?_); rintro e WX ⟨vX, rfl, hq, hnv, hb⟩; have hwX := KT8.out _ _ (by first | assumption | exact KA8.out _ _ (by assumption)) hb; have hsX := hb.size; (try (simp at hsX)); have HQX := Lib.hid hq; have HNX := Lib.hid hnv; (try (with_reducible first | have HQK := Lib.hid (isQ_up HQK.out hb) | have HQK := Lib.hid (isQ_up (isQ_al _ HQK.out) hb))); (try (with_reducible first | have HQN := Lib.hid (isQ_up HQN.out hb) | have HQN := Lib.hid (isQ_up (isQ_al _ HQN.out) hb))); (try (with_reducible first | have HQT := Lib.hid (isQ_up HQT.out hb) | have HQT := Lib.hid (isQ_up (isQ_al _ HQT.out) hb))); (try (with_reducible first | have HQP := Lib.hid (isQ_up HQP.out hb) | have HQP := Lib.hid (isQ_up (isQ_al _ HQP.out) hb))); (try (with_reducible first | have HQV := Lib.hid (isQ_up HQV.out hb) | have HQV := Lib.hid (isQ_up (isQ_al _ HQV.out) hb))); obtain ⟨sX, aoX, LX, capX, boX, MX, capmX, rfl⟩ := isQ_shape hq; clear hq hnv hb))
                  | (go_at_call 78; ((with_reducible refine (RC.out.tms _ _ _ (by first | exact HQN.out | exact isQ_al _ HQN.out) (HQ8.out _ (by first | assumption | exact KA8.out _ _ (by assumption)))).mono ?_); rintro e WT ⟨vT, rfl, hq, hnv, hb⟩; have hwT := KT8.out _ _ (by first | assumption | exact KA8.out _ _ (by assumption)) hb; have hsT := hb.size; (try (simp at hsT)); have HQT := Lib.hid hq; have HNT := Lib.hid hnv; (try (with_reducible first | have HQK := Lib.hid (isQ_up HQK.out hb) | have HQK := Lib.hid (isQ_up (isQ_al _ HQK.out) hb))); (try (with_reducible first | have HQN := Lib.hid (isQ_up HQN.out hb) | have HQN := Lib.hid (isQ_up (isQ_al _ HQN.out) hb))); (try (with_reducible first | have HQP := Lib.hid (isQ_up HQP.out hb) | have HQP := Lib.hid (isQ_up (isQ_al _ HQP.out) hb))); (try (with_reducible first | have HQX := Lib.hid (isQ_up HQX.out hb) | have HQX := Lib.hid (isQ_up (isQ_al _ HQX.out) hb))); (try (with_reducible first | have HQV := Lib.hid (isQ_up HQV.out hb) | have HQV := Lib.hid (isQ_up (isQ_al _ HQV.out) hb))); obtain ⟨sT, aoT, LT, capT, boT, MT, capmT, rfl⟩ := isQ_shape hq; clear hq hnv hb))
                  | (go_at_call 75; ((with_reducible refine (RC.out.pls _ _ _ (by first | exact HQK.out | exact isQ_al _ HQK.out) (by first | exact HQT.out | exact isQ_al _ HQT.out)).mono ?_); rintro e WP ⟨vP, rfl, hq, hnv, hb⟩; have hwP := KT8.out _ _ (by first | assumption | exact KA8.out _ _ (by assumption)) hb; have hsP := hb.size; (try (simp at hsP)); have HQP := Lib.hid hq; have HNP := Lib.hid hnv; (try (with_reducible first | have HQK := Lib.hid (isQ_up HQK.out hb) | have HQK := Lib.hid (isQ_up (isQ_al _ HQK.out) hb))); (try (with_reducible first | have HQN := Lib.hid (isQ_up HQN.out hb) | have HQN := Lib.hid (isQ_up (isQ_al _ HQN.out) hb))); (try (with_reducible first | have HQT := Lib.hid (isQ_up HQT.out hb) | have HQT := Lib.hid (isQ_up (isQ_al _ HQT.out) hb))); (try (with_reducible first | have HQX := Lib.hid (isQ_up HQX.out hb) | have HQX := Lib.hid (isQ_up (isQ_al _ HQX.out) hb))); (try (with_reducible first | have HQV := Lib.hid (isQ_up HQV.out hb) | have HQV := Lib.hid (isQ_up (isQ_al _ HQV.out) hb))); obtain ⟨sP, aoP, LP, capP, boP, MP, capmP, rfl⟩ := isQ_shape hq; clear hq hnv hb))
                  | (go_at_call 98; ((with_reducible refine (RC.out.end9 _ _ _ (by first | exact HQP.out | exact isQ_al _ HQP.out) (by first | exact HQX.out | exact isQ_al _ HQX.out)).mono ?_); rintro e WV ⟨vV, rfl, hq, hnv, hb⟩; have hwV := KT8.out _ _ (by first | assumption | exact KA8.out _ _ (by assumption)) hb; have hsV := hb.size; (try (simp at hsV)); have HQV := Lib.hid hq; have HNV := Lib.hid hnv; (try (with_reducible first | have HQK := Lib.hid (isQ_up HQK.out hb) | have HQK := Lib.hid (isQ_up (isQ_al _ HQK.out) hb))); (try (with_reducible first | have HQN := Lib.hid (isQ_up HQN.out hb) | have HQN := Lib.hid (isQ_up (isQ_al _ HQN.out) hb))); (try (with_reducible first | have HQT := Lib.hid (isQ_up HQT.out hb) | have HQT := Lib.hid (isQ_up (isQ_al _ HQT.out) hb))); (try (with_reducible first | have HQP := Lib.hid (isQ_up HQP.out hb) | have HQP := Lib.hid (isQ_up (isQ_al _ HQP.out) hb))); (try (with_reducible first | have HQX := Lib.hid (isQ_up HQX.out hb) | have HQX := Lib.hid (isQ_up (isQ_al _ HQX.out) hb))); obtain ⟨sV, aoV, LV, capV, boV, MV, capmV, rfl⟩ := isQ_shape hq; obtain ⟨t0, t1, t2, t3, t4, t5⟩ := HRD.out.below hwV (by omega); clear hq hnv hb))
                  | fail)
              all_goals
                have HZ := Lib.hid hwV
                go_wp2
                refine bodyPost_ret (v := .agg #[.bool sV, .slice aoV LV capV, .slice boV MV capmV]) (by simp [results, Try.results85, go_sem, t0, t1, t2]) rfl ⟨k, hk, ?_, ?_, ⟨_, rfl, ?_, HNV.out.less (by omega), below_set3 (HWD.out.trans (HZ.out.mono HWD.out.size)) (by omega)⟩⟩
                · rw [← HA2.out]; exact HK0.out
                · rw [← HB2.out]; have := HGO.out; unfold tQ at this; omega
                · rw [← HA2.out, ← HB2.out, size_set3]
                  exact HQV.out.set3 (HNV.out.less (by omega))
        · have HO6 := Lib.hid RC.out.ord
          rw [ordI_gt (by omega)] at HO6
          have HGO := Lib.hid hgo
          clear hgo
          have KP6 := Lib.hid (show ∀ W, Below wB.heap.size wB W → (W.cell? ⟨g, 0, none⟩ = some (.bool s5) ∧ W.cell? ⟨g, 1, none⟩ = some (.slice ao5 L5 cap5) ∧ W.cell? ⟨g, 2, none⟩ = some (.slice bo5 M5 capm5) ∧ W.cell? ⟨g8, 0, none⟩ = some (.int .i64 b2.1)) from fun W hW => by
              have x := HBG2.out.below hW hgB
              exact ⟨x.c0, x.c1, x.c2, (hW.cell hg8).trans k3⟩)
          have KZ6 := Lib.hid (show ∀ W, Below wB.heap.size wB W → wB.heap.size ≤ W.heap.size from fun W hW => by
            have := hW.size
            first | omega | (simp at this; omega))
          have KT6 := Lib.hid (show ∀ W W1, Below wB.heap.size wB W → Below W.heap.size W W1 → Below wB.heap.size wB W1 from fun W W1 h1 h2 => h1.trans (h2.mono (KZ6.out W h1)))
          have KA6 := Lib.hid (show ∀ W o, Below wB.heap.size wB W → Below wB.heap.size wB (W.alloc o) from fun W o h1 => h1.alloc (KZ6.out W h1) o)
          have KS6 := Lib.hid (show ∀ W g u0 u1 u2, wB.heap.size ≤ g → Below wB.heap.size wB W → Below wB.heap.size wB (((W.setCell ⟨g, 0, none⟩ u0).setCell ⟨g, 1, none⟩ u1).setCell ⟨g, 2, none⟩ u2) from fun W g u0 u1 u2 hg h1 => below_set3 h1 hg)
          go_upto_region 6 with fail
          have hw0 : Below wB.heap.size wB (World.drew wB) := (Below.refl _ _).drew
          go_region_held3 (fun W => W.cell? ⟨g, 0, none⟩ = some (.bool s5) ∧ W.cell? ⟨g, 1, none⟩ = some (.slice ao5 L5 cap5) ∧ W.cell? ⟨g, 2, none⟩ = some (.slice bo5 M5 capm5) ∧ W.cell? ⟨g8, 0, none⟩ = some (.int .i64 b2.1))
            (exact KP6.out _ (by first | assumption | exact KA6.out _ _ (by assumption) | exact KS6.out _ _ _ _ _ (by first | omega | (simp <;> omega)) (by first | assumption | exact KA6.out _ _ (by assumption))))
            (first
              | (go_at_call 77; ((with_reducible refine (HW6.out _).mono ?_); rintro e WK ⟨vK, rfl, hq, hnv, hb⟩; have hwK := KT6.out _ _ (by first | assumption | exact KA6.out _ _ (by assumption)) hb; have hsK := hb.size; (try (simp at hsK)); have HQK := Lib.hid hq; have HNK := Lib.hid hnv; obtain ⟨sK, aoK, LK, capK, boK, MK, capmK, rfl⟩ := isQ_shape hq; clear hq hnv hb))
              | (go_at_call 84; ((with_reducible refine (HO6.out _ _ _ (HQ6.out _ hwK) HQK.out).mono ?_); rintro e wO ⟨rfl, hb⟩; have hwO := KT6.out _ _ hwK hb; clear hb))
              | fail)
          all_goals
            have HF := Lib.hid (HBX9.out.trans (hwO.mono HBX9.out.size))
            go_wp2_with fail
            go_roundw
            case rel =>
              refine ⟨k + 1, by go_num, ?_⟩
              have hlast := HL.out (k + 1) hk
              have hg := HGO.out
              have e := HB2.out
              have hH := HH.out.pq
              unfold tQ at hg
              have hk2 : k + 1 + 1 < ps.length := by
                rcases Nat.lt_or_ge (k + 1 + 1) ps.length with h9 | h9
                · exact h9
                · have := hlast (by omega)
                  rw [← e] at this
                  rw [this] at hg
                  omega
              exact ⟨hk2, Lib.hid (by rw [← e]; omega), HF.out⟩
            case measure => simp [intOf]; omega
end Go.Proofs.Ythoiamaomhggiaa
