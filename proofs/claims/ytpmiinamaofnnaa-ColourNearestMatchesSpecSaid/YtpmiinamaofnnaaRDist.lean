/- The reference's Distance; an insertion told by place. -/
import Derived.Test.YtpmiinamaofnnaaNearPlainG
import Derived.Test.YtpmiinamaofnnaaGelInsG
import Derived.Test.YtpmiinamaofnnaaRChkBook
namespace Go.Proofs.Ytpmiinamaofnnaa
open Go.RowKit
set_option linter.unusedVariables false
set_option linter.unusedSimpArgs false

set_option maxRecDepth 100000 in
set_option maxHeartbeats 4000000 in
theorem rdistance_w (r g b r' g' b' : Int) (w : World) :
    Calls Try.prog 24 #[.agg #[.int .i64 r, .int .i64 g, .int .i64 b], .agg #[.int .i64 r', .int .i64 g', .int .i64 b']] w fun e w' => e = .returned (.int .i64 (distW r g b r' g' b')) ∧ Below w.heap.size w w' := by
  go_enter Try.func24, Try.ntmps24
  go_upto_region 1 with fail
  go_cut [5, 6, 7] (fun s5 s6 s7 wx => s5 = .int .i64 (wrap64 (r - r')) ∧ s6 = .int .i64 (wrap64 (g - g')) ∧ s7 = .int .i64 (wrap64 (b - b')) ∧ Hid (Below w.heap.size w wx))
  case first =>
    go_region
    all_goals go_wp2_with fail
    all_goals go_meet
    all_goals exact ⟨rfl, rfl, rfl, Lib.hid (by repeat' first | exact Below.refl _ _ | apply Below.drew | refine Below.alloc ?_ (by simp <;> omega) _)⟩
  case rest =>
  obtain ⟨rfl, rfl, rfl, HBL⟩ := hcut
  have HD := Lib.hid (show distW r g b r' g' b' = sumW (wrap64 (r - r')) (wrap64 (g - g')) (wrap64 (b - b')) from rfl)
  generalize wrap64 (r - r') = x at *
  generalize wrap64 (g - g') = y at *
  generalize wrap64 (b - b') = z at *
  go_wp2_with fail
  go_ret
  exact ⟨by rw [HD.out]; rfl, HBL.out⟩
set_option maxHeartbeats 2000000 in
theorem rboth_any (r g b r' g' b' : Int) (w : World) :
    Calls Try.prog 23 #[.agg #[.int .i64 r, .int .i64 g, .int .i64 b], .agg #[.int .i64 r', .int .i64 g', .int .i64 b']] w fun e w' => e = .returned (.int .i64 (dstF r g b r' g' b')) ∧ Below w.heap.size w w' := by
  have C1 := Lib.hid (rcheck_any r g b)
  have C2 := Lib.hid (rcheck_any r' g' b')
  have HV := Lib.hid (show dstF r g b r' g' b' = if chkC r g b = 0 then chkC r' g' b' else chkC r g b from by
    unfold dstF
    by_cases c : chkC r g b = 0 <;> by_cases d : chkC r' g' b' = 0 <;> simp [firstF, c, d])
  generalize dstF r g b r' g' b' = E at *
  generalize chkC r g b = c1 at *
  generalize chkC r' g' b' = c2 at *
  go_enter Try.func23, Try.ntmps23
  go_wp2_with fail
  refine (C1.out _).mono ?_
  rintro e w1 ⟨rfl, hb1⟩
  have hz : w.heap.size + 1 < w1.heap.size := by have := hb1.size; simp at this; omega
  have HB1 := Lib.hid (show Below w.heap.size w w1 from (((Below.refl _ w).alloc (Nat.le_refl _) _).alloc (by simp) _).trans (hb1.mono (by simp; omega)))
  have k0 : w1.cell? ⟨w.heap.size + 1, 0, none⟩ = some (.int .i64 r') := (hb1.cell (p := ⟨w.heap.size + 1, 0, none⟩) (by simp)).trans (by simp [go_sem])
  have k1 : w1.cell? ⟨w.heap.size + 1, 1, none⟩ = some (.int .i64 g') := (hb1.cell (p := ⟨w.heap.size + 1, 1, none⟩) (by simp)).trans (by simp [go_sem])
  have k2 : w1.cell? ⟨w.heap.size + 1, 2, none⟩ = some (.int .i64 b') := (hb1.cell (p := ⟨w.heap.size + 1, 2, none⟩) (by simp)).trans (by simp [go_sem])
  clear hb1
  by_cases hc : c1 = 0
  rotate_left
  · have hb0 : (c1 != 0) = true := by simp [hc]
    have HE := Lib.hid (show E = c1 from HV.out.trans (if_neg hc))
    clear hc k0 k1 k2
    go_wp2_with fail
    go_ret
    exact ⟨by rw [HE.out]; rfl, HB1.out⟩
  subst hc
  have HE := Lib.hid (show E = c2 from HV.out.trans (if_pos rfl))
  go_wp2_with fail
  refine (C2.out _).mono ?_
  rintro e w2 ⟨rfl, hb2⟩
  have HB2 := Lib.hid (HB1.out.trans (hb2.mono (by omega)))
  clear hb2 k0 k1 k2
  go_wp2_with fail
  go_ret
  exact ⟨by rw [HE.out]; rfl, HB2.out⟩
set_option maxHeartbeats 2000000 in
theorem rdistTop_any (r g b r' g' b' : Int) (w : World) :
    Calls Try.prog 8 #[.agg #[.int .i64 r, .int .i64 g, .int .i64 b], .agg #[.int .i64 r', .int .i64 g', .int .i64 b']] w fun e w' => e = .returned (.tuple #[.int .i64 (dstV r g b r' g' b'), .int .i64 (dstF r g b r' g' b')]) ∧ Below w.heap.size w w' := by
  have C1 := Lib.hid (rboth_any r g b r' g' b')
  have CD := Lib.hid (rdistance_w r g b r' g' b')
  have HV0 := Lib.hid (show dstF r g b r' g' b' = 0 → dstV r g b r' g' b' = distW r g b r' g' b' from fun h => (if_pos h : dstV r g b r' g' b' = distV r g b r' g' b').trans (distW_in (dstF_zero h).1.1 (dstF_zero h).1.2.1 (dstF_zero h).1.2.2 (dstF_zero h).2.1 (dstF_zero h).2.2.1 (dstF_zero h).2.2.2).symm)
  have HV1 := Lib.hid (show dstF r g b r' g' b' ≠ 0 → dstV r g b r' g' b' = 0 from fun h => if_neg h)
  generalize dstF r g b r' g' b' = E at *
  generalize dstV r g b r' g' b' = V at *
  generalize distW r g b r' g' b' = D at *
  go_enter Try.func8, Try.ntmps8
  go_wp2_with fail
  refine (C1.out _).mono ?_
  rintro e w1 ⟨rfl, hb1⟩
  have hz : w.heap.size + 1 < w1.heap.size := by have := hb1.size; simp at this; omega
  have hz1 : w.heap.size < w1.heap.size := by omega
  have HB1 := Lib.hid (show Below w.heap.size w w1 from (((Below.refl _ w).alloc (Nat.le_refl _) _).alloc (by simp) _).trans (hb1.mono (by simp; omega)))
  have j0 : w1.cell? ⟨w.heap.size, 0, none⟩ = some (.int .i64 r) := (hb1.cell (p := ⟨w.heap.size, 0, none⟩) (by simp; omega)).trans (by simp [go_sem, World.cell?_alloc_past])
  have j1 : w1.cell? ⟨w.heap.size, 1, none⟩ = some (.int .i64 g) := (hb1.cell (p := ⟨w.heap.size, 1, none⟩) (by simp; omega)).trans (by simp [go_sem, World.cell?_alloc_past])
  have j2 : w1.cell? ⟨w.heap.size, 2, none⟩ = some (.int .i64 b) := (hb1.cell (p := ⟨w.heap.size, 2, none⟩) (by simp; omega)).trans (by simp [go_sem, World.cell?_alloc_past])
  have k0 : w1.cell? ⟨w.heap.size + 1, 0, none⟩ = some (.int .i64 r') := (hb1.cell (p := ⟨w.heap.size + 1, 0, none⟩) (by simp)).trans (by simp [go_sem])
  have k1 : w1.cell? ⟨w.heap.size + 1, 1, none⟩ = some (.int .i64 g') := (hb1.cell (p := ⟨w.heap.size + 1, 1, none⟩) (by simp)).trans (by simp [go_sem])
  have k2 : w1.cell? ⟨w.heap.size + 1, 2, none⟩ = some (.int .i64 b') := (hb1.cell (p := ⟨w.heap.size + 1, 2, none⟩) (by simp)).trans (by simp [go_sem])
  clear hb1
  by_cases hc : E = 0
  rotate_left
  · have hb0 : (E != 0) = true := by simp [hc]
    have HE := Lib.hid (HV1.out hc)
    clear hc k0 k1 k2 j0 j1 j2
    go_wp2_with fail
    refine bodyPost_ret (v := .tuple #[.int .i64 0, .int .i64 E]) (by simp [results, Try.results8, go_sem, *]) rfl ⟨by rw [HE.out], HB1.out⟩
  have HE := Lib.hid (HV0.out hc)
  subst hc
  go_wp2_with fail
  refine (CD.out _).mono ?_
  rintro e w2 ⟨rfl, hb2⟩
  have HB2 := Lib.hid (HB1.out.trans (hb2.mono (by omega)))
  clear hb2 k0 k1 k2 j0 j1 j2
  go_wp2_with fail
  refine bodyPost_ret (v := .tuple #[.int .i64 D, .int .i64 0]) (by simp [results, Try.results8, go_sem, *]) rfl ⟨by rw [HE.out], HB2.out⟩

/-! ### the reference's Nearest -/
theorem stb_more (f : Gel → Int) (l : List Gel) (k : Nat) (h : k < l.length) : stb f (l.take (k + 1)) = insS f l[k] (stb f (l.take k)) := by
  rw [List.take_succ_eq_append_getElem h]
  unfold stb
  rw [List.foldl_append]
  rfl
theorem insS_ins (f : Gel → Int) (x : Gel) : ∀ (s : List Gel) (p : Nat), p ≤ s.length → (∀ j (h : j < s.length), j < p → f s[j] ≤ f x) → (∀ j (h : j < s.length), p ≤ j → f x < f s[j]) → insS f x s = insG s p x
  | [], p, h, _, _ => by
    obtain rfl : p = 0 := by simpa using h
    rfl
  | z :: t, p, h, h1, h2 => by
    match p with
    | 0 =>
      have := h2 0 (by simp) (Nat.le_refl _)
      simp only [List.getElem_cons_zero] at this
      unfold insS
      rw [if_pos this]
      rfl
    | q + 1 =>
      have h0 := h1 0 (by simp) (by omega)
      simp only [List.getElem_cons_zero] at h0
      unfold insS
      rw [if_neg (by omega)]
      have ih := insS_ins f x t q (by simpa using h) (fun j hj hq => by have := h1 (j + 1) (by simpa using hj) (by omega); rwa [List.getElem_cons_succ] at this) (fun j hj hq => by have := h2 (j + 1) (by simpa using hj) (by omega); rwa [List.getElem_cons_succ] at this)
      rw [ih]
      rfl
theorem srt_get {f : Gel → Int} {s : List Gel} (h : Srt f s) {i j : Nat} (hij : i ≤ j) (hj : j < s.length) : f (s[i]'(by omega)) ≤ f s[j] := by
  rcases Nat.eq_or_lt_of_le hij with rfl | hlt
  · exact Int.le_refl _
  · exact List.pairwise_iff_getElem.1 h i j (by omega) hj hlt
end Go.Proofs.Ytpmiinamaofnnaa
