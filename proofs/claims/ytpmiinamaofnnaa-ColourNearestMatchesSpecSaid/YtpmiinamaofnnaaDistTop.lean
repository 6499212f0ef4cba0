/- colour.Distance. -/
import Derived.Test.YtpmiinamaofnnaaNearest
namespace Go.Proofs.Ytpmiinamaofnnaa
open Go.RowKit
set_option linter.unusedVariables false
set_option linter.unusedSimpArgs false

def dstF (r g b r' g' b' : Int) : Int := firstF [chkC r g b, chkC r' g' b']
def dstV (r g b r' g' b' : Int) : Int := if dstF r g b r' g' b' = 0 then distV r g b r' g' b' else 0
theorem chkC_zero {r g b : Int} (h : chkC r g b = 0) : LvOkC r ∧ LvOkC g ∧ LvOkC b := by
  unfold chkC at h
  by_cases c : LvOkC r ∧ LvOkC g ∧ LvOkC b
  · exact c
  · rw [if_neg c] at h; omega
theorem dstF_zero {r g b r' g' b' : Int} (h : dstF r g b r' g' b' = 0) : (LvOkC r ∧ LvOkC g ∧ LvOkC b) ∧ (LvOkC r' ∧ LvOkC g' ∧ LvOkC b') := by
  unfold dstF at h
  by_cases c : chkC r g b = 0
  · refine ⟨chkC_zero c, ?_⟩
    rw [c] at h
    by_cases d : chkC r' g' b' = 0
    · exact chkC_zero d
    · simp [firstF, d] at h
  · simp [firstF, c] at h
theorem dstF_ok {r g b r' g' b' : Int} (h : LvOkC r ∧ LvOkC g ∧ LvOkC b) (h' : LvOkC r' ∧ LvOkC g' ∧ LvOkC b') : dstF r g b r' g' b' = 0 := by
  unfold dstF
  rw [chk_yes h, chk_yes h']
  rfl
theorem first2d (b : Nat) (x y : Int) (W : World) (h1 : W.cell? ⟨b, 0, none⟩ = some (.int .i64 x)) (h2 : W.cell? ⟨b, 1, none⟩ = some (.int .i64 y)) :
    Calls Try.prog 11 #[.slice (some ⟨b, 0, none⟩) 2 2] W fun e w' => e = .returned (.int .i64 (firstF [x, y])) ∧ W = w' := by
  refine first_any b 0 2 [x, y] W (by simp) ?_
  intro i h
  match i, h with
  | 0, _ => simpa using h1
  | 1, _ => simpa using h2
set_option maxRecDepth 100000 in
set_option maxHeartbeats 8000000 in
theorem distTop_any (r g b r' g' b' : Int) (w : World) :
    Calls Try.prog 7 #[.agg #[.int .i64 r, .int .i64 g, .int .i64 b], .agg #[.int .i64 r', .int .i64 g', .int .i64 b']] w fun e w' => e = .returned (.tuple #[.int .i64 (dstV r g b r' g' b'), .int .i64 (dstF r g b r' g' b')]) ∧ Below w.heap.size w w' := by
  have C1 := Lib.hid (pcheck_any r g b)
  have C2 := Lib.hid (pcheck_any r' g' b')
  have CD := Lib.hid (show dstF r g b r' g' b' = 0 → ∀ W, _ from fun h W => distance_any r g b r' g' b' W (dstF_zero h).1.1 (dstF_zero h).1.2.1 (dstF_zero h).1.2.2 (dstF_zero h).2.1 (dstF_zero h).2.2.1 (dstF_zero h).2.2.2)
  have HFE := Lib.hid (show dstF r g b r' g' b' = firstF [chkC r g b, chkC r' g' b'] from rfl)
  have HV0 := Lib.hid (show dstF r g b r' g' b' = 0 → dstV r g b r' g' b' = distV r g b r' g' b' from fun h => if_pos h)
  have HV1 := Lib.hid (show dstF r g b r' g' b' ≠ 0 → dstV r g b r' g' b' = 0 from fun h => if_neg h)
  generalize dstF r g b r' g' b' = E at *
  generalize dstV r g b r' g' b' = V at *
  generalize distV r g b r' g' b' = D at *
  have KC := Lib.hid (show ∀ W, Below (w.heap.size + 2) ((w.alloc (.cells #[.int .i64 r, .int .i64 g, .int .i64 b] 24)).alloc (.cells #[.int .i64 r', .int .i64 g', .int .i64 b'] 24)) W → (Below w.heap.size w W ∧ w.heap.size + 1 < W.heap.size ∧ (W.cell? ⟨w.heap.size, 0, none⟩ = some (.int .i64 r) ∧ W.cell? ⟨w.heap.size, 1, none⟩ = some (.int .i64 g) ∧ W.cell? ⟨w.heap.size, 2, none⟩ = some (.int .i64 b) ∧ W.cell? ⟨w.heap.size + 1, 0, none⟩ = some (.int .i64 r') ∧ W.cell? ⟨w.heap.size + 1, 1, none⟩ = some (.int .i64 g') ∧ W.cell? ⟨w.heap.size + 1, 2, none⟩ = some (.int .i64 b'))) from fun W hW => by
    have hz := hW.size
    simp at hz
    refine ⟨(((Below.refl _ _).alloc (Nat.le_refl _) _).alloc (by simp) _).trans (hW.mono (by omega)), by omega, ?_, ?_, ?_, ?_, ?_, ?_⟩
    all_goals (rw [hW.cell (by show _ < _; dsimp only; omega)]; simp [go_sem, World.cell?_alloc_past]))
  have KA := Lib.hid (show ∀ W o, Below (w.heap.size + 2) ((w.alloc (.cells #[.int .i64 r, .int .i64 g, .int .i64 b] 24)).alloc (.cells #[.int .i64 r', .int .i64 g', .int .i64 b'] 24)) W → Below (w.heap.size + 2) ((w.alloc (.cells #[.int .i64 r, .int .i64 g, .int .i64 b] 24)).alloc (.cells #[.int .i64 r', .int .i64 g', .int .i64 b'] 24)) (W.alloc o) from fun W o h => h.alloc (by have := h.size; simp at this; omega) o)
  have KM := Lib.hid (show ∀ W W', Below (w.heap.size + 2) ((w.alloc (.cells #[.int .i64 r, .int .i64 g, .int .i64 b] 24)).alloc (.cells #[.int .i64 r', .int .i64 g', .int .i64 b'] 24)) W → Below W.heap.size W W' → Below (w.heap.size + 2) ((w.alloc (.cells #[.int .i64 r, .int .i64 g, .int .i64 b] 24)).alloc (.cells #[.int .i64 r', .int .i64 g', .int .i64 b'] 24)) W' from fun W W' h1 h2 => h1.trans (h2.mono (by have := h1.size; simp at this; omega)))
  generalize chkC r g b = c1 at *
  generalize chkC r' g' b' = c2 at *
  have hw0 : Below (w.heap.size + 2) ((w.alloc (.cells #[.int .i64 r, .int .i64 g, .int .i64 b] 24)).alloc (.cells #[.int .i64 r', .int .i64 g', .int .i64 b'] 24)) ((w.alloc (.cells #[.int .i64 r, .int .i64 g, .int .i64 b] 24)).alloc (.cells #[.int .i64 r', .int .i64 g', .int .i64 b'] 24)) := Below.refl _ _
  have hw1 : Below (w.heap.size + 2) ((w.alloc (.cells #[.int .i64 r, .int .i64 g, .int .i64 b] 24)).alloc (.cells #[.int .i64 r', .int .i64 g', .int .i64 b'] 24)) ((w.alloc (.cells #[.int .i64 r, .int .i64 g, .int .i64 b] 24)).alloc (.cells #[.int .i64 r', .int .i64 g', .int .i64 b'] 24)).drew := (Below.refl _ _).drew
  go_enter Try.func7, Try.ntmps7
  go_upto_region 1 with fail
  generalize hW2 : ((w.alloc (.cells #[.int .i64 r, .int .i64 g, .int .i64 b] 24)).alloc (.cells #[.int .i64 r', .int .i64 g', .int .i64 b'] 24)) = W2 at *
  have HE := Lib.hid hW2
  clear hW2
  go_cut [6] (fun s6 wx => s6 = .int .i64 E ∧ Below (w.heap.size + 2) W2 wx)
  case first =>
    go_region_held3 (fun W => W.cell? ⟨w.heap.size, 0, none⟩ = some (.int .i64 r) ∧ W.cell? ⟨w.heap.size, 1, none⟩ = some (.int .i64 g) ∧ W.cell? ⟨w.heap.size, 2, none⟩ = some (.int .i64 b) ∧ W.cell? ⟨w.heap.size + 1, 0, none⟩ = some (.int .i64 r') ∧ W.cell? ⟨w.heap.size + 1, 1, none⟩ = some (.int .i64 g') ∧ W.cell? ⟨w.heap.size + 1, 2, none⟩ = some (.int .i64 b'))
      (with_reducible first | exact (KC.out _ (by assumption)).2.2 | exact (KC.out _ (KA.out _ _ (by assumption))).2.2)
      (first
        | (go_at_call 13; (with_reducible refine (C1.out _).mono ?_); rintro e WD ⟨rfl, hbD⟩; have hwD := KM.out _ _ (by assumption) hbD; clear hbD)
        | (go_at_call 13; (with_reducible refine (C2.out _).mono ?_); rintro e WD ⟨rfl, hbD⟩; have hwD := KM.out _ _ (by assumption) hbD; clear hbD)
        | (go_at_call 11; refine (first2d _ c1 c2 _ (by simp [go_sem]) (by simp [go_sem])).mono ?_; rw [← HFE.out]; rintro e w' ⟨rfl, rfl⟩)
        | fail)
    all_goals go_wp2_with fail
    all_goals go_meet
    all_goals exact ⟨rfl, by with_reducible first | assumption | exact KA.out _ _ (by assumption)⟩
  case rest =>
    obtain ⟨rfl, hb2⟩ := hcut
    obtain ⟨w2, rfl⟩ : ∃ x, x = wc := ⟨wc, rfl⟩
    obtain ⟨hB2, hz2, e0, e1, e2, e3, e4, e5⟩ := KC.out w2 hb2
    have hz1 : w.heap.size < w2.heap.size := by omega
    have HB2 := Lib.hid hB2
    by_cases hE : E = 0
    rotate_left
    · have hb0 : (E != 0) = true := by simp [hE]
      have HNE := Lib.hid (HV1.out hE)
      clear hE hb2 C1 C2 CD hB2 KA KM KC HV0 HV1 hw0 hw1
      go_wp2_with fail
      refine bodyPost_ret (v := .tuple #[.int .i64 0, .int .i64 E]) (by simp [results, Try.results7, go_sem, *]) rfl ⟨by rw [HNE.out], HB2.out⟩
    have HNE := Lib.hid (HV0.out hE)
    have CD2 := Lib.hid (CD.out hE w2)
    subst hE
    clear hb2 C1 C2 CD hB2 KA KM KC HV0 HV1 hw0 hw1
    go_wp2_with fail
    refine CD2.out.mono ?_
    rintro e w3 ⟨rfl, hb3⟩
    have HB3 := Lib.hid (HB2.out.trans (hb3.mono (Nat.le_of_lt (by omega))))
    clear hb3 CD2
    go_wp2_with fail
    refine bodyPost_ret (v := .tuple #[.int .i64 D, .int .i64 0]) (by simp [results, Try.results7, go_sem, *]) rfl ⟨by rw [HNE.out], HB3.out⟩
end Go.Proofs.Ytpmiinamaofnnaa
