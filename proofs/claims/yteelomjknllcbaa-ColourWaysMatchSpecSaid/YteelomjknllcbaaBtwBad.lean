/- colour.Between at a fault. (printed by wip/gen/gen_between.py) -/
import Derived.Test.YteelomjknllcbaaBtwHead
namespace Go.Proofs.Yteelomjknllcbaa
open Go.RowKit
set_option linter.unusedVariables false
set_option linter.unusedSimpArgs false

set_option maxRecDepth 100000 in
set_option maxHeartbeats 4000000 in
theorem between_bad (r1 g1 b1 r2 g2 b2 way p q : Int) (w : World) (hno : ¬ PartOk p q) :
    Calls Try.prog 25 #[.agg #[.int .i64 r1, .int .i64 g1, .int .i64 b1], .agg #[.int .i64 r2, .int .i64 g2, .int .i64 b2], .int .i64 way, .int .i64 p, .int .i64 q] w fun e w' =>
      e = .returned (.tuple #[.agg #[.int .i64 0, .int .i64 0, .int .i64 0], .int .i64 (btwE r1 g1 b1 r2 g2 b2 way p q)]) ∧ Below w.heap.size w w' := by
  have HE := Lib.hid (btwE_no (r1 := r1) (g1 := g1) (b1 := b1) (r2 := r2) (g2 := g2) (b2 := b2) (way := way) hno)
  have HN := Lib.hid (show btwE r1 g1 b1 r2 g2 b2 way p q ≠ 0 by rw [HE.out]; exact firstF_one' _ _ _)
  generalize btwE r1 g1 b1 r2 g2 b2 way p q = E at *
  by_cases hq : 1 ≤ q ∧ q ≤ 36000000
  · have HQ := Lib.hid hq
    have HP := Lib.hid (show p < 0 ∨ q < p from by
      by_cases h1 : 0 ≤ p ∧ p ≤ q
      · exact absurd ⟨hq, h1⟩ hno
      · omega)
    clear hq hno
    go_enter Try.func25, Try.ntmps25
    go_upto_region 1 with fail
    go_cut [12] (fun s12 wx => s12 = .int .i64 E ∧ BtwS w r1 g1 b1 r2 g2 b2 p q wx)
    case first =>
      go_region_held3 (fun w' => w'.cell? ⟨w.heap.size, 0, none⟩ = some (.int .i64 r1) ∧ w'.cell? ⟨w.heap.size, 1, none⟩ = some (.int .i64 g1) ∧ w'.cell? ⟨w.heap.size, 2, none⟩ = some (.int .i64 b1) ∧ w'.cell? ⟨w.heap.size + 1, 0, none⟩ = some (.int .i64 r2) ∧ w'.cell? ⟨w.heap.size + 1, 1, none⟩ = some (.int .i64 g2) ∧ w'.cell? ⟨w.heap.size + 1, 2, none⟩ = some (.int .i64 b2) ∧ w'.cell? ⟨w.heap.size + 1 + 1, 0, none⟩ = some (.int .i64 p) ∧ w'.cell? ⟨w.heap.size + 1 + 1 + 1, 0, none⟩ = some (.int .i64 q))
        (simp [go_sem, World.cell?_alloc_past])
        (first
          | (go_at_call 15; ((with_reducible refine (check_any r1 g1 b1 _).mono ?_); rintro e w1 ⟨rfl, rfl⟩))
          | (go_at_call 15; ((with_reducible refine (check_any r2 g2 b2 _).mono ?_); rintro e w1 ⟨rfl, rfl⟩))
          | (go_at_call 37; ((with_reducible refine (within_yes q 1 36000000 _ HQ.out).mono ?_); rintro e w' ⟨rfl, rfl⟩))
          | (go_at_call 37; ((with_reducible refine (within_no p 0 q _ HP.out).mono ?_); rintro e w' ⟨rfl, rfl⟩))
          | (go_at_call 37; ((with_reducible refine (within_B way _ _ _).mono ?_); rintro e w' ⟨rfl, rfl⟩))
          | (go_at_call 43; ((with_reducible refine (when_B _ 4 _).mono ?_); rintro e w' ⟨rfl, rfl⟩))
          | (go_at_call 43; ((with_reducible refine (when_yes 1 _).mono ?_); rintro e w' ⟨rfl, rfl⟩))
          | (go_at_call 44; refine (first4d _ (chkC r1 g1 b1) (chkC r2 g2 b2) (whenV (!inB way 1 3) 4) 1 _ (by simp [go_sem]) (by simp [go_sem]) (by simp [go_sem]) (by simp [go_sem])).mono ?_; rintro e w' ⟨rfl, rfl⟩)
          | fail)
      all_goals go_wp2_with fail
      all_goals go_meet
      all_goals exact ⟨by rw [HE.out], btwS_of _ _ _ _ _ _ _ _ _ _ _⟩
    case rest =>
      obtain ⟨rfl, hS⟩ := hcut
      obtain ⟨wA, rfl⟩ : ∃ x, x = wc := ⟨wc, rfl⟩
      obtain ⟨bA, hz, a0, a1, a2, d0, d1, d2, pc, qc, t0, t1, t2, t3, t4, t5⟩ := hS
      have z0 : w.heap.size < wA.heap.size := by omega
      have z1 : w.heap.size + 1 < wA.heap.size := by omega
      have z2 : w.heap.size + 1 + 1 < wA.heap.size := by omega
      have z3 : w.heap.size + 1 + 1 + 1 < wA.heap.size := by omega
      have z4 : w.heap.size + 1 + 1 + 1 + 1 < wA.heap.size := by omega
      have BA := Lib.hid bA
      clear bA hz
      have hb : (E != 0) = true := by simp [HN.out]
      have hb2 : decide (E ≠ 0) = true := by simp [HN.out]
      go_wp2
      refine bodyPost_ret (v := .tuple #[.agg #[.int .i64 0, .int .i64 0, .int .i64 0], .int .i64 E]) (by simp [results, Try.results25, go_sem, *]) rfl ⟨rfl, below_set3 BA.out (by omega)⟩
  · have HW := Lib.hid (show q < 1 ∨ 36000000 < q by omega)
    clear hq hno
    go_enter Try.func25, Try.ntmps25
    go_upto_region 1 with fail
    go_cut [12] (fun s12 wx => s12 = .int .i64 E ∧ BtwS w r1 g1 b1 r2 g2 b2 p q wx)
    case first =>
      refine wp_region_held_drew (S := (fun w' => w'.cell? ⟨w.heap.size, 0, none⟩ = some (.int .i64 r1) ∧ w'.cell? ⟨w.heap.size, 1, none⟩ = some (.int .i64 g1) ∧ w'.cell? ⟨w.heap.size, 2, none⟩ = some (.int .i64 b1) ∧ w'.cell? ⟨w.heap.size + 1, 0, none⟩ = some (.int .i64 r2) ∧ w'.cell? ⟨w.heap.size + 1, 1, none⟩ = some (.int .i64 g2) ∧ w'.cell? ⟨w.heap.size + 1, 2, none⟩ = some (.int .i64 b2) ∧ w'.cell? ⟨w.heap.size + 1 + 1, 0, none⟩ = some (.int .i64 p) ∧ w'.cell? ⟨w.heap.size + 1 + 1 + 1, 0, none⟩ = some (.int .i64 q))) (by kernel_rfl) (by (try dsimp only); simp [go_sem, World.cell?_alloc_past]) (fun hHeld => ?_)
      refine wpAnyH_take (i := 0) (oi := _) (v := ?_) rfl (by kernel_rfl) (by kernel_rfl) (by kernel_rfl) (fun _ _ _ h => h) (Or.inl ⟨by rfl, ?_⟩) (by assumption) ?_
      rotate_left
      · (intro w hSw; (try dsimp only at hSw); go_simp <;> with_reducible rfl)
      try simp only [Act.put, List.setIfInBounds_toArray, List.set_cons_zero, List.set_cons_succ]
      refine wpAnyH_take (i := 2) (oi := _) (v := ?_) rfl (by kernel_rfl) (by kernel_rfl) (by kernel_rfl) (fun _ _ _ h => h) (Or.inl ⟨by rfl, ?_⟩) (by assumption) ?_
      rotate_left
      · (intro w hSw; (try dsimp only at hSw); go_simp <;> with_reducible rfl)
      try simp only [Act.put, List.setIfInBounds_toArray, List.set_cons_zero, List.set_cons_succ]
      refine wpAnyH_take (i := 4) (oi := _) (v := ?_) rfl (by kernel_rfl) (by kernel_rfl) (by kernel_rfl) (fun _ _ _ h => h) (Or.inl ⟨by rfl, ?_⟩) (by assumption) ?_
      rotate_left
      · (intro w hSw; (try dsimp only at hSw); go_simp <;> with_reducible rfl)
      try simp only [Act.put, List.setIfInBounds_toArray, List.set_cons_zero, List.set_cons_succ]
      refine wpAnyH_take (i := 8) (oi := _) (v := ?_) rfl (by kernel_rfl) (by kernel_rfl) (by kernel_rfl) (fun _ _ _ h => h) (Or.inl ⟨by rfl, ?_⟩) (by assumption) ?_
      rotate_left
      · (intro w hSw; (try dsimp only at hSw); go_simp <;> with_reducible rfl)
      try simp only [Act.put, List.setIfInBounds_toArray, List.set_cons_zero, List.set_cons_succ]
      refine wpAnyH_ready (rs := [1]) (by kernel_rfl) (by simp) (AllReadyH.cons rfl (fun K hK => ?_) AllReadyH.nil)
      go_simp
      (go_at_call 15; ((with_reducible refine (check_any r1 g1 b1 _).mono ?_); rintro e w' ⟨rfl, rfl⟩))
      (try go_wp2_with fail)
      refine hK.out _ _ (by (try dsimp only); simp [go_sem, World.cell?_alloc_past]) (fun hHeld => ?_)
      clear hK K
      try simp only [Act.put, List.setIfInBounds_toArray, List.set_cons_zero, List.set_cons_succ]
      refine wpAnyH_ready (rs := [3]) (by kernel_rfl) (by simp) (AllReadyH.cons rfl (fun K hK => ?_) AllReadyH.nil)
      go_simp
      (go_at_call 15; ((with_reducible refine (check_any r2 g2 b2 _).mono ?_); rintro e w' ⟨rfl, rfl⟩))
      (try go_wp2_with fail)
      refine hK.out _ _ (by (try dsimp only); simp [go_sem, World.cell?_alloc_past]) (fun hHeld => ?_)
      clear hK K
      try simp only [Act.put, List.setIfInBounds_toArray, List.set_cons_zero, List.set_cons_succ]
      refine wpAnyH_ready (rs := [5]) (by kernel_rfl) (by simp) (AllReadyH.cons rfl (fun K hK => ?_) AllReadyH.nil)
      go_simp
      (go_at_call 37; ((with_reducible refine (within_B way _ _ _).mono ?_); rintro e w' ⟨rfl, rfl⟩))
      (try go_wp2_with fail)
      refine hK.out _ _ (by (try dsimp only); simp [go_sem, World.cell?_alloc_past]) (fun hHeld => ?_)
      clear hK K
      try simp only [Act.put, List.setIfInBounds_toArray, List.set_cons_zero, List.set_cons_succ]
      refine wpAnyH_take (i := 6) (oi := _) (v := ?_) rfl (by kernel_rfl) (by kernel_rfl) (by kernel_rfl) (fun _ _ _ h => h) (Or.inl ⟨by rfl, ?_⟩) (by assumption) ?_
      rotate_left
      · (intro w hSw; (try dsimp only at hSw); go_simp <;> with_reducible rfl)
      try simp only [Act.put, List.setIfInBounds_toArray, List.set_cons_zero, List.set_cons_succ]
      refine wpAnyH_ready (rs := [7]) (by kernel_rfl) (by simp) (AllReadyH.cons rfl (fun K hK => ?_) AllReadyH.nil)
      go_simp
      (go_at_call 43; ((with_reducible refine (when_B _ 4 _).mono ?_); rintro e w' ⟨rfl, rfl⟩))
      (try go_wp2_with fail)
      refine hK.out _ _ (by (try dsimp only); simp [go_sem, World.cell?_alloc_past]) (fun hHeld => ?_)
      clear hK K
      try simp only [Act.put, List.setIfInBounds_toArray, List.set_cons_zero, List.set_cons_succ]
      refine wpAnyH_ready (rs := [9]) (by kernel_rfl) (by simp) (AllReadyH.cons rfl (fun K hK => ?_) AllReadyH.nil)
      go_simp
      (go_at_call 37; ((with_reducible refine (within_no q 1 36000000 _ HW.out).mono ?_); rintro e w' ⟨rfl, rfl⟩))
      (try go_wp2_with fail)
      refine hK.out _ _ (by (try dsimp only); simp [go_sem, World.cell?_alloc_past]) (fun hHeld => ?_)
      clear hK K
      try simp only [Act.put, List.setIfInBounds_toArray, List.set_cons_zero, List.set_cons_succ]
      refine wpAnyH_take (i := 10) (oi := _) (v := ?_) rfl (by kernel_rfl) (by kernel_rfl) (by kernel_rfl) (fun _ _ _ h => h) (Or.inl ⟨by rfl, ?_⟩) (by assumption) ?_
      rotate_left
      · (intro w hSw; (try dsimp only at hSw); go_simp <;> with_reducible rfl)
      try simp only [Act.put, List.setIfInBounds_toArray, List.set_cons_zero, List.set_cons_succ]
      refine wpAnyH_take (i := 11) (oi := _) (v := ?_) rfl (by kernel_rfl) (by kernel_rfl) (by kernel_rfl) (fun _ _ _ h => h) (Or.inl ⟨by rfl, ?_⟩) (by assumption) ?_
      rotate_left
      · (intro w hSw; (try dsimp only at hSw); go_simp <;> with_reducible rfl)
      try simp only [Act.put, List.setIfInBounds_toArray, List.set_cons_zero, List.set_cons_succ]
      refine wpAnyH_take (i := 12) (oi := _) (v := undef) rfl (by kernel_rfl) (by kernel_rfl) (by kernel_rfl) (fun _ _ _ h => h) (Or.inr ⟨by rfl, rfl⟩) (by assumption) ?_
      try simp only [Act.put, List.setIfInBounds_toArray, List.set_cons_zero, List.set_cons_succ]
      refine wpAnyH_take (i := 13) (oi := _) (v := undef) rfl (by kernel_rfl) (by kernel_rfl) (by kernel_rfl) (fun _ _ _ h => h) (Or.inr ⟨by rfl, rfl⟩) (by assumption) ?_
      try simp only [Act.put, List.setIfInBounds_toArray, List.set_cons_zero, List.set_cons_succ]
      refine wpAnyH_take (i := 14) (oi := _) (v := undef) rfl (by kernel_rfl) (by kernel_rfl) (by kernel_rfl) (fun _ _ _ h => h) (Or.inr ⟨by rfl, rfl⟩) (by assumption) ?_
      try simp only [Act.put, List.setIfInBounds_toArray, List.set_cons_zero, List.set_cons_succ]
      refine wpAnyH_take (i := 15) (oi := _) (v := undef) rfl (by kernel_rfl) (by kernel_rfl) (by kernel_rfl) (fun _ _ _ h => h) (Or.inr ⟨by rfl, rfl⟩) (by assumption) ?_
      try simp only [Act.put, List.setIfInBounds_toArray, List.set_cons_zero, List.set_cons_succ]
      refine wpAnyH_take (i := 16) (oi := _) (v := ?_) rfl (by kernel_rfl) (by kernel_rfl) (by kernel_rfl) (fun _ _ _ h => h) (Or.inl ⟨by rfl, ?_⟩) (by assumption) ?_
      rotate_left
      · (intro w hSw; (try dsimp only at hSw); go_simp <;> with_reducible rfl)
      try simp only [Act.put, List.setIfInBounds_toArray, List.set_cons_zero, List.set_cons_succ]
      refine wpAnyH_ready (rs := [17]) (by kernel_rfl) (by simp) (AllReadyH.cons rfl (fun K hK => ?_) AllReadyH.nil)
      go_simp
      (go_at_call 43; ((with_reducible refine (when_yes 1 _).mono ?_); rintro e w' ⟨rfl, rfl⟩))
      (try go_wp2_with fail)
      refine hK.out _ _ (by (try dsimp only); simp [go_sem, World.cell?_alloc_past]) (fun hHeld => ?_)
      clear hK K
      try simp only [Act.put, List.setIfInBounds_toArray, List.set_cons_zero, List.set_cons_succ]
      refine wpAnyH_ready (rs := [18]) (by kernel_rfl) (by simp) (AllReadyH.cons rfl (fun K hK => ?_) AllReadyH.nil)
      go_simp
      (try go_wp2_with fail)
      refine hK.out _ _ (by (try dsimp only); simp [go_sem, World.cell?_alloc_past]) (fun hHeld => ?_)
      clear hK K
      try simp only [Act.put, List.setIfInBounds_toArray, List.set_cons_zero, List.set_cons_succ]
      refine wpAnyH_ready (rs := [19]) (by kernel_rfl) (by simp) (AllReadyH.cons rfl (fun K hK => ?_) AllReadyH.nil)
      go_simp
      (go_at_call 44; (refine (first4d _ (chkC r1 g1 b1) (chkC r2 g2 b2) (whenV (!inB way 1 3) 4) 1 _ (by simp [go_sem]) (by simp [go_sem]) (by simp [go_sem]) (by simp [go_sem])).mono ?_; rintro e w' ⟨rfl, rfl⟩))
      (try go_wp2_with fail)
      refine hK.out _ _ (by (try dsimp only); simp [go_sem, World.cell?_alloc_past]) (fun hHeld => ?_)
      clear hK K
      try simp only [Act.put, List.setIfInBounds_toArray, List.set_cons_zero, List.set_cons_succ]
      refine wpAnyH_ready (rs := [20]) (by kernel_rfl) (by simp) (AllReadyH.cons rfl (fun K hK => ?_) AllReadyH.nil)
      go_simp
      (try go_wp2_with fail)
      refine hK.out _ _ (by (try dsimp only); simp [go_sem, World.cell?_alloc_past]) (fun hHeld => ?_)
      clear hK K
      try simp only [Act.put, List.setIfInBounds_toArray, List.set_cons_zero, List.set_cons_succ]
      refine wpAnyH_done (by kernel_rfl) ?_ _
      all_goals go_wp2_with fail
      all_goals go_meet
      all_goals exact ⟨by rw [HE.out], btwS_of _ _ _ _ _ _ _ _ _ _ _⟩
    case rest =>
      obtain ⟨rfl, hS⟩ := hcut
      obtain ⟨wA, rfl⟩ : ∃ x, x = wc := ⟨wc, rfl⟩
      obtain ⟨bA, hz, a0, a1, a2, d0, d1, d2, pc, qc, t0, t1, t2, t3, t4, t5⟩ := hS
      have z0 : w.heap.size < wA.heap.size := by omega
      have z1 : w.heap.size + 1 < wA.heap.size := by omega
      have z2 : w.heap.size + 1 + 1 < wA.heap.size := by omega
      have z3 : w.heap.size + 1 + 1 + 1 < wA.heap.size := by omega
      have z4 : w.heap.size + 1 + 1 + 1 + 1 < wA.heap.size := by omega
      have BA := Lib.hid bA
      clear bA hz
      have hb : (E != 0) = true := by simp [HN.out]
      have hb2 : decide (E ≠ 0) = true := by simp [HN.out]
      go_wp2
      refine bodyPost_ret (v := .tuple #[.agg #[.int .i64 0, .int .i64 0, .int .i64 0], .int .i64 E]) (by simp [results, Try.results25, go_sem, *]) rfl ⟨rfl, below_set3 BA.out (by omega)⟩
end Go.Proofs.Yteelomjknllcbaa
