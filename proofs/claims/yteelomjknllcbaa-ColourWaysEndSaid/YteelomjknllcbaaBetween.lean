/- The contract of colour.Between at both ends of a way. -/
import Derived.Test.YteelomjknllcbaaColour
namespace Go.Proofs.Yteelomjknllcbaa
open Go.RowKit
set_option linter.unusedSimpArgs false

theorem first4c (b : Nat) (x y z u : Int) (W : World) (h1 : W.cell? ⟨b, 0, none⟩ = some (.int .i64 x)) (h2 : W.cell? ⟨b, 1, none⟩ = some (.int .i64 y)) (h3 : W.cell? ⟨b, 2, none⟩ = some (.int .i64 z)) (h4 : W.cell? ⟨b, 3, none⟩ = some (.int .i64 u)) :
    Calls Try.prog 44 #[.slice (some ⟨b, 0, none⟩) 4 4] W fun e w' => e = .returned (.int .i64 (firstF [x, y, z, u])) ∧ W = w' := by
  refine first_any b 0 4 [x, y, z, u] W (by simp) ?_
  intro i h
  match i, h with
  | 0, _ => simpa using h1
  | 1, _ => simpa using h2
  | 2, _ => simpa using h3
  | 3, _ => simpa using h4

/-- the fault of Between, where the part is none or the whole -/
def endF (r1 g1 b1 r2 g2 b2 way whole : Int) : Int := firstF [chkC r1 g1 b1, chkC r2 g2 b2, whenV (!inB way 1 3) 4, whenV (!inB whole 1 36000000) 1]

/-- the world behind the fault of Between -/
abbrev btwW (w : World) (r1 g1 b1 r2 g2 b2 way part whole lf : Int) : World :=
  ((((((((w.alloc (.cells #[.int .i64 r1, .int .i64 g1, .int .i64 b1] 23)).alloc (.cells #[.int .i64 r2, .int .i64 g2, .int .i64 b2] 23)).alloc (.cells #[.int .i64 part] 3)).alloc (.cells #[.int .i64 whole] 3)).alloc (.cells #[.int .i64 0, .int .i64 0, .int .i64 0] 23)).alloc (.cells #[.int .i64 r1, .int .i64 g1, .int .i64 b1] 23)).alloc (.cells #[.int .i64 r2, .int .i64 g2, .int .i64 b2] 23)).alloc (.cells #[.int .i64 (chkC r1 g1 b1), .int .i64 (chkC r2 g2 b2), .int .i64 (whenV (!inB way 1 3) 4), .int .i64 lf] 26)).drew

theorem firstF_one (a b c : Int) : firstF [a, b, c, 1] ≠ 0 := by
  by_cases ha : a = 0 <;> by_cases hb : b = 0 <;> by_cases hc : c = 0 <;> simp [firstF, *]

set_option maxRecDepth 100000 in
set_option maxHeartbeats 4000000 in
theorem between_start (r1 g1 b1 r2 g2 b2 way whole : Int) (w : World) :
    Calls Try.prog 25 #[.agg #[.int .i64 r1, .int .i64 g1, .int .i64 b1], .agg #[.int .i64 r2, .int .i64 g2, .int .i64 b2], .int .i64 way, .int .i64 0, .int .i64 whole] w fun e w' =>
      e = .returned (.tuple #[(if endF r1 g1 b1 r2 g2 b2 way whole = 0 then .agg #[.int .i64 r1, .int .i64 g1, .int .i64 b1] else .agg #[.int .i64 0, .int .i64 0, .int .i64 0]), .int .i64 (endF r1 g1 b1 r2 g2 b2 way whole)]) ∧ Below w.heap.size w w' := by
  by_cases hw : 1 ≤ whole ∧ whole ≤ 36000000
  · obtain ⟨hw1, hw2⟩ := hw
    have HE := Lib.hid (show endF r1 g1 b1 r2 g2 b2 way whole = firstF [chkC r1 g1 b1, chkC r2 g2 b2, whenV (!inB way 1 3) 4, 0] by
      have : inB whole 1 36000000 = true := decide_eq_true ⟨hw1, hw2⟩
      unfold endF; rw [this]; rfl)
    generalize endF r1 g1 b1 r2 g2 b2 way whole = E at *
    go_enter Try.func25, Try.ntmps25
    go_upto_region 1 with fail
    go_cut [12] (fun s12 wx => s12 = .int .i64 E ∧ wx = btwW w r1 g1 b1 r2 g2 b2 way 0 whole 0)
    case first =>
      go_region_held3 (fun w' => w'.cell? ⟨w.heap.size, 0, none⟩ = some (.int .i64 r1) ∧ w'.cell? ⟨w.heap.size, 1, none⟩ = some (.int .i64 g1) ∧ w'.cell? ⟨w.heap.size, 2, none⟩ = some (.int .i64 b1) ∧
          w'.cell? ⟨w.heap.size + 1, 0, none⟩ = some (.int .i64 r2) ∧ w'.cell? ⟨w.heap.size + 1, 1, none⟩ = some (.int .i64 g2) ∧ w'.cell? ⟨w.heap.size + 1, 2, none⟩ = some (.int .i64 b2) ∧ w'.cell? ⟨w.heap.size + 1 + 1, 0, none⟩ = some (.int .i64 0) ∧ w'.cell? ⟨w.heap.size + 1 + 1 + 1, 0, none⟩ = some (.int .i64 whole))
        (simp [go_sem, World.cell?_alloc_past])
        (first
          | (go_at_call 15; ((with_reducible refine (check_any r1 g1 b1 _).mono ?_); rintro e w1 ⟨rfl, rfl⟩))
          | (go_at_call 15; ((with_reducible refine (check_any r2 g2 b2 _).mono ?_); rintro e w1 ⟨rfl, rfl⟩))
          | (go_at_call 37; ((with_reducible refine (within_yes whole 1 36000000 _ ⟨hw1, hw2⟩).mono ?_); rintro e w' ⟨rfl, rfl⟩))
          | (go_at_call 37; ((with_reducible refine (within_yes 0 0 whole _ ⟨by omega, by omega⟩).mono ?_); rintro e w' ⟨rfl, rfl⟩))
          | (go_at_call 37; ((with_reducible refine (within_B way _ _ _).mono ?_); rintro e w' ⟨rfl, rfl⟩))
          | (go_at_call 43; ((with_reducible refine (when_B _ 4 _).mono ?_); rintro e w' ⟨rfl, rfl⟩))
          | (go_at_call 43; ((with_reducible refine (when_no 1 _).mono ?_); rintro e w' ⟨rfl, rfl⟩))
          | (go_at_call 44; refine (first4c _ (chkC r1 g1 b1) (chkC r2 g2 b2) (whenV (!inB way 1 3) 4) 0 _ (by simp [go_sem]) (by simp [go_sem]) (by simp [go_sem]) (by simp [go_sem])).mono ?_; rintro e w' ⟨rfl, rfl⟩))
      all_goals go_wp2_with fail
      all_goals go_meet
      all_goals exact ⟨by rw [HE.out], rfl⟩
    case rest =>
      obtain ⟨rfl, rfl⟩ := hcut
      by_cases hE : E = 0
      · have hb : (E != 0) = false := by simp [hE]
        have hb2 : decide (E ≠ 0) = false := by simp [hE]
        have HE0 := Lib.hid hE
        clear hE
        go_wp2
        refine bodyPost_ret (v := .tuple #[.agg #[.int .i64 r1, .int .i64 g1, .int .i64 b1], .int .i64 0]) (by simp [results, Try.results25, go_sem, World.cell?_alloc_past]) rfl ⟨rfl, ?_⟩
        repeat' first | exact Below.refl _ _ | apply Below.drew | refine Below.alloc ?_ (by simp <;> omega) _ | (refine Below.store ?_ (by simp <;> omega) _ _)
      · have hb : (E != 0) = true := by simp [hE]
        have hb2 : decide (E ≠ 0) = true := by simp [hE]
        have HE0 := Lib.hid hE
        clear hE
        go_wp2
        refine bodyPost_ret (v := .tuple #[.agg #[.int .i64 0, .int .i64 0, .int .i64 0], .int .i64 E]) (by simp [results, Try.results25, go_sem, World.cell?_alloc_past]) rfl ⟨rfl, ?_⟩
        repeat' first | exact Below.refl _ _ | apply Below.drew | refine Below.alloc ?_ (by simp <;> omega) _ | (refine Below.store ?_ (by simp <;> omega) _ _)
  · have hw' : whole < 1 ∨ 36000000 < whole := by omega
    have HE := Lib.hid (show endF r1 g1 b1 r2 g2 b2 way whole = firstF [chkC r1 g1 b1, chkC r2 g2 b2, whenV (!inB way 1 3) 4, 1] by
      have : inB whole 1 36000000 = false := decide_eq_false hw
      unfold endF; rw [this]; rfl)
    have HN := Lib.hid (show endF r1 g1 b1 r2 g2 b2 way whole ≠ 0 by rw [HE.out]; exact firstF_one _ _ _)
    have HW := Lib.hid hw'
    clear hw hw'
    generalize endF r1 g1 b1 r2 g2 b2 way whole = E at *
    go_enter Try.func25, Try.ntmps25
    go_upto_region 1 with fail
    go_cut [12] (fun s12 wx => s12 = .int .i64 E ∧ wx = btwW w r1 g1 b1 r2 g2 b2 way 0 whole 1)
    case first =>
      refine wp_region_held_drew (S := (fun w' => w'.cell? ⟨w.heap.size, 0, none⟩ = some (.int .i64 r1) ∧ w'.cell? ⟨w.heap.size, 1, none⟩ = some (.int .i64 g1) ∧ w'.cell? ⟨w.heap.size, 2, none⟩ = some (.int .i64 b1) ∧ w'.cell? ⟨w.heap.size + 1, 0, none⟩ = some (.int .i64 r2) ∧ w'.cell? ⟨w.heap.size + 1, 1, none⟩ = some (.int .i64 g2) ∧ w'.cell? ⟨w.heap.size + 1, 2, none⟩ = some (.int .i64 b2) ∧ w'.cell? ⟨w.heap.size + 1 + 1, 0, none⟩ = some (.int .i64 0) ∧ w'.cell? ⟨w.heap.size + 1 + 1 + 1, 0, none⟩ = some (.int .i64 whole))) (by kernel_rfl) (by (try dsimp only); simp [go_sem, World.cell?_alloc_past]) (fun hHeld => ?_)
      refine wpAnyH_take (i := 0) (oi := _) (v := ?_) rfl (by kernel_rfl) (by kernel_rfl) (by kernel_rfl) (fun _ _ _ h => h) (Or.inl ⟨by rfl, ?_⟩) (by assumption) ?_
      rotate_left
      · (intro w hSw; (try dsimp only at hSw); go_simp <;> with_reducible rfl)
      try simp only [Act.put, List.setIfInBounds_toArray, List.set_cons_zero, List.set_cons_succ]
      refine wpAnyH_take (i := 2) (oi := _) (v := ?_) rfl (by kernel_rfl) (by kernel_rfl) (by kernel_rfl) (fun _ _ _ h => h) (Or.inl ⟨by rfl, ?_⟩) (by assumption) ?_
      rotate_left
      · (intro w hSw; (try dsimp only at hSw); go_simp <;> with_reducible rfl)
      try simp only [Act.put, List.setIfInBounds_toArray, List.set_cons_zero, List.set_cons_succ]
      refine wpAnyH_take (i := 4) (oi := _) (v := ?_) rfl (by kernel_rfl) (by kernel_rfl) (by kernel_rfl) (fun _ _ _ h => h) (Or.inl ⟨by rfl, ?_⟩) (by assumption) ?_
      rotate_left
      · (intro w hSw; (try dsimp only at hSw); go_simp <;> with_reducible rfl)
      try simp only [Act.put, List.setIfInBounds_toArray, List.set_cons_zero, List.set_cons_succ]
      refine wpAnyH_take (i := 8) (oi := _) (v := ?_) rfl (by kernel_rfl) (by kernel_rfl) (by kernel_rfl) (fun _ _ _ h => h) (Or.inl ⟨by rfl, ?_⟩) (by assumption) ?_
      rotate_left
      · (intro w hSw; (try dsimp only at hSw); go_simp <;> with_reducible rfl)
      try simp only [Act.put, List.setIfInBounds_toArray, List.set_cons_zero, List.set_cons_succ]
      refine wpAnyH_ready (rs := [1]) (by kernel_rfl) (by simp) (AllReadyH.cons rfl (fun K hK => ?_) AllReadyH.nil)
      go_simp
      (go_at_call 15; ((with_reducible refine (check_any r1 g1 b1 _).mono ?_); rintro e w' ⟨rfl, rfl⟩))
      (try go_wp2_with fail)
      refine hK.out _ _ (by (try dsimp only); simp [go_sem, World.cell?_alloc_past]) (fun hHeld => ?_)
      clear hK K
      try simp only [Act.put, List.setIfInBounds_toArray, List.set_cons_zero, List.set_cons_succ]
      refine wpAnyH_ready (rs := [3]) (by kernel_rfl) (by simp) (AllReadyH.cons rfl (fun K hK => ?_) AllReadyH.nil)
      go_simp
      (go_at_call 15; ((with_reducible refine (check_any r2 g2 b2 _).mono ?_); rintro e w' ⟨rfl, rfl⟩))
      (try go_wp2_with fail)
      refine hK.out _ _ (by (try dsimp only); simp [go_sem, World.cell?_alloc_past]) (fun hHeld => ?_)
      clear hK K
      try simp only [Act.put, List.setIfInBounds_toArray, List.set_cons_zero, List.set_cons_succ]
      refine wpAnyH_ready (rs := [5]) (by kernel_rfl) (by simp) (AllReadyH.cons rfl (fun K hK => ?_) AllReadyH.nil)
      go_simp
      (go_at_call 37; ((with_reducible refine (within_B way _ _ _).mono ?_); rintro e w' ⟨rfl, rfl⟩))
      (try go_wp2_with fail)
      refine hK.out _ _ (by (try dsimp only); simp [go_sem, World.cell?_alloc_past]) (fun hHeld => ?_)
      clear hK K
      try simp only [Act.put, List.setIfInBounds_toArray, List.set_cons_zero, List.set_cons_succ]
      refine wpAnyH_take (i := 6) (oi := _) (v := ?_) rfl (by kernel_rfl) (by kernel_rfl) (by kernel_rfl) (fun _ _ _ h => h) (Or.inl ⟨by rfl, ?_⟩) (by assumption) ?_
      rotate_left
      · (intro w hSw; (try dsimp only at hSw); go_simp <;> with_reducible rfl)
      try simp only [Act.put, List.setIfInBounds_toArray, List.set_cons_zero, List.set_cons_succ]
      refine wpAnyH_ready (rs := [7]) (by kernel_rfl) (by simp) (AllReadyH.cons rfl (fun K hK => ?_) AllReadyH.nil)
      go_simp
      (go_at_call 43; ((with_reducible refine (when_B _ 4 _).mono ?_); rintro e w' ⟨rfl, rfl⟩))
      (try go_wp2_with fail)
      refine hK.out _ _ (by (try dsimp only); simp [go_sem, World.cell?_alloc_past]) (fun hHeld => ?_)
      clear hK K
      try simp only [Act.put, List.setIfInBounds_toArray, List.set_cons_zero, List.set_cons_succ]
      refine wpAnyH_ready (rs := [9]) (by kernel_rfl) (by simp) (AllReadyH.cons rfl (fun K hK => ?_) AllReadyH.nil)
      go_simp
      (go_at_call 37; ((with_reducible refine (within_no whole 1 36000000 _ HW.out).mono ?_); rintro e w' ⟨rfl, rfl⟩))
      (try go_wp2_with fail)
      refine hK.out _ _ (by (try dsimp only); simp [go_sem, World.cell?_alloc_past]) (fun hHeld => ?_)
      clear hK K
      try simp only [Act.put, List.setIfInBounds_toArray, List.set_cons_zero, List.set_cons_succ]
      refine wpAnyH_take (i := 10) (oi := _) (v := ?_) rfl (by kernel_rfl) (by kernel_rfl) (by kernel_rfl) (fun _ _ _ h => h) (Or.inl ⟨by rfl, ?_⟩) (by assumption) ?_
      rotate_left
      · (intro w hSw; (try dsimp only at hSw); go_simp <;> with_reducible rfl)
      try simp only [Act.put, List.setIfInBounds_toArray, List.set_cons_zero, List.set_cons_succ]
      refine wpAnyH_take (i := 11) (oi := _) (v := ?_) rfl (by kernel_rfl) (by kernel_rfl) (by kernel_rfl) (fun _ _ _ h => h) (Or.inl ⟨by rfl, ?_⟩) (by assumption) ?_
      rotate_left
      · (intro w hSw; (try dsimp only at hSw); go_simp <;> with_reducible rfl)
      try simp only [Act.put, List.setIfInBounds_toArray, List.set_cons_zero, List.set_cons_succ]
      refine wpAnyH_take (i := 12) (oi := _) (v := undef) rfl (by kernel_rfl) (by kernel_rfl) (by kernel_rfl) (fun _ _ _ h => h) (Or.inr ⟨by rfl, rfl⟩) (by assumption) ?_
      try simp only [Act.put, List.setIfInBounds_toArray, List.set_cons_zero, List.set_cons_succ]
      refine wpAnyH_take (i := 13) (oi := _) (v := undef) rfl (by kernel_rfl) (by kernel_rfl) (by kernel_rfl) (fun _ _ _ h => h) (Or.inr ⟨by rfl, rfl⟩) (by assumption) ?_
      try simp only [Act.put, List.setIfInBounds_toArray, List.set_cons_zero, List.set_cons_succ]
      refine wpAnyH_take (i := 14) (oi := _) (v := undef) rfl (by kernel_rfl) (by kernel_rfl) (by kernel_rfl) (fun _ _ _ h => h) (Or.inr ⟨by rfl, rfl⟩) (by assumption) ?_
      try simp only [Act.put, List.setIfInBounds_toArray, List.set_cons_zero, List.set_cons_succ]
      refine wpAnyH_take (i := 15) (oi := _) (v := undef) rfl (by kernel_rfl) (by kernel_rfl) (by kernel_rfl) (fun _ _ _ h => h) (Or.inr ⟨by rfl, rfl⟩) (by assumption) ?_
      try simp only [Act.put, List.setIfInBounds_toArray, List.set_cons_zero, List.set_cons_succ]
      refine wpAnyH_take (i := 16) (oi := _) (v := ?_) rfl (by kernel_rfl) (by kernel_rfl) (by kernel_rfl) (fun _ _ _ h => h) (Or.inl ⟨by rfl, ?_⟩) (by assumption) ?_
      rotate_left
      · (intro w hSw; (try dsimp only at hSw); go_simp <;> with_reducible rfl)
      try simp only [Act.put, List.setIfInBounds_toArray, List.set_cons_zero, List.set_cons_succ]
      refine wpAnyH_ready (rs := [17]) (by kernel_rfl) (by simp) (AllReadyH.cons rfl (fun K hK => ?_) AllReadyH.nil)
      go_simp
      (go_at_call 43; ((with_reducible refine (when_yes 1 _).mono ?_); rintro e w' ⟨rfl, rfl⟩))
      (try go_wp2_with fail)
      refine hK.out _ _ (by (try dsimp only); simp [go_sem, World.cell?_alloc_past]) (fun hHeld => ?_)
      clear hK K
      try simp only [Act.put, List.setIfInBounds_toArray, List.set_cons_zero, List.set_cons_succ]
      refine wpAnyH_ready (rs := [18]) (by kernel_rfl) (by simp) (AllReadyH.cons rfl (fun K hK => ?_) AllReadyH.nil)
      go_simp
      (try go_wp2_with fail)
      refine hK.out _ _ (by (try dsimp only); simp [go_sem, World.cell?_alloc_past]) (fun hHeld => ?_)
      clear hK K
      try simp only [Act.put, List.setIfInBounds_toArray, List.set_cons_zero, List.set_cons_succ]
      refine wpAnyH_ready (rs := [19]) (by kernel_rfl) (by simp) (AllReadyH.cons rfl (fun K hK => ?_) AllReadyH.nil)
      go_simp
      (go_at_call 44; (refine (first4c _ (chkC r1 g1 b1) (chkC r2 g2 b2) (whenV (!inB way 1 3) 4) 1 _ (by simp [go_sem]) (by simp [go_sem]) (by simp [go_sem]) (by simp [go_sem])).mono ?_; rintro e w' ⟨rfl, rfl⟩))
      (try go_wp2_with fail)
      refine hK.out _ _ (by (try dsimp only); simp [go_sem, World.cell?_alloc_past]) (fun hHeld => ?_)
      clear hK K
      try simp only [Act.put, List.setIfInBounds_toArray, List.set_cons_zero, List.set_cons_succ]
      refine wpAnyH_ready (rs := [20]) (by kernel_rfl) (by simp) (AllReadyH.cons rfl (fun K hK => ?_) AllReadyH.nil)
      go_simp
      (try go_wp2_with fail)
      refine hK.out _ _ (by (try dsimp only); simp [go_sem, World.cell?_alloc_past]) (fun hHeld => ?_)
      clear hK K
      try simp only [Act.put, List.setIfInBounds_toArray, List.set_cons_zero, List.set_cons_succ]
      refine wpAnyH_done (by kernel_rfl) ?_ _
      all_goals go_wp2_with fail
      all_goals go_meet
      all_goals exact ⟨by rw [HE.out], rfl⟩
    case rest =>
      obtain ⟨rfl, rfl⟩ := hcut
      have hb : (E != 0) = true := by simp [HN.out]
      have hb2 : decide (E ≠ 0) = true := by simp [HN.out]
      go_wp2
      refine bodyPost_ret (v := .tuple #[.agg #[.int .i64 0, .int .i64 0, .int .i64 0], .int .i64 E]) (by simp [results, Try.results25, go_sem, World.cell?_alloc_past]) rfl ⟨rfl, ?_⟩
      repeat' first | exact Below.refl _ _ | apply Below.drew | refine Below.alloc ?_ (by simp <;> omega) _ | (refine Below.store ?_ (by simp <;> omega) _ _)

set_option maxRecDepth 100000 in
set_option maxHeartbeats 4000000 in
theorem between_end (r1 g1 b1 r2 g2 b2 way whole : Int) (w : World) :
    Calls Try.prog 25 #[.agg #[.int .i64 r1, .int .i64 g1, .int .i64 b1], .agg #[.int .i64 r2, .int .i64 g2, .int .i64 b2], .int .i64 way, .int .i64 whole, .int .i64 whole] w fun e w' =>
      e = .returned (.tuple #[(if endF r1 g1 b1 r2 g2 b2 way whole = 0 then .agg #[.int .i64 r2, .int .i64 g2, .int .i64 b2] else .agg #[.int .i64 0, .int .i64 0, .int .i64 0]), .int .i64 (endF r1 g1 b1 r2 g2 b2 way whole)]) ∧ Below w.heap.size w w' := by
  by_cases hw : 1 ≤ whole ∧ whole ≤ 36000000
  · obtain ⟨hw1, hw2⟩ := hw
    have HE := Lib.hid (show endF r1 g1 b1 r2 g2 b2 way whole = firstF [chkC r1 g1 b1, chkC r2 g2 b2, whenV (!inB way 1 3) 4, 0] by
      have : inB whole 1 36000000 = true := decide_eq_true ⟨hw1, hw2⟩
      unfold endF; rw [this]; rfl)
    generalize endF r1 g1 b1 r2 g2 b2 way whole = E at *
    have hz : decide (whole = 0) = false := by simp; omega
    have hz2 : (whole == 0) = false := by simp; omega
    go_enter Try.func25, Try.ntmps25
    go_upto_region 1 with fail
    go_cut [12] (fun s12 wx => s12 = .int .i64 E ∧ wx = btwW w r1 g1 b1 r2 g2 b2 way whole whole 0)
    case first =>
      go_region_held3 (fun w' => w'.cell? ⟨w.heap.size, 0, none⟩ = some (.int .i64 r1) ∧ w'.cell? ⟨w.heap.size, 1, none⟩ = some (.int .i64 g1) ∧ w'.cell? ⟨w.heap.size, 2, none⟩ = some (.int .i64 b1) ∧
          w'.cell? ⟨w.heap.size + 1, 0, none⟩ = some (.int .i64 r2) ∧ w'.cell? ⟨w.heap.size + 1, 1, none⟩ = some (.int .i64 g2) ∧ w'.cell? ⟨w.heap.size + 1, 2, none⟩ = some (.int .i64 b2) ∧ w'.cell? ⟨w.heap.size + 1 + 1, 0, none⟩ = some (.int .i64 whole) ∧ w'.cell? ⟨w.heap.size + 1 + 1 + 1, 0, none⟩ = some (.int .i64 whole))
        (simp [go_sem, World.cell?_alloc_past])
        (first
          | (go_at_call 15; ((with_reducible refine (check_any r1 g1 b1 _).mono ?_); rintro e w1 ⟨rfl, rfl⟩))
          | (go_at_call 15; ((with_reducible refine (check_any r2 g2 b2 _).mono ?_); rintro e w1 ⟨rfl, rfl⟩))
          | (go_at_call 37; ((with_reducible refine (within_yes whole 1 36000000 _ ⟨hw1, hw2⟩).mono ?_); rintro e w' ⟨rfl, rfl⟩))
          | (go_at_call 37; ((with_reducible refine (within_yes whole 0 whole _ ⟨by omega, by omega⟩).mono ?_); rintro e w' ⟨rfl, rfl⟩))
          | (go_at_call 37; ((with_reducible refine (within_B way _ _ _).mono ?_); rintro e w' ⟨rfl, rfl⟩))
          | (go_at_call 43; ((with_reducible refine (when_B _ 4 _).mono ?_); rintro e w' ⟨rfl, rfl⟩))
          | (go_at_call 43; ((with_reducible refine (when_no 1 _).mono ?_); rintro e w' ⟨rfl, rfl⟩))
          | (go_at_call 44; refine (first4c _ (chkC r1 g1 b1) (chkC r2 g2 b2) (whenV (!inB way 1 3) 4) 0 _ (by simp [go_sem]) (by simp [go_sem]) (by simp [go_sem]) (by simp [go_sem])).mono ?_; rintro e w' ⟨rfl, rfl⟩))
      all_goals go_wp2_with fail
      all_goals go_meet
      all_goals exact ⟨by rw [HE.out], rfl⟩
    case rest =>
      obtain ⟨rfl, rfl⟩ := hcut
      by_cases hE : E = 0
      · have hb : (E != 0) = false := by simp [hE]
        have hb2 : decide (E ≠ 0) = false := by simp [hE]
        have HE0 := Lib.hid hE
        clear hE
        go_wp2
        refine bodyPost_ret (v := .tuple #[.agg #[.int .i64 r2, .int .i64 g2, .int .i64 b2], .int .i64 0]) (by simp [results, Try.results25, go_sem, World.cell?_alloc_past]) rfl ⟨rfl, ?_⟩
        repeat' first | exact Below.refl _ _ | apply Below.drew | refine Below.alloc ?_ (by simp <;> omega) _ | (refine Below.store ?_ (by simp <;> omega) _ _)
      · have hb : (E != 0) = true := by simp [hE]
        have hb2 : decide (E ≠ 0) = true := by simp [hE]
        have HE0 := Lib.hid hE
        clear hE
        go_wp2
        refine bodyPost_ret (v := .tuple #[.agg #[.int .i64 0, .int .i64 0, .int .i64 0], .int .i64 E]) (by simp [results, Try.results25, go_sem, World.cell?_alloc_past]) rfl ⟨rfl, ?_⟩
        repeat' first | exact Below.refl _ _ | apply Below.drew | refine Below.alloc ?_ (by simp <;> omega) _ | (refine Below.store ?_ (by simp <;> omega) _ _)
  · have hw' : whole < 1 ∨ 36000000 < whole := by omega
    have HE := Lib.hid (show endF r1 g1 b1 r2 g2 b2 way whole = firstF [chkC r1 g1 b1, chkC r2 g2 b2, whenV (!inB way 1 3) 4, 1] by
      have : inB whole 1 36000000 = false := decide_eq_false hw
      unfold endF; rw [this]; rfl)
    have HN := Lib.hid (show endF r1 g1 b1 r2 g2 b2 way whole ≠ 0 by rw [HE.out]; exact firstF_one _ _ _)
    have HW := Lib.hid hw'
    clear hw hw'
    generalize endF r1 g1 b1 r2 g2 b2 way whole = E at *
    go_enter Try.func25, Try.ntmps25
    go_upto_region 1 with fail
    go_cut [12] (fun s12 wx => s12 = .int .i64 E ∧ wx = btwW w r1 g1 b1 r2 g2 b2 way whole whole 1)
    case first =>
      refine wp_region_held_drew (S := (fun w' => w'.cell? ⟨w.heap.size, 0, none⟩ = some (.int .i64 r1) ∧ w'.cell? ⟨w.heap.size, 1, none⟩ = some (.int .i64 g1) ∧ w'.cell? ⟨w.heap.size, 2, none⟩ = some (.int .i64 b1) ∧ w'.cell? ⟨w.heap.size + 1, 0, none⟩ = some (.int .i64 r2) ∧ w'.cell? ⟨w.heap.size + 1, 1, none⟩ = some (.int .i64 g2) ∧ w'.cell? ⟨w.heap.size + 1, 2, none⟩ = some (.int .i64 b2) ∧ w'.cell? ⟨w.heap.size + 1 + 1, 0, none⟩ = some (.int .i64 whole) ∧ w'.cell? ⟨w.heap.size + 1 + 1 + 1, 0, none⟩ = some (.int .i64 whole))) (by kernel_rfl) (by (try dsimp only); simp [go_sem, World.cell?_alloc_past]) (fun hHeld => ?_)
      refine wpAnyH_take (i := 0) (oi := _) (v := ?_) rfl (by kernel_rfl) (by kernel_rfl) (by kernel_rfl) (fun _ _ _ h => h) (Or.inl ⟨by rfl, ?_⟩) (by assumption) ?_
      rotate_left
      · (intro w hSw; (try dsimp only at hSw); go_simp <;> with_reducible rfl)
      try simp only [Act.put, List.setIfInBounds_toArray, List.set_cons_zero, List.set_cons_succ]
      refine wpAnyH_take (i := 2) (oi := _) (v := ?_) rfl (by kernel_rfl) (by kernel_rfl) (by kernel_rfl) (fun _ _ _ h => h) (Or.inl ⟨by rfl, ?_⟩) (by assumption) ?_
      rotate_left
      · (intro w hSw; (try dsimp only at hSw); go_simp <;> with_reducible rfl)
      try simp only [Act.put, List.setIfInBounds_toArray, List.set_cons_zero, List.set_cons_succ]
      refine wpAnyH_take (i := 4) (oi := _) (v := ?_) rfl (by kernel_rfl) (by kernel_rfl) (by kernel_rfl) (fun _ _ _ h => h) (Or.inl ⟨by rfl, ?_⟩) (by assumption) ?_
      rotate_left
      · (intro w hSw; (try dsimp only at hSw); go_simp <;> with_reducible rfl)
      try simp only [Act.put, List.setIfInBounds_toArray, List.set_cons_zero, List.set_cons_succ]
      refine wpAnyH_take (i := 8) (oi := _) (v := ?_) rfl (by kernel_rfl) (by kernel_rfl) (by kernel_rfl) (fun _ _ _ h => h) (Or.inl ⟨by rfl, ?_⟩) (by assumption) ?_
      rotate_left
      · (intro w hSw; (try dsimp only at hSw); go_simp <;> with_reducible rfl)
      try simp only [Act.put, List.setIfInBounds_toArray, List.set_cons_zero, List.set_cons_succ]
      refine wpAnyH_ready (rs := [1]) (by kernel_rfl) (by simp) (AllReadyH.cons rfl (fun K hK => ?_) AllReadyH.nil)
      go_simp
      (go_at_call 15; ((with_reducible refine (check_any r1 g1 b1 _).mono ?_); rintro e w' ⟨rfl, rfl⟩))
      (try go_wp2_with fail)
      refine hK.out _ _ (by (try dsimp only); simp [go_sem, World.cell?_alloc_past]) (fun hHeld => ?_)
      clear hK K
      try simp only [Act.put, List.setIfInBounds_toArray, List.set_cons_zero, List.set_cons_succ]
      refine wpAnyH_ready (rs := [3]) (by kernel_rfl) (by simp) (AllReadyH.cons rfl (fun K hK => ?_) AllReadyH.nil)
      go_simp
      (go_at_call 15; ((with_reducible refine (check_any r2 g2 b2 _).mono ?_); rintro e w' ⟨rfl, rfl⟩))
      (try go_wp2_with fail)
      refine hK.out _ _ (by (try dsimp only); simp [go_sem, World.cell?_alloc_past]) (fun hHeld => ?_)
      clear hK K
      try simp only [Act.put, List.setIfInBounds_toArray, List.set_cons_zero, List.set_cons_succ]
      refine wpAnyH_ready (rs := [5]) (by kernel_rfl) (by simp) (AllReadyH.cons rfl (fun K hK => ?_) AllReadyH.nil)
      go_simp
      (go_at_call 37; ((with_reducible refine (within_B way _ _ _).mono ?_); rintro e w' ⟨rfl, rfl⟩))
      (try go_wp2_with fail)
      refine hK.out _ _ (by (try dsimp only); simp [go_sem, World.cell?_alloc_past]) (fun hHeld => ?_)
      clear hK K
      try simp only [Act.put, List.setIfInBounds_toArray, List.set_cons_zero, List.set_cons_succ]
      refine wpAnyH_take (i := 6) (oi := _) (v := ?_) rfl (by kernel_rfl) (by kernel_rfl) (by kernel_rfl) (fun _ _ _ h => h) (Or.inl ⟨by rfl, ?_⟩) (by assumption) ?_
      rotate_left
      · (intro w hSw; (try dsimp only at hSw); go_simp <;> with_reducible rfl)
      try simp only [Act.put, List.setIfInBounds_toArray, List.set_cons_zero, List.set_cons_succ]
      refine wpAnyH_ready (rs := [7]) (by kernel_rfl) (by simp) (AllReadyH.cons rfl (fun K hK => ?_) AllReadyH.nil)
      go_simp
      (go_at_call 43; ((with_reducible refine (when_B _ 4 _).mono ?_); rintro e w' ⟨rfl, rfl⟩))
      (try go_wp2_with fail)
      refine hK.out _ _ (by (try dsimp only); simp [go_sem, World.cell?_alloc_past]) (fun hHeld => ?_)
      clear hK K
      try simp only [Act.put, List.setIfInBounds_toArray, List.set_cons_zero, List.set_cons_succ]
      refine wpAnyH_ready (rs := [9]) (by kernel_rfl) (by simp) (AllReadyH.cons rfl (fun K hK => ?_) AllReadyH.nil)
      go_simp
      (go_at_call 37; ((with_reducible refine (within_no whole 1 36000000 _ HW.out).mono ?_); rintro e w' ⟨rfl, rfl⟩))
      (try go_wp2_with fail)
      refine hK.out _ _ (by (try dsimp only); simp [go_sem, World.cell?_alloc_past]) (fun hHeld => ?_)
      clear hK K
      try simp only [Act.put, List.setIfInBounds_toArray, List.set_cons_zero, List.set_cons_succ]
      refine wpAnyH_take (i := 10) (oi := _) (v := ?_) rfl (by kernel_rfl) (by kernel_rfl) (by kernel_rfl) (fun _ _ _ h => h) (Or.inl ⟨by rfl, ?_⟩) (by assumption) ?_
      rotate_left
      · (intro w hSw; (try dsimp only at hSw); go_simp <;> with_reducible rfl)
      try simp only [Act.put, List.setIfInBounds_toArray, List.set_cons_zero, List.set_cons_succ]
      refine wpAnyH_take (i := 11) (oi := _) (v := ?_) rfl (by kernel_rfl) (by kernel_rfl) (by kernel_rfl) (fun _ _ _ h => h) (Or.inl ⟨by rfl, ?_⟩) (by assumption) ?_
      rotate_left
      · (intro w hSw; (try dsimp only at hSw); go_simp <;> with_reducible rfl)
      try simp only [Act.put, List.setIfInBounds_toArray, List.set_cons_zero, List.set_cons_succ]
      refine wpAnyH_take (i := 12) (oi := _) (v := undef) rfl (by kernel_rfl) (by kernel_rfl) (by kernel_rfl) (fun _ _ _ h => h) (Or.inr ⟨by rfl, rfl⟩) (by assumption) ?_
      try simp only [Act.put, List.setIfInBounds_toArray, List.set_cons_zero, List.set_cons_succ]
      refine wpAnyH_take (i := 13) (oi := _) (v := undef) rfl (by kernel_rfl) (by kernel_rfl) (by kernel_rfl) (fun _ _ _ h => h) (Or.inr ⟨by rfl, rfl⟩) (by assumption) ?_
      try simp only [Act.put, List.setIfInBounds_toArray, List.set_cons_zero, List.set_cons_succ]
      refine wpAnyH_take (i := 14) (oi := _) (v := undef) rfl (by kernel_rfl) (by kernel_rfl) (by kernel_rfl) (fun _ _ _ h => h) (Or.inr ⟨by rfl, rfl⟩) (by assumption) ?_
      try simp only [Act.put, List.setIfInBounds_toArray, List.set_cons_zero, List.set_cons_succ]
      refine wpAnyH_take (i := 15) (oi := _) (v := undef) rfl (by kernel_rfl) (by kernel_rfl) (by kernel_rfl) (fun _ _ _ h => h) (Or.inr ⟨by rfl, rfl⟩) (by assumption) ?_
      try simp only [Act.put, List.setIfInBounds_toArray, List.set_cons_zero, List.set_cons_succ]
      refine wpAnyH_take (i := 16) (oi := _) (v := ?_) rfl (by kernel_rfl) (by kernel_rfl) (by kernel_rfl) (fun _ _ _ h => h) (Or.inl ⟨by rfl, ?_⟩) (by assumption) ?_
      rotate_left
      · (intro w hSw; (try dsimp only at hSw); go_simp <;> with_reducible rfl)
      try simp only [Act.put, List.setIfInBounds_toArray, List.set_cons_zero, List.set_cons_succ]
      refine wpAnyH_ready (rs := [17]) (by kernel_rfl) (by simp) (AllReadyH.cons rfl (fun K hK => ?_) AllReadyH.nil)
      go_simp
      (go_at_call 43; ((with_reducible refine (when_yes 1 _).mono ?_); rintro e w' ⟨rfl, rfl⟩))
      (try go_wp2_with fail)
      refine hK.out _ _ (by (try dsimp only); simp [go_sem, World.cell?_alloc_past]) (fun hHeld => ?_)
      clear hK K
      try simp only [Act.put, List.setIfInBounds_toArray, List.set_cons_zero, List.set_cons_succ]
      refine wpAnyH_ready (rs := [18]) (by kernel_rfl) (by simp) (AllReadyH.cons rfl (fun K hK => ?_) AllReadyH.nil)
      go_simp
      (try go_wp2_with fail)
      refine hK.out _ _ (by (try dsimp only); simp [go_sem, World.cell?_alloc_past]) (fun hHeld => ?_)
      clear hK K
      try simp only [Act.put, List.setIfInBounds_toArray, List.set_cons_zero, List.set_cons_succ]
      refine wpAnyH_ready (rs := [19]) (by kernel_rfl) (by simp) (AllReadyH.cons rfl (fun K hK => ?_) AllReadyH.nil)
      go_simp
      (go_at_call 44; (refine (first4c _ (chkC r1 g1 b1) (chkC r2 g2 b2) (whenV (!inB way 1 3) 4) 1 _ (by simp [go_sem]) (by simp [go_sem]) (by simp [go_sem]) (by simp [go_sem])).mono ?_; rintro e w' ⟨rfl, rfl⟩))
      (try go_wp2_with fail)
      refine hK.out _ _ (by (try dsimp only); simp [go_sem, World.cell?_alloc_past]) (fun hHeld => ?_)
      clear hK K
      try simp only [Act.put, List.setIfInBounds_toArray, List.set_cons_zero, List.set_cons_succ]
      refine wpAnyH_ready (rs := [20]) (by kernel_rfl) (by simp) (AllReadyH.cons rfl (fun K hK => ?_) AllReadyH.nil)
      go_simp
      (try go_wp2_with fail)
      refine hK.out _ _ (by (try dsimp only); simp [go_sem, World.cell?_alloc_past]) (fun hHeld => ?_)
      clear hK K
      try simp only [Act.put, List.setIfInBounds_toArray, List.set_cons_zero, List.set_cons_succ]
      refine wpAnyH_done (by kernel_rfl) ?_ _
      all_goals go_wp2_with fail
      all_goals go_meet
      all_goals exact ⟨by rw [HE.out], rfl⟩
    case rest =>
      obtain ⟨rfl, rfl⟩ := hcut
      have hb : (E != 0) = true := by simp [HN.out]
      have hb2 : decide (E ≠ 0) = true := by simp [HN.out]
      go_wp2
      refine bodyPost_ret (v := .tuple #[.agg #[.int .i64 0, .int .i64 0, .int .i64 0], .int .i64 E]) (by simp [results, Try.results25, go_sem, World.cell?_alloc_past]) rfl ⟨rfl, ?_⟩
      repeat' first | exact Below.refl _ _ | apply Below.drew | refine Below.alloc ?_ (by simp <;> omega) _ | (refine Below.store ?_ (by simp <;> omega) _ _)

end Go.Proofs.Yteelomjknllcbaa
