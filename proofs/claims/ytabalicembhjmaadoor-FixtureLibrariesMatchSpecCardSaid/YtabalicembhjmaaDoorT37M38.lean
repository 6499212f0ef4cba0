/- The reference's paramText. (printed by wip/gen/gen_partext.py) -/
import Derived.Test.YtabalicembhjmaaDoorT37M30
import Derived.Test.YtabalicembhjmaaDoorT37M37
import Derived.Deep.RegionHeld3
import Derived.Deep.DeepCutAuto

namespace Go.Proofs.YtabalicembhjmaaDoor
open Go.RowKit
set_option linter.unusedVariables false
set_option linter.unusedSimpArgs false

set_option maxRecDepth 100000 in
set_option maxHeartbeats 16000000 in
theorem rparText_any (x : Par) (rv : Value) (w : World) (hT : TextW w) (h : RngS w.heap.size w rv x.rngs) (hk : ParOk x) :
    Calls Tryd.prog 29 #[.agg #[.string x.name, .int .i64 x.grp, .int .i64 x.sl, .int .i64 x.fine, .int .i64 x.dflt, .bool x.snap, rv]] w fun e w' => e = .returned (.string (parT x)) ∧ Below w.heap.size w w' := by
  have HG := Lib.hid (RngS.get h)
  have hlm := CellsS.len h
  obtain ⟨ro, rcap, rfl⟩ := rngS_shape h
  have HF0 := Lib.hid (show parHd x = ((((((⟨#[32, 32]⟩ : ByteArray) ++ grpT x.grp) ++ (⟨#[32]⟩ : ByteArray)) ++ x.name) ++ (⟨#[32, 97, 116, 32]⟩ : ByteArray)) ++ itT x.sl) from rfl)
  have HXE := Lib.hid (show parT x = rngA (nlA (snapA x (dfltA x (fineA x (parHd x))))) x.rngs from rfl)
  have HT := Lib.hid hT
  have hn0 := parHd_le hk
  have hn1 := fineA_le hk (parHd x)
  have hn2 := dfltA_le hk (fineA x (parHd x))
  have hn3 := snapA_le x (dfltA x (fineA x (parHd x)))
  have hn4 := nlA_le (snapA x (dfltA x (fineA x (parHd x))))
  have HYF := Lib.hid (show fineA x (parHd x) = if 0 < x.fine then parHd x ++ ((⟨#[32, 102, 105, 110, 101, 32]⟩ : ByteArray) ++ itT x.fine) else parHd x from rfl)
  have HYD := Lib.hid (show dfltA x (fineA x (parHd x)) = if 0 < x.dflt then fineA x (parHd x) ++ ((⟨#[32, 100, 101, 102, 97, 117, 108, 116, 32]⟩ : ByteArray) ++ showT x.dflt) else fineA x (parHd x) from rfl)
  have HYS := Lib.hid (show snapA x (dfltA x (fineA x (parHd x))) = if x.snap = true then dfltA x (fineA x (parHd x)) ++ (⟨#[32, 115, 110, 97, 112]⟩ : ByteArray) else dfltA x (fineA x (parHd x)) from rfl)
  have HYN := Lib.hid (show nlA (snapA x (dfltA x (fineA x (parHd x)))) = snapA x (dfltA x (fineA x (parHd x))) ++ (⟨#[10]⟩ : ByteArray) from rfl)
  generalize hX4 : nlA (snapA x (dfltA x (fineA x (parHd x)))) = X4 at *
  clear hX4
  generalize hX3 : snapA x (dfltA x (fineA x (parHd x))) = X3 at *
  clear hX3
  generalize hX2 : dfltA x (fineA x (parHd x)) = X2 at *
  clear hX2
  generalize hX1 : fineA x (parHd x) = X1 at *
  clear hX1
  generalize hX0 : parHd x = X0 at *
  clear hX0
  obtain ⟨p1, p2, p3, p4, p5, p6, p7⟩ := hk
  have HP7 := Lib.hid p7
  generalize parT x = RES at *
  obtain ⟨xn, xg, xs, xf, xd, xb, rngs⟩ := x
  simp only at *
  obtain ⟨g, rfl⟩ : ∃ g : Nat, xg = (g : Int) := ⟨xg.toNat, by omega⟩
  have g1 : 1 ≤ g := by omega
  have g4 : g ≤ 4 := by omega
  have HTK := Lib.hid (rngA_take X4 rngs)
  have HLE := Lib.hid (rngA_le X4 rngs HP7.out)
  have hgt := grpT_le (g : Int)
  have hit1 := itT_le xs (by omega) (by omega)
  have hit2 := itT_le xf (by omega) (by omega)
  have hst := showT_le xd p4.1 p4.2
  unfold maxLen at hlm
  clear h hT p7
  have KC := Lib.hid (show ∀ W, Below (w.heap.size + 1) (w.alloc (.cells #[.string xn, .int .i64 (g : Int), .int .i64 xs, .int .i64 xf, .int .i64 xd, .bool xb, .slice ro rngs.length rcap] 46)) W → (Below w.heap.size w W ∧ TextW W ∧ w.heap.size < W.heap.size) ∧ (W.cell? ⟨w.heap.size, 0, none⟩ = some (.string xn) ∧ W.cell? ⟨w.heap.size, 1, none⟩ = some (.int .i64 (g : Int)) ∧ W.cell? ⟨w.heap.size, 2, none⟩ = some (.int .i64 xs) ∧ W.cell? ⟨w.heap.size, 3, none⟩ = some (.int .i64 xf) ∧ W.cell? ⟨w.heap.size, 4, none⟩ = some (.int .i64 xd) ∧ W.cell? ⟨w.heap.size, 5, none⟩ = some (.bool xb) ∧ W.cell? ⟨w.heap.size, 6, none⟩ = some (.slice ro rngs.length rcap)) from by
    intro W hW
    have h1 : TBox W w.heap.size 46 #[.string xn, .int .i64 (g : Int), .int .i64 xs, .int .i64 xf, .int .i64 xd, .bool xb, .slice ro rngs.length rcap] := (hW.block w.heap.size (by omega)).trans (TBox.new w _ _)
    have h2 : Below w.heap.size w W := ((Below.refl _ _).alloc (Nat.le_refl _) _).trans (hW.mono (by omega))
    have h3 := hW.size
    simp only [World.size_alloc] at h3
    exact ⟨⟨h2, HT.out.below h2, by omega⟩, h1.cell rfl, h1.cell rfl, h1.cell rfl, h1.cell rfl, h1.cell rfl, h1.cell rfl, h1.cell rfl⟩)
  have KM := Lib.hid (show ∀ W W', Below (w.heap.size + 1) (w.alloc (.cells #[.string xn, .int .i64 (g : Int), .int .i64 xs, .int .i64 xf, .int .i64 xd, .bool xb, .slice ro rngs.length rcap] 46)) W → Below W.heap.size W W' → Below (w.heap.size + 1) (w.alloc (.cells #[.string xn, .int .i64 (g : Int), .int .i64 xs, .int .i64 xf, .int .i64 xd, .bool xb, .slice ro rngs.length rcap] 46)) W' from fun W W' h1 h2 => h1.trans (h2.mono (by have := h1.size; simp only [World.size_alloc] at this; omega)))
  have CG := Lib.hid (show ∀ W, Calls Tryd.prog 55 #[] W fun e w' => ∃ gb, e = .returned (.slice (some ⟨gb, 0, none⟩) 5 5) ∧ Below W.heap.size W w' ∧ w'.cell? ⟨gb, g, none⟩ = some (.string (grpT (g : Int))) ∧ gb < w'.heap.size from fun W => (groups_any W).mono fun e w' h => ⟨_, h.1, h.2.1, h.2.2.1 g g1 g4, h.2.2.2⟩)
  have C1 := Lib.hid (fun W (hW : Below (w.heap.size + 1) (w.alloc (.cells #[.string xn, .int .i64 (g : Int), .int .i64 xs, .int .i64 xf, .int .i64 xd, .bool xb, .slice ro rngs.length rcap] 46)) W) => itoa_int xs W (by omega) (by omega) (KC.out W hW).1.2.1)
  have C2 := Lib.hid (fun W (hW : Below (w.heap.size + 1) (w.alloc (.cells #[.string xn, .int .i64 (g : Int), .int .i64 xs, .int .i64 xf, .int .i64 xd, .bool xb, .slice ro rngs.length rcap] 46)) W) => itoa_int xf W (by omega) (by omega) (KC.out W hW).1.2.1)
  have C3 := Lib.hid (fun W (hW : Below (w.heap.size + 1) (w.alloc (.cells #[.string xn, .int .i64 (g : Int), .int .i64 xs, .int .i64 xf, .int .i64 xd, .bool xb, .slice ro rngs.length rcap] 46)) W) => rfshow_any xd W (KC.out W hW).1.2.1 p4.1 p4.2)
  generalize grpT (g : Int) = yg at *
  generalize itT xs = y1 at *
  generalize itT xf = y2 at *
  generalize showT xd = y3 at *
  go_enter Tryd.func29, Tryd.ntmps29
  have hb0 : Below (w.heap.size + 1) (w.alloc (.cells #[.string xn, .int .i64 (g : Int), .int .i64 xs, .int .i64 xf, .int .i64 xd, .bool xb, .slice ro rngs.length rcap] 46)) (w.alloc (.cells #[.string xn, .int .i64 (g : Int), .int .i64 xs, .int .i64 xf, .int .i64 xd, .bool xb, .slice ro rngs.length rcap] 46)) := Below.refl _ _
  go_upto_region 1 with fail
  go_cut [3] (fun s3 wx => s3 = .string X0 ∧ Below (w.heap.size + 1) (w.alloc (.cells #[.string xn, .int .i64 (g : Int), .int .i64 xs, .int .i64 xf, .int .i64 xd, .bool xb, .slice ro rngs.length rcap] 46)) wx)
  case first =>
    have HX := HF0.out
    obtain ⟨z1, q1⟩ : ∃ z, (⟨#[32, 32]⟩ : ByteArray) ++ yg = z := ⟨_, rfl⟩
    have s1 : z1.size = 2 + yg.size := by rw [← q1, ByteArray.size_append, show (⟨#[32, 32]⟩ : ByteArray).size = 2 from rfl]
    obtain ⟨z2, q2⟩ : ∃ z, z1 ++ (⟨#[32]⟩ : ByteArray) = z := ⟨_, rfl⟩
    have s2 : z2.size = z1.size + 1 := by rw [← q2, ByteArray.size_append, show (⟨#[32]⟩ : ByteArray).size = 1 from rfl]
    obtain ⟨z3, q3⟩ : ∃ z, z2 ++ xn = z := ⟨_, rfl⟩
    have s3 : z3.size = z2.size + xn.size := by rw [← q3, ByteArray.size_append]
    obtain ⟨z4, q4⟩ : ∃ z, z3 ++ (⟨#[32, 97, 116, 32]⟩ : ByteArray) = z := ⟨_, rfl⟩
    have s4 : z4.size = z3.size + 4 := by rw [← q4, ByteArray.size_append, show (⟨#[32, 97, 116, 32]⟩ : ByteArray).size = 4 from rfl]
    obtain ⟨z5, q5⟩ : ∃ z, z4 ++ y1 = z := ⟨_, rfl⟩
    have s5 : z5.size = z4.size + y1.size := by rw [← q5, ByteArray.size_append]
    rw [q1, q2, q3, q4, q5] at HX
    have HXQ := Lib.hid HX
    have c1 : (9223372036854775807 < 2 + yg.size) = False := eq_false (by omega)
    have ca1 : (9223372036854775805 < yg.size) = False := eq_false (by omega)
    have cb1 : (9223372036854775805 ≤ yg.size) = False := eq_false (by omega)
    have cd1 : (9223372036854775806 ≤ yg.size) = False := eq_false (by omega)
    have c2 : (9223372036854775807 < z1.size + 1) = False := eq_false (by omega)
    have ca2 : (9223372036854775806 < z1.size) = False := eq_false (by omega)
    have cb2 : (9223372036854775806 ≤ z1.size) = False := eq_false (by omega)
    have cd2 : (9223372036854775807 ≤ z1.size) = False := eq_false (by omega)
    have c3 : (9223372036854775807 < z2.size + xn.size) = False := eq_false (by omega)
    have c4 : (9223372036854775807 < z3.size + 4) = False := eq_false (by omega)
    have ca4 : (9223372036854775803 < z3.size) = False := eq_false (by omega)
    have cb4 : (9223372036854775803 ≤ z3.size) = False := eq_false (by omega)
    have cd4 : (9223372036854775804 ≤ z3.size) = False := eq_false (by omega)
    have c5 : (9223372036854775807 < z4.size + y1.size) = False := eq_false (by omega)
    clear HX s1 s2 s3 s4 s5
    have hw0 : Below (w.heap.size + 1) (w.alloc (.cells #[.string xn, .int .i64 (g : Int), .int .i64 xs, .int .i64 xf, .int .i64 xd, .bool xb, .slice ro rngs.length rcap] 46)) (w.alloc (.cells #[.string xn, .int .i64 (g : Int), .int .i64 xs, .int .i64 xf, .int .i64 xd, .bool xb, .slice ro rngs.length rcap] 46)) := hb0
    have hw1 : Below (w.heap.size + 1) (w.alloc (.cells #[.string xn, .int .i64 (g : Int), .int .i64 xs, .int .i64 xf, .int .i64 xd, .bool xb, .slice ro rngs.length rcap] 46)) (World.drew (w.alloc (.cells #[.string xn, .int .i64 (g : Int), .int .i64 xs, .int .i64 xf, .int .i64 xd, .bool xb, .slice ro rngs.length rcap] 46))) := hb0.drew
    have r1 : (g : Int) < 5 := by omega
    have r2 : (0 : Int) ≤ (g : Int) := by omega
    have hq : ((g : Int)).toNat = g := by simp
    refine wp_region_held_drew (S := (fun W => W.cell? ⟨w.heap.size, 0, none⟩ = some (.string xn) ∧ W.cell? ⟨w.heap.size, 1, none⟩ = some (.int .i64 (g : Int)) ∧ W.cell? ⟨w.heap.size, 2, none⟩ = some (.int .i64 xs) ∧ W.cell? ⟨w.heap.size, 3, none⟩ = some (.int .i64 xf) ∧ W.cell? ⟨w.heap.size, 4, none⟩ = some (.int .i64 xd) ∧ W.cell? ⟨w.heap.size, 5, none⟩ = some (.bool xb) ∧ W.cell? ⟨w.heap.size, 6, none⟩ = some (.slice ro rngs.length rcap))) (by kernel_rfl) (KC.out _ hw1).2 (fun hHeld => ?_)
    refine wpAnyH_take (i := 1) (oi := _) (v := ?_) rfl (by kernel_rfl) (by kernel_rfl) (by kernel_rfl) (fun _ _ _ h => h) (Or.inl ⟨by rfl, ?_⟩) (by assumption) ?_
    rotate_left
    · (intro w hSw; (try dsimp only at hSw); go_simp <;> with_reducible rfl)
    try simp only [Act.put, List.getElem_toArray, List.getElem_cons_zero, List.getElem_cons_succ, List.setIfInBounds_toArray, List.set_cons_zero, List.set_cons_succ]
    refine wpAnyH_take (i := 2) (oi := _) (v := ?_) rfl (by kernel_rfl) (by kernel_rfl) (by kernel_rfl) (fun _ _ _ h => h) (Or.inl ⟨by rfl, ?_⟩) (by assumption) ?_
    rotate_left
    · (intro w hSw; (try dsimp only at hSw); go_simp <;> with_reducible rfl)
    try simp only [Act.put, List.getElem_toArray, List.getElem_cons_zero, List.getElem_cons_succ, List.setIfInBounds_toArray, List.set_cons_zero, List.set_cons_succ]
    refine wpAnyH_take (i := 7) (oi := _) (v := ?_) rfl (by kernel_rfl) (by kernel_rfl) (by kernel_rfl) (fun _ _ _ h => h) (Or.inl ⟨by rfl, ?_⟩) (by assumption) ?_
    rotate_left
    · (intro w hSw; (try dsimp only at hSw); go_simp <;> with_reducible rfl)
    try simp only [Act.put, List.getElem_toArray, List.getElem_cons_zero, List.getElem_cons_succ, List.setIfInBounds_toArray, List.set_cons_zero, List.set_cons_succ]
    refine wpAnyH_take (i := 8) (oi := _) (v := ?_) rfl (by kernel_rfl) (by kernel_rfl) (by kernel_rfl) (fun _ _ _ h => h) (Or.inl ⟨by rfl, ?_⟩) (by assumption) ?_
    rotate_left
    · (intro w hSw; (try dsimp only at hSw); go_simp <;> with_reducible rfl)
    try simp only [Act.put, List.getElem_toArray, List.getElem_cons_zero, List.getElem_cons_succ, List.setIfInBounds_toArray, List.set_cons_zero, List.set_cons_succ]
    refine wpAnyH_take (i := 11) (oi := _) (v := ?_) rfl (by kernel_rfl) (by kernel_rfl) (by kernel_rfl) (fun _ _ _ h => h) (Or.inl ⟨by rfl, ?_⟩) (by assumption) ?_
    rotate_left
    · (intro w hSw; (try dsimp only at hSw); go_simp <;> with_reducible rfl)
    try simp only [Act.put, List.getElem_toArray, List.getElem_cons_zero, List.getElem_cons_succ, List.setIfInBounds_toArray, List.set_cons_zero, List.set_cons_succ]
    refine wpAnyH_take (i := 12) (oi := _) (v := ?_) rfl (by kernel_rfl) (by kernel_rfl) (by kernel_rfl) (fun _ _ _ h => h) (Or.inl ⟨by rfl, ?_⟩) (by assumption) ?_
    rotate_left
    · (intro w hSw; (try dsimp only at hSw); go_simp <;> with_reducible rfl)
    try simp only [Act.put, List.getElem_toArray, List.getElem_cons_zero, List.getElem_cons_succ, List.setIfInBounds_toArray, List.set_cons_zero, List.set_cons_succ]
    refine wpAnyH_ready (rs := [0]) (by kernel_rfl) (by simp) (AllReadyH.cons rfl (fun K hK => ?_) AllReadyH.nil)
    · skip
      go_simp
      (go_at_call 55; (with_reducible refine (CG.out _).mono ?_); rintro e WG ⟨gb, rfl, hbG, hfG, hlG⟩; have hwG := KM.out _ _ (by with_reducible assumption) hbG; clear hbG)
      (try go_wp2_with fail)
      refine hK.out _ _ (by with_reducible first | exact (KC.out _ (by assumption)).2 | assumption) (fun hHeld => ?_)
      clear hK K
      try simp only [Act.put, List.getElem_toArray, List.getElem_cons_zero, List.getElem_cons_succ, List.setIfInBounds_toArray, List.set_cons_zero, List.set_cons_succ]
      refine wpAnyH_take (i := 3) (oi := _) (v := ?_) rfl (by kernel_rfl) (by kernel_rfl) (by kernel_rfl) (fun _ _ _ h => h) (Or.inl ⟨by rfl, ?_⟩) (by assumption) ?_
      rotate_left
      · (intro w hSw; (try dsimp only at hSw); go_simp <;> with_reducible rfl)
      try simp only [Act.put, List.getElem_toArray, List.getElem_cons_zero, List.getElem_cons_succ, List.setIfInBounds_toArray, List.set_cons_zero, List.set_cons_succ]
      refine wpAnyH_ready (rs := [4, 13]) (by kernel_rfl) (by simp) (AllReadyH.cons rfl (fun K hK => ?_) (AllReadyH.cons rfl (fun K hK => ?_) AllReadyH.nil))
      · skip
        go_simp
        (try go_wp2_with fail)
        refine hK.out _ _ (by with_reducible first | exact (KC.out _ (by assumption)).2 | assumption) (fun hHeld => ?_)
        clear hK K
        try simp only [Act.put, List.getElem_toArray, List.getElem_cons_zero, List.getElem_cons_succ, List.setIfInBounds_toArray, List.set_cons_zero, List.set_cons_succ]
        refine wpAnyH_take (i := 5) (oi := _) (v := ?_) rfl (by kernel_rfl) (by kernel_rfl) (by kernel_rfl) (fun _ _ _ h => h) (Or.inl ⟨by rfl, ?_⟩) (by assumption) ?_
        rotate_left
        · (intro w hSw; (try dsimp only at hSw); go_simp <;> with_reducible rfl)
        try simp only [Act.put, List.getElem_toArray, List.getElem_cons_zero, List.getElem_cons_succ, List.setIfInBounds_toArray, List.set_cons_zero, List.set_cons_succ]
        refine wpAnyH_take (i := 6) (oi := _) (v := ?_) rfl (by kernel_rfl) (by kernel_rfl) (by kernel_rfl) (fun _ _ _ h => h) (Or.inl ⟨by rfl, ?_⟩) (by assumption) ?_
        rotate_left
        · (intro w hSw; (try dsimp only at hSw); go_simp <;> with_reducible rfl)
        try simp only [Act.put, List.getElem_toArray, List.getElem_cons_zero, List.getElem_cons_succ, List.setIfInBounds_toArray, List.set_cons_zero, List.set_cons_succ]
        refine wpAnyH_take (i := 9) (oi := _) (v := ?_) rfl (by kernel_rfl) (by kernel_rfl) (by kernel_rfl) (fun _ _ _ h => h) (Or.inl ⟨by rfl, ?_⟩) (by assumption) ?_
        rotate_left
        · (intro w hSw; (try dsimp only at hSw); go_simp <;> with_reducible rfl)
        try simp only [Act.put, List.getElem_toArray, List.getElem_cons_zero, List.getElem_cons_succ, List.setIfInBounds_toArray, List.set_cons_zero, List.set_cons_succ]
        refine wpAnyH_take (i := 10) (oi := _) (v := ?_) rfl (by kernel_rfl) (by kernel_rfl) (by kernel_rfl) (fun _ _ _ h => h) (Or.inl ⟨by rfl, ?_⟩) (by assumption) ?_
        rotate_left
        · (intro w hSw; (try dsimp only at hSw); go_simp <;> with_reducible rfl)
        try simp only [Act.put, List.getElem_toArray, List.getElem_cons_zero, List.getElem_cons_succ, List.setIfInBounds_toArray, List.set_cons_zero, List.set_cons_succ]
        refine wpAnyH_ready (rs := [13]) (by kernel_rfl) (by simp) (AllReadyH.cons rfl (fun K hK => ?_) AllReadyH.nil)
        · skip
          go_simp
          (go_at_call 24; (with_reducible refine (C1.out _ (by with_reducible assumption)).mono ?_); rintro e WI ⟨rfl, hbI⟩; have hwI := KM.out _ _ (by with_reducible assumption) hbI; (try have hfG := (hbI.cell (p := ⟨gb, g, none⟩) hlG).trans hfG); (try have hlG := Nat.lt_of_lt_of_le hlG hbI.size); clear hbI)
          (try go_wp2_with fail)
          refine hK.out _ _ (by with_reducible first | exact (KC.out _ (by assumption)).2 | assumption) (fun hHeld => ?_)
          clear hK K
          try simp only [Act.put, List.getElem_toArray, List.getElem_cons_zero, List.getElem_cons_succ, List.setIfInBounds_toArray, List.set_cons_zero, List.set_cons_succ]
          refine wpAnyH_take (i := 14) (oi := _) (v := ?_) rfl (by kernel_rfl) (by kernel_rfl) (by kernel_rfl) (fun _ _ _ h => h) (Or.inl ⟨by rfl, ?_⟩) (by assumption) ?_
          rotate_left
          · (intro w hSw; (try dsimp only at hSw); go_simp <;> with_reducible rfl)
          try simp only [Act.put, List.getElem_toArray, List.getElem_cons_zero, List.getElem_cons_succ, List.setIfInBounds_toArray, List.set_cons_zero, List.set_cons_succ]
          refine wpAnyH_ready (rs := [15]) (by kernel_rfl) (by simp) (AllReadyH.cons rfl (fun K hK => ?_) AllReadyH.nil)
          · skip
            go_simp
            (try go_wp2_with fail)
            refine hK.out _ _ (by with_reducible first | exact (KC.out _ (by assumption)).2 | assumption) (fun hHeld => ?_)
            clear hK K
            try simp only [Act.put, List.getElem_toArray, List.getElem_cons_zero, List.getElem_cons_succ, List.setIfInBounds_toArray, List.set_cons_zero, List.set_cons_succ]
            refine wpAnyH_done (by kernel_rfl) ?_ _
            go_wp2_with fail
            go_meet
            exact ⟨by rw [HXQ.out], by with_reducible assumption⟩
      · skip
        go_simp
        (go_at_call 24; (with_reducible refine (C1.out _ (by with_reducible assumption)).mono ?_); rintro e WI ⟨rfl, hbI⟩; have hwI := KM.out _ _ (by with_reducible assumption) hbI; (try have hfG := (hbI.cell (p := ⟨gb, g, none⟩) hlG).trans hfG); (try have hlG := Nat.lt_of_lt_of_le hlG hbI.size); clear hbI)
        (try go_wp2_with fail)
        refine hK.out _ _ (by with_reducible first | exact (KC.out _ (by assumption)).2 | assumption) (fun hHeld => ?_)
        clear hK K
        try simp only [Act.put, List.getElem_toArray, List.getElem_cons_zero, List.getElem_cons_succ, List.setIfInBounds_toArray, List.set_cons_zero, List.set_cons_succ]
        refine wpAnyH_ready (rs := [4]) (by kernel_rfl) (by simp) (AllReadyH.cons rfl (fun K hK => ?_) AllReadyH.nil)
        · skip
          go_simp
          (try go_wp2_with fail)
          refine hK.out _ _ (by with_reducible first | exact (KC.out _ (by assumption)).2 | assumption) (fun hHeld => ?_)
          clear hK K
          try simp only [Act.put, List.getElem_toArray, List.getElem_cons_zero, List.getElem_cons_succ, List.setIfInBounds_toArray, List.set_cons_zero, List.set_cons_succ]
          refine wpAnyH_take (i := 5) (oi := _) (v := ?_) rfl (by kernel_rfl) (by kernel_rfl) (by kernel_rfl) (fun _ _ _ h => h) (Or.inl ⟨by rfl, ?_⟩) (by assumption) ?_
          rotate_left
          · (intro w hSw; (try dsimp only at hSw); go_simp <;> with_reducible rfl)
          try simp only [Act.put, List.getElem_toArray, List.getElem_cons_zero, List.getElem_cons_succ, List.setIfInBounds_toArray, List.set_cons_zero, List.set_cons_succ]
          refine wpAnyH_take (i := 6) (oi := _) (v := ?_) rfl (by kernel_rfl) (by kernel_rfl) (by kernel_rfl) (fun _ _ _ h => h) (Or.inl ⟨by rfl, ?_⟩) (by assumption) ?_
          rotate_left
          · (intro w hSw; (try dsimp only at hSw); go_simp <;> with_reducible rfl)
          try simp only [Act.put, List.getElem_toArray, List.getElem_cons_zero, List.getElem_cons_succ, List.setIfInBounds_toArray, List.set_cons_zero, List.set_cons_succ]
          refine wpAnyH_take (i := 9) (oi := _) (v := ?_) rfl (by kernel_rfl) (by kernel_rfl) (by kernel_rfl) (fun _ _ _ h => h) (Or.inl ⟨by rfl, ?_⟩) (by assumption) ?_
          rotate_left
          · (intro w hSw; (try dsimp only at hSw); go_simp <;> with_reducible rfl)
          try simp only [Act.put, List.getElem_toArray, List.getElem_cons_zero, List.getElem_cons_succ, List.setIfInBounds_toArray, List.set_cons_zero, List.set_cons_succ]
          refine wpAnyH_take (i := 10) (oi := _) (v := ?_) rfl (by kernel_rfl) (by kernel_rfl) (by kernel_rfl) (fun _ _ _ h => h) (Or.inl ⟨by rfl, ?_⟩) (by assumption) ?_
          rotate_left
          · (intro w hSw; (try dsimp only at hSw); go_simp <;> with_reducible rfl)
          try simp only [Act.put, List.getElem_toArray, List.getElem_cons_zero, List.getElem_cons_succ, List.setIfInBounds_toArray, List.set_cons_zero, List.set_cons_succ]
          refine wpAnyH_take (i := 14) (oi := _) (v := ?_) rfl (by kernel_rfl) (by kernel_rfl) (by kernel_rfl) (fun _ _ _ h => h) (Or.inl ⟨by rfl, ?_⟩) (by assumption) ?_
          rotate_left
          · (intro w hSw; (try dsimp only at hSw); go_simp <;> with_reducible rfl)
          try simp only [Act.put, List.getElem_toArray, List.getElem_cons_zero, List.getElem_cons_succ, List.setIfInBounds_toArray, List.set_cons_zero, List.set_cons_succ]
          refine wpAnyH_ready (rs := [15]) (by kernel_rfl) (by simp) (AllReadyH.cons rfl (fun K hK => ?_) AllReadyH.nil)
          · skip
            go_simp
            (try go_wp2_with fail)
            refine hK.out _ _ (by with_reducible first | exact (KC.out _ (by assumption)).2 | assumption) (fun hHeld => ?_)
            clear hK K
            try simp only [Act.put, List.getElem_toArray, List.getElem_cons_zero, List.getElem_cons_succ, List.setIfInBounds_toArray, List.set_cons_zero, List.set_cons_succ]
            refine wpAnyH_done (by kernel_rfl) ?_ _
            go_wp2_with fail
            go_meet
            exact ⟨by rw [HXQ.out], by with_reducible assumption⟩
  case rest =>
    obtain ⟨rfl, hb1⟩ := hcut
    obtain ⟨w1, rfl⟩ : ∃ x, x = wc := ⟨wc, rfl⟩
    clear hb0
    obtain ⟨⟨_, _, hz⟩, z0, z1, z2, z3, z4, z5, z6⟩ := KC.out w1 hb1
    go_upto_if 23 with fail
    go_cut [3] (fun s3 wx => s3 = .string X1 ∧ Below (w.heap.size + 1) (w.alloc (.cells #[.string xn, .int .i64 (g : Int), .int .i64 xs, .int .i64 xf, .int .i64 xd, .bool xb, .slice ro rngs.length rcap] 46)) wx)
    case first =>
      by_cases hc : 0 < xf
      · skip
        have hc1 : (xf == 0) = false := by rw [beq_eq_false_iff_ne]; omega
        have hc2 : (xf != 0) = true := by rw [bne_iff_ne]; omega
        have HE := Lib.hid (show X1 = X0 ++ ((⟨#[32, 102, 105, 110, 101, 32]⟩ : ByteArray) ++ y2) by rw [HYF.out, if_pos hc])
        clear hc
        go_wp2_with fail
        refine (C2.out _ hb1).mono ?_
        rintro e wI ⟨rfl, hbI⟩
        have hbJ := KM.out _ _ hb1 hbI
        clear hbI
        have k3 : ((⟨#[32, 102, 105, 110, 101, 32]⟩ : ByteArray) ++ y2).size ≤ 40 := by rw [ByteArray.size_append, show (⟨#[32, 102, 105, 110, 101, 32]⟩ : ByteArray).size = 6 from rfl]; omega
        generalize hzz : (⟨#[32, 102, 105, 110, 101, 32]⟩ : ByteArray) ++ y2 = zz at *
        have HZ := Lib.hid hzz
        clear hzz
        go_wp2_with fail
        all_goals go_meet
        all_goals exact ⟨by rw [HE.out] <;> first | rfl | (rw [← HZ.out]), by assumption⟩
      · skip
        have hc0 : xf = 0 := by omega
        have hc1 : (xf == 0) = true := by simp [hc0]
        have hc2 : (xf != 0) = false := by simp [hc0]
        have HE := Lib.hid (show X1 = X0 by rw [HYF.out, if_neg hc])
        clear hc hc0
        go_wp2_with fail
        all_goals go_meet
        all_goals exact ⟨by rw [HE.out], by assumption⟩
    case rest =>
      obtain ⟨rfl, hb2⟩ := hcut
      obtain ⟨w2, rfl⟩ : ∃ x, x = wc := ⟨wc, rfl⟩
      clear hb1 z0 z1 z2 z3 z4 z5 z6 hz
      obtain ⟨⟨_, _, hz⟩, z0, z1, z2, z3, z4, z5, z6⟩ := KC.out w2 hb2
      go_upto_if 32 with fail
      go_cut [3] (fun s3 wx => s3 = .string X2 ∧ Below (w.heap.size + 1) (w.alloc (.cells #[.string xn, .int .i64 (g : Int), .int .i64 xs, .int .i64 xf, .int .i64 xd, .bool xb, .slice ro rngs.length rcap] 46)) wx)
      case first =>
        by_cases hc : 0 < xd
        · skip
          have hc1 : (xd == 0) = false := by rw [beq_eq_false_iff_ne]; omega
          have hc2 : (xd != 0) = true := by rw [bne_iff_ne]; omega
          have HE := Lib.hid (show X2 = X1 ++ ((⟨#[32, 100, 101, 102, 97, 117, 108, 116, 32]⟩ : ByteArray) ++ y3) by rw [HYD.out, if_pos hc])
          clear hc
          go_wp2_with fail
          refine (C3.out _ hb2).mono ?_
          rintro e wI ⟨rfl, hbI⟩
          have hbJ := KM.out _ _ hb2 hbI
          clear hbI
          have k3 : ((⟨#[32, 100, 101, 102, 97, 117, 108, 116, 32]⟩ : ByteArray) ++ y3).size ≤ 40 := by rw [ByteArray.size_append, show (⟨#[32, 100, 101, 102, 97, 117, 108, 116, 32]⟩ : ByteArray).size = 9 from rfl]; omega
          generalize hzz : (⟨#[32, 100, 101, 102, 97, 117, 108, 116, 32]⟩ : ByteArray) ++ y3 = zz at *
          have HZ := Lib.hid hzz
          clear hzz
          go_wp2_with fail
          all_goals go_meet
          all_goals exact ⟨by rw [HE.out] <;> first | rfl | (rw [← HZ.out]), by assumption⟩
        · skip
          have hc0 : xd = 0 := by omega
          have hc1 : (xd == 0) = true := by simp [hc0]
          have hc2 : (xd != 0) = false := by simp [hc0]
          have HE := Lib.hid (show X2 = X1 by rw [HYD.out, if_neg hc])
          clear hc hc0
          go_wp2_with fail
          all_goals go_meet
          all_goals exact ⟨by rw [HE.out], by assumption⟩
      case rest =>
        obtain ⟨rfl, hb3⟩ := hcut
        obtain ⟨w3, rfl⟩ : ∃ x, x = wc := ⟨wc, rfl⟩
        clear hb2 z0 z1 z2 z3 z4 z5 z6 hz
        obtain ⟨⟨_, _, hz⟩, z0, z1, z2, z3, z4, z5, z6⟩ := KC.out w3 hb3
        go_upto_if 40 with fail
        go_cut [3] (fun s3 wx => s3 = .string X3 ∧ Below (w.heap.size + 1) (w.alloc (.cells #[.string xn, .int .i64 (g : Int), .int .i64 xs, .int .i64 xf, .int .i64 xd, .bool xb, .slice ro rngs.length rcap] 46)) wx)
        case first =>
          cases xb
          · skip
            have HE := Lib.hid (show X3 = X2 by rw [HYS.out]; rfl)
            go_wp2_with fail
            all_goals go_meet
            all_goals exact ⟨by rw [HE.out], by assumption⟩
          · skip
            have HE := Lib.hid (show X3 = X2 ++ (⟨#[32, 115, 110, 97, 112]⟩ : ByteArray) by rw [HYS.out]; rfl)
            have k3 : (⟨#[32, 115, 110, 97, 112]⟩ : ByteArray).size = 5 := rfl
            go_wp2_with fail
            all_goals go_meet
            all_goals exact ⟨by rw [HE.out], by assumption⟩
        case rest =>
          obtain ⟨rfl, hb4⟩ := hcut
          obtain ⟨w4, rfl⟩ : ∃ x, x = wc := ⟨wc, rfl⟩
          clear hb3 z0 z1 z2 z3 z4 z5 z6 hz
          obtain ⟨⟨_, _, hz⟩, z0, z1, z2, z3, z4, z5, z6⟩ := KC.out w4 hb4
          have k3 : (⟨#[10]⟩ : ByteArray).size = 1 := rfl
          have HZ9 := Lib.hid (show rngA X4 (rngs.take 0) = X4 from rfl)
          go_wp2_with fail
          go_loopw [48, 3] (fun i s wx => ∃ k : Nat, k ≤ rngs.length ∧ i = .int .i64 k ∧ s = .string (rngA X4 (rngs.take k)) ∧ Hid (Below (w.heap.size + 1) (w.alloc (.cells #[.string xn, .int .i64 (g : Int), .int .i64 xs, .int .i64 xf, .int .i64 xd, .bool xb, .slice ro rngs.length rcap] 46)) wx)) (fun i s _ => rngs.length - (intOf i).toNat)
          case atStart => exact ⟨0, Nat.zero_le _, rfl, by rw [HZ9.out, HYN.out], Lib.hid hb4⟩
          case round =>
            obtain ⟨k, hk, rfl, rfl, HBR⟩ := hrel
            clear z0 z1 z2 z3 z4 z5 z6 hz
            have hkk := HLE.out k hk
            by_cases hlt : k < rngs.length
            · skip
              obtain ⟨b, off, cap', hsl, hb, _, hc⟩ := HG.out (by omega)
              injection hsl with hs1 hs2 hs3
              subst hs1
              subst hs3
              obtain ⟨⟨hbw, hTr, hzr⟩, _⟩ := KC.out wr HBR.out
              obtain ⟨d0, d1, d2⟩ := hc k hlt wr hbw
              have hbr : b < wr.heap.size := by omega
              have HOK := Lib.hid (HP7.out _ (List.getElem_mem hlt))
              have HS := Lib.hid (HTK.out k hlt)
              have PC := Lib.hid (show rngT rngs[k] = (((((((⟨#[32, 32, 32, 32]⟩ : ByteArray) ++ showT rngs[k].low) ++ (⟨#[32]⟩ : ByteArray)) ++ showT rngs[k].high) ++ (⟨#[32]⟩ : ByteArray)) ++ rngs[k].name) ++ (⟨#[10]⟩ : ByteArray)) from rfl)
              rw [PC.out] at HS
              clear hc PC
              generalize hX1 : rngA X4 (rngs.take (k + 1)) = XN at *
              have HXN := Lib.hid hX1
              clear hX1
              generalize rngA X4 (rngs.take k) = X at *
              generalize hrk : rngs[k] = rk at *
              clear hrk
              obtain ⟨⟨l1, l2⟩, ⟨l3, l4⟩, l5⟩ := HOK.out
              obtain ⟨rl, rh, rn⟩ := rk
              simp only at *
              have t1 := showT_le rl l1 l2
              have t2 := showT_le rh l3 l4
              have HTW := Lib.hid hTr
              have hA := (Below.refl wr.heap.size wr).alloc (Nat.le_refl _) (.cells #[.int .i64 rl, .int .i64 rh, .string rn] 62)
              have HTU := Lib.hid (TBox.new wr #[.int .i64 rl, .int .i64 rh, .string rn] 62)
              have HA := Lib.hid hA
              have HWA := Lib.hid (HBR.out.alloc (by omega) (.cells #[.int .i64 rl, .int .i64 rh, .string rn] 62))
              clear hA hbw hTr
              go_upto_region 12 with fail
              obtain ⟨w3, hw3⟩ : ∃ w3 : World, w3 = wr.alloc (.cells #[.int .i64 rl, .int .i64 rh, .string rn] 62) := ⟨_, rfl⟩
              rw [← hw3] at HTU HA HWA ⊢
              clear hw3
              have KP := Lib.hid (show ∀ W, Below w3.heap.size w3 W → (W.cell? ⟨wr.heap.size, 0, none⟩ = some (.int .i64 rl) ∧ W.cell? ⟨wr.heap.size, 1, none⟩ = some (.int .i64 rh) ∧ W.cell? ⟨wr.heap.size, 2, none⟩ = some (.string rn)) from fun W hW => ⟨(HTU.out.below hW).cell rfl, (HTU.out.below hW).cell rfl, (HTU.out.below hW).cell rfl⟩)
              have KN := Lib.hid (show ∀ W W1, Below w3.heap.size w3 W → Below W.heap.size W W1 → Below w3.heap.size w3 W1 from fun W W1 h1 h2 => h1.trans (h2.mono h1.size))
              have S1 := Lib.hid (fun W (hW : Below w3.heap.size w3 W) => rfshow_any rl W ((HTW.out.below HA.out).below hW) l1 l2)
              have S2 := Lib.hid (fun W (hW : Below w3.heap.size w3 W) => rfshow_any rh W ((HTW.out.below HA.out).below hW) l3 l4)
              generalize showT rl = u1 at *
              generalize showT rh = u2 at *
              obtain ⟨z1, q1⟩ : ∃ z, (⟨#[32, 32, 32, 32]⟩ : ByteArray) ++ u1 = z := ⟨_, rfl⟩
              have s1 : z1.size = 4 + u1.size := by rw [← q1, ByteArray.size_append, show (⟨#[32, 32, 32, 32]⟩ : ByteArray).size = 4 from rfl]
              obtain ⟨z2, q2⟩ : ∃ z, z1 ++ (⟨#[32]⟩ : ByteArray) = z := ⟨_, rfl⟩
              have s2 : z2.size = z1.size + 1 := by rw [← q2, ByteArray.size_append, show (⟨#[32]⟩ : ByteArray).size = 1 from rfl]
              obtain ⟨z3, q3⟩ : ∃ z, z2 ++ u2 = z := ⟨_, rfl⟩
              have s3 : z3.size = z2.size + u2.size := by rw [← q3, ByteArray.size_append]
              obtain ⟨z4, q4⟩ : ∃ z, z3 ++ (⟨#[32]⟩ : ByteArray) = z := ⟨_, rfl⟩
              have s4 : z4.size = z3.size + 1 := by rw [← q4, ByteArray.size_append, show (⟨#[32]⟩ : ByteArray).size = 1 from rfl]
              obtain ⟨z5, q5⟩ : ∃ z, z4 ++ rn = z := ⟨_, rfl⟩
              have s5 : z5.size = z4.size + rn.size := by rw [← q5, ByteArray.size_append]
              obtain ⟨z6, q6⟩ : ∃ z, z5 ++ (⟨#[10]⟩ : ByteArray) = z := ⟨_, rfl⟩
              have s6 : z6.size = z5.size + 1 := by rw [← q6, ByteArray.size_append, show (⟨#[10]⟩ : ByteArray).size = 1 from rfl]
              rw [q1, q2, q3, q4, q5, q6] at HS
              have cz : (9223372036854775807 < X.size + z6.size) = False := eq_false (by omega)
              have c1 : (9223372036854775807 < 4 + u1.size) = False := eq_false (by omega)
              have ca1 : (9223372036854775803 < u1.size) = False := eq_false (by omega)
              have cb1 : (9223372036854775803 ≤ u1.size) = False := eq_false (by omega)
              have cd1 : (9223372036854775804 ≤ u1.size) = False := eq_false (by omega)
              have c2 : (9223372036854775807 < z1.size + 1) = False := eq_false (by omega)
              have ca2 : (9223372036854775806 < z1.size) = False := eq_false (by omega)
              have cb2 : (9223372036854775806 ≤ z1.size) = False := eq_false (by omega)
              have cd2 : (9223372036854775807 ≤ z1.size) = False := eq_false (by omega)
              have c3 : (9223372036854775807 < z2.size + u2.size) = False := eq_false (by omega)
              have c4 : (9223372036854775807 < z3.size + 1) = False := eq_false (by omega)
              have ca4 : (9223372036854775806 < z3.size) = False := eq_false (by omega)
              have cb4 : (9223372036854775806 ≤ z3.size) = False := eq_false (by omega)
              have cd4 : (9223372036854775807 ≤ z3.size) = False := eq_false (by omega)
              have c5 : (9223372036854775807 < z4.size + rn.size) = False := eq_false (by omega)
              have c6 : (9223372036854775807 < z5.size + 1) = False := eq_false (by omega)
              have ca6 : (9223372036854775806 < z5.size) = False := eq_false (by omega)
              have cb6 : (9223372036854775806 ≤ z5.size) = False := eq_false (by omega)
              have cd6 : (9223372036854775807 ≤ z5.size) = False := eq_false (by omega)
              clear s1 s2 s3 s4 s5 s6
              have hw0 := Below.refl w3.heap.size w3
              have hw1 := (Below.refl w3.heap.size w3).drew
              go_region_held3 (fun W => W.cell? ⟨wr.heap.size, 0, none⟩ = some (.int .i64 rl) ∧ W.cell? ⟨wr.heap.size, 1, none⟩ = some (.int .i64 rh) ∧ W.cell? ⟨wr.heap.size, 2, none⟩ = some (.string rn))
                (with_reducible first | assumption | exact KP.out _ (by assumption))
                (first
                  | (go_at_call 56; (with_reducible refine (S1.out _ (by assumption)).mono ?_); rintro e W1 ⟨rfl, hb1⟩; have hA1 := KN.out _ _ (by assumption) hb1; clear hb1)
                  | (go_at_call 56; (with_reducible refine (S2.out _ (by assumption)).mono ?_); rintro e W2 ⟨rfl, hb2⟩; have hA2 := KN.out _ _ (by assumption) hb2; clear hb2)
                  | fail)
              all_goals
                have HBN := Lib.hid (HWA.out.trans (Below.mono (by first | exact hA2 | exact hA1) (by have := HBR.out.size; have := HA.out.size; simp only [World.size_alloc] at *; omega)))
                go_wp2_with fail
                go_roundw
                case rel => first | exact ⟨k + 1, by omega, by first | rfl | go_num, by rw [HXN.out, HS.out], HBN⟩ | ((repeat apply Exists.intro); refine ⟨⟨k + 1, by omega, by first | rfl | go_num, by rw [HXN.out, HS.out], HBN⟩, ?_⟩; rfl)
                case measure => simp [intOf]; omega
            · have hkk2 : k = rngs.length := by omega
              subst hkk2
              have HV := Lib.hid (show RES = rngA X4 rngs by rw [HXE.out])
              have HBB := Lib.hid (KC.out _ HBR.out).1.1
              go_wp2_with fail
              exact bodyPost_ret (v := .string (rngA X4 rngs)) (by simp [results, Tryd.results29, go_sem]) rfl ⟨by rw [HV.out], HBB.out⟩
end Go.Proofs.YtabalicembhjmaaDoor
