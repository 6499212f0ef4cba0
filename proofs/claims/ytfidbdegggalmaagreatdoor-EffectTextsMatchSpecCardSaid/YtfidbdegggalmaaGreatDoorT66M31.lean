/- effect.read: at any words. (printed by wip/gen/gen_eread.py) -/
import Derived.Test.YtfidbdegggalmaaGreatDoorT66M30

namespace Go.Proofs.YtfidbdegggalmaaGreatDoor
open Go.RowKit
set_option linter.unusedVariables false
set_option linter.unusedSimpArgs false

set_option maxRecDepth 100000 in
set_option maxHeartbeats 16000000 in
theorem eread_any (f : ByteArray) (R0 : List ByteArray) (wb off cap : Nat) (w : World) (hTx : TextW w) (hR : RowS w wb off (f :: R0)) (hwb : wb < w.heap.size) (hcap : (f :: R0).length ≤ cap) (hc2 : cap ≤ 100000) (hsz : ∀ x ∈ f :: R0, x.size ≤ 5000) :
    Calls Tryz.prog 7 #[.slice (some ⟨wb, off, none⟩) (f :: R0).length cap] w (RdPost (prsE (f :: R0)) w) := by
  have HTX := Lib.hid (show ∀ W, Below w.heap.size w W → TextW W from fun W hb => hTx.below hb)
  have HSZ := Lib.hid hsz
  have HE := Lib.hid (show ∀ r, prsE (f :: R0) = r → prsE (f :: R0) = r from fun r h => h)
  obtain ⟨RES, hRES⟩ : ∃ r, prsE (f :: R0) = r := ⟨_, rfl⟩
  have HRES := Lib.hid hRES
  rw [hRES]
  have HPN := Lib.hid (show ∀ v w', RES = none → EffSh v → Below w.heap.size w w' → RdPost RES w (.returned (.tuple #[v, .bool false])) w' from fun v w' h hv hb => by rw [h]; exact ⟨hb, v, hv, rfl⟩)
  have HPS := Lib.hid (show ∀ E sv w', RES = some E → StS w'.heap.size w' sv E.steps → FreshS w.heap.size sv → Below w.heap.size w w' → RdPost RES w (.returned (.tuple #[effV E sv, .bool true])) w' from fun E sv w' h hv hf hb => by rw [h]; exact ⟨hb, sv, rfl, hv, hf⟩)
  obtain ⟨w1, hw1⟩ : ∃ w1, w1 = (((w.alloc (.cells #[.slice (some ⟨wb, off, none⟩) (R0.length + 1) cap] 32)).alloc (.cells #[.int .i64 0, .int .i64 0, .int .i64 0, .int .i64 0, .int .i64 0, .int .i64 0, .bool false, .bool false, .slice none 0 0] 24)).alloc (.cells #[.int .i64 0, .int .i64 0, .int .i64 0, .int .i64 0, .int .i64 0, .int .i64 0, .bool false, .bool false, .slice none 0 0] 24)) := ⟨_, rfl⟩
  have HS1 := Lib.hid (show RS w wb (f :: R0) #[.int .i64 (fmI f 0), .int .i64 0, .int .i64 0, .int .i64 0, .int .i64 0, .int .i64 0, .bool false, .bool false, .slice none 0 0] w1 from by
    have hB : Below w.heap.size w w1 := by rw [hw1]; exact ((((Below.refl w.heap.size w).alloc (Nat.le_refl _) _).alloc (by simp) _).alloc (by simp; omega) _)
    have k1 : TBox w1 w.heap.size 32 #[.slice (some ⟨wb, off, none⟩) (f :: R0).length cap] := by rw [hw1]; exact (((TBox.new w _ _).alloc _).alloc _)
    have k2 : TBox w1 (w.heap.size + 1) 24 #[.int .i64 0, .int .i64 0, .int .i64 0, .int .i64 0, .int .i64 0, .int .i64 0, .bool false, .bool false, .slice none 0 0] := by
      rw [hw1]
      have := (TBox.new (w.alloc (.cells #[.slice (some ⟨wb, off, none⟩) (R0.length + 1) cap] 32)) #[.int .i64 0, .int .i64 0, .int .i64 0, .int .i64 0, .int .i64 0, .int .i64 0, .bool false, .bool false, .slice none 0 0] 24).alloc (.cells #[.int .i64 0, .int .i64 0, .int .i64 0, .int .i64 0, .int .i64 0, .int .i64 0, .bool false, .bool false, .slice none 0 0] 24)
      simpa only [World.size_alloc] using this
    have k3 : TBox w1 (w.heap.size + 1 + 1) 24 #[.int .i64 0, .int .i64 0, .int .i64 0, .int .i64 0, .int .i64 0, .int .i64 0, .bool false, .bool false, .slice none 0 0] := by
      rw [hw1]
      have := TBox.new ((w.alloc (.cells #[.slice (some ⟨wb, off, none⟩) (R0.length + 1) cap] 32)).alloc (.cells #[.int .i64 0, .int .i64 0, .int .i64 0, .int .i64 0, .int .i64 0, .int .i64 0, .bool false, .bool false, .slice none 0 0] 24)) #[.int .i64 0, .int .i64 0, .int .i64 0, .int .i64 0, .int .i64 0, .int .i64 0, .bool false, .bool false, .slice none 0 0] 24
      simpa only [World.size_alloc] using this
    exact ⟨⟨off, cap, k1, hR.keep hwb hB, hcap, hc2⟩, k3, k2, hB⟩)
  clear hR hcap hc2 hsz hTx hRES HE
  have hcf := kv_call
  go_enter Tryz.func7, Tryz.ntmps7
  go_upto_region 2 with fail
  rw [← hw1]
  clear hw1
  go_wp2_with fail
  go_loopw [5] (fun i wx => ∃ n : Nat, n ≤ 7 ∧ i = .int .i64 ((n : Int) + 1) ∧ Hid (RS w wb (f :: R0) #[.int .i64 (fmI f n), .int .i64 0, .int .i64 0, .int .i64 0, .int .i64 0, .int .i64 0, .bool false, .bool false, .slice none 0 0] wx)) (fun i _ => 8 - (intOf i).toNat)
  case atStart => exact ⟨0, by omega, rfl, HS1⟩
  case round =>
    clear HS1
    obtain ⟨n, hn, rfl, HS⟩ := hrel
    by_cases hlt : n < 7
    · obtain ⟨⟨o, cap, hT, hR, hc1, hc2⟩, hE, hZ, hB⟩ := HS.out
      have t0 : wr.cell? ⟨w.heap.size, 0, none⟩ = some (Value.slice (some ⟨wb, o, none⟩) _ cap) := hT.cell (i := 0) rfl
      have tl := hT.lt
      have q0 := hE.cell (i := 0) rfl
      have q1 := hE.cell (i := 1) rfl
      have q2 := hE.cell (i := 2) rfl
      have q3 := hE.cell (i := 3) rfl
      have q4 := hE.cell (i := 4) rfl
      have q5 := hE.cell (i := 5) rfl
      have q6 := hE.cell (i := 6) rfl
      have q7 := hE.cell (i := 7) rfl
      have q8 := hE.cell (i := 8) rfl
      have ql := hE.lt
      have d0 : wr.cell? ⟨wb, o, none⟩ = some (.string f) := hR.head
      have zE := hE.frozen 0
      have hwr : wb < wr.heap.size := Nat.lt_of_lt_of_le hwb hB.size
      have FW := Lib.hid (show ∀ W, Calls Tryz.prog 20 #[.int .i64 ((n : Int) + 1)] W fun e w' => e = .returned (.string (formT (n + 1))) ∧ w' = W from fun W => by
        have h := formWord_any (n + 1) W (by omega) (by omega)
        rw [show ((n + 1 : Nat) : Int) = (n : Int) + 1 by omega] at h
        exact h.mono (fun _ _ h => ⟨h.1, h.2.symm⟩))
      have HF := Lib.hid (show fmI f (n + 1) = if formT (n + 1) = f then (n : Int) + 1 else fmI f n from rfl)
      have hle2 : (n : Int) + 1 ≤ 7 := by omega
      have hln : 0 < (f :: R0).length := by simp
      generalize formT (n + 1) = ft at *
      clear hT hR hE hZ hB
      by_cases he : ft = f
      · have hq : (ft.toList == f.toList) = true := by rw [he]; simp
        have HV := Lib.hid (show fmI f (n + 1) = (n : Int) + 1 by rw [HF.out, if_pos he])
        clear he
        go_wp2_with fail
        go_quiet ((go_at_call 20; exact Calls.quiet_of_same (FW.out _)))
        go_wp2_with fail
        go_roundw
        case rel => exact ⟨n + 1, by omega, by first | rfl | go_num, Lib.hid (by rw [HV.out]; exact (HS.out.below hwb (bel_dN (Below.refl _ _) _)).setE hwb 0 (.int .i64 ((n : Int) + 1)))⟩
        case measure => simp [intOf]; omega
      · have hq := beqF he
        have HV := Lib.hid (show fmI f (n + 1) = fmI f n by rw [HF.out, if_neg he])
        clear he
        go_wp2_with fail
        go_quiet ((go_at_call 20; exact Calls.quiet_of_same (FW.out _)))
        go_wp2_with fail
        go_roundw
        case rel => exact ⟨n + 1, by omega, by first | rfl | go_num, Lib.hid (by rw [HV.out]; exact HS.out.below hwb (bel_dN (Below.refl _ _) _))⟩
        case measure => simp [intOf]; omega
    · have hn7 : n = 7 := by omega
      subst hn7
      have HN0 := Lib.hid (show fmI f 7 = 0 → RES = none from fun h => by rw [← HRES.out]; exact prsE_form h)
      have HN1 := Lib.hid (show R0.length < 4 → RES = none from fun h => by rw [← HRES.out]; exact prsE_short h)
      have HN2 := Lib.hid (show ∀ a l b h R, R0 = a :: l :: b :: h :: R → RES = if fmI f 7 = 0 ∨ a ≠ froB ∨ b ≠ toB then none else match lvW l, lvW h with
        | some lo, some hi => prsC (fmI f 7) lo hi R
        | _, _ => none from fun a l b h R e => by rw [← HRES.out, e]; rfl)
      clear HRES
      generalize fmI f 7 = FM at *
      by_cases hF : FM = 0
      · have HN := HN0.out hF
        have hF0 : (FM == 0) = true := by simp [hF]
        obtain ⟨_, hE, hZ, hB⟩ := HS.out
        clear HN0 HN1 HN2 hF
        have q0 := hE.cell (i := 0) rfl
        have q1 := hE.cell (i := 1) rfl
        have q2 := hE.cell (i := 2) rfl
        have q3 := hE.cell (i := 3) rfl
        have q4 := hE.cell (i := 4) rfl
        have q5 := hE.cell (i := 5) rfl
        have q6 := hE.cell (i := 6) rfl
        have q7 := hE.cell (i := 7) rfl
        have q8 := hE.cell (i := 8) rfl
        have ql := hE.lt
        have r0 := hZ.cell (i := 0) rfl
        have r1 := hZ.cell (i := 1) rfl
        have r2 := hZ.cell (i := 2) rfl
        have r3 := hZ.cell (i := 3) rfl
        have r4 := hZ.cell (i := 4) rfl
        have r5 := hZ.cell (i := 5) rfl
        have r6 := hZ.cell (i := 6) rfl
        have r7 := hZ.cell (i := 7) rfl
        have r8 := hZ.cell (i := 8) rfl
        have z0 := hZ.frozen 0
        have z1 := hZ.frozen 1
        have z2 := hZ.frozen 2
        have z3 := hZ.frozen 3
        have z4 := hZ.frozen 4
        have z5 := hZ.frozen 5
        have z6 := hZ.frozen 6
        have z7 := hZ.frozen 7
        have z8 := hZ.frozen 8
        have rl2 := hZ.lt
        have HX := set9_box hZ (u0 := .int .i64 FM) (u1 := .int .i64 0) (u2 := .int .i64 0) (u3 := .int .i64 0) (u4 := .int .i64 0) (u5 := .int .i64 0) (u6 := .bool false) (u7 := .bool false) (u8 := .slice none 0 0)
        have HB9 := Lib.hid (set9_below hB (show w.heap.size ≤ w.heap.size + 1 by omega) (.int .i64 FM) (.int .i64 0) (.int .i64 0) (.int .i64 0) (.int .i64 0) (.int .i64 0) (.bool false) (.bool false) (.slice none 0 0))
        have HX0 := Lib.hid (HX.cell (i := 0) rfl)
        have HX1 := Lib.hid (HX.cell (i := 1) rfl)
        have HX2 := Lib.hid (HX.cell (i := 2) rfl)
        have HX3 := Lib.hid (HX.cell (i := 3) rfl)
        have HX4 := Lib.hid (HX.cell (i := 4) rfl)
        have HX5 := Lib.hid (HX.cell (i := 5) rfl)
        have HX6 := Lib.hid (HX.cell (i := 6) rfl)
        have HX7 := Lib.hid (HX.cell (i := 7) rfl)
        have HX8 := Lib.hid (HX.cell (i := 8) rfl)
        clear HX hE hZ hB 
        go_wp2_with fail
        exact bodyPost_ret (v := .tuple #[.agg #[.int .i64 FM, .int .i64 0, .int .i64 0, .int .i64 0, .int .i64 0, .int .i64 0, .bool false, .bool false, .slice none 0 0], .bool false]) (by have x0 := HX0.out; have x1 := HX1.out; have x2 := HX2.out; have x3 := HX3.out; have x4 := HX4.out; have x5 := HX5.out; have x6 := HX6.out; have x7 := HX7.out; have x8 := HX8.out; simp [results, Tryz.results7, go_sem, x0, x1, x2, x3, x4, x5, x6, x7, x8]) rfl (HPN.out _ _ HN ⟨_, _, _, _, _, _, _, _, _, _, _, rfl⟩ HB9.out)
      have hF0 : (FM == 0) = false := by simp [hF]
      by_cases h4 : R0.length < 4
      · have HN := HN1.out h4
        have h5 : (R0.length : Int) + 1 < 5 := by omega
        obtain ⟨⟨o, cap, hT, hR, hc1, hc2⟩, hE, hZ, hB⟩ := HS.out
        have t0 : wr.cell? ⟨w.heap.size, 0, none⟩ = some (Value.slice (some ⟨wb, o, none⟩) (R0.length + 1) cap) := hT.cell (i := 0) rfl
        have tl := hT.lt
        clear HN0 HN1 HN2 hF hT hR hc1 hc2
        have q0 := hE.cell (i := 0) rfl
        have q1 := hE.cell (i := 1) rfl
        have q2 := hE.cell (i := 2) rfl
        have q3 := hE.cell (i := 3) rfl
        have q4 := hE.cell (i := 4) rfl
        have q5 := hE.cell (i := 5) rfl
        have q6 := hE.cell (i := 6) rfl
        have q7 := hE.cell (i := 7) rfl
        have q8 := hE.cell (i := 8) rfl
        have ql := hE.lt
        have r0 := hZ.cell (i := 0) rfl
        have r1 := hZ.cell (i := 1) rfl
        have r2 := hZ.cell (i := 2) rfl
        have r3 := hZ.cell (i := 3) rfl
        have r4 := hZ.cell (i := 4) rfl
        have r5 := hZ.cell (i := 5) rfl
        have r6 := hZ.cell (i := 6) rfl
        have r7 := hZ.cell (i := 7) rfl
        have r8 := hZ.cell (i := 8) rfl
        have z0 := hZ.frozen 0
        have z1 := hZ.frozen 1
        have z2 := hZ.frozen 2
        have z3 := hZ.frozen 3
        have z4 := hZ.frozen 4
        have z5 := hZ.frozen 5
        have z6 := hZ.frozen 6
        have z7 := hZ.frozen 7
        have z8 := hZ.frozen 8
        have rl2 := hZ.lt
        have HX := set9_box hZ (u0 := .int .i64 FM) (u1 := .int .i64 0) (u2 := .int .i64 0) (u3 := .int .i64 0) (u4 := .int .i64 0) (u5 := .int .i64 0) (u6 := .bool false) (u7 := .bool false) (u8 := .slice none 0 0)
        have HB9 := Lib.hid (set9_below hB (show w.heap.size ≤ w.heap.size + 1 by omega) (.int .i64 FM) (.int .i64 0) (.int .i64 0) (.int .i64 0) (.int .i64 0) (.int .i64 0) (.bool false) (.bool false) (.slice none 0 0))
        have HX0 := Lib.hid (HX.cell (i := 0) rfl)
        have HX1 := Lib.hid (HX.cell (i := 1) rfl)
        have HX2 := Lib.hid (HX.cell (i := 2) rfl)
        have HX3 := Lib.hid (HX.cell (i := 3) rfl)
        have HX4 := Lib.hid (HX.cell (i := 4) rfl)
        have HX5 := Lib.hid (HX.cell (i := 5) rfl)
        have HX6 := Lib.hid (HX.cell (i := 6) rfl)
        have HX7 := Lib.hid (HX.cell (i := 7) rfl)
        have HX8 := Lib.hid (HX.cell (i := 8) rfl)
        clear HX hE hZ hB 
        go_wp2_with fail
        exact bodyPost_ret (v := .tuple #[.agg #[.int .i64 FM, .int .i64 0, .int .i64 0, .int .i64 0, .int .i64 0, .int .i64 0, .bool false, .bool false, .slice none 0 0], .bool false]) (by have x0 := HX0.out; have x1 := HX1.out; have x2 := HX2.out; have x3 := HX3.out; have x4 := HX4.out; have x5 := HX5.out; have x6 := HX6.out; have x7 := HX7.out; have x8 := HX8.out; simp [results, Tryz.results7, go_sem, x0, x1, x2, x3, x4, x5, x6, x7, x8]) rfl (HPN.out _ _ HN ⟨_, _, _, _, _, _, _, _, _, _, _, rfl⟩ HB9.out)
      obtain ⟨wa, wl, wo, wh, R, rfl⟩ : ∃ wa wl wo wh R, R0 = wa :: wl :: wo :: wh :: R := by
        rcases R0 with _ | ⟨wa, _ | ⟨wl, _ | ⟨wo, _ | ⟨wh, R⟩⟩⟩⟩
        all_goals first | exact ⟨_, _, _, _, _, rfl⟩ | (exact absurd (by simp) h4)
      have HRX := Lib.hid (HN2.out wa wl wo wh R rfl)
      have hsl : wl.size ≤ 9223372036854775807 := Nat.le_trans (HSZ.out wl (by simp)) (by decide)
      have hsh : wh.size ≤ 9223372036854775807 := Nat.le_trans (HSZ.out wh (by simp)) (by decide)
      have CL := Lib.hid (fun W => lread_any wl W hsl)
      have CH := Lib.hid (fun W => lread_any wh W hsh)
      have HSR := Lib.hid (show ∀ x ∈ R, x.size ≤ 5000 from fun x hx => HSZ.out x (by simp [hx]))
      clear HN0 HN1 HN2 h4 hsl hsh
      obtain ⟨⟨o, cap, hT, hR, hc1, hc2⟩, hE, hZ, hB⟩ := HS.out
      have t0 : wr.cell? ⟨w.heap.size, 0, none⟩ = some (Value.slice (some ⟨wb, o, none⟩) (R.length + 5) cap) := hT.cell (i := 0) rfl
      have tl := hT.lt
      have d1 : wr.cell? ⟨wb, o + 1, none⟩ = some (.string wa) := hR 1 (by simp)
      have d2 : wr.cell? ⟨wb, o + 2, none⟩ = some (.string wl) := hR 2 (by simp)
      have d3 : wr.cell? ⟨wb, o + 3, none⟩ = some (.string wo) := hR 3 (by simp)
      have hwr : wb < wr.heap.size := Nat.lt_of_lt_of_le hwb hB.size
      have h5 : ¬ ((R.length : Int) + 5 < 5) := by omega
      clear hT hR hc1 hc2
      by_cases ha : wa = froB
      rotate_left
      · have hq1 : (wa.toList == [102, 114, 111, 109]) = false := beqL ha rfl
        have HN := Lib.hid (show RES = none by rw [HRX.out, if_pos (.inr (.inl ha))])
        clear HRX ha hF
        have q0 := hE.cell (i := 0) rfl
        have q1 := hE.cell (i := 1) rfl
        have q2 := hE.cell (i := 2) rfl
        have q3 := hE.cell (i := 3) rfl
        have q4 := hE.cell (i := 4) rfl
        have q5 := hE.cell (i := 5) rfl
        have q6 := hE.cell (i := 6) rfl
        have q7 := hE.cell (i := 7) rfl
        have q8 := hE.cell (i := 8) rfl
        have ql := hE.lt
        have r0 := hZ.cell (i := 0) rfl
        have r1 := hZ.cell (i := 1) rfl
        have r2 := hZ.cell (i := 2) rfl
        have r3 := hZ.cell (i := 3) rfl
        have r4 := hZ.cell (i := 4) rfl
        have r5 := hZ.cell (i := 5) rfl
        have r6 := hZ.cell (i := 6) rfl
        have r7 := hZ.cell (i := 7) rfl
        have r8 := hZ.cell (i := 8) rfl
        have z0 := hZ.frozen 0
        have z1 := hZ.frozen 1
        have z2 := hZ.frozen 2
        have z3 := hZ.frozen 3
        have z4 := hZ.frozen 4
        have z5 := hZ.frozen 5
        have z6 := hZ.frozen 6
        have z7 := hZ.frozen 7
        have z8 := hZ.frozen 8
        have rl2 := hZ.lt
        have HX := set9_box hZ (u0 := .int .i64 FM) (u1 := .int .i64 0) (u2 := .int .i64 0) (u3 := .int .i64 0) (u4 := .int .i64 0) (u5 := .int .i64 0) (u6 := .bool false) (u7 := .bool false) (u8 := .slice none 0 0)
        have HB9 := Lib.hid (set9_below hB (show w.heap.size ≤ w.heap.size + 1 by omega) (.int .i64 FM) (.int .i64 0) (.int .i64 0) (.int .i64 0) (.int .i64 0) (.int .i64 0) (.bool false) (.bool false) (.slice none 0 0))
        have HX0 := Lib.hid (HX.cell (i := 0) rfl)
        have HX1 := Lib.hid (HX.cell (i := 1) rfl)
        have HX2 := Lib.hid (HX.cell (i := 2) rfl)
        have HX3 := Lib.hid (HX.cell (i := 3) rfl)
        have HX4 := Lib.hid (HX.cell (i := 4) rfl)
        have HX5 := Lib.hid (HX.cell (i := 5) rfl)
        have HX6 := Lib.hid (HX.cell (i := 6) rfl)
        have HX7 := Lib.hid (HX.cell (i := 7) rfl)
        have HX8 := Lib.hid (HX.cell (i := 8) rfl)
        clear HX hE hZ hB 
        go_wp2_with fail
        exact bodyPost_ret (v := .tuple #[.agg #[.int .i64 FM, .int .i64 0, .int .i64 0, .int .i64 0, .int .i64 0, .int .i64 0, .bool false, .bool false, .slice none 0 0], .bool false]) (by have x0 := HX0.out; have x1 := HX1.out; have x2 := HX2.out; have x3 := HX3.out; have x4 := HX4.out; have x5 := HX5.out; have x6 := HX6.out; have x7 := HX7.out; have x8 := HX8.out; simp [results, Tryz.results7, go_sem, x0, x1, x2, x3, x4, x5, x6, x7, x8]) rfl (HPN.out _ _ HN.out ⟨_, _, _, _, _, _, _, _, _, _, _, rfl⟩ HB9.out)
      have hq1 : (wa.toList == [102, 114, 111, 109]) = true := beqM ha rfl
      by_cases ho : wo = toB
      rotate_left
      · have hq3 : (wo.toList == [116, 111]) = false := beqL ho rfl
        have HN := Lib.hid (show RES = none by rw [HRX.out, if_pos (.inr (.inr ho))])
        clear HRX ha ho hF
        have q0 := hE.cell (i := 0) rfl
        have q1 := hE.cell (i := 1) rfl
        have q2 := hE.cell (i := 2) rfl
        have q3 := hE.cell (i := 3) rfl
        have q4 := hE.cell (i := 4) rfl
        have q5 := hE.cell (i := 5) rfl
        have q6 := hE.cell (i := 6) rfl
        have q7 := hE.cell (i := 7) rfl
        have q8 := hE.cell (i := 8) rfl
        have ql := hE.lt
        have r0 := hZ.cell (i := 0) rfl
        have r1 := hZ.cell (i := 1) rfl
        have r2 := hZ.cell (i := 2) rfl
        have r3 := hZ.cell (i := 3) rfl
        have r4 := hZ.cell (i := 4) rfl
        have r5 := hZ.cell (i := 5) rfl
        have r6 := hZ.cell (i := 6) rfl
        have r7 := hZ.cell (i := 7) rfl
        have r8 := hZ.cell (i := 8) rfl
        have z0 := hZ.frozen 0
        have z1 := hZ.frozen 1
        have z2 := hZ.frozen 2
        have z3 := hZ.frozen 3
        have z4 := hZ.frozen 4
        have z5 := hZ.frozen 5
        have z6 := hZ.frozen 6
        have z7 := hZ.frozen 7
        have z8 := hZ.frozen 8
        have rl2 := hZ.lt
        have HX := set9_box hZ (u0 := .int .i64 FM) (u1 := .int .i64 0) (u2 := .int .i64 0) (u3 := .int .i64 0) (u4 := .int .i64 0) (u5 := .int .i64 0) (u6 := .bool false) (u7 := .bool false) (u8 := .slice none 0 0)
        have HB9 := Lib.hid (set9_below hB (show w.heap.size ≤ w.heap.size + 1 by omega) (.int .i64 FM) (.int .i64 0) (.int .i64 0) (.int .i64 0) (.int .i64 0) (.int .i64 0) (.bool false) (.bool false) (.slice none 0 0))
        have HX0 := Lib.hid (HX.cell (i := 0) rfl)
        have HX1 := Lib.hid (HX.cell (i := 1) rfl)
        have HX2 := Lib.hid (HX.cell (i := 2) rfl)
        have HX3 := Lib.hid (HX.cell (i := 3) rfl)
        have HX4 := Lib.hid (HX.cell (i := 4) rfl)
        have HX5 := Lib.hid (HX.cell (i := 5) rfl)
        have HX6 := Lib.hid (HX.cell (i := 6) rfl)
        have HX7 := Lib.hid (HX.cell (i := 7) rfl)
        have HX8 := Lib.hid (HX.cell (i := 8) rfl)
        clear HX hE hZ hB 
        go_wp2_with fail
        exact bodyPost_ret (v := .tuple #[.agg #[.int .i64 FM, .int .i64 0, .int .i64 0, .int .i64 0, .int .i64 0, .int .i64 0, .bool false, .bool false, .slice none 0 0], .bool false]) (by have x0 := HX0.out; have x1 := HX1.out; have x2 := HX2.out; have x3 := HX3.out; have x4 := HX4.out; have x5 := HX5.out; have x6 := HX6.out; have x7 := HX7.out; have x8 := HX8.out; simp [results, Tryz.results7, go_sem, x0, x1, x2, x3, x4, x5, x6, x7, x8]) rfl (HPN.out _ _ HN.out ⟨_, _, _, _, _, _, _, _, _, _, _, rfl⟩ HB9.out)
      have hq3 : (wo.toList == [116, 111]) = true := beqM ho rfl
      have HRY := Lib.hid (show RES = match lvW wl, lvW wh with
        | some lo, some hi => prsC FM lo hi R
        | _, _ => none by rw [HRX.out, if_neg (by simp [hF, ha, ho])])
      clear HRX ha ho hF hZ
      have q0 := hE.cell (i := 0) rfl
      have ql := hE.lt
      clear hE hB
      go_wp2_with fail
      generalize lvW wl = vl at *
      generalize lvW wh = vh at *
      refine (CL.out _).mono ?_
      rintro e w2 ⟨rfl, hb2⟩
      have HS2 := Lib.hid (HS.out.below hwb hb2)
      clear hb2 HS CL t0 tl d1 d2 d3 q0 ql hwr hq1 hq3 h5
      obtain ⟨⟨o, cap, hT, hR, hc1, hc2⟩, hE, hZ, hB⟩ := HS2.out
      have t0 : w2.cell? ⟨w.heap.size, 0, none⟩ = some (Value.slice (some ⟨wb, o, none⟩) (R.length + 5) cap) := hT.cell (i := 0) rfl
      have tl := hT.lt
      have d4 : w2.cell? ⟨wb, o + 4, none⟩ = some (.string wh) := hR 4 (by simp)
      have hwr : wb < w2.heap.size := Nat.lt_of_lt_of_le hwb hB.size
      clear hT hR hc1 hc2 hE hZ hB
      rcases vl with _ | lo
      · have HN := Lib.hid (show RES = none by rw [HRY.out])
        simp only [Option.isSome_none, Option.getD_none, if_false, Bool.false_eq_true]
        go_wp2_with fail
        refine (CH.out _).mono ?_
        rintro e w3 ⟨rfl, hb3⟩
        have HS3 := Lib.hid (HS2.out.below hwb hb3)
        clear hb3 HS2 CH t0 tl d4 hwr
        generalize vh.getD 0 = gh at *
        generalize (if vh.isSome = true then (0 : Int) else 9) = gf at *
        obtain ⟨_, hE, hZ, hB⟩ := HS3.out
        clear HRY
        have q0 := hE.cell (i := 0) rfl
        have q1 := hE.cell (i := 1) rfl
        have q2 := hE.cell (i := 2) rfl
        have q3 := hE.cell (i := 3) rfl
        have q4 := hE.cell (i := 4) rfl
        have q5 := hE.cell (i := 5) rfl
        have q6 := hE.cell (i := 6) rfl
        have q7 := hE.cell (i := 7) rfl
        have q8 := hE.cell (i := 8) rfl
        have ql := hE.lt
        have r0 := hZ.cell (i := 0) rfl
        have r1 := hZ.cell (i := 1) rfl
        have r2 := hZ.cell (i := 2) rfl
        have r3 := hZ.cell (i := 3) rfl
        have r4 := hZ.cell (i := 4) rfl
        have r5 := hZ.cell (i := 5) rfl
        have r6 := hZ.cell (i := 6) rfl
        have r7 := hZ.cell (i := 7) rfl
        have r8 := hZ.cell (i := 8) rfl
        have z0 := hZ.frozen 0
        have z1 := hZ.frozen 1
        have z2 := hZ.frozen 2
        have z3 := hZ.frozen 3
        have z4 := hZ.frozen 4
        have z5 := hZ.frozen 5
        have z6 := hZ.frozen 6
        have z7 := hZ.frozen 7
        have z8 := hZ.frozen 8
        have rl2 := hZ.lt
        have HX := set9_box hZ (u0 := .int .i64 FM) (u1 := .int .i64 0) (u2 := .int .i64 0) (u3 := .int .i64 0) (u4 := .int .i64 0) (u5 := .int .i64 0) (u6 := .bool false) (u7 := .bool false) (u8 := .slice none 0 0)
        have HB9 := Lib.hid (set9_below hB (show w.heap.size ≤ w.heap.size + 1 by omega) (.int .i64 FM) (.int .i64 0) (.int .i64 0) (.int .i64 0) (.int .i64 0) (.int .i64 0) (.bool false) (.bool false) (.slice none 0 0))
        have HX0 := Lib.hid (HX.cell (i := 0) rfl)
        have HX1 := Lib.hid (HX.cell (i := 1) rfl)
        have HX2 := Lib.hid (HX.cell (i := 2) rfl)
        have HX3 := Lib.hid (HX.cell (i := 3) rfl)
        have HX4 := Lib.hid (HX.cell (i := 4) rfl)
        have HX5 := Lib.hid (HX.cell (i := 5) rfl)
        have HX6 := Lib.hid (HX.cell (i := 6) rfl)
        have HX7 := Lib.hid (HX.cell (i := 7) rfl)
        have HX8 := Lib.hid (HX.cell (i := 8) rfl)
        clear HX hE hZ hB 
        go_wp2_with fail
        exact bodyPost_ret (v := .tuple #[.agg #[.int .i64 FM, .int .i64 0, .int .i64 0, .int .i64 0, .int .i64 0, .int .i64 0, .bool false, .bool false, .slice none 0 0], .bool false]) (by have x0 := HX0.out; have x1 := HX1.out; have x2 := HX2.out; have x3 := HX3.out; have x4 := HX4.out; have x5 := HX5.out; have x6 := HX6.out; have x7 := HX7.out; have x8 := HX8.out; simp [results, Tryz.results7, go_sem, x0, x1, x2, x3, x4, x5, x6, x7, x8]) rfl (HPN.out _ _ HN.out ⟨_, _, _, _, _, _, _, _, _, _, _, rfl⟩ HB9.out)
      simp only [Option.isSome_some, Option.getD_some, if_true]
      go_wp2_with fail
      rcases vh with _ | hi
      · have HN := Lib.hid (show RES = none by rw [HRY.out])
        refine (CH.out _).mono ?_
        rintro e w3 ⟨rfl, hb3⟩
        have HS3 := Lib.hid (HS2.out.below hwb hb3)
        clear hb3 HS2 CH t0 tl d4 hwr
        obtain ⟨_, hE, hZ, hB⟩ := HS3.out
        clear HRY
        simp only [Option.isSome_none, Option.getD_none, if_false, Bool.false_eq_true]
        have q0 := hE.cell (i := 0) rfl
        have q1 := hE.cell (i := 1) rfl
        have q2 := hE.cell (i := 2) rfl
        have q3 := hE.cell (i := 3) rfl
        have q4 := hE.cell (i := 4) rfl
        have q5 := hE.cell (i := 5) rfl
        have q6 := hE.cell (i := 6) rfl
        have q7 := hE.cell (i := 7) rfl
        have q8 := hE.cell (i := 8) rfl
        have ql := hE.lt
        have r0 := hZ.cell (i := 0) rfl
        have r1 := hZ.cell (i := 1) rfl
        have r2 := hZ.cell (i := 2) rfl
        have r3 := hZ.cell (i := 3) rfl
        have r4 := hZ.cell (i := 4) rfl
        have r5 := hZ.cell (i := 5) rfl
        have r6 := hZ.cell (i := 6) rfl
        have r7 := hZ.cell (i := 7) rfl
        have r8 := hZ.cell (i := 8) rfl
        have z0 := hZ.frozen 0
        have z1 := hZ.frozen 1
        have z2 := hZ.frozen 2
        have z3 := hZ.frozen 3
        have z4 := hZ.frozen 4
        have z5 := hZ.frozen 5
        have z6 := hZ.frozen 6
        have z7 := hZ.frozen 7
        have z8 := hZ.frozen 8
        have rl2 := hZ.lt
        have HX := set9_box hZ (u0 := .int .i64 FM) (u1 := .int .i64 0) (u2 := .int .i64 0) (u3 := .int .i64 0) (u4 := .int .i64 0) (u5 := .int .i64 0) (u6 := .bool false) (u7 := .bool false) (u8 := .slice none 0 0)
        have HB9 := Lib.hid (set9_below hB (show w.heap.size ≤ w.heap.size + 1 by omega) (.int .i64 FM) (.int .i64 0) (.int .i64 0) (.int .i64 0) (.int .i64 0) (.int .i64 0) (.bool false) (.bool false) (.slice none 0 0))
        have HX0 := Lib.hid (HX.cell (i := 0) rfl)
        have HX1 := Lib.hid (HX.cell (i := 1) rfl)
        have HX2 := Lib.hid (HX.cell (i := 2) rfl)
        have HX3 := Lib.hid (HX.cell (i := 3) rfl)
        have HX4 := Lib.hid (HX.cell (i := 4) rfl)
        have HX5 := Lib.hid (HX.cell (i := 5) rfl)
        have HX6 := Lib.hid (HX.cell (i := 6) rfl)
        have HX7 := Lib.hid (HX.cell (i := 7) rfl)
        have HX8 := Lib.hid (HX.cell (i := 8) rfl)
        clear HX hE hZ hB 
        go_wp2_with fail
        exact bodyPost_ret (v := .tuple #[.agg #[.int .i64 FM, .int .i64 0, .int .i64 0, .int .i64 0, .int .i64 0, .int .i64 0, .bool false, .bool false, .slice none 0 0], .bool false]) (by have x0 := HX0.out; have x1 := HX1.out; have x2 := HX2.out; have x3 := HX3.out; have x4 := HX4.out; have x5 := HX5.out; have x6 := HX6.out; have x7 := HX7.out; have x8 := HX8.out; simp [results, Tryz.results7, go_sem, x0, x1, x2, x3, x4, x5, x6, x7, x8]) rfl (HPN.out _ _ HN.out ⟨_, _, _, _, _, _, _, _, _, _, _, rfl⟩ HB9.out)
      · refine (CH.out _).mono ?_
        rintro e w3 ⟨rfl, hb3⟩
        have HS3 := Lib.hid (HS2.out.below hwb hb3)
        clear hb3 HS2 CH t0 tl d4 hwr
        simp only [Option.isSome_some, Option.getD_some, if_true]
        have HRZ := Lib.hid (show RES = prsC FM lo hi R from HRY.out)
        clear HRY
        go_upto_region 11 with fail
        rename_i KA hKA KB hKB
        go_cut [76] (fun s wx => s = .bool false ∧ w3 = wx)
        case first =>
          go_wp2_with fail
          go_meet
          exact ⟨rfl, rfl⟩
        case rest =>
        obtain ⟨rfl, rfl⟩ := hcut
        go_upto_if 76 with fail
        go_cut [] (fun wx => w3 = wx)
        case first =>
          go_wp2_with fail
          go_meet
          rfl
        case rest =>
        obtain rfl := hcut
        exact hKA _ _ (et13 hwb HTX HRZ HSR HS3)
end Go.Proofs.YtfidbdegggalmaaGreatDoor
