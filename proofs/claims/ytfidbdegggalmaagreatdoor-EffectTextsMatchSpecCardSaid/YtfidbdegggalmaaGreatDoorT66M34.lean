/- effect.Read at any text. (printed by wip/gen/gen_ereadtop.py) -/
import Derived.Test.YtfidbdegggalmaaGreatDoorT66M31
import Derived.Test.YtfidbdegggalmaaGreatDoorT66M33
import Derived.Deep.DeepCutAuto

namespace Go.Proofs.YtfidbdegggalmaaGreatDoor
open Go.RowKit
set_option linter.unusedVariables false
set_option linter.unusedSimpArgs false

set_option maxRecDepth 100000 in
set_option maxHeartbeats 16000000 in
theorem eRead_any (s : ByteArray) (w : World) (hT : TextW w) :
    Calls Tryz.prog 4 #[.string s] w (ReadPost s w) := by
  have HPZ := Lib.hid (show ∀ f w', rdR s = zEff → rdE s = f → Below w.heap.size w w' → ReadPost s w (.returned (.tuple #[.agg #[.int .i64 0, .int .i64 0, .int .i64 0, .int .i64 0, .int .i64 0, .int .i64 0, .bool false, .bool false, .slice none 0 0], .int .i64 f])) w' from fun f w' h1 h2 hb => by
    refine ⟨hb, .slice none 0 0, ?_, ?_⟩
    · rw [h1, h2]; rfl
    · rw [h1]; exact ⟨none, 0, rfl, Nat.zero_le _, fun h => absurd rfl h⟩)
  have HPE := Lib.hid (show ∀ E sv w', rdR s = E → rdE s = 0 → StS w'.heap.size w' sv E.steps → Below w.heap.size w w' → ReadPost s w (.returned (.tuple #[effV E sv, .int .i64 0])) w' from fun E sv w' h1 h2 h3 hb => by
    refine ⟨hb, sv, ?_, ?_⟩
    · rw [h1, h2]
    · rw [h1]; exact h3)
  have HZ0 := Lib.hid (show TBox (w.alloc (.cells #[.int .i64 0, .int .i64 0, .int .i64 0, .int .i64 0, .int .i64 0, .int .i64 0, .bool false, .bool false, .slice none 0 0] 24)) w.heap.size 24 #[.int .i64 0, .int .i64 0, .int .i64 0, .int .i64 0, .int .i64 0, .int .i64 0, .bool false, .bool false, .slice none 0 0] from TBox.new w _ _)
  have HB0 := Lib.hid (show Below w.heap.size w (w.alloc (.cells #[.int .i64 0, .int .i64 0, .int .i64 0, .int .i64 0, .int .i64 0, .int .i64 0, .bool false, .bool false, .slice none 0 0] 24)) from (Below.refl _ _).alloc (Nat.le_refl _) _)
  by_cases hl : 4000 < s.size
  · have HRR := Lib.hid (show rdR s = zEff from if_pos hl)
    have HRF := Lib.hid (show rdE s = 2 from if_pos hl)
    have hl2 : (4000 : Int) < (s.size : Int) := by omega
    clear hT hl
    go_enter Tryz.func4, Tryz.ntmps4
    go_upto_region 1 with fail
    have hZ := HZ0.out
    have hB := HB0.out
    generalize w.alloc (.cells #[.int .i64 0, .int .i64 0, .int .i64 0, .int .i64 0, .int .i64 0, .int .i64 0, .bool false, .bool false, .slice none 0 0] 24) = w1 at *
    clear HZ0 HB0
    go_upto_region 2 with fail
    go_cut [3] (fun s wx => s = .int .i64 (2) ∧ Hid (TBox wx w.heap.size 24 #[.int .i64 0, .int .i64 0, .int .i64 0, .int .i64 0, .int .i64 0, .int .i64 0, .bool false, .bool false, .slice none 0 0]) ∧ Hid (Below w.heap.size w wx))
    case first =>
      have r0 := hZ.cell (i := 0) rfl
      have r1 := hZ.cell (i := 1) rfl
      have r2 := hZ.cell (i := 2) rfl
      have r3 := hZ.cell (i := 3) rfl
      have r4 := hZ.cell (i := 4) rfl
      have r5 := hZ.cell (i := 5) rfl
      have r6 := hZ.cell (i := 6) rfl
      have r7 := hZ.cell (i := 7) rfl
      have r8 := hZ.cell (i := 8) rfl
      have z0 := hZ.frozen 0
      have z1 := hZ.frozen 1
      have z2 := hZ.frozen 2
      have z3 := hZ.frozen 3
      have z4 := hZ.frozen 4
      have z5 := hZ.frozen 5
      have z6 := hZ.frozen 6
      have z7 := hZ.frozen 7
      have z8 := hZ.frozen 8
      have rl2 := hZ.lt
      have HXB := Lib.hid (set9_box (w := w1) hZ (u0 := .int .i64 0) (u1 := .int .i64 0) (u2 := .int .i64 0) (u3 := .int .i64 0) (u4 := .int .i64 0) (u5 := .int .i64 0) (u6 := .bool false) (u7 := .bool false) (u8 := .slice none 0 0))
      have HB9 := Lib.hid (set9_below (W := w1) hB (show w.heap.size ≤ w.heap.size from Nat.le_refl _) (.int .i64 0) (.int .i64 0) (.int .i64 0) (.int .i64 0) (.int .i64 0) (.int .i64 0) (.bool false) (.bool false) (.slice none 0 0))
      clear hZ hB 
      go_wp2_with fail
      go_meet
      exact ⟨rfl, HXB, HB9⟩
    case rest =>
      rename_i KK hKK
      obtain ⟨rfl, HQ, HB9⟩ := hcut
      have x0 := HQ.out.cell (i := 0) rfl
      have x1 := HQ.out.cell (i := 1) rfl
      have x2 := HQ.out.cell (i := 2) rfl
      have x3 := HQ.out.cell (i := 3) rfl
      have x4 := HQ.out.cell (i := 4) rfl
      have x5 := HQ.out.cell (i := 5) rfl
      have x6 := HQ.out.cell (i := 6) rfl
      have x7 := HQ.out.cell (i := 7) rfl
      have x8 := HQ.out.cell (i := 8) rfl
      refine hKK _ _ (wp_ret ?_)
      exact bodyPost_ret (v := .tuple #[.agg #[.int .i64 0, .int .i64 0, .int .i64 0, .int .i64 0, .int .i64 0, .int .i64 0, .bool false, .bool false, .slice none 0 0], .int .i64 (2)]) (by simp [results, Tryz.results4, go_sem, x0, x1, x2, x3, x4, x5, x6, x7, x8]) rfl (HPZ.out 2 _ HRR.out HRF.out HB9.out)
  have HRR0 := Lib.hid (show rdR s = match prsE (wordsB 32 s) with | none => zEff | some E => if chkEf E = 0 then E else zEff from if_neg hl)
  have HRF0 := Lib.hid (show rdE s = match prsE (wordsB 32 s) with | none => 9 | some E => chkEf E from if_neg hl)
  have hl2 : ¬ ((4000 : Int) < (s.size : Int)) := by omega
  have CS := Lib.hid (fun W (hb : Below w.heap.size w W) => split_any 32 s W (hT.below hb) (by omega))
  have HWL := Lib.hid (wordsB_le 32 s)
  have HWS := Lib.hid (wordsB_size 32 s)
  have HWP := wordsB_pos 32 s
  obtain ⟨f, R0, hfr⟩ : ∃ f R0, wordsB 32 s = f :: R0 := by
    cases hw : wordsB 32 s with
    | nil => rw [hw] at HWP; simp at HWP
    | cons f R0 => exact ⟨f, R0, rfl⟩
  rw [hfr] at CS HWL HWS HRR0 HRF0
  have HLEN := Lib.hid (show (f :: R0).length ≤ 100000 by have := HWL.out; omega)
  have HSZ := Lib.hid (show ∀ x ∈ f :: R0, x.size ≤ 5000 from fun x hx => by have := HWS.out x hx; omega)
  have HTX := Lib.hid (show ∀ W, Below w.heap.size w W → TextW W from fun W hb => hT.below hb)
  clear HWL HWS HWP hfr hl hT
  go_enter Tryz.func4, Tryz.ntmps4
  go_wp2_with fail
  refine (CS.out _ HB0.out).mono ?_
  rintro e w2 ⟨rfl, hrow, hb2, hlt2⟩
  have HZ2 := Lib.hid (HZ0.out.below hb2)
  have HB2 := Lib.hid (HB0.out.trans (hb2.mono HB0.out.size))
  have hsz : (w.alloc (.cells #[.int .i64 0, .int .i64 0, .int .i64 0, .int .i64 0, .int .i64 0, .int .i64 0, .bool false, .bool false, .slice none 0 0] 24)).heap.size = w.heap.size + 1 := by simp
  rw [hsz] at hrow hlt2
  clear hb2 HZ0 HB0 CS hsz
  go_wp2_with fail
  refine (eread_any f R0 (w.heap.size + 1) 0 (f :: R0).length w2 (HTX.out _ HB2.out) hrow hlt2 (Nat.le_refl _) HLEN.out HSZ.out).mono ?_
  rintro e w3 ⟨hb3, hm⟩
  have HZ3 := Lib.hid (HZ2.out.below hb3)
  have HB3 := Lib.hid (HB2.out.trans (hb3.mono HB2.out.size))
  have hlt3 := hlt2
  clear hb3 HZ2 HB2 hrow hlt2 HLEN HSZ HTX
  generalize prsE (f :: R0) = pr at *
  cases pr with
  | none =>
    obtain ⟨v, ⟨form, lo, hi, cy, wd, sp, bk, rl, so, sl, sc, rfl⟩, rfl⟩ := hm
    have HRR := Lib.hid (show rdR s = zEff from HRR0.out)
    have HRF := Lib.hid (show rdE s = 9 from HRF0.out)
    have hZ := HZ3.out.alloc (.cells #[.int .i64 form, .int .i64 lo, .int .i64 hi, .int .i64 cy, .int .i64 wd, .int .i64 sp, .bool bk, .bool rl, .slice so sl sc] 24)
    have hB := HB3.out.alloc (HB3.out.size) (.cells #[.int .i64 form, .int .i64 lo, .int .i64 hi, .int .i64 cy, .int .i64 wd, .int .i64 sp, .bool bk, .bool rl, .slice so sl sc] 24)
    clear HRR0 HRF0 HZ3 HB3
    go_upto_region 5 with fail
    go_cut [3] (fun s wx => s = .int .i64 (9) ∧ Hid (TBox wx w.heap.size 24 #[.int .i64 0, .int .i64 0, .int .i64 0, .int .i64 0, .int .i64 0, .int .i64 0, .bool false, .bool false, .slice none 0 0]) ∧ Hid (Below w.heap.size w wx))
    case first =>
      have r0 := hZ.cell (i := 0) rfl
      have r1 := hZ.cell (i := 1) rfl
      have r2 := hZ.cell (i := 2) rfl
      have r3 := hZ.cell (i := 3) rfl
      have r4 := hZ.cell (i := 4) rfl
      have r5 := hZ.cell (i := 5) rfl
      have r6 := hZ.cell (i := 6) rfl
      have r7 := hZ.cell (i := 7) rfl
      have r8 := hZ.cell (i := 8) rfl
      have z0 := hZ.frozen 0
      have z1 := hZ.frozen 1
      have z2 := hZ.frozen 2
      have z3 := hZ.frozen 3
      have z4 := hZ.frozen 4
      have z5 := hZ.frozen 5
      have z6 := hZ.frozen 6
      have z7 := hZ.frozen 7
      have z8 := hZ.frozen 8
      have rl2 := hZ.lt
      have HXB := Lib.hid (set9_box (w := w3.alloc (.cells #[.int .i64 form, .int .i64 lo, .int .i64 hi, .int .i64 cy, .int .i64 wd, .int .i64 sp, .bool bk, .bool rl, .slice so sl sc] 24)) hZ (u0 := .int .i64 0) (u1 := .int .i64 0) (u2 := .int .i64 0) (u3 := .int .i64 0) (u4 := .int .i64 0) (u5 := .int .i64 0) (u6 := .bool false) (u7 := .bool false) (u8 := .slice none 0 0))
      have HB9 := Lib.hid (set9_below (W := w3.alloc (.cells #[.int .i64 form, .int .i64 lo, .int .i64 hi, .int .i64 cy, .int .i64 wd, .int .i64 sp, .bool bk, .bool rl, .slice so sl sc] 24)) hB (show w.heap.size ≤ w.heap.size from Nat.le_refl _) (.int .i64 0) (.int .i64 0) (.int .i64 0) (.int .i64 0) (.int .i64 0) (.int .i64 0) (.bool false) (.bool false) (.slice none 0 0))
      clear hZ hB 
      go_wp2_with fail
      go_meet
      exact ⟨rfl, HXB, HB9⟩
    case rest =>
      rename_i KK hKK
      obtain ⟨rfl, HQ, HB9⟩ := hcut
      have x0 := HQ.out.cell (i := 0) rfl
      have x1 := HQ.out.cell (i := 1) rfl
      have x2 := HQ.out.cell (i := 2) rfl
      have x3 := HQ.out.cell (i := 3) rfl
      have x4 := HQ.out.cell (i := 4) rfl
      have x5 := HQ.out.cell (i := 5) rfl
      have x6 := HQ.out.cell (i := 6) rfl
      have x7 := HQ.out.cell (i := 7) rfl
      have x8 := HQ.out.cell (i := 8) rfl
      refine hKK _ _ (wp_ret ?_)
      exact bodyPost_ret (v := .tuple #[.agg #[.int .i64 0, .int .i64 0, .int .i64 0, .int .i64 0, .int .i64 0, .int .i64 0, .bool false, .bool false, .slice none 0 0], .int .i64 (9)]) (by simp [results, Tryz.results4, go_sem, x0, x1, x2, x3, x4, x5, x6, x7, x8]) rfl (HPZ.out 9 _ HRR.out HRF.out HB9.out)
  | some E =>
    obtain ⟨sv, rfl, hst, hfr⟩ := hm
    obtain ⟨form, lo, hi, cy, wd, sp, bk, rl, l⟩ := E
    have hst := show StS w3.heap.size w3 sv l from hst
    obtain ⟨ao, cap, rfl, hmax, _⟩ := id hst
    have HB4 := Lib.hid (show Below w3.heap.size w3 (w3.alloc (.cells #[.int .i64 form, .int .i64 lo, .int .i64 hi, .int .i64 cy, .int .i64 wd, .int .i64 sp, .bool bk, .bool rl, .slice ao l.length cap] 24)) from (Below.refl _ _).alloc (Nat.le_refl _) _)
    have HSA := Lib.hid ((stsAt_of hst).2.2)
    have HST := Lib.hid hst
    have HFR := Lib.hid (show FreshS (w.heap.size + 1) (.slice ao l.length cap) from hfr.more (Nat.le_of_lt hlt3))
    have CK := Lib.hid (fun W (hb : Below w3.heap.size w3 W) => efCheck_any form lo hi cy wd sp bk rl ao cap l W (stsAt_below HSA.out hb) hmax)
    have HRR := Lib.hid (show rdR s = if chkF form lo hi cy wd sp l = 0 then ⟨form, lo, hi, cy, wd, sp, bk, rl, l⟩ else zEff from HRR0.out)
    have HRF := Lib.hid (show rdE s = chkF form lo hi cy wd sp l from HRF0.out)
    have HE4 := Lib.hid (show TBox (w3.alloc (.cells #[.int .i64 form, .int .i64 lo, .int .i64 hi, .int .i64 cy, .int .i64 wd, .int .i64 sp, .bool bk, .bool rl, .slice ao l.length cap] 24)) w3.heap.size 24 #[.int .i64 form, .int .i64 lo, .int .i64 hi, .int .i64 cy, .int .i64 wd, .int .i64 sp, .bool bk, .bool rl, .slice ao l.length cap] from TBox.new _ _ _)
    have HZ4 := Lib.hid (HZ3.out.alloc (.cells #[.int .i64 form, .int .i64 lo, .int .i64 hi, .int .i64 cy, .int .i64 wd, .int .i64 sp, .bool bk, .bool rl, .slice ao l.length cap] 24))
    have HBW := Lib.hid (HB3.out.trans (HB4.out.mono HB3.out.size))
    generalize chkF form lo hi cy wd sp l = ck at *
    simp only [effV]
    clear HRR0 HRF0 HZ3 hst hmax
    go_wp2_with fail
    refine (CK.out _ HB4.out).mono ?_
    rintro e w5 ⟨rfl, hb5⟩
    have hE := HE4.out.below hb5
    have hZ := HZ4.out.below hb5
    have hB := HBW.out.trans (hb5.mono HBW.out.size)
    have HB5 := Lib.hid (HB4.out.trans (hb5.mono HB4.out.size))
    have HLT5 := Lib.hid HB5.out.size
    clear hb5 HE4 HZ4 HBW HB4 CK HB3 HSA
    by_cases hck : ck = 0
    · have HRR1 := Lib.hid (show rdR s = ⟨form, lo, hi, cy, wd, sp, bk, rl, l⟩ by rw [HRR.out, if_pos hck])
      have HRF1 := Lib.hid (show rdE s = 0 by rw [HRF.out, hck])
      have hcb : (ck != 0) = false := by simp [hck]
      clear HRR HRF
      go_upto_region 9 with fail
      go_cut [3] (fun s wx => s = .int .i64 (0) ∧ Hid (TBox wx w.heap.size 24 #[.int .i64 form, .int .i64 lo, .int .i64 hi, .int .i64 cy, .int .i64 wd, .int .i64 sp, .bool bk, .bool rl, .slice ao l.length cap]) ∧ Hid (Below w.heap.size w wx) ∧ Hid (StS wx.heap.size wx (.slice ao l.length cap) l))
      case first =>
        have q0 := hE.cell (i := 0) rfl
        have q1 := hE.cell (i := 1) rfl
        have q2 := hE.cell (i := 2) rfl
        have q3 := hE.cell (i := 3) rfl
        have q4 := hE.cell (i := 4) rfl
        have q5 := hE.cell (i := 5) rfl
        have q6 := hE.cell (i := 6) rfl
        have q7 := hE.cell (i := 7) rfl
        have q8 := hE.cell (i := 8) rfl
        have ql := hE.lt
        have r0 := hZ.cell (i := 0) rfl
        have r1 := hZ.cell (i := 1) rfl
        have r2 := hZ.cell (i := 2) rfl
        have r3 := hZ.cell (i := 3) rfl
        have r4 := hZ.cell (i := 4) rfl
        have r5 := hZ.cell (i := 5) rfl
        have r6 := hZ.cell (i := 6) rfl
        have r7 := hZ.cell (i := 7) rfl
        have r8 := hZ.cell (i := 8) rfl
        have z0 := hZ.frozen 0
        have z1 := hZ.frozen 1
        have z2 := hZ.frozen 2
        have z3 := hZ.frozen 3
        have z4 := hZ.frozen 4
        have z5 := hZ.frozen 5
        have z6 := hZ.frozen 6
        have z7 := hZ.frozen 7
        have z8 := hZ.frozen 8
        have rl2 := hZ.lt
        have HXB := Lib.hid (set9_box (w := w5) hZ (u0 := .int .i64 form) (u1 := .int .i64 lo) (u2 := .int .i64 hi) (u3 := .int .i64 cy) (u4 := .int .i64 wd) (u5 := .int .i64 sp) (u6 := .bool bk) (u7 := .bool rl) (u8 := .slice ao l.length cap))
        have HB9 := Lib.hid (set9_below (W := w5) hB (show w.heap.size ≤ w.heap.size from Nat.le_refl _) (.int .i64 form) (.int .i64 lo) (.int .i64 hi) (.int .i64 cy) (.int .i64 wd) (.int .i64 sp) (.bool bk) (.bool rl) (.slice ao l.length cap))
        have HS9 := Lib.hid ((HST.out.below HB5.out).ret9 HFR.out (show w.heap.size < w.heap.size + 1 by omega) HLT5.out (.int .i64 form) (.int .i64 lo) (.int .i64 hi) (.int .i64 cy) (.int .i64 wd) (.int .i64 sp) (.bool bk) (.bool rl) (.slice ao l.length cap))
        clear HST HB5 HFR HLT5
        clear hZ hB hE
        go_wp2_with fail
        go_meet
        exact ⟨rfl, HXB, HB9, HS9⟩
      case rest =>
        rename_i KK hKK
        obtain ⟨rfl, HQ, HB9, HS9⟩ := hcut
        have x0 := HQ.out.cell (i := 0) rfl
        have x1 := HQ.out.cell (i := 1) rfl
        have x2 := HQ.out.cell (i := 2) rfl
        have x3 := HQ.out.cell (i := 3) rfl
        have x4 := HQ.out.cell (i := 4) rfl
        have x5 := HQ.out.cell (i := 5) rfl
        have x6 := HQ.out.cell (i := 6) rfl
        have x7 := HQ.out.cell (i := 7) rfl
        have x8 := HQ.out.cell (i := 8) rfl
        refine hKK _ _ (wp_ret ?_)
        exact bodyPost_ret (v := .tuple #[.agg #[.int .i64 form, .int .i64 lo, .int .i64 hi, .int .i64 cy, .int .i64 wd, .int .i64 sp, .bool bk, .bool rl, .slice ao l.length cap], .int .i64 (0)]) (by simp [results, Tryz.results4, go_sem, x0, x1, x2, x3, x4, x5, x6, x7, x8]) rfl (HPE.out ⟨form, lo, hi, cy, wd, sp, bk, rl, l⟩ _ _ HRR1.out HRF1.out HS9.out HB9.out)
    · have HRR1 := Lib.hid (show rdR s = zEff by rw [HRR.out, if_neg hck])
      have hcb : (ck != 0) = true := by simp [hck]
      clear HRR HST HB5
      go_upto_region 8 with fail
      go_cut [3] (fun s wx => s = .int .i64 (ck) ∧ Hid (TBox wx w.heap.size 24 #[.int .i64 0, .int .i64 0, .int .i64 0, .int .i64 0, .int .i64 0, .int .i64 0, .bool false, .bool false, .slice none 0 0]) ∧ Hid (Below w.heap.size w wx))
      case first =>
        have q0 := hE.cell (i := 0) rfl
        have q1 := hE.cell (i := 1) rfl
        have q2 := hE.cell (i := 2) rfl
        have q3 := hE.cell (i := 3) rfl
        have q4 := hE.cell (i := 4) rfl
        have q5 := hE.cell (i := 5) rfl
        have q6 := hE.cell (i := 6) rfl
        have q7 := hE.cell (i := 7) rfl
        have q8 := hE.cell (i := 8) rfl
        have ql := hE.lt
        have r0 := hZ.cell (i := 0) rfl
        have r1 := hZ.cell (i := 1) rfl
        have r2 := hZ.cell (i := 2) rfl
        have r3 := hZ.cell (i := 3) rfl
        have r4 := hZ.cell (i := 4) rfl
        have r5 := hZ.cell (i := 5) rfl
        have r6 := hZ.cell (i := 6) rfl
        have r7 := hZ.cell (i := 7) rfl
        have r8 := hZ.cell (i := 8) rfl
        have z0 := hZ.frozen 0
        have z1 := hZ.frozen 1
        have z2 := hZ.frozen 2
        have z3 := hZ.frozen 3
        have z4 := hZ.frozen 4
        have z5 := hZ.frozen 5
        have z6 := hZ.frozen 6
        have z7 := hZ.frozen 7
        have z8 := hZ.frozen 8
        have rl2 := hZ.lt
        have HXB := Lib.hid (set9_box (w := w5) hZ (u0 := .int .i64 0) (u1 := .int .i64 0) (u2 := .int .i64 0) (u3 := .int .i64 0) (u4 := .int .i64 0) (u5 := .int .i64 0) (u6 := .bool false) (u7 := .bool false) (u8 := .slice none 0 0))
        have HB9 := Lib.hid (set9_below (W := w5) hB (show w.heap.size ≤ w.heap.size from Nat.le_refl _) (.int .i64 0) (.int .i64 0) (.int .i64 0) (.int .i64 0) (.int .i64 0) (.int .i64 0) (.bool false) (.bool false) (.slice none 0 0))
        clear hZ hB hE
        go_wp2_with fail
        go_meet
        exact ⟨rfl, HXB, HB9⟩
      case rest =>
        rename_i KK hKK
        obtain ⟨rfl, HQ, HB9⟩ := hcut
        have x0 := HQ.out.cell (i := 0) rfl
        have x1 := HQ.out.cell (i := 1) rfl
        have x2 := HQ.out.cell (i := 2) rfl
        have x3 := HQ.out.cell (i := 3) rfl
        have x4 := HQ.out.cell (i := 4) rfl
        have x5 := HQ.out.cell (i := 5) rfl
        have x6 := HQ.out.cell (i := 6) rfl
        have x7 := HQ.out.cell (i := 7) rfl
        have x8 := HQ.out.cell (i := 8) rfl
        refine hKK _ _ (wp_ret ?_)
        exact bodyPost_ret (v := .tuple #[.agg #[.int .i64 0, .int .i64 0, .int .i64 0, .int .i64 0, .int .i64 0, .int .i64 0, .bool false, .bool false, .slice none 0 0], .int .i64 (ck)]) (by simp [results, Tryz.results4, go_sem, x0, x1, x2, x3, x4, x5, x6, x7, x8]) rfl (HPZ.out ck _ HRR1.out HRF.out HB9.out)
end Go.Proofs.YtfidbdegggalmaaGreatDoor
