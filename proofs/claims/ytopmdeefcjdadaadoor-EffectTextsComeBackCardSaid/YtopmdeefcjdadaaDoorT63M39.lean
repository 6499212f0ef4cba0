/- The text of an effect. (printed by wip/gen/gen_eftext.py) -/
import Derived.Test.YtopmdeefcjdadaaDoorT63M16
import Derived.Test.YtopmdeefcjdadaaDoorT63M34
import Derived.Deep.RegionHeld3
import Derived.Deep.DeepCutAuto

namespace Go.Proofs.YtopmdeefcjdadaaDoor
open Go.RowKit
open Classical
set_option linter.unusedVariables false
set_option linter.unusedSimpArgs false

theorem efText_below (w : World) (form low high cycle width spread : Int) (back rel : Bool) (ao : Option Addr) (cap : Nat) (l : List Stp) : ∀ W, Below (w.heap.size + 1) (w.alloc (.cells #[.int .i64 form, .int .i64 low, .int .i64 high, .int .i64 cycle, .int .i64 width, .int .i64 spread, .bool back, .bool rel, .slice ao l.length cap] 24)) W → Below w.heap.size w W ∧ w.heap.size < W.heap.size ∧ (W.cell? ⟨w.heap.size, 0, none⟩ = some (.int .i64 form) ∧ W.cell? ⟨w.heap.size, 1, none⟩ = some (.int .i64 low) ∧ W.cell? ⟨w.heap.size, 2, none⟩ = some (.int .i64 high) ∧ W.cell? ⟨w.heap.size, 3, none⟩ = some (.int .i64 cycle) ∧ W.cell? ⟨w.heap.size, 4, none⟩ = some (.int .i64 width) ∧ W.cell? ⟨w.heap.size, 5, none⟩ = some (.int .i64 spread) ∧ W.cell? ⟨w.heap.size, 6, none⟩ = some (.bool back) ∧ W.cell? ⟨w.heap.size, 7, none⟩ = some (.bool rel) ∧ W.cell? ⟨w.heap.size, 8, none⟩ = some (.slice ao l.length cap)) := fun W hW => by
  have hz := hW.size
  simp at hz
  refine ⟨((Below.refl _ _).alloc (Nat.le_refl _) _).trans (hW.mono (by omega)), by omega, ?_, ?_, ?_, ?_, ?_, ?_, ?_, ?_, ?_⟩
  · exact (hW.cell (p := ⟨w.heap.size, 0, none⟩) (by simp)).trans (by simp [go_sem])
  · exact (hW.cell (p := ⟨w.heap.size, 1, none⟩) (by simp)).trans (by simp [go_sem])
  · exact (hW.cell (p := ⟨w.heap.size, 2, none⟩) (by simp)).trans (by simp [go_sem])
  · exact (hW.cell (p := ⟨w.heap.size, 3, none⟩) (by simp)).trans (by simp [go_sem])
  · exact (hW.cell (p := ⟨w.heap.size, 4, none⟩) (by simp)).trans (by simp [go_sem])
  · exact (hW.cell (p := ⟨w.heap.size, 5, none⟩) (by simp)).trans (by simp [go_sem])
  · exact (hW.cell (p := ⟨w.heap.size, 6, none⟩) (by simp)).trans (by simp [go_sem])
  · exact (hW.cell (p := ⟨w.heap.size, 7, none⟩) (by simp)).trans (by simp [go_sem])
  · exact (hW.cell (p := ⟨w.heap.size, 8, none⟩) (by simp)).trans (by simp [go_sem])

set_option maxHeartbeats 2000000 in
theorem efText_bad (form low high cycle width spread : Int) (back rel : Bool) (ao : Option Addr) (cap : Nat) (l : List Stp) (w : World) (hs : StepsAt w.heap.size w ao l) (hmax : l.length ≤ maxLen) (h : chkF form low high cycle width spread l ≠ 0) :
    Calls Tryd.prog 5 #[(.agg #[.int .i64 form, .int .i64 low, .int .i64 high, .int .i64 cycle, .int .i64 width, .int .i64 spread, .bool back, .bool rel, .slice ao l.length cap])] w fun e w' => e = .returned (.tuple #[.string ⟨#[]⟩, .int .i64 (chkF form low high cycle width spread l)]) ∧ Below w.heap.size w w' := by
  have CF := Lib.hid (fun W (hb : Below w.heap.size w W) => efCheck_any form low high cycle width spread back rel ao cap l W (fun hne => by
    obtain ⟨b, off, k1, k2, k3⟩ := hs hne
    exact ⟨b, off, k1, Nat.lt_of_lt_of_le k2 hb.size, fun i hi => ⟨(hb.cell (p := ⟨b, off + i * 3, none⟩) k2).trans (k3 i hi).1, (hb.cell (p := ⟨b, off + i * 3 + 1, none⟩) k2).trans (k3 i hi).2.1, (hb.cell (p := ⟨b, off + i * 3 + 2, none⟩) k2).trans (k3 i hi).2.2⟩⟩) hmax)
  generalize chkF form low high cycle width spread l = k at *
  have hkb : (k != 0) = true := by simpa using h
  clear h hs hmax
  go_enter Tryd.func5, Tryd.ntmps5
  go_wp2_with fail
  refine (CF.out _ ((Below.refl _ _).alloc (Nat.le_refl _) _)).mono ?_
  rintro e w1 ⟨rfl, hb1⟩
  have HB := Lib.hid (show Below w.heap.size w w1 from ((Below.refl _ _).alloc (Nat.le_refl _) _).trans (hb1.mono (by simp)))
  clear hb1
  go_wp2
  go_ret2
  exact ⟨rfl, HB.out⟩

set_option maxRecDepth 100000 in
set_option maxHeartbeats 16000000 in
theorem efText_ok (form : Nat) (low high cycle width spread : Int) (back rel : Bool) (ao : Option Addr) (cap : Nat) (l : List Stp) (w : World) (hT : TextW w) (hs : StepsAt w.heap.size w ao l) (hmax : l.length ≤ maxLen) (h : chkF form low high cycle width spread l = 0) :
    Calls Tryd.prog 5 #[(.agg #[.int .i64 form, .int .i64 low, .int .i64 high, .int .i64 cycle, .int .i64 width, .int .i64 spread, .bool back, .bool rel, .slice ao l.length cap])] w fun e w' => e = .returned (.tuple #[.string (if 4000 < (effT form low high cycle width spread back rel l).size then ⟨#[]⟩ else effT form low high cycle width spread back rel l), .int .i64 (if 4000 < (effT form low high cycle width spread back rel l).size then 2 else 0)]) ∧ Below w.heap.size w w' := by
  have CF := Lib.hid (fun W (hb : Below w.heap.size w W) => efCheck_any form low high cycle width spread back rel ao cap l W (fun hne => by
    obtain ⟨b, off, k1, k2, k3⟩ := hs hne
    exact ⟨b, off, k1, Nat.lt_of_lt_of_le k2 hb.size, fun i hi => ⟨(hb.cell (p := ⟨b, off + i * 3, none⟩) k2).trans (k3 i hi).1, (hb.cell (p := ⟨b, off + i * 3 + 1, none⟩) k2).trans (k3 i hi).2.1, (hb.cell (p := ⟨b, off + i * 3 + 2, none⟩) k2).trans (k3 i hi).2.2⟩⟩) hmax)
  rw [h] at CF
  obtain ⟨⟨f1, f9⟩, ⟨lo0, lo9⟩, ⟨hi0, hi9⟩, -, ⟨cy0, cy9⟩, ⟨wi0, wi9⟩, ⟨sp0, sp9⟩, hl5, hall, -, -⟩ := chk_zero h
  have HS := Lib.hid hs
  have HA := Lib.hid (fun k (h : k < l.length) => List.all_eq_true.1 hall l[k] (List.getElem_mem h))
  have HLE := Lib.hid (fun b k hk => strE_le b l hall k hk)
  have HTK := Lib.hid (fun b k hk => strE_take b l k hk)
  have KC := Lib.hid (efText_below w form low high cycle width spread back rel ao cap l)
  have HIT := Lib.hid (fun n W (hb : Below w.heap.size w W) (h0 : -9223372036854775808 ≤ n) (h1 : n ≤ 9223372036854775807) => itoa_int n W h0 h1 (hT.below hb))
  have HSH := Lib.hid (fun n W (hb : Below w.heap.size w W) (h0 : 0 ≤ n) (h1 : n ≤ 65535) => eshow_any n W (hT.below hb) h0 h1)
  have HFW := Lib.hid (fun W => formWord_any form W (by omega) (by omega))
  have HX0 := Lib.hid (show t0 form low high = (((formT form ++ (⟨#[32, 102, 114, 111, 109, 32]⟩ : ByteArray)) ++ showT low) ++ (⟨#[32, 116, 111, 32]⟩ : ByteArray)) ++ showT high from rfl)
  have g0 := formT_le form
  have g1 := showT_le low lo0 lo9
  have g2 := showT_le high hi0 hi9
  have HLO := Lib.hid (fun W hb => HSH.out low W hb lo0 lo9)
  have HHI := Lib.hid (fun W hb => HSH.out high W hb hi0 hi9)
  have HIC := Lib.hid (fun W hb => HIT.out cycle W hb (by omega) (by omega))
  have HIW := Lib.hid (fun W hb => HIT.out width W hb (by omega) (by omega))
  have HIS := Lib.hid (fun W hb => HIT.out spread W hb (by omega) (by omega))
  have i1 := itT_le cycle (by omega) (by omega)
  have i2 := itT_le width (by omega) (by omega)
  have i3 := itT_le spread (by omega) (by omega)
  obtain ⟨T, hT9⟩ : ∃ T, effT form low high cycle width spread back rel l = T := ⟨_, rfl⟩
  rw [hT9]
  obtain ⟨R, hR⟩ : ∃ R, (if 4000 < T.size then (⟨#[]⟩ : ByteArray) else T) = R := ⟨_, rfl⟩
  obtain ⟨F, hF⟩ : ∃ F, (if 4000 < T.size then (2 : Int) else 0) = F := ⟨_, rfl⟩
  rw [hR, hF]
  have HR := Lib.hid hR
  have HF := Lib.hid hF
  clear hR hF
  have HEF := Lib.hid (show strE (tRel rel (tBack back (tSpr spread (tWid form width (tCyc form cycle (t0 form low high)))))) l = T from hT9)
  generalize t0 form low high = X0 at *
  generalize formT form = xf at *
  generalize showT low = xl at *
  generalize showT high = xh at *
  have HYC := Lib.hid (show tCyc form cycle X0 = if (form : Int) = 7 then X0 else X0 ++ ((⟨#[32, 99, 121, 99, 108, 101, 32]⟩ : ByteArray) ++ itT cycle) from rfl)
  generalize tCyc form cycle X0 = X1 at *
  have HYW := Lib.hid (show tWid form width X1 = if (form : Int) = 4 then X1 ++ ((⟨#[32, 119, 105, 100, 116, 104, 32]⟩ : ByteArray) ++ itT width) else X1 from rfl)
  generalize tWid form width X1 = X2 at *
  have HYS := Lib.hid (show tSpr spread X2 = if spread = 0 then X2 else X2 ++ ((⟨#[32, 115, 112, 114, 101, 97, 100, 32]⟩ : ByteArray) ++ itT spread) from rfl)
  generalize tSpr spread X2 = X3 at *
  have HYB := Lib.hid (show tBack back X3 = if back = true then X3 ++ (⟨#[32, 98, 97, 99, 107]⟩ : ByteArray) else X3 from rfl)
  generalize tBack back X3 = X4 at *
  have HYR := Lib.hid (show tRel rel X4 = if rel = true then X4 ++ (⟨#[32, 114, 101, 108, 97, 116, 105, 118, 101]⟩ : ByteArray) else X4 from rfl)
  generalize tRel rel X4 = X5 at *
  generalize itT cycle = yc at *
  generalize itT width = yw at *
  generalize itT spread = ys at *
  have ec : (⟨#[32, 99, 121, 99, 108, 101, 32]⟩ : ByteArray).size = 7 := rfl
  have ew : (⟨#[32, 119, 105, 100, 116, 104, 32]⟩ : ByteArray).size = 7 := rfl
  have es : (⟨#[32, 115, 112, 114, 101, 97, 100, 32]⟩ : ByteArray).size = 8 := rfl
  have eb : (⟨#[32, 98, 97, 99, 107]⟩ : ByteArray).size = 5 := rfl
  have er : (⟨#[32, 114, 101, 108, 97, 116, 105, 118, 101]⟩ : ByteArray).size = 9 := rfl
  have ef : (⟨#[32, 102, 114, 111, 109, 32]⟩ : ByteArray).size = 6 := rfl
  have et : (⟨#[32, 116, 111, 32]⟩ : ByteArray).size = 4 := rfl
  have n0 : X0.size ≤ 30 := by rw [HX0.out]; simp only [ByteArray.size_append, ef, et]; omega
  have n1 : X1.size ≤ 60 := by rw [HYC.out]; split <;> (try simp only [ByteArray.size_append, ec]) <;> omega
  have n2 : X2.size ≤ 90 := by rw [HYW.out]; split <;> (try simp only [ByteArray.size_append, ew]) <;> omega
  have n3 : X3.size ≤ 120 := by rw [HYS.out]; split <;> (try simp only [ByteArray.size_append, es]) <;> omega
  have n4 : X4.size ≤ 130 := by rw [HYB.out]; split <;> (try simp only [ByteArray.size_append, eb]) <;> omega
  have n5 : X5.size ≤ 140 := by rw [HYR.out]; split <;> (try simp only [ByteArray.size_append, er]) <;> omega
  have HN := Lib.hid (show X0.size ≤ 30 ∧ X1.size ≤ 60 ∧ X2.size ≤ 90 ∧ X3.size ≤ 120 ∧ X4.size ≤ 130 ∧ X5.size ≤ 140 from ⟨n0, n1, n2, n3, n4, n5⟩)
  have HG := Lib.hid (show xf.size ≤ 8 ∧ xl.size ≤ 6 ∧ xh.size ≤ 6 ∧ yc.size ≤ 21 ∧ yw.size ≤ 21 ∧ ys.size ≤ 21 from ⟨g0, g1, g2, i1, i2, i3⟩)
  have HFR := Lib.hid (show 1 ≤ form ∧ form ≤ 7 by omega)
  clear hs hmax h hall hT9 n0 n1 n2 n3 n4 n5 g0 g1 g2 i1 i2 i3 ec ew es eb er ef et lo0 lo9 hi0 hi9 cy0 cy9 wi0 wi9 sp0 sp9 f1 f9
  go_enter Tryd.func5, Tryd.ntmps5
  go_wp2_with fail
  refine (CF.out _ ((Below.refl _ _).alloc (Nat.le_refl _) _)).mono ?_
  rintro e w1 ⟨rfl, hb1⟩
  have hb1 : Below (w.heap.size + 1) (w.alloc (.cells #[.int .i64 form, .int .i64 low, .int .i64 high, .int .i64 cycle, .int .i64 width, .int .i64 spread, .bool back, .bool rel, .slice ao l.length cap] 24)) w1 := by simpa using hb1
  obtain ⟨hB1, hz1, e0, e1, e2, e3, e4, e5, e6, e7, e8⟩ := KC.out w1 hb1
  have HB1 := Lib.hid hB1
  clear hB1
  go_upto_region 4 with fail
  go_cut [5] (fun s5 wx => s5 = .string X0 ∧ Below (w.heap.size + 1) (w.alloc (.cells #[.int .i64 form, .int .i64 low, .int .i64 high, .int .i64 cycle, .int .i64 width, .int .i64 spread, .bool back, .bool rel, .slice ao l.length cap] 24)) wx)
  case first =>
    obtain ⟨g0, g1, g2, _, _, _⟩ := HG.out
    have ef : (⟨#[32, 102, 114, 111, 109, 32]⟩ : ByteArray).size = 6 := rfl
    have et : (⟨#[32, 116, 111, 32]⟩ : ByteArray).size = 4 := rfl
    have HX := HX0.out
    obtain ⟨z1, q1⟩ : ∃ z, xf ++ (⟨#[32, 102, 114, 111, 109, 32]⟩ : ByteArray) = z := ⟨_, rfl⟩
    have s1 : z1.size = xf.size + 6 := by rw [← q1, ByteArray.size_append, ef]
    obtain ⟨z2, q2⟩ : ∃ z, z1 ++ xl = z := ⟨_, rfl⟩
    have s2 : z2.size = z1.size + xl.size := by rw [← q2, ByteArray.size_append]
    obtain ⟨z3, q3⟩ : ∃ z, z2 ++ (⟨#[32, 116, 111, 32]⟩ : ByteArray) = z := ⟨_, rfl⟩
    have s3 : z3.size = z2.size + 4 := by rw [← q3, ByteArray.size_append, et]
    obtain ⟨z4, q4⟩ : ∃ z, z3 ++ xh = z := ⟨_, rfl⟩
    have s4 : z4.size = z3.size + xh.size := by rw [← q4, ByteArray.size_append]
    rw [q1, q2, q3, q4] at HX
    have HXE := Lib.hid HX
    have c1 : (9223372036854775807 < xf.size + 6) = False := eq_false (by omega)
    have c1' : (9223372036854775801 < xf.size) = False := eq_false (by omega)
    have c1'' : (9223372036854775801 ≤ xf.size) = False := eq_false (by omega)
    have c2 : (9223372036854775807 < z1.size + xl.size) = False := eq_false (by omega)
    have c3 : (9223372036854775807 < z2.size + 4) = False := eq_false (by omega)
    have c3' : (9223372036854775803 < z2.size) = False := eq_false (by omega)
    have c4 : (9223372036854775807 < z3.size + xh.size) = False := eq_false (by omega)
    clear HX s1 s2 s3 s4 ef et g0 g1 g2
    have hw0 : Below (w.heap.size + 1) (w.alloc (.cells #[.int .i64 form, .int .i64 low, .int .i64 high, .int .i64 cycle, .int .i64 width, .int .i64 spread, .bool back, .bool rel, .slice ao l.length cap] 24)) w1 := hb1
    have hw1 : Below (w.heap.size + 1) (w.alloc (.cells #[.int .i64 form, .int .i64 low, .int .i64 high, .int .i64 cycle, .int .i64 width, .int .i64 spread, .bool back, .bool rel, .slice ao l.length cap] 24)) (World.drew w1) := hb1.drew
    have KM := Lib.hid (show ∀ W W', Below (w.heap.size + 1) (w.alloc (.cells #[.int .i64 form, .int .i64 low, .int .i64 high, .int .i64 cycle, .int .i64 width, .int .i64 spread, .bool back, .bool rel, .slice ao l.length cap] 24)) W → Below W.heap.size W W' → Below (w.heap.size + 1) (w.alloc (.cells #[.int .i64 form, .int .i64 low, .int .i64 high, .int .i64 cycle, .int .i64 width, .int .i64 spread, .bool back, .bool rel, .slice ao l.length cap] 24)) W' from fun W W' h1 h2 => h1.trans (h2.mono (by have := h1.size; simp at this; omega)))
    go_region_held3 (fun W => W.cell? ⟨w.heap.size, 0, none⟩ = some (.int .i64 form) ∧ W.cell? ⟨w.heap.size, 1, none⟩ = some (.int .i64 low) ∧ W.cell? ⟨w.heap.size, 2, none⟩ = some (.int .i64 high) ∧ W.cell? ⟨w.heap.size, 3, none⟩ = some (.int .i64 cycle) ∧ W.cell? ⟨w.heap.size, 4, none⟩ = some (.int .i64 width) ∧ W.cell? ⟨w.heap.size, 5, none⟩ = some (.int .i64 spread) ∧ W.cell? ⟨w.heap.size, 6, none⟩ = some (.bool back) ∧ W.cell? ⟨w.heap.size, 7, none⟩ = some (.bool rel) ∧ W.cell? ⟨w.heap.size, 8, none⟩ = some (.slice ao l.length cap))
      (exact (KC.out _ (by assumption)).2.2)
      (first
        | (go_at_call 13; ((with_reducible refine (HFW.out _).mono ?_); rintro e w' ⟨rfl, rfl⟩))
        | (go_at_call 14; (with_reducible refine (HLO.out _ (KC.out _ (by assumption)).1).mono ?_); rintro e WL ⟨rfl, hbL⟩; have hwL := KM.out _ _ (by assumption) hbL; clear hbL)
        | (go_at_call 14; (with_reducible refine (HHI.out _ (KC.out _ (by assumption)).1).mono ?_); rintro e WH ⟨rfl, hbH⟩; have hwH := KM.out _ _ (by assumption) hbH; clear hbH)
        | fail)
    all_goals go_wp2_with fail
    all_goals go_meet
    all_goals exact ⟨by rw [HXE.out], by assumption⟩
  case rest =>
    obtain ⟨rfl, hb2⟩ := hcut
    obtain ⟨w2, rfl⟩ : ∃ x, x = wc := ⟨wc, rfl⟩
    clear e0 e1 e2 e3 e4 e5 e6 e7 e8
    obtain ⟨hB2, hz2, e0, e1, e2, e3, e4, e5, e6, e7, e8⟩ := KC.out w2 hb2
    have HB2 := Lib.hid hB2
    clear hB2
    go_upto_if 28 with fail
    go_cut [5] (fun s5 wx => s5 = .string X1 ∧ Below (w.heap.size + 1) (w.alloc (.cells #[.int .i64 form, .int .i64 low, .int .i64 high, .int .i64 cycle, .int .i64 width, .int .i64 spread, .bool back, .bool rel, .slice ao l.length cap] 24)) wx)
    case first =>
      by_cases hc : (form : Int) = 7
      · skip
        have hf : form = 7 := by omega
        have hc1 : ((form : Int) == 7) = true := by simp [hf]
        have hc2 : ((form : Int) != 7) = false := by simp [hf]
        clear hf
        have HE := Lib.hid (show X1 = X0 by rw [HYC.out]; first | rw [if_pos hc] | rw [if_neg hc])
        clear hc
        go_wp2_with fail
        all_goals go_meet
        all_goals exact ⟨by rw [HE.out], by assumption⟩
      · skip
        have hf : ¬ form = 7 := by omega
        have hc1 : ((form : Int) == 7) = false := by rw [beq_eq_false_iff_ne]; omega
        have hc2 : ((form : Int) != 7) = true := by rw [bne_iff_ne]; omega
        clear hf
        have HE := Lib.hid (show X1 = X0 ++ ((⟨#[32, 99, 121, 99, 108, 101, 32]⟩ : ByteArray) ++ yc) by rw [HYC.out]; first | rw [if_pos hc] | rw [if_neg hc])
        have k1 : yc.size ≤ 21 := by have := HG.out; omega
        have k2 : X0.size ≤ 140 := by have := HN.out; omega
        clear hc
        go_wp2_with fail
        refine (HIC.out _ HB2.out).mono ?_
        rintro e wI ⟨rfl, hbI⟩
        have hbJ : Below (w.heap.size + 1) (w.alloc (.cells #[.int .i64 form, .int .i64 low, .int .i64 high, .int .i64 cycle, .int .i64 width, .int .i64 spread, .bool back, .bool rel, .slice ao l.length cap] 24)) wI := hb2.trans (hbI.mono (by have := hb2.size; simp at this; omega))
        clear hbI
        have k3 : ((⟨#[32, 99, 121, 99, 108, 101, 32]⟩ : ByteArray) ++ yc).size ≤ 30 := by rw [ByteArray.size_append, show (⟨#[32, 99, 121, 99, 108, 101, 32]⟩ : ByteArray).size = 7 from rfl]; omega
        generalize hzz : (⟨#[32, 99, 121, 99, 108, 101, 32]⟩ : ByteArray) ++ yc = zz at *
        have HZ := Lib.hid hzz
        clear hzz
        go_wp2_with fail
        all_goals go_meet
        all_goals exact ⟨by rw [HE.out] <;> first | rfl | (rw [← HZ.out]), by assumption⟩
    case rest =>
      obtain ⟨rfl, hb3⟩ := hcut
      obtain ⟨w3, rfl⟩ : ∃ x, x = wc := ⟨wc, rfl⟩
      clear e0 e1 e2 e3 e4 e5 e6 e7 e8
      obtain ⟨hB3, hz3, e0, e1, e2, e3, e4, e5, e6, e7, e8⟩ := KC.out w3 hb3
      have HB3 := Lib.hid hB3
      clear hB3
      go_upto_if 37 with fail
      go_cut [5] (fun s5 wx => s5 = .string X2 ∧ Below (w.heap.size + 1) (w.alloc (.cells #[.int .i64 form, .int .i64 low, .int .i64 high, .int .i64 cycle, .int .i64 width, .int .i64 spread, .bool back, .bool rel, .slice ao l.length cap] 24)) wx)
      case first =>
        by_cases hc : (form : Int) = 4
        · skip
          have hf : form = 4 := by omega
          have hc1 : ((form : Int) == 4) = true := by simp [hf]
          have hc2 : ((form : Int) != 4) = false := by simp [hf]
          clear hf
          have HE := Lib.hid (show X2 = X1 ++ ((⟨#[32, 119, 105, 100, 116, 104, 32]⟩ : ByteArray) ++ yw) by rw [HYW.out]; first | rw [if_pos hc] | rw [if_neg hc])
          have k1 : yw.size ≤ 21 := by have := HG.out; omega
          have k2 : X1.size ≤ 140 := by have := HN.out; omega
          clear hc
          go_wp2_with fail
          refine (HIW.out _ HB3.out).mono ?_
          rintro e wI ⟨rfl, hbI⟩
          have hbJ : Below (w.heap.size + 1) (w.alloc (.cells #[.int .i64 form, .int .i64 low, .int .i64 high, .int .i64 cycle, .int .i64 width, .int .i64 spread, .bool back, .bool rel, .slice ao l.length cap] 24)) wI := hb3.trans (hbI.mono (by have := hb3.size; simp at this; omega))
          clear hbI
          have k3 : ((⟨#[32, 119, 105, 100, 116, 104, 32]⟩ : ByteArray) ++ yw).size ≤ 30 := by rw [ByteArray.size_append, show (⟨#[32, 119, 105, 100, 116, 104, 32]⟩ : ByteArray).size = 7 from rfl]; omega
          generalize hzz : (⟨#[32, 119, 105, 100, 116, 104, 32]⟩ : ByteArray) ++ yw = zz at *
          have HZ := Lib.hid hzz
          clear hzz
          go_wp2_with fail
          all_goals go_meet
          all_goals exact ⟨by rw [HE.out] <;> first | rfl | (rw [← HZ.out]), by assumption⟩
        · skip
          have hf : ¬ form = 4 := by omega
          have hc1 : ((form : Int) == 4) = false := by rw [beq_eq_false_iff_ne]; omega
          have hc2 : ((form : Int) != 4) = true := by rw [bne_iff_ne]; omega
          clear hf
          have HE := Lib.hid (show X2 = X1 by rw [HYW.out]; first | rw [if_pos hc] | rw [if_neg hc])
          clear hc
          go_wp2_with fail
          all_goals go_meet
          all_goals exact ⟨by rw [HE.out], by assumption⟩
      case rest =>
        obtain ⟨rfl, hb4⟩ := hcut
        obtain ⟨w4, rfl⟩ : ∃ x, x = wc := ⟨wc, rfl⟩
        clear e0 e1 e2 e3 e4 e5 e6 e7 e8
        obtain ⟨hB4, hz4, e0, e1, e2, e3, e4, e5, e6, e7, e8⟩ := KC.out w4 hb4
        have HB4 := Lib.hid hB4
        clear hB4
        go_upto_if 46 with fail
        go_cut [5] (fun s5 wx => s5 = .string X3 ∧ Below (w.heap.size + 1) (w.alloc (.cells #[.int .i64 form, .int .i64 low, .int .i64 high, .int .i64 cycle, .int .i64 width, .int .i64 spread, .bool back, .bool rel, .slice ao l.length cap] 24)) wx)
        case first =>
          by_cases hc : spread = 0
          · skip
            have hc1 : (spread == 0) = true := by simp [hc]
            have hc2 : (spread != 0) = false := by simp [hc]
            have HE := Lib.hid (show X3 = X2 by rw [HYS.out]; first | rw [if_pos hc] | rw [if_neg hc])
            clear hc
            go_wp2_with fail
            all_goals go_meet
            all_goals exact ⟨by rw [HE.out], by assumption⟩
          · skip
            have hc1 : (spread == 0) = false := by simp [hc]
            have hc2 : (spread != 0) = true := by simp [hc]
            have HE := Lib.hid (show X3 = X2 ++ ((⟨#[32, 115, 112, 114, 101, 97, 100, 32]⟩ : ByteArray) ++ ys) by rw [HYS.out]; first | rw [if_pos hc] | rw [if_neg hc])
            have k1 : ys.size ≤ 21 := by have := HG.out; omega
            have k2 : X2.size ≤ 140 := by have := HN.out; omega
            clear hc
            go_wp2_with fail
            refine (HIS.out _ HB4.out).mono ?_
            rintro e wI ⟨rfl, hbI⟩
            have hbJ : Below (w.heap.size + 1) (w.alloc (.cells #[.int .i64 form, .int .i64 low, .int .i64 high, .int .i64 cycle, .int .i64 width, .int .i64 spread, .bool back, .bool rel, .slice ao l.length cap] 24)) wI := hb4.trans (hbI.mono (by have := hb4.size; simp at this; omega))
            clear hbI
            have k3 : ((⟨#[32, 115, 112, 114, 101, 97, 100, 32]⟩ : ByteArray) ++ ys).size ≤ 30 := by rw [ByteArray.size_append, show (⟨#[32, 115, 112, 114, 101, 97, 100, 32]⟩ : ByteArray).size = 8 from rfl]; omega
            generalize hzz : (⟨#[32, 115, 112, 114, 101, 97, 100, 32]⟩ : ByteArray) ++ ys = zz at *
            have HZ := Lib.hid hzz
            clear hzz
            go_wp2_with fail
            all_goals go_meet
            all_goals exact ⟨by rw [HE.out] <;> first | rfl | (rw [← HZ.out]), by assumption⟩
        case rest =>
          obtain ⟨rfl, hb5⟩ := hcut
          obtain ⟨w5, rfl⟩ : ∃ x, x = wc := ⟨wc, rfl⟩
          clear e0 e1 e2 e3 e4 e5 e6 e7 e8
          obtain ⟨hB5, hz5, e0, e1, e2, e3, e4, e5, e6, e7, e8⟩ := KC.out w5 hb5
          have HB5 := Lib.hid hB5
          clear hB5
          go_upto_if 54 with fail
          go_cut [5] (fun s5 wx => s5 = .string X4 ∧ Below (w.heap.size + 1) (w.alloc (.cells #[.int .i64 form, .int .i64 low, .int .i64 high, .int .i64 cycle, .int .i64 width, .int .i64 spread, .bool back, .bool rel, .slice ao l.length cap] 24)) wx)
          case first =>
            have k2 : X3.size ≤ 140 := by have := HN.out; omega
            cases back
            · have HE := Lib.hid (show X4 = X3 from HYB.out)
              go_wp2_with fail
              all_goals go_meet
              all_goals exact ⟨by rw [HE.out], by assumption⟩
            · have HE := Lib.hid (HYB.out)
              go_wp2_with fail
              all_goals go_meet
              all_goals exact ⟨by first | (rw [HE.out]; rfl) | rw [HE.out], by assumption⟩
          case rest =>
            obtain ⟨rfl, hb6⟩ := hcut
            obtain ⟨w6, rfl⟩ : ∃ x, x = wc := ⟨wc, rfl⟩
            clear e0 e1 e2 e3 e4 e5 e6 e7 e8
            obtain ⟨hB6, hz6, e0, e1, e2, e3, e4, e5, e6, e7, e8⟩ := KC.out w6 hb6
            have HB6 := Lib.hid hB6
            clear hB6
            go_upto_if 58 with fail
            go_cut [5] (fun s5 wx => s5 = .string X5 ∧ Below (w.heap.size + 1) (w.alloc (.cells #[.int .i64 form, .int .i64 low, .int .i64 high, .int .i64 cycle, .int .i64 width, .int .i64 spread, .bool back, .bool rel, .slice ao l.length cap] 24)) wx)
            case first =>
              have k2 : X4.size ≤ 140 := by have := HN.out; omega
              cases rel
              · have HE := Lib.hid (show X5 = X4 from HYR.out)
                go_wp2_with fail
                all_goals go_meet
                all_goals exact ⟨by rw [HE.out], by assumption⟩
              · have HE := Lib.hid (HYR.out)
                go_wp2_with fail
                all_goals go_meet
                all_goals exact ⟨by first | (rw [HE.out]; rfl) | rw [HE.out], by assumption⟩
            case rest =>
              obtain ⟨rfl, hb7⟩ := hcut
              obtain ⟨w7, rfl⟩ : ∃ x, x = wc := ⟨wc, rfl⟩
              clear e0 e1 e2 e3 e4 e5 e6 e7 e8
              obtain ⟨hB7, hz7, e0, e1, e2, e3, e4, e5, e6, e7, e8⟩ := KC.out w7 hb7
              have HB7 := Lib.hid hB7
              clear hB7
              have k5 : X5.size ≤ 140 := by have := HN.out; omega
              have HLX := Lib.hid (fun k hk => HLE.out X5 k hk)
              have HTX := Lib.hid (fun k hk => HTK.out X5 k hk)
              have HEND := Lib.hid (show strE X5 (l.take l.length) = T by rw [List.take_length]; exact HEF.out)
              have HST := Lib.hid (show strE X5 (l.take 0) = X5 from rfl)
              have HTS := Lib.hid (show T.size ≤ 4000000 by rw [← HEND.out]; have := HLX.out l.length (Nat.le_refl _); omega)
              clear HX0 HYC HYW HYS HYB HYR HFW HLO HHI HIC HIW HIS HN HG HEF HLE HTK CF
              go_wp2_with fail
              go_loopw [5, 64] (fun s i wr => ∃ k : Nat, k ≤ l.length ∧ i = .int .i64 k ∧ s = .string (strE X5 (l.take k)) ∧ Below (w.heap.size + 1) (w.alloc (.cells #[.int .i64 form, .int .i64 low, .int .i64 high, .int .i64 cycle, .int .i64 width, .int .i64 spread, .bool back, .bool rel, .slice ao l.length cap] 24)) wr) (fun _ i _ => l.length - (intOf i).toNat)
              case atStart => exact ⟨0, by omega, rfl, by rw [HST.out], by assumption⟩
              case round =>
                obtain ⟨k, hk, rfl, rfl, hbr⟩ := hrel
                clear e0 e1 e2 e3 e4 e5 e6 e7 e8
                have hzr := hbr.size
                simp at hzr
                by_cases hlt : k < l.length
                · obtain ⟨b, off, rfl, hbb, hc9⟩ := HS.out (by intro h; subst h; simp at hlt)
                  obtain ⟨c0, c1, c2⟩ := hc9 k hlt
                  have hBr := (KC.out _ hbr).1
                  have d0 : wr.cell? ⟨b, off + k * 3, none⟩ = some (.int .i64 l[k].lv) := (hBr.cell (p := ⟨b, off + k * 3, none⟩) hbb).trans c0
                  have d1 : wr.cell? ⟨b, off + k * 3 + 1, none⟩ = some (.int .i64 l[k].hold) := (hBr.cell (p := ⟨b, off + k * 3 + 1, none⟩) hbb).trans c1
                  have d2 : wr.cell? ⟨b, off + k * 3 + 2, none⟩ = some (.int .i64 l[k].fade) := (hBr.cell (p := ⟨b, off + k * 3 + 2, none⟩) hbb).trans c2
                  have hbrs : b < wr.heap.size := by omega
                  have hok := HA.out k hlt
                  have hle := HLX.out k hk
                  have HS2 := Lib.hid (HTX.out k hlt)
                  have HPC := Lib.hid (show pieceE l[k] = (((((⟨#[32]⟩ : ByteArray) ++ showT l[k].lv) ++ (⟨#[58]⟩ : ByteArray)) ++ itT l[k].hold) ++ (⟨#[58]⟩ : ByteArray)) ++ itT l[k].fade from rfl)
                  generalize strE X5 (l.take k) = X at *
                  generalize l[k] = sp at *
                  obtain ⟨m1, m2, m3⟩ := sp
                  simp only at d0 d1 d2 HPC
                  obtain ⟨⟨v0, v1⟩, ⟨v2, v3⟩, v4, v5⟩ := stpB_le hok
                  simp only at v0 v1 v2 v3 v4 v5
                  have l1 := showT_le m1 v0 v1
                  have l2 := itT_le m2 (by omega) (by omega)
                  have l3 := itT_le m3 (by omega) (by omega)
                  have HBR := Lib.hid hbr
                  have KM := Lib.hid (show ∀ W W', Below (wr.heap.size + 1) (wr.alloc (.cells #[.int .i64 m1, .int .i64 m2, .int .i64 m3] 37)) W → Below W.heap.size W W' → Below (wr.heap.size + 1) (wr.alloc (.cells #[.int .i64 m1, .int .i64 m2, .int .i64 m3] 37)) W' from fun W W' h1 h2 => h1.trans (h2.mono (by have := h1.size; simp at this; omega)))
                  have KW := Lib.hid (show ∀ W, Below (wr.heap.size + 1) (wr.alloc (.cells #[.int .i64 m1, .int .i64 m2, .int .i64 m3] 37)) W → Below (w.heap.size + 1) (w.alloc (.cells #[.int .i64 form, .int .i64 low, .int .i64 high, .int .i64 cycle, .int .i64 width, .int .i64 spread, .bool back, .bool rel, .slice (some ⟨b, off, none⟩) l.length cap] 24)) W from fun W h => hbr.trans (((Below.refl _ _).alloc (Nat.le_refl _) _ |>.mono (by omega)).trans (h.mono (by omega))))
                  have KP := Lib.hid (show ∀ W, Below (wr.heap.size + 1) (wr.alloc (.cells #[.int .i64 m1, .int .i64 m2, .int .i64 m3] 37)) W → (W.cell? ⟨wr.heap.size, 0, none⟩ = some (.int .i64 m1) ∧ W.cell? ⟨wr.heap.size, 1, none⟩ = some (.int .i64 m2) ∧ W.cell? ⟨wr.heap.size, 2, none⟩ = some (.int .i64 m3)) from fun W h =>
                    ⟨(h.cell (p := ⟨wr.heap.size, 0, none⟩) (by show wr.heap.size < _; omega)).trans (by simp [go_sem]), (h.cell (p := ⟨wr.heap.size, 1, none⟩) (by show wr.heap.size < _; omega)).trans (by simp [go_sem]), (h.cell (p := ⟨wr.heap.size, 2, none⟩) (by show wr.heap.size < _; omega)).trans (by simp [go_sem])⟩)
                  have C1 := Lib.hid (fun W (h : Below (wr.heap.size + 1) (wr.alloc (.cells #[.int .i64 m1, .int .i64 m2, .int .i64 m3] 37)) W) => HSH.out m1 W (KC.out _ (KW.out W h)).1 v0 v1)
                  have C2 := Lib.hid (fun W (h : Below (wr.heap.size + 1) (wr.alloc (.cells #[.int .i64 m1, .int .i64 m2, .int .i64 m3] 37)) W) => HIT.out m2 W (KC.out _ (KW.out W h)).1 (by omega) (by omega))
                  have C3 := Lib.hid (fun W (h : Below (wr.heap.size + 1) (wr.alloc (.cells #[.int .i64 m1, .int .i64 m2, .int .i64 m3] 37)) W) => HIT.out m3 W (KC.out _ (KW.out W h)).1 (by omega) (by omega))
                  rw [HPC.out] at HS2
                  generalize showT m1 = y1 at *
                  generalize itT m2 = y2 at *
                  generalize itT m3 = y3 at *
                  have e32 : (⟨#[32]⟩ : ByteArray).size = 1 := rfl
                  have e58 : (⟨#[58]⟩ : ByteArray).size = 1 := rfl
                  obtain ⟨z1, q1⟩ : ∃ z, (⟨#[32]⟩ : ByteArray) ++ y1 = z := ⟨_, rfl⟩
                  have s1 : z1.size = 1 + y1.size := by rw [← q1, ByteArray.size_append, e32]
                  obtain ⟨z2, q2⟩ : ∃ z, z1 ++ (⟨#[58]⟩ : ByteArray) = z := ⟨_, rfl⟩
                  have s2 : z2.size = z1.size + 1 := by rw [← q2, ByteArray.size_append, e58]
                  obtain ⟨z3, q3⟩ : ∃ z, z2 ++ y2 = z := ⟨_, rfl⟩
                  have s3 : z3.size = z2.size + y2.size := by rw [← q3, ByteArray.size_append]
                  obtain ⟨z4, q4⟩ : ∃ z, z3 ++ (⟨#[58]⟩ : ByteArray) = z := ⟨_, rfl⟩
                  have s4 : z4.size = z3.size + 1 := by rw [← q4, ByteArray.size_append, e58]
                  obtain ⟨z5, q5⟩ : ∃ z, z4 ++ y3 = z := ⟨_, rfl⟩
                  have s5 : z5.size = z4.size + y3.size := by rw [← q5, ByteArray.size_append]
                  rw [q1, q2, q3, q4, q5] at HS2
                  have c1 : (9223372036854775807 < 1 + y1.size) = False := eq_false (by omega)
                  have c1' : (9223372036854775807 ≤ y1.size) = False := eq_false (by omega)
                  have c2 : (9223372036854775807 < z1.size + 1) = False := eq_false (by omega)
                  have c2' : (9223372036854775807 ≤ z1.size) = False := eq_false (by omega)
                  have c3 : (9223372036854775807 < z2.size + y2.size) = False := eq_false (by omega)
                  have c4 : (9223372036854775807 < z3.size + 1) = False := eq_false (by omega)
                  have c4' : (9223372036854775807 ≤ z3.size) = False := eq_false (by omega)
                  have c5 : (9223372036854775807 < z4.size + y3.size) = False := eq_false (by omega)
                  have c6 : (9223372036854775807 < X.size + z5.size) = False := eq_false (by omega)
                  clear hok hle v0 v1 v2 v3 v4 v5 l1 l2 l3 HPC e32 e58 s1 s2 s3 s4 s5 hBr hbb hc9 c0 hbr
                  go_wp2_with fail
                  have hw0 : Below (wr.heap.size + 1) (wr.alloc (.cells #[.int .i64 m1, .int .i64 m2, .int .i64 m3] 37)) (wr.alloc (.cells #[.int .i64 m1, .int .i64 m2, .int .i64 m3] 37)).drew := (Below.refl _ _).drew
                  have hw00 : Below (wr.heap.size + 1) (wr.alloc (.cells #[.int .i64 m1, .int .i64 m2, .int .i64 m3] 37)) (wr.alloc (.cells #[.int .i64 m1, .int .i64 m2, .int .i64 m3] 37)) := Below.refl _ _
                  go_region_held3 (fun W => W.cell? ⟨wr.heap.size, 0, none⟩ = some (.int .i64 m1) ∧ W.cell? ⟨wr.heap.size, 1, none⟩ = some (.int .i64 m2) ∧ W.cell? ⟨wr.heap.size, 2, none⟩ = some (.int .i64 m3))
                    (exact KP.out _ (by assumption))
                    (first
                      | (go_at_call 14; (with_reducible refine (C1.out _ (by assumption)).mono ?_); rintro e W1 ⟨rfl, hb1⟩; have hA := KM.out _ _ (by assumption) hb1; clear hb1)
                      | (go_at_call 15; (with_reducible refine (C2.out _ (by assumption)).mono ?_); rintro e W2 ⟨rfl, hb2⟩; have hB := KM.out _ _ (by assumption) hb2; clear hb2)
                      | (go_at_call 15; (with_reducible refine (C3.out _ (by assumption)).mono ?_); rintro e W3 ⟨rfl, hb3⟩; have hC := KM.out _ _ (by assumption) hb3; clear hb3)
                      | fail)
                  all_goals
                    go_wp2
                    go_roundw
                    case rel =>
                      first
                        | exact ⟨k + 1, by omega, by go_num, by rw [HS2.out], KW.out _ (by assumption)⟩
                        | ((repeat apply Exists.intro); refine ⟨⟨k + 1, by omega, by go_num, by rw [HS2.out], KW.out _ (by assumption)⟩, ?_⟩; rfl)
                    case measure => simp [intOf]; omega
                · have hkr : k = l.length := by omega
                  subst hkr
                  rw [HEND.out]
                  have HB := Lib.hid (KC.out _ hbr).1
                  have t9 := HTS.out
                  clear hbr
                  by_cases h4 : 4000 < T.size
                  · have HV := Lib.hid (show R = ⟨#[]⟩ by rw [← HR.out, if_pos h4])
                    have HU := Lib.hid (show F = 2 by rw [← HF.out, if_pos h4])
                    go_wp2
                    go_ret2
                    exact ⟨by rw [HV.out, HU.out] <;> rfl, HB.out⟩
                  · have h5 : T.size ≤ 4000 := by omega
                    have HV := Lib.hid (show R = T by rw [← HR.out, if_neg h4])
                    have HU := Lib.hid (show F = 0 by rw [← HF.out, if_neg h4])
                    clear h4
                    go_wp2
                    go_ret2
                    exact ⟨by rw [HV.out, HU.out] <;> rfl, HB.out⟩
end Go.Proofs.YtopmdeefcjdadaaDoor
