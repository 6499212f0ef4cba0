/- Period of an effect, of both sides. (printed by wip/gen/gen_efchecks.py) -/
import Derived.Test.YtopmdeefcjdadaaDoorEfText
import Derived.Test.YtopmdeefcjdadaaDoorREfText
namespace Go.Proofs.YtopmdeefcjdadaaDoor
open Go.RowKit
open Classical
set_option linter.unusedVariables false
set_option linter.unusedSimpArgs false

theorem StepsAt.below {w W : World} {ao : Option Addr} {l : List Stp} (h : StepsAt w.heap.size w ao l) (hb : Below w.heap.size w W) : StepsAt W.heap.size W ao l := fun hne => by
  obtain ⟨b, off, k1, k2, k3⟩ := h hne
  exact ⟨b, off, k1, Nat.lt_of_lt_of_le k2 hb.size, fun i hi => ⟨(hb.cell (p := ⟨b, off + i * 3, none⟩) k2).trans (k3 i hi).1, (hb.cell (p := ⟨b, off + i * 3 + 1, none⟩) k2).trans (k3 i hi).2.1, (hb.cell (p := ⟨b, off + i * 3 + 2, none⟩) k2).trans (k3 i hi).2.2⟩⟩
theorem first2e (b : Nat) (x y : Int) (W : World) (h1 : W.cell? ⟨b, 0, none⟩ = some (.int .i64 x)) (h2 : W.cell? ⟨b, 1, none⟩ = some (.int .i64 y)) :
    Calls Tryd.prog 18 #[.slice (some ⟨b, 0, none⟩) 2 2] W fun e w' => e = .returned (.int .i64 (if x = 0 then y else x)) ∧ W = w' := by
  refine (first_any b 0 2 [x, y] W (by simp) (fun i h => by
    match i, h with
    | 0, _ => simpa using h1
    | 1, _ => simpa using h2)).mono ?_
  rintro e w' ⟨rfl, rfl⟩
  refine ⟨?_, rfl⟩
  simp only [firstF]
  congr 2
  split
  · split <;> omega
  · rfl
/-- the fault of Period -/
def perF (k form : Int) : Int := if k = 0 then whenW (form == 6) 4 else k
def perV (f v : Int) : Int := if f = 0 then v else 0

set_option maxHeartbeats 1000000 in
theorem rcycle_no (form low high cycle width spread : Int) (back rel : Bool) (ao : Option Addr) (cap : Nat) (l : List Stp) (w : World) (h7 : (form != 7) = true) :
    Calls Tryd.prog 21 #[(.agg #[.int .i64 form, .int .i64 low, .int .i64 high, .int .i64 cycle, .int .i64 width, .int .i64 spread, .bool back, .bool rel, .slice ao l.length cap])] w fun e w' => e = .returned (.int .i64 cycle) ∧ Below w.heap.size w w' := by
  go_enter Tryd.func21, Tryd.ntmps21
  go_wp2
  go_ret
  exact ⟨rfl, (Below.refl _ _).alloc (Nat.le_refl _) _⟩
theorem perF_zero {k form : Int} (h : perF k form = 0) : k = 0 ∧ form ≠ 6 := by
  unfold perF whenW at h
  by_cases hk : k = 0
  · rw [if_pos hk] at h
    refine ⟨hk, fun h6 => ?_⟩
    subst h6
    simp at h
  · rw [if_neg hk] at h
    exact absurd h hk

set_option maxRecDepth 100000 in
set_option maxHeartbeats 4000000 in
theorem efPeriod_any (form low high cycle width spread : Int) (back rel : Bool) (ao : Option Addr) (cap : Nat) (l : List Stp) (w : World) (hs : StepsAt w.heap.size w ao l) (hmax : l.length ≤ maxLen) :
    Calls Tryd.prog 7 #[(.agg #[.int .i64 form, .int .i64 low, .int .i64 high, .int .i64 cycle, .int .i64 width, .int .i64 spread, .bool back, .bool rel, .slice ao l.length cap])] w fun e w' => e = .returned (.tuple #[.int .i64 (perV (perF (chkF form low high cycle width spread l) form) (cycle + sumS l)), .int .i64 (perF (chkF form low high cycle width spread l) form)]) ∧ Below w.heap.size w w' := by
  have CF := Lib.hid (fun W (hb : Below w.heap.size w W) => efCheck_any form low high cycle width spread back rel ao cap l W (StepsAt.below hs hb) hmax)
  have HZ := Lib.hid (fun (h : perF (chkF form low high cycle width spread l) form = 0) => chk_zero (perF_zero h).1)
  have CY := Lib.hid (fun (h : perF (chkF form low high cycle width spread l) form = 0) W (hb : Below w.heap.size w W) => cycle_any form low high cycle width spread back rel ao cap l W (StepsAt.below hs hb) (chk_zero (perF_zero h).1).2.2.2.2.2.2.2.1 (chk_zero (perF_zero h).1).2.2.2.2.2.2.2.2.1 (chk_zero (perF_zero h).1).2.2.2.2.1)
  have HPF := Lib.hid (show perF (chkF form low high cycle width spread l) form = (if chkF form low high cycle width spread l = 0 then whenW (form == 6) 4 else chkF form low high cycle width spread l) from rfl)
  generalize perF (chkF form low high cycle width spread l) form = pf at *
  have HPV := Lib.hid (show perV pf (cycle + sumS l) = if pf = 0 then cycle + sumS l else 0 from rfl)
  generalize perV pf (cycle + sumS l) = pv at *
  generalize chkF form low high cycle width spread l = k at *
  have KC := Lib.hid (efText_below w form low high cycle width spread back rel ao cap l)
  have KA := Lib.hid (show ∀ W o, Below (w.heap.size + 1) (w.alloc (.cells #[.int .i64 form, .int .i64 low, .int .i64 high, .int .i64 cycle, .int .i64 width, .int .i64 spread, .bool back, .bool rel, .slice ao l.length cap] 24)) W → Below (w.heap.size + 1) (w.alloc (.cells #[.int .i64 form, .int .i64 low, .int .i64 high, .int .i64 cycle, .int .i64 width, .int .i64 spread, .bool back, .bool rel, .slice ao l.length cap] 24)) (W.alloc o) from fun W o h => h.alloc (by have := h.size; simp at this; omega) o)
  have KM := Lib.hid (show ∀ W W', Below (w.heap.size + 1) (w.alloc (.cells #[.int .i64 form, .int .i64 low, .int .i64 high, .int .i64 cycle, .int .i64 width, .int .i64 spread, .bool back, .bool rel, .slice ao l.length cap] 24)) W → Below W.heap.size W W' → Below (w.heap.size + 1) (w.alloc (.cells #[.int .i64 form, .int .i64 low, .int .i64 high, .int .i64 cycle, .int .i64 width, .int .i64 spread, .bool back, .bool rel, .slice ao l.length cap] 24)) W' from fun W W' h1 h2 => h1.trans (h2.mono (by have := h1.size; simp at this; omega)))
  clear hs hmax
  go_enter Tryd.func7, Tryd.ntmps7
  go_upto_region 1 with fail
  go_cut [4] (fun s4 wx => s4 = .int .i64 pf ∧ Below (w.heap.size + 1) (w.alloc (.cells #[.int .i64 form, .int .i64 low, .int .i64 high, .int .i64 cycle, .int .i64 width, .int .i64 spread, .bool back, .bool rel, .slice ao l.length cap] 24)) wx)
  case first =>
    have hw0 : Below (w.heap.size + 1) (w.alloc (.cells #[.int .i64 form, .int .i64 low, .int .i64 high, .int .i64 cycle, .int .i64 width, .int .i64 spread, .bool back, .bool rel, .slice ao l.length cap] 24)) (w.alloc (.cells #[.int .i64 form, .int .i64 low, .int .i64 high, .int .i64 cycle, .int .i64 width, .int .i64 spread, .bool back, .bool rel, .slice ao l.length cap] 24)) := Below.refl _ _
    have hw1 : Below (w.heap.size + 1) (w.alloc (.cells #[.int .i64 form, .int .i64 low, .int .i64 high, .int .i64 cycle, .int .i64 width, .int .i64 spread, .bool back, .bool rel, .slice ao l.length cap] 24)) (World.drew (w.alloc (.cells #[.int .i64 form, .int .i64 low, .int .i64 high, .int .i64 cycle, .int .i64 width, .int .i64 spread, .bool back, .bool rel, .slice ao l.length cap] 24))) := (Below.refl _ _).drew
    go_region_held3 (fun W => W.cell? ⟨w.heap.size, 0, none⟩ = some (.int .i64 form) ∧ W.cell? ⟨w.heap.size, 1, none⟩ = some (.int .i64 low) ∧ W.cell? ⟨w.heap.size, 2, none⟩ = some (.int .i64 high) ∧ W.cell? ⟨w.heap.size, 3, none⟩ = some (.int .i64 cycle) ∧ W.cell? ⟨w.heap.size, 4, none⟩ = some (.int .i64 width) ∧ W.cell? ⟨w.heap.size, 5, none⟩ = some (.int .i64 spread) ∧ W.cell? ⟨w.heap.size, 6, none⟩ = some (.bool back) ∧ W.cell? ⟨w.heap.size, 7, none⟩ = some (.bool rel) ∧ W.cell? ⟨w.heap.size, 8, none⟩ = some (.slice ao l.length cap))
      (with_reducible first | exact (KC.out _ (by assumption)).2.2 | exact (KC.out _ (KA.out _ _ (by assumption))).2.2)
      (first
        | (go_at_call 9; (with_reducible refine (CF.out _ (KC.out _ (by assumption)).1).mono ?_); rintro e WC ⟨rfl, hbC⟩; have hwC := KM.out _ _ (by assumption) hbC; clear hbC)
        | (go_at_call 19; ((with_reducible refine (when_R _ 4 _).mono ?_); rintro e w' ⟨rfl, rfl⟩))
        | (go_at_call 18; refine (first2e _ k (whenW (form == 6) 4) _ (by simp [go_sem]) (by simp [go_sem])).mono ?_; rw [← HPF.out]; rintro e w' ⟨rfl, rfl⟩)
        | fail)
    all_goals go_wp2_with fail
    all_goals go_meet
    all_goals exact ⟨rfl, by with_reducible first | assumption | exact KA.out _ _ (by assumption)⟩
  case rest =>
    obtain ⟨rfl, hb2⟩ := hcut
    obtain ⟨w2, rfl⟩ : ∃ x, x = wc := ⟨wc, rfl⟩
    obtain ⟨hB2, hz2, e0, e1, e2, e3, e4, e5, e6, e7, e8⟩ := KC.out w2 hb2
    by_cases hf : pf = 0
    · have HCY := Lib.hid (CY.out hf w2 hB2)
      have HV := Lib.hid (show pv = cycle + sumS l by rw [HPV.out, if_pos hf])
      have HB2 := Lib.hid hB2
      generalize cycle + sumS l = cs at *
      subst hf
      clear CY HZ CF HPF HPV KC KA KM hB2 hb2
      go_wp2_with fail
      refine HCY.out.mono ?_
      rintro e w3 ⟨rfl, hb3⟩
      have HB3 := Lib.hid (HB2.out.trans (hb3.mono (by have := HB2.out.size; omega)))
      clear hb3
      go_wp2
      go_ret2
      exact ⟨by rw [HV.out] <;> rfl, HB3.out⟩
    · have HV := Lib.hid (show pv = 0 by rw [HPV.out, if_neg hf])
      have hb : (pf != 0) = true := by simp [hf]
      have HB2 := Lib.hid hB2
      clear CY HZ CF HPF HPV KC KA KM hB2 hb2 hf
      go_wp2
      go_ret2
      exact ⟨by rw [HV.out] <;> rfl, HB2.out⟩

set_option maxRecDepth 100000 in
set_option maxHeartbeats 4000000 in
theorem refPeriod_any (form low high cycle width spread : Int) (back rel : Bool) (ao : Option Addr) (cap : Nat) (l : List Stp) (w : World) (hs : StepsAt w.heap.size w ao l) (hmax : l.length ≤ maxLen) :
    Calls Tryd.prog 8 #[(.agg #[.int .i64 form, .int .i64 low, .int .i64 high, .int .i64 cycle, .int .i64 width, .int .i64 spread, .bool back, .bool rel, .slice ao l.length cap])] w fun e w' => e = .returned (.tuple #[.int .i64 (perV (perF (chkF form low high cycle width spread l) form) (cycle + sumS l)), .int .i64 (perF (chkF form low high cycle width spread l) form)]) ∧ Below w.heap.size w w' := by
  have CF := Lib.hid (fun W (hb : Below w.heap.size w W) => refCheck_any form low high cycle width spread back rel ao cap l W (StepsAt.below hs hb) hmax)
  have KC := Lib.hid (efText_below w form low high cycle width spread back rel ao cap l)
  by_cases hk : chkF form low high cycle width spread l = 0
  · by_cases h6 : form = 6
    · have HV := Lib.hid (show perF (chkF form low high cycle width spread l) form = 4 by unfold perF whenW; rw [if_pos hk, h6]; rfl)
      have HU := Lib.hid (show perV (perF (chkF form low high cycle width spread l) form) (cycle + sumS l) = 0 by rw [HV.out]; rfl)
      rw [hk] at CF
      have h6' : (form == 6) = true := by simp [h6]
      generalize perF (chkF form low high cycle width spread l) form = pf at *
      generalize perV pf (cycle + sumS l) = pv at *
      clear hk h6 hs hmax
      go_enter Tryd.func8, Tryd.ntmps8
      go_wp2_with fail
      refine (CF.out _ ((Below.refl _ _).alloc (Nat.le_refl _) _)).mono ?_
      rintro e w1 ⟨rfl, hb1⟩
      have hb1 : Below (w.heap.size + 1) (w.alloc (.cells #[.int .i64 form, .int .i64 low, .int .i64 high, .int .i64 cycle, .int .i64 width, .int .i64 spread, .bool back, .bool rel, .slice ao l.length cap] 24)) w1 := by simpa using hb1
      obtain ⟨hB1, hz1, e0, e1, e2, e3, e4, e5, e6, e7, e8⟩ := KC.out w1 hb1
      have HB1 := Lib.hid hB1
      clear hB1 hb1
      go_wp2
      go_ret2
      exact ⟨by rw [HV.out, HU.out] <;> rfl, HB1.out⟩
    · have z := chk_zero hk
      have HV := Lib.hid (show perF (chkF form low high cycle width spread l) form = 0 by unfold perF whenW; rw [if_pos hk, show (form == 6) = false by simpa using h6]; rfl)
      have HU := Lib.hid (show perV (perF (chkF form low high cycle width spread l) form) (cycle + sumS l) = cycle + sumS l by rw [HV.out]; rfl)
      have CY := Lib.hid (show ∀ W (hb : Below w.heap.size w W), Calls Tryd.prog 21 #[(.agg #[.int .i64 form, .int .i64 low, .int .i64 high, .int .i64 cycle, .int .i64 width, .int .i64 spread, .bool back, .bool rel, .slice ao l.length cap])] W fun e w' => e = .returned (.int .i64 (cycle + sumS l)) ∧ Below W.heap.size W w' from fun W hb => by
        by_cases h7 : form = 7
        · have hc : cycle = 0 := z.2.2.2.2.2.2.2.2.2.2 h7
          have := rcycle_any form low high cycle width spread back rel ao cap l W h7 (StepsAt.below hs hb) z.2.2.2.2.2.2.2.1 z.2.2.2.2.2.2.2.2.1 z.2.2.2.2.1
          rw [show cycle + sumS l = sumS l by omega]
          exact this
        · have hl : l = [] := List.length_eq_zero_iff.1 (z.2.2.2.2.2.2.2.2.2.1 h7)
          have hsum : sumS l = 0 := by rw [hl]; rfl
          rw [show cycle + sumS l = cycle by omega]
          exact rcycle_no form low high cycle width spread back rel ao cap l W (by simpa using h7))
      rw [hk] at CF
      have h6' : (form == 6) = false := by simpa using h6
      generalize perF (chkF form low high cycle width spread l) form = pf at *
      generalize perV pf (cycle + sumS l) = pv at *
      generalize cycle + sumS l = cs at *
      clear hk h6 hs hmax z
      go_enter Tryd.func8, Tryd.ntmps8
      go_wp2_with fail
      refine (CF.out _ ((Below.refl _ _).alloc (Nat.le_refl _) _)).mono ?_
      rintro e w1 ⟨rfl, hb1⟩
      have hb1 : Below (w.heap.size + 1) (w.alloc (.cells #[.int .i64 form, .int .i64 low, .int .i64 high, .int .i64 cycle, .int .i64 width, .int .i64 spread, .bool back, .bool rel, .slice ao l.length cap] 24)) w1 := by simpa using hb1
      obtain ⟨hB1, hz1, e0, e1, e2, e3, e4, e5, e6, e7, e8⟩ := KC.out w1 hb1
      have HB1 := Lib.hid hB1
      clear hB1 hb1
      go_wp2_with fail
      refine (CY.out _ HB1.out).mono ?_
      rintro e w3 ⟨rfl, hb3⟩
      have HB3 := Lib.hid (HB1.out.trans (hb3.mono (by have := HB1.out.size; omega)))
      clear hb3
      go_wp2
      go_ret2
      exact ⟨by rw [HV.out, HU.out] <;> rfl, HB3.out⟩
  · have HV := Lib.hid (show perF (chkF form low high cycle width spread l) form = chkF form low high cycle width spread l from if_neg hk)
    have HU := Lib.hid (show perV (perF (chkF form low high cycle width spread l) form) (cycle + sumS l) = 0 by rw [HV.out]; exact if_neg hk)
    have hb : (chkF form low high cycle width spread l != 0) = true := by simpa using hk
    generalize perF (chkF form low high cycle width spread l) form = pf at *
    generalize perV pf (cycle + sumS l) = pv at *
    generalize chkF form low high cycle width spread l = k at *
    clear hk hs hmax
    go_enter Tryd.func8, Tryd.ntmps8
    go_wp2_with fail
    refine (CF.out _ ((Below.refl _ _).alloc (Nat.le_refl _) _)).mono ?_
    rintro e w1 ⟨rfl, hb1⟩
    have hb1 : Below (w.heap.size + 1) (w.alloc (.cells #[.int .i64 form, .int .i64 low, .int .i64 high, .int .i64 cycle, .int .i64 width, .int .i64 spread, .bool back, .bool rel, .slice ao l.length cap] 24)) w1 := by simpa using hb1
    obtain ⟨hB1, hz1, e0, e1, e2, e3, e4, e5, e6, e7, e8⟩ := KC.out w1 hb1
    have HB1 := Lib.hid hB1
    clear hB1 hb1
    go_wp2
    go_ret2
    exact ⟨by rw [HV.out, HU.out] <;> rfl, HB1.out⟩

/-- Text of both sides gives the same -/
theorem text_both (form low high cycle width spread : Int) (back rel : Bool) (ao : Option Addr) (cap : Nat) (l : List Stp) (w : World) (hT : TextW w) (hs : StepsAt w.heap.size w ao l) (hmax : l.length ≤ maxLen) : ∃ (R : ByteArray) (F : Int),
    (∀ W, Below w.heap.size w W → Calls Tryd.prog 5 #[(.agg #[.int .i64 form, .int .i64 low, .int .i64 high, .int .i64 cycle, .int .i64 width, .int .i64 spread, .bool back, .bool rel, .slice ao l.length cap])] W fun e w' => e = .returned (.tuple #[.string R, .int .i64 F]) ∧ Below W.heap.size W w') ∧
    (∀ W, Below w.heap.size w W → Calls Tryd.prog 6 #[(.agg #[.int .i64 form, .int .i64 low, .int .i64 high, .int .i64 cycle, .int .i64 width, .int .i64 spread, .bool back, .bool rel, .slice ao l.length cap])] W fun e w' => e = .returned (.tuple #[.string R, .int .i64 F]) ∧ Below W.heap.size W w') := by
  by_cases hk : chkF form low high cycle width spread l = 0
  · obtain ⟨n, rfl⟩ : ∃ n : Nat, form = (n : Int) := ⟨form.toNat, by have := (chk_zero hk).1; omega⟩
    exact ⟨_, _, fun W hb => efText_ok n low high cycle width spread back rel ao cap l W (hT.below hb) (StepsAt.below hs hb) hmax hk, fun W hb => refText_ok n low high cycle width spread back rel ao cap l W (hT.below hb) (StepsAt.below hs hb) hmax hk⟩
  · exact ⟨_, _, fun W hb => efText_bad form low high cycle width spread back rel ao cap l W (StepsAt.below hs hb) hmax hk, fun W hb => refText_bad form low high cycle width spread back rel ao cap l W (StepsAt.below hs hb) hmax hk⟩
end Go.Proofs.YtopmdeefcjdadaaDoor
