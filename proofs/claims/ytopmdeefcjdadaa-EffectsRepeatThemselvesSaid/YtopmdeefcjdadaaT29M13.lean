/- effect.Period (cut out of XEfPeriod). (printed by wip/gen/gen_waytop.py) -/
import Derived.Test.YtopmdeefcjdadaaT29M08
import Derived.Test.YtopmdeefcjdadaaT29M09
import Derived.Test.YtopmdeefcjdadaaT29M12

namespace Go.Proofs.Ytopmdeefcjdadaa
open Go.RowKit
open Classical
set_option linter.unusedVariables false
set_option linter.unusedSimpArgs false
theorem effBelow (w : World) (form low high cycle width spread : Int) (back rel : Bool) (ao : Option Addr) (cap : Nat) (l : List Stp) : ∀ W, Below (w.heap.size + 1) (w.alloc (.cells #[.int .i64 form, .int .i64 low, .int .i64 high, .int .i64 cycle, .int .i64 width, .int .i64 spread, .bool back, .bool rel, .slice ao l.length cap] 24)) W → Below w.heap.size w W ∧ w.heap.size < W.heap.size ∧ (W.cell? ⟨w.heap.size, 0, none⟩ = some (.int .i64 form) ∧ W.cell? ⟨w.heap.size, 1, none⟩ = some (.int .i64 low) ∧ W.cell? ⟨w.heap.size, 2, none⟩ = some (.int .i64 high) ∧ W.cell? ⟨w.heap.size, 3, none⟩ = some (.int .i64 cycle) ∧ W.cell? ⟨w.heap.size, 4, none⟩ = some (.int .i64 width) ∧ W.cell? ⟨w.heap.size, 5, none⟩ = some (.int .i64 spread) ∧ W.cell? ⟨w.heap.size, 6, none⟩ = some (.bool back) ∧ W.cell? ⟨w.heap.size, 7, none⟩ = some (.bool rel) ∧ W.cell? ⟨w.heap.size, 8, none⟩ = some (.slice ao l.length cap)) := fun W hW => by
  have hz := hW.size
  simp at hz
  refine ⟨((Below.refl _ _).alloc (Nat.le_refl _) _).trans (hW.mono (by omega)), by omega, ?_, ?_, ?_, ?_, ?_, ?_, ?_, ?_, ?_⟩
  · exact (hW.cell (p := ⟨w.heap.size, 0, none⟩) (by simp)).trans (by simp [go_sem])
  · exact (hW.cell (p := ⟨w.heap.size, 1, none⟩) (by simp)).trans (by simp [go_sem])
  · exact (hW.cell (p := ⟨w.heap.size, 2, none⟩) (by simp)).trans (by simp [go_sem])
  · exact (hW.cell (p := ⟨w.heap.size, 3, none⟩) (by simp)).trans (by simp [go_sem])
  · exact (hW.cell (p := ⟨w.heap.size, 4, none⟩) (by simp)).trans (by simp [go_sem])
  · exact (hW.cell (p := ⟨w.heap.size, 5, none⟩) (by simp)).trans (by simp [go_sem])
  · exact (hW.cell (p := ⟨w.heap.size, 6, none⟩) (by simp)).trans (by simp [go_sem])
  · exact (hW.cell (p := ⟨w.heap.size, 7, none⟩) (by simp)).trans (by simp [go_sem])
  · exact (hW.cell (p := ⟨w.heap.size, 8, none⟩) (by simp)).trans (by simp [go_sem])

theorem first2p (b : Nat) (x y : Int) (W : World) (h1 : W.cell? ⟨b, 0, none⟩ = some (.int .i64 x)) (h2 : W.cell? ⟨b, 1, none⟩ = some (.int .i64 y)) :
    Calls Try.prog 26 #[.slice (some ⟨b, 0, none⟩) 2 2] W fun e w' => e = .returned (.int .i64 (if x = 0 then y else x)) ∧ W = w' := by
  refine (first_any b 0 2 [x, y] W (by simp) (fun i h => by
    match i, h with
    | 0, _ => simpa using h1
    | 1, _ => simpa using h2)).mono ?_
  rintro e w' ⟨rfl, rfl⟩
  refine ⟨?_, rfl⟩
  simp only [firstF]
  congr 2
  split
  · split <;> omega
  · rfl
/-- the fault of Period -/
def perF_ (k form : Int) : Int := if k = 0 then whenW (form == 6) 4 else k
def perV_ (f v : Int) : Int := if f = 0 then v else 0

theorem perZ_ {k form : Int} (h : perF_ k form = 0) : k = 0 ∧ form ≠ 6 := by
  unfold perF_ whenW at h
  by_cases hk : k = 0
  · rw [if_pos hk] at h
    refine ⟨hk, fun h6 => ?_⟩
    subst h6
    simp at h
  · rw [if_neg hk] at h
    exact absurd h hk

set_option maxRecDepth 100000 in
set_option maxHeartbeats 4000000 in
theorem efPeriod_any (form low high cycle width spread : Int) (back rel : Bool) (ao : Option Addr) (cap : Nat) (l : List Stp) (w : World) (hs : StepsAt w.heap.size w ao l) (hmax : l.length ≤ maxLen) :
    Calls Try.prog 18 #[(.agg #[.int .i64 form, .int .i64 low, .int .i64 high, .int .i64 cycle, .int .i64 width, .int .i64 spread, .bool back, .bool rel, .slice ao l.length cap])] w fun e w' => e = .returned (.tuple #[.int .i64 (perV_ (perF_ (chkF form low high cycle width spread l) form) (cycle + sumS l)), .int .i64 (perF_ (chkF form low high cycle width spread l) form)]) ∧ Below w.heap.size w w' := by
  have CF := Lib.hid (fun W (hb : Below w.heap.size w W) => efCheck_any form low high cycle width spread back rel ao cap l W (stepsAt_up hs hb) hmax)
  have HZ := Lib.hid (fun (h : perF_ (chkF form low high cycle width spread l) form = 0) => chkE_zero (perZ_ h).1)
  have CY := Lib.hid (fun (h : perF_ (chkF form low high cycle width spread l) form = 0) W (hb : Below w.heap.size w W) => cycle_any form low high cycle width spread back rel ao cap l W (stepsAt_up hs hb) (chkE_zero (perZ_ h).1).2.2.2.2.2.2.2.1 (chkE_zero (perZ_ h).1).2.2.2.2.2.2.2.2.1 (chkE_zero (perZ_ h).1).2.2.2.2.1)
  have HPF := Lib.hid (show perF_ (chkF form low high cycle width spread l) form = (if chkF form low high cycle width spread l = 0 then whenW (form == 6) 4 else chkF form low high cycle width spread l) from rfl)
  generalize perF_ (chkF form low high cycle width spread l) form = pf at *
  have HPV := Lib.hid (show perV_ pf (cycle + sumS l) = if pf = 0 then cycle + sumS l else 0 from rfl)
  generalize perV_ pf (cycle + sumS l) = pv at *
  generalize chkF form low high cycle width spread l = k at *
  have KC := Lib.hid (effBelow w form low high cycle width spread back rel ao cap l)
  have KA := Lib.hid (show ∀ W o, Below (w.heap.size + 1) (w.alloc (.cells #[.int .i64 form, .int .i64 low, .int .i64 high, .int .i64 cycle, .int .i64 width, .int .i64 spread, .bool back, .bool rel, .slice ao l.length cap] 24)) W → Below (w.heap.size + 1) (w.alloc (.cells #[.int .i64 form, .int .i64 low, .int .i64 high, .int .i64 cycle, .int .i64 width, .int .i64 spread, .bool back, .bool rel, .slice ao l.length cap] 24)) (W.alloc o) from fun W o h => h.alloc (by have := h.size; simp at this; omega) o)
  have KM := Lib.hid (show ∀ W W', Below (w.heap.size + 1) (w.alloc (.cells #[.int .i64 form, .int .i64 low, .int .i64 high, .int .i64 cycle, .int .i64 width, .int .i64 spread, .bool back, .bool rel, .slice ao l.length cap] 24)) W → Below W.heap.size W W' → Below (w.heap.size + 1) (w.alloc (.cells #[.int .i64 form, .int .i64 low, .int .i64 high, .int .i64 cycle, .int .i64 width, .int .i64 spread, .bool back, .bool rel, .slice ao l.length cap] 24)) W' from fun W W' h1 h2 => h1.trans (h2.mono (by have := h1.size; simp at this; omega)))
  clear hs hmax
  go_enter Try.func18, Try.ntmps18
  go_upto_region 1 with fail
  go_cut [4] (fun s4 wx => s4 = .int .i64 pf ∧ Below (w.heap.size + 1) (w.alloc (.cells #[.int .i64 form, .int .i64 low, .int .i64 high, .int .i64 cycle, .int .i64 width, .int .i64 spread, .bool back, .bool rel, .slice ao l.length cap] 24)) wx)
  case first =>
    have hw0 : Below (w.heap.size + 1) (w.alloc (.cells #[.int .i64 form, .int .i64 low, .int .i64 high, .int .i64 cycle, .int .i64 width, .int .i64 spread, .bool back, .bool rel, .slice ao l.length cap] 24)) (w.alloc (.cells #[.int .i64 form, .int .i64 low, .int .i64 high, .int .i64 cycle, .int .i64 width, .int .i64 spread, .bool back, .bool rel, .slice ao l.length cap] 24)) := Below.refl _ _
    have hw1 : Below (w.heap.size + 1) (w.alloc (.cells #[.int .i64 form, .int .i64 low, .int .i64 high, .int .i64 cycle, .int .i64 width, .int .i64 spread, .bool back, .bool rel, .slice ao l.length cap] 24)) (World.drew (w.alloc (.cells #[.int .i64 form, .int .i64 low, .int .i64 high, .int .i64 cycle, .int .i64 width, .int .i64 spread, .bool back, .bool rel, .slice ao l.length cap] 24))) := (Below.refl _ _).drew
    go_region_held3 (fun W => W.cell? ⟨w.heap.size, 0, none⟩ = some (.int .i64 form) ∧ W.cell? ⟨w.heap.size, 1, none⟩ = some (.int .i64 low) ∧ W.cell? ⟨w.heap.size, 2, none⟩ = some (.int .i64 high) ∧ W.cell? ⟨w.heap.size, 3, none⟩ = some (.int .i64 cycle) ∧ W.cell? ⟨w.heap.size, 4, none⟩ = some (.int .i64 width) ∧ W.cell? ⟨w.heap.size, 5, none⟩ = some (.int .i64 spread) ∧ W.cell? ⟨w.heap.size, 6, none⟩ = some (.bool back) ∧ W.cell? ⟨w.heap.size, 7, none⟩ = some (.bool rel) ∧ W.cell? ⟨w.heap.size, 8, none⟩ = some (.slice ao l.length cap))
      (with_reducible first | exact (KC.out _ (by assumption)).2.2 | exact (KC.out _ (KA.out _ _ (by assumption))).2.2)
      (first
        | (go_at_call 43; (with_reducible refine (CF.out _ (KC.out _ (by assumption)).1).mono ?_); rintro e WC ⟨rfl, hbC⟩; have hwC := KM.out _ _ (by assumption) hbC; clear hbC)
        | (go_at_call 28; ((with_reducible refine (when_R _ 4 _).mono ?_); rintro e w' ⟨rfl, rfl⟩))
        | (go_at_call 26; refine (first2p _ k (whenW (form == 6) 4) _ (by simp [go_sem]) (by simp [go_sem])).mono ?_; rw [← HPF.out]; rintro e w' ⟨rfl, rfl⟩)
        | fail)
    all_goals go_wp2_with fail
    all_goals go_meet
    all_goals exact ⟨rfl, by with_reducible first | assumption | exact KA.out _ _ (by assumption)⟩
  case rest =>
    obtain ⟨rfl, hb2⟩ := hcut
    obtain ⟨w2, rfl⟩ : ∃ x, x = wc := ⟨wc, rfl⟩
    obtain ⟨hB2, hz2, e0, e1, e2, e3, e4, e5, e6, e7, e8⟩ := KC.out w2 hb2
    by_cases hf : pf = 0
    · have HCY := Lib.hid (CY.out hf w2 hB2)
      have HV := Lib.hid (show pv = cycle + sumS l by rw [HPV.out, if_pos hf])
      have HB2 := Lib.hid hB2
      generalize cycle + sumS l = cs at *
      subst hf
      clear CY HZ CF HPF HPV KC KA KM hB2 hb2
      go_wp2_with fail
      refine HCY.out.mono ?_
      rintro e w3 ⟨rfl, hb3⟩
      have HB3 := Lib.hid (HB2.out.trans (hb3.mono (by have := HB2.out.size; omega)))
      clear hb3
      go_wp2
      go_ret2
      exact ⟨by rw [HV.out] <;> rfl, HB3.out⟩
    · have HV := Lib.hid (show pv = 0 by rw [HPV.out, if_neg hf])
      have hb : (pf != 0) = true := by simp [hf]
      have HB2 := Lib.hid hB2
      clear CY HZ CF HPF HPV KC KA KM hB2 hb2 hf
      go_wp2
      go_ret2
      exact ⟨by rw [HV.out] <;> rfl, HB2.out⟩


end Go.Proofs.Ytopmdeefcjdadaa
