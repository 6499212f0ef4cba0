/- Check of effects, of both sides. (printed by wip/gen/gen_efcheck.py) -/
import Derived.Test.YtfidbdegggalmaaGreatDoorT66M06
import Derived.Deep.DeepCutAuto
import Derived.Deep.QuietTactic
import Derived.BigQuiet
import Derived.RegionTactic

namespace Go.Proofs.YtfidbdegggalmaaGreatDoor
open Go.RowKit
set_option linter.unusedVariables false
set_option linter.unusedSimpArgs false

set_option maxRecDepth 100000 in
set_option maxHeartbeats 16000000 in
theorem efCheck_any (form low high cycle width spread : Int) (back rel : Bool) (ao : Option Addr) (cap : Nat) (l : List Stp) (w : World) (hs : StepsAt w.heap.size w ao l) (hmax : l.length ≤ maxLen) :
    Calls Tryz.prog 9 #[(.agg #[.int .i64 form, .int .i64 low, .int .i64 high, .int .i64 cycle, .int .i64 width, .int .i64 spread, .bool back, .bool rel, .slice ao l.length cap])] w fun e w' => e = .returned (.int .i64 (chkF form low high cycle width spread l)) ∧ Below w.heap.size w w' := by
  unfold maxLen at hmax
  have HS := Lib.hid hs
  clear hs
  have CY := Lib.hid (fun (W : World) (hB : Below w.heap.size w W) (h1 : l.length ≤ 50) (h2 : l.all stpB = true) (h3 : 0 ≤ cycle ∧ cycle ≤ 3600000) (h7 : form = 7) => cycle_any form low high cycle width spread back rel ao cap l W (fun hne => by obtain ⟨b, off, k1, k2, k3⟩ := HS.out hne; exact ⟨b, off, k1, Nat.lt_of_lt_of_le k2 hB.size, fun i hi => ⟨(hB.cell (p := ⟨b, off + i * 3, none⟩) k2).trans (k3 i hi).1, (hB.cell (p := ⟨b, off + i * 3 + 1, none⟩) k2).trans (k3 i hi).2.1, (hB.cell (p := ⟨b, off + i * 3 + 2, none⟩) k2).trans (k3 i hi).2.2⟩⟩) h1 h2 h3)
  generalize hC : chkF form low high cycle width spread l = C
  have HC := Lib.hid hC.symm
  clear hC
  by_cases f4 : form = 4
  · subst f4
    have fb : inR 4 1 7 = true := by decide
    go_enter Tryz.func9, Tryz.ntmps9
    go_upto_region 4 with (first | (go_at_call 26; ((with_reducible refine (within_R _ _ _ _).mono ?_); rintro e w' ⟨rfl, rfl⟩)) | (go_at_call 27; ((with_reducible refine (eLevel_R _ _).mono ?_); rintro e w' ⟨rfl, rfl⟩)) | (go_at_call 28; ((with_reducible refine (when_R _ _ _).mono ?_); rintro e w' ⟨rfl, rfl⟩)) | fail)
    rcases Nat.eq_zero_or_pos l.length with l0 | l0
    rotate_left
    · have l0' : ¬ l.length = 0 := by omega
      have HV := Lib.hid (show C = 3 by rw [HC.out]; simp [chkF, chkB, *])
      go_wp2_with (first | (go_at_call 26; ((with_reducible refine (within_R _ _ _ _).mono ?_); rintro e w' ⟨rfl, rfl⟩)) | (go_at_call 27; ((with_reducible refine (eLevel_R _ _).mono ?_); rintro e w' ⟨rfl, rfl⟩)) | (go_at_call 28; ((with_reducible refine (when_R _ _ _).mono ?_); rintro e w' ⟨rfl, rfl⟩)) | fail)
      all_goals go_ret
      all_goals exact ⟨by rw [HV.out] <;> rfl, (Below.refl _ _).alloc (Nat.le_refl _) _⟩
    go_upto_region 6 with (first | (go_at_call 26; ((with_reducible refine (within_R _ _ _ _).mono ?_); rintro e w' ⟨rfl, rfl⟩)) | (go_at_call 27; ((with_reducible refine (eLevel_R _ _).mono ?_); rintro e w' ⟨rfl, rfl⟩)) | (go_at_call 28; ((with_reducible refine (when_R _ _ _).mono ?_); rintro e w' ⟨rfl, rfl⟩)) | fail)
    rcases Bool.eq_false_or_eq_true (inR low 0 65535) with k1 | k1
    rotate_left
    · skip
      have HV := Lib.hid (show C = 1 by rw [HC.out]; simp [chkF, chkB, *])
      go_wp2_with (first | (go_at_call 26; ((with_reducible refine (within_R _ _ _ _).mono ?_); rintro e w' ⟨rfl, rfl⟩)) | (go_at_call 27; ((with_reducible refine (eLevel_R _ _).mono ?_); rintro e w' ⟨rfl, rfl⟩)) | (go_at_call 28; ((with_reducible refine (when_R _ _ _).mono ?_); rintro e w' ⟨rfl, rfl⟩)) | fail)
      all_goals go_ret
      all_goals exact ⟨by rw [HV.out] <;> rfl, (Below.refl _ _).alloc (Nat.le_refl _) _⟩
    rcases Bool.eq_false_or_eq_true (inR high 0 65535) with k2 | k2
    rotate_left
    · skip
      have HV := Lib.hid (show C = 1 by rw [HC.out]; simp [chkF, chkB, *])
      go_wp2_with (first | (go_at_call 26; ((with_reducible refine (within_R _ _ _ _).mono ?_); rintro e w' ⟨rfl, rfl⟩)) | (go_at_call 27; ((with_reducible refine (eLevel_R _ _).mono ?_); rintro e w' ⟨rfl, rfl⟩)) | (go_at_call 28; ((with_reducible refine (when_R _ _ _).mono ?_); rintro e w' ⟨rfl, rfl⟩)) | fail)
      all_goals go_ret
      all_goals exact ⟨by rw [HV.out] <;> rfl, (Below.refl _ _).alloc (Nat.le_refl _) _⟩
    by_cases k3 : high < low
    · skip
      have HV := Lib.hid (show C = 1 by rw [HC.out]; simp [chkF, chkB, *])
      go_wp2_with (first | (go_at_call 26; ((with_reducible refine (within_R _ _ _ _).mono ?_); rintro e w' ⟨rfl, rfl⟩)) | (go_at_call 27; ((with_reducible refine (eLevel_R _ _).mono ?_); rintro e w' ⟨rfl, rfl⟩)) | (go_at_call 28; ((with_reducible refine (when_R _ _ _).mono ?_); rintro e w' ⟨rfl, rfl⟩)) | fail)
      all_goals go_ret
      all_goals exact ⟨by rw [HV.out] <;> rfl, (Below.refl _ _).alloc (Nat.le_refl _) _⟩
    have k3' : low ≤ high := by omega
    go_upto_region 8 with (first | (go_at_call 26; ((with_reducible refine (within_R _ _ _ _).mono ?_); rintro e w' ⟨rfl, rfl⟩)) | (go_at_call 27; ((with_reducible refine (eLevel_R _ _).mono ?_); rintro e w' ⟨rfl, rfl⟩)) | (go_at_call 28; ((with_reducible refine (when_R _ _ _).mono ?_); rintro e w' ⟨rfl, rfl⟩)) | fail)
    rcases Bool.eq_false_or_eq_true (inR cycle 1 3600000) with k4 | k4
    rotate_left
    · skip
      have HV := Lib.hid (show C = 1 by rw [HC.out]; simp [chkF, chkB, *])
      go_wp2_with (first | (go_at_call 26; ((with_reducible refine (within_R _ _ _ _).mono ?_); rintro e w' ⟨rfl, rfl⟩)) | (go_at_call 27; ((with_reducible refine (eLevel_R _ _).mono ?_); rintro e w' ⟨rfl, rfl⟩)) | (go_at_call 28; ((with_reducible refine (when_R _ _ _).mono ?_); rintro e w' ⟨rfl, rfl⟩)) | fail)
      all_goals go_ret
      all_goals exact ⟨by rw [HV.out] <;> rfl, (Below.refl _ _).alloc (Nat.le_refl _) _⟩
    rcases Bool.eq_false_or_eq_true (inR width 0 1000) with k5 | k5
    rotate_left
    · skip
      have HV := Lib.hid (show C = 1 by rw [HC.out]; simp [chkF, chkB, *])
      go_wp2_with (first | (go_at_call 26; ((with_reducible refine (within_R _ _ _ _).mono ?_); rintro e w' ⟨rfl, rfl⟩)) | (go_at_call 27; ((with_reducible refine (eLevel_R _ _).mono ?_); rintro e w' ⟨rfl, rfl⟩)) | (go_at_call 28; ((with_reducible refine (when_R _ _ _).mono ?_); rintro e w' ⟨rfl, rfl⟩)) | fail)
      all_goals go_ret
      all_goals exact ⟨by rw [HV.out] <;> rfl, (Below.refl _ _).alloc (Nat.le_refl _) _⟩
    rcases Bool.eq_false_or_eq_true (inR spread (-10000) 10000) with k6 | k6
    rotate_left
    · skip
      have HV := Lib.hid (show C = 1 by rw [HC.out]; simp [chkF, chkB, *])
      go_wp2_with (first | (go_at_call 26; ((with_reducible refine (within_R _ _ _ _).mono ?_); rintro e w' ⟨rfl, rfl⟩)) | (go_at_call 27; ((with_reducible refine (eLevel_R _ _).mono ?_); rintro e w' ⟨rfl, rfl⟩)) | (go_at_call 28; ((with_reducible refine (when_R _ _ _).mono ?_); rintro e w' ⟨rfl, rfl⟩)) | fail)
      all_goals go_ret
      all_goals exact ⟨by rw [HV.out] <;> rfl, (Below.refl _ _).alloc (Nat.le_refl _) _⟩
    have HV := Lib.hid (show C = 0 by rw [HC.out]; simp [chkF, chkB, *])
    go_wp2_with (first | (go_at_call 26; ((with_reducible refine (within_R _ _ _ _).mono ?_); rintro e w' ⟨rfl, rfl⟩)) | (go_at_call 27; ((with_reducible refine (eLevel_R _ _).mono ?_); rintro e w' ⟨rfl, rfl⟩)) | (go_at_call 28; ((with_reducible refine (when_R _ _ _).mono ?_); rintro e w' ⟨rfl, rfl⟩)) | fail)
    all_goals go_ret
    all_goals exact ⟨by rw [HV.out] <;> rfl, (Below.refl _ _).alloc (Nat.le_refl _) _⟩
  by_cases f7 : form = 7
  · subst f7
    have fb : inR 7 1 7 = true := by decide
    go_enter Tryz.func9, Tryz.ntmps9
    go_upto_region 4 with (first | (go_at_call 26; ((with_reducible refine (within_R _ _ _ _).mono ?_); rintro e w' ⟨rfl, rfl⟩)) | (go_at_call 27; ((with_reducible refine (eLevel_R _ _).mono ?_); rintro e w' ⟨rfl, rfl⟩)) | (go_at_call 28; ((with_reducible refine (when_R _ _ _).mono ?_); rintro e w' ⟨rfl, rfl⟩)) | fail)
    by_cases w0 : width = 0
    rotate_left
    · have w1 : (width != 0) = true := by simp [w0]
      have HV := Lib.hid (show C = 3 by rw [HC.out]; simp [chkF, chkB, *])
      go_wp2_with (first | (go_at_call 26; ((with_reducible refine (within_R _ _ _ _).mono ?_); rintro e w' ⟨rfl, rfl⟩)) | (go_at_call 27; ((with_reducible refine (eLevel_R _ _).mono ?_); rintro e w' ⟨rfl, rfl⟩)) | (go_at_call 28; ((with_reducible refine (when_R _ _ _).mono ?_); rintro e w' ⟨rfl, rfl⟩)) | fail)
      all_goals go_ret
      all_goals exact ⟨by rw [HV.out] <;> rfl, (Below.refl _ _).alloc (Nat.le_refl _) _⟩
    subst w0
    by_cases c0 : cycle = 0
    rotate_left
    · have c1 : (cycle != 0) = true := by simp [c0]
      have HV := Lib.hid (show C = 3 by rw [HC.out]; simp [chkF, chkB, *])
      go_wp2_with (first | (go_at_call 26; ((with_reducible refine (within_R _ _ _ _).mono ?_); rintro e w' ⟨rfl, rfl⟩)) | (go_at_call 27; ((with_reducible refine (eLevel_R _ _).mono ?_); rintro e w' ⟨rfl, rfl⟩)) | (go_at_call 28; ((with_reducible refine (when_R _ _ _).mono ?_); rintro e w' ⟨rfl, rfl⟩)) | fail)
      all_goals go_ret
      all_goals exact ⟨by rw [HV.out] <;> rfl, (Below.refl _ _).alloc (Nat.le_refl _) _⟩
    subst c0
    go_upto_region 6 with (first | (go_at_call 26; ((with_reducible refine (within_R _ _ _ _).mono ?_); rintro e w' ⟨rfl, rfl⟩)) | (go_at_call 27; ((with_reducible refine (eLevel_R _ _).mono ?_); rintro e w' ⟨rfl, rfl⟩)) | (go_at_call 28; ((with_reducible refine (when_R _ _ _).mono ?_); rintro e w' ⟨rfl, rfl⟩)) | fail)
    rcases Bool.eq_false_or_eq_true (inR low 0 65535) with k1 | k1
    rotate_left
    · skip
      have HV := Lib.hid (show C = 1 by rw [HC.out]; simp [chkF, chkB, *])
      go_wp2_with (first | (go_at_call 26; ((with_reducible refine (within_R _ _ _ _).mono ?_); rintro e w' ⟨rfl, rfl⟩)) | (go_at_call 27; ((with_reducible refine (eLevel_R _ _).mono ?_); rintro e w' ⟨rfl, rfl⟩)) | (go_at_call 28; ((with_reducible refine (when_R _ _ _).mono ?_); rintro e w' ⟨rfl, rfl⟩)) | fail)
      all_goals go_ret
      all_goals exact ⟨by rw [HV.out] <;> rfl, (Below.refl _ _).alloc (Nat.le_refl _) _⟩
    rcases Bool.eq_false_or_eq_true (inR high 0 65535) with k2 | k2
    rotate_left
    · skip
      have HV := Lib.hid (show C = 1 by rw [HC.out]; simp [chkF, chkB, *])
      go_wp2_with (first | (go_at_call 26; ((with_reducible refine (within_R _ _ _ _).mono ?_); rintro e w' ⟨rfl, rfl⟩)) | (go_at_call 27; ((with_reducible refine (eLevel_R _ _).mono ?_); rintro e w' ⟨rfl, rfl⟩)) | (go_at_call 28; ((with_reducible refine (when_R _ _ _).mono ?_); rintro e w' ⟨rfl, rfl⟩)) | fail)
      all_goals go_ret
      all_goals exact ⟨by rw [HV.out] <;> rfl, (Below.refl _ _).alloc (Nat.le_refl _) _⟩
    by_cases k3 : high < low
    · skip
      have HV := Lib.hid (show C = 1 by rw [HC.out]; simp [chkF, chkB, *])
      go_wp2_with (first | (go_at_call 26; ((with_reducible refine (within_R _ _ _ _).mono ?_); rintro e w' ⟨rfl, rfl⟩)) | (go_at_call 27; ((with_reducible refine (eLevel_R _ _).mono ?_); rintro e w' ⟨rfl, rfl⟩)) | (go_at_call 28; ((with_reducible refine (when_R _ _ _).mono ?_); rintro e w' ⟨rfl, rfl⟩)) | fail)
      all_goals go_ret
      all_goals exact ⟨by rw [HV.out] <;> rfl, (Below.refl _ _).alloc (Nat.le_refl _) _⟩
    have k3' : low ≤ high := by omega
    go_upto_region 8 with (first | (go_at_call 26; ((with_reducible refine (within_R _ _ _ _).mono ?_); rintro e w' ⟨rfl, rfl⟩)) | (go_at_call 27; ((with_reducible refine (eLevel_R _ _).mono ?_); rintro e w' ⟨rfl, rfl⟩)) | (go_at_call 28; ((with_reducible refine (when_R _ _ _).mono ?_); rintro e w' ⟨rfl, rfl⟩)) | fail)
    have k5 : inR 0 0 1000 = true := by decide
    rcases Bool.eq_false_or_eq_true (inR spread (-10000) 10000) with k6 | k6
    rotate_left
    · skip
      have HV := Lib.hid (show C = 1 by rw [HC.out]; simp [chkF, chkB, *])
      go_wp2_with (first | (go_at_call 26; ((with_reducible refine (within_R _ _ _ _).mono ?_); rintro e w' ⟨rfl, rfl⟩)) | (go_at_call 27; ((with_reducible refine (eLevel_R _ _).mono ?_); rintro e w' ⟨rfl, rfl⟩)) | (go_at_call 28; ((with_reducible refine (when_R _ _ _).mono ?_); rintro e w' ⟨rfl, rfl⟩)) | fail)
      all_goals go_ret
      all_goals exact ⟨by rw [HV.out] <;> rfl, (Below.refl _ _).alloc (Nat.le_refl _) _⟩
    rcases Nat.eq_zero_or_pos l.length with l0 | l0
    · skip
      have HV := Lib.hid (show C = 8 by rw [HC.out]; simp [chkF, chkB, *])
      go_wp2_with (first | (go_at_call 26; ((with_reducible refine (within_R _ _ _ _).mono ?_); rintro e w' ⟨rfl, rfl⟩)) | (go_at_call 27; ((with_reducible refine (eLevel_R _ _).mono ?_); rintro e w' ⟨rfl, rfl⟩)) | (go_at_call 28; ((with_reducible refine (when_R _ _ _).mono ?_); rintro e w' ⟨rfl, rfl⟩)) | fail)
      all_goals go_ret
      all_goals exact ⟨by rw [HV.out] <;> rfl, (Below.refl _ _).alloc (Nat.le_refl _) _⟩
    have l0' : ¬ l.length = 0 := by omega
    have l0'' : ((l.length : Int) == 0) = false := by rw [beq_eq_false_iff_ne]; omega
    by_cases l5 : 50 < l.length
    · skip
      have HV := Lib.hid (show C = 2 by rw [HC.out]; simp [chkF, chkB, *])
      go_wp2_with (first | (go_at_call 26; ((with_reducible refine (within_R _ _ _ _).mono ?_); rintro e w' ⟨rfl, rfl⟩)) | (go_at_call 27; ((with_reducible refine (eLevel_R _ _).mono ?_); rintro e w' ⟨rfl, rfl⟩)) | (go_at_call 28; ((with_reducible refine (when_R _ _ _).mono ?_); rintro e w' ⟨rfl, rfl⟩)) | fail)
      all_goals go_ret
      all_goals exact ⟨by rw [HV.out] <;> rfl, (Below.refl _ _).alloc (Nat.le_refl _) _⟩
    have l5' : l.length ≤ 50 := by omega
    obtain ⟨b, off, rfl, hbb, hc9⟩ := HS.out (by intro h; subst h; simp at l0)
    have HC9 := Lib.hid hc9
    have HCX := Lib.hid (show C = if l.all stpB = true then (if inR (sumS l) 1 3600000 = true then 0 else 1) else 1 by rw [HC.out]; unfold chkF; rw [show (0 : Int) + sumS l = sumS l by omega]; generalize inR (sumS l) 1 3600000 = cy; cases hst : l.all stpB <;> cases cy <;> simp [chkB, *])
    have HBX := Lib.hid (show ∀ W, Below (w.heap.size + 1) (w.alloc (.cells #[.int .i64 7, .int .i64 low, .int .i64 high, .int .i64 0, .int .i64 0, .int .i64 spread, .bool back, .bool rel, .slice (some ⟨b, off, none⟩) l.length cap] 24)) W → (W.cell? ⟨w.heap.size, 0, none⟩ = some (.int .i64 7) ∧ W.cell? ⟨w.heap.size, 1, none⟩ = some (.int .i64 low) ∧ W.cell? ⟨w.heap.size, 2, none⟩ = some (.int .i64 high) ∧ W.cell? ⟨w.heap.size, 3, none⟩ = some (.int .i64 0) ∧ W.cell? ⟨w.heap.size, 4, none⟩ = some (.int .i64 0) ∧ W.cell? ⟨w.heap.size, 5, none⟩ = some (.int .i64 spread) ∧ W.cell? ⟨w.heap.size, 6, none⟩ = some (.bool back) ∧ W.cell? ⟨w.heap.size, 7, none⟩ = some (.bool rel) ∧ W.cell? ⟨w.heap.size, 8, none⟩ = some (.slice (some ⟨b, off, none⟩) l.length cap)) from fun W hW => by
      refine ⟨?_, ?_, ?_, ?_, ?_, ?_, ?_, ?_, ?_⟩
      · exact (hW.cell (p := ⟨w.heap.size, 0, none⟩) (by simp)).trans (by simp [go_sem])
      · exact (hW.cell (p := ⟨w.heap.size, 1, none⟩) (by simp)).trans (by simp [go_sem])
      · exact (hW.cell (p := ⟨w.heap.size, 2, none⟩) (by simp)).trans (by simp [go_sem])
      · exact (hW.cell (p := ⟨w.heap.size, 3, none⟩) (by simp)).trans (by simp [go_sem])
      · exact (hW.cell (p := ⟨w.heap.size, 4, none⟩) (by simp)).trans (by simp [go_sem])
      · exact (hW.cell (p := ⟨w.heap.size, 5, none⟩) (by simp)).trans (by simp [go_sem])
      · exact (hW.cell (p := ⟨w.heap.size, 6, none⟩) (by simp)).trans (by simp [go_sem])
      · exact (hW.cell (p := ⟨w.heap.size, 7, none⟩) (by simp)).trans (by simp [go_sem])
      · exact (hW.cell (p := ⟨w.heap.size, 8, none⟩) (by simp)).trans (by simp [go_sem])
    )
    clear hc9
    go_wp2_with (first | (go_at_call 26; ((with_reducible refine (within_R _ _ _ _).mono ?_); rintro e w' ⟨rfl, rfl⟩)) | (go_at_call 27; ((with_reducible refine (eLevel_R _ _).mono ?_); rintro e w' ⟨rfl, rfl⟩)) | (go_at_call 28; ((with_reducible refine (when_R _ _ _).mono ?_); rintro e w' ⟨rfl, rfl⟩)) | fail)
    go_loopw [96] (fun i wr => ∃ k : Nat, k ≤ l.length ∧ i = .int .i64 k ∧ Hid ((l.take k).all stpB = true) ∧ Below (w.heap.size + 1) (w.alloc (.cells #[.int .i64 7, .int .i64 low, .int .i64 high, .int .i64 0, .int .i64 0, .int .i64 spread, .bool back, .bool rel, .slice (some ⟨b, off, none⟩) l.length cap] 24)) wr) (fun i _ => l.length - (intOf i).toNat)
    case atStart => exact ⟨0, Nat.zero_le _, rfl, Lib.hid (by simp), Below.refl _ _⟩
    case round =>
      obtain ⟨k, hk, rfl, HAK, hbw⟩ := hrel
      have HB := Lib.hid hbw
      have HBW := Lib.hid (show Below w.heap.size w wr from ((Below.refl _ _).alloc (Nat.le_refl _) _).trans (hbw.mono (by omega)))
      have hzw := hbw.size
      simp at hzw
      by_cases hlt : k < l.length
      · obtain ⟨c0, c1, c2⟩ := HC9.out k hlt
        have d0 : wr.cell? ⟨b, off + k * 3, none⟩ = some (.int .i64 l[k].lv) := (HBW.out.cell (p := ⟨b, off + k * 3, none⟩) hbb).trans c0
        have d1 : wr.cell? ⟨b, off + k * 3 + 1, none⟩ = some (.int .i64 l[k].hold) := (HBW.out.cell (p := ⟨b, off + k * 3 + 1, none⟩) hbb).trans c1
        have d2 : wr.cell? ⟨b, off + k * 3 + 2, none⟩ = some (.int .i64 l[k].fade) := (HBW.out.cell (p := ⟨b, off + k * 3 + 2, none⟩) hbb).trans c2
        have hbr : b < wr.heap.size := by omega
        have HNO := Lib.hid (fun (h : stpB l[k] = false) => (show C = 1 by
          have h2 : ¬ l.all stpB = true := by
            intro h3
            rw [List.all_eq_true.1 h3 _ (List.getElem_mem hlt)] at h
            cases h
          rw [HCX.out, if_neg h2]))
        have HNX := Lib.hid (show (l.take (k + 1)).all stpB = ((l.take k).all stpB && stpB l[k]) by rw [List.take_succ_eq_append_getElem hlt, List.all_append]; simp)
        have HSB := Lib.hid (show stpB l[k] = (inR l[k].lv 0 65535 && inR l[k].hold 0 3600000 && inR l[k].fade 0 3600000) from rfl)
        clear hbw c0 c1 c2
        rcases Bool.eq_false_or_eq_true (inR l[k].lv 0 65535) with m0 | m0
        rotate_left
        · have HV := Lib.hid (HNO.out (by rw [HSB.out]; simp [*]))
          go_wp2_with (first | (go_at_call 26; ((with_reducible refine (within_R _ _ _ _).mono ?_); rintro e w' ⟨rfl, rfl⟩)) | (go_at_call 27; ((with_reducible refine (eLevel_R _ _).mono ?_); rintro e w' ⟨rfl, rfl⟩)) | (go_at_call 28; ((with_reducible refine (when_R _ _ _).mono ?_); rintro e w' ⟨rfl, rfl⟩)) | fail)
          all_goals go_ret
          all_goals exact ⟨by rw [HV.out] <;> rfl, HBW.out.alloc (by omega) _⟩
        rcases Bool.eq_false_or_eq_true (inR l[k].hold 0 3600000) with m1 | m1
        rotate_left
        · have HV := Lib.hid (HNO.out (by rw [HSB.out]; simp [*]))
          go_wp2_with (first | (go_at_call 26; ((with_reducible refine (within_R _ _ _ _).mono ?_); rintro e w' ⟨rfl, rfl⟩)) | (go_at_call 27; ((with_reducible refine (eLevel_R _ _).mono ?_); rintro e w' ⟨rfl, rfl⟩)) | (go_at_call 28; ((with_reducible refine (when_R _ _ _).mono ?_); rintro e w' ⟨rfl, rfl⟩)) | fail)
          all_goals go_ret
          all_goals exact ⟨by rw [HV.out] <;> rfl, HBW.out.alloc (by omega) _⟩
        rcases Bool.eq_false_or_eq_true (inR l[k].fade 0 3600000) with m2 | m2
        rotate_left
        · have HV := Lib.hid (HNO.out (by rw [HSB.out]; simp [*]))
          go_wp2_with (first | (go_at_call 26; ((with_reducible refine (within_R _ _ _ _).mono ?_); rintro e w' ⟨rfl, rfl⟩)) | (go_at_call 27; ((with_reducible refine (eLevel_R _ _).mono ?_); rintro e w' ⟨rfl, rfl⟩)) | (go_at_call 28; ((with_reducible refine (when_R _ _ _).mono ?_); rintro e w' ⟨rfl, rfl⟩)) | fail)
          all_goals go_ret
          all_goals exact ⟨by rw [HV.out] <;> rfl, HBW.out.alloc (by omega) _⟩
        have HQ := Lib.hid (show (l.take (k + 1)).all stpB = true by rw [HNX.out, HAK.out, HSB.out, m0, m1, m2]; rfl)
        go_wp2_with (first | (go_at_call 26; ((with_reducible refine (within_R _ _ _ _).mono ?_); rintro e w' ⟨rfl, rfl⟩)) | (go_at_call 27; ((with_reducible refine (eLevel_R _ _).mono ?_); rintro e w' ⟨rfl, rfl⟩)) | (go_at_call 28; ((with_reducible refine (when_R _ _ _).mono ?_); rintro e w' ⟨rfl, rfl⟩)) | fail)
        go_roundw
        case rel =>
          first
            | exact ⟨k + 1, by omega, by go_num, HQ, HB.out.alloc (by omega) _⟩
            | ((repeat apply Exists.intro); refine ⟨⟨k + 1, by omega, by go_num, HQ, HB.out.alloc (by omega) _⟩, ?_⟩; rfl)
        case measure => simp [intOf]; omega
      · have hkk : k = l.length := by omega
        have hall := HAK.out
        rw [hkk, List.take_length] at hall
        obtain ⟨e0, e1, e2, e3, e4, e5, e6, e7, e8⟩ := HBX.out wr hbw
        have hwb : w.heap.size < wr.heap.size := by omega
        have CY2 := Lib.hid (CY.out wr HBW.out l5' hall (by first | trivial | omega) (by first | trivial | rfl))
        rw [show (0 : Int) + sumS l = sumS l by omega] at CY2
        have HCZ := Lib.hid (show C = whenW (!inR (sumS l) 1 3600000) 1 by rw [HCX.out, if_pos hall]; unfold whenW; cases inR (sumS l) 1 3600000 <;> rfl)
        subst hkk
        generalize sumS l = sm at *
        clear hbw hall HAK HB
        go_wp2_with fail
        refine CY2.out.mono ?_
        rintro e wE ⟨rfl, hbE⟩
        have HBE := Lib.hid (show Below w.heap.size w wE from HBW.out.trans (hbE.mono (by omega)))
        clear hbE e0 e1 e2 e3 e4 e5 e6 e7 e8
        go_wp2_with (first | (go_at_call 26; ((with_reducible refine (within_R _ _ _ _).mono ?_); rintro e w' ⟨rfl, rfl⟩)) | (go_at_call 27; ((with_reducible refine (eLevel_R _ _).mono ?_); rintro e w' ⟨rfl, rfl⟩)) | (go_at_call 28; ((with_reducible refine (when_R _ _ _).mono ?_); rintro e w' ⟨rfl, rfl⟩)) | fail)
        all_goals go_ret
        all_goals exact ⟨by rw [HCZ.out] <;> rfl, HBE.out⟩
  have f4' : (form == 4) = false := by simp [f4]
  have f4'' : (form != 4) = true := by simp [f4]
  have f7' : (form == 7) = false := by simp [f7]
  have f7'' : (form != 7) = true := by simp [f7]
  go_enter Tryz.func9, Tryz.ntmps9
  rcases Bool.eq_false_or_eq_true (inR form 1 7) with fb | fb
  rotate_left
  · skip
    have HV := Lib.hid (show C = 4 by rw [HC.out]; simp [chkF, chkB, *])
    go_wp2_with (first | (go_at_call 26; ((with_reducible refine (within_R _ _ _ _).mono ?_); rintro e w' ⟨rfl, rfl⟩)) | (go_at_call 27; ((with_reducible refine (eLevel_R _ _).mono ?_); rintro e w' ⟨rfl, rfl⟩)) | (go_at_call 28; ((with_reducible refine (when_R _ _ _).mono ?_); rintro e w' ⟨rfl, rfl⟩)) | fail)
    all_goals go_ret
    all_goals exact ⟨by rw [HV.out] <;> rfl, (Below.refl _ _).alloc (Nat.le_refl _) _⟩
  go_upto_region 4 with (first | (go_at_call 26; ((with_reducible refine (within_R _ _ _ _).mono ?_); rintro e w' ⟨rfl, rfl⟩)) | (go_at_call 27; ((with_reducible refine (eLevel_R _ _).mono ?_); rintro e w' ⟨rfl, rfl⟩)) | (go_at_call 28; ((with_reducible refine (when_R _ _ _).mono ?_); rintro e w' ⟨rfl, rfl⟩)) | fail)
  by_cases w0 : width = 0
  rotate_left
  · have w1 : (width != 0) = true := by simp [w0]
    have HV := Lib.hid (show C = 3 by rw [HC.out]; simp [chkF, chkB, *])
    go_wp2_with (first | (go_at_call 26; ((with_reducible refine (within_R _ _ _ _).mono ?_); rintro e w' ⟨rfl, rfl⟩)) | (go_at_call 27; ((with_reducible refine (eLevel_R _ _).mono ?_); rintro e w' ⟨rfl, rfl⟩)) | (go_at_call 28; ((with_reducible refine (when_R _ _ _).mono ?_); rintro e w' ⟨rfl, rfl⟩)) | fail)
    all_goals go_ret
    all_goals exact ⟨by rw [HV.out] <;> rfl, (Below.refl _ _).alloc (Nat.le_refl _) _⟩
  subst w0
  rcases Nat.eq_zero_or_pos l.length with l0 | l0
  rotate_left
  · have l0' : ¬ l.length = 0 := by omega
    have HV := Lib.hid (show C = 3 by rw [HC.out]; simp [chkF, chkB, *])
    go_wp2_with (first | (go_at_call 26; ((with_reducible refine (within_R _ _ _ _).mono ?_); rintro e w' ⟨rfl, rfl⟩)) | (go_at_call 27; ((with_reducible refine (eLevel_R _ _).mono ?_); rintro e w' ⟨rfl, rfl⟩)) | (go_at_call 28; ((with_reducible refine (when_R _ _ _).mono ?_); rintro e w' ⟨rfl, rfl⟩)) | fail)
    all_goals go_ret
    all_goals exact ⟨by rw [HV.out] <;> rfl, (Below.refl _ _).alloc (Nat.le_refl _) _⟩
  go_upto_region 6 with (first | (go_at_call 26; ((with_reducible refine (within_R _ _ _ _).mono ?_); rintro e w' ⟨rfl, rfl⟩)) | (go_at_call 27; ((with_reducible refine (eLevel_R _ _).mono ?_); rintro e w' ⟨rfl, rfl⟩)) | (go_at_call 28; ((with_reducible refine (when_R _ _ _).mono ?_); rintro e w' ⟨rfl, rfl⟩)) | fail)
  rcases Bool.eq_false_or_eq_true (inR low 0 65535) with k1 | k1
  rotate_left
  · skip
    have HV := Lib.hid (show C = 1 by rw [HC.out]; simp [chkF, chkB, *])
    go_wp2_with (first | (go_at_call 26; ((with_reducible refine (within_R _ _ _ _).mono ?_); rintro e w' ⟨rfl, rfl⟩)) | (go_at_call 27; ((with_reducible refine (eLevel_R _ _).mono ?_); rintro e w' ⟨rfl, rfl⟩)) | (go_at_call 28; ((with_reducible refine (when_R _ _ _).mono ?_); rintro e w' ⟨rfl, rfl⟩)) | fail)
    all_goals go_ret
    all_goals exact ⟨by rw [HV.out] <;> rfl, (Below.refl _ _).alloc (Nat.le_refl _) _⟩
  rcases Bool.eq_false_or_eq_true (inR high 0 65535) with k2 | k2
  rotate_left
  · skip
    have HV := Lib.hid (show C = 1 by rw [HC.out]; simp [chkF, chkB, *])
    go_wp2_with (first | (go_at_call 26; ((with_reducible refine (within_R _ _ _ _).mono ?_); rintro e w' ⟨rfl, rfl⟩)) | (go_at_call 27; ((with_reducible refine (eLevel_R _ _).mono ?_); rintro e w' ⟨rfl, rfl⟩)) | (go_at_call 28; ((with_reducible refine (when_R _ _ _).mono ?_); rintro e w' ⟨rfl, rfl⟩)) | fail)
    all_goals go_ret
    all_goals exact ⟨by rw [HV.out] <;> rfl, (Below.refl _ _).alloc (Nat.le_refl _) _⟩
  by_cases k3 : high < low
  · skip
    have HV := Lib.hid (show C = 1 by rw [HC.out]; simp [chkF, chkB, *])
    go_wp2_with (first | (go_at_call 26; ((with_reducible refine (within_R _ _ _ _).mono ?_); rintro e w' ⟨rfl, rfl⟩)) | (go_at_call 27; ((with_reducible refine (eLevel_R _ _).mono ?_); rintro e w' ⟨rfl, rfl⟩)) | (go_at_call 28; ((with_reducible refine (when_R _ _ _).mono ?_); rintro e w' ⟨rfl, rfl⟩)) | fail)
    all_goals go_ret
    all_goals exact ⟨by rw [HV.out] <;> rfl, (Below.refl _ _).alloc (Nat.le_refl _) _⟩
  have k3' : low ≤ high := by omega
  go_upto_region 8 with (first | (go_at_call 26; ((with_reducible refine (within_R _ _ _ _).mono ?_); rintro e w' ⟨rfl, rfl⟩)) | (go_at_call 27; ((with_reducible refine (eLevel_R _ _).mono ?_); rintro e w' ⟨rfl, rfl⟩)) | (go_at_call 28; ((with_reducible refine (when_R _ _ _).mono ?_); rintro e w' ⟨rfl, rfl⟩)) | fail)
  rcases Bool.eq_false_or_eq_true (inR cycle 1 3600000) with k4 | k4
  rotate_left
  · skip
    have HV := Lib.hid (show C = 1 by rw [HC.out]; simp [chkF, chkB, *])
    go_wp2_with (first | (go_at_call 26; ((with_reducible refine (within_R _ _ _ _).mono ?_); rintro e w' ⟨rfl, rfl⟩)) | (go_at_call 27; ((with_reducible refine (eLevel_R _ _).mono ?_); rintro e w' ⟨rfl, rfl⟩)) | (go_at_call 28; ((with_reducible refine (when_R _ _ _).mono ?_); rintro e w' ⟨rfl, rfl⟩)) | fail)
    all_goals go_ret
    all_goals exact ⟨by rw [HV.out] <;> rfl, (Below.refl _ _).alloc (Nat.le_refl _) _⟩
  have k5 : inR 0 0 1000 = true := by decide
  rcases Bool.eq_false_or_eq_true (inR spread (-10000) 10000) with k6 | k6
  rotate_left
  · skip
    have HV := Lib.hid (show C = 1 by rw [HC.out]; simp [chkF, chkB, *])
    go_wp2_with (first | (go_at_call 26; ((with_reducible refine (within_R _ _ _ _).mono ?_); rintro e w' ⟨rfl, rfl⟩)) | (go_at_call 27; ((with_reducible refine (eLevel_R _ _).mono ?_); rintro e w' ⟨rfl, rfl⟩)) | (go_at_call 28; ((with_reducible refine (when_R _ _ _).mono ?_); rintro e w' ⟨rfl, rfl⟩)) | fail)
    all_goals go_ret
    all_goals exact ⟨by rw [HV.out] <;> rfl, (Below.refl _ _).alloc (Nat.le_refl _) _⟩
  have HV := Lib.hid (show C = 0 by rw [HC.out]; simp [chkF, chkB, *])
  go_wp2_with (first | (go_at_call 26; ((with_reducible refine (within_R _ _ _ _).mono ?_); rintro e w' ⟨rfl, rfl⟩)) | (go_at_call 27; ((with_reducible refine (eLevel_R _ _).mono ?_); rintro e w' ⟨rfl, rfl⟩)) | (go_at_call 28; ((with_reducible refine (when_R _ _ _).mono ?_); rintro e w' ⟨rfl, rfl⟩)) | fail)
  all_goals go_ret
  all_goals exact ⟨by rw [HV.out] <;> rfl, (Below.refl _ _).alloc (Nat.le_refl _) _⟩
end Go.Proofs.YtfidbdegggalmaaGreatDoor
