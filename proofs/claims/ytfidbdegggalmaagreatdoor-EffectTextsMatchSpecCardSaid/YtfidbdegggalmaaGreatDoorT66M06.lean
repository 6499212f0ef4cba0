/- Words of effects' Check; the cycle of an effect, of both sides. (printed by wip/gen/gen_efcheck.py) -/
import Derived.Test.YtfidbdegggalmaaGreatDoorT66M02
import Derived.Test.YtfidbdegggalmaaGreatDoorT66M05

namespace Go.Proofs.YtfidbdegggalmaaGreatDoor
open Go.RowKit
set_option linter.unusedVariables false
set_option linter.unusedSimpArgs false

set_option maxHeartbeats 400000 in
theorem eLevel_R (n : Int) (w : World) : Calls Tryz.prog 27 #[.int .i64 n] w fun e w' => e = .returned (.bool (inR n 0 65535)) ∧ w = w' := by
  go_enter Tryz.func27, Tryz.ntmps27
  go_wp2_with (go_at_call 26; refine (within_R _ _ _ _).mono ?_; rintro e w' ⟨rfl, rfl⟩)
  go_ret
  exact ⟨rfl, rfl⟩
/-- whether a step is right -/
def stpB (s : Stp) : Bool := inR s.lv 0 65535 && inR s.hold 0 3600000 && inR s.fade 0 3600000
def sumS : List Stp → Int
  | [] => 0
  | s :: r => s.hold + s.fade + sumS r
theorem sumS_append (l m : List Stp) : sumS (l ++ m) = sumS l + sumS m := by
  induction l with
  | nil => simp [sumS]
  | cons s r ih => simp only [List.cons_append, sumS, ih]; omega
theorem sumS_take (l : List Stp) (k : Nat) (h : k < l.length) : sumS (l.take (k + 1)) = sumS (l.take k) + (l[k].hold + l[k].fade) := by
  rw [List.take_succ_eq_append_getElem h, sumS_append]
  simp [sumS]
theorem stpB_le {s : Stp} (h : stpB s = true) : (0 ≤ s.lv ∧ s.lv ≤ 65535) ∧ (0 ≤ s.hold ∧ s.hold ≤ 3600000) ∧ 0 ≤ s.fade ∧ s.fade ≤ 3600000 := by
  simp [stpB, inR] at h
  omega
theorem sumS_le (l : List Stp) (h : l.all stpB = true) : 0 ≤ sumS l ∧ sumS l ≤ 7200000 * l.length := by
  induction l with
  | nil => simp [sumS]
  | cons s r ih =>
    simp only [List.all_cons, Bool.and_eq_true] at h
    have h1 := ih h.2
    have h2 := stpB_le h.1
    simp only [sumS, List.length_cons]
    omega
theorem all_takeS {l : List Stp} (h : l.all stpB = true) (k : Nat) : (l.take k).all stpB = true := by
  rw [List.all_eq_true] at h ⊢
  exact fun x hx => h x (List.mem_of_mem_take hx)
/-- the fault of an effect -/
def chkB (fb f4 f7 w0 c0 l0 lb hb hl cb wb sb l50 st cy : Bool) : Int :=
  if !fb then 4 else if (!f4 && !w0) || (f7 && !c0) || (!f7 && !l0) then 3 else if !lb || !hb || hl then 1 else if (!f7 && !cb) || !wb || !sb then 1 else if !f7 then 0 else if l0 then 8 else if l50 then 2 else if !st then 1 else if cy then 0 else 1
def chkF (form low high cycle width spread : Int) (l : List Stp) : Int :=
  chkB (inR form 1 7) (form == 4) (form == 7) (width == 0) (cycle == 0) (l.length == 0) (inR low 0 65535) (inR high 0 65535) (decide (high < low)) (inR cycle 1 3600000) (inR width 0 1000) (inR spread (-10000) 10000) (decide (50 < l.length)) (l.all stpB) (inR (cycle + sumS l) 1 3600000)
def chkEf (x : Eff) : Int := chkF x.form x.low x.high x.cycle x.width x.spread x.steps
/-- the cells of the steps, whatever grows behind the block W -/
def StepsAt (B : Nat) (w : World) (ao : Option Addr) (l : List Stp) : Prop := l ≠ [] → ∃ b off, ao = some ⟨b, off, none⟩ ∧ b < B ∧ ∀ i (h : i < l.length), StpC w b (off + i * 3) l[i]

set_option maxHeartbeats 2000000 in
theorem cycle_any (form low high cycle width spread : Int) (back rel : Bool) (ao : Option Addr) (cap : Nat) (l : List Stp) (w : World) (hs : StepsAt w.heap.size w ao l) (hl : l.length ≤ 50) (hall : l.all stpB = true) (hc : 0 ≤ cycle ∧ cycle ≤ 3600000) :
    Calls Tryz.prog 29 #[(.agg #[.int .i64 form, .int .i64 low, .int .i64 high, .int .i64 cycle, .int .i64 width, .int .i64 spread, .bool back, .bool rel, .slice ao l.length cap])] w fun e w' => e = .returned (.int .i64 (cycle + sumS l)) ∧ Below w.heap.size w w' := by
  have HS := Lib.hid hs
  have HSB := Lib.hid (fun k => sumS_le _ (all_takeS hall k))
  have HK := Lib.hid (fun k (h : k < l.length) => sumS_take l k h)
  have HA := Lib.hid (fun k (h : k < l.length) => stpB_le (List.all_eq_true.1 hall _ (List.getElem_mem h)))
  have HEND := Lib.hid (show sumS (l.take l.length) = sumS l by rw [List.take_length])
  skip
  clear hs hall
  go_enter Tryz.func29, Tryz.ntmps29
  go_wp2_with fail
  go_loopw [3, 11] (fun n i wr => ∃ k : Nat, k ≤ l.length ∧ i = .int .i64 k ∧ n = .int .i64 (cycle + sumS (l.take k)) ∧ Below w.heap.size w wr ∧ w.heap.size + 1 ≤ wr.heap.size) (fun _ i _ => l.length - (intOf i).toNat)
  case atStart => exact ⟨0, Nat.zero_le _, rfl, by simp [sumS], (Below.refl _ _).alloc (Nat.le_refl _) _, by simp⟩
  case round =>
    obtain ⟨k, hk, rfl, rfl, hbw, hzw⟩ := hrel
    by_cases hlt : k < l.length
    · obtain ⟨b, off, rfl, hbb, hc9⟩ := HS.out (by intro h; subst h; simp at hlt)
      obtain ⟨c0, c1, c2⟩ := hc9 k hlt
      have d0 : wr.cell? ⟨b, off + k * 3, none⟩ = some (.int .i64 l[k].lv) := (hbw.cell (p := ⟨b, off + k * 3, none⟩) hbb).trans c0
      have d1 : wr.cell? ⟨b, off + k * 3 + 1, none⟩ = some (.int .i64 l[k].hold) := (hbw.cell (p := ⟨b, off + k * 3 + 1, none⟩) hbb).trans c1
      have d2 : wr.cell? ⟨b, off + k * 3 + 2, none⟩ = some (.int .i64 l[k].fade) := (hbw.cell (p := ⟨b, off + k * 3 + 2, none⟩) hbb).trans c2
      have hbr : b < wr.heap.size := by omega
      have HB := Lib.hid hbw
      have HN := Lib.hid (HK.out k hlt)
      have s1 := HSB.out k
      obtain ⟨_, s3, s4⟩ := HA.out k hlt
      have s2 : (l.take k).length ≤ 50 := by rw [List.length_take]; omega
      obtain ⟨s5, s6⟩ := s1
      have s7 : sumS (l.take k) ≤ 360000000 := by omega
      clear hbw c0 c1 c2 hc9 hbb s6
      go_wp2_with fail
      go_roundw
      case rel =>
        first
          | exact ⟨k + 1, by omega, by go_num, by rw [HN.out] <;> (congr 1; omega), HB.out.alloc (by omega) _, by simp; omega⟩
          | ((repeat apply Exists.intro); refine ⟨⟨k + 1, by omega, by go_num, by rw [HN.out] <;> (congr 1; omega), HB.out.alloc (by omega) _, by simp; omega⟩, ?_⟩; rfl)
      case measure => simp [intOf]; omega
    · have hkk : k = l.length := by omega
      have HB := Lib.hid hbw
      subst hkk
      clear hbw
      go_wp2_with fail
      go_ret
      exact ⟨by rw [HEND.out]; rfl, HB.out⟩

set_option maxHeartbeats 2000000 in
theorem rcycle_any (form low high cycle width spread : Int) (back rel : Bool) (ao : Option Addr) (cap : Nat) (l : List Stp) (w : World) (h7 : form = 7) (hs : StepsAt w.heap.size w ao l) (hl : l.length ≤ 50) (hall : l.all stpB = true) (hc : 0 ≤ cycle ∧ cycle ≤ 3600000) :
    Calls Tryz.prog 34 #[(.agg #[.int .i64 form, .int .i64 low, .int .i64 high, .int .i64 cycle, .int .i64 width, .int .i64 spread, .bool back, .bool rel, .slice ao l.length cap])] w fun e w' => e = .returned (.int .i64 (sumS l)) ∧ Below w.heap.size w w' := by
  have HS := Lib.hid hs
  have HSB := Lib.hid (fun k => sumS_le _ (all_takeS hall k))
  have HK := Lib.hid (fun k (h : k < l.length) => sumS_take l k h)
  have HA := Lib.hid (fun k (h : k < l.length) => stpB_le (List.all_eq_true.1 hall _ (List.getElem_mem h)))
  have HEND := Lib.hid (show sumS (l.take l.length) = sumS l by rw [List.take_length])
  subst h7
  clear hs hall
  go_enter Tryz.func34, Tryz.ntmps34
  go_wp2_with fail
  go_loopw [3, 14] (fun n i wr => ∃ k : Nat, k ≤ l.length ∧ i = .int .i64 k ∧ n = .int .i64 (sumS (l.take k)) ∧ Below w.heap.size w wr ∧ w.heap.size + 1 ≤ wr.heap.size) (fun _ i _ => l.length - (intOf i).toNat)
  case atStart => exact ⟨0, Nat.zero_le _, rfl, by simp [sumS], (Below.refl _ _).alloc (Nat.le_refl _) _, by simp⟩
  case round =>
    obtain ⟨k, hk, rfl, rfl, hbw, hzw⟩ := hrel
    by_cases hlt : k < l.length
    · obtain ⟨b, off, rfl, hbb, hc9⟩ := HS.out (by intro h; subst h; simp at hlt)
      obtain ⟨c0, c1, c2⟩ := hc9 k hlt
      have d0 : wr.cell? ⟨b, off + k * 3, none⟩ = some (.int .i64 l[k].lv) := (hbw.cell (p := ⟨b, off + k * 3, none⟩) hbb).trans c0
      have d1 : wr.cell? ⟨b, off + k * 3 + 1, none⟩ = some (.int .i64 l[k].hold) := (hbw.cell (p := ⟨b, off + k * 3 + 1, none⟩) hbb).trans c1
      have d2 : wr.cell? ⟨b, off + k * 3 + 2, none⟩ = some (.int .i64 l[k].fade) := (hbw.cell (p := ⟨b, off + k * 3 + 2, none⟩) hbb).trans c2
      have hbr : b < wr.heap.size := by omega
      have HB := Lib.hid hbw
      have HN := Lib.hid (HK.out k hlt)
      have s1 := HSB.out k
      obtain ⟨_, s3, s4⟩ := HA.out k hlt
      have s2 : (l.take k).length ≤ 50 := by rw [List.length_take]; omega
      obtain ⟨s5, s6⟩ := s1
      have s7 : sumS (l.take k) ≤ 360000000 := by omega
      clear hbw c0 c1 c2 hc9 hbb s6
      go_wp2_with fail
      go_roundw
      case rel =>
        first
          | exact ⟨k + 1, by omega, by go_num, by rw [HN.out] <;> (congr 1; omega), HB.out.alloc (by omega) _, by simp; omega⟩
          | ((repeat apply Exists.intro); refine ⟨⟨k + 1, by omega, by go_num, by rw [HN.out] <;> (congr 1; omega), HB.out.alloc (by omega) _, by simp; omega⟩, ?_⟩; rfl)
      case measure => simp [intOf]; omega
    · have hkk : k = l.length := by omega
      have HB := Lib.hid hbw
      subst hkk
      clear hbw
      go_wp2_with fail
      go_ret
      exact ⟨by rw [HEND.out]; rfl, HB.out⟩
end Go.Proofs.YtfidbdegggalmaaGreatDoor
