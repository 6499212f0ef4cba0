/- Words of effects' Check; the cycle of an effect, of both sides. (printed by wip/gen/gen_efcheck.py) The wave of a triangle. (printed by wip/gen/gen_waves.py) -/
import Derived.Test.YtopmdeefcjdadaaT28M23
import Derived.Deep.DeepCutAuto

namespace Go.Proofs.Ytopmdeefcjdadaa
open Go.RowKit
set_option linter.unusedVariables false
set_option linter.unusedSimpArgs false

set_option maxHeartbeats 400000 in
theorem eLevel_R (n : Int) (w : World) : Calls Try.prog 73 #[.int .i64 n] w fun e w' => e = .returned (.bool (inR n 0 65535)) ∧ w = w' := by
  go_enter Try.func73, Try.ntmps73
  go_wp2_with (go_at_call 30; refine (within_R _ _ _ _).mono ?_; rintro e w' ⟨rfl, rfl⟩)
  go_ret
  exact ⟨rfl, rfl⟩
/-- whether a step is right -/
def stpB (s : Stp) : Bool := inR s.lv 0 65535 && inR s.hold 0 3600000 && inR s.fade 0 3600000
def sumS : List Stp → Int
  | [] => 0
  | s :: r => s.hold + s.fade + sumS r
theorem sumS_append (l m : List Stp) : sumS (l ++ m) = sumS l + sumS m := by
  induction l with
  | nil => simp [sumS]
  | cons s r ih => simp only [List.cons_append, sumS, ih]; omega
theorem sumS_take (l : List Stp) (k : Nat) (h : k < l.length) : sumS (l.take (k + 1)) = sumS (l.take k) + (l[k].hold + l[k].fade) := by
  rw [List.take_succ_eq_append_getElem h, sumS_append]
  simp [sumS]
theorem stpB_le {s : Stp} (h : stpB s = true) : (0 ≤ s.lv ∧ s.lv ≤ 65535) ∧ (0 ≤ s.hold ∧ s.hold ≤ 3600000) ∧ 0 ≤ s.fade ∧ s.fade ≤ 3600000 := by
  simp [stpB, inR] at h
  omega
theorem sumS_le (l : List Stp) (h : l.all stpB = true) : 0 ≤ sumS l ∧ sumS l ≤ 7200000 * l.length := by
  induction l with
  | nil => simp [sumS]
  | cons s r ih =>
    simp only [List.all_cons, Bool.and_eq_true] at h
    have h1 := ih h.2
    have h2 := stpB_le h.1
    simp only [sumS, List.length_cons]
    omega
theorem all_takeS {l : List Stp} (h : l.all stpB = true) (k : Nat) : (l.take k).all stpB = true := by
  rw [List.all_eq_true] at h ⊢
  exact fun x hx => h x (List.mem_of_mem_take hx)
/-- the fault of an effect -/
def chkB (fb f4 f7 w0 c0 l0 lb hb hl cb wb sb l50 st cy : Bool) : Int :=
  if !fb then 4 else if (!f4 && !w0) || (f7 && !c0) || (!f7 && !l0) then 3 else if !lb || !hb || hl then 1 else if (!f7 && !cb) || !wb || !sb then 1 else if !f7 then 0 else if l0 then 8 else if l50 then 2 else if !st then 1 else if cy then 0 else 1
def chkF (form low high cycle width spread : Int) (l : List Stp) : Int :=
  chkB (inR form 1 7) (form == 4) (form == 7) (width == 0) (cycle == 0) (l.length == 0) (inR low 0 65535) (inR high 0 65535) (decide (high < low)) (inR cycle 1 3600000) (inR width 0 1000) (inR spread (-10000) 10000) (decide (50 < l.length)) (l.all stpB) (inR (cycle + sumS l) 1 3600000)
def chkEf (x : Eff) : Int := chkF x.form x.low x.high x.cycle x.width x.spread x.steps
/-- the cells of the steps, whatever grows behind the block W -/
def StepsAt (B : Nat) (w : World) (ao : Option Addr) (l : List Stp) : Prop := l ≠ [] → ∃ b off, ao = some ⟨b, off, none⟩ ∧ b < B ∧ ∀ i (h : i < l.length), StpC w b (off + i * 3) l[i]

set_option maxHeartbeats 2000000 in
theorem cycle_any (form low high cycle width spread : Int) (back rel : Bool) (ao : Option Addr) (cap : Nat) (l : List Stp) (w : World) (hs : StepsAt w.heap.size w ao l) (hl : l.length ≤ 50) (hall : l.all stpB = true) (hc : 0 ≤ cycle ∧ cycle ≤ 3600000) :
    Calls Try.prog 55 #[(.agg #[.int .i64 form, .int .i64 low, .int .i64 high, .int .i64 cycle, .int .i64 width, .int .i64 spread, .bool back, .bool rel, .slice ao l.length cap])] w fun e w' => e = .returned (.int .i64 (cycle + sumS l)) ∧ Below w.heap.size w w' := by
  have HS := Lib.hid hs
  have HSB := Lib.hid (fun k => sumS_le _ (all_takeS hall k))
  have HK := Lib.hid (fun k (h : k < l.length) => sumS_take l k h)
  have HA := Lib.hid (fun k (h : k < l.length) => stpB_le (List.all_eq_true.1 hall _ (List.getElem_mem h)))
  have HEND := Lib.hid (show sumS (l.take l.length) = sumS l by rw [List.take_length])
  skip
  clear hs hall
  go_enter Try.func55, Try.ntmps55
  go_wp2_with fail
  go_loopw [3, 11] (fun n i wr => ∃ k : Nat, k ≤ l.length ∧ i = .int .i64 k ∧ n = .int .i64 (cycle + sumS (l.take k)) ∧ Below w.heap.size w wr ∧ w.heap.size + 1 ≤ wr.heap.size) (fun _ i _ => l.length - (intOf i).toNat)
  case atStart => exact ⟨0, Nat.zero_le _, rfl, by simp [sumS], (Below.refl _ _).alloc (Nat.le_refl _) _, by simp⟩
  case round =>
    obtain ⟨k, hk, rfl, rfl, hbw, hzw⟩ := hrel
    by_cases hlt : k < l.length
    · obtain ⟨b, off, rfl, hbb, hc9⟩ := HS.out (by intro h; subst h; simp at hlt)
      obtain ⟨c0, c1, c2⟩ := hc9 k hlt
      have d0 : wr.cell? ⟨b, off + k * 3, none⟩ = some (.int .i64 l[k].lv) := (hbw.cell (p := ⟨b, off + k * 3, none⟩) hbb).trans c0
      have d1 : wr.cell? ⟨b, off + k * 3 + 1, none⟩ = some (.int .i64 l[k].hold) := (hbw.cell (p := ⟨b, off + k * 3 + 1, none⟩) hbb).trans c1
      have d2 : wr.cell? ⟨b, off + k * 3 + 2, none⟩ = some (.int .i64 l[k].fade) := (hbw.cell (p := ⟨b, off + k * 3 + 2, none⟩) hbb).trans c2
      have hbr : b < wr.heap.size := by omega
      have HB := Lib.hid hbw
      have HN := Lib.hid (HK.out k hlt)
      have s1 := HSB.out k
      obtain ⟨_, s3, s4⟩ := HA.out k hlt
      have s2 : (l.take k).length ≤ 50 := by rw [List.length_take]; omega
      obtain ⟨s5, s6⟩ := s1
      have s7 : sumS (l.take k) ≤ 360000000 := by omega
      clear hbw c0 c1 c2 hc9 hbb s6
      go_wp2_with fail
      go_roundw
      case rel =>
        first
          | exact ⟨k + 1, by omega, by go_num, by rw [HN.out] <;> (congr 1; omega), HB.out.alloc (by omega) _, by simp; omega⟩
          | ((repeat apply Exists.intro); refine ⟨⟨k + 1, by omega, by go_num, by rw [HN.out] <;> (congr 1; omega), HB.out.alloc (by omega) _, by simp; omega⟩, ?_⟩; rfl)
      case measure => simp [intOf]; omega
    · have hkk : k = l.length := by omega
      have HB := Lib.hid hbw
      subst hkk
      clear hbw
      go_wp2_with fail
      go_ret
      exact ⟨by rw [HEND.out]; rfl, HB.out⟩

set_option maxHeartbeats 2000000 in
theorem rcycle_any (form low high cycle width spread : Int) (back rel : Bool) (ao : Option Addr) (cap : Nat) (l : List Stp) (w : World) (h7 : form = 7) (hs : StepsAt w.heap.size w ao l) (hl : l.length ≤ 50) (hall : l.all stpB = true) (hc : 0 ≤ cycle ∧ cycle ≤ 3600000) :
    Calls Try.prog 79 #[(.agg #[.int .i64 form, .int .i64 low, .int .i64 high, .int .i64 cycle, .int .i64 width, .int .i64 spread, .bool back, .bool rel, .slice ao l.length cap])] w fun e w' => e = .returned (.int .i64 (sumS l)) ∧ Below w.heap.size w w' := by
  have HS := Lib.hid hs
  have HSB := Lib.hid (fun k => sumS_le _ (all_takeS hall k))
  have HK := Lib.hid (fun k (h : k < l.length) => sumS_take l k h)
  have HA := Lib.hid (fun k (h : k < l.length) => stpB_le (List.all_eq_true.1 hall _ (List.getElem_mem h)))
  have HEND := Lib.hid (show sumS (l.take l.length) = sumS l by rw [List.take_length])
  subst h7
  clear hs hall
  go_enter Try.func79, Try.ntmps79
  go_wp2_with fail
  go_loopw [3, 14] (fun n i wr => ∃ k : Nat, k ≤ l.length ∧ i = .int .i64 k ∧ n = .int .i64 (sumS (l.take k)) ∧ Below w.heap.size w wr ∧ w.heap.size + 1 ≤ wr.heap.size) (fun _ i _ => l.length - (intOf i).toNat)
  case atStart => exact ⟨0, Nat.zero_le _, rfl, by simp [sumS], (Below.refl _ _).alloc (Nat.le_refl _) _, by simp⟩
  case round =>
    obtain ⟨k, hk, rfl, rfl, hbw, hzw⟩ := hrel
    by_cases hlt : k < l.length
    · obtain ⟨b, off, rfl, hbb, hc9⟩ := HS.out (by intro h; subst h; simp at hlt)
      obtain ⟨c0, c1, c2⟩ := hc9 k hlt
      have d0 : wr.cell? ⟨b, off + k * 3, none⟩ = some (.int .i64 l[k].lv) := (hbw.cell (p := ⟨b, off + k * 3, none⟩) hbb).trans c0
      have d1 : wr.cell? ⟨b, off + k * 3 + 1, none⟩ = some (.int .i64 l[k].hold) := (hbw.cell (p := ⟨b, off + k * 3 + 1, none⟩) hbb).trans c1
      have d2 : wr.cell? ⟨b, off + k * 3 + 2, none⟩ = some (.int .i64 l[k].fade) := (hbw.cell (p := ⟨b, off + k * 3 + 2, none⟩) hbb).trans c2
      have hbr : b < wr.heap.size := by omega
      have HB := Lib.hid hbw
      have HN := Lib.hid (HK.out k hlt)
      have s1 := HSB.out k
      obtain ⟨_, s3, s4⟩ := HA.out k hlt
      have s2 : (l.take k).length ≤ 50 := by rw [List.length_take]; omega
      obtain ⟨s5, s6⟩ := s1
      have s7 : sumS (l.take k) ≤ 360000000 := by omega
      clear hbw c0 c1 c2 hc9 hbb s6
      go_wp2_with fail
      go_roundw
      case rel =>
        first
          | exact ⟨k + 1, by omega, by go_num, by rw [HN.out] <;> (congr 1; omega), HB.out.alloc (by omega) _, by simp; omega⟩
          | ((repeat apply Exists.intro); refine ⟨⟨k + 1, by omega, by go_num, by rw [HN.out] <;> (congr 1; omega), HB.out.alloc (by omega) _, by simp; omega⟩, ?_⟩; rfl)
      case measure => simp [intOf]; omega
    · have hkk : k = l.length := by omega
      have HB := Lib.hid hbw
      subst hkk
      clear hbw
      go_wp2_with fail
      go_ret
      exact ⟨by rw [HEND.out]; rfl, HB.out⟩
end Go.Proofs.Ytopmdeefcjdadaa

namespace Go.Proofs.Ytopmdeefcjdadaa
open Go.RowKit
set_option linter.unusedVariables false
set_option linter.unusedSimpArgs false

def peakV (n d : Int) : Int := if 2 * n ≤ d then 2 * n else 2 * d - 2 * n
theorem peakV_range {n d : Int} (h0 : 0 ≤ n) (h1 : n ≤ d) : 0 ≤ peakV n d ∧ peakV n d ≤ d := by
  unfold peakV
  split <;> omega
set_option maxHeartbeats 1000000 in
theorem peak_any (n d k i : Int) (w : World) (h0 : 0 ≤ n) (h1 : n ≤ d) (h2 : d ≤ 1000000000000000000) :
    Calls Try.prog 147 #[.agg #[.int .i64 n, .int .i64 d, .int .i64 k, .int .i64 i]] w fun e w' => e = .returned (.int .i64 (peakV n d)) ∧ Below w.heap.size w w' := by
  have a1 : IntKind.i64.wrap (2 * n) = 2 * n := IntWalk.i64_in _ (by omega)
  have a2 : IntKind.i64.wrap (2 * d) = 2 * d := IntWalk.i64_in _ (by omega)
  have a3 : IntKind.i64.wrap (2 * d - 2 * n) = 2 * d - 2 * n := IntWalk.i64_in _ (by omega)
  by_cases h : 2 * n ≤ d
  · have HV := Lib.hid (show peakV n d = 2 * n from if_pos h)
    go_enter Try.func147, Try.ntmps147
    go_wp2_with fail
    go_ret
    exact ⟨by rw [HV.out] <;> rfl, (Below.refl _ _).alloc (Nat.le_refl _) _⟩
  · have HV := Lib.hid (show peakV n d = 2 * d - 2 * n from if_neg h)
    go_enter Try.func147, Try.ntmps147
    go_wp2_with fail
    go_ret
    exact ⟨by rw [HV.out] <;> rfl, (Below.refl _ _).alloc (Nat.le_refl _) _⟩
set_option maxRecDepth 100000 in
set_option maxHeartbeats 8000000 in
theorem triangle_any (n d k i : Int) (w : World) (hn0 : 0 ≤ n) (hnd : n ≤ d) (hd1 : d ≤ 1000000000000000000) :
    Calls Try.prog 148 #[.agg #[], .agg #[.int .i64 n, .int .i64 d, .int .i64 k, .int .i64 i]] w fun e w' => e = .returned (.tuple #[.agg #[.int .u64 (hw 0 (peakV n d)), .int .u64 (hw 1 (peakV n d)), .int .u64 (hw 2 (peakV n d)), .int .u64 (hw 3 (peakV n d)), .int .u64 (hw 4 (peakV n d)), .int .u64 (hw 5 (peakV n d))], .agg #[.int .u64 (hw 0 d), .int .u64 (hw 1 d), .int .u64 (hw 2 d), .int .u64 (hw 3 d), .int .u64 (hw 4 d), .int .u64 (hw 5 d)]]) ∧ Below w.heap.size w w' := by
  have hd0 : 0 ≤ d := by omega
  have hd2 : d ≤ 9223372036854775807 := by omega
  obtain ⟨hp0, hp2⟩ := peakV_range hn0 hnd
  have hp1 : peakV n d ≤ 9223372036854775807 := by omega
  have HT1 := Lib.hid (show TBox ((((w.alloc (.cells #[] 153)).alloc (.cells #[.int .i64 n, .int .i64 d, .int .i64 k, .int .i64 i] 119)).alloc (.cells #[.int .u64 0, .int .u64 0, .int .u64 0, .int .u64 0, .int .u64 0, .int .u64 0] 77)).alloc (.cells #[.int .u64 0, .int .u64 0, .int .u64 0, .int .u64 0, .int .u64 0, .int .u64 0] 77)) (w.heap.size + 1) 119 #[.int .i64 n, .int .i64 d, .int .i64 k, .int .i64 i] from by
    have h := ((TBox.new (w.alloc (.cells #[] 153)) #[.int .i64 n, .int .i64 d, .int .i64 k, .int .i64 i] 119).alloc (.cells #[.int .u64 0, .int .u64 0, .int .u64 0, .int .u64 0, .int .u64 0, .int .u64 0] 77)).alloc (.cells #[.int .u64 0, .int .u64 0, .int .u64 0, .int .u64 0, .int .u64 0, .int .u64 0] 77)
    simpa only [World.size_alloc] using h)
  have HT2 := Lib.hid (show TBox ((((w.alloc (.cells #[] 153)).alloc (.cells #[.int .i64 n, .int .i64 d, .int .i64 k, .int .i64 i] 119)).alloc (.cells #[.int .u64 0, .int .u64 0, .int .u64 0, .int .u64 0, .int .u64 0, .int .u64 0] 77)).alloc (.cells #[.int .u64 0, .int .u64 0, .int .u64 0, .int .u64 0, .int .u64 0, .int .u64 0] 77)) (w.heap.size + 2) 77 #[.int .u64 0, .int .u64 0, .int .u64 0, .int .u64 0, .int .u64 0, .int .u64 0] from by
    have h := (TBox.new ((w.alloc (.cells #[] 153)).alloc (.cells #[.int .i64 n, .int .i64 d, .int .i64 k, .int .i64 i] 119)) #[.int .u64 0, .int .u64 0, .int .u64 0, .int .u64 0, .int .u64 0, .int .u64 0] 77).alloc (.cells #[.int .u64 0, .int .u64 0, .int .u64 0, .int .u64 0, .int .u64 0, .int .u64 0] 77)
    simpa only [World.size_alloc] using h)
  have HT3 := Lib.hid (show TBox ((((w.alloc (.cells #[] 153)).alloc (.cells #[.int .i64 n, .int .i64 d, .int .i64 k, .int .i64 i] 119)).alloc (.cells #[.int .u64 0, .int .u64 0, .int .u64 0, .int .u64 0, .int .u64 0, .int .u64 0] 77)).alloc (.cells #[.int .u64 0, .int .u64 0, .int .u64 0, .int .u64 0, .int .u64 0, .int .u64 0] 77)) (w.heap.size + 3) 77 #[.int .u64 0, .int .u64 0, .int .u64 0, .int .u64 0, .int .u64 0, .int .u64 0] from by
    have h := TBox.new (((w.alloc (.cells #[] 153)).alloc (.cells #[.int .i64 n, .int .i64 d, .int .i64 k, .int .i64 i] 119)).alloc (.cells #[.int .u64 0, .int .u64 0, .int .u64 0, .int .u64 0, .int .u64 0, .int .u64 0] 77)) #[.int .u64 0, .int .u64 0, .int .u64 0, .int .u64 0, .int .u64 0, .int .u64 0] 77
    simpa only [World.size_alloc] using h)
  have HB := Lib.hid (show Below w.heap.size w ((((w.alloc (.cells #[] 153)).alloc (.cells #[.int .i64 n, .int .i64 d, .int .i64 k, .int .i64 i] 119)).alloc (.cells #[.int .u64 0, .int .u64 0, .int .u64 0, .int .u64 0, .int .u64 0, .int .u64 0] 77)).alloc (.cells #[.int .u64 0, .int .u64 0, .int .u64 0, .int .u64 0, .int .u64 0, .int .u64 0] 77)) from ((((Below.refl _ _).alloc (Nat.le_refl _) _).alloc (by simp) _).alloc (by simp; omega) _).alloc (by simp; omega) _)
  go_enter Try.func148, Try.ntmps148
  go_upto_region 1 with fail
  generalize hw1 : ((((w.alloc (.cells #[] 153)).alloc (.cells #[.int .i64 n, .int .i64 d, .int .i64 k, .int .i64 i] 119)).alloc (.cells #[.int .u64 0, .int .u64 0, .int .u64 0, .int .u64 0, .int .u64 0, .int .u64 0] 77)).alloc (.cells #[.int .u64 0, .int .u64 0, .int .u64 0, .int .u64 0, .int .u64 0, .int .u64 0] 77)) = w1 at *
  clear hw1
  refine region_heads (by kernel_rfl) 6 (by simp) (by kernel_rfl) (by kernel_rfl) (by kernel_rfl) (by kernel_rfl) (fun jx vx wx => match jx with | 0 => vx = (.agg #[.int .i64 n, .int .i64 d, .int .i64 k, .int .i64 i]) | 1 => vx = (.int .i64 (peakV n d)) | 2 => vx = (.agg #[.int .u64 (hw 0 (peakV n d)), .int .u64 (hw 1 (peakV n d)), .int .u64 (hw 2 (peakV n d)), .int .u64 (hw 3 (peakV n d)), .int .u64 (hw 4 (peakV n d)), .int .u64 (hw 5 (peakV n d))]) | 3 => vx = (.pointer (some ⟨w.heap.size + 1, 1, none⟩)) | 4 => vx = (.int .i64 d) | 5 => vx = (.agg #[.int .u64 (hw 0 d), .int .u64 (hw 1 d), .int .u64 (hw 2 d), .int .u64 (hw 3 d), .int .u64 (hw 4 d), .int .u64 (hw 5 d)]) | _ => True) (fun W => Below w1.heap.size w1 W) (fun wx wy => Below wx.heap.size wx wy) (Below.refl _ _).drew ?_ ?_ ?_ ?_
  · intro jx vx wx wy h g
    match jx, h with
    | 0, h => exact h
    | 1, h => exact h
    | 2, h => exact h
    | 3, h => exact h
    | 4, h => exact h
    | 5, h => exact h
    | jx + 6, h => exact trivial
  · intro jx ox dx hj ho hd
    exact insN_of (by kernel_rfl) hj ho hd
  · intro ix ox ax W hi hio hsh hW hpre
    have hsz : w1.heap.size ≤ W.heap.size := hW.size
    have GA : ∀ ob, Below W.heap.size W (W.alloc ob) := fun ob => (Below.refl _ _).alloc (Nat.le_refl _) ob
    have WA : ∀ ob, Below w1.heap.size w1 (W.alloc ob) := fun ob => hW.alloc hsz ob
    have t3 : ax.tmps[3]?.getD undef = (.pointer (some ⟨w.heap.size + 1, 0, none⟩)) := (Array.getD_eq_getD_getElem? ..).symm.trans ((hsh.2.2 3 (notN_of (by kernel_rfl))).trans rfl)
    obtain ⟨q0, q1, q2, q3⟩ : W.cell? ⟨w.heap.size + 1, 0, none⟩ = some (.int .i64 n) ∧ W.cell? ⟨w.heap.size + 1, 1, none⟩ = some (.int .i64 d) ∧ W.cell? ⟨w.heap.size + 1, 2, none⟩ = some (.int .i64 k) ∧ W.cell? ⟨w.heap.size + 1, 3, none⟩ = some (.int .i64 i) := ⟨(HT1.out.below hW).cell (i := 0) rfl, (HT1.out.below hW).cell (i := 1) rfl, (HT1.out.below hW).cell (i := 2) rfl, (HT1.out.below hW).cell (i := 3) rfl⟩
    clear hsh
    match ix, hi, hio with
    | 0, _, hio =>
      cases hio
      exact hwp_val (v := .agg #[.int .i64 n, .int .i64 d, .int .i64 k, .int .i64 i]) (w' := W) (by simp [execOp, Act.eval, t3, q0, q1, q2, q3, go_sem]) ⟨_, rfl, rfl, hW, Below.refl _ _⟩
    | 1, _, hio =>
      cases hio
      have p0 := hpre ⟨0, .data⟩ (by simp) (by rfl) _ _ rfl rfl
      have f0 : ax.tmps[6]?.getD undef = (.agg #[.int .i64 n, .int .i64 d, .int .i64 k, .int .i64 i]) := (Array.getD_eq_getD_getElem? ..).symm.trans p0
      refine hwp_enter (f := 147) (args := #[.agg #[.int .i64 n, .int .i64 d, .int .i64 k, .int .i64 i]]) (by simp [execOp, Act.eval, f0, go_sem]) ?_
      refine (peak_any n d k i W hn0 hnd hd1).mono ?_
      rintro ex wy ⟨rfl, hb⟩
      exact ⟨_, rfl, _, rfl, rfl, hW.trans (hb.mono hsz), hb⟩
    | 2, _, hio =>
      cases hio
      have p1 := hpre ⟨1, .data⟩ (by simp) (by rfl) _ _ rfl rfl
      have f1 : ax.tmps[7]?.getD undef = (.int .i64 (peakV n d)) := (Array.getD_eq_getD_getElem? ..).symm.trans p1
      refine hwp_enter (f := 113) (args := #[.int .i64 (peakV n d)]) (by simp [execOp, Act.eval, f1, go_sem]) ?_
      refine (cOf _ hp0 hp1 W).mono ?_
      rintro ex wy ⟨rfl, hb⟩
      exact ⟨_, rfl, _, rfl, rfl, hW.trans (hb.mono hsz), hb⟩
    | 3, _, hio =>
      cases hio
      exact hwp_val (v := .pointer (some ⟨w.heap.size + 1, 1, none⟩)) (w' := W) (by simp [execOp, Act.eval, t3, go_sem]) ⟨_, rfl, rfl, hW, Below.refl _ _⟩
    | 4, _, hio =>
      cases hio
      have p3 := hpre ⟨3, .data⟩ (by simp) (by rfl) _ _ rfl rfl
      have f3 : ax.tmps[9]?.getD undef = (.pointer (some ⟨w.heap.size + 1, 1, none⟩)) := (Array.getD_eq_getD_getElem? ..).symm.trans p3
      exact hwp_val (v := .int .i64 d) (w' := W) (by simp [execOp, Act.eval, q1, f3, go_sem]) ⟨_, rfl, rfl, hW, Below.refl _ _⟩
    | 5, _, hio =>
      cases hio
      have p4 := hpre ⟨4, .data⟩ (by simp) (by rfl) _ _ rfl rfl
      have f4 : ax.tmps[10]?.getD undef = (.int .i64 d) := (Array.getD_eq_getD_getElem? ..).symm.trans p4
      refine hwp_enter (f := 113) (args := #[.int .i64 d]) (by simp [execOp, Act.eval, f4, go_sem]) ?_
      refine (cOf d hd0 hd2 W).mono ?_
      rintro ex wy ⟨rfl, hb⟩
      exact ⟨_, rfl, _, rfl, rfl, hW.trans (hb.mono hsz), hb⟩
    | ix + 6, hi, _ => exact absurd hi (by omega)
  · intro ax W hsh hW hφ
    have e0 : ax.tmps.getD 6 undef = (.agg #[.int .i64 n, .int .i64 d, .int .i64 k, .int .i64 i]) := hφ 0 _ _ (by omega) rfl rfl
    have e1 : ax.tmps.getD 7 undef = (.int .i64 (peakV n d)) := hφ 1 _ _ (by omega) rfl rfl
    have e2 : ax.tmps.getD 8 undef = (.agg #[.int .u64 (hw 0 (peakV n d)), .int .u64 (hw 1 (peakV n d)), .int .u64 (hw 2 (peakV n d)), .int .u64 (hw 3 (peakV n d)), .int .u64 (hw 4 (peakV n d)), .int .u64 (hw 5 (peakV n d))]) := hφ 2 _ _ (by omega) rfl rfl
    have e3 : ax.tmps.getD 9 undef = (.pointer (some ⟨w.heap.size + 1, 1, none⟩)) := hφ 3 _ _ (by omega) rfl rfl
    have e4 : ax.tmps.getD 10 undef = (.int .i64 d) := hφ 4 _ _ (by omega) rfl rfl
    have e5 : ax.tmps.getD 11 undef = (.agg #[.int .u64 (hw 0 d), .int .u64 (hw 1 d), .int .u64 (hw 2 d), .int .u64 (hw 3 d), .int .u64 (hw 4 d), .int .u64 (hw 5 d)]) := hφ 5 _ _ (by omega) rfl rfl
    rw [shape_puts hsh [(6, .agg #[.int .i64 n, .int .i64 d, .int .i64 k, .int .i64 i]), (7, .int .i64 (peakV n d)), (8, .agg #[.int .u64 (hw 0 (peakV n d)), .int .u64 (hw 1 (peakV n d)), .int .u64 (hw 2 (peakV n d)), .int .u64 (hw 3 (peakV n d)), .int .u64 (hw 4 (peakV n d)), .int .u64 (hw 5 (peakV n d))]), (9, .pointer (some ⟨w.heap.size + 1, 1, none⟩)), (10, .int .i64 d), (11, .agg #[.int .u64 (hw 0 d), .int .u64 (hw 1 d), .int .u64 (hw 2 d), .int .u64 (hw 3 d), .int .u64 (hw 4 d), .int .u64 (hw 5 d)])] [6, 7, 8, 9, 10, 11] rfl (by kernel_rfl) ⟨e0, e1, e2, e3, e4, e5, trivial⟩]
    clear hφ hsh e0 e1 e2 e3 e4 e5
    simp only [putsN, List.foldl_cons, List.foldl_nil, List.drop_succ_cons, List.drop_zero, Act.put, List.setIfInBounds_toArray, List.set_cons_succ, List.set_cons_zero]
    have HBW := Lib.hid (HB.out.trans (hW.mono (by have := HT3.out.lt; omega)))
    have r2 := HT2.out.below hW
    have r3 := HT3.out.below hW
    clear hW
    refine wpList_storeH W rfl _ _ rfl (w.heap.size + 2) rfl rfl r2 ?_
    intro wy t2 g2
    simp only [Act.put]
    refine wpList_storeH wy rfl _ _ rfl (w.heap.size + 3) rfl rfl (r3.gro g2 (by omega)) ?_
    intro wz t3 g3
    simp only [Act.put]
    have t2' := t2.gro g3 (by omega)
    have HBE := Lib.hid (below_gro (below_gro HBW.out g2 HBW.out.size (by omega)) g3 (by have := HBW.out.size; have := g2.size; omega) (by omega))
    have x0 := t2'.cell (i := 0) rfl
    have y0 := t3.cell (i := 0) rfl
    have x1 := t2'.cell (i := 1) rfl
    have y1 := t3.cell (i := 1) rfl
    have x2 := t2'.cell (i := 2) rfl
    have y2 := t3.cell (i := 2) rfl
    have x3 := t2'.cell (i := 3) rfl
    have y3 := t3.cell (i := 3) rfl
    have x4 := t2'.cell (i := 4) rfl
    have y4 := t3.cell (i := 4) rfl
    have x5 := t2'.cell (i := 5) rfl
    have y5 := t3.cell (i := 5) rfl
    clear t2 t2' t3 g2 g3 r2 r3 HBW
    go_wp2_with fail
    exact bodyPost_ret (v := .tuple #[.agg #[.int .u64 (hw 0 (peakV n d)), .int .u64 (hw 1 (peakV n d)), .int .u64 (hw 2 (peakV n d)), .int .u64 (hw 3 (peakV n d)), .int .u64 (hw 4 (peakV n d)), .int .u64 (hw 5 (peakV n d))], .agg #[.int .u64 (hw 0 d), .int .u64 (hw 1 d), .int .u64 (hw 2 d), .int .u64 (hw 3 d), .int .u64 (hw 4 d), .int .u64 (hw 5 d)]]) (by simp [results, Try.results148, go_sem, x0, y0, x1, y1, x2, y2, x3, y3, x4, y4, x5, y5]) rfl ⟨rfl, HBE.out⟩
end Go.Proofs.Ytopmdeefcjdadaa
