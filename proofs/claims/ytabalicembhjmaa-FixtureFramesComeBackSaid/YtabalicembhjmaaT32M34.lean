/- fixture.Room, the reference's Room. (printed by wip/gen/gen_roomtop.py) -/
import Derived.Test.YtabalicembhjmaaT32M31
import Derived.Test.YtabalicembhjmaaT32M33

namespace Go.Proofs.Ytabalicembhjmaa
open Go.RowKit
set_option linter.unusedVariables false
set_option linter.unusedSimpArgs false

theorem first2r (b : Nat) (x y : Int) (W : World) (h1 : W.cell? ⟨b, 0, none⟩ = some (.int .i64 x)) (h2 : W.cell? ⟨b, 1, none⟩ = some (.int .i64 y)) :
    Calls Try.prog 60 #[.slice (some ⟨b, 0, none⟩) 2 2] W fun e w' => e = .returned (.int .i64 (if x = 0 then y else x)) ∧ W = w' := by
  refine (first_any b 0 2 [x, y] W (by simp) (fun i hi => ?_)).mono ?_
  · match i, hi with
    | 0, _ => simpa using h1
    | 1, _ => simpa using h2
  · rintro e w' ⟨rfl, rfl⟩
    refine ⟨?_, rfl⟩
    simp only [firstF]
    congr 2
    split
    · split <;> omega
    · rfl
def roomT (x : Rig) (s : Int) : Value :=
  if chkRig x ≠ 0 then .tuple #[.int .i64 0, .int .i64 0, .int .i64 (chkRig x)]
  else if !inR s 1 512 then .tuple #[.int .i64 0, .int .i64 0, .int .i64 1]
  else match roomO (usBut x 0) s with
    | none => .tuple #[.int .i64 0, .int .i64 0, .int .i64 13]
    | some (n, a) => .tuple #[.int .i64 n, .int .i64 a, .int .i64 0]
theorem taken2_any (x : Rig) (lv uv : Value) (n : Int) (w : World) (h : RigAt w.heap.size w x lv uv) (hx : chkRig x = 0) (hf : RigFit x) :
    Calls Try.prog 45 #[rigV lv uv, .int .i64 n] w fun e w' => ∃ mb : Nat, e = .returned (.map (some mb)) ∧ w.heap.size ≤ mb ∧ mb < w'.heap.size ∧ UsedS mb w' mb (usBut x n) ∧ Below w.heap.size w w' := by
  refine (taken_any x lv uv n w h hx hf).mono ?_
  rintro e w' ⟨h1, h2, h3, h4⟩
  exact ⟨_, h1, by omega, h2, h3, h4⟩
theorem roomT_bad {x : Rig} {s : Int} (h : ¬ chkRig x = 0) : roomT x s = .tuple #[.int .i64 0, .int .i64 0, .int .i64 (chkRig x)] := by unfold roomT; rw [if_pos h]
theorem roomT_range {x : Rig} {s : Int} (h : chkRig x = 0) (k : inR s 1 512 = false) : roomT x s = .tuple #[.int .i64 0, .int .i64 0, .int .i64 1] := by unfold roomT; rw [if_neg (by simpa using h), k]; simp
theorem roomT_none {x : Rig} {s : Int} (h : chkRig x = 0) (k : inR s 1 512 = true) (hr : roomO (usBut x 0) s = none) : roomT x s = .tuple #[.int .i64 0, .int .i64 0, .int .i64 13] := by unfold roomT; rw [if_neg (by simpa using h), k, hr]; simp
theorem roomT_some {x : Rig} {s n a : Int} (h : chkRig x = 0) (k : inR s 1 512 = true) (hr : roomO (usBut x 0) s = some (n, a)) : roomT x s = .tuple #[.int .i64 n, .int .i64 a, .int .i64 0] := by unfold roomT; rw [if_neg (by simpa using h), k, hr]; simp
set_option maxRecDepth 100000 in
set_option maxHeartbeats 8000000 in
theorem roomTop_any (x : Rig) (lv uv : Value) (s : Int) (w : World) (h : RigAt w.heap.size w x lv uv) (hf : RigFit x) :
    Calls Try.prog 24 #[rigV lv uv, .int .i64 s] w fun e w' => e = .returned (roomT x s) ∧ Below w.heap.size w w' := by
  have CC := Lib.hid (fun W (hb : Below w.heap.size w W) => ckRig_any x lv uv W ((h.below hb).more hb.size) hf)
  have CT := Lib.hid (fun (hx : chkRig x = 0) W (hb : Below w.heap.size w W) => taken2_any x lv uv 0 W ((h.below hb).more hb.size) hx hf)
  obtain ⟨uo, ucap, rfl, _⟩ := CellsS.shape h.units
  obtain ⟨lo, lcap, rfl⟩ := prfS_shape h.lib
  unfold rigV at *
  clear h hf
  have HR1 := Lib.hid (@roomT_bad x s)
  have HR2 := Lib.hid (@roomT_range x s)
  have HR3 := Lib.hid (fun (h : chkRig x = 0) (k : inR s 1 512 = true) (hr : roomO (usBut x 0) s = none) => roomT_none h k hr)
  have HR4 := Lib.hid (fun (n a : Int) (h : chkRig x = 0) (k : inR s 1 512 = true) (hr : roomO (usBut x 0) s = some (n, a)) => roomT_some h k hr)
  generalize roomT x s = RES at *
  have KC := Lib.hid (show ∀ W, Below (w.heap.size + 1) (w.alloc (.cells #[.slice lo x.lib.length lcap, .slice uo x.units.length ucap] 25)) W → (Below w.heap.size w W ∧ w.heap.size < W.heap.size ∧ W.cell? ⟨w.heap.size, 0, none⟩ = some (.slice lo x.lib.length lcap) ∧ W.cell? ⟨w.heap.size, 1, none⟩ = some (.slice uo x.units.length ucap)) from fun W hW => by
    have hz := hW.size
    simp at hz
    exact ⟨((Below.refl _ _).alloc (Nat.le_refl _) _).trans (hW.mono (by omega)), by omega, (hW.cell (p := ⟨w.heap.size, 0, none⟩) (by simp)).trans (by simp [go_sem]), (hW.cell (p := ⟨w.heap.size, 1, none⟩) (by simp)).trans (by simp [go_sem])⟩)
  have KM := Lib.hid (show ∀ W W1, Below (w.heap.size + 1) (w.alloc (.cells #[.slice lo x.lib.length lcap, .slice uo x.units.length ucap] 25)) W → Below W.heap.size W W1 → Below (w.heap.size + 1) (w.alloc (.cells #[.slice lo x.lib.length lcap, .slice uo x.units.length ucap] 25)) W1 from fun W W1 h1 h2 => h1.trans (h2.mono (by have := h1.size; simp at this; omega)))
  have KA := Lib.hid (show ∀ W o, Below (w.heap.size + 1) (w.alloc (.cells #[.slice lo x.lib.length lcap, .slice uo x.units.length ucap] 25)) W → Below (w.heap.size + 1) (w.alloc (.cells #[.slice lo x.lib.length lcap, .slice uo x.units.length ucap] 25)) (W.alloc o) from fun W o h => h.alloc (by have := h.size; simp at this; omega) o)
  have HB0 := Lib.hid (Below.refl (w.heap.size + 1) (w.alloc (.cells #[.slice lo x.lib.length lcap, .slice uo x.units.length ucap] 25)))
  have C1 := Lib.hid (CC.out _ (KC.out _ HB0.out).1)
  clear CC
  go_enter Try.func24, Try.ntmps24
  go_wp2_with fail
  refine C1.out.mono ?_
  rintro e w1 ⟨rfl, hb⟩
  have HB1 := Lib.hid (KM.out _ _ HB0.out hb)
  clear hb C1
  obtain ⟨hB, hz, p0, p1⟩ := KC.out _ HB1.out
  have HBB := Lib.hid hB
  have HBA := Lib.hid (show ∀ o, Below w.heap.size w (w1.alloc o) from fun o => (KC.out _ (KA.out _ o HB1.out)).1)
  by_cases hE : chkRig x = 0
  rotate_left
  · have HV := Lib.hid (show RES = .tuple #[.int .i64 0, .int .i64 0, .int .i64 (chkRig x)] from HR1.out hE)
    have hq : (if chkRig x = 0 then (1 : Int) else chkRig x) = chkRig x := if_neg hE
    have hq2 : (if chkRig x = 0 then (0 : Int) else chkRig x) = chkRig x := if_neg hE
    clear hB
    rcases Bool.eq_false_or_eq_true (inR s 1 512) with k0 | k0
    · go_wp2_with (first | (go_at_call 29; ((with_reducible refine (within_R _ _ _ _).mono ?_); rintro e w' ⟨rfl, rfl⟩)) | (go_at_call 61; ((with_reducible refine (when_yes _ _).mono ?_); rintro e w' ⟨rfl, rfl⟩)) | (go_at_call 61; ((with_reducible refine (when_no _ _).mono ?_); rintro e w' ⟨rfl, rfl⟩)) | (go_at_call 60; refine (first2r _ (chkRig x) 0 _ (by simp [go_sem]) (by simp [go_sem])).mono ?_; rintro e w' ⟨rfl, rfl⟩) | fail)
      exact bodyPost_ret (v := .tuple #[.int .i64 0, .int .i64 0, .int .i64 (chkRig x)]) (by simp [results, Try.results24, go_sem]) rfl ⟨by rw [HV.out], HBA.out _⟩
    · go_wp2_with (first | (go_at_call 29; ((with_reducible refine (within_R _ _ _ _).mono ?_); rintro e w' ⟨rfl, rfl⟩)) | (go_at_call 61; ((with_reducible refine (when_yes _ _).mono ?_); rintro e w' ⟨rfl, rfl⟩)) | (go_at_call 61; ((with_reducible refine (when_no _ _).mono ?_); rintro e w' ⟨rfl, rfl⟩)) | (go_at_call 60; refine (first2r _ (chkRig x) 1 _ (by simp [go_sem]) (by simp [go_sem])).mono ?_; rintro e w' ⟨rfl, rfl⟩) | fail)
      exact bodyPost_ret (v := .tuple #[.int .i64 0, .int .i64 0, .int .i64 (chkRig x)]) (by simp [results, Try.results24, go_sem]) rfl ⟨by rw [HV.out], HBA.out _⟩
  rw [hE]
  rcases Bool.eq_false_or_eq_true (inR s 1 512) with k0 | k0
  rotate_left
  · have HV := Lib.hid (show RES = .tuple #[.int .i64 0, .int .i64 0, .int .i64 1] from HR2.out hE k0)
    clear hB
    go_wp2_with (first | (go_at_call 29; ((with_reducible refine (within_R _ _ _ _).mono ?_); rintro e w' ⟨rfl, rfl⟩)) | (go_at_call 61; ((with_reducible refine (when_yes _ _).mono ?_); rintro e w' ⟨rfl, rfl⟩)) | (go_at_call 61; ((with_reducible refine (when_no _ _).mono ?_); rintro e w' ⟨rfl, rfl⟩)) | (go_at_call 60; refine (first2r _ 0 1 _ (by simp [go_sem]) (by simp [go_sem])).mono ?_; rintro e w' ⟨rfl, rfl⟩) | fail)
    exact bodyPost_ret (v := .tuple #[.int .i64 0, .int .i64 0, .int .i64 1]) (by simp [results, Try.results24, go_sem]) rfl ⟨by rw [HV.out], HBA.out _⟩
  have HR5 := Lib.hid (HR3.out hE k0)
  have HR6 := Lib.hid (fun n a => HR4.out n a hE k0)
  obtain ⟨j1, j2⟩ := inR_true k0
  have CT1 := Lib.hid (CT.out hE)
  clear hB CT hE HR1 HR2 HR3 HR4
  go_wp2_with (first | (go_at_call 29; ((with_reducible refine (within_R _ _ _ _).mono ?_); rintro e w' ⟨rfl, rfl⟩)) | (go_at_call 61; ((with_reducible refine (when_yes _ _).mono ?_); rintro e w' ⟨rfl, rfl⟩)) | (go_at_call 61; ((with_reducible refine (when_no _ _).mono ?_); rintro e w' ⟨rfl, rfl⟩)) | (go_at_call 60; refine (first2r _ 0 0 _ (by simp [go_sem]) (by simp [go_sem])).mono ?_; rintro e w' ⟨rfl, rfl⟩) | fail)
  refine (CT1.out _ (HBA.out _)).mono ?_
  rintro e w3 ⟨mb, rfl, hl2, hl3, hu3, hb3⟩
  have HB3 := Lib.hid ((HBA.out _).trans (hb3.mono (by simp; omega)))
  have CR := Lib.hid (room_any _ _ _ s w3 hu3 j1 j2)
  clear hu3 hb3 CT1 p0 p1 hz
  generalize roomO (usBut x 0) s = RO at *
  cases RO with
  | none =>
    have HV := Lib.hid (HR5.out rfl)
    have CR0 := Lib.hid (show Calls Try.prog 47 _ w3 fun e w' => e = .returned (.tuple #[.int .i64 0, .int .i64 0, .bool false]) ∧ w3 = w' from CR.out)
    clear CR HR5 HR6
    go_wp2_with fail
    refine CR0.out.mono ?_
    rintro e w' ⟨rfl, rfl⟩
    clear CR0
    go_wp2_with fail
    exact bodyPost_ret (v := .tuple #[.int .i64 0, .int .i64 0, .int .i64 13]) (by simp [results, Try.results24, go_sem]) rfl ⟨by rw [HV.out], HB3.out⟩
  | some r =>
    obtain ⟨n, a⟩ := r
    have HV := Lib.hid (HR6.out n a rfl)
    have CR0 := Lib.hid (show Calls Try.prog 47 _ w3 fun e w' => e = .returned (.tuple #[.int .i64 n, .int .i64 a, .bool true]) ∧ w3 = w' from CR.out)
    clear CR HR5 HR6
    go_wp2_with fail
    refine CR0.out.mono ?_
    rintro e w' ⟨rfl, rfl⟩
    clear CR0
    go_wp2_with fail
    exact bodyPost_ret (v := .tuple #[.int .i64 n, .int .i64 a, .int .i64 0]) (by simp [results, Try.results24, go_sem]) rfl ⟨by rw [HV.out], HB3.out⟩
end Go.Proofs.Ytabalicembhjmaa
