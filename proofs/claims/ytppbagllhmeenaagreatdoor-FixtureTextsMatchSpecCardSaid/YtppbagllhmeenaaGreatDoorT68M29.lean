/- The reference's readParam at any words. (printed by wip/gen/gen_rlibparam.py) -/
import Derived.Test.YtppbagllhmeenaaGreatDoorT68M26
import Derived.Test.YtppbagllhmeenaaGreatDoorT68M28
import Derived.Test.YtppbagllhmeenaaGreatDoorShelf

namespace Go.Proofs.YtppbagllhmeenaaGreatDoor
open Go.RowKit
open Go.ChangeShapes
set_option linter.unusedVariables false
set_option linter.unusedSimpArgs false

def grps : List ByteArray := [⟨#[]⟩, grpT 1, grpT 2, grpT 3, grpT 4]
set_option maxHeartbeats 1000000 in
theorem groups5_any (w : World) :
    Calls Tryz.prog 94 #[] w fun e w' => e = .returned (.slice (some ⟨w.heap.size, 0, none⟩) 5 5) ∧ Below w.heap.size w w' ∧ (∀ j, j < grps.length → w'.cell? ⟨w.heap.size, 0 + j, none⟩ = some (.string (grps.getD j ByteArray.empty))) ∧ w.heap.size < w'.heap.size := by
  go_enter Tryz.func94, Tryz.ntmps94
  go_wp2
  go_ret
  refine ⟨rfl, (Below.refl _ _).alloc (Nat.le_refl _) _, ?_, by simp⟩
  intro j hj
  have hk : j = 0 ∨ j = 1 ∨ j = 2 ∨ j = 3 ∨ j = 4 := by simp [grps] at hj; omega
  rcases hk with rfl | rfl | rfl | rfl | rfl <;> simp [go_sem, grps, grpT]
theorem groups5_n (w : World) (n : Nat) (h : w.heap.size = n) :
    Calls Tryz.prog 94 #[] w fun e w' => e = .returned (.slice (some ⟨n, 0, none⟩) 5 5) ∧ Below n w w' ∧ (∀ j, j < grps.length → w'.cell? ⟨n, 0 + j, none⟩ = some (.string (grps.getD j ByteArray.empty))) ∧ n < w'.heap.size := by
  subst h
  exact groups5_any w
theorem size_d (w : World) : w.drew.heap.size = w.heap.size := rfl
theorem size_ad (w : World) (o : Obj) : (w.alloc o).drew.heap.size = w.heap.size + 1 := by
  show (w.alloc o).heap.size = _
  simp
theorem idx_grp (a : ByteArray) : (0 < Lib.idxOfS grps a ∧ Lib.idxOfS grps a = grpW a) ∨ (¬ 0 < Lib.idxOfS grps a ∧ grpW a = 0) := by
  by_cases h0 : a = ⟨#[]⟩
  · subst h0; right; decide
  by_cases h1 : a = grpT 1
  · subst h1; left; decide
  by_cases h2 : a = grpT 2
  · subst h2; left; decide
  by_cases h3 : a = grpT 3
  · subst h3; left; decide
  by_cases h4 : a = grpT 4
  · subst h4; left; decide
  right
  have e : ∀ z, z ≠ a → ∀ (zs : List ByteArray) i, Lib.idxFromS (z :: zs) a i = Lib.idxFromS zs a (i + 1) := by
    intro z hz zs i
    simp [Lib.idxFromS, hz]
  refine ⟨?_, ?_⟩
  · unfold Lib.idxOfS grps
    rw [e _ (Ne.symm h0), e _ (Ne.symm h1), e _ (Ne.symm h2), e _ (Ne.symm h3), e _ (Ne.symm h4)]
    simp [Lib.idxFromS]
  · unfold grpW
    rw [if_neg h1, if_neg h2, if_neg h3, if_neg h4]
/-- what is read where all was right -/
def bk (ok : Bool) (o : Option Par) : Option Par := if ok = true then o else none
theorem bk_t (o : Option Par) : bk true o = o := rfl
theorem bk_f (o : Option Par) : bk false o = none := rfl
theorem bk_n (ok : Bool) : bk ok none = none := by cases ok <;> rfl
theorem nzN_g {s : ByteArray} {x : Int} {f : Bool} (h : (f = true ∧ nbW s = some x) ∨ (f = false ∧ nbW s = none)) : nzN s = if (f && (x != 0)) = true then some x else none := by
  unfold nzN
  rcases h with ⟨rfl, h⟩ | ⟨rfl, h⟩
  · rw [h]
    simp only [Option.bind_some]
    by_cases h0 : x = 0
    · rw [if_pos h0, h0]; rfl
    · rw [if_neg h0, if_pos (by simpa using h0)]
  · rw [h]
    rfl
theorem nzL_g {s : ByteArray} {x f : Int} (h : (f = 0 ∧ lvW s = some x) ∨ (f = 9 ∧ lvW s = none)) : nzL s = if ((f == 0) && (x != 0)) = true then some x else none := by
  unfold nzL
  rcases h with ⟨rfl, h⟩ | ⟨rfl, h⟩
  · rw [h]
    simp only [Option.bind_some]
    by_cases h0 : x = 0
    · rw [if_pos h0, h0]; rfl
    · rw [if_neg h0, if_pos (by simpa using h0)]
  · rw [h]
    rfl
theorem bk_opt (ok g : Bool) (n : Int) (R : List ByteArray) (K : Int → List ByteArray → Option Par) : bk ok (((if g = true then some n else none).map fun m => (m, R)).bind fun x => K x.1 x.2) = bk (ok && g) (K n R) := by
  cases ok <;> cases g <;> rfl
theorem snap_skip {b : ByteArray} {gi nv fi df : Int} {R : List ByteArray} (h : R = [] ∨ ∃ a R1, R = a :: R1 ∧ a ≠ sSnap) : t2 b gi nv fi df R = if R = [] then some ⟨b, gi, nv, fi, df, false, []⟩ else none := by
  rcases h with rfl | ⟨a, R1, rfl, h⟩
  · rw [if_pos rfl]; rfl
  · rw [if_neg (by simp)]
    unfold t2 snapW
    cases R1 with
    | nil => simp only; rw [if_neg h]; rfl
    | cons c t => rfl
theorem snap_at {b : ByteArray} {gi nv fi df : Int} {R : List ByteArray} : t2 b gi nv fi df (sSnap :: R) = if R = [] then some ⟨b, gi, nv, fi, df, true, []⟩ else none := by
  unfold t2 snapW
  cases R with
  | nil => rfl
  | cons c t => rw [if_neg (by simp)]; rfl
theorem optW_skip {k : ByteArray} {f : ByteArray → Option Int} {R : List ByteArray} (h : R.length < 2 ∨ ∃ a b R1, R = a :: b :: R1 ∧ a ≠ k) : optW k f R = some (0, R) := by
  rcases R with _ | ⟨a, _ | ⟨b, r⟩⟩
  · rfl
  · rfl
  · rw [optW_two]
    rcases h with h | ⟨a', b', r', e, h⟩
    · simp only [List.length_cons] at h; omega
    · injection e with e _
      rw [if_neg (by rw [e]; exact h)]
theorem optW_at {k : ByteArray} {f : ByteArray → Option Int} {b : ByteArray} {R : List ByteArray} : optW k f (k :: b :: R) = (f b).map fun n => (n, R) := by
  rw [optW_two, if_pos rfl]
theorem opt_cases (k : ByteArray) (R : List ByteArray) : ∃ cb : Bool, (cb = false ∧ (R.length < 2 ∨ ∃ a b R1, R = a :: b :: R1 ∧ a ≠ k)) ∨ (cb = true ∧ ∃ b R1, R = k :: b :: R1) := by
  rcases R with _ | ⟨a, _ | ⟨b, r⟩⟩
  · exact ⟨false, .inl ⟨rfl, .inl (by simp)⟩⟩
  · exact ⟨false, .inl ⟨rfl, .inl (by simp)⟩⟩
  · by_cases h : a = k
    · exact ⟨true, .inr ⟨rfl, b, r, by rw [h]⟩⟩
    · exact ⟨false, .inl ⟨rfl, .inr ⟨a, b, r, rfl, h⟩⟩⟩

set_option maxRecDepth 100000 in
set_option maxHeartbeats 16000000 in
theorem rreadParam_any (L : List ByteArray) (wb : Nat) (w : World) (hr : RowS w wb 0 L) (hwb : wb < w.heap.size) (hsz : ∀ x ∈ L, x.size ≤ 200000) (hl : L.length ≤ 200001) :
    Calls Tryz.prog 66 #[.slice (some ⟨wb, 0, none⟩) L.length L.length] w (RdP (parW L) w) := by
  have HPO := Lib.hid (show ∀ e w', (∃ x : Par, x.rngs = [] ∧ e = .returned (.tuple #[.agg #[.string x.name, .int .i64 x.grp, .int .i64 x.sl, .int .i64 x.fine, .int .i64 x.dflt, .bool x.snap, .slice none 0 0], .bool (parW L).isSome]) ∧ (∀ r, parW L = some r → r = x) ∧ Below w.heap.size w w') → RdP (parW L) w e w' from fun e w' h => h)
  generalize RdP (parW L) w = PO at *
  have HB0 := Lib.hid (show Below w.heap.size w (w.alloc (.cells #[.string ⟨#[]⟩, .int .i64 0, .int .i64 0, .int .i64 0, .int .i64 0, .bool false, .slice none 0 0] 73)) from (Below.refl _ _).alloc (Nat.le_refl _) _)
  have B0 := Lib.hid (TBox.new w #[.string ⟨#[]⟩, .int .i64 0, .int .i64 0, .int .i64 0, .int .i64 0, .bool false, .slice none 0 0] 73)
  have HR := Lib.hid hr
  have HSZ := Lib.hid hsz
  clear hr hsz
  by_cases h4 : L.length < 4
  · have HN := Lib.hid (parW_short h4)
    have h4i : ((L.length : Nat) : Int) < 4 := by omega
    generalize parW L = RES at *
    generalize L.length = n at *
    clear h4 HR HSZ
    go_enter Tryz.func66, Tryz.ntmps66
    go_upto_region 1 with fail
    obtain ⟨w1, hw1⟩ : ∃ x : World, x = w.alloc (.cells #[.string ⟨#[]⟩, .int .i64 0, .int .i64 0, .int .i64 0, .int .i64 0, .bool false, .slice none 0 0] 73) := ⟨_, rfl⟩
    rw [← hw1] at HB0 B0 ⊢
    clear hw1
    have BX := B0.out
    have q0 := BX.cell (i := 0) rfl
    have f0 := BX.frozen 0
    have q1 := BX.cell (i := 1) rfl
    have f1 := BX.frozen 1
    have q2 := BX.cell (i := 2) rfl
    have f2 := BX.frozen 2
    have q3 := BX.cell (i := 3) rfl
    have f3 := BX.frozen 3
    have q4 := BX.cell (i := 4) rfl
    have f4 := BX.frozen 4
    have q5 := BX.cell (i := 5) rfl
    have f5 := BX.frozen 5
    have q6 := BX.cell (i := 6) rfl
    have f6 := BX.frozen 6
    have ql := BX.lt
    go_wp2_with fail
    have BY : TBox (((((((w1.setCell ⟨w.heap.size, 0, none⟩ (.string ⟨#[]⟩)).setCell ⟨w.heap.size, 1, none⟩ (.int .i64 0)).setCell ⟨w.heap.size, 2, none⟩ (.int .i64 0)).setCell ⟨w.heap.size, 3, none⟩ (.int .i64 0)).setCell ⟨w.heap.size, 4, none⟩ (.int .i64 0)).setCell ⟨w.heap.size, 5, none⟩ (.bool false)).setCell ⟨w.heap.size, 6, none⟩ (.slice none 0 0)) w.heap.size 73 #[.string ⟨#[]⟩, .int .i64 0, .int .i64 0, .int .i64 0, .int .i64 0, .bool false, .slice none 0 0] := (((((((BX.set 0 (.string ⟨#[]⟩)).set 1 (.int .i64 0)).set 2 (.int .i64 0)).set 3 (.int .i64 0)).set 4 (.int .i64 0)).set 5 (.bool false)).set 6 (.slice none 0 0))
    have HY : Below w.heap.size w (((((((w1.setCell ⟨w.heap.size, 0, none⟩ (.string ⟨#[]⟩)).setCell ⟨w.heap.size, 1, none⟩ (.int .i64 0)).setCell ⟨w.heap.size, 2, none⟩ (.int .i64 0)).setCell ⟨w.heap.size, 3, none⟩ (.int .i64 0)).setCell ⟨w.heap.size, 4, none⟩ (.int .i64 0)).setCell ⟨w.heap.size, 5, none⟩ (.bool false)).setCell ⟨w.heap.size, 6, none⟩ (.slice none 0 0)) := (((((((HB0.out.setCell (Nat.le_refl _) (.string ⟨#[]⟩)).setCell (Nat.le_refl _) (.int .i64 0)).setCell (Nat.le_refl _) (.int .i64 0)).setCell (Nat.le_refl _) (.int .i64 0)).setCell (Nat.le_refl _) (.int .i64 0)).setCell (Nat.le_refl _) (.bool false)).setCell (Nat.le_refl _) (.slice none 0 0))
    have R0 := BY.cell (i := 0) rfl
    have R1 := BY.cell (i := 1) rfl
    have R2 := BY.cell (i := 2) rfl
    have R3 := BY.cell (i := 3) rfl
    have R4 := BY.cell (i := 4) rfl
    have R5 := BY.cell (i := 5) rfl
    have R6 := BY.cell (i := 6) rfl
    generalize (((((((w1.setCell ⟨w.heap.size, 0, none⟩ (.string ⟨#[]⟩)).setCell ⟨w.heap.size, 1, none⟩ (.int .i64 0)).setCell ⟨w.heap.size, 2, none⟩ (.int .i64 0)).setCell ⟨w.heap.size, 3, none⟩ (.int .i64 0)).setCell ⟨w.heap.size, 4, none⟩ (.int .i64 0)).setCell ⟨w.heap.size, 5, none⟩ (.bool false)).setCell ⟨w.heap.size, 6, none⟩ (.slice none 0 0)) = W9 at *
    exact bodyPost_ret (v := .tuple #[.agg #[.string ⟨#[]⟩, .int .i64 0, .int .i64 0, .int .i64 0, .int .i64 0, .bool false, .slice none 0 0], .bool false]) (by simp [results, Tryz.results66, go_sem, R0, R1, R2, R3, R4, R5, R6]) rfl (HPO.out _ _ ⟨⟨⟨#[]⟩, 0, 0, 0, 0, false, []⟩, rfl, by rw [HN.out]; rfl, fun r h => (by rw [HN.out] at h; cases h), HY⟩)
  obtain ⟨a, b, c, d, R, rfl⟩ := flist4 h4
  have r0 : w.cell? ⟨wb, 0, none⟩ = some (.string a) := HR.out 0 (by simp)
  have r1 : w.cell? ⟨wb, 1, none⟩ = some (.string b) := HR.out 1 (by simp)
  have r2 : w.cell? ⟨wb, 2, none⟩ = some (.string c) := HR.out 2 (by simp)
  have r3 : w.cell? ⟨wb, 3, none⟩ = some (.string d) := HR.out 3 (by simp)
  have HROW := Lib.hid (row_drop (row_drop (row_drop (row_drop HR.out))))
  have sb : b.size ≤ 200000 := HSZ.out b (by simp)
  have sd : d.size ≤ 200000 := HSZ.out d (by simp)
  have HSR := Lib.hid (show ∀ x ∈ R, x.size ≤ 200000 from fun x hx => HSZ.out x (by simp [hx]))
  have HRW := Lib.hid (fun W => isWord_any b W (by unfold maxLen; omega))
  have HE := Lib.hid (parW_four a b c d R)
  have hRl : R.length ≤ 200001 := by simp at hl; omega
  simp only [List.length_cons] at *
  have h4i : ¬ (((R.length + 1 + 1 + 1 + 1 : Nat) : Int) < 4) := by omega
  have h4j : (0 : Int) < (R.length : Int) + 1 + 1 + 1 + 1 := by omega
  generalize parW (a :: b :: c :: d :: R) = RES at *
  clear HR h4 HSZ hl
  generalize rowB b.data.toList = rb at *
  go_enter Tryz.func66, Tryz.ntmps66
  go_upto_region 1 with fail
  obtain ⟨w1, hw1⟩ : ∃ x : World, x = w.alloc (.cells #[.string ⟨#[]⟩, .int .i64 0, .int .i64 0, .int .i64 0, .int .i64 0, .bool false, .slice none 0 0] 73) := ⟨_, rfl⟩
  rw [← hw1] at HB0 B0 ⊢
  clear hw1
  have r0 := (HB0.out.cell (p := ⟨wb, 0, none⟩) hwb).trans r0
  have r1 := (HB0.out.cell (p := ⟨wb, 1, none⟩) hwb).trans r1
  have r2 := (HB0.out.cell (p := ⟨wb, 2, none⟩) hwb).trans r2
  have r3 := (HB0.out.cell (p := ⟨wb, 3, none⟩) hwb).trans r3
  have HROW := Lib.hid (show RowS w1 wb (0 + 1 + 1 + 1 + 1) R from fun j hj => (HB0.out.cell (p := ⟨wb, 0 + 1 + 1 + 1 + 1 + j, none⟩) hwb).trans (HROW.out j hj))
  have hlt1 : wb < w1.heap.size := by have := HB0.out.size; omega
  have hb0l := B0.out.lt
  by_cases hc : c = sAt
  rotate_left
  · have HN := Lib.hid (show RES = none by rw [HE.out, if_neg (fun h => hc h.2.1)])
    have hcb : (c.toList == [97, 116]) = false := beqL hc rfl
    clear hc HE
    have BX := B0.out
    have q0 := BX.cell (i := 0) rfl
    have f0 := BX.frozen 0
    have q1 := BX.cell (i := 1) rfl
    have f1 := BX.frozen 1
    have q2 := BX.cell (i := 2) rfl
    have f2 := BX.frozen 2
    have q3 := BX.cell (i := 3) rfl
    have f3 := BX.frozen 3
    have q4 := BX.cell (i := 4) rfl
    have f4 := BX.frozen 4
    have q5 := BX.cell (i := 5) rfl
    have f5 := BX.frozen 5
    have q6 := BX.cell (i := 6) rfl
    have f6 := BX.frozen 6
    have ql := BX.lt
    go_wp2_with fail
    have BY : TBox (((((((w1.setCell ⟨w.heap.size, 0, none⟩ (.string ⟨#[]⟩)).setCell ⟨w.heap.size, 1, none⟩ (.int .i64 0)).setCell ⟨w.heap.size, 2, none⟩ (.int .i64 0)).setCell ⟨w.heap.size, 3, none⟩ (.int .i64 0)).setCell ⟨w.heap.size, 4, none⟩ (.int .i64 0)).setCell ⟨w.heap.size, 5, none⟩ (.bool false)).setCell ⟨w.heap.size, 6, none⟩ (.slice none 0 0)) w.heap.size 73 #[.string ⟨#[]⟩, .int .i64 0, .int .i64 0, .int .i64 0, .int .i64 0, .bool false, .slice none 0 0] := (((((((BX.set 0 (.string ⟨#[]⟩)).set 1 (.int .i64 0)).set 2 (.int .i64 0)).set 3 (.int .i64 0)).set 4 (.int .i64 0)).set 5 (.bool false)).set 6 (.slice none 0 0))
    have HY : Below w.heap.size w (((((((w1.setCell ⟨w.heap.size, 0, none⟩ (.string ⟨#[]⟩)).setCell ⟨w.heap.size, 1, none⟩ (.int .i64 0)).setCell ⟨w.heap.size, 2, none⟩ (.int .i64 0)).setCell ⟨w.heap.size, 3, none⟩ (.int .i64 0)).setCell ⟨w.heap.size, 4, none⟩ (.int .i64 0)).setCell ⟨w.heap.size, 5, none⟩ (.bool false)).setCell ⟨w.heap.size, 6, none⟩ (.slice none 0 0)) := (((((((HB0.out.setCell (Nat.le_refl _) (.string ⟨#[]⟩)).setCell (Nat.le_refl _) (.int .i64 0)).setCell (Nat.le_refl _) (.int .i64 0)).setCell (Nat.le_refl _) (.int .i64 0)).setCell (Nat.le_refl _) (.int .i64 0)).setCell (Nat.le_refl _) (.bool false)).setCell (Nat.le_refl _) (.slice none 0 0))
    have R0 := BY.cell (i := 0) rfl
    have R1 := BY.cell (i := 1) rfl
    have R2 := BY.cell (i := 2) rfl
    have R3 := BY.cell (i := 3) rfl
    have R4 := BY.cell (i := 4) rfl
    have R5 := BY.cell (i := 5) rfl
    have R6 := BY.cell (i := 6) rfl
    generalize (((((((w1.setCell ⟨w.heap.size, 0, none⟩ (.string ⟨#[]⟩)).setCell ⟨w.heap.size, 1, none⟩ (.int .i64 0)).setCell ⟨w.heap.size, 2, none⟩ (.int .i64 0)).setCell ⟨w.heap.size, 3, none⟩ (.int .i64 0)).setCell ⟨w.heap.size, 4, none⟩ (.int .i64 0)).setCell ⟨w.heap.size, 5, none⟩ (.bool false)).setCell ⟨w.heap.size, 6, none⟩ (.slice none 0 0)) = W9 at *
    exact bodyPost_ret (v := .tuple #[.agg #[.string ⟨#[]⟩, .int .i64 0, .int .i64 0, .int .i64 0, .int .i64 0, .bool false, .slice none 0 0], .bool false]) (by simp [results, Tryz.results66, go_sem, R0, R1, R2, R3, R4, R5, R6]) rfl (HPO.out _ _ ⟨⟨⟨#[]⟩, 0, 0, 0, 0, false, []⟩, rfl, by rw [HN.out]; rfl, fun r h => (by rw [HN.out] at h; cases h), HY⟩)
  cases rb
  · have HN := Lib.hid (show RES = none by rw [HE.out, if_neg (by simp)])
    clear HE
    subst hc
    unfold sAt at *
    have BX := B0.out
    have q0 := BX.cell (i := 0) rfl
    have f0 := BX.frozen 0
    have q1 := BX.cell (i := 1) rfl
    have f1 := BX.frozen 1
    have q2 := BX.cell (i := 2) rfl
    have f2 := BX.frozen 2
    have q3 := BX.cell (i := 3) rfl
    have f3 := BX.frozen 3
    have q4 := BX.cell (i := 4) rfl
    have f4 := BX.frozen 4
    have q5 := BX.cell (i := 5) rfl
    have f5 := BX.frozen 5
    have q6 := BX.cell (i := 6) rfl
    have f6 := BX.frozen 6
    have ql := BX.lt
    go_wp2_with fail
    refine (HRW.out _).mono ?_
    rintro e1 w' ⟨rfl, rfl⟩
    go_wp2_with fail
    have BY : TBox (((((((w1.setCell ⟨w.heap.size, 0, none⟩ (.string ⟨#[]⟩)).setCell ⟨w.heap.size, 1, none⟩ (.int .i64 0)).setCell ⟨w.heap.size, 2, none⟩ (.int .i64 0)).setCell ⟨w.heap.size, 3, none⟩ (.int .i64 0)).setCell ⟨w.heap.size, 4, none⟩ (.int .i64 0)).setCell ⟨w.heap.size, 5, none⟩ (.bool false)).setCell ⟨w.heap.size, 6, none⟩ (.slice none 0 0)) w.heap.size 73 #[.string ⟨#[]⟩, .int .i64 0, .int .i64 0, .int .i64 0, .int .i64 0, .bool false, .slice none 0 0] := (((((((BX.set 0 (.string ⟨#[]⟩)).set 1 (.int .i64 0)).set 2 (.int .i64 0)).set 3 (.int .i64 0)).set 4 (.int .i64 0)).set 5 (.bool false)).set 6 (.slice none 0 0))
    have HY : Below w.heap.size w (((((((w1.setCell ⟨w.heap.size, 0, none⟩ (.string ⟨#[]⟩)).setCell ⟨w.heap.size, 1, none⟩ (.int .i64 0)).setCell ⟨w.heap.size, 2, none⟩ (.int .i64 0)).setCell ⟨w.heap.size, 3, none⟩ (.int .i64 0)).setCell ⟨w.heap.size, 4, none⟩ (.int .i64 0)).setCell ⟨w.heap.size, 5, none⟩ (.bool false)).setCell ⟨w.heap.size, 6, none⟩ (.slice none 0 0)) := (((((((HB0.out.setCell (Nat.le_refl _) (.string ⟨#[]⟩)).setCell (Nat.le_refl _) (.int .i64 0)).setCell (Nat.le_refl _) (.int .i64 0)).setCell (Nat.le_refl _) (.int .i64 0)).setCell (Nat.le_refl _) (.int .i64 0)).setCell (Nat.le_refl _) (.bool false)).setCell (Nat.le_refl _) (.slice none 0 0))
    have R0 := BY.cell (i := 0) rfl
    have R1 := BY.cell (i := 1) rfl
    have R2 := BY.cell (i := 2) rfl
    have R3 := BY.cell (i := 3) rfl
    have R4 := BY.cell (i := 4) rfl
    have R5 := BY.cell (i := 5) rfl
    have R6 := BY.cell (i := 6) rfl
    generalize (((((((w1.setCell ⟨w.heap.size, 0, none⟩ (.string ⟨#[]⟩)).setCell ⟨w.heap.size, 1, none⟩ (.int .i64 0)).setCell ⟨w.heap.size, 2, none⟩ (.int .i64 0)).setCell ⟨w.heap.size, 3, none⟩ (.int .i64 0)).setCell ⟨w.heap.size, 4, none⟩ (.int .i64 0)).setCell ⟨w.heap.size, 5, none⟩ (.bool false)).setCell ⟨w.heap.size, 6, none⟩ (.slice none 0 0)) = W9 at *
    exact bodyPost_ret (v := .tuple #[.agg #[.string ⟨#[]⟩, .int .i64 0, .int .i64 0, .int .i64 0, .int .i64 0, .bool false, .slice none 0 0], .bool false]) (by simp [results, Tryz.results66, go_sem, R0, R1, R2, R3, R4, R5, R6]) rfl (HPO.out _ _ ⟨⟨⟨#[]⟩, 0, 0, 0, 0, false, []⟩, rfl, by rw [HN.out]; rfl, fun r h => (by rw [HN.out] at h; cases h), HY⟩)
  have HE2 := Lib.hid (show RES = if grpW a ≠ 0 then (nbW d).bind fun k => tailW (grpW a) b k R else none by
    rw [HE.out]
    by_cases h : grpW a ≠ 0
    · rw [if_pos ⟨rfl, hc, h⟩, if_pos h]
    · rw [if_neg (fun k => h k.2.2), if_neg h])
  clear HE
  subst hc
  unfold sAt at *
  have HGI := Lib.hid (idx_grp a)
  have CGR := Lib.hid (fun W n (h : W.heap.size = n) => groups5_n W n h)
  have CIX := Lib.hid (fun b0 W (h : ∀ j, j < grps.length → W.cell? ⟨b0, 0 + j, none⟩ = some (.string (grps.getD j ByteArray.empty))) => Tryz.slices_Index_string b0 0 5 5 grps a W (by decide) (by decide) h)
  rw [show grps.take 5 = grps from rfl] at CIX
  generalize grpW a = G at *
  generalize Lib.idxOfS grps a = gi at *
  go_wp2_with fail
  refine (HRW.out _).mono ?_
  rintro e1 w' ⟨rfl, rfl⟩
  clear HRW r2
  go_upto_region 3 with fail
  have KP := Lib.hid (fun W (h : Below w1.heap.size w1 W) => And.intro ((h.cell (p := ⟨wb, 0, none⟩) hlt1).trans r0) ((h.cell (p := ⟨wb, 1, none⟩) hlt1).trans r1))
  go_cut [4] (fun s wx => ∃ bx, s = .pointer (some ⟨bx, 0, none⟩) ∧ w1.heap.size ≤ bx ∧ Hid (TBox wx bx 73 #[.string b, .int .i64 gi, .int .i64 0, .int .i64 0, .int .i64 0, .bool false, .slice none 0 0]) ∧ Hid (Below w1.heap.size w1 wx))
  case first =>
    go_region_held3 (fun W => W.cell? ⟨wb, 0, none⟩ = some (.string a) ∧ W.cell? ⟨wb, 1, none⟩ = some (.string b))
      (exact KP.out _ (by repeat' first | (with_reducible assumption) | (with_reducible exact Below.refl _ _) | (with_reducible exact Nat.le_refl _) | (with_reducible refine Below.drew ?_) | (with_reducible refine Below.alloc ?_ ?_ _) | (with_reducible refine Below.setCell ?_ ?_ _) | omega | (simp; done) | (simp; omega)))
      (first
        | (go_at_call 94; (with_reducible refine (CGR.out _ w1.heap.size (size_d _)).mono ?_); rintro e WG ⟨rfl, hbG, hcG, hltG⟩; have hwG : Below w1.heap.size w1 WG := Below.trans (show Below w1.heap.size w1 _ from by repeat' first | (with_reducible assumption) | (with_reducible exact Below.refl _ _) | (with_reducible exact Nat.le_refl _) | (with_reducible refine Below.drew ?_) | (with_reducible refine Below.alloc ?_ ?_ _) | (with_reducible refine Below.setCell ?_ ?_ _) | omega | (simp; done) | (simp; omega)) (hbG.mono (Nat.le_refl _)))
        | (go_at_call 94; (with_reducible refine (CGR.out _ (w1.heap.size + 1) (size_ad _ _)).mono ?_); rintro e WG ⟨rfl, hbG, hcG, hltG⟩; have hwG : Below w1.heap.size w1 WG := Below.trans (show Below w1.heap.size w1 _ from by repeat' first | (with_reducible assumption) | (with_reducible exact Below.refl _ _) | (with_reducible exact Nat.le_refl _) | (with_reducible refine Below.drew ?_) | (with_reducible refine Below.alloc ?_ ?_ _) | (with_reducible refine Below.setCell ?_ ?_ _) | omega | (simp; done) | (simp; omega)) (hbG.mono (Nat.le_succ _)); have BNG := (show TBox (w1.alloc (.cells #[.string ⟨#[]⟩, .int .i64 0, .int .i64 0, .int .i64 0, .int .i64 0, .bool false, .slice none 0 0] 73)).drew w1.heap.size 73 #[.string ⟨#[]⟩, .int .i64 0, .int .i64 0, .int .i64 0, .int .i64 0, .bool false, .slice none 0 0] from TBox.new _ _ _).below (by rw [size_ad]; exact hbG); have n0 := BNG.cell (i := 0) rfl; have m0 := BNG.frozen 0; have n1 := BNG.cell (i := 1) rfl; have m1 := BNG.frozen 1; have n2 := BNG.cell (i := 2) rfl; have m2 := BNG.frozen 2; have n3 := BNG.cell (i := 3) rfl; have m3 := BNG.frozen 3; have n4 := BNG.cell (i := 4) rfl; have m4 := BNG.frozen 4; have n5 := BNG.cell (i := 5) rfl; have m5 := BNG.frozen 5; have n6 := BNG.cell (i := 6) rfl; have m6 := BNG.frozen 6; have hgl := BNG.lt)
        | (go_at_call 93; (refine (CIX.out _ _ (by first | exact hcG | exact fun j hj => (((Below.refl _ _).alloc (Nat.le_refl _) _).cell hltG).trans (hcG j hj))).mono ?_); rintro e w' ⟨rfl, rfl⟩)
        | fail)
    all_goals go_wp2_with fail
    all_goals go_meet
    all_goals first
      | exact ⟨_, rfl, hwG.size, Lib.hid (TBox.new _ _ _), Lib.hid (hwG.alloc hwG.size _)⟩
      | exact ⟨_, rfl, Nat.le_refl _, Lib.hid (show TBox _ w1.heap.size 73 #[.string b, .int .i64 gi, .int .i64 0, .int .i64 0, .int .i64 0, .bool false, .slice none 0 0] from (((((((BNG.set 0 (.string b)).set 1 (.int .i64 gi)).set 2 (.int .i64 0)).set 3 (.int .i64 0)).set 4 (.int .i64 0)).set 5 (.bool false)).set 6 (.slice none 0 0))), Lib.hid (((((((hwG.setCell (Nat.le_refl _) (.string b)).setCell (Nat.le_refl _) (.int .i64 gi)).setCell (Nat.le_refl _) (.int .i64 0)).setCell (Nat.le_refl _) (.int .i64 0)).setCell (Nat.le_refl _) (.int .i64 0)).setCell (Nat.le_refl _) (.bool false)).setCell (Nat.le_refl _) (.slice none 0 0))⟩
  case rest =>
  obtain ⟨bx, rfl, hbx, HT3, HW3⟩ := hcut
  obtain ⟨w3, rfl⟩ : ∃ y, y = wc := ⟨wc, rfl⟩
  have hbx3 := HT3.out.lt
  have hz3 := HW3.out.size
  clear KP r0 r1 CGR CIX
  obtain ⟨nv, nf, hn1, hn2⟩ := rnum_f d (by omega)
  have CN := Lib.hid hn1
  have HNV := Lib.hid hn2
  clear hn1 hn2
  have d3 : w3.cell? ⟨wb, 3, none⟩ = some (.string d) := (HW3.out.cell (p := ⟨wb, 3, none⟩) hlt1).trans r3
  have hwb3 : wb < w3.heap.size := by omega
  clear r3
  go_wp2_with fail
  refine (CN.out _).mono ?_
  rintro e1 w4 ⟨rfl, hb⟩
  have HW4 := Lib.hid (HW3.out.trans (hb.mono HW3.out.size))
  have HT4 := Lib.hid (HT3.out.below hb)
  have hz4 := HW4.out.size
  clear hb HW3 HT3 CN d3
  have HX := Lib.hid (show RES = if 0 < gi then bk nf ((optW sFine nzN R).bind fun x => t1 b gi nv x.1 x.2) else none by
    rw [HE2.out]
    rcases HGI.out with ⟨h1, h2⟩ | ⟨h1, h2⟩
    · rw [if_pos h1, if_pos (by omega), ← h2]
      rcases HNV.out with ⟨rfl, h⟩ | ⟨rfl, h⟩
      · rw [h, bk_t, ← tail_eq]; rfl
      · rw [h, bk_f]; rfl
    · rw [if_neg (show ¬ G ≠ 0 from fun k => k h2), if_neg (show ¬ 0 < gi by omega)])
  clear HE2 HNV HGI
  have BX := HT4.out
  have q0 := BX.cell (i := 0) rfl
  have f0 := BX.frozen 0
  have q1 := BX.cell (i := 1) rfl
  have f1 := BX.frozen 1
  have q2 := BX.cell (i := 2) rfl
  have f2 := BX.frozen 2
  have q3 := BX.cell (i := 3) rfl
  have f3 := BX.frozen 3
  have q4 := BX.cell (i := 4) rfl
  have f4 := BX.frozen 4
  have q5 := BX.cell (i := 5) rfl
  have f5 := BX.frozen 5
  have q6 := BX.cell (i := 6) rfl
  have f6 := BX.frozen 6
  have ql := BX.lt
  have HT5 := Lib.hid (show TBox (w4.setCell ⟨bx, 2, none⟩ (.int .i64 nv)) bx 73 #[.string b, .int .i64 gi, .int .i64 nv, .int .i64 0, .int .i64 0, .bool false, .slice none 0 0] from BX.set 2 (.int .i64 nv))
  have HW5 := Lib.hid (HW4.out.setCell (p := ⟨bx, 2, none⟩) hbx (.int .i64 nv))
  clear BX HT4
  obtain ⟨w5, hw5⟩ : ∃ w5 : World, w5 = w4.setCell ⟨bx, 2, none⟩ (.int .i64 nv) := ⟨_, rfl⟩
  go_upto_region 6 with fail
  rw [← hw5] at HT5 HW5 ⊢
  clear hw5 HW4 q0 f0 q1 f1 q2 f2 q3 f3 q4 f4 q5 f5 q6 f6 ql hz4 hz3 hbx3 hwb3
  have hz5 := HW5.out.size
  go_cut [0] (fun s wx => (∃ off cap, s = .slice (some ⟨wb, off, none⟩) R.length cap ∧ R.length ≤ cap ∧ RowS w1 wb off R) ∧ w5 = wx)
  case first =>
    by_cases hR0 : R.length = 0
    · have hR : R = [] := List.eq_nil_of_length_eq_zero hR0
      subst hR
      go_wp2_with fail
      go_meet
      exact ⟨⟨_, _, rfl, Nat.zero_le _, fun j hj => absurd hj (Nat.not_lt_zero _)⟩, rfl⟩
    · have hR1 : ¬ (R.length : Int) = 0 := by omega
      have hR2 : (0 : Int) < R.length := by omega
      have hR3 : (0 : Int) ≤ R.length := by omega
      go_wp2_with fail
      go_meet
      exact ⟨⟨_, _, rfl, Nat.le_refl _, HROW.out⟩, rfl⟩
  case rest =>
  obtain ⟨⟨off, cap, rfl, hcap, hrow⟩, rfl⟩ := hcut
  have HR := Lib.hid hrow
  clear hrow HROW
  obtain ⟨cb, hcb⟩ := opt_cases sFine R
  have HOC := Lib.hid hcb
  clear hcb
  go_upto_region 7 with fail
  go_cut [56] (fun s wx => s = .bool cb ∧ w5 = wx)
  case first =>
    rcases HOC.out with ⟨rfl, h | ⟨a1, b1, R1, e, hne⟩⟩ | ⟨rfl, b2, R1, e⟩
    · have hl1 : ¬ (1 : Int) < R.length := by omega
      clear HOC h
      go_wp2_with fail
      go_meet
      exact ⟨rfl, rfl⟩
    · subst e
      have e0 : w5.cell? ⟨wb, off, none⟩ = some (.string a1) := (HW5.out.cell (p := ⟨wb, off, none⟩) hlt1).trans (row_hd HR.out)
      simp only [List.length_cons] at *
      have hl1 : (1 : Int) < (R1.length : Int) + 1 + 1 := by omega
      have hl2 : (0 : Int) < (R1.length : Int) + 1 + 1 := by omega
      have hz5 := HW5.out.size
      have hwb5 : wb < w5.heap.size := by omega
      have hq : (a1.toList == [102, 105, 110, 101]) = false := beqL hne rfl
      clear HOC hne
      go_wp2_with fail
      go_meet
      exact ⟨rfl, rfl⟩
    · subst e
      have e0 : w5.cell? ⟨wb, off, none⟩ = some (.string sFine) := (HW5.out.cell (p := ⟨wb, off, none⟩) hlt1).trans (row_hd HR.out)
      simp only [List.length_cons] at *
      have hl1 : (1 : Int) < (R1.length : Int) + 1 + 1 := by omega
      have hl2 : (0 : Int) < (R1.length : Int) + 1 + 1 := by omega
      have hz5 := HW5.out.size
      have hwb5 : wb < w5.heap.size := by omega
      unfold sFine at e0
      clear HOC
      go_wp2_with fail
      go_meet
      exact ⟨rfl, rfl⟩
  case rest =>
  obtain ⟨rfl, rfl⟩ := hcut
  go_upto_if 56 with fail
  go_cut [0, 6] (fun s0 s6 wx => Hid (∃ (fi : Int) (R2 : List ByteArray) (ok2 : Bool), s6 = .bool ok2 ∧ (∃ off cap, s0 = .slice (some ⟨wb, off, none⟩) R2.length cap ∧ R2.length ≤ cap ∧ RowS w1 wb off R2) ∧ (∀ x ∈ R2, x.size ≤ 200000) ∧ RES = (if 0 < gi then bk ok2 (t1 b gi nv fi R2) else none) ∧ TBox wx bx 73 #[.string b, .int .i64 gi, .int .i64 nv, .int .i64 fi, .int .i64 0, .bool false, .slice none 0 0] ∧ Below w1.heap.size w1 wx))
  case first => as_aux_lemma =>
    rcases HOC.out with ⟨rfl, hsk⟩ | ⟨rfl, b2, R1, rfl⟩
    · have HX1 := Lib.hid (show RES = (if 0 < gi then bk nf (t1 b gi nv 0 R) else none) from by rw [HX.out, optW_skip hsk]; rfl)
      clear HOC hsk
      go_wp2_with fail
      go_meet
      exact Lib.hid ⟨0, R, nf, rfl, ⟨_, _, rfl, hcap, HR.out⟩, HSR.out, HX1.out, HT5.out, HW5.out⟩
    · clear HOC
      have sb2 : b2.size ≤ 200000 := HSR.out b2 (by simp)
      obtain ⟨n2, fg, hn1, hn2⟩ := rnum_f b2 (by omega)
      have CN := Lib.hid hn1
      have HSR1 := Lib.hid (show ∀ x ∈ R1, x.size ≤ 200000 from fun x hx => HSR.out x (by simp [hx]))
      have HRW2 := Lib.hid (row_drop (row_drop HR.out))
      have e0 : w5.cell? ⟨wb, off, none⟩ = some (.string sFine) := (HW5.out.cell (p := ⟨wb, off, none⟩) hlt1).trans (row_hd HR.out)
      simp only [List.length_cons] at *
      have hl1 : (1 : Int) < (R1.length : Int) + 1 + 1 := by omega
      have hl2 : (0 : Int) < (R1.length : Int) + 1 + 1 := by omega
      have hz5 := HW5.out.size
      have hwb5 : wb < w5.heap.size := by omega
      have e1 : w5.cell? ⟨wb, off + 1, none⟩ = some (.string b2) := (HW5.out.cell (p := ⟨wb, off + 1, none⟩) hlt1).trans (row_hd (row_drop HR.out))
      unfold sFine at e0
      clear hn1
      go_wp2_with fail
      refine (CN.out _).mono ?_
      rintro e1 w6 ⟨rfl, hb⟩
      have HW6 := Lib.hid (HW5.out.trans (hb.mono HW5.out.size))
      have HT6 := Lib.hid (HT5.out.below hb)
      clear hb CN e0 e1
      have hlt6 := HW6.out.size
      have BX := HT6.out
      have x0 := BX.cell (i := 0) rfl
      have y0 := BX.frozen 0
      have x1 := BX.cell (i := 1) rfl
      have y1 := BX.frozen 1
      have x2 := BX.cell (i := 2) rfl
      have y2 := BX.frozen 2
      have x3 := BX.cell (i := 3) rfl
      have y3 := BX.frozen 3
      have x4 := BX.cell (i := 4) rfl
      have y4 := BX.frozen 4
      have x5 := BX.cell (i := 5) rfl
      have y5 := BX.frozen 5
      have x6 := BX.cell (i := 6) rfl
      have y6 := BX.frozen 6
      have xl := BX.lt
      clear BX
      obtain ⟨ok', hok', HXN⟩ : ∃ ok' : Bool, ok' = (nf && (fg && (n2 != 0))) ∧ Hid (RES = (if 0 < gi then bk ok' (t1 b gi nv n2 R1) else none)) := ⟨_, rfl, Lib.hid (by
        rw [HX.out, optW_at, nzN_g hn2, bk_opt _ _ n2 R1 (fun m r => t1 b gi nv m r)])⟩
      have hfv := hn2
      clear hn2 HX
      have HTa := Lib.hid (show TBox (w6.drew.setCell ⟨bx, 3, none⟩ (.int .i64 n2)) bx 73 #[.string b, .int .i64 gi, .int .i64 nv, .int .i64 n2, .int .i64 0, .bool false, .slice none 0 0] from (show TBox w6.drew bx 73 #[.string b, .int .i64 gi, .int .i64 nv, .int .i64 0, .int .i64 0, .bool false, .slice none 0 0] from HT6.out).set 3 _)
      have HTb := Lib.hid (show TBox (w6.setCell ⟨bx, 3, none⟩ (.int .i64 n2)).drew bx 73 #[.string b, .int .i64 gi, .int .i64 nv, .int .i64 n2, .int .i64 0, .bool false, .slice none 0 0] from HT6.out.set 3 _)
      have HWa := Lib.hid (HW6.out.drew.setCell (p := ⟨bx, 3, none⟩) hbx (.int .i64 n2))
      have HWb := Lib.hid ((HW6.out.setCell (p := ⟨bx, 3, none⟩) hbx (.int .i64 n2)).drew)
      by_cases hR0 : R1.length = 0
      · have hR1 : R1 = [] := List.eq_nil_of_length_eq_zero hR0
        subst hR1
        cases nf
        · go_upto_region 9 with fail
          go_region
          all_goals go_wp2_with fail
          all_goals go_meet
          all_goals first
            | exact Lib.hid ⟨_, [], ok', by rw [hok']; rfl, ⟨_, _, rfl, by first | exact Nat.zero_le _ | omega, (fun j hj => absurd hj (Nat.not_lt_zero _))⟩, HSR1.out, HXN.out, HTa.out, HWa.out⟩
            | exact Lib.hid ⟨_, [], ok', by rw [hok']; rfl, ⟨_, _, rfl, by first | exact Nat.zero_le _ | omega, (fun j hj => absurd hj (Nat.not_lt_zero _))⟩, HSR1.out, HXN.out, HTb.out, HWb.out⟩
        · cases fg
  
          · go_upto_region 9 with fail
            go_region
            all_goals go_wp2_with fail
            all_goals go_meet
            all_goals first
              | exact Lib.hid ⟨_, [], ok', by rw [hok']; rfl, ⟨_, _, rfl, by first | exact Nat.zero_le _ | omega, (fun j hj => absurd hj (Nat.not_lt_zero _))⟩, HSR1.out, HXN.out, HTa.out, HWa.out⟩
              | exact Lib.hid ⟨_, [], ok', by rw [hok']; rfl, ⟨_, _, rfl, by first | exact Nat.zero_le _ | omega, (fun j hj => absurd hj (Nat.not_lt_zero _))⟩, HSR1.out, HXN.out, HTb.out, HWb.out⟩
          · by_cases hz : n2 = 0
            · have hzb : (n2 != 0) = false := by rw [hz]; rfl
              rw [hzb] at hok'
              subst hz
              go_upto_region 9 with fail
              go_region
              all_goals go_wp2_with fail
              all_goals go_meet
              all_goals first
                | exact Lib.hid ⟨_, [], ok', by rw [hok']; rfl, ⟨_, _, rfl, by first | exact Nat.zero_le _ | omega, (fun j hj => absurd hj (Nat.not_lt_zero _))⟩, HSR1.out, HXN.out, HTa.out, HWa.out⟩
                | exact Lib.hid ⟨_, [], ok', by rw [hok']; rfl, ⟨_, _, rfl, by first | exact Nat.zero_le _ | omega, (fun j hj => absurd hj (Nat.not_lt_zero _))⟩, HSR1.out, HXN.out, HTb.out, HWb.out⟩
            · have hzb : (n2 != 0) = true := by simpa using hz
              rw [hzb] at hok'
              go_upto_region 9 with fail
              go_region
              all_goals go_wp2_with fail
              all_goals go_meet
              all_goals first
                | exact Lib.hid ⟨_, [], ok', by rw [hok']; rfl, ⟨_, _, rfl, by first | exact Nat.zero_le _ | omega, (fun j hj => absurd hj (Nat.not_lt_zero _))⟩, HSR1.out, HXN.out, HTa.out, HWa.out⟩
                | exact Lib.hid ⟨_, [], ok', by rw [hok']; rfl, ⟨_, _, rfl, by first | exact Nat.zero_le _ | omega, (fun j hj => absurd hj (Nat.not_lt_zero _))⟩, HSR1.out, HXN.out, HTb.out, HWb.out⟩
      · have hRi : ¬ (R1.length : Int) = 0 := by omega
        have hR2 : (0 : Int) < R1.length := by omega
        have hR3 : (0 : Int) ≤ R1.length := by omega
        cases nf
        · go_upto_region 9 with fail
          go_region
          all_goals go_wp2_with fail
          all_goals go_meet
          all_goals first
            | exact Lib.hid ⟨_, R1, ok', by rw [hok']; rfl, ⟨_, _, rfl, by first | exact Nat.zero_le _ | omega, HRW2.out⟩, HSR1.out, HXN.out, HTa.out, HWa.out⟩
            | exact Lib.hid ⟨_, R1, ok', by rw [hok']; rfl, ⟨_, _, rfl, by first | exact Nat.zero_le _ | omega, HRW2.out⟩, HSR1.out, HXN.out, HTb.out, HWb.out⟩
        · cases fg
  
          · go_upto_region 9 with fail
            go_region
            all_goals go_wp2_with fail
            all_goals go_meet
            all_goals first
              | exact Lib.hid ⟨_, R1, ok', by rw [hok']; rfl, ⟨_, _, rfl, by first | exact Nat.zero_le _ | omega, HRW2.out⟩, HSR1.out, HXN.out, HTa.out, HWa.out⟩
              | exact Lib.hid ⟨_, R1, ok', by rw [hok']; rfl, ⟨_, _, rfl, by first | exact Nat.zero_le _ | omega, HRW2.out⟩, HSR1.out, HXN.out, HTb.out, HWb.out⟩
          · by_cases hz : n2 = 0
            · have hzb : (n2 != 0) = false := by rw [hz]; rfl
              rw [hzb] at hok'
              subst hz
              go_upto_region 9 with fail
              go_region
              all_goals go_wp2_with fail
              all_goals go_meet
              all_goals first
                | exact Lib.hid ⟨_, R1, ok', by rw [hok']; rfl, ⟨_, _, rfl, by first | exact Nat.zero_le _ | omega, HRW2.out⟩, HSR1.out, HXN.out, HTa.out, HWa.out⟩
                | exact Lib.hid ⟨_, R1, ok', by rw [hok']; rfl, ⟨_, _, rfl, by first | exact Nat.zero_le _ | omega, HRW2.out⟩, HSR1.out, HXN.out, HTb.out, HWb.out⟩
            · have hzb : (n2 != 0) = true := by simpa using hz
              rw [hzb] at hok'
              go_upto_region 9 with fail
              go_region
              all_goals go_wp2_with fail
              all_goals go_meet
              all_goals first
                | exact Lib.hid ⟨_, R1, ok', by rw [hok']; rfl, ⟨_, _, rfl, by first | exact Nat.zero_le _ | omega, HRW2.out⟩, HSR1.out, HXN.out, HTa.out, HWa.out⟩
                | exact Lib.hid ⟨_, R1, ok', by rw [hok']; rfl, ⟨_, _, rfl, by first | exact Nat.zero_le _ | omega, HRW2.out⟩, HSR1.out, HXN.out, HTb.out, HWb.out⟩
  case rest =>
  obtain ⟨fi, R2, ok2, rfl, ⟨off7, capoff7, rfl, hcap7, hrow⟩, hsr, hx, hht, hhw⟩ := hcut.out
  have HR7 := Lib.hid hrow
  have HT7 := Lib.hid hht
  have HW7 := Lib.hid hhw
  have HX7 := Lib.hid hx
  have HSR7 := Lib.hid hsr
  clear hrow hht hhw hx hsr hcut HOC HR HSR HT5 HW5 HX hcap
  obtain ⟨w7, rfl⟩ : ∃ x, x = wc := ⟨wc, rfl⟩
  obtain ⟨cb, hcb⟩ := opt_cases sDflt R2
  have HOC := Lib.hid hcb
  clear hcb
  go_upto_region 10 with fail
  go_cut [84] (fun s wx => s = .bool cb ∧ w7 = wx)
  case first =>
    rcases HOC.out with ⟨rfl, h | ⟨a1, b1, R1, e, hne⟩⟩ | ⟨rfl, b2, R1, e⟩
    · have hl1 : ¬ (1 : Int) < R2.length := by omega
      clear HOC h
      go_wp2_with fail
      go_meet
      exact ⟨rfl, rfl⟩
    · subst e
      have e0 : w7.cell? ⟨wb, off7, none⟩ = some (.string a1) := (HW7.out.cell (p := ⟨wb, off7, none⟩) hlt1).trans (row_hd HR7.out)
      simp only [List.length_cons] at *
      have hl1 : (1 : Int) < (R1.length : Int) + 1 + 1 := by omega
      have hl2 : (0 : Int) < (R1.length : Int) + 1 + 1 := by omega
      have hz5 := HW7.out.size
      have hwb5 : wb < w7.heap.size := by omega
      have hq : (a1.toList == [100, 101, 102, 97, 117, 108, 116]) = false := beqL hne rfl
      clear HOC hne
      go_wp2_with fail
      go_meet
      exact ⟨rfl, rfl⟩
    · subst e
      have e0 : w7.cell? ⟨wb, off7, none⟩ = some (.string sDflt) := (HW7.out.cell (p := ⟨wb, off7, none⟩) hlt1).trans (row_hd HR7.out)
      simp only [List.length_cons] at *
      have hl1 : (1 : Int) < (R1.length : Int) + 1 + 1 := by omega
      have hl2 : (0 : Int) < (R1.length : Int) + 1 + 1 := by omega
      have hz5 := HW7.out.size
      have hwb5 : wb < w7.heap.size := by omega
      unfold sDflt at e0
      clear HOC
      go_wp2_with fail
      go_meet
      exact ⟨rfl, rfl⟩
  case rest =>
  obtain ⟨rfl, rfl⟩ := hcut
  go_upto_if 84 with fail
  go_cut [0, 6] (fun s0 s6 wx => Hid (∃ (df : Int) (R3 : List ByteArray) (ok3 : Bool), s6 = .bool ok3 ∧ (∃ off cap, s0 = .slice (some ⟨wb, off, none⟩) R3.length cap ∧ R3.length ≤ cap ∧ RowS w1 wb off R3) ∧ (∀ x ∈ R3, x.size ≤ 200000) ∧ RES = (if 0 < gi then bk ok3 (t2 b gi nv fi df R3) else none) ∧ TBox wx bx 73 #[.string b, .int .i64 gi, .int .i64 nv, .int .i64 fi, .int .i64 df, .bool false, .slice none 0 0] ∧ Below w1.heap.size w1 wx))
  case first => as_aux_lemma =>
    rcases HOC.out with ⟨rfl, hsk⟩ | ⟨rfl, b2, R1, rfl⟩
    · have HX1 := Lib.hid (show RES = (if 0 < gi then bk ok2 (t2 b gi nv fi 0 R2) else none) from by rw [HX7.out, t1_eq, optW_skip hsk]; rfl)
      clear HOC hsk
      go_wp2_with fail
      go_meet
      exact Lib.hid ⟨0, R2, ok2, rfl, ⟨_, _, rfl, hcap7, HR7.out⟩, HSR7.out, HX1.out, HT7.out, HW7.out⟩
    · clear HOC
      have sb2 : b2.size ≤ 200000 := HSR7.out b2 (by simp)
      obtain ⟨n2, fg, hn1, hn2⟩ := rlread_f b2 (by omega)
      have CN := Lib.hid hn1
      have HSR1 := Lib.hid (show ∀ x ∈ R1, x.size ≤ 200000 from fun x hx => HSR7.out x (by simp [hx]))
      have HRW2 := Lib.hid (row_drop (row_drop HR7.out))
      have e0 : w7.cell? ⟨wb, off7, none⟩ = some (.string sDflt) := (HW7.out.cell (p := ⟨wb, off7, none⟩) hlt1).trans (row_hd HR7.out)
      simp only [List.length_cons] at *
      have hl1 : (1 : Int) < (R1.length : Int) + 1 + 1 := by omega
      have hl2 : (0 : Int) < (R1.length : Int) + 1 + 1 := by omega
      have hz5 := HW7.out.size
      have hwb5 : wb < w7.heap.size := by omega
      have e1 : w7.cell? ⟨wb, off7 + 1, none⟩ = some (.string b2) := (HW7.out.cell (p := ⟨wb, off7 + 1, none⟩) hlt1).trans (row_hd (row_drop HR7.out))
      unfold sDflt at e0
      clear hn1
      go_wp2_with fail
      refine (CN.out _).mono ?_
      rintro e1 w6 ⟨rfl, hb⟩
      have HW6 := Lib.hid (HW7.out.trans (hb.mono HW7.out.size))
      have HT6 := Lib.hid (HT7.out.below hb)
      clear hb CN e0 e1
      have hlt6 := HW6.out.size
      have BX := HT6.out
      have x0 := BX.cell (i := 0) rfl
      have y0 := BX.frozen 0
      have x1 := BX.cell (i := 1) rfl
      have y1 := BX.frozen 1
      have x2 := BX.cell (i := 2) rfl
      have y2 := BX.frozen 2
      have x3 := BX.cell (i := 3) rfl
      have y3 := BX.frozen 3
      have x4 := BX.cell (i := 4) rfl
      have y4 := BX.frozen 4
      have x5 := BX.cell (i := 5) rfl
      have y5 := BX.frozen 5
      have x6 := BX.cell (i := 6) rfl
      have y6 := BX.frozen 6
      have xl := BX.lt
      clear BX
      obtain ⟨ok', hok', HXN⟩ : ∃ ok' : Bool, ok' = (ok2 && ((fg == 0) && (n2 != 0))) ∧ Hid (RES = (if 0 < gi then bk ok' (t2 b gi nv fi n2 R1) else none)) := ⟨_, rfl, Lib.hid (by
        rw [HX7.out, t1_eq, optW_at, nzL_g hn2, bk_opt _ _ n2 R1 (fun m r => t2 b gi nv fi m r)])⟩
      have hfv := hn2
      clear hn2 HX7
      have HTa := Lib.hid (show TBox (w6.drew.setCell ⟨bx, 4, none⟩ (.int .i64 n2)) bx 73 #[.string b, .int .i64 gi, .int .i64 nv, .int .i64 fi, .int .i64 n2, .bool false, .slice none 0 0] from (show TBox w6.drew bx 73 #[.string b, .int .i64 gi, .int .i64 nv, .int .i64 fi, .int .i64 0, .bool false, .slice none 0 0] from HT6.out).set 4 _)
      have HTb := Lib.hid (show TBox (w6.setCell ⟨bx, 4, none⟩ (.int .i64 n2)).drew bx 73 #[.string b, .int .i64 gi, .int .i64 nv, .int .i64 fi, .int .i64 n2, .bool false, .slice none 0 0] from HT6.out.set 4 _)
      have HWa := Lib.hid (HW6.out.drew.setCell (p := ⟨bx, 4, none⟩) hbx (.int .i64 n2))
      have HWb := Lib.hid ((HW6.out.setCell (p := ⟨bx, 4, none⟩) hbx (.int .i64 n2)).drew)
      by_cases hR0 : R1.length = 0
      · have hR1 : R1 = [] := List.eq_nil_of_length_eq_zero hR0
        subst hR1
        cases ok2
        · go_upto_region 12 with fail
          go_region
          all_goals go_wp2_with fail
          all_goals go_meet
          all_goals first
            | exact Lib.hid ⟨_, [], ok', by rw [hok']; rfl, ⟨_, _, rfl, by first | exact Nat.zero_le _ | omega, (fun j hj => absurd hj (Nat.not_lt_zero _))⟩, HSR1.out, HXN.out, HTa.out, HWa.out⟩
            | exact Lib.hid ⟨_, [], ok', by rw [hok']; rfl, ⟨_, _, rfl, by first | exact Nat.zero_le _ | omega, (fun j hj => absurd hj (Nat.not_lt_zero _))⟩, HSR1.out, HXN.out, HTb.out, HWb.out⟩
        · rcases hfv with ⟨rfl, _⟩ | ⟨rfl, _⟩
          rotate_left
          · go_upto_region 12 with fail
            go_region
            all_goals go_wp2_with fail
            all_goals go_meet
            all_goals first
              | exact Lib.hid ⟨_, [], ok', by rw [hok']; rfl, ⟨_, _, rfl, by first | exact Nat.zero_le _ | omega, (fun j hj => absurd hj (Nat.not_lt_zero _))⟩, HSR1.out, HXN.out, HTa.out, HWa.out⟩
              | exact Lib.hid ⟨_, [], ok', by rw [hok']; rfl, ⟨_, _, rfl, by first | exact Nat.zero_le _ | omega, (fun j hj => absurd hj (Nat.not_lt_zero _))⟩, HSR1.out, HXN.out, HTb.out, HWb.out⟩
          · by_cases hz : n2 = 0
            · have hzb : (n2 != 0) = false := by rw [hz]; rfl
              rw [hzb] at hok'
              subst hz
              go_upto_region 12 with fail
              go_region
              all_goals go_wp2_with fail
              all_goals go_meet
              all_goals first
                | exact Lib.hid ⟨_, [], ok', by rw [hok']; rfl, ⟨_, _, rfl, by first | exact Nat.zero_le _ | omega, (fun j hj => absurd hj (Nat.not_lt_zero _))⟩, HSR1.out, HXN.out, HTa.out, HWa.out⟩
                | exact Lib.hid ⟨_, [], ok', by rw [hok']; rfl, ⟨_, _, rfl, by first | exact Nat.zero_le _ | omega, (fun j hj => absurd hj (Nat.not_lt_zero _))⟩, HSR1.out, HXN.out, HTb.out, HWb.out⟩
            · have hzb : (n2 != 0) = true := by simpa using hz
              rw [hzb] at hok'
              go_upto_region 12 with fail
              go_region
              all_goals go_wp2_with fail
              all_goals go_meet
              all_goals first
                | exact Lib.hid ⟨_, [], ok', by rw [hok']; rfl, ⟨_, _, rfl, by first | exact Nat.zero_le _ | omega, (fun j hj => absurd hj (Nat.not_lt_zero _))⟩, HSR1.out, HXN.out, HTa.out, HWa.out⟩
                | exact Lib.hid ⟨_, [], ok', by rw [hok']; rfl, ⟨_, _, rfl, by first | exact Nat.zero_le _ | omega, (fun j hj => absurd hj (Nat.not_lt_zero _))⟩, HSR1.out, HXN.out, HTb.out, HWb.out⟩
      · have hRi : ¬ (R1.length : Int) = 0 := by omega
        have hR2 : (0 : Int) < R1.length := by omega
        have hR3 : (0 : Int) ≤ R1.length := by omega
        cases ok2
        · go_upto_region 12 with fail
          go_region
          all_goals go_wp2_with fail
          all_goals go_meet
          all_goals first
            | exact Lib.hid ⟨_, R1, ok', by rw [hok']; rfl, ⟨_, _, rfl, by first | exact Nat.zero_le _ | omega, HRW2.out⟩, HSR1.out, HXN.out, HTa.out, HWa.out⟩
            | exact Lib.hid ⟨_, R1, ok', by rw [hok']; rfl, ⟨_, _, rfl, by first | exact Nat.zero_le _ | omega, HRW2.out⟩, HSR1.out, HXN.out, HTb.out, HWb.out⟩
        · rcases hfv with ⟨rfl, _⟩ | ⟨rfl, _⟩
          rotate_left
          · go_upto_region 12 with fail
            go_region
            all_goals go_wp2_with fail
            all_goals go_meet
            all_goals first
              | exact Lib.hid ⟨_, R1, ok', by rw [hok']; rfl, ⟨_, _, rfl, by first | exact Nat.zero_le _ | omega, HRW2.out⟩, HSR1.out, HXN.out, HTa.out, HWa.out⟩
              | exact Lib.hid ⟨_, R1, ok', by rw [hok']; rfl, ⟨_, _, rfl, by first | exact Nat.zero_le _ | omega, HRW2.out⟩, HSR1.out, HXN.out, HTb.out, HWb.out⟩
          · by_cases hz : n2 = 0
            · have hzb : (n2 != 0) = false := by rw [hz]; rfl
              rw [hzb] at hok'
              subst hz
              go_upto_region 12 with fail
              go_region
              all_goals go_wp2_with fail
              all_goals go_meet
              all_goals first
                | exact Lib.hid ⟨_, R1, ok', by rw [hok']; rfl, ⟨_, _, rfl, by first | exact Nat.zero_le _ | omega, HRW2.out⟩, HSR1.out, HXN.out, HTa.out, HWa.out⟩
                | exact Lib.hid ⟨_, R1, ok', by rw [hok']; rfl, ⟨_, _, rfl, by first | exact Nat.zero_le _ | omega, HRW2.out⟩, HSR1.out, HXN.out, HTb.out, HWb.out⟩
            · have hzb : (n2 != 0) = true := by simpa using hz
              rw [hzb] at hok'
              go_upto_region 12 with fail
              go_region
              all_goals go_wp2_with fail
              all_goals go_meet
              all_goals first
                | exact Lib.hid ⟨_, R1, ok', by rw [hok']; rfl, ⟨_, _, rfl, by first | exact Nat.zero_le _ | omega, HRW2.out⟩, HSR1.out, HXN.out, HTa.out, HWa.out⟩
                | exact Lib.hid ⟨_, R1, ok', by rw [hok']; rfl, ⟨_, _, rfl, by first | exact Nat.zero_le _ | omega, HRW2.out⟩, HSR1.out, HXN.out, HTb.out, HWb.out⟩
  case rest =>
  obtain ⟨df, R3, ok3, rfl, ⟨off9, capoff9, rfl, hcap9, hrow⟩, hsr, hx, hht, hhw⟩ := hcut.out
  have HR9 := Lib.hid hrow
  have HT9 := Lib.hid hht
  have HW9 := Lib.hid hhw
  have HX9 := Lib.hid hx
  have HSR9 := Lib.hid hsr
  clear hrow hht hhw hx hsr hcut HOC HR7 HSR7 HT7 HW7 HX7 hcap7
  obtain ⟨w9, rfl⟩ : ∃ x, x = wc := ⟨wc, rfl⟩
  obtain ⟨cb, hcb⟩ : ∃ cb : Bool, (cb = false ∧ (R3 = [] ∨ ∃ a R1, R3 = a :: R1 ∧ a ≠ sSnap)) ∨ (cb = true ∧ ∃ R1, R3 = sSnap :: R1) := by
    rcases R3 with _ | ⟨a, r⟩
    · exact ⟨false, .inl ⟨rfl, .inl rfl⟩⟩
    · by_cases h : a = sSnap
      · exact ⟨true, .inr ⟨rfl, r, by rw [h]⟩⟩
      · exact ⟨false, .inl ⟨rfl, .inr ⟨a, r, rfl, h⟩⟩⟩
  have HOC := Lib.hid hcb
  clear hcb
  go_upto_region 13 with fail
  go_cut [113] (fun s wx => s = .bool cb ∧ w9 = wx)
  case first =>
    rcases HOC.out with ⟨rfl, rfl | ⟨a1, R1, rfl, hne⟩⟩ | ⟨rfl, R1, rfl⟩
    · clear HOC
      go_wp2_with fail
      go_meet
      exact ⟨rfl, rfl⟩
    · have e0 : w9.cell? ⟨wb, off9, none⟩ = some (.string a1) := (HW9.out.cell (p := ⟨wb, off9, none⟩) hlt1).trans (row_hd HR9.out)
      have hq : (a1.toList == [115, 110, 97, 112]) = false := beqL hne rfl
      have hz9 := HW9.out.size
      have hwb5 : wb < w9.heap.size := by omega
      simp only [List.length_cons] at *
      have hl2 : (0 : Int) < (R1.length : Int) + 1 := by omega
      clear HOC hne
      go_wp2_with fail
      go_meet
      exact ⟨rfl, rfl⟩
    · have e0 : w9.cell? ⟨wb, off9, none⟩ = some (.string sSnap) := (HW9.out.cell (p := ⟨wb, off9, none⟩) hlt1).trans (row_hd HR9.out)
      unfold sSnap at e0
      have hz9 := HW9.out.size
      have hwb5 : wb < w9.heap.size := by omega
      simp only [List.length_cons] at *
      have hl2 : (0 : Int) < (R1.length : Int) + 1 := by omega
      clear HOC
      go_wp2_with fail
      go_meet
      exact ⟨rfl, rfl⟩
  case rest =>
  obtain ⟨rfl, rfl⟩ := hcut
  go_upto_if 113 with fail
  go_cut [0] (fun s0 wx => Hid (∃ (sn : Bool) (R4 : List ByteArray), (∃ ao cap, s0 = .slice ao R4.length cap) ∧ RES = (if 0 < gi then bk ok3 (if R4 = [] then some ⟨b, gi, nv, fi, df, sn, []⟩ else none) else none) ∧ TBox wx bx 73 #[.string b, .int .i64 gi, .int .i64 nv, .int .i64 fi, .int .i64 df, .bool sn, .slice none 0 0] ∧ Below w1.heap.size w1 wx))
  case first =>
    rcases HOC.out with ⟨rfl, hsk⟩ | ⟨rfl, R1, rfl⟩
    · have HX1 := Lib.hid (HX9.out.trans (by rw [snap_skip hsk]))
      clear HOC hsk
      go_wp2_with fail
      go_meet
      exact Lib.hid ⟨false, R3, ⟨_, _, rfl⟩, HX1.out, HT9.out, HW9.out⟩
    · have HX1 := Lib.hid (HX9.out.trans (by rw [snap_at]))
      have hz9 := HW9.out.size
      have HTa := Lib.hid (show TBox (w9.drew.setCell ⟨bx, 5, none⟩ (.bool true)) bx 73 #[.string b, .int .i64 gi, .int .i64 nv, .int .i64 fi, .int .i64 df, .bool true, .slice none 0 0] from (show TBox w9.drew bx 73 #[.string b, .int .i64 gi, .int .i64 nv, .int .i64 fi, .int .i64 df, .bool false, .slice none 0 0] from HT9.out).set 5 _)
      have HTb := Lib.hid (show TBox (w9.setCell ⟨bx, 5, none⟩ (.bool true)).drew bx 73 #[.string b, .int .i64 gi, .int .i64 nv, .int .i64 fi, .int .i64 df, .bool true, .slice none 0 0] from HT9.out.set 5 _)
      have HWa := Lib.hid (HW9.out.drew.setCell (p := ⟨bx, 5, none⟩) hbx (.bool true))
      have HWb := Lib.hid ((HW9.out.setCell (p := ⟨bx, 5, none⟩) hbx (.bool true)).drew)
      have BX := HT9.out
      have x0 := BX.cell (i := 0) rfl
      have y0 := BX.frozen 0
      have x1 := BX.cell (i := 1) rfl
      have y1 := BX.frozen 1
      have x2 := BX.cell (i := 2) rfl
      have y2 := BX.frozen 2
      have x3 := BX.cell (i := 3) rfl
      have y3 := BX.frozen 3
      have x4 := BX.cell (i := 4) rfl
      have y4 := BX.frozen 4
      have x5 := BX.cell (i := 5) rfl
      have y5 := BX.frozen 5
      have x6 := BX.cell (i := 6) rfl
      have y6 := BX.frozen 6
      have xl := BX.lt
      clear BX HOC
      simp only [List.length_cons] at *
      have hl2 : (0 : Int) < (R1.length : Int) + 1 := by omega
      have hc9 : (1 : Int) ≤ capoff9 := by omega
      go_upto_region 14 with fail
      go_region
      all_goals go_wp2_with fail
      all_goals go_meet
      all_goals first
        | exact Lib.hid ⟨true, R1, ⟨_, _, rfl⟩, HX1.out, HTa.out, HWa.out⟩
        | exact Lib.hid ⟨true, R1, ⟨_, _, rfl⟩, HX1.out, HTb.out, HWb.out⟩
  case rest =>
  obtain ⟨sn, R4, ⟨ao4, cap4, rfl⟩, hx, hht, hhw⟩ := hcut.out
  have HTF := Lib.hid hht
  have HWF := Lib.hid hhw
  have HXF := Lib.hid hx
  clear hht hhw hx hcut HOC HR9 HSR9 HT9 HW9 HX9 hcap9
  obtain ⟨wF, rfl⟩ : ∃ x, x = wc := ⟨wc, rfl⟩
  have BF := HTF.out
  have x0 := BF.cell (i := 0) rfl
  have y0 := BF.frozen 0
  have x1 := BF.cell (i := 1) rfl
  have y1 := BF.frozen 1
  have x2 := BF.cell (i := 2) rfl
  have y2 := BF.frozen 2
  have x3 := BF.cell (i := 3) rfl
  have y3 := BF.frozen 3
  have x4 := BF.cell (i := 4) rfl
  have y4 := BF.frozen 4
  have x5 := BF.cell (i := 5) rfl
  have y5 := BF.frozen 5
  have x6 := BF.cell (i := 6) rfl
  have y6 := BF.frozen 6
  have xl := BF.lt
  clear BF
  cases ok3
  · have HN := Lib.hid (show RES = none by rw [HXF.out, bk_f, ite_self])
    clear HXF
    have BX := B0.out.below HWF.out
    have q0 := BX.cell (i := 0) rfl
    have f0 := BX.frozen 0
    have q1 := BX.cell (i := 1) rfl
    have f1 := BX.frozen 1
    have q2 := BX.cell (i := 2) rfl
    have f2 := BX.frozen 2
    have q3 := BX.cell (i := 3) rfl
    have f3 := BX.frozen 3
    have q4 := BX.cell (i := 4) rfl
    have f4 := BX.frozen 4
    have q5 := BX.cell (i := 5) rfl
    have f5 := BX.frozen 5
    have q6 := BX.cell (i := 6) rfl
    have f6 := BX.frozen 6
    have ql := BX.lt
    have hlt9 := HWF.out.size
    have HY6 := Lib.hid (HB0.out.trans (HWF.out.mono HB0.out.size))
    go_wp2_with fail
    have BY : TBox (((((((wF.setCell ⟨w.heap.size, 0, none⟩ (.string b)).setCell ⟨w.heap.size, 1, none⟩ (.int .i64 gi)).setCell ⟨w.heap.size, 2, none⟩ (.int .i64 nv)).setCell ⟨w.heap.size, 3, none⟩ (.int .i64 fi)).setCell ⟨w.heap.size, 4, none⟩ (.int .i64 df)).setCell ⟨w.heap.size, 5, none⟩ (.bool sn)).setCell ⟨w.heap.size, 6, none⟩ (.slice none 0 0)) w.heap.size 73 #[.string b, .int .i64 gi, .int .i64 nv, .int .i64 fi, .int .i64 df, .bool sn, .slice none 0 0] := (((((((BX.set 0 (.string b)).set 1 (.int .i64 gi)).set 2 (.int .i64 nv)).set 3 (.int .i64 fi)).set 4 (.int .i64 df)).set 5 (.bool sn)).set 6 (.slice none 0 0))
    have HY : Below w.heap.size w (((((((wF.setCell ⟨w.heap.size, 0, none⟩ (.string b)).setCell ⟨w.heap.size, 1, none⟩ (.int .i64 gi)).setCell ⟨w.heap.size, 2, none⟩ (.int .i64 nv)).setCell ⟨w.heap.size, 3, none⟩ (.int .i64 fi)).setCell ⟨w.heap.size, 4, none⟩ (.int .i64 df)).setCell ⟨w.heap.size, 5, none⟩ (.bool sn)).setCell ⟨w.heap.size, 6, none⟩ (.slice none 0 0)) := (((((((HY6.out.setCell (Nat.le_refl _) (.string b)).setCell (Nat.le_refl _) (.int .i64 gi)).setCell (Nat.le_refl _) (.int .i64 nv)).setCell (Nat.le_refl _) (.int .i64 fi)).setCell (Nat.le_refl _) (.int .i64 df)).setCell (Nat.le_refl _) (.bool sn)).setCell (Nat.le_refl _) (.slice none 0 0))
    have R0 := BY.cell (i := 0) rfl
    have R1 := BY.cell (i := 1) rfl
    have R2 := BY.cell (i := 2) rfl
    have R3 := BY.cell (i := 3) rfl
    have R4 := BY.cell (i := 4) rfl
    have R5 := BY.cell (i := 5) rfl
    have R6 := BY.cell (i := 6) rfl
    generalize (((((((wF.setCell ⟨w.heap.size, 0, none⟩ (.string b)).setCell ⟨w.heap.size, 1, none⟩ (.int .i64 gi)).setCell ⟨w.heap.size, 2, none⟩ (.int .i64 nv)).setCell ⟨w.heap.size, 3, none⟩ (.int .i64 fi)).setCell ⟨w.heap.size, 4, none⟩ (.int .i64 df)).setCell ⟨w.heap.size, 5, none⟩ (.bool sn)).setCell ⟨w.heap.size, 6, none⟩ (.slice none 0 0)) = W9 at *
    exact bodyPost_ret (v := .tuple #[.agg #[.string b, .int .i64 gi, .int .i64 nv, .int .i64 fi, .int .i64 df, .bool sn, .slice none 0 0], .bool false]) (by simp [results, Tryz.results66, go_sem, R0, R1, R2, R3, R4, R5, R6]) rfl (HPO.out _ _ ⟨⟨b, gi, nv, fi, df, sn, []⟩, rfl, by rw [HN.out]; rfl, fun r h => (by rw [HN.out] at h; cases h), HY⟩)
  by_cases hgi : 0 < gi
  rotate_left
  · have HN := Lib.hid (show RES = none by rw [HXF.out, if_neg hgi])
    clear HXF
    have BX := B0.out.below HWF.out
    have q0 := BX.cell (i := 0) rfl
    have f0 := BX.frozen 0
    have q1 := BX.cell (i := 1) rfl
    have f1 := BX.frozen 1
    have q2 := BX.cell (i := 2) rfl
    have f2 := BX.frozen 2
    have q3 := BX.cell (i := 3) rfl
    have f3 := BX.frozen 3
    have q4 := BX.cell (i := 4) rfl
    have f4 := BX.frozen 4
    have q5 := BX.cell (i := 5) rfl
    have f5 := BX.frozen 5
    have q6 := BX.cell (i := 6) rfl
    have f6 := BX.frozen 6
    have ql := BX.lt
    have hlt9 := HWF.out.size
    have HY6 := Lib.hid (HB0.out.trans (HWF.out.mono HB0.out.size))
    go_wp2_with fail
    have BY : TBox (((((((wF.setCell ⟨w.heap.size, 0, none⟩ (.string b)).setCell ⟨w.heap.size, 1, none⟩ (.int .i64 gi)).setCell ⟨w.heap.size, 2, none⟩ (.int .i64 nv)).setCell ⟨w.heap.size, 3, none⟩ (.int .i64 fi)).setCell ⟨w.heap.size, 4, none⟩ (.int .i64 df)).setCell ⟨w.heap.size, 5, none⟩ (.bool sn)).setCell ⟨w.heap.size, 6, none⟩ (.slice none 0 0)) w.heap.size 73 #[.string b, .int .i64 gi, .int .i64 nv, .int .i64 fi, .int .i64 df, .bool sn, .slice none 0 0] := (((((((BX.set 0 (.string b)).set 1 (.int .i64 gi)).set 2 (.int .i64 nv)).set 3 (.int .i64 fi)).set 4 (.int .i64 df)).set 5 (.bool sn)).set 6 (.slice none 0 0))
    have HY : Below w.heap.size w (((((((wF.setCell ⟨w.heap.size, 0, none⟩ (.string b)).setCell ⟨w.heap.size, 1, none⟩ (.int .i64 gi)).setCell ⟨w.heap.size, 2, none⟩ (.int .i64 nv)).setCell ⟨w.heap.size, 3, none⟩ (.int .i64 fi)).setCell ⟨w.heap.size, 4, none⟩ (.int .i64 df)).setCell ⟨w.heap.size, 5, none⟩ (.bool sn)).setCell ⟨w.heap.size, 6, none⟩ (.slice none 0 0)) := (((((((HY6.out.setCell (Nat.le_refl _) (.string b)).setCell (Nat.le_refl _) (.int .i64 gi)).setCell (Nat.le_refl _) (.int .i64 nv)).setCell (Nat.le_refl _) (.int .i64 fi)).setCell (Nat.le_refl _) (.int .i64 df)).setCell (Nat.le_refl _) (.bool sn)).setCell (Nat.le_refl _) (.slice none 0 0))
    have R0 := BY.cell (i := 0) rfl
    have R1 := BY.cell (i := 1) rfl
    have R2 := BY.cell (i := 2) rfl
    have R3 := BY.cell (i := 3) rfl
    have R4 := BY.cell (i := 4) rfl
    have R5 := BY.cell (i := 5) rfl
    have R6 := BY.cell (i := 6) rfl
    generalize (((((((wF.setCell ⟨w.heap.size, 0, none⟩ (.string b)).setCell ⟨w.heap.size, 1, none⟩ (.int .i64 gi)).setCell ⟨w.heap.size, 2, none⟩ (.int .i64 nv)).setCell ⟨w.heap.size, 3, none⟩ (.int .i64 fi)).setCell ⟨w.heap.size, 4, none⟩ (.int .i64 df)).setCell ⟨w.heap.size, 5, none⟩ (.bool sn)).setCell ⟨w.heap.size, 6, none⟩ (.slice none 0 0)) = W9 at *
    exact bodyPost_ret (v := .tuple #[.agg #[.string b, .int .i64 gi, .int .i64 nv, .int .i64 fi, .int .i64 df, .bool sn, .slice none 0 0], .bool false]) (by simp [results, Tryz.results66, go_sem, R0, R1, R2, R3, R4, R5, R6]) rfl (HPO.out _ _ ⟨⟨b, gi, nv, fi, df, sn, []⟩, rfl, by rw [HN.out]; rfl, fun r h => (by rw [HN.out] at h; cases h), HY⟩)
  rcases R4 with _ | ⟨c4, R5⟩
  · have HN := Lib.hid (show RES = some ⟨b, gi, nv, fi, df, sn, []⟩ by rw [HXF.out, if_pos hgi, bk_t, if_pos rfl])
    clear HXF
    have BX := B0.out.below HWF.out
    have q0 := BX.cell (i := 0) rfl
    have f0 := BX.frozen 0
    have q1 := BX.cell (i := 1) rfl
    have f1 := BX.frozen 1
    have q2 := BX.cell (i := 2) rfl
    have f2 := BX.frozen 2
    have q3 := BX.cell (i := 3) rfl
    have f3 := BX.frozen 3
    have q4 := BX.cell (i := 4) rfl
    have f4 := BX.frozen 4
    have q5 := BX.cell (i := 5) rfl
    have f5 := BX.frozen 5
    have q6 := BX.cell (i := 6) rfl
    have f6 := BX.frozen 6
    have ql := BX.lt
    have hlt9 := HWF.out.size
    have HY6 := Lib.hid (HB0.out.trans (HWF.out.mono HB0.out.size))
    go_wp2_with fail
    have BY : TBox (((((((wF.setCell ⟨w.heap.size, 0, none⟩ (.string b)).setCell ⟨w.heap.size, 1, none⟩ (.int .i64 gi)).setCell ⟨w.heap.size, 2, none⟩ (.int .i64 nv)).setCell ⟨w.heap.size, 3, none⟩ (.int .i64 fi)).setCell ⟨w.heap.size, 4, none⟩ (.int .i64 df)).setCell ⟨w.heap.size, 5, none⟩ (.bool sn)).setCell ⟨w.heap.size, 6, none⟩ (.slice none 0 0)) w.heap.size 73 #[.string b, .int .i64 gi, .int .i64 nv, .int .i64 fi, .int .i64 df, .bool sn, .slice none 0 0] := (((((((BX.set 0 (.string b)).set 1 (.int .i64 gi)).set 2 (.int .i64 nv)).set 3 (.int .i64 fi)).set 4 (.int .i64 df)).set 5 (.bool sn)).set 6 (.slice none 0 0))
    have HY : Below w.heap.size w (((((((wF.setCell ⟨w.heap.size, 0, none⟩ (.string b)).setCell ⟨w.heap.size, 1, none⟩ (.int .i64 gi)).setCell ⟨w.heap.size, 2, none⟩ (.int .i64 nv)).setCell ⟨w.heap.size, 3, none⟩ (.int .i64 fi)).setCell ⟨w.heap.size, 4, none⟩ (.int .i64 df)).setCell ⟨w.heap.size, 5, none⟩ (.bool sn)).setCell ⟨w.heap.size, 6, none⟩ (.slice none 0 0)) := (((((((HY6.out.setCell (Nat.le_refl _) (.string b)).setCell (Nat.le_refl _) (.int .i64 gi)).setCell (Nat.le_refl _) (.int .i64 nv)).setCell (Nat.le_refl _) (.int .i64 fi)).setCell (Nat.le_refl _) (.int .i64 df)).setCell (Nat.le_refl _) (.bool sn)).setCell (Nat.le_refl _) (.slice none 0 0))
    have R0 := BY.cell (i := 0) rfl
    have R1 := BY.cell (i := 1) rfl
    have R2 := BY.cell (i := 2) rfl
    have R3 := BY.cell (i := 3) rfl
    have R4 := BY.cell (i := 4) rfl
    have R5 := BY.cell (i := 5) rfl
    have R6 := BY.cell (i := 6) rfl
    generalize (((((((wF.setCell ⟨w.heap.size, 0, none⟩ (.string b)).setCell ⟨w.heap.size, 1, none⟩ (.int .i64 gi)).setCell ⟨w.heap.size, 2, none⟩ (.int .i64 nv)).setCell ⟨w.heap.size, 3, none⟩ (.int .i64 fi)).setCell ⟨w.heap.size, 4, none⟩ (.int .i64 df)).setCell ⟨w.heap.size, 5, none⟩ (.bool sn)).setCell ⟨w.heap.size, 6, none⟩ (.slice none 0 0)) = W9 at *
    exact bodyPost_ret (v := .tuple #[.agg #[.string b, .int .i64 gi, .int .i64 nv, .int .i64 fi, .int .i64 df, .bool sn, .slice none 0 0], .bool true]) (by simp [results, Tryz.results66, go_sem, R0, R1, R2, R3, R4, R5, R6]) rfl (HPO.out _ _ ⟨⟨b, gi, nv, fi, df, sn, []⟩, rfl, by rw [HN.out]; rfl, fun r h => (by rw [HN.out] at h; exact (Option.some.inj h).symm), HY⟩)
  · have HN := Lib.hid (show RES = none by rw [HXF.out, if_pos hgi, bk_t, if_neg (by simp)])
    simp only [List.length_cons] at *
    have hl5 : ¬ ((R5.length : Int) + 1 = 0) := by omega
    have hl6 : (((R5.length : Int) + 1) == 0) = false := by simpa using hl5
    clear HXF
    have BX := B0.out.below HWF.out
    have q0 := BX.cell (i := 0) rfl
    have f0 := BX.frozen 0
    have q1 := BX.cell (i := 1) rfl
    have f1 := BX.frozen 1
    have q2 := BX.cell (i := 2) rfl
    have f2 := BX.frozen 2
    have q3 := BX.cell (i := 3) rfl
    have f3 := BX.frozen 3
    have q4 := BX.cell (i := 4) rfl
    have f4 := BX.frozen 4
    have q5 := BX.cell (i := 5) rfl
    have f5 := BX.frozen 5
    have q6 := BX.cell (i := 6) rfl
    have f6 := BX.frozen 6
    have ql := BX.lt
    have hlt9 := HWF.out.size
    have HY6 := Lib.hid (HB0.out.trans (HWF.out.mono HB0.out.size))
    go_wp2_with fail
    have BY : TBox (((((((wF.setCell ⟨w.heap.size, 0, none⟩ (.string b)).setCell ⟨w.heap.size, 1, none⟩ (.int .i64 gi)).setCell ⟨w.heap.size, 2, none⟩ (.int .i64 nv)).setCell ⟨w.heap.size, 3, none⟩ (.int .i64 fi)).setCell ⟨w.heap.size, 4, none⟩ (.int .i64 df)).setCell ⟨w.heap.size, 5, none⟩ (.bool sn)).setCell ⟨w.heap.size, 6, none⟩ (.slice none 0 0)) w.heap.size 73 #[.string b, .int .i64 gi, .int .i64 nv, .int .i64 fi, .int .i64 df, .bool sn, .slice none 0 0] := (((((((BX.set 0 (.string b)).set 1 (.int .i64 gi)).set 2 (.int .i64 nv)).set 3 (.int .i64 fi)).set 4 (.int .i64 df)).set 5 (.bool sn)).set 6 (.slice none 0 0))
    have HY : Below w.heap.size w (((((((wF.setCell ⟨w.heap.size, 0, none⟩ (.string b)).setCell ⟨w.heap.size, 1, none⟩ (.int .i64 gi)).setCell ⟨w.heap.size, 2, none⟩ (.int .i64 nv)).setCell ⟨w.heap.size, 3, none⟩ (.int .i64 fi)).setCell ⟨w.heap.size, 4, none⟩ (.int .i64 df)).setCell ⟨w.heap.size, 5, none⟩ (.bool sn)).setCell ⟨w.heap.size, 6, none⟩ (.slice none 0 0)) := (((((((HY6.out.setCell (Nat.le_refl _) (.string b)).setCell (Nat.le_refl _) (.int .i64 gi)).setCell (Nat.le_refl _) (.int .i64 nv)).setCell (Nat.le_refl _) (.int .i64 fi)).setCell (Nat.le_refl _) (.int .i64 df)).setCell (Nat.le_refl _) (.bool sn)).setCell (Nat.le_refl _) (.slice none 0 0))
    have R0 := BY.cell (i := 0) rfl
    have R1 := BY.cell (i := 1) rfl
    have R2 := BY.cell (i := 2) rfl
    have R3 := BY.cell (i := 3) rfl
    have R4 := BY.cell (i := 4) rfl
    have R5 := BY.cell (i := 5) rfl
    have R6 := BY.cell (i := 6) rfl
    generalize (((((((wF.setCell ⟨w.heap.size, 0, none⟩ (.string b)).setCell ⟨w.heap.size, 1, none⟩ (.int .i64 gi)).setCell ⟨w.heap.size, 2, none⟩ (.int .i64 nv)).setCell ⟨w.heap.size, 3, none⟩ (.int .i64 fi)).setCell ⟨w.heap.size, 4, none⟩ (.int .i64 df)).setCell ⟨w.heap.size, 5, none⟩ (.bool sn)).setCell ⟨w.heap.size, 6, none⟩ (.slice none 0 0)) = W9 at *
    exact bodyPost_ret (v := .tuple #[.agg #[.string b, .int .i64 gi, .int .i64 nv, .int .i64 fi, .int .i64 df, .bool sn, .slice none 0 0], .bool false]) (by simp [results, Tryz.results66, go_sem, R0, R1, R2, R3, R4, R5, R6]) rfl (HPO.out _ _ ⟨⟨b, gi, nv, fi, df, sn, []⟩, rfl, by rw [HN.out]; rfl, fun r h => (by rw [HN.out] at h; cases h), HY⟩)

end Go.Proofs.YtppbagllhmeenaaGreatDoor
