/- fixture.readParam at any line. (printed by wip/gen/gen_libparam.py) -/
import Derived.Test.YtppbagllhmeenaaGreatDoorT68M25

namespace Go.Proofs.YtppbagllhmeenaaGreatDoor
open Go.RowKit
open Go.ChangeShapes
set_option linter.unusedVariables false
set_option linter.unusedSimpArgs false

/-- what readParam hands back -/
def RdP (o : Option Par) (w : World) (e : Ending) (w' : World) : Prop :=
  ∃ x : Par, x.rngs = [] ∧ e = .returned (.tuple #[.agg #[.string x.name, .int .i64 x.grp, .int .i64 x.sl, .int .i64 x.fine, .int .i64 x.dflt, .bool x.snap, .slice none 0 0], .bool o.isSome]) ∧ (∀ r, o = some r → r = x) ∧ Below w.heap.size w w'
theorem beqF {s t : ByteArray} (h : s ≠ t) : (s.toList == t.toList) = false := beq_eq_false_iff_ne.2 (fun e => h (ByteArray.ext (Array.toList_inj.1 (by rw [← Lib.toList_data, ← Lib.toList_data]; exact e))))
theorem beqL {s t : ByteArray} {l : List UInt8} (h : s ≠ t) (ht : t.data.toList = l) : (s.toList == l) = false := by
  rw [← ht, ← Lib.toList_data]
  exact beqF h
theorem beqT {s t : ByteArray} (h : s = t) : (s.toList == t.toList) = true := by rw [h]; simp
theorem parW_short {L : List ByteArray} (h : L.length < 4) : parW L = none := by
  match L, h with
  | [], _ => rfl
  | [_], _ => rfl
  | [_, _], _ => rfl
  | [_, _, _], _ => rfl
theorem flist4 {L : List ByteArray} (h : ¬ L.length < 4) : ∃ a b c d R, L = a :: b :: c :: d :: R := by
  match L, h with
  | a :: b :: c :: d :: R, _ => exact ⟨a, b, c, d, R, rfl⟩
  | [], h => simp at h
  | [_], h => simp at h
  | [_, _], h => simp at h
  | [_, _, _], h => simp at h
/-- the last of the first groups whose word it is -/
def gk (a : ByteArray) : Nat → Int
  | 0 => 0
  | 1 => 0
  | k + 2 => if grpT ((k : Int) + 1) = a then (k : Int) + 1 else gk a (k + 1)
theorem gk_step {a : ByteArray} {k : Nat} (h : 1 ≤ k) : gk a (k + 1) = if grpT (k : Int) = a then (k : Int) else gk a k := by
  obtain ⟨j, rfl⟩ : ∃ j, k = j + 1 := ⟨k - 1, by omega⟩
  rfl
theorem gk_all (a : ByteArray) : gk a 5 = grpW a := by
  by_cases h1 : a = grpT 1
  · subst h1; decide
  by_cases h2 : a = grpT 2
  · subst h2; decide
  by_cases h3 : a = grpT 3
  · subst h3; decide
  by_cases h4 : a = grpT 4
  · subst h4; decide
  have e : ∀ k : Int, a ≠ grpT k → ¬ grpT k = a := fun k h e => h e.symm
  rw [gk_step (k := 4) (by omega), if_neg (show ¬ grpT ((4 : Nat) : Int) = a from e _ h4), gk_step (k := 3) (by omega), if_neg (show ¬ grpT ((3 : Nat) : Int) = a from e _ h3), gk_step (k := 2) (by omega), if_neg (show ¬ grpT ((2 : Nat) : Int) = a from e _ h2), gk_step (k := 1) (by omega), if_neg (show ¬ grpT ((1 : Nat) : Int) = a from e _ h1)]
  unfold grpW
  rw [if_neg h1, if_neg h2, if_neg h3, if_neg h4]
  rfl
/-- word.Number, its number and flag apart -/
theorem num_f (s : ByteArray) (hn : s.size ≤ 9223372036854775807) : ∃ (x : Int) (f : Bool), (∀ w, Calls Tryz.prog 21 #[.string s] w fun e w' => e = .returned (.tuple #[.int .i64 x, .bool f]) ∧ Below w.heap.size w w') ∧ ((f = true ∧ nbW s = some x) ∨ (f = false ∧ nbW s = none)) := by
  cases h : nbW s with
  | none => exact ⟨0, false, fun w => by have := number_any s w hn; rw [h] at this; exact this, .inr ⟨rfl, rfl⟩⟩
  | some v => exact ⟨v, true, fun w => by have := number_any s w hn; rw [h] at this; exact this, .inl ⟨rfl, rfl⟩⟩
theorem optW_two (k : ByteArray) (f : ByteArray → Option Int) (a b : ByteArray) (r : List ByteArray) : optW k f (a :: b :: r) = if a = k then (f b).map fun n => (n, r) else some (0, a :: b :: r) := rfl
theorem optW_none {k : ByteArray} {f : ByteArray → Option Int} {R : List ByteArray} (h : optW k f R = none) : ∃ b R1, R = k :: b :: R1 ∧ f b = none := by
  rcases R with _ | ⟨a, _ | ⟨b, r⟩⟩
  · cases h
  · cases h
  · rw [optW_two] at h
    by_cases hk : a = k
    · rw [if_pos hk] at h
      subst hk
      exact ⟨b, r, rfl, by simpa using h⟩
    · rw [if_neg hk] at h; cases h
theorem optW_some {k : ByteArray} {f : ByteArray → Option Int} {R R' : List ByteArray} {n : Int} (h : optW k f R = some (n, R')) : (n = 0 ∧ R' = R ∧ (R.length < 2 ∨ ∃ a b R1, R = a :: b :: R1 ∧ a ≠ k)) ∨ ∃ b, R = k :: b :: R' ∧ f b = some n := by
  rcases R with _ | ⟨a, _ | ⟨b, r⟩⟩
  · injection h with h; injection h with h1 h2; exact .inl ⟨h1.symm, h2.symm, .inl (by simp)⟩
  · injection h with h; injection h with h1 h2; exact .inl ⟨h1.symm, h2.symm, .inl (by simp)⟩
  · rw [optW_two] at h
    by_cases hk : a = k
    · rw [if_pos hk] at h
      subst hk
      obtain ⟨m, h1, h2⟩ := Option.map_eq_some_iff.1 h
      injection h2 with h2 h3
      subst h2 h3
      exact .inr ⟨b, rfl, h1⟩
    · rw [if_neg hk] at h
      injection h with h
      injection h with h1 h2
      exact .inl ⟨h1.symm, h2.symm, .inr ⟨a, b, r, rfl, hk⟩⟩
theorem nzN_none {s : ByteArray} {x : Int} {f : Bool} (h : (f = true ∧ nbW s = some x) ∨ (f = false ∧ nbW s = none)) (hn : nzN s = none) : f = false ∨ x = 0 := by
  rcases h with ⟨rfl, h⟩ | ⟨rfl, h⟩
  · right
    unfold nzN at hn
    rw [h] at hn
    simp only [Option.bind_some] at hn
    split at hn
    · assumption
    · cases hn
  · exact .inl rfl
theorem nzN_some {s : ByteArray} {x n : Int} {f : Bool} (h : (f = true ∧ nbW s = some x) ∨ (f = false ∧ nbW s = none)) (hn : nzN s = some n) : f = true ∧ x = n ∧ ¬ n = 0 := by
  unfold nzN at hn
  rcases h with ⟨rfl, h⟩ | ⟨rfl, h⟩
  · rw [h] at hn
    simp only [Option.bind_some] at hn
    split at hn
    · cases hn
    · rename_i h0
      injection hn with hn
      subst hn
      exact ⟨rfl, rfl, h0⟩
  · rw [h] at hn; cases hn
theorem nzL_none {s : ByteArray} {x f : Int} (h : (f = 0 ∧ lvW s = some x) ∨ (f = 9 ∧ lvW s = none)) (hn : nzL s = none) : f = 9 ∨ (f = 0 ∧ x = 0) := by
  rcases h with ⟨rfl, h⟩ | ⟨rfl, h⟩
  · right
    unfold nzL at hn
    rw [h] at hn
    simp only [Option.bind_some] at hn
    split at hn
    · exact ⟨rfl, by assumption⟩
    · cases hn
  · exact .inl rfl
theorem nzL_some {s : ByteArray} {x n f : Int} (h : (f = 0 ∧ lvW s = some x) ∨ (f = 9 ∧ lvW s = none)) (hn : nzL s = some n) : f = 0 ∧ x = n ∧ ¬ n = 0 := by
  unfold nzL at hn
  rcases h with ⟨rfl, h⟩ | ⟨rfl, h⟩
  · rw [h] at hn
    simp only [Option.bind_some] at hn
    split at hn
    · cases hn
    · rename_i h0
      injection hn with hn
      subst hn
      exact ⟨rfl, rfl, h0⟩
  · rw [h] at hn; cases hn
/-- what is still to be read of a parameter -/
noncomputable def t1 (n : ByteArray) (g t : Int) (fi : Int) (R : List ByteArray) : Option Par := (optW sDflt nzL R).bind fun y => (snapW y.2).map fun z => ⟨n, g, t, fi, y.1, z, []⟩
noncomputable def t2 (n : ByteArray) (g t : Int) (fi df : Int) (R : List ByteArray) : Option Par := (snapW R).map fun z => ⟨n, g, t, fi, df, z, []⟩
theorem parW_four (a b c d : ByteArray) (R : List ByteArray) : parW (a :: b :: c :: d :: R) = if rowB b.data.toList = true ∧ c = sAt ∧ grpW a ≠ 0 then (nbW d).bind fun k => tailW (grpW a) b k R else none := rfl
theorem tail_eq (g : Int) (n : ByteArray) (t : Int) (R : List ByteArray) : tailW g n t R = (optW sFine nzN R).bind fun x => t1 n g t x.1 x.2 := rfl
theorem t1_eq (n : ByteArray) (g t fi : Int) (R : List ByteArray) : t1 n g t fi R = (optW sDflt nzL R).bind fun y => t2 n g t fi y.1 y.2 := rfl
theorem row_drop {w : World} {b off : Nat} {a : ByteArray} {R : List ByteArray} (h : RowS w b off (a :: R)) : RowS w b (off + 1) R := by
  intro j hj
  have := h (j + 1) (by simpa using hj)
  rw [show off + 1 + j = off + (j + 1) by omega]
  exact this
theorem row_hd {w : World} {b off : Nat} {a : ByteArray} {R : List ByteArray} (h : RowS w b off (a :: R)) : w.cell? ⟨b, off, none⟩ = some (.string a) := h 0 (by simp)
theorem nz_some {f : ByteArray → Option Int} {x : Int} {s : ByteArray} (h : f s = some x) (hx : ¬ x = 0) : ((f s).bind fun n => if n = 0 then none else some n) = some x := by
  rw [h]; simp only [Option.bind_some]; rw [if_neg hx]
theorem nz_none {f : ByteArray → Option Int} {s : ByteArray} (h : f s = none ∨ f s = some 0) : ((f s).bind fun n => if n = 0 then none else some n) = none := by
  rcases h with h | h <;> rw [h] <;> simp

set_option maxRecDepth 100000 in
set_option maxHeartbeats 16000000 in
theorem readParam_any (s : ByteArray) (w : World) (hT : TextW w) (hn : s.size ≤ 200000) :
    Calls Tryz.prog 38 #[.string s] w (RdP (parW (wordsB 32 s)) w) := by
  have HPO := Lib.hid (show ∀ e w', (∃ x : Par, x.rngs = [] ∧ e = .returned (.tuple #[.agg #[.string x.name, .int .i64 x.grp, .int .i64 x.sl, .int .i64 x.fine, .int .i64 x.dflt, .bool x.snap, .slice none 0 0], .bool (parW (wordsB 32 s)).isSome]) ∧ (∀ r, parW (wordsB 32 s) = some r → r = x) ∧ Below w.heap.size w w') → RdP (parW (wordsB 32 s)) w e w' from fun e w' h => h)
  have CS := Lib.hid (fun W (hb : Below w.heap.size w W) => split_any 32 s W (hT.below hb) (by omega))
  have HWS := Lib.hid (fun x hx => Nat.le_trans (wordsB_size 32 s x hx) hn)
  have hwle : (wordsB 32 s).length ≤ 200001 := by have := wordsB_le 32 s; omega
  unfold SplitPost at CS
  generalize RdP (parW (wordsB 32 s)) w = PO at *
  generalize wordsB 32 s = L at *
  clear hT hn
  have HB0 := Lib.hid (show Below w.heap.size w (w.alloc (.cells #[.string ⟨#[]⟩, .int .i64 0, .int .i64 0, .int .i64 0, .int .i64 0, .bool false, .slice none 0 0] 73)) from (Below.refl _ _).alloc (Nat.le_refl _) _)
  have B0 := Lib.hid (TBox.new w #[.string ⟨#[]⟩, .int .i64 0, .int .i64 0, .int .i64 0, .int .i64 0, .bool false, .slice none 0 0] 73)
  go_enter Tryz.func38, Tryz.ntmps38
  go_upto_region 1 with fail
  obtain ⟨w1, hw1⟩ : ∃ w1 : World, w1 = w.alloc (.cells #[.string ⟨#[]⟩, .int .i64 0, .int .i64 0, .int .i64 0, .int .i64 0, .bool false, .slice none 0 0] 73) := ⟨_, rfl⟩
  rw [← hw1] at HB0 B0 ⊢
  clear hw1
  go_wp2_with fail
  refine (CS.out _ HB0.out).mono ?_
  rintro e1 w2 ⟨rfl, hr, hb, hlt2⟩
  have HB2 := Lib.hid (HB0.out.trans (hb.mono HB0.out.size))
  have B2 := Lib.hid (B0.out.below hb)
  have hb2l := B2.out.lt
  clear hb CS HB0 B0
  by_cases h4 : L.length < 4
  · have HN := Lib.hid (parW_short h4)
    have h4i : ((L.length : Nat) : Int) < 4 := by omega
    clear hr h4 HWS
    have BX := B2.out
    have q0 := BX.cell (i := 0) rfl
    have f0 := BX.frozen 0
    have q1 := BX.cell (i := 1) rfl
    have f1 := BX.frozen 1
    have q2 := BX.cell (i := 2) rfl
    have f2 := BX.frozen 2
    have q3 := BX.cell (i := 3) rfl
    have f3 := BX.frozen 3
    have q4 := BX.cell (i := 4) rfl
    have f4 := BX.frozen 4
    have q5 := BX.cell (i := 5) rfl
    have f5 := BX.frozen 5
    have q6 := BX.cell (i := 6) rfl
    have f6 := BX.frozen 6
    have ql := BX.lt
    go_wp2_with fail
    have BY : TBox (((((((w2.setCell ⟨w.heap.size, 0, none⟩ (.string ⟨#[]⟩)).setCell ⟨w.heap.size, 1, none⟩ (.int .i64 0)).setCell ⟨w.heap.size, 2, none⟩ (.int .i64 0)).setCell ⟨w.heap.size, 3, none⟩ (.int .i64 0)).setCell ⟨w.heap.size, 4, none⟩ (.int .i64 0)).setCell ⟨w.heap.size, 5, none⟩ (.bool false)).setCell ⟨w.heap.size, 6, none⟩ (.slice none 0 0)) w.heap.size 73 #[.string ⟨#[]⟩, .int .i64 0, .int .i64 0, .int .i64 0, .int .i64 0, .bool false, .slice none 0 0] := (((((((BX.set 0 (.string ⟨#[]⟩)).set 1 (.int .i64 0)).set 2 (.int .i64 0)).set 3 (.int .i64 0)).set 4 (.int .i64 0)).set 5 (.bool false)).set 6 (.slice none 0 0))
    have HY : Below w.heap.size w (((((((w2.setCell ⟨w.heap.size, 0, none⟩ (.string ⟨#[]⟩)).setCell ⟨w.heap.size, 1, none⟩ (.int .i64 0)).setCell ⟨w.heap.size, 2, none⟩ (.int .i64 0)).setCell ⟨w.heap.size, 3, none⟩ (.int .i64 0)).setCell ⟨w.heap.size, 4, none⟩ (.int .i64 0)).setCell ⟨w.heap.size, 5, none⟩ (.bool false)).setCell ⟨w.heap.size, 6, none⟩ (.slice none 0 0)) := (((((((HB2.out.setCell (Nat.le_refl _) (.string ⟨#[]⟩)).setCell (Nat.le_refl _) (.int .i64 0)).setCell (Nat.le_refl _) (.int .i64 0)).setCell (Nat.le_refl _) (.int .i64 0)).setCell (Nat.le_refl _) (.int .i64 0)).setCell (Nat.le_refl _) (.bool false)).setCell (Nat.le_refl _) (.slice none 0 0))
    have R0 := BY.cell (i := 0) rfl
    have R1 := BY.cell (i := 1) rfl
    have R2 := BY.cell (i := 2) rfl
    have R3 := BY.cell (i := 3) rfl
    have R4 := BY.cell (i := 4) rfl
    have R5 := BY.cell (i := 5) rfl
    have R6 := BY.cell (i := 6) rfl
    generalize (((((((w2.setCell ⟨w.heap.size, 0, none⟩ (.string ⟨#[]⟩)).setCell ⟨w.heap.size, 1, none⟩ (.int .i64 0)).setCell ⟨w.heap.size, 2, none⟩ (.int .i64 0)).setCell ⟨w.heap.size, 3, none⟩ (.int .i64 0)).setCell ⟨w.heap.size, 4, none⟩ (.int .i64 0)).setCell ⟨w.heap.size, 5, none⟩ (.bool false)).setCell ⟨w.heap.size, 6, none⟩ (.slice none 0 0)) = W9 at *
    exact bodyPost_ret (v := .tuple #[.agg #[.string ⟨#[]⟩, .int .i64 0, .int .i64 0, .int .i64 0, .int .i64 0, .bool false, .slice none 0 0], .bool false]) (by simp [results, Tryz.results38, go_sem, R0, R1, R2, R3, R4, R5, R6]) rfl (HPO.out _ _ ⟨⟨⟨#[]⟩, 0, 0, 0, 0, false, []⟩, rfl, by rw [HN.out]; rfl, fun r h => (by rw [HN.out] at h; cases h), HY⟩)
  obtain ⟨a, b, c, d, R, rfl⟩ := flist4 h4
  have r0 : w2.cell? ⟨w1.heap.size, 0, none⟩ = some (.string a) := hr 0 (by simp)
  have r1 : w2.cell? ⟨w1.heap.size, 1, none⟩ = some (.string b) := hr 1 (by simp)
  have r2 : w2.cell? ⟨w1.heap.size, 2, none⟩ = some (.string c) := hr 2 (by simp)
  have r3 : w2.cell? ⟨w1.heap.size, 3, none⟩ = some (.string d) := hr 3 (by simp)
  have HROW := Lib.hid (row_drop (row_drop (row_drop (row_drop hr))))
  have sb : b.size ≤ 200000 := HWS.out b (by simp)
  have sd : d.size ≤ 200000 := HWS.out d (by simp)
  have HSR := Lib.hid (show ∀ x ∈ R, x.size ≤ 200000 from fun x hx => HWS.out x (by simp [hx]))
  have HRW := Lib.hid (fun W => row_any b W (by unfold maxLen; omega))
  have HE := Lib.hid (parW_four a b c d R)
  have hRl : R.length ≤ 200001 := by simp at hwle; omega
  simp only [List.length_cons] at *
  have h4i : ¬ (((R.length + 1 + 1 + 1 + 1 : Nat) : Int) < 4) := by omega
  generalize parW (a :: b :: c :: d :: R) = RES at *
  clear hr h4 HWS hwle
  generalize rowB b.data.toList = rb at *
  cases rb
  · have HN := Lib.hid (show RES = none by rw [HE.out, if_neg (by simp)])
    have BX := B2.out
    have q0 := BX.cell (i := 0) rfl
    have f0 := BX.frozen 0
    have q1 := BX.cell (i := 1) rfl
    have f1 := BX.frozen 1
    have q2 := BX.cell (i := 2) rfl
    have f2 := BX.frozen 2
    have q3 := BX.cell (i := 3) rfl
    have f3 := BX.frozen 3
    have q4 := BX.cell (i := 4) rfl
    have f4 := BX.frozen 4
    have q5 := BX.cell (i := 5) rfl
    have f5 := BX.frozen 5
    have q6 := BX.cell (i := 6) rfl
    have f6 := BX.frozen 6
    have ql := BX.lt
    go_wp2_with fail
    refine (HRW.out _).mono ?_
    rintro e1 w' ⟨rfl, rfl⟩
    go_wp2_with fail
    have BY : TBox (((((((w2.setCell ⟨w.heap.size, 0, none⟩ (.string ⟨#[]⟩)).setCell ⟨w.heap.size, 1, none⟩ (.int .i64 0)).setCell ⟨w.heap.size, 2, none⟩ (.int .i64 0)).setCell ⟨w.heap.size, 3, none⟩ (.int .i64 0)).setCell ⟨w.heap.size, 4, none⟩ (.int .i64 0)).setCell ⟨w.heap.size, 5, none⟩ (.bool false)).setCell ⟨w.heap.size, 6, none⟩ (.slice none 0 0)) w.heap.size 73 #[.string ⟨#[]⟩, .int .i64 0, .int .i64 0, .int .i64 0, .int .i64 0, .bool false, .slice none 0 0] := (((((((BX.set 0 (.string ⟨#[]⟩)).set 1 (.int .i64 0)).set 2 (.int .i64 0)).set 3 (.int .i64 0)).set 4 (.int .i64 0)).set 5 (.bool false)).set 6 (.slice none 0 0))
    have HY : Below w.heap.size w (((((((w2.setCell ⟨w.heap.size, 0, none⟩ (.string ⟨#[]⟩)).setCell ⟨w.heap.size, 1, none⟩ (.int .i64 0)).setCell ⟨w.heap.size, 2, none⟩ (.int .i64 0)).setCell ⟨w.heap.size, 3, none⟩ (.int .i64 0)).setCell ⟨w.heap.size, 4, none⟩ (.int .i64 0)).setCell ⟨w.heap.size, 5, none⟩ (.bool false)).setCell ⟨w.heap.size, 6, none⟩ (.slice none 0 0)) := (((((((HB2.out.setCell (Nat.le_refl _) (.string ⟨#[]⟩)).setCell (Nat.le_refl _) (.int .i64 0)).setCell (Nat.le_refl _) (.int .i64 0)).setCell (Nat.le_refl _) (.int .i64 0)).setCell (Nat.le_refl _) (.int .i64 0)).setCell (Nat.le_refl _) (.bool false)).setCell (Nat.le_refl _) (.slice none 0 0))
    have R0 := BY.cell (i := 0) rfl
    have R1 := BY.cell (i := 1) rfl
    have R2 := BY.cell (i := 2) rfl
    have R3 := BY.cell (i := 3) rfl
    have R4 := BY.cell (i := 4) rfl
    have R5 := BY.cell (i := 5) rfl
    have R6 := BY.cell (i := 6) rfl
    generalize (((((((w2.setCell ⟨w.heap.size, 0, none⟩ (.string ⟨#[]⟩)).setCell ⟨w.heap.size, 1, none⟩ (.int .i64 0)).setCell ⟨w.heap.size, 2, none⟩ (.int .i64 0)).setCell ⟨w.heap.size, 3, none⟩ (.int .i64 0)).setCell ⟨w.heap.size, 4, none⟩ (.int .i64 0)).setCell ⟨w.heap.size, 5, none⟩ (.bool false)).setCell ⟨w.heap.size, 6, none⟩ (.slice none 0 0)) = W9 at *
    exact bodyPost_ret (v := .tuple #[.agg #[.string ⟨#[]⟩, .int .i64 0, .int .i64 0, .int .i64 0, .int .i64 0, .bool false, .slice none 0 0], .bool false]) (by simp [results, Tryz.results38, go_sem, R0, R1, R2, R3, R4, R5, R6]) rfl (HPO.out _ _ ⟨⟨⟨#[]⟩, 0, 0, 0, 0, false, []⟩, rfl, by rw [HN.out]; rfl, fun r h => (by rw [HN.out] at h; cases h), HY⟩)
  by_cases hc : c = sAt
  rotate_left
  · have HN := Lib.hid (show RES = none by rw [HE.out, if_neg (fun h => hc h.2.1)])
    have hcb : (c.toList == [97, 116]) = false := beqL hc rfl
    clear hc
    have BX := B2.out
    have q0 := BX.cell (i := 0) rfl
    have f0 := BX.frozen 0
    have q1 := BX.cell (i := 1) rfl
    have f1 := BX.frozen 1
    have q2 := BX.cell (i := 2) rfl
    have f2 := BX.frozen 2
    have q3 := BX.cell (i := 3) rfl
    have f3 := BX.frozen 3
    have q4 := BX.cell (i := 4) rfl
    have f4 := BX.frozen 4
    have q5 := BX.cell (i := 5) rfl
    have f5 := BX.frozen 5
    have q6 := BX.cell (i := 6) rfl
    have f6 := BX.frozen 6
    have ql := BX.lt
    go_wp2_with fail
    refine (HRW.out _).mono ?_
    rintro e1 w' ⟨rfl, rfl⟩
    go_wp2_with fail
    have BY : TBox (((((((w2.setCell ⟨w.heap.size, 0, none⟩ (.string ⟨#[]⟩)).setCell ⟨w.heap.size, 1, none⟩ (.int .i64 0)).setCell ⟨w.heap.size, 2, none⟩ (.int .i64 0)).setCell ⟨w.heap.size, 3, none⟩ (.int .i64 0)).setCell ⟨w.heap.size, 4, none⟩ (.int .i64 0)).setCell ⟨w.heap.size, 5, none⟩ (.bool false)).setCell ⟨w.heap.size, 6, none⟩ (.slice none 0 0)) w.heap.size 73 #[.string ⟨#[]⟩, .int .i64 0, .int .i64 0, .int .i64 0, .int .i64 0, .bool false, .slice none 0 0] := (((((((BX.set 0 (.string ⟨#[]⟩)).set 1 (.int .i64 0)).set 2 (.int .i64 0)).set 3 (.int .i64 0)).set 4 (.int .i64 0)).set 5 (.bool false)).set 6 (.slice none 0 0))
    have HY : Below w.heap.size w (((((((w2.setCell ⟨w.heap.size, 0, none⟩ (.string ⟨#[]⟩)).setCell ⟨w.heap.size, 1, none⟩ (.int .i64 0)).setCell ⟨w.heap.size, 2, none⟩ (.int .i64 0)).setCell ⟨w.heap.size, 3, none⟩ (.int .i64 0)).setCell ⟨w.heap.size, 4, none⟩ (.int .i64 0)).setCell ⟨w.heap.size, 5, none⟩ (.bool false)).setCell ⟨w.heap.size, 6, none⟩ (.slice none 0 0)) := (((((((HB2.out.setCell (Nat.le_refl _) (.string ⟨#[]⟩)).setCell (Nat.le_refl _) (.int .i64 0)).setCell (Nat.le_refl _) (.int .i64 0)).setCell (Nat.le_refl _) (.int .i64 0)).setCell (Nat.le_refl _) (.int .i64 0)).setCell (Nat.le_refl _) (.bool false)).setCell (Nat.le_refl _) (.slice none 0 0))
    have R0 := BY.cell (i := 0) rfl
    have R1 := BY.cell (i := 1) rfl
    have R2 := BY.cell (i := 2) rfl
    have R3 := BY.cell (i := 3) rfl
    have R4 := BY.cell (i := 4) rfl
    have R5 := BY.cell (i := 5) rfl
    have R6 := BY.cell (i := 6) rfl
    generalize (((((((w2.setCell ⟨w.heap.size, 0, none⟩ (.string ⟨#[]⟩)).setCell ⟨w.heap.size, 1, none⟩ (.int .i64 0)).setCell ⟨w.heap.size, 2, none⟩ (.int .i64 0)).setCell ⟨w.heap.size, 3, none⟩ (.int .i64 0)).setCell ⟨w.heap.size, 4, none⟩ (.int .i64 0)).setCell ⟨w.heap.size, 5, none⟩ (.bool false)).setCell ⟨w.heap.size, 6, none⟩ (.slice none 0 0)) = W9 at *
    exact bodyPost_ret (v := .tuple #[.agg #[.string ⟨#[]⟩, .int .i64 0, .int .i64 0, .int .i64 0, .int .i64 0, .bool false, .slice none 0 0], .bool false]) (by simp [results, Tryz.results38, go_sem, R0, R1, R2, R3, R4, R5, R6]) rfl (HPO.out _ _ ⟨⟨⟨#[]⟩, 0, 0, 0, 0, false, []⟩, rfl, by rw [HN.out]; rfl, fun r h => (by rw [HN.out] at h; cases h), HY⟩)
  have HE2 := Lib.hid (show RES = if grpW a ≠ 0 then (nbW d).bind fun k => tailW (grpW a) b k R else none by
    rw [HE.out]
    by_cases h : grpW a ≠ 0
    · rw [if_pos ⟨rfl, hc, h⟩, if_pos h]
    · rw [if_neg (fun k => h k.2.2), if_neg h])
  clear HE
  subst hc
  unfold sAt at *
  go_wp2_with fail
  refine (HRW.out _).mono ?_
  rintro e1 w' ⟨rfl, rfl⟩
  have BP := Lib.hid (TBox.new w2 #[.string b, .int .i64 0, .int .i64 0, .int .i64 0, .int .i64 0, .bool false, .slice none 0 0] 73)
  have HW := Lib.hid (show Below w2.heap.size w2 (w2.alloc (.cells #[.string b, .int .i64 0, .int .i64 0, .int .i64 0, .int .i64 0, .bool false, .slice none 0 0] 73)) from (Below.refl w2.heap.size w2).alloc (Nat.le_refl _) _)
  go_upto_region 5 with fail
  obtain ⟨w3, hw3⟩ : ∃ w3 : World, w3 = (w2.alloc (.cells #[.string b, .int .i64 0, .int .i64 0, .int .i64 0, .int .i64 0, .bool false, .slice none 0 0] 73)) := ⟨_, rfl⟩
  rw [← hw3] at BP HW ⊢
  clear hw3
  have HGK := Lib.hid (fun k => gk_step (a := a) (k := k))
  have HG5 := Lib.hid (gk_all a)
  have CG := Lib.hid (fun (k : Int) W h1 h2 => groupWord_any k W h1 h2)
  go_wp2_with fail
  go_loopw [6] (fun i wr => ∃ k : Nat, 1 ≤ k ∧ k ≤ 5 ∧ i = .int .i64 k ∧ Hid (TBox wr w2.heap.size 73 #[.string b, .int .i64 (gk a k), .int .i64 0, .int .i64 0, .int .i64 0, .bool false, .slice none 0 0]) ∧ Hid (Below w2.heap.size w2 wr)) (fun i _ => 5 - (intOf i).toNat)
  case atStart => exact ⟨1, by omega, by omega, rfl, BP, HW⟩
  case round =>
    obtain ⟨k, hk1, hk5, rfl, BP, HW⟩ := hrel
    have d0 : wr.cell? ⟨w1.heap.size, 0, none⟩ = some (.string a) := (HW.out.cell (p := ⟨w1.heap.size, 0, none⟩) hlt2).trans r0
    have hzw := HW.out.size
    have hwr : w1.heap.size < wr.heap.size := by omega
    by_cases hlt : k < 5
    · have hle : (k : Int) ≤ 4 := by omega
      have hk1i : (1 : Int) ≤ (k : Int) := by omega
      have hix : (0 : Int) < (R.length : Int) + 1 + 1 + 1 + 1 := by omega
      have HST := Lib.hid (HGK.out k hk1)
      have BX := BP.out
      have q0 := BX.cell (i := 0) rfl
      have f0 := BX.frozen 0
      have q1 := BX.cell (i := 1) rfl
      have f1 := BX.frozen 1
      have q2 := BX.cell (i := 2) rfl
      have f2 := BX.frozen 2
      have q3 := BX.cell (i := 3) rfl
      have f3 := BX.frozen 3
      have q4 := BX.cell (i := 4) rfl
      have f4 := BX.frozen 4
      have q5 := BX.cell (i := 5) rfl
      have f5 := BX.frozen 5
      have q6 := BX.cell (i := 6) rfl
      have f6 := BX.frozen 6
      have ql := BX.lt
      by_cases hg : grpT (k : Int) = a
      · have hgb : ((grpT (k : Int)).toList == a.toList) = true := beqT hg
        have BP' := Lib.hid (show TBox (wr.drew.setCell ⟨w2.heap.size, 1, none⟩ (.int .i64 k)) w2.heap.size 73 #[.string b, .int .i64 (gk a (k + 1)), .int .i64 0, .int .i64 0, .int .i64 0, .bool false, .slice none 0 0] by rw [HST.out, if_pos hg]; exact BX.set (W := wr.drew) 1 (.int .i64 k))
        have HW' := Lib.hid (show Below w2.heap.size w2 (wr.drew.setCell ⟨w2.heap.size, 1, none⟩ (.int .i64 k)) from (HW.out.drew).setCell (Nat.le_refl _) _)
        clear BX
        generalize gk a k = gv at *
        go_upto_region 8 with fail
        go_region_held3 (fun W => W.cell? ⟨w1.heap.size, 0, none⟩ = some (.string a))
          (exact d0)
          (first
            | (go_at_call 34; (with_reducible refine (CG.out _ _ hk1i hle).mono ?_); rintro e w' ⟨rfl, rfl⟩)
            | fail)
        all_goals go_wp2_with fail
        all_goals go_roundw
        case rel => exact ⟨k + 1, by omega, by omega, by go_num, BP', HW'⟩
        case measure => simp [intOf]; omega
      · have hgb : ((grpT (k : Int)).toList == a.toList) = false := beqF hg
        have BP' := Lib.hid (show TBox wr.drew w2.heap.size 73 #[.string b, .int .i64 (gk a (k + 1)), .int .i64 0, .int .i64 0, .int .i64 0, .bool false, .slice none 0 0] by rw [HST.out, if_neg hg]; exact BX)
        have HW' := Lib.hid (HW.out.drew)
        clear BX
        generalize gk a k = gv at *
        go_upto_region 8 with fail
        go_region_held3 (fun W => W.cell? ⟨w1.heap.size, 0, none⟩ = some (.string a))
          (exact d0)
          (first
            | (go_at_call 34; (with_reducible refine (CG.out _ _ hk1i hle).mono ?_); rintro e w' ⟨rfl, rfl⟩)
            | fail)
        all_goals go_wp2_with fail
        all_goals go_roundw
        case rel => exact ⟨k + 1, by omega, by omega, by go_num, BP', HW'⟩
        case measure => simp [intOf]; omega
    · obtain rfl : k = 5 := by omega
      rw [HG5.out] at BP
      have hle : ¬ ((5 : Nat) : Int) ≤ 4 := by omega
      clear HGK HG5 CG hlt hk1 hk5 d0
      generalize grpW a = G at *
      obtain ⟨nv, nf, hn1, hn2⟩ := num_f d (by omega)
      have CN := Lib.hid hn1
      have HNV := Lib.hid hn2
      clear hn1 hn2
      have d3 : wr.cell? ⟨w1.heap.size, 3, none⟩ = some (.string d) := (HW.out.cell (p := ⟨w1.heap.size, 3, none⟩) hlt2).trans r3
      clear r0 r1 r2 r3 HRW
      go_wp2_with fail
      refine (CN.out _).mono ?_
      rintro e1 w4 ⟨rfl, hb⟩
      have HW4 := Lib.hid (HW.out.trans (hb.mono HW.out.size))
      have BP4 := Lib.hid (BP.out.below hb)
      have hz4 := HW4.out.size
      have hw4l : w1.heap.size < w4.heap.size := by omega
      clear hb HW BP CN d3 hzw hwr
      by_cases hG : G = 0
      · have HN := Lib.hid (show RES = none by rw [HE2.out, if_neg (fun h => h hG)])
        subst hG
        have BX := B2.out.below HW4.out
        have q0 := BX.cell (i := 0) rfl
        have f0 := BX.frozen 0
        have q1 := BX.cell (i := 1) rfl
        have f1 := BX.frozen 1
        have q2 := BX.cell (i := 2) rfl
        have f2 := BX.frozen 2
        have q3 := BX.cell (i := 3) rfl
        have f3 := BX.frozen 3
        have q4 := BX.cell (i := 4) rfl
        have f4 := BX.frozen 4
        have q5 := BX.cell (i := 5) rfl
        have f5 := BX.frozen 5
        have q6 := BX.cell (i := 6) rfl
        have f6 := BX.frozen 6
        have ql := BX.lt
        have BY0 := BP4.out
        have x0 := BY0.cell (i := 0) rfl
        have y0 := BY0.frozen 0
        have x1 := BY0.cell (i := 1) rfl
        have y1 := BY0.frozen 1
        have x2 := BY0.cell (i := 2) rfl
        have y2 := BY0.frozen 2
        have x3 := BY0.cell (i := 3) rfl
        have y3 := BY0.frozen 3
        have x4 := BY0.cell (i := 4) rfl
        have y4 := BY0.frozen 4
        have x5 := BY0.cell (i := 5) rfl
        have y5 := BY0.frozen 5
        have x6 := BY0.cell (i := 6) rfl
        have y6 := BY0.frozen 6
        have xl := BY0.lt
        go_wp2_with fail
        have BY : TBox (((((((w4.setCell ⟨w.heap.size, 0, none⟩ (.string ⟨#[]⟩)).setCell ⟨w.heap.size, 1, none⟩ (.int .i64 0)).setCell ⟨w.heap.size, 2, none⟩ (.int .i64 0)).setCell ⟨w.heap.size, 3, none⟩ (.int .i64 0)).setCell ⟨w.heap.size, 4, none⟩ (.int .i64 0)).setCell ⟨w.heap.size, 5, none⟩ (.bool false)).setCell ⟨w.heap.size, 6, none⟩ (.slice none 0 0)) w.heap.size 73 #[.string ⟨#[]⟩, .int .i64 0, .int .i64 0, .int .i64 0, .int .i64 0, .bool false, .slice none 0 0] := (((((((BX.set 0 (.string ⟨#[]⟩)).set 1 (.int .i64 0)).set 2 (.int .i64 0)).set 3 (.int .i64 0)).set 4 (.int .i64 0)).set 5 (.bool false)).set 6 (.slice none 0 0))
        have HY : Below w.heap.size w (((((((w4.setCell ⟨w.heap.size, 0, none⟩ (.string ⟨#[]⟩)).setCell ⟨w.heap.size, 1, none⟩ (.int .i64 0)).setCell ⟨w.heap.size, 2, none⟩ (.int .i64 0)).setCell ⟨w.heap.size, 3, none⟩ (.int .i64 0)).setCell ⟨w.heap.size, 4, none⟩ (.int .i64 0)).setCell ⟨w.heap.size, 5, none⟩ (.bool false)).setCell ⟨w.heap.size, 6, none⟩ (.slice none 0 0)) := ((((((((HB2.out.trans (HW4.out.mono HB2.out.size)).setCell (Nat.le_refl _) (.string ⟨#[]⟩)).setCell (Nat.le_refl _) (.int .i64 0)).setCell (Nat.le_refl _) (.int .i64 0)).setCell (Nat.le_refl _) (.int .i64 0)).setCell (Nat.le_refl _) (.int .i64 0)).setCell (Nat.le_refl _) (.bool false)).setCell (Nat.le_refl _) (.slice none 0 0))
        have R0 := BY.cell (i := 0) rfl
        have R1 := BY.cell (i := 1) rfl
        have R2 := BY.cell (i := 2) rfl
        have R3 := BY.cell (i := 3) rfl
        have R4 := BY.cell (i := 4) rfl
        have R5 := BY.cell (i := 5) rfl
        have R6 := BY.cell (i := 6) rfl
        generalize (((((((w4.setCell ⟨w.heap.size, 0, none⟩ (.string ⟨#[]⟩)).setCell ⟨w.heap.size, 1, none⟩ (.int .i64 0)).setCell ⟨w.heap.size, 2, none⟩ (.int .i64 0)).setCell ⟨w.heap.size, 3, none⟩ (.int .i64 0)).setCell ⟨w.heap.size, 4, none⟩ (.int .i64 0)).setCell ⟨w.heap.size, 5, none⟩ (.bool false)).setCell ⟨w.heap.size, 6, none⟩ (.slice none 0 0)) = W9 at *
        exact bodyPost_ret (v := .tuple #[.agg #[.string ⟨#[]⟩, .int .i64 0, .int .i64 0, .int .i64 0, .int .i64 0, .bool false, .slice none 0 0], .bool false]) (by simp [results, Tryz.results38, go_sem, R0, R1, R2, R3, R4, R5, R6]) rfl (HPO.out _ _ ⟨⟨⟨#[]⟩, 0, 0, 0, 0, false, []⟩, rfl, by rw [HN.out]; rfl, fun r h => (by rw [HN.out] at h; cases h), HY⟩)
      have HE2 := Lib.hid (HE2.out.trans (if_pos hG))
      have hGb : (G == 0) = false := by simpa using hG
      cases nf
      · have HN := Lib.hid (show RES = none by
          rw [HE2.out]
          rcases HNV.out with ⟨h, _⟩ | ⟨_, h⟩
          · cases h
          · rw [h]; rfl)
        have BX := B2.out.below HW4.out
        have q0 := BX.cell (i := 0) rfl
        have f0 := BX.frozen 0
        have q1 := BX.cell (i := 1) rfl
        have f1 := BX.frozen 1
        have q2 := BX.cell (i := 2) rfl
        have f2 := BX.frozen 2
        have q3 := BX.cell (i := 3) rfl
        have f3 := BX.frozen 3
        have q4 := BX.cell (i := 4) rfl
        have f4 := BX.frozen 4
        have q5 := BX.cell (i := 5) rfl
        have f5 := BX.frozen 5
        have q6 := BX.cell (i := 6) rfl
        have f6 := BX.frozen 6
        have ql := BX.lt
        have BY0 := BP4.out
        have x0 := BY0.cell (i := 0) rfl
        have y0 := BY0.frozen 0
        have x1 := BY0.cell (i := 1) rfl
        have y1 := BY0.frozen 1
        have x2 := BY0.cell (i := 2) rfl
        have y2 := BY0.frozen 2
        have x3 := BY0.cell (i := 3) rfl
        have y3 := BY0.frozen 3
        have x4 := BY0.cell (i := 4) rfl
        have y4 := BY0.frozen 4
        have x5 := BY0.cell (i := 5) rfl
        have y5 := BY0.frozen 5
        have x6 := BY0.cell (i := 6) rfl
        have y6 := BY0.frozen 6
        have xl := BY0.lt
        go_wp2_with fail
        have BY : TBox (((((((w4.setCell ⟨w.heap.size, 0, none⟩ (.string ⟨#[]⟩)).setCell ⟨w.heap.size, 1, none⟩ (.int .i64 0)).setCell ⟨w.heap.size, 2, none⟩ (.int .i64 0)).setCell ⟨w.heap.size, 3, none⟩ (.int .i64 0)).setCell ⟨w.heap.size, 4, none⟩ (.int .i64 0)).setCell ⟨w.heap.size, 5, none⟩ (.bool false)).setCell ⟨w.heap.size, 6, none⟩ (.slice none 0 0)) w.heap.size 73 #[.string ⟨#[]⟩, .int .i64 0, .int .i64 0, .int .i64 0, .int .i64 0, .bool false, .slice none 0 0] := (((((((BX.set 0 (.string ⟨#[]⟩)).set 1 (.int .i64 0)).set 2 (.int .i64 0)).set 3 (.int .i64 0)).set 4 (.int .i64 0)).set 5 (.bool false)).set 6 (.slice none 0 0))
        have HY : Below w.heap.size w (((((((w4.setCell ⟨w.heap.size, 0, none⟩ (.string ⟨#[]⟩)).setCell ⟨w.heap.size, 1, none⟩ (.int .i64 0)).setCell ⟨w.heap.size, 2, none⟩ (.int .i64 0)).setCell ⟨w.heap.size, 3, none⟩ (.int .i64 0)).setCell ⟨w.heap.size, 4, none⟩ (.int .i64 0)).setCell ⟨w.heap.size, 5, none⟩ (.bool false)).setCell ⟨w.heap.size, 6, none⟩ (.slice none 0 0)) := ((((((((HB2.out.trans (HW4.out.mono HB2.out.size)).setCell (Nat.le_refl _) (.string ⟨#[]⟩)).setCell (Nat.le_refl _) (.int .i64 0)).setCell (Nat.le_refl _) (.int .i64 0)).setCell (Nat.le_refl _) (.int .i64 0)).setCell (Nat.le_refl _) (.int .i64 0)).setCell (Nat.le_refl _) (.bool false)).setCell (Nat.le_refl _) (.slice none 0 0))
        have R0 := BY.cell (i := 0) rfl
        have R1 := BY.cell (i := 1) rfl
        have R2 := BY.cell (i := 2) rfl
        have R3 := BY.cell (i := 3) rfl
        have R4 := BY.cell (i := 4) rfl
        have R5 := BY.cell (i := 5) rfl
        have R6 := BY.cell (i := 6) rfl
        generalize (((((((w4.setCell ⟨w.heap.size, 0, none⟩ (.string ⟨#[]⟩)).setCell ⟨w.heap.size, 1, none⟩ (.int .i64 0)).setCell ⟨w.heap.size, 2, none⟩ (.int .i64 0)).setCell ⟨w.heap.size, 3, none⟩ (.int .i64 0)).setCell ⟨w.heap.size, 4, none⟩ (.int .i64 0)).setCell ⟨w.heap.size, 5, none⟩ (.bool false)).setCell ⟨w.heap.size, 6, none⟩ (.slice none 0 0)) = W9 at *
        exact bodyPost_ret (v := .tuple #[.agg #[.string ⟨#[]⟩, .int .i64 0, .int .i64 0, .int .i64 0, .int .i64 0, .bool false, .slice none 0 0], .bool false]) (by simp [results, Tryz.results38, go_sem, R0, R1, R2, R3, R4, R5, R6]) rfl (HPO.out _ _ ⟨⟨⟨#[]⟩, 0, 0, 0, 0, false, []⟩, rfl, by rw [HN.out]; rfl, fun r h => (by rw [HN.out] at h; cases h), HY⟩)
      have HX := Lib.hid (show RES = (optW sFine nzN R).bind fun x => t1 b G nv x.1 x.2 by
        rw [HE2.out]
        rcases HNV.out with ⟨_, h⟩ | ⟨h, _⟩
        · rw [h, ← tail_eq]; rfl
        · cases h)
      clear HE2 HNV
      have BX := BP4.out
      have q0 := BX.cell (i := 0) rfl
      have f0 := BX.frozen 0
      have q1 := BX.cell (i := 1) rfl
      have f1 := BX.frozen 1
      have q2 := BX.cell (i := 2) rfl
      have f2 := BX.frozen 2
      have q3 := BX.cell (i := 3) rfl
      have f3 := BX.frozen 3
      have q4 := BX.cell (i := 4) rfl
      have f4 := BX.frozen 4
      have q5 := BX.cell (i := 5) rfl
      have f5 := BX.frozen 5
      have q6 := BX.cell (i := 6) rfl
      have f6 := BX.frozen 6
      have ql := BX.lt
      have BP5 := Lib.hid (show TBox (w4.setCell ⟨w2.heap.size, 2, none⟩ (.int .i64 nv)) w2.heap.size 73 #[.string b, .int .i64 G, .int .i64 nv, .int .i64 0, .int .i64 0, .bool false, .slice none 0 0] from BX.set 2 (.int .i64 nv))
      have HW5 := Lib.hid (HW4.out.setCell (p := ⟨w2.heap.size, 2, none⟩) (Nat.le_refl _) (.int .i64 nv))
      clear BX BP4
      obtain ⟨w5, hw5⟩ : ∃ w5 : World, w5 = w4.setCell ⟨w2.heap.size, 2, none⟩ (.int .i64 nv) := ⟨_, rfl⟩
      go_upto_region 14 with fail
      rw [← hw5] at BP5 HW5 ⊢
      clear hw5 hz4 hw4l HW4
      go_cut [4] (fun s wx => (∃ off cap, s = .slice (some ⟨w1.heap.size, off, none⟩) R.length cap ∧ R.length ≤ cap ∧ RowS w2 w1.heap.size off R) ∧ w5 = wx)
      case first =>
        by_cases hR0 : R.length = 0
        · have hR : R = [] := List.eq_nil_of_length_eq_zero hR0
          subst hR
          go_wp2_with fail
          go_meet
          exact ⟨⟨_, _, rfl, Nat.zero_le _, fun j hj => absurd hj (Nat.not_lt_zero _)⟩, rfl⟩
        · have hR1 : ¬ (R.length : Int) = 0 := by omega
          have hR2 : (0 : Int) < R.length := by omega
          have hR3 : (0 : Int) ≤ R.length := by omega
          go_wp2_with fail
          go_meet
          exact ⟨⟨_, _, rfl, Nat.le_refl _, HROW.out⟩, rfl⟩
      case rest =>
      obtain ⟨⟨off, cap, rfl, hcap, hrow⟩, rfl⟩ := hcut
      have HR := Lib.hid hrow
      clear hrow HROW
      cases hO : optW sFine nzN R with
      | none =>
        obtain ⟨b2, R1, rfl, hz⟩ := optW_none hO
        have HN := Lib.hid (show RES = none by rw [HX.out, hO]; rfl)
        have sb2 : b2.size ≤ 200000 := HSR.out b2 (by simp)
        obtain ⟨nv2, nf2, hn1, hn2⟩ := num_f b2 (by omega)
        have CN := Lib.hid hn1
        have e0 : w5.cell? ⟨w1.heap.size, off, none⟩ = some (.string sFine) := (HW5.out.cell (p := ⟨w1.heap.size, off, none⟩) hlt2).trans (row_hd HR.out)
        have e1 : w5.cell? ⟨w1.heap.size, off + 1, none⟩ = some (.string b2) := (HW5.out.cell (p := ⟨w1.heap.size, off + 1, none⟩) hlt2).trans (row_hd (row_drop HR.out))
        unfold sFine at e0
        simp only [List.length_cons] at *
        have hl1 : (1 : Int) < (R1.length : Int) + 1 + 1 := by omega
        have hl2 : (0 : Int) < (R1.length : Int) + 1 + 1 := by omega
        have hz5 := HW5.out.size
        have hbad := nzN_none hn2 hz
        clear hn1 hn2 hz hO HX HR HSR
        go_wp2_with fail
        refine (CN.out _).mono ?_
        rintro e1 w6 ⟨rfl, hb⟩
        have HW6 := Lib.hid (HW5.out.trans (hb.mono HW5.out.size))
        have BP6 := Lib.hid (BP5.out.below hb)
        clear hb CN e0 e1
        have hlt6 := HW6.out.size
        have BX := B2.out.below HW6.out
        have q0 := BX.cell (i := 0) rfl
        have f0 := BX.frozen 0
        have q1 := BX.cell (i := 1) rfl
        have f1 := BX.frozen 1
        have q2 := BX.cell (i := 2) rfl
        have f2 := BX.frozen 2
        have q3 := BX.cell (i := 3) rfl
        have f3 := BX.frozen 3
        have q4 := BX.cell (i := 4) rfl
        have f4 := BX.frozen 4
        have q5 := BX.cell (i := 5) rfl
        have f5 := BX.frozen 5
        have q6 := BX.cell (i := 6) rfl
        have f6 := BX.frozen 6
        have ql := BX.lt
        have HY6 := Lib.hid (HB2.out.trans (HW6.out.mono HB2.out.size))
        clear HW6 HW5 B2
        cases nf2
        · go_wp2_with fail
          have BY : TBox (((((((w6.setCell ⟨w.heap.size, 0, none⟩ (.string ⟨#[]⟩)).setCell ⟨w.heap.size, 1, none⟩ (.int .i64 0)).setCell ⟨w.heap.size, 2, none⟩ (.int .i64 0)).setCell ⟨w.heap.size, 3, none⟩ (.int .i64 0)).setCell ⟨w.heap.size, 4, none⟩ (.int .i64 0)).setCell ⟨w.heap.size, 5, none⟩ (.bool false)).setCell ⟨w.heap.size, 6, none⟩ (.slice none 0 0)) w.heap.size 73 #[.string ⟨#[]⟩, .int .i64 0, .int .i64 0, .int .i64 0, .int .i64 0, .bool false, .slice none 0 0] := (((((((BX.set 0 (.string ⟨#[]⟩)).set 1 (.int .i64 0)).set 2 (.int .i64 0)).set 3 (.int .i64 0)).set 4 (.int .i64 0)).set 5 (.bool false)).set 6 (.slice none 0 0))
          have HY : Below w.heap.size w (((((((w6.setCell ⟨w.heap.size, 0, none⟩ (.string ⟨#[]⟩)).setCell ⟨w.heap.size, 1, none⟩ (.int .i64 0)).setCell ⟨w.heap.size, 2, none⟩ (.int .i64 0)).setCell ⟨w.heap.size, 3, none⟩ (.int .i64 0)).setCell ⟨w.heap.size, 4, none⟩ (.int .i64 0)).setCell ⟨w.heap.size, 5, none⟩ (.bool false)).setCell ⟨w.heap.size, 6, none⟩ (.slice none 0 0)) := (((((((HY6.out.setCell (Nat.le_refl _) (.string ⟨#[]⟩)).setCell (Nat.le_refl _) (.int .i64 0)).setCell (Nat.le_refl _) (.int .i64 0)).setCell (Nat.le_refl _) (.int .i64 0)).setCell (Nat.le_refl _) (.int .i64 0)).setCell (Nat.le_refl _) (.bool false)).setCell (Nat.le_refl _) (.slice none 0 0))
          have R0 := BY.cell (i := 0) rfl
          have R1 := BY.cell (i := 1) rfl
          have R2 := BY.cell (i := 2) rfl
          have R3 := BY.cell (i := 3) rfl
          have R4 := BY.cell (i := 4) rfl
          have R5 := BY.cell (i := 5) rfl
          have R6 := BY.cell (i := 6) rfl
          generalize (((((((w6.setCell ⟨w.heap.size, 0, none⟩ (.string ⟨#[]⟩)).setCell ⟨w.heap.size, 1, none⟩ (.int .i64 0)).setCell ⟨w.heap.size, 2, none⟩ (.int .i64 0)).setCell ⟨w.heap.size, 3, none⟩ (.int .i64 0)).setCell ⟨w.heap.size, 4, none⟩ (.int .i64 0)).setCell ⟨w.heap.size, 5, none⟩ (.bool false)).setCell ⟨w.heap.size, 6, none⟩ (.slice none 0 0)) = W9 at *
          exact bodyPost_ret (v := .tuple #[.agg #[.string ⟨#[]⟩, .int .i64 0, .int .i64 0, .int .i64 0, .int .i64 0, .bool false, .slice none 0 0], .bool false]) (by simp [results, Tryz.results38, go_sem, R0, R1, R2, R3, R4, R5, R6]) rfl (HPO.out _ _ ⟨⟨⟨#[]⟩, 0, 0, 0, 0, false, []⟩, rfl, by rw [HN.out]; rfl, fun r h => (by rw [HN.out] at h; cases h), HY⟩)
        · have hz0 : nv2 = 0 := hbad.resolve_left (by decide)
          subst hz0
          go_wp2_with fail
          have BY : TBox (((((((w6.setCell ⟨w.heap.size, 0, none⟩ (.string ⟨#[]⟩)).setCell ⟨w.heap.size, 1, none⟩ (.int .i64 0)).setCell ⟨w.heap.size, 2, none⟩ (.int .i64 0)).setCell ⟨w.heap.size, 3, none⟩ (.int .i64 0)).setCell ⟨w.heap.size, 4, none⟩ (.int .i64 0)).setCell ⟨w.heap.size, 5, none⟩ (.bool false)).setCell ⟨w.heap.size, 6, none⟩ (.slice none 0 0)) w.heap.size 73 #[.string ⟨#[]⟩, .int .i64 0, .int .i64 0, .int .i64 0, .int .i64 0, .bool false, .slice none 0 0] := (((((((BX.set 0 (.string ⟨#[]⟩)).set 1 (.int .i64 0)).set 2 (.int .i64 0)).set 3 (.int .i64 0)).set 4 (.int .i64 0)).set 5 (.bool false)).set 6 (.slice none 0 0))
          have HY : Below w.heap.size w (((((((w6.setCell ⟨w.heap.size, 0, none⟩ (.string ⟨#[]⟩)).setCell ⟨w.heap.size, 1, none⟩ (.int .i64 0)).setCell ⟨w.heap.size, 2, none⟩ (.int .i64 0)).setCell ⟨w.heap.size, 3, none⟩ (.int .i64 0)).setCell ⟨w.heap.size, 4, none⟩ (.int .i64 0)).setCell ⟨w.heap.size, 5, none⟩ (.bool false)).setCell ⟨w.heap.size, 6, none⟩ (.slice none 0 0)) := (((((((HY6.out.setCell (Nat.le_refl _) (.string ⟨#[]⟩)).setCell (Nat.le_refl _) (.int .i64 0)).setCell (Nat.le_refl _) (.int .i64 0)).setCell (Nat.le_refl _) (.int .i64 0)).setCell (Nat.le_refl _) (.int .i64 0)).setCell (Nat.le_refl _) (.bool false)).setCell (Nat.le_refl _) (.slice none 0 0))
          have R0 := BY.cell (i := 0) rfl
          have R1 := BY.cell (i := 1) rfl
          have R2 := BY.cell (i := 2) rfl
          have R3 := BY.cell (i := 3) rfl
          have R4 := BY.cell (i := 4) rfl
          have R5 := BY.cell (i := 5) rfl
          have R6 := BY.cell (i := 6) rfl
          generalize (((((((w6.setCell ⟨w.heap.size, 0, none⟩ (.string ⟨#[]⟩)).setCell ⟨w.heap.size, 1, none⟩ (.int .i64 0)).setCell ⟨w.heap.size, 2, none⟩ (.int .i64 0)).setCell ⟨w.heap.size, 3, none⟩ (.int .i64 0)).setCell ⟨w.heap.size, 4, none⟩ (.int .i64 0)).setCell ⟨w.heap.size, 5, none⟩ (.bool false)).setCell ⟨w.heap.size, 6, none⟩ (.slice none 0 0)) = W9 at *
          exact bodyPost_ret (v := .tuple #[.agg #[.string ⟨#[]⟩, .int .i64 0, .int .i64 0, .int .i64 0, .int .i64 0, .bool false, .slice none 0 0], .bool false]) (by simp [results, Tryz.results38, go_sem, R0, R1, R2, R3, R4, R5, R6]) rfl (HPO.out _ _ ⟨⟨⟨#[]⟩, 0, 0, 0, 0, false, []⟩, rfl, by rw [HN.out]; rfl, fun r h => (by rw [HN.out] at h; cases h), HY⟩)
      | some y =>
      obtain ⟨fi, R2⟩ := y
      have HX7 := Lib.hid (show RES = t1 b G nv fi R2 by rw [HX.out, hO]; rfl)
      have HOS := Lib.hid (optW_some hO)
      clear HX hO
      obtain ⟨cb, hcb⟩ : ∃ cb : Bool, (cb = false ∧ fi = 0 ∧ R2 = R ∧ (R.length < 2 ∨ ∃ a b R1, R = a :: b :: R1 ∧ a ≠ sFine)) ∨ (cb = true ∧ ∃ b, R = sFine :: b :: R2 ∧ nzN b = some fi) := by
        rcases HOS.out with h | h
        · exact ⟨false, .inl ⟨rfl, h⟩⟩
        · exact ⟨true, .inr ⟨rfl, h⟩⟩
      have HOC := Lib.hid hcb
      have HSR7 := Lib.hid (show ∀ x ∈ R2, x.size ≤ 200000 from fun x hx => by
        rcases HOS.out with ⟨_, h, _⟩ | ⟨b, h, _⟩
        · exact HSR.out x (by rw [← h]; exact hx)
        · exact HSR.out x (by rw [h]; simp [hx]))
      clear hcb HOS
      go_upto_region 15 with fail
      go_cut [75] (fun s wx => s = .bool cb ∧ w5 = wx)
      case first =>
        rcases HOC.out with ⟨rfl, _, _, h | ⟨a1, b1, R1, e, hne⟩⟩ | ⟨rfl, b2, e, _⟩
        · have hl1 : ¬ (1 : Int) < R.length := by omega
          clear HOC h
          go_wp2_with fail
          go_meet
          exact ⟨rfl, rfl⟩
        · subst e
          have e0 : w5.cell? ⟨w1.heap.size, off, none⟩ = some (.string a1) := (HW5.out.cell (p := ⟨w1.heap.size, off, none⟩) hlt2).trans (row_hd HR.out)
          have hq : (a1.toList == [102, 105, 110, 101]) = false := beqL hne rfl
          simp only [List.length_cons] at *
          have hl1 : (1 : Int) < (R1.length : Int) + 1 + 1 := by omega
          have hl2 : (0 : Int) < (R1.length : Int) + 1 + 1 := by omega
          have hz5 := HW5.out.size
          clear HOC hne
          go_wp2_with fail
          go_meet
          exact ⟨rfl, rfl⟩
        · subst e
          have e0 : w5.cell? ⟨w1.heap.size, off, none⟩ = some (.string sFine) := (HW5.out.cell (p := ⟨w1.heap.size, off, none⟩) hlt2).trans (row_hd HR.out)
          unfold sFine at e0
          simp only [List.length_cons] at *
          have hl1 : (1 : Int) < (R2.length : Int) + 1 + 1 := by omega
          have hl2 : (0 : Int) < (R2.length : Int) + 1 + 1 := by omega
          have hz5 := HW5.out.size
          clear HOC
          go_wp2_with fail
          go_meet
          exact ⟨rfl, rfl⟩
      case rest =>
      obtain ⟨rfl, rfl⟩ := hcut
      go_upto_if 75 with fail
      go_cut [4] (fun s wx => Hid ((∃ off cap, s = .slice (some ⟨w1.heap.size, off, none⟩) R2.length cap ∧ R2.length ≤ cap ∧ RowS w2 w1.heap.size off R2) ∧ TBox wx w2.heap.size 73 #[.string b, .int .i64 G, .int .i64 nv, .int .i64 fi, .int .i64 0, .bool false, .slice none 0 0] ∧ Below w2.heap.size w2 wx))
      case first =>
        rcases HOC.out with ⟨rfl, rfl, rfl, _⟩ | ⟨rfl, b2, rfl, hz⟩
        · clear HOC
          go_wp2_with fail
          go_meet
          exact Lib.hid ⟨⟨_, _, rfl, hcap, HR.out⟩, BP5.out, HW5.out⟩
        · clear HOC
          have sb2 : b2.size ≤ 200000 := HSR.out b2 (by simp)
          obtain ⟨nv2, nf2, hn1, hn2⟩ := num_f b2 (by omega)
          have CN := Lib.hid hn1
          have e0 : w5.cell? ⟨w1.heap.size, off, none⟩ = some (.string sFine) := (HW5.out.cell (p := ⟨w1.heap.size, off, none⟩) hlt2).trans (row_hd HR.out)
          have e1 : w5.cell? ⟨w1.heap.size, off + 1, none⟩ = some (.string b2) := (HW5.out.cell (p := ⟨w1.heap.size, off + 1, none⟩) hlt2).trans (row_hd (row_drop HR.out))
          unfold sFine at e0
          simp only [List.length_cons] at *
          have hl1 : (1 : Int) < (R2.length : Int) + 1 + 1 := by omega
          have hl2 : (0 : Int) < (R2.length : Int) + 1 + 1 := by omega
          have hz5 := HW5.out.size
          have hgd := nzN_some hn2 hz
          have hrow2 := row_drop (row_drop HR.out)
          clear hn1 hn2 hz HSR HR
          obtain ⟨rfl, rfl, hnz⟩ := hgd
          have hnzb : (nv2 == 0) = false := by simpa using hnz
          go_upto_region 16 with fail
          have HRW2 := Lib.hid hrow2
          clear hrow2
          go_wp2_with fail
          refine (CN.out _).mono ?_
          rintro e1 w6 ⟨rfl, hb⟩
          have HW6 := Lib.hid (HW5.out.trans (hb.mono HW5.out.size))
          have BP6 := Lib.hid (BP5.out.below hb)
          clear hb CN e0 e1
          have hlt6 := HW6.out.size
          have BX := BP6.out
          have q0 := BX.cell (i := 0) rfl
          have f0 := BX.frozen 0
          have q1 := BX.cell (i := 1) rfl
          have f1 := BX.frozen 1
          have q2 := BX.cell (i := 2) rfl
          have f2 := BX.frozen 2
          have q3 := BX.cell (i := 3) rfl
          have f3 := BX.frozen 3
          have q4 := BX.cell (i := 4) rfl
          have f4 := BX.frozen 4
          have q5 := BX.cell (i := 5) rfl
          have f5 := BX.frozen 5
          have q6 := BX.cell (i := 6) rfl
          have f6 := BX.frozen 6
          have ql := BX.lt
          have BP8 := Lib.hid (show TBox (w6.setCell ⟨w2.heap.size, 3, none⟩ (.int .i64 nv2)) w2.heap.size 73 #[.string b, .int .i64 G, .int .i64 nv, .int .i64 nv2, .int .i64 0, .bool false, .slice none 0 0] from BX.set 3 (.int .i64 nv2))
          have HW8 := Lib.hid (HW6.out.setCell (p := ⟨w2.heap.size, 3, none⟩) (Nat.le_refl _) (.int .i64 nv2))
          clear BX BP6 HW6
          by_cases hR0 : R2.length = 0
          · have hR : R2 = [] := List.eq_nil_of_length_eq_zero hR0
            subst hR
            go_wp2_with fail
            all_goals go_meet
            all_goals exact Lib.hid ⟨⟨_, _, rfl, Nat.zero_le _, fun j hj => absurd hj (Nat.not_lt_zero _)⟩, BP8.out, HW8.out⟩
          · have hR1 : ¬ (R2.length : Int) = 0 := by omega
            have hR2 : (0 : Int) < R2.length := by omega
            have hR3 : (0 : Int) ≤ R2.length := by omega
            go_wp2_with fail
            go_meet
            exact Lib.hid ⟨⟨_, _, rfl, by omega, HRW2.out⟩, BP8.out, HW8.out⟩
      case rest =>
      obtain ⟨⟨off7, cap7, rfl, hcap7, hrow⟩, hbp, hhw⟩ := hcut.out
      have HR7 := Lib.hid hrow
      have BP7 := Lib.hid hbp
      have HW7 := Lib.hid hhw
      clear hrow hbp hhw hcut HOC HR HSR BP5 HW5
      obtain ⟨w7, rfl⟩ : ∃ x, x = wc := ⟨wc, rfl⟩
      cases hO : optW sDflt nzL R2 with
      | none =>
        obtain ⟨b2, R1, rfl, hz⟩ := optW_none hO
        have HN := Lib.hid (show RES = none by rw [HX7.out, t1_eq, hO]; rfl)
        have sb2 : b2.size ≤ 200000 := HSR7.out b2 (by simp)
        obtain ⟨nv2, nf2, hn1, hn2⟩ := lread_f b2 (by omega)
        have CN := Lib.hid hn1
        have e0 : w7.cell? ⟨w1.heap.size, off7, none⟩ = some (.string sDflt) := (HW7.out.cell (p := ⟨w1.heap.size, off7, none⟩) hlt2).trans (row_hd HR7.out)
        have e1 : w7.cell? ⟨w1.heap.size, off7 + 1, none⟩ = some (.string b2) := (HW7.out.cell (p := ⟨w1.heap.size, off7 + 1, none⟩) hlt2).trans (row_hd (row_drop HR7.out))
        unfold sDflt at e0
        simp only [List.length_cons] at *
        have hl1 : (1 : Int) < (R1.length : Int) + 1 + 1 := by omega
        have hl2 : (0 : Int) < (R1.length : Int) + 1 + 1 := by omega
        have hz5 := HW7.out.size
        have hbad := nzL_none hn2 hz
        clear hn1 hn2 hz hO HX7 HR7 HSR7
        go_wp2_with fail
        refine (CN.out _).mono ?_
        rintro e1 w6 ⟨rfl, hb⟩
        have HW6 := Lib.hid (HW7.out.trans (hb.mono HW7.out.size))
        have BP6 := Lib.hid (BP7.out.below hb)
        clear hb CN e0 e1
        have hlt6 := HW6.out.size
        have BX := B2.out.below HW6.out
        have q0 := BX.cell (i := 0) rfl
        have f0 := BX.frozen 0
        have q1 := BX.cell (i := 1) rfl
        have f1 := BX.frozen 1
        have q2 := BX.cell (i := 2) rfl
        have f2 := BX.frozen 2
        have q3 := BX.cell (i := 3) rfl
        have f3 := BX.frozen 3
        have q4 := BX.cell (i := 4) rfl
        have f4 := BX.frozen 4
        have q5 := BX.cell (i := 5) rfl
        have f5 := BX.frozen 5
        have q6 := BX.cell (i := 6) rfl
        have f6 := BX.frozen 6
        have ql := BX.lt
        have HY6 := Lib.hid (HB2.out.trans (HW6.out.mono HB2.out.size))
        clear HW6 HW7 B2
        rcases hbad with rfl | ⟨rfl, rfl⟩
        · go_wp2_with fail
          have BY : TBox (((((((w6.setCell ⟨w.heap.size, 0, none⟩ (.string ⟨#[]⟩)).setCell ⟨w.heap.size, 1, none⟩ (.int .i64 0)).setCell ⟨w.heap.size, 2, none⟩ (.int .i64 0)).setCell ⟨w.heap.size, 3, none⟩ (.int .i64 0)).setCell ⟨w.heap.size, 4, none⟩ (.int .i64 0)).setCell ⟨w.heap.size, 5, none⟩ (.bool false)).setCell ⟨w.heap.size, 6, none⟩ (.slice none 0 0)) w.heap.size 73 #[.string ⟨#[]⟩, .int .i64 0, .int .i64 0, .int .i64 0, .int .i64 0, .bool false, .slice none 0 0] := (((((((BX.set 0 (.string ⟨#[]⟩)).set 1 (.int .i64 0)).set 2 (.int .i64 0)).set 3 (.int .i64 0)).set 4 (.int .i64 0)).set 5 (.bool false)).set 6 (.slice none 0 0))
          have HY : Below w.heap.size w (((((((w6.setCell ⟨w.heap.size, 0, none⟩ (.string ⟨#[]⟩)).setCell ⟨w.heap.size, 1, none⟩ (.int .i64 0)).setCell ⟨w.heap.size, 2, none⟩ (.int .i64 0)).setCell ⟨w.heap.size, 3, none⟩ (.int .i64 0)).setCell ⟨w.heap.size, 4, none⟩ (.int .i64 0)).setCell ⟨w.heap.size, 5, none⟩ (.bool false)).setCell ⟨w.heap.size, 6, none⟩ (.slice none 0 0)) := (((((((HY6.out.setCell (Nat.le_refl _) (.string ⟨#[]⟩)).setCell (Nat.le_refl _) (.int .i64 0)).setCell (Nat.le_refl _) (.int .i64 0)).setCell (Nat.le_refl _) (.int .i64 0)).setCell (Nat.le_refl _) (.int .i64 0)).setCell (Nat.le_refl _) (.bool false)).setCell (Nat.le_refl _) (.slice none 0 0))
          have R0 := BY.cell (i := 0) rfl
          have R1 := BY.cell (i := 1) rfl
          have R2 := BY.cell (i := 2) rfl
          have R3 := BY.cell (i := 3) rfl
          have R4 := BY.cell (i := 4) rfl
          have R5 := BY.cell (i := 5) rfl
          have R6 := BY.cell (i := 6) rfl
          generalize (((((((w6.setCell ⟨w.heap.size, 0, none⟩ (.string ⟨#[]⟩)).setCell ⟨w.heap.size, 1, none⟩ (.int .i64 0)).setCell ⟨w.heap.size, 2, none⟩ (.int .i64 0)).setCell ⟨w.heap.size, 3, none⟩ (.int .i64 0)).setCell ⟨w.heap.size, 4, none⟩ (.int .i64 0)).setCell ⟨w.heap.size, 5, none⟩ (.bool false)).setCell ⟨w.heap.size, 6, none⟩ (.slice none 0 0)) = W9 at *
          exact bodyPost_ret (v := .tuple #[.agg #[.string ⟨#[]⟩, .int .i64 0, .int .i64 0, .int .i64 0, .int .i64 0, .bool false, .slice none 0 0], .bool false]) (by simp [results, Tryz.results38, go_sem, R0, R1, R2, R3, R4, R5, R6]) rfl (HPO.out _ _ ⟨⟨⟨#[]⟩, 0, 0, 0, 0, false, []⟩, rfl, by rw [HN.out]; rfl, fun r h => (by rw [HN.out] at h; cases h), HY⟩)
        · go_wp2_with fail
          have BY : TBox (((((((w6.setCell ⟨w.heap.size, 0, none⟩ (.string ⟨#[]⟩)).setCell ⟨w.heap.size, 1, none⟩ (.int .i64 0)).setCell ⟨w.heap.size, 2, none⟩ (.int .i64 0)).setCell ⟨w.heap.size, 3, none⟩ (.int .i64 0)).setCell ⟨w.heap.size, 4, none⟩ (.int .i64 0)).setCell ⟨w.heap.size, 5, none⟩ (.bool false)).setCell ⟨w.heap.size, 6, none⟩ (.slice none 0 0)) w.heap.size 73 #[.string ⟨#[]⟩, .int .i64 0, .int .i64 0, .int .i64 0, .int .i64 0, .bool false, .slice none 0 0] := (((((((BX.set 0 (.string ⟨#[]⟩)).set 1 (.int .i64 0)).set 2 (.int .i64 0)).set 3 (.int .i64 0)).set 4 (.int .i64 0)).set 5 (.bool false)).set 6 (.slice none 0 0))
          have HY : Below w.heap.size w (((((((w6.setCell ⟨w.heap.size, 0, none⟩ (.string ⟨#[]⟩)).setCell ⟨w.heap.size, 1, none⟩ (.int .i64 0)).setCell ⟨w.heap.size, 2, none⟩ (.int .i64 0)).setCell ⟨w.heap.size, 3, none⟩ (.int .i64 0)).setCell ⟨w.heap.size, 4, none⟩ (.int .i64 0)).setCell ⟨w.heap.size, 5, none⟩ (.bool false)).setCell ⟨w.heap.size, 6, none⟩ (.slice none 0 0)) := (((((((HY6.out.setCell (Nat.le_refl _) (.string ⟨#[]⟩)).setCell (Nat.le_refl _) (.int .i64 0)).setCell (Nat.le_refl _) (.int .i64 0)).setCell (Nat.le_refl _) (.int .i64 0)).setCell (Nat.le_refl _) (.int .i64 0)).setCell (Nat.le_refl _) (.bool false)).setCell (Nat.le_refl _) (.slice none 0 0))
          have R0 := BY.cell (i := 0) rfl
          have R1 := BY.cell (i := 1) rfl
          have R2 := BY.cell (i := 2) rfl
          have R3 := BY.cell (i := 3) rfl
          have R4 := BY.cell (i := 4) rfl
          have R5 := BY.cell (i := 5) rfl
          have R6 := BY.cell (i := 6) rfl
          generalize (((((((w6.setCell ⟨w.heap.size, 0, none⟩ (.string ⟨#[]⟩)).setCell ⟨w.heap.size, 1, none⟩ (.int .i64 0)).setCell ⟨w.heap.size, 2, none⟩ (.int .i64 0)).setCell ⟨w.heap.size, 3, none⟩ (.int .i64 0)).setCell ⟨w.heap.size, 4, none⟩ (.int .i64 0)).setCell ⟨w.heap.size, 5, none⟩ (.bool false)).setCell ⟨w.heap.size, 6, none⟩ (.slice none 0 0)) = W9 at *
          exact bodyPost_ret (v := .tuple #[.agg #[.string ⟨#[]⟩, .int .i64 0, .int .i64 0, .int .i64 0, .int .i64 0, .bool false, .slice none 0 0], .bool false]) (by simp [results, Tryz.results38, go_sem, R0, R1, R2, R3, R4, R5, R6]) rfl (HPO.out _ _ ⟨⟨⟨#[]⟩, 0, 0, 0, 0, false, []⟩, rfl, by rw [HN.out]; rfl, fun r h => (by rw [HN.out] at h; cases h), HY⟩)
      | some y =>
      obtain ⟨df, R3⟩ := y
      have HX9 := Lib.hid (show RES = t2 b G nv fi df R3 by rw [HX7.out, t1_eq, hO]; rfl)
      have HOS := Lib.hid (optW_some hO)
      clear HX7 hO
      obtain ⟨cb, hcb⟩ : ∃ cb : Bool, (cb = false ∧ df = 0 ∧ R3 = R2 ∧ (R2.length < 2 ∨ ∃ a b R1, R2 = a :: b :: R1 ∧ a ≠ sDflt)) ∨ (cb = true ∧ ∃ b, R2 = sDflt :: b :: R3 ∧ nzL b = some df) := by
        rcases HOS.out with h | h
        · exact ⟨false, .inl ⟨rfl, h⟩⟩
        · exact ⟨true, .inr ⟨rfl, h⟩⟩
      have HOC := Lib.hid hcb
      have HSR9 := Lib.hid (show ∀ x ∈ R3, x.size ≤ 200000 from fun x hx => by
        rcases HOS.out with ⟨_, h, _⟩ | ⟨b, h, _⟩
        · exact HSR7.out x (by rw [← h]; exact hx)
        · exact HSR7.out x (by rw [h]; simp [hx]))
      clear hcb HOS
      go_upto_region 21 with fail
      go_cut [102] (fun s wx => s = .bool cb ∧ w7 = wx)
      case first =>
        rcases HOC.out with ⟨rfl, _, _, h | ⟨a1, b1, R1, e, hne⟩⟩ | ⟨rfl, b2, e, _⟩
        · have hl1 : ¬ (1 : Int) < R2.length := by omega
          clear HOC h
          go_wp2_with fail
          go_meet
          exact ⟨rfl, rfl⟩
        · subst e
          have e0 : w7.cell? ⟨w1.heap.size, off7, none⟩ = some (.string a1) := (HW7.out.cell (p := ⟨w1.heap.size, off7, none⟩) hlt2).trans (row_hd HR7.out)
          have hq : (a1.toList == [100, 101, 102, 97, 117, 108, 116]) = false := beqL hne rfl
          simp only [List.length_cons] at *
          have hl1 : (1 : Int) < (R1.length : Int) + 1 + 1 := by omega
          have hl2 : (0 : Int) < (R1.length : Int) + 1 + 1 := by omega
          have hz5 := HW7.out.size
          clear HOC hne
          go_wp2_with fail
          go_meet
          exact ⟨rfl, rfl⟩
        · subst e
          have e0 : w7.cell? ⟨w1.heap.size, off7, none⟩ = some (.string sDflt) := (HW7.out.cell (p := ⟨w1.heap.size, off7, none⟩) hlt2).trans (row_hd HR7.out)
          unfold sDflt at e0
          simp only [List.length_cons] at *
          have hl1 : (1 : Int) < (R3.length : Int) + 1 + 1 := by omega
          have hl2 : (0 : Int) < (R3.length : Int) + 1 + 1 := by omega
          have hz5 := HW7.out.size
          clear HOC
          go_wp2_with fail
          go_meet
          exact ⟨rfl, rfl⟩
      case rest =>
      obtain ⟨rfl, rfl⟩ := hcut
      go_upto_if 102 with fail
      go_cut [4] (fun s wx => Hid ((∃ off cap, s = .slice (some ⟨w1.heap.size, off, none⟩) R3.length cap ∧ R3.length ≤ cap ∧ RowS w2 w1.heap.size off R3) ∧ TBox wx w2.heap.size 73 #[.string b, .int .i64 G, .int .i64 nv, .int .i64 fi, .int .i64 df, .bool false, .slice none 0 0] ∧ Below w2.heap.size w2 wx))
      case first =>
        rcases HOC.out with ⟨rfl, rfl, rfl, _⟩ | ⟨rfl, b2, rfl, hz⟩
        · clear HOC
          go_wp2_with fail
          go_meet
          exact Lib.hid ⟨⟨_, _, rfl, hcap7, HR7.out⟩, BP7.out, HW7.out⟩
        · clear HOC
          have sb2 : b2.size ≤ 200000 := HSR7.out b2 (by simp)
          obtain ⟨nv2, nf2, hn1, hn2⟩ := lread_f b2 (by omega)
          have CN := Lib.hid hn1
          have e0 : w7.cell? ⟨w1.heap.size, off7, none⟩ = some (.string sDflt) := (HW7.out.cell (p := ⟨w1.heap.size, off7, none⟩) hlt2).trans (row_hd HR7.out)
          have e1 : w7.cell? ⟨w1.heap.size, off7 + 1, none⟩ = some (.string b2) := (HW7.out.cell (p := ⟨w1.heap.size, off7 + 1, none⟩) hlt2).trans (row_hd (row_drop HR7.out))
          unfold sDflt at e0
          simp only [List.length_cons] at *
          have hl1 : (1 : Int) < (R3.length : Int) + 1 + 1 := by omega
          have hl2 : (0 : Int) < (R3.length : Int) + 1 + 1 := by omega
          have hz5 := HW7.out.size
          have hgd := nzL_some hn2 hz
          have hrow2 := row_drop (row_drop HR7.out)
          clear hn1 hn2 hz HSR7 HR7
          obtain ⟨rfl, rfl, hnz⟩ := hgd
          have hnzb : (nv2 == 0) = false := by simpa using hnz
          go_upto_region 22 with fail
          have HRW2 := Lib.hid hrow2
          clear hrow2
          go_wp2_with fail
          refine (CN.out _).mono ?_
          rintro e1 w6 ⟨rfl, hb⟩
          have HW6 := Lib.hid (HW7.out.trans (hb.mono HW7.out.size))
          have BP6 := Lib.hid (BP7.out.below hb)
          clear hb CN e0 e1
          have hlt6 := HW6.out.size
          have BX := BP6.out
          have q0 := BX.cell (i := 0) rfl
          have f0 := BX.frozen 0
          have q1 := BX.cell (i := 1) rfl
          have f1 := BX.frozen 1
          have q2 := BX.cell (i := 2) rfl
          have f2 := BX.frozen 2
          have q3 := BX.cell (i := 3) rfl
          have f3 := BX.frozen 3
          have q4 := BX.cell (i := 4) rfl
          have f4 := BX.frozen 4
          have q5 := BX.cell (i := 5) rfl
          have f5 := BX.frozen 5
          have q6 := BX.cell (i := 6) rfl
          have f6 := BX.frozen 6
          have ql := BX.lt
          have BP8 := Lib.hid (show TBox (w6.setCell ⟨w2.heap.size, 4, none⟩ (.int .i64 nv2)) w2.heap.size 73 #[.string b, .int .i64 G, .int .i64 nv, .int .i64 fi, .int .i64 nv2, .bool false, .slice none 0 0] from BX.set 4 (.int .i64 nv2))
          have HW8 := Lib.hid (HW6.out.setCell (p := ⟨w2.heap.size, 4, none⟩) (Nat.le_refl _) (.int .i64 nv2))
          clear BX BP6 HW6
          by_cases hR0 : R3.length = 0
          · have hR : R3 = [] := List.eq_nil_of_length_eq_zero hR0
            subst hR
            go_wp2_with fail
            all_goals go_meet
            all_goals exact Lib.hid ⟨⟨_, _, rfl, Nat.zero_le _, fun j hj => absurd hj (Nat.not_lt_zero _)⟩, BP8.out, HW8.out⟩
          · have hR1 : ¬ (R3.length : Int) = 0 := by omega
            have hR2 : (0 : Int) < R3.length := by omega
            have hR3 : (0 : Int) ≤ R3.length := by omega
            go_wp2_with fail
            go_meet
            exact Lib.hid ⟨⟨_, _, rfl, by omega, HRW2.out⟩, BP8.out, HW8.out⟩
      case rest =>
      obtain ⟨⟨off9, cap9, rfl, hcap9, hrow⟩, hbp, hhw⟩ := hcut.out
      have HR9 := Lib.hid hrow
      have BP9 := Lib.hid hbp
      have HW9 := Lib.hid hhw
      clear hrow hbp hhw hcut HOC HR7 HSR7 BP7 HW7
      obtain ⟨w9, rfl⟩ : ∃ x, x = wc := ⟨wc, rfl⟩
      have BP0 := BP9
      rcases R3 with _ | ⟨a3, _ | ⟨c3, R4⟩⟩
      · have HN := Lib.hid (show RES = some ⟨b, G, nv, fi, df, false, []⟩ from HX9.out)
        clear HX9 HR9 HSR9
        have BP0 := BP9.out
        have x0 := BP0.cell (i := 0) rfl
        have y0 := BP0.frozen 0
        have x1 := BP0.cell (i := 1) rfl
        have y1 := BP0.frozen 1
        have x2 := BP0.cell (i := 2) rfl
        have y2 := BP0.frozen 2
        have x3 := BP0.cell (i := 3) rfl
        have y3 := BP0.frozen 3
        have x4 := BP0.cell (i := 4) rfl
        have y4 := BP0.frozen 4
        have x5 := BP0.cell (i := 5) rfl
        have y5 := BP0.frozen 5
        have x6 := BP0.cell (i := 6) rfl
        have y6 := BP0.frozen 6
        have xl := BP0.lt
        have BX := B2.out.below HW9.out
        have q0 := BX.cell (i := 0) rfl
        have f0 := BX.frozen 0
        have q1 := BX.cell (i := 1) rfl
        have f1 := BX.frozen 1
        have q2 := BX.cell (i := 2) rfl
        have f2 := BX.frozen 2
        have q3 := BX.cell (i := 3) rfl
        have f3 := BX.frozen 3
        have q4 := BX.cell (i := 4) rfl
        have f4 := BX.frozen 4
        have q5 := BX.cell (i := 5) rfl
        have f5 := BX.frozen 5
        have q6 := BX.cell (i := 6) rfl
        have f6 := BX.frozen 6
        have ql := BX.lt
        have hlt9 := (HW9.out).size
        have HY6 := Lib.hid (HB2.out.trans ((HW9.out).mono HB2.out.size))
        go_wp2_with fail
        have BY : TBox (((((((w9.setCell ⟨w.heap.size, 0, none⟩ (.string b)).setCell ⟨w.heap.size, 1, none⟩ (.int .i64 G)).setCell ⟨w.heap.size, 2, none⟩ (.int .i64 nv)).setCell ⟨w.heap.size, 3, none⟩ (.int .i64 fi)).setCell ⟨w.heap.size, 4, none⟩ (.int .i64 df)).setCell ⟨w.heap.size, 5, none⟩ (.bool false)).setCell ⟨w.heap.size, 6, none⟩ (.slice none 0 0)) w.heap.size 73 #[.string b, .int .i64 G, .int .i64 nv, .int .i64 fi, .int .i64 df, .bool false, .slice none 0 0] := (((((((BX.set 0 (.string b)).set 1 (.int .i64 G)).set 2 (.int .i64 nv)).set 3 (.int .i64 fi)).set 4 (.int .i64 df)).set 5 (.bool false)).set 6 (.slice none 0 0))
        have HY : Below w.heap.size w (((((((w9.setCell ⟨w.heap.size, 0, none⟩ (.string b)).setCell ⟨w.heap.size, 1, none⟩ (.int .i64 G)).setCell ⟨w.heap.size, 2, none⟩ (.int .i64 nv)).setCell ⟨w.heap.size, 3, none⟩ (.int .i64 fi)).setCell ⟨w.heap.size, 4, none⟩ (.int .i64 df)).setCell ⟨w.heap.size, 5, none⟩ (.bool false)).setCell ⟨w.heap.size, 6, none⟩ (.slice none 0 0)) := (((((((HY6.out.setCell (Nat.le_refl _) (.string b)).setCell (Nat.le_refl _) (.int .i64 G)).setCell (Nat.le_refl _) (.int .i64 nv)).setCell (Nat.le_refl _) (.int .i64 fi)).setCell (Nat.le_refl _) (.int .i64 df)).setCell (Nat.le_refl _) (.bool false)).setCell (Nat.le_refl _) (.slice none 0 0))
        have R0 := BY.cell (i := 0) rfl
        have R1 := BY.cell (i := 1) rfl
        have R2 := BY.cell (i := 2) rfl
        have R3 := BY.cell (i := 3) rfl
        have R4 := BY.cell (i := 4) rfl
        have R5 := BY.cell (i := 5) rfl
        have R6 := BY.cell (i := 6) rfl
        generalize (((((((w9.setCell ⟨w.heap.size, 0, none⟩ (.string b)).setCell ⟨w.heap.size, 1, none⟩ (.int .i64 G)).setCell ⟨w.heap.size, 2, none⟩ (.int .i64 nv)).setCell ⟨w.heap.size, 3, none⟩ (.int .i64 fi)).setCell ⟨w.heap.size, 4, none⟩ (.int .i64 df)).setCell ⟨w.heap.size, 5, none⟩ (.bool false)).setCell ⟨w.heap.size, 6, none⟩ (.slice none 0 0)) = W9 at *
        exact bodyPost_ret (v := .tuple #[.agg #[.string b, .int .i64 G, .int .i64 nv, .int .i64 fi, .int .i64 df, .bool false, .slice none 0 0], .bool true]) (by simp [results, Tryz.results38, go_sem, R0, R1, R2, R3, R4, R5, R6]) rfl (HPO.out _ _ ⟨⟨b, G, nv, fi, df, false, []⟩, rfl, by rw [HN.out]; rfl, fun r h => (by rw [HN.out] at h; exact (Option.some.inj h).symm), HY⟩)
      · have e0 : w9.cell? ⟨w1.heap.size, off9, none⟩ = some (.string a3) := (HW9.out.cell (p := ⟨w1.heap.size, off9, none⟩) hlt2).trans (row_hd HR9.out)
        have hz5 := HW9.out.size
        by_cases ha : a3 = sSnap
        · have HN := Lib.hid (show RES = some ⟨b, G, nv, fi, df, true, []⟩ by rw [HX9.out]; unfold t2 snapW; simp only; rw [if_pos ha]; rfl)
          subst ha
          unfold sSnap at e0
          clear HX9 HR9 HSR9
          have BQ := BP9.out
          have x0 := BQ.cell (i := 0) rfl
          have y0 := BQ.frozen 0
          have x1 := BQ.cell (i := 1) rfl
          have y1 := BQ.frozen 1
          have x2 := BQ.cell (i := 2) rfl
          have y2 := BQ.frozen 2
          have x3 := BQ.cell (i := 3) rfl
          have y3 := BQ.frozen 3
          have x4 := BQ.cell (i := 4) rfl
          have y4 := BQ.frozen 4
          have x5 := BQ.cell (i := 5) rfl
          have y5 := BQ.frozen 5
          have x6 := BQ.cell (i := 6) rfl
          have y6 := BQ.frozen 6
          have xl := BQ.lt
          have BP10 := Lib.hid (show TBox (w9.setCell ⟨w2.heap.size, 5, none⟩ (.bool true)) w2.heap.size 73 #[.string b, .int .i64 G, .int .i64 nv, .int .i64 fi, .int .i64 df, .bool true, .slice none 0 0] from BQ.set 5 (.bool true))
          have HW10 := Lib.hid (HW9.out.setCell (p := ⟨w2.heap.size, 5, none⟩) (Nat.le_refl _) (.bool true))
          clear BQ
          go_upto_region 30 with fail
          obtain ⟨w10, hw10⟩ : ∃ x : World, x = w9.setCell ⟨w2.heap.size, 5, none⟩ (.bool true) := ⟨_, rfl⟩
          rw [← hw10] at BP10 HW10 ⊢
          clear hw10 e0 x0 y0 x1 y1 x2 y2 x3 y3 x4 y4 x5 y5 x6 y6 xl BP9 HW9
          have BP0 := BP10.out
          have x0 := BP0.cell (i := 0) rfl
          have y0 := BP0.frozen 0
          have x1 := BP0.cell (i := 1) rfl
          have y1 := BP0.frozen 1
          have x2 := BP0.cell (i := 2) rfl
          have y2 := BP0.frozen 2
          have x3 := BP0.cell (i := 3) rfl
          have y3 := BP0.frozen 3
          have x4 := BP0.cell (i := 4) rfl
          have y4 := BP0.frozen 4
          have x5 := BP0.cell (i := 5) rfl
          have y5 := BP0.frozen 5
          have x6 := BP0.cell (i := 6) rfl
          have y6 := BP0.frozen 6
          have xl := BP0.lt
          have BX := B2.out.below HW10.out
          have q0 := BX.cell (i := 0) rfl
          have f0 := BX.frozen 0
          have q1 := BX.cell (i := 1) rfl
          have f1 := BX.frozen 1
          have q2 := BX.cell (i := 2) rfl
          have f2 := BX.frozen 2
          have q3 := BX.cell (i := 3) rfl
          have f3 := BX.frozen 3
          have q4 := BX.cell (i := 4) rfl
          have f4 := BX.frozen 4
          have q5 := BX.cell (i := 5) rfl
          have f5 := BX.frozen 5
          have q6 := BX.cell (i := 6) rfl
          have f6 := BX.frozen 6
          have ql := BX.lt
          have hlt9 := (HW10.out).size
          have HY6 := Lib.hid (HB2.out.trans ((HW10.out).mono HB2.out.size))
          go_wp2_with fail
          have BY : TBox (((((((w10.setCell ⟨w.heap.size, 0, none⟩ (.string b)).setCell ⟨w.heap.size, 1, none⟩ (.int .i64 G)).setCell ⟨w.heap.size, 2, none⟩ (.int .i64 nv)).setCell ⟨w.heap.size, 3, none⟩ (.int .i64 fi)).setCell ⟨w.heap.size, 4, none⟩ (.int .i64 df)).setCell ⟨w.heap.size, 5, none⟩ (.bool true)).setCell ⟨w.heap.size, 6, none⟩ (.slice none 0 0)) w.heap.size 73 #[.string b, .int .i64 G, .int .i64 nv, .int .i64 fi, .int .i64 df, .bool true, .slice none 0 0] := (((((((BX.set 0 (.string b)).set 1 (.int .i64 G)).set 2 (.int .i64 nv)).set 3 (.int .i64 fi)).set 4 (.int .i64 df)).set 5 (.bool true)).set 6 (.slice none 0 0))
          have HY : Below w.heap.size w (((((((w10.setCell ⟨w.heap.size, 0, none⟩ (.string b)).setCell ⟨w.heap.size, 1, none⟩ (.int .i64 G)).setCell ⟨w.heap.size, 2, none⟩ (.int .i64 nv)).setCell ⟨w.heap.size, 3, none⟩ (.int .i64 fi)).setCell ⟨w.heap.size, 4, none⟩ (.int .i64 df)).setCell ⟨w.heap.size, 5, none⟩ (.bool true)).setCell ⟨w.heap.size, 6, none⟩ (.slice none 0 0)) := (((((((HY6.out.setCell (Nat.le_refl _) (.string b)).setCell (Nat.le_refl _) (.int .i64 G)).setCell (Nat.le_refl _) (.int .i64 nv)).setCell (Nat.le_refl _) (.int .i64 fi)).setCell (Nat.le_refl _) (.int .i64 df)).setCell (Nat.le_refl _) (.bool true)).setCell (Nat.le_refl _) (.slice none 0 0))
          have R0 := BY.cell (i := 0) rfl
          have R1 := BY.cell (i := 1) rfl
          have R2 := BY.cell (i := 2) rfl
          have R3 := BY.cell (i := 3) rfl
          have R4 := BY.cell (i := 4) rfl
          have R5 := BY.cell (i := 5) rfl
          have R6 := BY.cell (i := 6) rfl
          generalize (((((((w10.setCell ⟨w.heap.size, 0, none⟩ (.string b)).setCell ⟨w.heap.size, 1, none⟩ (.int .i64 G)).setCell ⟨w.heap.size, 2, none⟩ (.int .i64 nv)).setCell ⟨w.heap.size, 3, none⟩ (.int .i64 fi)).setCell ⟨w.heap.size, 4, none⟩ (.int .i64 df)).setCell ⟨w.heap.size, 5, none⟩ (.bool true)).setCell ⟨w.heap.size, 6, none⟩ (.slice none 0 0)) = W9 at *
          exact bodyPost_ret (v := .tuple #[.agg #[.string b, .int .i64 G, .int .i64 nv, .int .i64 fi, .int .i64 df, .bool true, .slice none 0 0], .bool true]) (by simp [results, Tryz.results38, go_sem, R0, R1, R2, R3, R4, R5, R6]) rfl (HPO.out _ _ ⟨⟨b, G, nv, fi, df, true, []⟩, rfl, by rw [HN.out]; rfl, fun r h => (by rw [HN.out] at h; exact (Option.some.inj h).symm), HY⟩)
        · have HN := Lib.hid (show RES = none by rw [HX9.out]; unfold t2 snapW; simp only; rw [if_neg ha]; rfl)
          have hq : (a3.toList == [115, 110, 97, 112]) = false := beqL ha rfl
          clear HX9 HR9 HSR9 ha
          have BP0 := BP9.out
          have x0 := BP0.cell (i := 0) rfl
          have y0 := BP0.frozen 0
          have x1 := BP0.cell (i := 1) rfl
          have y1 := BP0.frozen 1
          have x2 := BP0.cell (i := 2) rfl
          have y2 := BP0.frozen 2
          have x3 := BP0.cell (i := 3) rfl
          have y3 := BP0.frozen 3
          have x4 := BP0.cell (i := 4) rfl
          have y4 := BP0.frozen 4
          have x5 := BP0.cell (i := 5) rfl
          have y5 := BP0.frozen 5
          have x6 := BP0.cell (i := 6) rfl
          have y6 := BP0.frozen 6
          have xl := BP0.lt
          have BX := B2.out.below HW9.out
          have q0 := BX.cell (i := 0) rfl
          have f0 := BX.frozen 0
          have q1 := BX.cell (i := 1) rfl
          have f1 := BX.frozen 1
          have q2 := BX.cell (i := 2) rfl
          have f2 := BX.frozen 2
          have q3 := BX.cell (i := 3) rfl
          have f3 := BX.frozen 3
          have q4 := BX.cell (i := 4) rfl
          have f4 := BX.frozen 4
          have q5 := BX.cell (i := 5) rfl
          have f5 := BX.frozen 5
          have q6 := BX.cell (i := 6) rfl
          have f6 := BX.frozen 6
          have ql := BX.lt
          have hlt9 := (HW9.out).size
          have HY6 := Lib.hid (HB2.out.trans ((HW9.out).mono HB2.out.size))
          go_wp2_with fail
          have BY : TBox (((((((w9.setCell ⟨w.heap.size, 0, none⟩ (.string b)).setCell ⟨w.heap.size, 1, none⟩ (.int .i64 G)).setCell ⟨w.heap.size, 2, none⟩ (.int .i64 nv)).setCell ⟨w.heap.size, 3, none⟩ (.int .i64 fi)).setCell ⟨w.heap.size, 4, none⟩ (.int .i64 df)).setCell ⟨w.heap.size, 5, none⟩ (.bool false)).setCell ⟨w.heap.size, 6, none⟩ (.slice none 0 0)) w.heap.size 73 #[.string b, .int .i64 G, .int .i64 nv, .int .i64 fi, .int .i64 df, .bool false, .slice none 0 0] := (((((((BX.set 0 (.string b)).set 1 (.int .i64 G)).set 2 (.int .i64 nv)).set 3 (.int .i64 fi)).set 4 (.int .i64 df)).set 5 (.bool false)).set 6 (.slice none 0 0))
          have HY : Below w.heap.size w (((((((w9.setCell ⟨w.heap.size, 0, none⟩ (.string b)).setCell ⟨w.heap.size, 1, none⟩ (.int .i64 G)).setCell ⟨w.heap.size, 2, none⟩ (.int .i64 nv)).setCell ⟨w.heap.size, 3, none⟩ (.int .i64 fi)).setCell ⟨w.heap.size, 4, none⟩ (.int .i64 df)).setCell ⟨w.heap.size, 5, none⟩ (.bool false)).setCell ⟨w.heap.size, 6, none⟩ (.slice none 0 0)) := (((((((HY6.out.setCell (Nat.le_refl _) (.string b)).setCell (Nat.le_refl _) (.int .i64 G)).setCell (Nat.le_refl _) (.int .i64 nv)).setCell (Nat.le_refl _) (.int .i64 fi)).setCell (Nat.le_refl _) (.int .i64 df)).setCell (Nat.le_refl _) (.bool false)).setCell (Nat.le_refl _) (.slice none 0 0))
          have R0 := BY.cell (i := 0) rfl
          have R1 := BY.cell (i := 1) rfl
          have R2 := BY.cell (i := 2) rfl
          have R3 := BY.cell (i := 3) rfl
          have R4 := BY.cell (i := 4) rfl
          have R5 := BY.cell (i := 5) rfl
          have R6 := BY.cell (i := 6) rfl
          generalize (((((((w9.setCell ⟨w.heap.size, 0, none⟩ (.string b)).setCell ⟨w.heap.size, 1, none⟩ (.int .i64 G)).setCell ⟨w.heap.size, 2, none⟩ (.int .i64 nv)).setCell ⟨w.heap.size, 3, none⟩ (.int .i64 fi)).setCell ⟨w.heap.size, 4, none⟩ (.int .i64 df)).setCell ⟨w.heap.size, 5, none⟩ (.bool false)).setCell ⟨w.heap.size, 6, none⟩ (.slice none 0 0)) = W9 at *
          exact bodyPost_ret (v := .tuple #[.agg #[.string b, .int .i64 G, .int .i64 nv, .int .i64 fi, .int .i64 df, .bool false, .slice none 0 0], .bool false]) (by simp [results, Tryz.results38, go_sem, R0, R1, R2, R3, R4, R5, R6]) rfl (HPO.out _ _ ⟨⟨b, G, nv, fi, df, false, []⟩, rfl, by rw [HN.out]; rfl, fun r h => (by rw [HN.out] at h; cases h), HY⟩)
      · have HN := Lib.hid (show RES = none from HX9.out)
        simp only [List.length_cons] at *
        have hl1 : ¬ ((R4.length : Int) + 1 + 1 = 1) := by omega
        have hl2 : ¬ ((R4.length : Int) + 1 + 1 = 0) := by omega
        have hl3 : (((R4.length : Int) + 1 + 1) == 1) = false := by simpa using hl1
        have hl4 : (((R4.length : Int) + 1 + 1) == 0) = false := by simpa using hl2
        clear HX9 HR9 HSR9
        have BP0 := BP9.out
        have x0 := BP0.cell (i := 0) rfl
        have y0 := BP0.frozen 0
        have x1 := BP0.cell (i := 1) rfl
        have y1 := BP0.frozen 1
        have x2 := BP0.cell (i := 2) rfl
        have y2 := BP0.frozen 2
        have x3 := BP0.cell (i := 3) rfl
        have y3 := BP0.frozen 3
        have x4 := BP0.cell (i := 4) rfl
        have y4 := BP0.frozen 4
        have x5 := BP0.cell (i := 5) rfl
        have y5 := BP0.frozen 5
        have x6 := BP0.cell (i := 6) rfl
        have y6 := BP0.frozen 6
        have xl := BP0.lt
        have BX := B2.out.below HW9.out
        have q0 := BX.cell (i := 0) rfl
        have f0 := BX.frozen 0
        have q1 := BX.cell (i := 1) rfl
        have f1 := BX.frozen 1
        have q2 := BX.cell (i := 2) rfl
        have f2 := BX.frozen 2
        have q3 := BX.cell (i := 3) rfl
        have f3 := BX.frozen 3
        have q4 := BX.cell (i := 4) rfl
        have f4 := BX.frozen 4
        have q5 := BX.cell (i := 5) rfl
        have f5 := BX.frozen 5
        have q6 := BX.cell (i := 6) rfl
        have f6 := BX.frozen 6
        have ql := BX.lt
        have hlt9 := (HW9.out).size
        have HY6 := Lib.hid (HB2.out.trans ((HW9.out).mono HB2.out.size))
        go_wp2_with fail
        have BY : TBox (((((((w9.setCell ⟨w.heap.size, 0, none⟩ (.string b)).setCell ⟨w.heap.size, 1, none⟩ (.int .i64 G)).setCell ⟨w.heap.size, 2, none⟩ (.int .i64 nv)).setCell ⟨w.heap.size, 3, none⟩ (.int .i64 fi)).setCell ⟨w.heap.size, 4, none⟩ (.int .i64 df)).setCell ⟨w.heap.size, 5, none⟩ (.bool false)).setCell ⟨w.heap.size, 6, none⟩ (.slice none 0 0)) w.heap.size 73 #[.string b, .int .i64 G, .int .i64 nv, .int .i64 fi, .int .i64 df, .bool false, .slice none 0 0] := (((((((BX.set 0 (.string b)).set 1 (.int .i64 G)).set 2 (.int .i64 nv)).set 3 (.int .i64 fi)).set 4 (.int .i64 df)).set 5 (.bool false)).set 6 (.slice none 0 0))
        have HY : Below w.heap.size w (((((((w9.setCell ⟨w.heap.size, 0, none⟩ (.string b)).setCell ⟨w.heap.size, 1, none⟩ (.int .i64 G)).setCell ⟨w.heap.size, 2, none⟩ (.int .i64 nv)).setCell ⟨w.heap.size, 3, none⟩ (.int .i64 fi)).setCell ⟨w.heap.size, 4, none⟩ (.int .i64 df)).setCell ⟨w.heap.size, 5, none⟩ (.bool false)).setCell ⟨w.heap.size, 6, none⟩ (.slice none 0 0)) := (((((((HY6.out.setCell (Nat.le_refl _) (.string b)).setCell (Nat.le_refl _) (.int .i64 G)).setCell (Nat.le_refl _) (.int .i64 nv)).setCell (Nat.le_refl _) (.int .i64 fi)).setCell (Nat.le_refl _) (.int .i64 df)).setCell (Nat.le_refl _) (.bool false)).setCell (Nat.le_refl _) (.slice none 0 0))
        have R0 := BY.cell (i := 0) rfl
        have R1 := BY.cell (i := 1) rfl
        have R2 := BY.cell (i := 2) rfl
        have R3 := BY.cell (i := 3) rfl
        have R4 := BY.cell (i := 4) rfl
        have R5 := BY.cell (i := 5) rfl
        have R6 := BY.cell (i := 6) rfl
        generalize (((((((w9.setCell ⟨w.heap.size, 0, none⟩ (.string b)).setCell ⟨w.heap.size, 1, none⟩ (.int .i64 G)).setCell ⟨w.heap.size, 2, none⟩ (.int .i64 nv)).setCell ⟨w.heap.size, 3, none⟩ (.int .i64 fi)).setCell ⟨w.heap.size, 4, none⟩ (.int .i64 df)).setCell ⟨w.heap.size, 5, none⟩ (.bool false)).setCell ⟨w.heap.size, 6, none⟩ (.slice none 0 0)) = W9 at *
        exact bodyPost_ret (v := .tuple #[.agg #[.string b, .int .i64 G, .int .i64 nv, .int .i64 fi, .int .i64 df, .bool false, .slice none 0 0], .bool false]) (by simp [results, Tryz.results38, go_sem, R0, R1, R2, R3, R4, R5, R6]) rfl (HPO.out _ _ ⟨⟨b, G, nv, fi, df, false, []⟩, rfl, by rw [HN.out]; rfl, fun r h => (by rw [HN.out] at h; cases h), HY⟩)
end Go.Proofs.YtppbagllhmeenaaGreatDoor
