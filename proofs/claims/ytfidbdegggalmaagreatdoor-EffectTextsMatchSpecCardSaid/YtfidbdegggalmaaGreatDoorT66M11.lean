/- What effects' texts write of levels and numbers, on both sides. -/
import Derived.Test.YtfidbdegggalmaaGreatDoorT66M06
import Derived.Test.YtfidbdegggalmaaGreatDoorT66M10
import Derived.Lib.ItoaLen

namespace Go.Proofs.YtfidbdegggalmaaGreatDoor
open Go.RowKit
open Classical
set_option linter.unusedVariables false
set_option linter.unusedSimpArgs false

/-- the numeral of a number -/
def itT (n : Int) : ByteArray := ⟨(Lib.itoa n).toArray⟩
theorem itT_le (n : Int) (h0 : -9223372036854775808 ≤ n) (h1 : n ≤ 9223372036854775807) : (itT n).size ≤ 21 := by
  have := Lib.itoa_length_le n h0 h1
  unfold itT
  rw [Lib.size_eq]
  simpa using this
theorem itoa_int (n : Int) (w : World) (h0 : -9223372036854775808 ≤ n) (h1 : n ≤ 9223372036854775807) (hT : TextW w) :
    Calls Tryz.prog 94 #[.int .i64 n] w fun e w' => e = .returned (.string (itT n)) ∧ Below w.heap.size w w' := by
  refine (Tryz.strconv_Itoa n h0 h1 w hT.pow).mono ?_
  rintro e w' ⟨rfl, k, os, rfl⟩
  exact ⟨rfl, Lib.below_grow _ w (Nat.le_refl _) k os⟩

/-- the text of a level -/
noncomputable def showT (n : Int) : ByteArray :=
  if n = 0 then ⟨#[111, 117, 116]⟩ else if n = 65535 then ⟨#[102, 117, 108, 108]⟩
  else if rnd (rnd (100 * n) 65535 * 65535) 100 = n then ⟨(Lib.decDigits (rnd (100 * n) 65535).toNat ++ [37]).toArray⟩ else ⟨(35 :: Lib.decDigits n.toNat).toArray⟩
theorem ba_of {a : ByteArray} {l : List UInt8} (h : a.data.toList = l) : a = ⟨l.toArray⟩ := by
  obtain ⟨⟨x⟩⟩ := a
  simp at h
  subst h
  rfl
theorem pct_nat {n : Int} (h0 : 0 < n) (h1 : n < 65535) : rnd (100 * n) 65535 = ((rnd (100 * n) 65535).toNat : Int) ∧ (rnd (100 * n) 65535).toNat ≤ 100 := by
  have h2 : 0 ≤ rnd (100 * n) 65535 ∧ rnd (100 * n) 65535 ≤ 100 := by unfold rnd; omega
  omega
theorem showT_le (n : Int) (h0 : 0 ≤ n) (h1 : n ≤ 65535) : (showT n).size ≤ 6 := by
  unfold showT
  by_cases c0 : n = 0
  · rw [if_pos c0]; decide
  by_cases c1 : n = 65535
  · rw [if_neg c0, if_pos c1]; decide
  by_cases c2 : rnd (rnd (100 * n) 65535 * 65535) 100 = n
  · rw [if_neg c0, if_neg c1, if_pos c2, Lib.size_eq]
    have := (dd_len 2 (rnd (100 * n) 65535).toNat (by have := (pct_nat (n := n) (by omega) (by omega)).2; omega)).2
    simp
    omega
  · rw [if_neg c0, if_neg c1, if_neg c2, Lib.size_eq]
    have := (dd_len 4 n.toNat (by omega)).2
    simp
    omega

/-- the word of a form -/
def formT (k : Nat) : ByteArray := if k = 1 then ⟨#[116, 114, 105, 97, 110, 103, 108, 101]⟩ else if k = 2 then ⟨#[117, 112]⟩ else if k = 3 then ⟨#[100, 111, 119, 110]⟩ else if k = 4 then ⟨#[115, 113, 117, 97, 114, 101]⟩ else if k = 5 then ⟨#[115, 111, 102, 116]⟩ else if k = 6 then ⟨#[99, 104, 97, 110, 99, 101]⟩ else ⟨#[115, 116, 101, 112, 115]⟩
theorem formT_le (k : Nat) : (formT k).size ≤ 8 := by
  unfold formT
  repeat' split
  all_goals decide
set_option maxHeartbeats 1000000 in
theorem formWord_any (k : Nat) (w : World) (h1 : 1 ≤ k) (h7 : k ≤ 7) :
    Calls Tryz.prog 20 #[.int .i64 k] w fun e w' => e = .returned (.string (formT k)) ∧ w = w' := by
  have hk : k = 1 ∨ k = 2 ∨ k = 3 ∨ k = 4 ∨ k = 5 ∨ k = 6 ∨ k = 7 := by omega
  rcases hk with rfl | rfl | rfl | rfl | rfl | rfl | rfl
  all_goals
    go_enter Tryz.func20, Tryz.ntmps20
    go_wp2
    go_ret
    exact ⟨rfl, rfl⟩

/-- the text of an effect, piece by piece -/
noncomputable def t0 (form : Nat) (low high : Int) : ByteArray := (((formT form ++ (⟨#[32, 102, 114, 111, 109, 32]⟩ : ByteArray)) ++ showT low) ++ (⟨#[32, 116, 111, 32]⟩ : ByteArray)) ++ showT high
def tCyc (form cycle : Int) (x : ByteArray) : ByteArray := if form = 7 then x else x ++ ((⟨#[32, 99, 121, 99, 108, 101, 32]⟩ : ByteArray) ++ itT cycle)
def tWid (form width : Int) (x : ByteArray) : ByteArray := if form = 4 then x ++ ((⟨#[32, 119, 105, 100, 116, 104, 32]⟩ : ByteArray) ++ itT width) else x
def tSpr (spread : Int) (x : ByteArray) : ByteArray := if spread = 0 then x else x ++ ((⟨#[32, 115, 112, 114, 101, 97, 100, 32]⟩ : ByteArray) ++ itT spread)
def tBack (b : Bool) (x : ByteArray) : ByteArray := if b = true then x ++ (⟨#[32, 98, 97, 99, 107]⟩ : ByteArray) else x
def tRel (b : Bool) (x : ByteArray) : ByteArray := if b = true then x ++ (⟨#[32, 114, 101, 108, 97, 116, 105, 118, 101]⟩ : ByteArray) else x
noncomputable def pieceE (s : Stp) : ByteArray := (((((⟨#[32]⟩ : ByteArray) ++ showT s.lv) ++ (⟨#[58]⟩ : ByteArray)) ++ itT s.hold) ++ (⟨#[58]⟩ : ByteArray)) ++ itT s.fade
noncomputable def strE (b : ByteArray) (l : List Stp) : ByteArray := l.foldl (fun x s => x ++ pieceE s) b
theorem strE_take (b : ByteArray) (l : List Stp) (k : Nat) (h : k < l.length) : strE b (l.take (k + 1)) = strE b (l.take k) ++ pieceE l[k] := by
  unfold strE
  rw [List.take_succ_eq_append_getElem h, List.foldl_append]
  rfl
theorem pieceE_le (s : Stp) (h : stpB s = true) : (pieceE s).size ≤ 60 := by
  obtain ⟨h1, h2, h3⟩ := stpB_le h
  have a1 := showT_le s.lv h1.1 h1.2
  have a2 := itT_le s.hold (by omega) (by omega)
  have a3 := itT_le s.fade (by omega) (by omega)
  have e1 : (⟨#[32]⟩ : ByteArray).size = 1 := rfl
  have e2 : (⟨#[58]⟩ : ByteArray).size = 1 := rfl
  unfold pieceE
  simp only [ByteArray.size_append, e1, e2]
  omega
theorem strE_le (b : ByteArray) (l : List Stp) (h : l.all stpB = true) : ∀ k, k ≤ l.length → (strE b (l.take k)).size ≤ b.size + 60 * k := by
  intro k
  induction k with
  | zero => intro _; simp [strE]
  | succ k ih =>
    intro hk
    rw [strE_take b l k (by omega), ByteArray.size_append]
    have := ih (by omega)
    have := pieceE_le l[k] (List.all_eq_true.1 h _ (List.getElem_mem _))
    omega
noncomputable def effT (form : Nat) (low high cycle width spread : Int) (back rel : Bool) (l : List Stp) : ByteArray :=
  strE (tRel rel (tBack back (tSpr spread (tWid form width (tCyc form cycle (t0 form low high)))))) l

/-- what is known of an effect without a fault -/
theorem chk_zero {form low high cycle width spread : Int} {l : List Stp} (h : chkF form low high cycle width spread l = 0) :
    (1 ≤ form ∧ form ≤ 7) ∧ (0 ≤ low ∧ low ≤ 65535) ∧ (0 ≤ high ∧ high ≤ 65535) ∧ low ≤ high ∧ (0 ≤ cycle ∧ cycle ≤ 3600000) ∧ (0 ≤ width ∧ width ≤ 1000) ∧ (-10000 ≤ spread ∧ spread ≤ 10000) ∧ l.length ≤ 50 ∧ l.all stpB = true ∧ (form ≠ 7 → l.length = 0) ∧ (form = 7 → cycle = 0) := by
  have e0 : 1 ≤ form ∧ form ≤ 7 := by
    by_cases c : inR form 1 7 = true
    · simpa [inR] using c
    · simp [chkF, chkB, c] at h
  by_cases f7 : form = 7
  · subst f7
    simp only [chkF, chkB] at h
    have fb : inR 7 1 7 = true := by decide
    rw [fb] at h
    simp only [Bool.not_true, Bool.false_eq_true, if_false, beq_self_eq_true, Bool.true_and, Bool.not_false, Bool.false_and, Bool.or_false] at h
    split at h
    · omega
    · rename_i h1
      split at h
      · omega
      · rename_i h2
        split at h
        · omega
        · rename_i h3
          split at h
          · omega
          · split at h
            · omega
            · rename_i h5
              split at h
              · omega
              · rename_i h6
                simp [inR] at h1 h2 h3 h5 h6
                have hc : cycle = 0 := by omega
                refine ⟨e0, by omega, by omega, by omega, by omega, by omega, by omega, by omega, by simpa using h6, by omega, fun _ => hc⟩
  · simp only [chkF, chkB] at h
    have fb : inR form 1 7 = true := by simpa [inR] using e0
    have g7 : (form == 7) = false := by simpa using f7
    rw [fb, g7] at h
    simp only [Bool.not_true, Bool.false_eq_true, if_false, Bool.false_and, Bool.or_false, Bool.not_false, Bool.true_and] at h
    split at h
    · omega
    · rename_i h1
      split at h
      · omega
      · rename_i h2
        split at h
        · omega
        · rename_i h3
          simp [inR] at h1 h2 h3
          have hl : l.length = 0 := by
            have := h1.2
            simpa using this
          have hn : l = [] := List.length_eq_zero_iff.1 hl
          refine ⟨e0, by omega, by omega, by omega, by omega, by omega, by omega, by omega, by rw [hn]; rfl, fun _ => hl, fun h => absurd h f7⟩
end Go.Proofs.YtfidbdegggalmaaGreatDoor
