/- The fault of a running effect; words of its check. -/
import Derived.Test.YtopmdeefcjdadaaRun
import Derived.Test.YtopmdeefcjdadaaEfCheck
namespace Go.Proofs.Ytopmdeefcjdadaa
open Go.RowKit
set_option linter.unusedVariables false
set_option linter.unusedSimpArgs false

theorem row2r {k : IntKind} {W : World} {b : Nat} {x y : Int} (h1 : W.cell? ⟨b, 0, none⟩ = some (.int k x)) (h2 : W.cell? ⟨b, 1, none⟩ = some (.int k y)) : RowAt k W b 0 [x, y] := by
  intro i h
  match i, h with
  | 0, _ => simpa using h1
  | 1, _ => simpa using h2
theorem row3r {k : IntKind} {W : World} {b : Nat} {x y z : Int} (h1 : W.cell? ⟨b, 0, none⟩ = some (.int k x)) (h2 : W.cell? ⟨b, 1, none⟩ = some (.int k y)) (h3 : W.cell? ⟨b, 2, none⟩ = some (.int k z)) : RowAt k W b 0 [x, y, z] := by
  intro i h
  match i, h with
  | 0, _ => simpa using h1
  | 1, _ => simpa using h2
  | 2, _ => simpa using h3
theorem row4r {k : IntKind} {W : World} {b : Nat} {x y z u : Int} (h1 : W.cell? ⟨b, 0, none⟩ = some (.int k x)) (h2 : W.cell? ⟨b, 1, none⟩ = some (.int k y)) (h3 : W.cell? ⟨b, 2, none⟩ = some (.int k z)) (h4 : W.cell? ⟨b, 3, none⟩ = some (.int k u)) : RowAt k W b 0 [x, y, z, u] := by
  intro i h
  match i, h with
  | 0, _ => simpa using h1
  | 1, _ => simpa using h2
  | 2, _ => simpa using h3
  | 3, _ => simpa using h4
def fi2 (x y : Int) : Int := if x = 0 then y else x
def fi3 (x y z : Int) : Int := if x = 0 then fi2 y z else x
def fi4 (x y z u : Int) : Int := if x = 0 then fi3 y z u else x
theorem fi2_eq (x y : Int) : firstF [x, y] = fi2 x y := by
  simp only [firstF, fi2]
  split
  · split <;> simp_all
  · rfl
theorem fi3_eq (x y z : Int) : firstF [x, y, z] = fi3 x y z := by
  unfold fi3
  rw [← fi2_eq]
  rfl
theorem fi4_eq (x y z u : Int) : firstF [x, y, z, u] = fi4 x y z u := by
  unfold fi4
  rw [← fi3_eq]
  rfl
theorem first_2 (b : Nat) (x y : Int) (W : World) (h1 : W.cell? ⟨b, 0, none⟩ = some (.int .i64 x)) (h2 : W.cell? ⟨b, 1, none⟩ = some (.int .i64 y)) :
    Calls Try.prog 26 #[.slice (some ⟨b, 0, none⟩) 2 2] W fun e w' => e = .returned (.int .i64 (fi2 x y)) ∧ W = w' := by
  rw [← fi2_eq]
  exact first_any b 0 2 [x, y] W (by simp) (row2r h1 h2)
theorem first_3 (b : Nat) (x y z : Int) (W : World) (h1 : W.cell? ⟨b, 0, none⟩ = some (.int .i64 x)) (h2 : W.cell? ⟨b, 1, none⟩ = some (.int .i64 y)) (h3 : W.cell? ⟨b, 2, none⟩ = some (.int .i64 z)) :
    Calls Try.prog 26 #[.slice (some ⟨b, 0, none⟩) 3 3] W fun e w' => e = .returned (.int .i64 (fi3 x y z)) ∧ W = w' := by
  rw [← fi3_eq]
  exact first_any b 0 3 [x, y, z] W (by simp) (row3r h1 h2 h3)
theorem first_4 (b : Nat) (x y z u : Int) (W : World) (h1 : W.cell? ⟨b, 0, none⟩ = some (.int .i64 x)) (h2 : W.cell? ⟨b, 1, none⟩ = some (.int .i64 y)) (h3 : W.cell? ⟨b, 2, none⟩ = some (.int .i64 z)) (h4 : W.cell? ⟨b, 3, none⟩ = some (.int .i64 u)) :
    Calls Try.prog 26 #[.slice (some ⟨b, 0, none⟩) 4 4] W fun e w' => e = .returned (.int .i64 (fi4 x y z u)) ∧ W = w' := by
  rw [← fi4_eq]
  exact first_any b 0 4 [x, y, z, u] W (by simp) (row4r h1 h2 h3 h4)
set_option maxHeartbeats 400000 in
theorem eTime_R (n : Int) (w : World) : Calls Try.prog 29 #[.int .i64 n] w fun e w' => e = .returned (.bool (inR n 0 36000000)) ∧ w = w' := by
  go_enter Try.func29, Try.ntmps29
  go_wp2_with (go_at_call 30; refine (within_R _ _ _ _).mono ?_; rintro e w' ⟨rfl, rfl⟩)
  go_ret
  exact ⟨rfl, rfl⟩
set_option maxHeartbeats 400000 in
theorem rTime_R (n : Int) (w : World) : Calls Try.prog 36 #[.int .i64 n] w fun e w' => e = .returned (.bool (inR n 0 36000000)) ∧ w = w' := by
  go_enter Try.func36, Try.ntmps36
  go_wp2_with (go_at_call 38; refine (rwithin_R _ _ _ _).mono ?_; rintro e w' ⟨rfl, rfl⟩)
  go_ret
  exact ⟨rfl, rfl⟩

/-- the first fault of rates -/
def rF (start : Int) : Option Int → List (Int × Int) → Int
  | _, [] => 0
  | p, r :: l => if inR r.1 start 36000000 && inR r.2 0 1000 then (if p.any (fun q => decide (r.1 ≤ q)) then 7 else rF start (some r.1) l) else 1
def prevT (l : List (Int × Int)) (k : Nat) : Option Int := if k = 0 then none else (l[k - 1]?).map (·.1)
theorem rF_step (start : Int) (l : List (Int × Int)) (k : Nat) (h : k < l.length) :
    rF start (prevT l k) (l.drop k) = if inR l[k].1 start 36000000 && inR l[k].2 0 1000 then (if (prevT l k).any (fun q => decide (l[k].1 ≤ q)) then 7 else rF start (prevT l (k + 1)) (l.drop (k + 1))) else 1 := by
  rw [List.drop_eq_getElem_cons h]
  simp only [rF]
  have : prevT l (k + 1) = some l[k].1 := by simp [prevT, List.getElem?_eq_getElem h]
  rw [this]
theorem prevT_pos (l : List (Int × Int)) (k : Nat) (h0 : 0 < k) (h : k < l.length) : prevT l k = some (l[k - 1]'(by omega)).1 := by
  unfold prevT
  rw [if_neg (by omega), List.getElem?_eq_getElem (by omega)]
  rfl
def bad1 (start tin tend tout : Int) : Bool := !inR start 0 36000000 || !inR tin 0 36000000 || !inR tout 0 36000000 || (decide (tend ≠ -1) && !inR tend start 36000000)
def chkTm (start tin tend tout : Int) (rates : List (Int × Int)) : Int :=
  if bad1 start tin tend tout then 1 else if decide (tend = -1) && decide (tout ≠ 0) then 3 else if 50 < rates.length then 2 else rF start none rates
def chkKy (ke : Int) (keys : List (Int × ByteArray)) : Int := fi3 ke (whenW (decide (keys.length = 0)) 8) (whenW (decide (400 < keys.length)) 2)
/-- the fault of a running effect without a rig -/
def chkRun (x : Run) : Int :=
  if chkKy (chkEf x.ef) x.keys ≠ 0 then chkKy (chkEf x.ef) x.keys else if ¬ x.keys.Nodup then 6 else chkTm x.start x.tin x.tend x.tout x.rates
theorem nodup_take_succ {α : Type} (l : List α) (k : Nat) (h : k < l.length) : (l.take (k + 1)).Nodup ↔ (l.take k).Nodup ∧ l[k] ∉ l.take k := by
  rw [List.take_succ_eq_append_getElem h, List.nodup_append]
  simp
  intro _
  constructor
  · intro h1 h2; exact h1 _ h2 rfl
  · intro h1 a ha e; subst e; exact h1 ha
theorem not_nodup_of {α : Type} (l : List α) (k : Nat) (h : k < l.length) (hin : l[k] ∈ l.take k) : ¬ l.Nodup := by
  intro hn
  have : (l.take (k + 1)).Nodup := hn.sublist (List.take_sublist _ _)
  exact ((nodup_take_succ l k h).1 this).2 hin
end Go.Proofs.Ytopmdeefcjdadaa
