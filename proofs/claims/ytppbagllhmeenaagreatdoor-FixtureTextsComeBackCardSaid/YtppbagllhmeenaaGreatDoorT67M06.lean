/- The reference's Within and IsLevel (cut out of XRMix, for seats without fractions). The reference's Show of levels. fixture.show of both sides, the groups' words. (printed by wip/gen/gen_fshow.py) Slices as rows of cells, whatever their elements. No program in it. -/
import Derived.Test.YtppbagllhmeenaaGreatDoorT67M02
import Derived.Test.YtppbagllhmeenaaGreatDoorT67M01
import Derived.Test.YtppbagllhmeenaaGreatDoorT67M05
import Derived.Below
import Derived.Laws.AppendOwn
import Derived.WalkKit
import Derived.ProofKit

namespace Go.Proofs.YtppbagllhmeenaaGreatDoor
open Go.RowKit
set_option linter.unusedVariables false
set_option linter.unusedSimpArgs false

theorem below_drewR {B n : Nat} {a w : World} (h : Below B a w) : Below B a (w.drewN n) := ⟨h.os, h.tape, h.output, h.size, h.block⟩

set_option maxHeartbeats 400000 in
theorem r1within_yes (n lo hi : Int) (w : World) (h : lo ≤ n ∧ n ≤ hi) :
    Calls Tryz.prog 56 #[.int .i64 n, .int .i64 lo, .int .i64 hi] w fun e w' => e = .returned (.bool true) ∧ w = w' := by
  obtain ⟨h1, h2⟩ := h
  have e2 : decide (n ≤ hi) = true := by simpa using h2
  go_enter Tryz.func56, Tryz.ntmps56
  go_wp2
  go_ret
  exact ⟨rfl, rfl⟩
set_option maxHeartbeats 400000 in
theorem r1within_no (n lo hi : Int) (w : World) (h : n < lo ∨ hi < n) :
    Calls Tryz.prog 56 #[.int .i64 n, .int .i64 lo, .int .i64 hi] w fun e w' => e = .returned (.bool false) ∧ w = w' := by
  by_cases h1 : lo ≤ n
  · have e2 : decide (n ≤ hi) = false := by simp; omega
    have h2 : hi < n := by omega
    clear h
    go_enter Tryz.func56, Tryz.ntmps56
    go_wp2
    go_ret
    exact ⟨rfl, rfl⟩
  · have h2 : n < lo := by omega
    clear h
    go_enter Tryz.func56, Tryz.ntmps56
    go_wp2
    go_ret
    exact ⟨rfl, rfl⟩
set_option maxHeartbeats 400000 in
theorem rIsLevel_yes (n : Int) (w : World) (h : 0 ≤ n ∧ n ≤ 65535) :
    Calls Tryz.prog 103 #[.int .i64 n] w fun e w' => e = .returned (.bool true) ∧ w = w' := by
  go_enter Tryz.func103, Tryz.ntmps103
  go_wp2_with (go_at_call 56; refine (r1within_yes _ _ _ _ h).mono ?_; rintro e w' ⟨rfl, rfl⟩)
  go_ret
  exact ⟨rfl, rfl⟩
set_option maxHeartbeats 400000 in
theorem rIsLevel_no (n : Int) (w : World) (h : n < 0 ∨ 65535 < n) :
    Calls Tryz.prog 103 #[.int .i64 n] w fun e w' => e = .returned (.bool false) ∧ w = w' := by
  go_enter Tryz.func103, Tryz.ntmps103
  go_wp2_with (go_at_call 56; refine (r1within_no _ _ _ _ h).mono ?_; rintro e w' ⟨rfl, rfl⟩)
  go_ret
  exact ⟨rfl, rfl⟩
end Go.Proofs.YtppbagllhmeenaaGreatDoor

namespace Go.Proofs.YtppbagllhmeenaaGreatDoor
open Go.RowKit
set_option linter.unusedVariables false
set_option linter.unusedSimpArgs false

theorem pct_only (n p : Int) (h0 : 0 < n) (h1 : n < 65535) (h : rnd (100 * p * 65535) 10000 = n) : rnd (100 * n) 65535 = p ∧ rnd (p * 65535) 100 = n := by
  have h2 := (rnd_iff (n := 100 * p * 65535) (d := 10000) (k := n) (by omega)).1 h
  exact ⟨(rnd_iff (by omega)).2 (by omega), (rnd_iff (by omega)).2 (by omega)⟩
theorem rnd_pct (m : Int) : (m * 65535 + 5000) / 10000 = rnd (m * 65535) 10000 := by unfold rnd; omega

set_option maxHeartbeats 1000000 in
theorem percent_any (m : Int) (w : World) (h0 : 0 ≤ m) (h1 : m ≤ 1000000000000) :
    Calls Tryz.prog 116 #[.int .i64 m] w fun e w' => e = .returned (.int .i64 (rnd (m * 65535) 10000)) ∧ w = w' := by
  have HE := Lib.hid (rnd_pct m)
  have HT := Lib.hid (show (m * 65535 + 5000).tdiv 10000 = (m * 65535 + 5000) / 10000 from Int.tdiv_eq_ediv_of_nonneg (by omega))
  go_enter Tryz.func116, Tryz.ntmps116
  go_wp2
  go_ret
  exact ⟨by rw [← HE.out, ← HT.out]; first | rfl | (rw [HT.out]; rfl), rfl⟩

end Go.Proofs.YtppbagllhmeenaaGreatDoor

namespace Go.Proofs.YtppbagllhmeenaaGreatDoor
open Go.RowKit
set_option linter.unusedVariables false
set_option linter.unusedSimpArgs false
/-- the text of a level -/
noncomputable def showT (n : Int) : ByteArray :=
  if n = 0 then ⟨#[111, 117, 116]⟩ else if n = 65535 then ⟨#[102, 117, 108, 108]⟩
  else if rnd (rnd (100 * n) 65535 * 65535) 100 = n then ⟨(Lib.decDigits (rnd (100 * n) 65535).toNat ++ [37]).toArray⟩ else ⟨(35 :: Lib.decDigits n.toNat).toArray⟩
theorem ba_of {a : ByteArray} {l : List UInt8} (h : a.data.toList = l) : a = ⟨l.toArray⟩ := by
  obtain ⟨⟨x⟩⟩ := a
  simp at h
  subst h
  rfl
theorem pct_nat {n : Int} (h0 : 0 < n) (h1 : n < 65535) : rnd (100 * n) 65535 = ((rnd (100 * n) 65535).toNat : Int) ∧ (rnd (100 * n) 65535).toNat ≤ 100 := by
  have h2 : 0 ≤ rnd (100 * n) 65535 ∧ rnd (100 * n) 65535 ≤ 100 := by unfold rnd; omega
  omega
theorem showT_le (n : Int) (h0 : 0 ≤ n) (h1 : n ≤ 65535) : (showT n).size ≤ 6 := by
  unfold showT
  by_cases c0 : n = 0
  · rw [if_pos c0]; decide
  by_cases c1 : n = 65535
  · rw [if_neg c0, if_pos c1]; decide
  by_cases c2 : rnd (rnd (100 * n) 65535 * 65535) 100 = n
  · rw [if_neg c0, if_neg c1, if_pos c2, Lib.size_eq]
    have := (dd_len 2 (rnd (100 * n) 65535).toNat (by have := (pct_nat (n := n) (by omega) (by omega)).2; omega)).2
    simp
    omega
  · rw [if_neg c0, if_neg c1, if_neg c2, Lib.size_eq]
    have := (dd_len 4 n.toNat (by omega)).2
    simp
    omega

set_option maxHeartbeats 400000 in
theorem lshow_any (n : Int) (w : World) (hT : TextW w) (h0 : 0 ≤ n) (h1 : n ≤ 65535) :
    Calls Tryz.prog 60 #[.int .i64 n] w fun e w' => e = .returned (.tuple #[.string (showT n), .int .i64 0]) ∧ Below w.heap.size w w' := by
  unfold showT
  by_cases c0 : n = 0
  · subst c0
    rw [if_pos rfl]
    exact (show_out w).mono fun e w' h => ⟨h.1, by rw [← h.2]; exact Below.refl _ _⟩
  by_cases c1 : n = 65535
  · subst c1
    rw [if_neg (by decide), if_pos rfl]
    exact (show_full w).mono fun e w' h => ⟨h.1, by rw [← h.2]; exact Below.refl _ _⟩
  rw [if_neg c0, if_neg c1]
  by_cases c2 : rnd (rnd (100 * n) 65535 * 65535) 100 = n
  · rw [if_pos c2]
    obtain ⟨p1, _⟩ := pct_nat (n := n) (by omega) (by omega)
    refine (show_pct n (rnd (100 * n) 65535).toNat w (by omega) (by omega) p1 (by rw [← p1]; exact c2)).mono ?_
    rintro e w' ⟨⟨s, rfl, hs⟩, hb⟩
    exact ⟨by rw [ba_of hs], hb⟩
  · rw [if_neg c2]
    refine (show_hash n w hT (by omega) (by omega) c2).mono ?_
    rintro e w' ⟨⟨s, rfl, hs⟩, hb⟩
    exact ⟨by rw [ba_of hs], hb⟩
set_option maxHeartbeats 1000000 in
theorem fshow_any (n : Int) (w : World) (hT : TextW w) (h0 : 0 ≤ n) (h1 : n ≤ 65535) :
    Calls Tryz.prog 35 #[.int .i64 n] w fun e w' => e = .returned (.string (showT n)) ∧ Below w.heap.size w w' := by
  have H := Lib.hid (lshow_any n w hT h0 h1)
  generalize showT n = x at *
  clear hT h0 h1
  go_enter Tryz.func35, Tryz.ntmps35
  go_wp2_with fail
  refine H.out.mono ?_
  rintro e w1 ⟨rfl, hb⟩
  have HB := Lib.hid hb
  clear hb
  go_wp2
  go_ret
  exact ⟨rfl, HB.out⟩
/-- the word of a group -/
def grpT (k : Int) : ByteArray := if k = 1 then ⟨#[105, 110, 116, 101, 110, 115, 105, 116, 121]⟩ else if k = 2 then ⟨#[112, 111, 115, 105, 116, 105, 111, 110]⟩ else if k = 3 then ⟨#[99, 111, 108, 111, 117, 114]⟩ else ⟨#[98, 101, 97, 109]⟩
theorem grpT_le (k : Int) : (grpT k).size ≤ 9 := by
  unfold grpT
  repeat' split
  all_goals decide
set_option maxHeartbeats 1000000 in
theorem groupWord_any (k : Int) (w : World) (h1 : 1 ≤ k) (h7 : k ≤ 4) :
    Calls Tryz.prog 34 #[.int .i64 k] w fun e w' => e = .returned (.string (grpT k)) ∧ w = w' := by
  have hk : k = 1 ∨ k = 2 ∨ k = 3 ∨ k = 4 := by omega
  rcases hk with rfl | rfl | rfl | rfl
  all_goals
    go_enter Tryz.func34, Tryz.ntmps34
    go_wp2
    go_ret
    exact ⟨rfl, rfl⟩
set_option maxHeartbeats 1000000 in
theorem groups_any (w : World) :
    Calls Tryz.prog 94 #[] w fun e w' => e = .returned (.slice (some ⟨w.heap.size, 0, none⟩) 5 5) ∧ Below w.heap.size w w' ∧ (∀ k : Nat, 1 ≤ k → k ≤ 4 → w'.cell? ⟨w.heap.size, k, none⟩ = some (.string (grpT k))) ∧ w.heap.size < w'.heap.size := by
  go_enter Tryz.func94, Tryz.ntmps94
  go_wp2
  go_ret
  refine ⟨rfl, (Below.refl _ _).alloc (Nat.le_refl _) _, ?_, by simp⟩
  intro k h1 h4
  have hk : k = 1 ∨ k = 2 ∨ k = 3 ∨ k = 4 := by omega
  rcases hk with rfl | rfl | rfl | rfl <;> simp [go_sem, grpT]
end Go.Proofs.YtppbagllhmeenaaGreatDoor

namespace Go.Proofs.YtppbagllhmeenaaGreatDoor
open Go.RowKit
set_option linter.unusedVariables false
set_option linter.unusedSimpArgs false

/-- a slice value of n elements whose cells are xs, below block B -/
def CellsS (B : Nat) (w : World) (v : Value) (n : Nat) (xs : List Value) : Prop :=
  ∃ ao cap, v = .slice ao n cap ∧ n ≤ cap ∧ cap ≤ maxLen ∧ (0 < n → ∃ b off, ao = some ⟨b, off, none⟩ ∧ b < B ∧ ∀ j u, xs[j]? = some u → w.cell? ⟨b, off + j, none⟩ = some u)
theorem CellsS.below {B : Nat} {w w' : World} {v : Value} {n : Nat} {xs : List Value} (h : CellsS B w v n xs) (hb : Below B w w') : CellsS B w' v n xs := by
  obtain ⟨ao, cap, rfl, h1, h2, h3⟩ := h
  refine ⟨ao, cap, rfl, h1, h2, fun hl => ?_⟩
  obtain ⟨b, off, rfl, h4, h5⟩ := h3 hl
  exact ⟨b, off, rfl, h4, fun j u hu => (hb.cell (p := ⟨b, off + j, none⟩) h4).trans (h5 j u hu)⟩
theorem CellsS.more {B B' : Nat} {w : World} {v : Value} {n : Nat} {xs : List Value} (h : CellsS B w v n xs) (hB : B ≤ B') : CellsS B' w v n xs := by
  obtain ⟨ao, cap, rfl, h1, h2, h3⟩ := h
  refine ⟨ao, cap, rfl, h1, h2, fun hl => ?_⟩
  obtain ⟨b, off, rfl, h4, h5⟩ := h3 hl
  exact ⟨b, off, rfl, Nat.lt_of_lt_of_le h4 hB, h5⟩
theorem CellsS.nil (B : Nat) (w : World) : CellsS B w (.slice none 0 0) 0 [] := ⟨none, 0, rfl, Nat.le_refl _, Nat.zero_le _, fun h => absurd h (Nat.lt_irrefl _)⟩
theorem CellsS.cast {B : Nat} {w w' : World} {v : Value} {n : Nat} {xs : List Value} (h : CellsS B w v n xs) (hc : ∀ b off, b < B → w'.cell? ⟨b, off, none⟩ = w.cell? ⟨b, off, none⟩) : CellsS B w' v n xs := by
  obtain ⟨ao, cap, rfl, h1, h2, h3⟩ := h
  refine ⟨ao, cap, rfl, h1, h2, fun hl => ?_⟩
  obtain ⟨b, off, rfl, h4, h5⟩ := h3 hl
  exact ⟨b, off, rfl, h4, fun j u hu => (hc b _ h4).trans (h5 j u hu)⟩
theorem addr_plus (b off j : Nat) : (⟨b, off, none⟩ : Addr).add j = ⟨b, off + j, none⟩ := by unfold Addr.add; split <;> simp_all
theorem CellsS.of_own {base : Nat} {w : World} {T : TypeId} {size : Nat} {v : Value} {n : Nat} {xs : List Value} (h : w.ownsRow base T size v n xs) : CellsS w.heap.size w v n xs := by
  rcases h.2 with ⟨rfl, h0⟩ | ⟨g, cap, cur, rfl, hb, hg, h1, h2, h3, h4⟩
  · subst h0
    exact ⟨none, 0, rfl, Nat.le_refl _, Nat.zero_le _, fun h => absurd h (Nat.lt_irrefl _)⟩
  · refine ⟨some ⟨g, 0, none⟩, cap, rfl, h1, h2, fun _ => ⟨g, 0, rfl, (Array.getElem?_eq_some_iff.1 hg).1, fun j u hu => ?_⟩⟩
    have := h.cells (g := g) rfl j u hu
    rw [addr_plus] at this
    exact this
/-- cells of elements of two cells -/
def cells2 {α : Type} (f g : α → Value) (l : List α) : List Value := l.flatMap fun y => [f y, g y]
theorem cells2_length {α : Type} (f g : α → Value) (l : List α) : (cells2 f g l).length = l.length * 2 := by
  induction l with
  | nil => rfl
  | cons a l ih => simp [cells2] at *; omega
theorem cells2_snoc {α : Type} (f g : α → Value) (l : List α) (y : α) : cells2 f g (l ++ [y]) = cells2 f g l ++ [f y, g y] := by simp [cells2]
theorem cells2_take {α : Type} (f g : α → Value) (l : List α) (k : Nat) : (cells2 f g l).take (k * 2) = cells2 f g (l.take k) := by
  induction l generalizing k with
  | nil => simp [cells2]
  | cons a l ih =>
    match k with
    | 0 => simp [cells2]
    | k + 1 =>
      have := ih k
      rw [show (k + 1) * 2 = k * 2 + 2 by omega]
      simp [cells2] at *
      exact this
theorem cells2_get {α : Type} (f g : α → Value) (l : List α) (i : Nat) (h : i < l.length) : (cells2 f g l)[i * 2]? = some (f l[i]) ∧ (cells2 f g l)[i * 2 + 1]? = some (g l[i]) := by
  induction l generalizing i with
  | nil => simp at h
  | cons a l ih =>
    match i with
    | 0 => simp [cells2]
    | i + 1 =>
      have := ih i (by simpa using h)
      have e1 : (i + 1) * 2 = i * 2 + 2 := by omega
      rw [e1, show i * 2 + 2 + 1 = i * 2 + 1 + 2 by omega]
      simp only [cells2, List.flatMap_cons, List.cons_append, List.nil_append, List.getElem?_cons_succ, List.getElem_cons_succ] at *
      exact this
theorem cells2_one {α : Type} (f g : α → Value) (l : List α) (hf : ∀ x, (f x).oneCell' = true) (hg : ∀ x, (g x).oneCell' = true) : ∀ u ∈ cells2 f g l, u.oneCell' = true := by
  intro u hu
  simp only [cells2, List.mem_flatMap] at hu
  obtain ⟨y, _, hy⟩ := hu
  simp at hy
  rcases hy with rfl | rfl
  · exact hf y
  · exact hg y
/-- the cells of an element of a row -/
theorem CellsS.get2 {α : Type} {f g : α → Value} {B : Nat} {w : World} {v : Value} {l : List α} (h : CellsS B w v l.length (cells2 f g l)) (hl : l ≠ []) :
    ∃ b off cap, v = .slice (some ⟨b, off, none⟩) l.length cap ∧ b < B ∧ l.length ≤ maxLen ∧ ∀ i (hi : i < l.length), w.cell? ⟨b, off + i * 2, none⟩ = some (f l[i]) ∧ w.cell? ⟨b, off + i * 2 + 1, none⟩ = some (g l[i]) := by
  obtain ⟨ao, cap, rfl, h1, h2, h3⟩ := h
  obtain ⟨b, off, rfl, h4, h5⟩ := h3 (List.length_pos_iff.2 hl)
  exact ⟨b, off, cap, rfl, h4, Nat.le_trans h1 h2, fun i hi => ⟨h5 _ _ (cells2_get f g l i hi).1, h5 (i * 2 + 1) _ (cells2_get f g l i hi).2⟩⟩
/-- cells of elements of three cells -/
def cells3 {α : Type} (f g k : α → Value) (l : List α) : List Value := l.flatMap fun y => [f y, g y, k y]
theorem cells3_length {α : Type} (f g k : α → Value) (l : List α) : (cells3 f g k l).length = l.length * 3 := by
  induction l with
  | nil => rfl
  | cons a l ih => simp [cells3] at *; omega
theorem cells3_get {α : Type} (f g k : α → Value) (l : List α) (i : Nat) (h : i < l.length) : (cells3 f g k l)[i * 3]? = some (f l[i]) ∧ (cells3 f g k l)[i * 3 + 1]? = some (g l[i]) ∧ (cells3 f g k l)[i * 3 + 2]? = some (k l[i]) := by
  induction l generalizing i with
  | nil => simp at h
  | cons a l ih =>
    match i with
    | 0 => simp [cells3]
    | i + 1 =>
      have := ih i (by simpa using h)
      have e1 : (i + 1) * 3 = i * 3 + 3 := by omega
      rw [e1, show i * 3 + 3 + 1 = i * 3 + 1 + 3 by omega, show i * 3 + 3 + 2 = i * 3 + 2 + 3 by omega]
      simp only [cells3, List.flatMap_cons, List.cons_append, List.nil_append, List.getElem?_cons_succ, List.getElem_cons_succ] at *
      exact this
theorem cells3_one {α : Type} (f g k : α → Value) (l : List α) (hf : ∀ x, (f x).oneCell' = true) (hg : ∀ x, (g x).oneCell' = true) (hk : ∀ x, (k x).oneCell' = true) : ∀ u ∈ cells3 f g k l, u.oneCell' = true := by
  intro u hu
  simp only [cells3, List.mem_flatMap] at hu
  obtain ⟨y, _, hy⟩ := hu
  simp at hy
  rcases hy with rfl | rfl | rfl
  · exact hf y
  · exact hg y
  · exact hk y
theorem cells3_at {α : Type} {f g k : α → Value} {w : World} {b off : Nat} {l : List α} (h : ∀ i (hi : i < l.length), w.cell? ⟨b, off + i * 3, none⟩ = some (f l[i]) ∧ w.cell? ⟨b, off + i * 3 + 1, none⟩ = some (g l[i]) ∧ w.cell? ⟨b, off + i * 3 + 2, none⟩ = some (k l[i]))
    (j : Nat) (u : Value) (hu : (cells3 f g k l)[j]? = some u) : w.cell? ⟨b, off + j, none⟩ = some u := by
  have hj : j < (cells3 f g k l).length := (List.getElem?_eq_some_iff.1 hu).1
  rw [cells3_length] at hj
  have hi : j / 3 < l.length := by omega
  obtain ⟨g1, g2, g3⟩ := cells3_get f g k l (j / 3) hi
  obtain ⟨c1, c2, c3⟩ := h (j / 3) hi
  have hm : j % 3 = 0 ∨ j % 3 = 1 ∨ j % 3 = 2 := by omega
  rcases hm with e | e | e
  · have : j = j / 3 * 3 := by omega
    rw [this] at hu ⊢
    rw [g1] at hu
    obtain rfl := Option.some.inj hu
    exact c1
  · have : j = j / 3 * 3 + 1 := by omega
    rw [this] at hu ⊢
    rw [g2] at hu
    obtain rfl := Option.some.inj hu
    exact c2
  · have : j = j / 3 * 3 + 2 := by omega
    rw [this] at hu ⊢
    rw [g3] at hu
    obtain rfl := Option.some.inj hu
    exact c3
end Go.Proofs.YtppbagllhmeenaaGreatDoor
