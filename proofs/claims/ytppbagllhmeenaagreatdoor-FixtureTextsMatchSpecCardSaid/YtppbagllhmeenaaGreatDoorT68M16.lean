/- Fixtures: profiles, units, rigs as plain data; slices of records as rows of cells. No program in it. -/
import Derived.Test.YtppbagllhmeenaaGreatDoorT68M15

namespace Go.Proofs.YtppbagllhmeenaaGreatDoor
open Go.RowKit
set_option linter.unusedVariables false
set_option linter.unusedSimpArgs false

/-! ### the first fault of a list, each element judged behind those ahead of it -/
def scan {α : Type} (f : List α → α → Int) : List α → List α → Int
  | _, [] => 0
  | pre, x :: l => if f pre x ≠ 0 then f pre x else scan f (pre ++ [x]) l
theorem scan_step {α : Type} (f : List α → α → Int) (l : List α) (k : Nat) (h : k < l.length) :
    scan f (l.take k) (l.drop k) = if f (l.take k) l[k] ≠ 0 then f (l.take k) l[k] else scan f (l.take (k + 1)) (l.drop (k + 1)) := by
  rw [List.drop_eq_getElem_cons h, List.take_succ_eq_append_getElem h]
  rfl
theorem scan_end {α : Type} (f : List α → α → Int) (l : List α) (k : Nat) (h : l.length ≤ k) : scan f (l.take k) (l.drop k) = 0 := by
  rw [List.drop_of_length_le h]; rfl
theorem scan_zero {α : Type} (f : List α → α → Int) (l : List α) (h : scan f [] l = 0) (k : Nat) (hk : k < l.length) : f (l.take k) l[k] = 0 := by
  have key : ∀ j, j ≤ l.length → scan f (l.take j) (l.drop j) = 0 := by
    intro j
    induction j with
    | zero => intro _; simpa using h
    | succ j ih =>
      intro hj
      have h1 := ih (by omega)
      rw [scan_step f l j (by omega)] at h1
      by_cases c : f (l.take j) l[j] = 0
      · rw [if_neg (by simpa using c)] at h1; exact h1
      · rw [if_pos c] at h1; exact absurd h1 c
  have h1 := key k (by omega)
  rw [scan_step f l k hk] at h1
  by_cases c : f (l.take k) l[k] = 0
  · exact c
  · rw [if_pos c] at h1; exact absurd h1 c
/-- from k on -/
def scanF {α : Type} (f : List α → α → Int) (l : List α) (k : Nat) : Int := scan f (l.take k) (l.drop k)
theorem scanF_step {α : Type} (f : List α → α → Int) (l : List α) (k : Nat) (h : k < l.length) : scanF f l k = if f (l.take k) l[k] ≠ 0 then f (l.take k) l[k] else scanF f l (k + 1) := scan_step f l k h
theorem scanF_bad {α : Type} (f : List α → α → Int) (l : List α) (k : Nat) (h : k < l.length) (hf : f (l.take k) l[k] ≠ 0) : scanF f l k = f (l.take k) l[k] := by rw [scanF_step f l k h, if_pos hf]
theorem scanF_good {α : Type} (f : List α → α → Int) (l : List α) (k : Nat) (h : k < l.length) (hf : f (l.take k) l[k] = 0) : scanF f l k = scanF f l (k + 1) := by rw [scanF_step f l k h, if_neg (by simpa using hf)]
theorem scanF_end {α : Type} (f : List α → α → Int) (l : List α) (k : Nat) (h : l.length ≤ k) : scanF f l k = 0 := scan_end f l k h
theorem scanF_start {α : Type} (f : List α → α → Int) (l : List α) : scanF f l 0 = scan f [] l := by simp [scanF]

/-! ### rows of records -/
theorem flat_len {α : Type} (f : α → List Value) (n : Nat) (hn : ∀ y, (f y).length = n) (l : List α) : (l.flatMap f).length = l.length * n := by
  induction l with
  | nil => simp
  | cons a l ih =>
    simp only [List.flatMap_cons, List.length_append, List.length_cons, hn, ih]
    rw [Nat.succ_mul]; omega
theorem flat_get {α : Type} (f : α → List Value) (n : Nat) (hn : ∀ y, (f y).length = n) (l : List α) (i : Nat) (h : i < l.length) (j : Nat) (hj : j < n) : (l.flatMap f)[i * n + j]? = (f l[i])[j]? := by
  induction l generalizing i with
  | nil => simp at h
  | cons a l ih =>
    simp only [List.flatMap_cons]
    match i with
    | 0 =>
      rw [List.getElem?_append_left (by rw [hn]; omega)]
      simp
    | i + 1 =>
      have := ih i (by simpa using h)
      rw [List.getElem?_append_right (by rw [hn, Nat.succ_mul]; omega), hn]
      rw [show (i + 1) * n + j - n = i * n + j by rw [Nat.succ_mul]; omega]
      simpa using this
theorem flat_take {α : Type} (f : α → List Value) (n : Nat) (hn : ∀ y, (f y).length = n) (l : List α) (k : Nat) (hk : k ≤ l.length) : (l.flatMap f).take (k * n) = (l.take k).flatMap f := by
  induction l generalizing k with
  | nil => simp
  | cons a l ih =>
    match k with
    | 0 => simp
    | k + 1 =>
      simp only [List.flatMap_cons, List.take_succ_cons]
      rw [Nat.succ_mul, Nat.add_comm (k * n) n, List.take_append, hn, List.take_of_length_le (by rw [hn]; omega)]
      rw [show n + k * n - n = k * n by omega, ih k (by simpa using hk)]
theorem flat_snoc {α : Type} (f : α → List Value) (l : List α) (y : α) : (l ++ [y]).flatMap f = l.flatMap f ++ f y := by simp
/-- an element's cells in a row of records -/
theorem CellsS.rec {α : Type} {f : α → List Value} {n : Nat} {B : Nat} {w : World} {v : Value} {l : List α} (h : CellsS B w v l.length (l.flatMap f)) (hn : ∀ y, (f y).length = n) (hl : 0 < l.length) :
    ∃ b off cap, v = .slice (some ⟨b, off, none⟩) l.length cap ∧ b < B ∧ l.length ≤ maxLen ∧ ∀ i (hi : i < l.length) j u, j < n → (f l[i])[j]? = some u → w.cell? ⟨b, off + (i * n + j), none⟩ = some u := by
  obtain ⟨ao, cap, rfl, h1, h2, h3⟩ := h
  obtain ⟨b, off, rfl, h4, h5⟩ := h3 hl
  refine ⟨b, off, cap, rfl, h4, Nat.le_trans h1 h2, fun i hi j u hj hu => h5 _ _ ?_⟩
  rw [flat_get f n hn l i hi j hj]
  exact hu
theorem CellsS.len {B : Nat} {w : World} {v : Value} {n : Nat} {xs : List Value} (h : CellsS B w v n xs) : n ≤ maxLen := by
  obtain ⟨ao, cap, rfl, h1, h2, h3⟩ := h
  exact Nat.le_trans h1 h2
theorem CellsS.shape {B : Nat} {w : World} {v : Value} {n : Nat} {xs : List Value} (h : CellsS B w v n xs) : ∃ ao cap, v = .slice ao n cap ∧ n ≤ cap ∧ cap ≤ maxLen := by
  obtain ⟨ao, cap, rfl, h1, h2, h3⟩ := h
  exact ⟨ao, cap, rfl, h1, h2⟩

/-! ### fixtures -/
/-- a named range -/
structure Rng where
  low : Int
  high : Int
  name : ByteArray
/-- a parameter of a profile -/
structure Par where
  name : ByteArray
  grp : Int
  sl : Int
  fine : Int
  dflt : Int
  snap : Bool
  rngs : List Rng
/-- a profile -/
structure Prf where
  name : ByteArray
  size : Int
  pars : List Par
/-- a unit of a rig -/
structure Unt where
  num : Int
  prof : ByteArray
  univ : Int
  addr : Int
structure Rig where
  lib : List Prf
  units : List Unt
def rngC (r : Rng) : List Value := [.int .i64 r.low, .int .i64 r.high, .string r.name]
def parC (p : Par × Value) : List Value := [.string p.1.name, .int .i64 p.1.grp, .int .i64 p.1.sl, .int .i64 p.1.fine, .int .i64 p.1.dflt, .bool p.1.snap, p.2]
def prfC (p : Prf × Value) : List Value := [.string p.1.name, .int .i64 p.1.size, p.2]
def untC (u : Unt) : List Value := [.int .i64 u.num, .string u.prof, .int .i64 u.univ, .int .i64 u.addr]
def RngS (B : Nat) (w : World) (v : Value) (l : List Rng) : Prop := CellsS B w v l.length (l.flatMap rngC)
/-- a slice of parameters: their cells, and their ranges' -/
def ParS (B : Nat) (w : World) (v : Value) (l : List Par) : Prop :=
  ∃ lv : List (Par × Value), lv.map (·.1) = l ∧ CellsS B w v lv.length (lv.flatMap parC) ∧ ∀ y ∈ lv, RngS B w y.2 y.1.rngs
def PrfS (B : Nat) (w : World) (v : Value) (l : List Prf) : Prop :=
  ∃ lv : List (Prf × Value), lv.map (·.1) = l ∧ CellsS B w v lv.length (lv.flatMap prfC) ∧ ∀ y ∈ lv, ParS B w y.2 y.1.pars
def UntS (B : Nat) (w : World) (v : Value) (l : List Unt) : Prop := CellsS B w v l.length (l.flatMap untC)
theorem RngS.below {B : Nat} {w w' : World} {v : Value} {l : List Rng} (h : RngS B w v l) (hb : Below B w w') : RngS B w' v l := CellsS.below h hb
theorem RngS.more {B B' : Nat} {w : World} {v : Value} {l : List Rng} (h : RngS B w v l) (hB : B ≤ B') : RngS B' w v l := CellsS.more h hB
theorem ParS.below {B : Nat} {w w' : World} {v : Value} {l : List Par} (h : ParS B w v l) (hb : Below B w w') : ParS B w' v l := by
  obtain ⟨lv, h1, h2, h3⟩ := h
  exact ⟨lv, h1, h2.below hb, fun y hy => (h3 y hy).below hb⟩
theorem ParS.more {B B' : Nat} {w : World} {v : Value} {l : List Par} (h : ParS B w v l) (hB : B ≤ B') : ParS B' w v l := by
  obtain ⟨lv, h1, h2, h3⟩ := h
  exact ⟨lv, h1, h2.more hB, fun y hy => (h3 y hy).more hB⟩
theorem PrfS.below {B : Nat} {w w' : World} {v : Value} {l : List Prf} (h : PrfS B w v l) (hb : Below B w w') : PrfS B w' v l := by
  obtain ⟨lv, h1, h2, h3⟩ := h
  exact ⟨lv, h1, h2.below hb, fun y hy => (h3 y hy).below hb⟩
theorem PrfS.more {B B' : Nat} {w : World} {v : Value} {l : List Prf} (h : PrfS B w v l) (hB : B ≤ B') : PrfS B' w v l := by
  obtain ⟨lv, h1, h2, h3⟩ := h
  exact ⟨lv, h1, h2.more hB, fun y hy => (h3 y hy).more hB⟩
theorem UntS.below {B : Nat} {w w' : World} {v : Value} {l : List Unt} (h : UntS B w v l) (hb : Below B w w') : UntS B w' v l := CellsS.below h hb
theorem UntS.more {B B' : Nat} {w : World} {v : Value} {l : List Unt} (h : UntS B w v l) (hB : B ≤ B') : UntS B' w v l := CellsS.more h hB
theorem off0 {w : World} {b off : Nat} {u : Value} (h : w.cell? ⟨b, off + 0, none⟩ = some u) : w.cell? ⟨b, off, none⟩ = some u := h
/-- a range's cells -/
theorem RngS.get {B : Nat} {w : World} {v : Value} {l : List Rng} (h : RngS B w v l) (hl : 0 < l.length) :
    ∃ b off cap, v = .slice (some ⟨b, off, none⟩) l.length cap ∧ b < B ∧ l.length ≤ maxLen ∧ ∀ k (hk : k < l.length) (W : World), Below B w W →
      W.cell? ⟨b, off + k * 3, none⟩ = some (.int .i64 l[k].low) ∧ W.cell? ⟨b, off + k * 3 + 1, none⟩ = some (.int .i64 l[k].high) ∧ W.cell? ⟨b, off + k * 3 + 2, none⟩ = some (.string l[k].name) := by
  obtain ⟨b, off, cap, rfl, h1, h2, h3⟩ := CellsS.rec h (n := 3) (fun _ => rfl) hl
  refine ⟨b, off, cap, rfl, h1, h2, fun k hk W hW => ?_⟩
  exact ⟨(hW.cell (p := ⟨b, off + k * 3, none⟩) h1).trans (h3 k hk 0 _ (by omega) rfl), (hW.cell (p := ⟨b, off + k * 3 + 1, none⟩) h1).trans (h3 k hk 1 _ (by omega) rfl), (hW.cell (p := ⟨b, off + k * 3 + 2, none⟩) h1).trans (h3 k hk 2 _ (by omega) rfl)⟩
/-- a parameter's cells -/
theorem ParS.get {B : Nat} {w : World} {v : Value} {l : List Par} (h : ParS B w v l) (hl : 0 < l.length) :
    ∃ b off cap, v = .slice (some ⟨b, off, none⟩) l.length cap ∧ b < B ∧ l.length ≤ maxLen ∧ ∀ k (hk : k < l.length), ∃ rv, RngS B w rv l[k].rngs ∧ ∀ (W : World), Below B w W →
      W.cell? ⟨b, off + k * 7, none⟩ = some (.string l[k].name) ∧ W.cell? ⟨b, off + k * 7 + 1, none⟩ = some (.int .i64 l[k].grp) ∧ W.cell? ⟨b, off + k * 7 + 2, none⟩ = some (.int .i64 l[k].sl) ∧ W.cell? ⟨b, off + k * 7 + 3, none⟩ = some (.int .i64 l[k].fine) ∧ W.cell? ⟨b, off + k * 7 + 4, none⟩ = some (.int .i64 l[k].dflt) ∧ W.cell? ⟨b, off + k * 7 + 5, none⟩ = some (.bool l[k].snap) ∧ W.cell? ⟨b, off + k * 7 + 6, none⟩ = some rv := by
  obtain ⟨lv, rfl, h1, h2⟩ := h
  obtain ⟨b, off, cap, rfl, h3, h4, h5⟩ := CellsS.rec h1 (n := 7) (fun _ => rfl) (by simpa using hl)
  refine ⟨b, off, cap, by simp, h3, by simpa using h4, fun k hk => ?_⟩
  have hk' : k < lv.length := by simpa using hk
  refine ⟨lv[k].2, by simpa using h2 _ (List.getElem_mem hk'), fun W hW => ?_⟩
  simp only [List.getElem_map]
  exact ⟨(hW.cell (p := ⟨b, off + k * 7, none⟩) h3).trans (h5 k hk' 0 _ (by omega) rfl), (hW.cell (p := ⟨b, off + k * 7 + 1, none⟩) h3).trans (h5 k hk' 1 _ (by omega) rfl), (hW.cell (p := ⟨b, off + k * 7 + 2, none⟩) h3).trans (h5 k hk' 2 _ (by omega) rfl), (hW.cell (p := ⟨b, off + k * 7 + 3, none⟩) h3).trans (h5 k hk' 3 _ (by omega) rfl), (hW.cell (p := ⟨b, off + k * 7 + 4, none⟩) h3).trans (h5 k hk' 4 _ (by omega) rfl), (hW.cell (p := ⟨b, off + k * 7 + 5, none⟩) h3).trans (h5 k hk' 5 _ (by omega) rfl), (hW.cell (p := ⟨b, off + k * 7 + 6, none⟩) h3).trans (h5 k hk' 6 _ (by omega) rfl)⟩
/-- a profile's cells -/
theorem PrfS.get {B : Nat} {w : World} {v : Value} {l : List Prf} (h : PrfS B w v l) (hl : 0 < l.length) :
    ∃ b off cap, v = .slice (some ⟨b, off, none⟩) l.length cap ∧ b < B ∧ l.length ≤ maxLen ∧ ∀ k (hk : k < l.length), ∃ pv, ParS B w pv l[k].pars ∧ ∀ (W : World), Below B w W →
      W.cell? ⟨b, off + k * 3, none⟩ = some (.string l[k].name) ∧ W.cell? ⟨b, off + k * 3 + 1, none⟩ = some (.int .i64 l[k].size) ∧ W.cell? ⟨b, off + k * 3 + 2, none⟩ = some pv := by
  obtain ⟨lv, rfl, h1, h2⟩ := h
  obtain ⟨b, off, cap, rfl, h3, h4, h5⟩ := CellsS.rec h1 (n := 3) (fun _ => rfl) (by simpa using hl)
  refine ⟨b, off, cap, by simp, h3, by simpa using h4, fun k hk => ?_⟩
  have hk' : k < lv.length := by simpa using hk
  refine ⟨lv[k].2, by simpa using h2 _ (List.getElem_mem hk'), fun W hW => ?_⟩
  simp only [List.getElem_map]
  exact ⟨(hW.cell (p := ⟨b, off + k * 3, none⟩) h3).trans (h5 k hk' 0 _ (by omega) rfl), (hW.cell (p := ⟨b, off + k * 3 + 1, none⟩) h3).trans (h5 k hk' 1 _ (by omega) rfl), (hW.cell (p := ⟨b, off + k * 3 + 2, none⟩) h3).trans (h5 k hk' 2 _ (by omega) rfl)⟩
/-- a unit's cells -/
theorem UntS.get {B : Nat} {w : World} {v : Value} {l : List Unt} (h : UntS B w v l) (hl : 0 < l.length) :
    ∃ b off cap, v = .slice (some ⟨b, off, none⟩) l.length cap ∧ b < B ∧ l.length ≤ maxLen ∧ ∀ k (hk : k < l.length) (W : World), Below B w W →
      W.cell? ⟨b, off + k * 4, none⟩ = some (.int .i64 l[k].num) ∧ W.cell? ⟨b, off + k * 4 + 1, none⟩ = some (.string l[k].prof) ∧ W.cell? ⟨b, off + k * 4 + 2, none⟩ = some (.int .i64 l[k].univ) ∧ W.cell? ⟨b, off + k * 4 + 3, none⟩ = some (.int .i64 l[k].addr) := by
  obtain ⟨b, off, cap, rfl, h1, h2, h3⟩ := CellsS.rec h (n := 4) (fun _ => rfl) hl
  refine ⟨b, off, cap, rfl, h1, h2, fun k hk W hW => ?_⟩
  exact ⟨(hW.cell (p := ⟨b, off + k * 4, none⟩) h1).trans (h3 k hk 0 _ (by omega) rfl), (hW.cell (p := ⟨b, off + k * 4 + 1, none⟩) h1).trans (h3 k hk 1 _ (by omega) rfl), (hW.cell (p := ⟨b, off + k * 4 + 2, none⟩) h1).trans (h3 k hk 2 _ (by omega) rfl), (hW.cell (p := ⟨b, off + k * 4 + 3, none⟩) h1).trans (h3 k hk 3 _ (by omega) rfl)⟩
end Go.Proofs.YtppbagllhmeenaaGreatDoor
