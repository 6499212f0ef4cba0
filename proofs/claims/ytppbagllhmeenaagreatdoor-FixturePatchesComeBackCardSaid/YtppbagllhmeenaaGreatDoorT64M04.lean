/- strconv.Itoa over XText's world. Slices as rows of cells, whatever their elements. No program in it. Boxes known by their block and type; what changes rows and boxes of one type leaves those of others. No program in it. -/
import Derived.Test.YtppbagllhmeenaaGreatDoorT64M03
import Derived.Lib.AppendIntMem
import Derived.Lib.ItoaLen
import Derived.Below
import Derived.Laws.AppendOwn
import Derived.WalkKit
import Derived.ProofKit

namespace Go.Proofs.YtppbagllhmeenaaGreatDoor
open Go.RowKit
set_option linter.unusedVariables false
set_option linter.unusedSimpArgs false

/-- the numeral of a number -/
def itT (n : Int) : ByteArray := ⟨(Lib.itoa n).toArray⟩
theorem itT_le (n : Int) (h0 : -9223372036854775808 ≤ n) (h1 : n ≤ 9223372036854775807) : (itT n).size ≤ 21 := by
  have := Lib.itoa_length_le n h0 h1
  unfold itT
  rw [Lib.size_eq]
  simpa using this
theorem itoa_int (n : Int) (w : World) (h0 : -9223372036854775808 ≤ n) (h1 : n ≤ 9223372036854775807) (hT : TextW w) :
    Calls Tryz.prog 31 #[.int .i64 n] w fun e w' => e = .returned (.string (itT n)) ∧ Below w.heap.size w w' := by
  refine (Tryz.strconv_Itoa n h0 h1 w hT.pow).mono ?_
  rintro e w' ⟨rfl, k, os, rfl⟩
  exact ⟨rfl, Lib.below_grow _ w (Nat.le_refl _) k os⟩
end Go.Proofs.YtppbagllhmeenaaGreatDoor

namespace Go.Proofs.YtppbagllhmeenaaGreatDoor
open Go.RowKit
set_option linter.unusedVariables false
set_option linter.unusedSimpArgs false

/-- a slice value of n elements whose cells are xs, below block B -/
def CellsS (B : Nat) (w : World) (v : Value) (n : Nat) (xs : List Value) : Prop :=
  ∃ ao cap, v = .slice ao n cap ∧ n ≤ cap ∧ cap ≤ maxLen ∧ (0 < n → ∃ b off, ao = some ⟨b, off, none⟩ ∧ b < B ∧ ∀ j u, xs[j]? = some u → w.cell? ⟨b, off + j, none⟩ = some u)
theorem CellsS.below {B : Nat} {w w' : World} {v : Value} {n : Nat} {xs : List Value} (h : CellsS B w v n xs) (hb : Below B w w') : CellsS B w' v n xs := by
  obtain ⟨ao, cap, rfl, h1, h2, h3⟩ := h
  refine ⟨ao, cap, rfl, h1, h2, fun hl => ?_⟩
  obtain ⟨b, off, rfl, h4, h5⟩ := h3 hl
  exact ⟨b, off, rfl, h4, fun j u hu => (hb.cell (p := ⟨b, off + j, none⟩) h4).trans (h5 j u hu)⟩
theorem CellsS.more {B B' : Nat} {w : World} {v : Value} {n : Nat} {xs : List Value} (h : CellsS B w v n xs) (hB : B ≤ B') : CellsS B' w v n xs := by
  obtain ⟨ao, cap, rfl, h1, h2, h3⟩ := h
  refine ⟨ao, cap, rfl, h1, h2, fun hl => ?_⟩
  obtain ⟨b, off, rfl, h4, h5⟩ := h3 hl
  exact ⟨b, off, rfl, Nat.lt_of_lt_of_le h4 hB, h5⟩
theorem CellsS.nil (B : Nat) (w : World) : CellsS B w (.slice none 0 0) 0 [] := ⟨none, 0, rfl, Nat.le_refl _, Nat.zero_le _, fun h => absurd h (Nat.lt_irrefl _)⟩
theorem CellsS.cast {B : Nat} {w w' : World} {v : Value} {n : Nat} {xs : List Value} (h : CellsS B w v n xs) (hc : ∀ b off, b < B → w'.cell? ⟨b, off, none⟩ = w.cell? ⟨b, off, none⟩) : CellsS B w' v n xs := by
  obtain ⟨ao, cap, rfl, h1, h2, h3⟩ := h
  refine ⟨ao, cap, rfl, h1, h2, fun hl => ?_⟩
  obtain ⟨b, off, rfl, h4, h5⟩ := h3 hl
  exact ⟨b, off, rfl, h4, fun j u hu => (hc b _ h4).trans (h5 j u hu)⟩
theorem addr_plus (b off j : Nat) : (⟨b, off, none⟩ : Addr).add j = ⟨b, off + j, none⟩ := by unfold Addr.add; split <;> simp_all
theorem CellsS.of_own {base : Nat} {w : World} {T : TypeId} {size : Nat} {v : Value} {n : Nat} {xs : List Value} (h : w.ownsRow base T size v n xs) : CellsS w.heap.size w v n xs := by
  rcases h.2 with ⟨rfl, h0⟩ | ⟨g, cap, cur, rfl, hb, hg, h1, h2, h3, h4⟩
  · subst h0
    exact ⟨none, 0, rfl, Nat.le_refl _, Nat.zero_le _, fun h => absurd h (Nat.lt_irrefl _)⟩
  · refine ⟨some ⟨g, 0, none⟩, cap, rfl, h1, h2, fun _ => ⟨g, 0, rfl, (Array.getElem?_eq_some_iff.1 hg).1, fun j u hu => ?_⟩⟩
    have := h.cells (g := g) rfl j u hu
    rw [addr_plus] at this
    exact this
/-- cells of elements of two cells -/
def cells2 {α : Type} (f g : α → Value) (l : List α) : List Value := l.flatMap fun y => [f y, g y]
theorem cells2_length {α : Type} (f g : α → Value) (l : List α) : (cells2 f g l).length = l.length * 2 := by
  induction l with
  | nil => rfl
  | cons a l ih => simp [cells2] at *; omega
theorem cells2_snoc {α : Type} (f g : α → Value) (l : List α) (y : α) : cells2 f g (l ++ [y]) = cells2 f g l ++ [f y, g y] := by simp [cells2]
theorem cells2_take {α : Type} (f g : α → Value) (l : List α) (k : Nat) : (cells2 f g l).take (k * 2) = cells2 f g (l.take k) := by
  induction l generalizing k with
  | nil => simp [cells2]
  | cons a l ih =>
    match k with
    | 0 => simp [cells2]
    | k + 1 =>
      have := ih k
      rw [show (k + 1) * 2 = k * 2 + 2 by omega]
      simp [cells2] at *
      exact this
theorem cells2_get {α : Type} (f g : α → Value) (l : List α) (i : Nat) (h : i < l.length) : (cells2 f g l)[i * 2]? = some (f l[i]) ∧ (cells2 f g l)[i * 2 + 1]? = some (g l[i]) := by
  induction l generalizing i with
  | nil => simp at h
  | cons a l ih =>
    match i with
    | 0 => simp [cells2]
    | i + 1 =>
      have := ih i (by simpa using h)
      have e1 : (i + 1) * 2 = i * 2 + 2 := by omega
      rw [e1, show i * 2 + 2 + 1 = i * 2 + 1 + 2 by omega]
      simp only [cells2, List.flatMap_cons, List.cons_append, List.nil_append, List.getElem?_cons_succ, List.getElem_cons_succ] at *
      exact this
theorem cells2_one {α : Type} (f g : α → Value) (l : List α) (hf : ∀ x, (f x).oneCell' = true) (hg : ∀ x, (g x).oneCell' = true) : ∀ u ∈ cells2 f g l, u.oneCell' = true := by
  intro u hu
  simp only [cells2, List.mem_flatMap] at hu
  obtain ⟨y, _, hy⟩ := hu
  simp at hy
  rcases hy with rfl | rfl
  · exact hf y
  · exact hg y
/-- the cells of an element of a row -/
theorem CellsS.get2 {α : Type} {f g : α → Value} {B : Nat} {w : World} {v : Value} {l : List α} (h : CellsS B w v l.length (cells2 f g l)) (hl : l ≠ []) :
    ∃ b off cap, v = .slice (some ⟨b, off, none⟩) l.length cap ∧ b < B ∧ l.length ≤ maxLen ∧ ∀ i (hi : i < l.length), w.cell? ⟨b, off + i * 2, none⟩ = some (f l[i]) ∧ w.cell? ⟨b, off + i * 2 + 1, none⟩ = some (g l[i]) := by
  obtain ⟨ao, cap, rfl, h1, h2, h3⟩ := h
  obtain ⟨b, off, rfl, h4, h5⟩ := h3 (List.length_pos_iff.2 hl)
  exact ⟨b, off, cap, rfl, h4, Nat.le_trans h1 h2, fun i hi => ⟨h5 _ _ (cells2_get f g l i hi).1, h5 (i * 2 + 1) _ (cells2_get f g l i hi).2⟩⟩
/-- cells of elements of three cells -/
def cells3 {α : Type} (f g k : α → Value) (l : List α) : List Value := l.flatMap fun y => [f y, g y, k y]
theorem cells3_length {α : Type} (f g k : α → Value) (l : List α) : (cells3 f g k l).length = l.length * 3 := by
  induction l with
  | nil => rfl
  | cons a l ih => simp [cells3] at *; omega
theorem cells3_get {α : Type} (f g k : α → Value) (l : List α) (i : Nat) (h : i < l.length) : (cells3 f g k l)[i * 3]? = some (f l[i]) ∧ (cells3 f g k l)[i * 3 + 1]? = some (g l[i]) ∧ (cells3 f g k l)[i * 3 + 2]? = some (k l[i]) := by
  induction l generalizing i with
  | nil => simp at h
  | cons a l ih =>
    match i with
    | 0 => simp [cells3]
    | i + 1 =>
      have := ih i (by simpa using h)
      have e1 : (i + 1) * 3 = i * 3 + 3 := by omega
      rw [e1, show i * 3 + 3 + 1 = i * 3 + 1 + 3 by omega, show i * 3 + 3 + 2 = i * 3 + 2 + 3 by omega]
      simp only [cells3, List.flatMap_cons, List.cons_append, List.nil_append, List.getElem?_cons_succ, List.getElem_cons_succ] at *
      exact this
theorem cells3_one {α : Type} (f g k : α → Value) (l : List α) (hf : ∀ x, (f x).oneCell' = true) (hg : ∀ x, (g x).oneCell' = true) (hk : ∀ x, (k x).oneCell' = true) : ∀ u ∈ cells3 f g k l, u.oneCell' = true := by
  intro u hu
  simp only [cells3, List.mem_flatMap] at hu
  obtain ⟨y, _, hy⟩ := hu
  simp at hy
  rcases hy with rfl | rfl | rfl
  · exact hf y
  · exact hg y
  · exact hk y
theorem cells3_at {α : Type} {f g k : α → Value} {w : World} {b off : Nat} {l : List α} (h : ∀ i (hi : i < l.length), w.cell? ⟨b, off + i * 3, none⟩ = some (f l[i]) ∧ w.cell? ⟨b, off + i * 3 + 1, none⟩ = some (g l[i]) ∧ w.cell? ⟨b, off + i * 3 + 2, none⟩ = some (k l[i]))
    (j : Nat) (u : Value) (hu : (cells3 f g k l)[j]? = some u) : w.cell? ⟨b, off + j, none⟩ = some u := by
  have hj : j < (cells3 f g k l).length := (List.getElem?_eq_some_iff.1 hu).1
  rw [cells3_length] at hj
  have hi : j / 3 < l.length := by omega
  obtain ⟨g1, g2, g3⟩ := cells3_get f g k l (j / 3) hi
  obtain ⟨c1, c2, c3⟩ := h (j / 3) hi
  have hm : j % 3 = 0 ∨ j % 3 = 1 ∨ j % 3 = 2 := by omega
  rcases hm with e | e | e
  · have : j = j / 3 * 3 := by omega
    rw [this] at hu ⊢
    rw [g1] at hu
    obtain rfl := Option.some.inj hu
    exact c1
  · have : j = j / 3 * 3 + 1 := by omega
    rw [this] at hu ⊢
    rw [g2] at hu
    obtain rfl := Option.some.inj hu
    exact c2
  · have : j = j / 3 * 3 + 2 := by omega
    rw [this] at hu ⊢
    rw [g3] at hu
    obtain rfl := Option.some.inj hu
    exact c3
end Go.Proofs.YtppbagllhmeenaaGreatDoor

namespace Go.Proofs.YtppbagllhmeenaaGreatDoor
open Go.RowKit
set_option linter.unusedVariables false
set_option linter.unusedSimpArgs false

/-- block b of W holds these cells, of this type -/
def TBox (W : World) (b : Nat) (T : TypeId) (cs : Array Value) : Prop := W.heap[b]? = some (.cells cs T)
theorem TBox.new (w : World) (cs : Array Value) (T : TypeId) : TBox (w.alloc (.cells cs T)) w.heap.size T cs := heap_alloc_new w _
theorem TBox.lt {W : World} {b : Nat} {T : TypeId} {cs : Array Value} (h : TBox W b T cs) : b < W.heap.size := by
  unfold TBox at h
  by_cases c : b < W.heap.size
  · exact c
  · rw [Array.getElem?_eq_none (by omega)] at h; cases h
theorem TBox.below {W W' : World} {b : Nat} {T : TypeId} {cs : Array Value} (h : TBox W b T cs) (hb : Below W.heap.size W W') : TBox W' b T cs := (hb.block b h.lt).trans h
theorem TBox.alloc {W : World} {b : Nat} {T : TypeId} {cs : Array Value} (h : TBox W b T cs) (o : Obj) : TBox (W.alloc o) b T cs := h.below ((Below.refl _ _).alloc (Nat.le_refl _) o)
theorem TBox.cell {W : World} {b i : Nat} {T : TypeId} {cs : Array Value} {v : Value} (h : TBox W b T cs) (hi : cs[i]? = some v) : W.cell? ⟨b, i, none⟩ = some v := by
  unfold TBox at h
  simp [World.cell?, h, hi]
theorem TBox.set {W : World} {b : Nat} {T : TypeId} {cs : Array Value} (h : TBox W b T cs) (i : Nat) (v : Value) : TBox (W.setCell ⟨b, i, none⟩ v) b T (cs.setIfInBounds i v) := by
  unfold TBox at *
  exact heap_setCell_same W b i cs T v h
theorem TBox.frozen {W : World} {b : Nat} {T : TypeId} {cs : Array Value} (h : TBox W b T cs) (i : Nat) : W.frozen? ⟨b, i, none⟩ = false := frozen_of_row W b i cs T h
/-- rows of other types grow, or boxes of other types are written: these rows stay -/
def Other (w w' : World) (T' : TypeId) : Prop := ∃ r, w.grownBy w' r ∧ ∀ g, r = some g → ∃ cs fz, w.heap[g]? = some (.cells cs T' fz)
theorem Other.row {w w' : World} {T' : TypeId} {base s n : Nat} {v : Value} {xs : List Value} (h : w.ownsRow base T' s v n xs) (hg : w.grownBy w' v.ownBlock) : Other w w' T' := by
  refine ⟨_, hg, fun g hgg => ?_⟩
  rcases h.2 with ⟨rfl, _⟩ | ⟨g', cap, cur, rfl, _, h1, _⟩
  · simp [Value.ownBlock] at hgg
  · simp [Value.ownBlock] at hgg
    subst hgg
    exact ⟨_, _, h1⟩
theorem Other.box {w : World} {T' : TypeId} {b i : Nat} {cs : Array Value} (h : TBox w b T' cs) (v : Value) : Other w (w.setCell ⟨b, i, none⟩ v) T' :=
  ⟨some b, ⟨rfl, rfl, rfl, by simp, fun k _ hne => heap_setCell_other w ⟨b, i, none⟩ k v (fun e => hne (by simp [e]))⟩, fun g hg => by cases hg; exact ⟨_, _, h⟩⟩
theorem Other.own {w w' : World} {T' : TypeId} (h : Other w w' T') {base s n : Nat} {T : TypeId} {v : Value} {xs : List Value} (ho : w.ownsRow base T s v n xs) (hT : T ≠ T') : w'.ownsRow base T s v n xs := by
  obtain ⟨r, hg, hr⟩ := h
  refine ho.kept hg ?_
  rcases ho.2 with ⟨rfl, _⟩ | ⟨g, cap, cur, rfl, _, h1, _⟩
  · exact .inl rfl
  · refine .inr ?_
    cases r with
    | none => simp [Value.ownBlock]
    | some g' =>
      obtain ⟨cs, fz, h2⟩ := hr g' rfl
      simp only [Value.ownBlock, ne_eq, Option.some.injEq]
      intro e
      subst e
      rw [h1] at h2
      injection h2 with h2
      injection h2 with _ h3
      exact hT h3
theorem Other.tbox {w w' : World} {T' T : TypeId} (h : Other w w' T') {b : Nat} {cs : Array Value} (ho : TBox w b T cs) (hT : T ≠ T') : TBox w' b T cs := by
  obtain ⟨r, hg, hr⟩ := h
  refine (hg.block b ho.lt ?_).trans ho
  intro e
  obtain ⟨cs', fz, h2⟩ := hr b e.symm
  unfold TBox at ho
  rw [ho] at h2
  injection h2 with h2
  injection h2 with _ h3
  exact hT h3
theorem Other.size {w w' : World} {T' : TypeId} (h : Other w w' T') : w.heap.size ≤ w'.heap.size := by
  obtain ⟨r, hg, _⟩ := h
  exact hg.size
theorem Other.refl (w : World) (T : TypeId) : Other w w T := ⟨none, ⟨rfl, rfl, rfl, Nat.le_refl _, fun _ _ _ => rfl⟩, by simp⟩
theorem TBox.setOther {W : World} {b b' i : Nat} {T : TypeId} {cs : Array Value} (h : TBox W b T cs) (hb : b ≠ b') (v : Value) : TBox (W.setCell ⟨b', i, none⟩ v) b T cs := (Below.heap_setCell W ⟨b', i, none⟩ v b (by simpa using hb)).trans h
end Go.Proofs.YtppbagllhmeenaaGreatDoor
