/- Slices as rows of cells, whatever their elements. No program in it. Boxes known by their block and type; what changes rows and boxes of one type leaves those of others. No program in it. Numbers of six words as values: their words, the value of a number, look-ups in an array of six. No walk in it. -/
import Derived.Below
import Derived.Laws.AppendOwn
import Derived.WalkKit
import Derived.ProofKit
import Derived.Test.YtopmdeefcjdadaaT28M17

namespace Go.Proofs.Ytopmdeefcjdadaa
open Go.RowKit
set_option linter.unusedVariables false
set_option linter.unusedSimpArgs false

/-- a slice value of n elements whose cells are xs, below block B -/
def CellsS (B : Nat) (w : World) (v : Value) (n : Nat) (xs : List Value) : Prop :=
  ∃ ao cap, v = .slice ao n cap ∧ n ≤ cap ∧ cap ≤ maxLen ∧ (0 < n → ∃ b off, ao = some ⟨b, off, none⟩ ∧ b < B ∧ ∀ j u, xs[j]? = some u → w.cell? ⟨b, off + j, none⟩ = some u)
theorem CellsS.below {B : Nat} {w w' : World} {v : Value} {n : Nat} {xs : List Value} (h : CellsS B w v n xs) (hb : Below B w w') : CellsS B w' v n xs := by
  obtain ⟨ao, cap, rfl, h1, h2, h3⟩ := h
  refine ⟨ao, cap, rfl, h1, h2, fun hl => ?_⟩
  obtain ⟨b, off, rfl, h4, h5⟩ := h3 hl
  exact ⟨b, off, rfl, h4, fun j u hu => (hb.cell (p := ⟨b, off + j, none⟩) h4).trans (h5 j u hu)⟩
theorem CellsS.more {B B' : Nat} {w : World} {v : Value} {n : Nat} {xs : List Value} (h : CellsS B w v n xs) (hB : B ≤ B') : CellsS B' w v n xs := by
  obtain ⟨ao, cap, rfl, h1, h2, h3⟩ := h
  refine ⟨ao, cap, rfl, h1, h2, fun hl => ?_⟩
  obtain ⟨b, off, rfl, h4, h5⟩ := h3 hl
  exact ⟨b, off, rfl, Nat.lt_of_lt_of_le h4 hB, h5⟩
theorem CellsS.nil (B : Nat) (w : World) : CellsS B w (.slice none 0 0) 0 [] := ⟨none, 0, rfl, Nat.le_refl _, Nat.zero_le _, fun h => absurd h (Nat.lt_irrefl _)⟩
theorem CellsS.cast {B : Nat} {w w' : World} {v : Value} {n : Nat} {xs : List Value} (h : CellsS B w v n xs) (hc : ∀ b off, b < B → w'.cell? ⟨b, off, none⟩ = w.cell? ⟨b, off, none⟩) : CellsS B w' v n xs := by
  obtain ⟨ao, cap, rfl, h1, h2, h3⟩ := h
  refine ⟨ao, cap, rfl, h1, h2, fun hl => ?_⟩
  obtain ⟨b, off, rfl, h4, h5⟩ := h3 hl
  exact ⟨b, off, rfl, h4, fun j u hu => (hc b _ h4).trans (h5 j u hu)⟩
theorem addr_plus (b off j : Nat) : (⟨b, off, none⟩ : Addr).add j = ⟨b, off + j, none⟩ := by unfold Addr.add; split <;> simp_all
theorem CellsS.of_own {base : Nat} {w : World} {T : TypeId} {size : Nat} {v : Value} {n : Nat} {xs : List Value} (h : w.ownsRow base T size v n xs) : CellsS w.heap.size w v n xs := by
  rcases h.2 with ⟨rfl, h0⟩ | ⟨g, cap, cur, rfl, hb, hg, h1, h2, h3, h4⟩
  · subst h0
    exact ⟨none, 0, rfl, Nat.le_refl _, Nat.zero_le _, fun h => absurd h (Nat.lt_irrefl _)⟩
  · refine ⟨some ⟨g, 0, none⟩, cap, rfl, h1, h2, fun _ => ⟨g, 0, rfl, (Array.getElem?_eq_some_iff.1 hg).1, fun j u hu => ?_⟩⟩
    have := h.cells (g := g) rfl j u hu
    rw [addr_plus] at this
    exact this
/-- cells of elements of two cells -/
def cells2 {α : Type} (f g : α → Value) (l : List α) : List Value := l.flatMap fun y => [f y, g y]
theorem cells2_length {α : Type} (f g : α → Value) (l : List α) : (cells2 f g l).length = l.length * 2 := by
  induction l with
  | nil => rfl
  | cons a l ih => simp [cells2] at *; omega
theorem cells2_snoc {α : Type} (f g : α → Value) (l : List α) (y : α) : cells2 f g (l ++ [y]) = cells2 f g l ++ [f y, g y] := by simp [cells2]
theorem cells2_take {α : Type} (f g : α → Value) (l : List α) (k : Nat) : (cells2 f g l).take (k * 2) = cells2 f g (l.take k) := by
  induction l generalizing k with
  | nil => simp [cells2]
  | cons a l ih =>
    match k with
    | 0 => simp [cells2]
    | k + 1 =>
      have := ih k
      rw [show (k + 1) * 2 = k * 2 + 2 by omega]
      simp [cells2] at *
      exact this
theorem cells2_get {α : Type} (f g : α → Value) (l : List α) (i : Nat) (h : i < l.length) : (cells2 f g l)[i * 2]? = some (f l[i]) ∧ (cells2 f g l)[i * 2 + 1]? = some (g l[i]) := by
  induction l generalizing i with
  | nil => simp at h
  | cons a l ih =>
    match i with
    | 0 => simp [cells2]
    | i + 1 =>
      have := ih i (by simpa using h)
      have e1 : (i + 1) * 2 = i * 2 + 2 := by omega
      rw [e1, show i * 2 + 2 + 1 = i * 2 + 1 + 2 by omega]
      simp only [cells2, List.flatMap_cons, List.cons_append, List.nil_append, List.getElem?_cons_succ, List.getElem_cons_succ] at *
      exact this
theorem cells2_one {α : Type} (f g : α → Value) (l : List α) (hf : ∀ x, (f x).oneCell' = true) (hg : ∀ x, (g x).oneCell' = true) : ∀ u ∈ cells2 f g l, u.oneCell' = true := by
  intro u hu
  simp only [cells2, List.mem_flatMap] at hu
  obtain ⟨y, _, hy⟩ := hu
  simp at hy
  rcases hy with rfl | rfl
  · exact hf y
  · exact hg y
/-- the cells of an element of a row -/
theorem CellsS.get2 {α : Type} {f g : α → Value} {B : Nat} {w : World} {v : Value} {l : List α} (h : CellsS B w v l.length (cells2 f g l)) (hl : l ≠ []) :
    ∃ b off cap, v = .slice (some ⟨b, off, none⟩) l.length cap ∧ b < B ∧ l.length ≤ maxLen ∧ ∀ i (hi : i < l.length), w.cell? ⟨b, off + i * 2, none⟩ = some (f l[i]) ∧ w.cell? ⟨b, off + i * 2 + 1, none⟩ = some (g l[i]) := by
  obtain ⟨ao, cap, rfl, h1, h2, h3⟩ := h
  obtain ⟨b, off, rfl, h4, h5⟩ := h3 (List.length_pos_iff.2 hl)
  exact ⟨b, off, cap, rfl, h4, Nat.le_trans h1 h2, fun i hi => ⟨h5 _ _ (cells2_get f g l i hi).1, h5 (i * 2 + 1) _ (cells2_get f g l i hi).2⟩⟩
/-- cells of elements of three cells -/
def cells3 {α : Type} (f g k : α → Value) (l : List α) : List Value := l.flatMap fun y => [f y, g y, k y]
theorem cells3_length {α : Type} (f g k : α → Value) (l : List α) : (cells3 f g k l).length = l.length * 3 := by
  induction l with
  | nil => rfl
  | cons a l ih => simp [cells3] at *; omega
theorem cells3_get {α : Type} (f g k : α → Value) (l : List α) (i : Nat) (h : i < l.length) : (cells3 f g k l)[i * 3]? = some (f l[i]) ∧ (cells3 f g k l)[i * 3 + 1]? = some (g l[i]) ∧ (cells3 f g k l)[i * 3 + 2]? = some (k l[i]) := by
  induction l generalizing i with
  | nil => simp at h
  | cons a l ih =>
    match i with
    | 0 => simp [cells3]
    | i + 1 =>
      have := ih i (by simpa using h)
      have e1 : (i + 1) * 3 = i * 3 + 3 := by omega
      rw [e1, show i * 3 + 3 + 1 = i * 3 + 1 + 3 by omega, show i * 3 + 3 + 2 = i * 3 + 2 + 3 by omega]
      simp only [cells3, List.flatMap_cons, List.cons_append, List.nil_append, List.getElem?_cons_succ, List.getElem_cons_succ] at *
      exact this
theorem cells3_one {α : Type} (f g k : α → Value) (l : List α) (hf : ∀ x, (f x).oneCell' = true) (hg : ∀ x, (g x).oneCell' = true) (hk : ∀ x, (k x).oneCell' = true) : ∀ u ∈ cells3 f g k l, u.oneCell' = true := by
  intro u hu
  simp only [cells3, List.mem_flatMap] at hu
  obtain ⟨y, _, hy⟩ := hu
  simp at hy
  rcases hy with rfl | rfl | rfl
  · exact hf y
  · exact hg y
  · exact hk y
theorem cells3_at {α : Type} {f g k : α → Value} {w : World} {b off : Nat} {l : List α} (h : ∀ i (hi : i < l.length), w.cell? ⟨b, off + i * 3, none⟩ = some (f l[i]) ∧ w.cell? ⟨b, off + i * 3 + 1, none⟩ = some (g l[i]) ∧ w.cell? ⟨b, off + i * 3 + 2, none⟩ = some (k l[i]))
    (j : Nat) (u : Value) (hu : (cells3 f g k l)[j]? = some u) : w.cell? ⟨b, off + j, none⟩ = some u := by
  have hj : j < (cells3 f g k l).length := (List.getElem?_eq_some_iff.1 hu).1
  rw [cells3_length] at hj
  have hi : j / 3 < l.length := by omega
  obtain ⟨g1, g2, g3⟩ := cells3_get f g k l (j / 3) hi
  obtain ⟨c1, c2, c3⟩ := h (j / 3) hi
  have hm : j % 3 = 0 ∨ j % 3 = 1 ∨ j % 3 = 2 := by omega
  rcases hm with e | e | e
  · have : j = j / 3 * 3 := by omega
    rw [this] at hu ⊢
    rw [g1] at hu
    obtain rfl := Option.some.inj hu
    exact c1
  · have : j = j / 3 * 3 + 1 := by omega
    rw [this] at hu ⊢
    rw [g2] at hu
    obtain rfl := Option.some.inj hu
    exact c2
  · have : j = j / 3 * 3 + 2 := by omega
    rw [this] at hu ⊢
    rw [g3] at hu
    obtain rfl := Option.some.inj hu
    exact c3
end Go.Proofs.Ytopmdeefcjdadaa

namespace Go.Proofs.Ytopmdeefcjdadaa
open Go.RowKit
set_option linter.unusedVariables false
set_option linter.unusedSimpArgs false

/-- block b of W holds these cells, of this type -/
def TBox (W : World) (b : Nat) (T : TypeId) (cs : Array Value) : Prop := W.heap[b]? = some (.cells cs T)
theorem TBox.new (w : World) (cs : Array Value) (T : TypeId) : TBox (w.alloc (.cells cs T)) w.heap.size T cs := heap_alloc_new w _
theorem TBox.lt {W : World} {b : Nat} {T : TypeId} {cs : Array Value} (h : TBox W b T cs) : b < W.heap.size := by
  unfold TBox at h
  by_cases c : b < W.heap.size
  · exact c
  · rw [Array.getElem?_eq_none (by omega)] at h; cases h
theorem TBox.below {W W' : World} {b : Nat} {T : TypeId} {cs : Array Value} (h : TBox W b T cs) (hb : Below W.heap.size W W') : TBox W' b T cs := (hb.block b h.lt).trans h
theorem TBox.alloc {W : World} {b : Nat} {T : TypeId} {cs : Array Value} (h : TBox W b T cs) (o : Obj) : TBox (W.alloc o) b T cs := h.below ((Below.refl _ _).alloc (Nat.le_refl _) o)
theorem TBox.cell {W : World} {b i : Nat} {T : TypeId} {cs : Array Value} {v : Value} (h : TBox W b T cs) (hi : cs[i]? = some v) : W.cell? ⟨b, i, none⟩ = some v := by
  unfold TBox at h
  simp [World.cell?, h, hi]
theorem TBox.set {W : World} {b : Nat} {T : TypeId} {cs : Array Value} (h : TBox W b T cs) (i : Nat) (v : Value) : TBox (W.setCell ⟨b, i, none⟩ v) b T (cs.setIfInBounds i v) := by
  unfold TBox at *
  exact heap_setCell_same W b i cs T v h
theorem TBox.frozen {W : World} {b : Nat} {T : TypeId} {cs : Array Value} (h : TBox W b T cs) (i : Nat) : W.frozen? ⟨b, i, none⟩ = false := frozen_of_row W b i cs T h
/-- rows of other types grow, or boxes of other types are written: these rows stay -/
def Other (w w' : World) (T' : TypeId) : Prop := ∃ r, w.grownBy w' r ∧ ∀ g, r = some g → ∃ cs fz, w.heap[g]? = some (.cells cs T' fz)
theorem Other.row {w w' : World} {T' : TypeId} {base s n : Nat} {v : Value} {xs : List Value} (h : w.ownsRow base T' s v n xs) (hg : w.grownBy w' v.ownBlock) : Other w w' T' := by
  refine ⟨_, hg, fun g hgg => ?_⟩
  rcases h.2 with ⟨rfl, _⟩ | ⟨g', cap, cur, rfl, _, h1, _⟩
  · simp [Value.ownBlock] at hgg
  · simp [Value.ownBlock] at hgg
    subst hgg
    exact ⟨_, _, h1⟩
theorem Other.box {w : World} {T' : TypeId} {b i : Nat} {cs : Array Value} (h : TBox w b T' cs) (v : Value) : Other w (w.setCell ⟨b, i, none⟩ v) T' :=
  ⟨some b, ⟨rfl, rfl, rfl, by simp, fun k _ hne => heap_setCell_other w ⟨b, i, none⟩ k v (fun e => hne (by simp [e]))⟩, fun g hg => by cases hg; exact ⟨_, _, h⟩⟩
theorem Other.own {w w' : World} {T' : TypeId} (h : Other w w' T') {base s n : Nat} {T : TypeId} {v : Value} {xs : List Value} (ho : w.ownsRow base T s v n xs) (hT : T ≠ T') : w'.ownsRow base T s v n xs := by
  obtain ⟨r, hg, hr⟩ := h
  refine ho.kept hg ?_
  rcases ho.2 with ⟨rfl, _⟩ | ⟨g, cap, cur, rfl, _, h1, _⟩
  · exact .inl rfl
  · refine .inr ?_
    cases r with
    | none => simp [Value.ownBlock]
    | some g' =>
      obtain ⟨cs, fz, h2⟩ := hr g' rfl
      simp only [Value.ownBlock, ne_eq, Option.some.injEq]
      intro e
      subst e
      rw [h1] at h2
      injection h2 with h2
      injection h2 with _ h3
      exact hT h3
theorem Other.tbox {w w' : World} {T' T : TypeId} (h : Other w w' T') {b : Nat} {cs : Array Value} (ho : TBox w b T cs) (hT : T ≠ T') : TBox w' b T cs := by
  obtain ⟨r, hg, hr⟩ := h
  refine (hg.block b ho.lt ?_).trans ho
  intro e
  obtain ⟨cs', fz, h2⟩ := hr b e.symm
  unfold TBox at ho
  rw [ho] at h2
  injection h2 with h2
  injection h2 with _ h3
  exact hT h3
theorem Other.size {w w' : World} {T' : TypeId} (h : Other w w' T') : w.heap.size ≤ w'.heap.size := by
  obtain ⟨r, hg, _⟩ := h
  exact hg.size
theorem Other.refl (w : World) (T : TypeId) : Other w w T := ⟨none, ⟨rfl, rfl, rfl, Nat.le_refl _, fun _ _ _ => rfl⟩, by simp⟩
theorem TBox.setOther {W : World} {b b' i : Nat} {T : TypeId} {cs : Array Value} (h : TBox W b T cs) (hb : b ≠ b') (v : Value) : TBox (W.setCell ⟨b', i, none⟩ v) b T cs := (Below.heap_setCell W ⟨b', i, none⟩ v b (by simpa using hb)).trans h
end Go.Proofs.Ytopmdeefcjdadaa

namespace Go.Proofs.Ytopmdeefcjdadaa
open Go.RowKit
set_option linter.unusedVariables false
set_option linter.unusedSimpArgs false

def hugeA (l : List Int) : Array Value := (l.map (fun x => Value.int .u64 x)).toArray
def limbs : Nat → Int → List Int
  | 0, _ => []
  | n + 1, x => loW x :: limbs n (hiW x)
theorem limbs_len : ∀ n x, (limbs n x).length = n
  | 0, _ => rfl
  | n + 1, x => by simp [limbs, limbs_len n]
theorem limbs_words : ∀ n x, Words (limbs n x)
  | 0, _ => by simp [limbs, Words]
  | n + 1, x => words_cons (lo_range _) (limbs_words n _)
theorem limbs_val : ∀ n x, 0 ≤ x → x < powW n → valH (limbs n x) = x
  | 0, x, h0, h1 => by simp [powW] at h1; simp [limbs, valH]; omega
  | n + 1, x, h0, h1 => by
    have hs := split_W x
    have h2 : hiW x < powW n := le_of_W (by have := (lo_range x).1; simp only [powW] at h1; omega)
    rw [limbs, valH, limbs_val n _ (hi_nonneg h0) h2, hs]
theorem limbs_of : ∀ l : List Int, Words l → limbs l.length (valH l) = l
  | [], _ => rfl
  | a :: l, h => by
    obtain ⟨h0, h1⟩ := (oneW_iff a).1 h.head
    have hs := split_W (a + W64 * valH l)
    have hr := lo_range (a + W64 * valH l)
    have hv := (valH_bound l h.tail).1
    have e2 : hiW (a + W64 * valH l) = valH l := by unfold hiW W64 at *; omega
    have e1 : loW (a + W64 * valH l) = a := by rw [e2] at hs; omega
    rw [List.length_cons, limbs, valH, e1, e2, limbs_of l h.tail]
def hugeV (N : Int) : Value := .agg (hugeA (limbs 6 N))
theorem six {α : Type} {l : List α} (h : l.length = 6) : ∃ a b c d e f, l = [a, b, c, d, e, f] := by
  match l, h with
  | [a, b, c, d, e, f], _ => exact ⟨a, b, c, d, e, f, rfl⟩
theorem hugeV_of {l : List Int} (h : l.length = 6) (hw : Words l) : hugeV (valH l) = .agg (hugeA l) := by
  unfold hugeV
  rw [← h, limbs_of l hw]
theorem hugeA_get {l : List Int} {i : Nat} (h : i < l.length) : (hugeA l)[i]? = some (.int .u64 l[i]) := by simp [hugeA, h]
theorem hugeA_set (l : List Int) (i : Nat) (v : Int) : (hugeA l).setIfInBounds i (.int .u64 v) = hugeA (l.set i v) := by simp [hugeA, List.map_set]
theorem index_h0 (a b c d e f : Int) (w : World) : (Instr.index 77 (.agg #[.int .u64 a, .int .u64 b, .int .u64 c, .int .u64 d, .int .u64 e, .int .u64 f]) (.int .i64 0)).run Try.prog w = .ok (.int .u64 a) w := by kernel_rfl
theorem index_h1 (a b c d e f : Int) (w : World) : (Instr.index 77 (.agg #[.int .u64 a, .int .u64 b, .int .u64 c, .int .u64 d, .int .u64 e, .int .u64 f]) (.int .i64 1)).run Try.prog w = .ok (.int .u64 b) w := by kernel_rfl
theorem index_h2 (a b c d e f : Int) (w : World) : (Instr.index 77 (.agg #[.int .u64 a, .int .u64 b, .int .u64 c, .int .u64 d, .int .u64 e, .int .u64 f]) (.int .i64 2)).run Try.prog w = .ok (.int .u64 c) w := by kernel_rfl
theorem index_h3 (a b c d e f : Int) (w : World) : (Instr.index 77 (.agg #[.int .u64 a, .int .u64 b, .int .u64 c, .int .u64 d, .int .u64 e, .int .u64 f]) (.int .i64 3)).run Try.prog w = .ok (.int .u64 d) w := by kernel_rfl
theorem index_h4 (a b c d e f : Int) (w : World) : (Instr.index 77 (.agg #[.int .u64 a, .int .u64 b, .int .u64 c, .int .u64 d, .int .u64 e, .int .u64 f]) (.int .i64 4)).run Try.prog w = .ok (.int .u64 e) w := by kernel_rfl
theorem index_h5 (a b c d e f : Int) (w : World) : (Instr.index 77 (.agg #[.int .u64 a, .int .u64 b, .int .u64 c, .int .u64 d, .int .u64 e, .int .u64 f]) (.int .i64 5)).run Try.prog w = .ok (.int .u64 f) w := by kernel_rfl
theorem index_huge (a b c d e f : Int) (i : Nat) (hi : i < 6) (w : World) : (Instr.index 77 (.agg #[.int .u64 a, .int .u64 b, .int .u64 c, .int .u64 d, .int .u64 e, .int .u64 f]) (.int .i64 (i : Int))).run Try.prog w = .ok (.int .u64 ([a, b, c, d, e, f][i]'hi)) w := by
  have h : i = 0 ∨ i = 1 ∨ i = 2 ∨ i = 3 ∨ i = 4 ∨ i = 5 := by omega
  rcases h with rfl | rfl | rfl | rfl | rfl | rfl
  · exact index_h0 a b c d e f w
  · exact index_h1 a b c d e f w
  · exact index_h2 a b c d e f w
  · exact index_h3 a b c d e f w
  · exact index_h4 a b c d e f w
  · exact index_h5 a b c d e f w
def prodL (l : List Int) : Int := l.foldl (· * ·) 1
theorem prodL_take (l : List Int) (j : Nat) (h : j < l.length) : prodL (l.take (j + 1)) = prodL (l.take j) * l[j] := by
  unfold prodL
  rw [List.take_succ_eq_append_getElem h, List.foldl_append]
  rfl
/-- a product with a further number, word by word -/
theorem times_carry {x n c : Int} (hx : OneW x) (hn : OneW n) (hc : OneW c) : loW (loW (x * n) + c) = loW (x * n + c) ∧ IntKind.u64.wrap (hiW (x * n) + hiW (loW (x * n) + c)) = hiW (x * n + c) := by
  have h := carry_word hx hn hc
  have hp : 0 ≤ x * n := Int.mul_nonneg hx.1 hn.1
  generalize x * n = p at *
  obtain ⟨c0, c1⟩ := hc
  unfold OneW at h
  simp only [IntKind.wrap_u64]
  unfold hiW loW at *
  omega
theorem row_carry {o x y c : Int} (ho : OneW o) (hx : OneW x) (hy : OneW y) (hc : OneW c) :
    loW (o + loW (loW (x * y) + c)) = loW (o + x * y + c) ∧ IntKind.u64.wrap (hiW (x * y) + hiW (loW (x * y) + c)) = hiW (x * y + c) ∧ IntKind.u64.wrap (hiW (x * y + c) + hiW (o + loW (loW (x * y) + c))) = hiW (o + x * y + c) ∧ OneW (hiW (x * y + c)) := by
  have h := carry_word2 ho hx hy hc
  have h' := carry_word hx hy hc
  have hp : 0 ≤ x * y := Int.mul_nonneg hx.1 hy.1
  generalize x * y = p at *
  obtain ⟨c0, c1⟩ := hc
  obtain ⟨o0, o1⟩ := ho
  unfold OneW at *
  simp only [IntKind.wrap_u64]
  unfold hiW loW at *
  omega
end Go.Proofs.Ytopmdeefcjdadaa
