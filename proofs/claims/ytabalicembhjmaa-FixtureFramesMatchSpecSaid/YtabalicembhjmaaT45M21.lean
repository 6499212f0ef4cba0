/- Own rows changed: an element taken out, one put in; rows of unlike types. No program in it. Own rows of ranges, parameters, profiles, units: deep copies of libraries; an append of one as one step. What fixture.Exchange stands on: its failing end, a unit stored into an own row; what it answers. -/
import Derived.Test.YtabalicembhjmaaT45M01
import Derived.Laws.IdiomCopy
import Derived.Laws.AppendOwn
import Derived.Lib.AppendZerosOnto
import Derived.Lib.Overlaps
import Derived.Lib.SliceRun
import Derived.Test.YtabalicembhjmaaT45M20
import Derived.Test.YtabalicembhjmaaT45M14

namespace Go.Proofs.Ytabalicembhjmaa
open Go.RowKit
set_option linter.unusedVariables false
set_option linter.unusedSimpArgs false

/-- a row of another type stays while a row grows -/
theorem own_type {w w' : World} {base base' : Nat} {T T' : TypeId} {s s' : Nat} {v v' : Value} {n n' : Nat} {xs xs' : List Value} (h : w.ownsRow base T s v n xs) (h' : w.ownsRow base' T' s' v' n' xs') (hT : T ≠ T') (hg : w.grownBy w' v'.ownBlock) : w'.ownsRow base T s v n xs := by
  refine h.kept hg ?_
  rcases h.2 with ⟨rfl, _⟩ | ⟨g, cap, cur, rfl, _, h1, _⟩
  · exact .inl rfl
  · refine .inr ?_
    rcases h'.2 with ⟨rfl, _⟩ | ⟨g', cap', cur', rfl, _, h2, _⟩
    · simp [Value.ownBlock]
    · simp only [Value.ownBlock, ne_eq, Option.some.injEq]
      intro e
      subst e
      rw [h1] at h2
      injection h2 with h2
      injection h2 with _ h3
      exact hT h3
theorem own_below2 {w w' : World} {base : Nat} {T : TypeId} {s : Nat} {v : Value} {n : Nat} {xs : List Value} (h : w.ownsRow base T s v n xs) (hb : Below w.heap.size w w') : w'.ownsRow base T s v n xs := by
  refine ⟨h.1, ?_⟩
  rcases h.2 with h' | ⟨g, cap, cur, e1, h1, h2, h3⟩
  · exact .inl h'
  · exact .inr ⟨g, cap, cur, e1, h1, (hb.block g (World.ownsRow.lt h g (by rw [e1]; rfl)).2).trans h2, h3⟩
theorem own_base {w : World} {base base' : Nat} {T : TypeId} {s : Nat} {v : Value} {n : Nat} {xs : List Value} (h : w.ownsRow base T s v n xs) (hb : base' ≤ base) : w.ownsRow base' T s v n xs := by
  refine ⟨h.1, ?_⟩
  rcases h.2 with h' | ⟨g, cap, cur, e1, h1, h2, h3⟩
  · exact .inl h'
  · exact .inr ⟨g, cap, cur, e1, Nat.le_trans hb h1, h2, h3⟩
theorem own_shape2 {w : World} {base : Nat} {T : TypeId} {s : Nat} {v : Value} {n : Nat} {xs : List Value} (h : w.ownsRow base T s v n xs) : ∃ ao cap, v = .slice ao n cap := by
  rcases h.2 with h' | ⟨g, cap, cur, e1, _⟩
  · exact ⟨none, 0, by rw [h'.1, h'.2]⟩
  · exact ⟨_, cap, e1⟩
theorem own_keeps {B base : Nat} {a w w' : World} {T : TypeId} {s : Nat} {v : Value} {n : Nat} {xs : List Value} (ho : w.ownsRow base T s v n xs) (h : Below B a w) (g : w.grownBy w' v.ownBlock) (hB : B ≤ base) (hs : B ≤ w.heap.size) : Below B a w' :=
  h.grown g hs (fun k hk => by have := (World.ownsRow.lt ho k hk).1; omega)
/-- cells stored into a row, one after the other -/
theorem setCells_row (g : Nat) (T : TypeId) : ∀ (Z : List Value) (o : Nat) (w : World) (cur : Array Value), w.heap[g]? = some (.cells cur T (0, 0)) → o + Z.length ≤ cur.size →
    ∃ cur', (w.setCells g o Z).heap[g]? = some (.cells cur' T (0, 0)) ∧ cur'.toList = cur.toList.take o ++ Z ++ cur.toList.drop (o + Z.length)
  | [], o, w, cur, h, hl => ⟨cur, h, by simp⟩
  | v :: r, o, w, cur, h, hl => by
    simp only [List.length_cons] at hl
    obtain ⟨c, h1, h2⟩ := setCells_row g T r (o + 1) (w.setCell ⟨g, o, none⟩ v) (cur.setIfInBounds o v) (heap_setCell_same w g o cur T v h) (by simp; omega)
    refine ⟨c, h1, ?_⟩
    have ho : o < cur.toList.length := by simp; omega
    have e1 : (cur.toList.set o v).take (o + 1) = cur.toList.take o ++ [v] := by
      rw [List.take_succ_eq_append_getElem (by simpa using ho), List.take_set_of_le (Nat.le_refl o)]
      simp
    have e2 : (cur.toList.set o v).drop (o + 1 + r.length) = cur.toList.drop (o + 1 + r.length) := List.drop_set_of_lt (by omega)
    rw [h2, Array.toList_setIfInBounds, e1, e2]
    simp only [List.length_cons, List.append_assoc, List.cons_append, List.nil_append]
    rw [show o + 1 + r.length = o + (r.length + 1) by omega]
theorem setCells_grown2 (g : Nat) : ∀ (Z : List Value) (o : Nat) (w : World), w.grownBy (w.setCells g o Z) (some g)
  | [], o, w => ⟨rfl, rfl, rfl, Nat.le_refl _, fun _ _ _ => rfl⟩
  | v :: r, o, w => by
    have h1 := setCells_grown2 g r (o + 1) (w.setCell ⟨g, o, none⟩ v)
    exact ⟨h1.os.trans rfl, h1.tape.trans rfl, h1.output.trans rfl, Nat.le_trans (by simp) h1.size, fun k hk hne => (h1.block k (by simpa using hk) hne).trans (heap_setCell_other w ⟨g, o, none⟩ k v (fun e => hne (by simp [e])))⟩
theorem grown_trans {w w1 w2 : World} {r : Option Nat} (h1 : w.grownBy w1 r) (h2 : w1.grownBy w2 r) : w.grownBy w2 r :=
  ⟨h2.os.trans h1.os, h2.tape.trans h1.tape, h2.output.trans h1.output, Nat.le_trans h1.size h2.size, fun k hk hne => (h2.block k (Nat.lt_of_lt_of_le hk h1.size) hne).trans (h1.block k hk hne)⟩
theorem grown_drew (w : World) (r : Option Nat) : w.grownBy w.drew r := ⟨rfl, rfl, rfl, Nat.le_refl _, fun _ _ _ => rfl⟩
theorem grown_weak {w w1 : World} {r : Option Nat} (h1 : w.grownBy w1 none) : w.grownBy w1 r := ⟨h1.os, h1.tape, h1.output, h1.size, fun k hk _ => h1.block k hk (by simp)⟩
theorem grown_of_below2 {w w' : World} {row : Option Nat} (h : Below w.heap.size w w') : w.grownBy w' row := ⟨h.os, h.tape, h.output, h.size, fun k hk _ => h.block k hk⟩
/-- what was made anew may be written: nothing older is -/
theorem grown_new {w w1 w2 : World} {g : Nat} {r : Option Nat} (h1 : w.grownBy w1 r) (h2 : w1.grownBy w2 (some g)) (hg : w.heap.size ≤ g) : w.grownBy w2 r :=
  ⟨h2.os.trans h1.os, h2.tape.trans h1.tape, h2.output.trans h1.output, Nat.le_trans h1.size h2.size, fun k hk hne => (h2.block k (Nat.lt_of_lt_of_le hk h1.size) (by intro e; injection e with e; omega)).trans (h1.block k hk hne)⟩
theorem row_isSome2 {w : World} {g j : Nat} {cur : Array Value} {T : TypeId} (h : w.heap[g]? = some (.cells cur T (0, 0))) (hj : j < cur.size) : (w.cell? ⟨g, j, none⟩).isSome = true := by
  simp [World.cell?, h, hj]
theorem row_cell2 {w : World} {g j : Nat} {cur : Array Value} {T : TypeId} (h : w.heap[g]? = some (.cells cur T (0, 0))) : w.cell? ⟨g, j, none⟩ = cur[j]? := by
  simp [World.cell?, h]
/-- copy at elements of any size: all is read before anything is written -/
theorem run_copy_size {P : Program} (w : World) (dT sT ty elem : TypeId) (size : Nat) (b o dLen dCap : Nat) (a : Addr) (sLen sCap m : Nat) (cs : List Value)
    (hu : P.underlying dT = some (.slice elem)) (hs : (P.info? elem).map (·.size) = some size) (hm : m = Nat.min sLen dLen) (hn : cs.length = m * size)
    (hsrc : ∀ j v, cs[j]? = some v → w.cell? (a.add j) = some v) (hc : ∀ j, j < cs.length → (w.cell? ⟨b, o + j, none⟩).isSome = true) (hf : ∀ j, j < cs.length → w.frozen? ⟨b, o + j, none⟩ = false) (h1 : ∀ v ∈ cs, v.oneCell' = true) :
    (Builtin.copy_ #[dT, sT] ty #[.slice (some ⟨b, o, none⟩) dLen dCap, .slice (some a) sLen sCap]).run P w = .ok (goInt m) (w.setCells b o cs) := by
  have hl := run_loadCells_list (P := P) w a cs hsrc
  have hst := run_storeCells_cells (P := P) b o cs 0 w (by simpa using hc) (by simpa using hf) h1
  cases hq : P.info? elem with
  | none => simp [hq] at hs
  | some i =>
    have hi : i.size = size := by simpa [hq] using hs
    rw [hn] at hl
    simp only [Nat.add_zero] at hst
    simp [Builtin.copy_, run_underlying hu, Builtin.lenOf, Builtin.firstCells, sizeOf, typeInfo, hq, hi, ← hm, hl, hst]
/-- clear at elements of any size -/
theorem run_clear_any {P : Program} (w : World) (t e : TypeId) (z : Value) (m : Nat) (ht : P.underlying t = some (.slice e)) (hv : ∀ w, (zeroValue e).run P w = .ok z w) (hz : z.cells.size = m) (h1 : ∀ u ∈ z.cells, u.oneCell' = true) (b o n c : Nat) (hn : 0 < n)
    (hc : ∀ j, j < n * m → (w.cell? ⟨b, o + j, none⟩).isSome = true) (hf : ∀ j, j < n * m → w.frozen? ⟨b, o + j, none⟩ = false) :
    ∃ Z : List Value, Z.length = n * m ∧ ∀ ty, (Builtin.clear_ #[t] ty #[.slice (some ⟨b, o, none⟩) n c]).run P w = .ok (.tuple #[]) (w.setCells b o Z) := by
  have hlen : (Builtin.zeroCells z.cells n).toList.length = n * m := by
    simp [Builtin.zeroCells, hz, Nat.mul_comm]
  have hone : ∀ v ∈ (Builtin.zeroCells z.cells n).toList, v.oneCell' = true := by
    intro v hv'
    simp [Builtin.zeroCells] at hv'
    obtain ⟨i, hi, rfl⟩ := hv'
    have hpos : 0 < z.cells.size := by
      rcases Nat.eq_zero_or_pos z.cells.size with h | h
      · rw [h] at hi; simp at hi
      · exact h
    have hlt := Nat.mod_lt i hpos
    rw [getElem!_pos z.cells _ hlt]
    exact h1 _ (Array.getElem_mem _)
  have hst := run_storeCells_cells (P := P) b o (Builtin.zeroCells z.cells n).toList 0 w (by rw [hlen]; simpa using hc) (by rw [hlen]; simpa using hf) hone
  simp only [Nat.add_zero] at hst
  obtain ⟨k, rfl⟩ : ∃ k, n = k + 1 := ⟨n - 1, by omega⟩
  refine ⟨_, hlen, fun ty => ?_⟩
  simp [Builtin.clear_, run_underlying ht, hv, hst]
/-- a row behind an element's leaving: the cells moved, the last ones written over -/
theorem row_del {w : World} {g n cap i size : Nat} {cur : Array Value} {T : TypeId} (hg : w.heap[g]? = some (.cells cur T (0, 0))) (hi : i < n) (hn : n ≤ cap) (hc : cur.size = cap * size) (Z : List Value) (hZ : Z.length = size) :
    ∃ cur', ((w.setCells g (i * size) ((cur.toList.take (n * size)).drop ((i + 1) * size))).setCells g ((n - 1) * size) Z).heap[g]? = some (.cells cur' T (0, 0)) ∧ cur'.size = cap * size ∧
      cur'.toList.take ((n - 1) * size) = (cur.toList.take (n * size)).take (i * size) ++ (cur.toList.take (n * size)).drop ((i + 1) * size) := by
  have h1 : n * size ≤ cap * size := Nat.mul_le_mul_right _ hn
  have h2 : (i + 1) * size ≤ n * size := Nat.mul_le_mul_right _ hi
  have h3 : (n - 1) * size + size = n * size := by
    obtain ⟨k, rfl⟩ : ∃ k, n = k + 1 := ⟨n - 1, by omega⟩
    rw [Nat.add_sub_cancel, Nat.succ_mul]
  have h4 : (i + 1) * size = i * size + size := Nat.succ_mul _ _
  have hL : (cur.toList.take (n * size)).length = n * size := by rw [List.length_take]; simp; omega
  have hD : ((cur.toList.take (n * size)).drop ((i + 1) * size)).length = n * size - (i + 1) * size := by rw [List.length_drop, hL]
  obtain ⟨c1, e1, e2⟩ := setCells_row g T ((cur.toList.take (n * size)).drop ((i + 1) * size)) (i * size) w cur hg (by rw [hD]; omega)
  have s1 : c1.size = cur.size := by
    have := congrArg List.length e2
    simp only [List.length_append, hD, List.length_take, List.length_drop, Array.length_toList] at this
    omega
  obtain ⟨c2, f1, f2⟩ := setCells_row g T Z ((n - 1) * size) _ c1 e1 (by rw [hZ]; omega)
  have s2 : c2.size = c1.size := by
    have := congrArg List.length f2
    simp only [List.length_append, List.length_take, List.length_drop, Array.length_toList] at this
    omega
  refine ⟨c2, f1, by omega, ?_⟩
  rw [f2, List.append_assoc, List.take_append_of_le_length (by simp; omega), List.take_take, Nat.min_self, e2, List.take_append_of_le_length (by rw [List.length_append, hD, List.length_take, Array.length_toList]; omega),
    List.take_of_length_le (by rw [List.length_append, hD, List.length_take, Array.length_toList]; omega), List.take_take, Nat.min_eq_left (by omega)]
/-- a row behind an element's coming, in place: the cells behind it moved on first -/
theorem row_ins {w : World} {g n cap i size : Nat} {cur : Array Value} {T : TypeId} (hg : w.heap[g]? = some (.cells cur T (0, 0))) (hi : i ≤ n) (hn : n + 1 ≤ cap) (hc : cur.size = cap * size) (ys : List Value) (hy : ys.length = size) :
    ∃ cur', ((w.setCells g ((i + 1) * size) ((cur.toList.take (n * size)).drop (i * size))).setCells g (i * size) ys).heap[g]? = some (.cells cur' T (0, 0)) ∧ cur'.size = cap * size ∧
      cur'.toList.take ((n + 1) * size) = (cur.toList.take (n * size)).take (i * size) ++ ys ++ (cur.toList.take (n * size)).drop (i * size) := by
  have h1 : (n + 1) * size ≤ cap * size := Nat.mul_le_mul_right _ hn
  have h2 : i * size ≤ n * size := Nat.mul_le_mul_right _ hi
  have h3 : (n + 1) * size = n * size + size := Nat.succ_mul _ _
  have h4 : (i + 1) * size = i * size + size := Nat.succ_mul _ _
  have hL : (cur.toList.take (n * size)).length = n * size := by rw [List.length_take]; simp; omega
  have hD : ((cur.toList.take (n * size)).drop (i * size)).length = n * size - i * size := by rw [List.length_drop, hL]
  obtain ⟨c1, e1, e2⟩ := setCells_row g T ((cur.toList.take (n * size)).drop (i * size)) ((i + 1) * size) w cur hg (by rw [hD]; omega)
  have s1 : c1.size = cur.size := by
    have := congrArg List.length e2
    simp only [List.length_append, hD, List.length_take, List.length_drop, Array.length_toList] at this
    omega
  obtain ⟨c2, f1, f2⟩ := setCells_row g T ys (i * size) _ c1 e1 (by rw [hy]; omega)
  have s2 : c2.size = c1.size := by
    have := congrArg List.length f2
    simp only [List.length_append, List.length_take, List.length_drop, Array.length_toList] at this
    omega
  refine ⟨c2, f1, by omega, ?_⟩
  have d1 : c1.toList.take (i * size) = (cur.toList.take (n * size)).take (i * size) := by
    rw [e2, List.append_assoc, List.take_append_of_le_length (by simp; omega), List.take_take, Nat.min_eq_left (by omega), List.take_take, Nat.min_eq_left (by omega)]
  have d2 : (c1.toList.drop (i * size + ys.length)).take (n * size - i * size) = (cur.toList.take (n * size)).drop (i * size) := by
    rw [hy, ← h4, e2, List.append_assoc, List.drop_append_of_le_length (by simp; omega), List.drop_of_length_le (by simp; omega), List.nil_append, List.take_append_of_le_length (by rw [hD]; omega), List.take_of_length_le (by rw [hD]; omega)]
  rw [f2, d1, List.take_append, ← d2]
  have l1 : ((cur.toList.take (n * size)).take (i * size) ++ ys).length = i * size + size := by rw [List.length_append, hy, List.length_take, hL]; omega
  rw [List.take_of_length_le (by rw [l1]; omega), l1]
  congr 2
  omega
/-- a row written twice, one stretch behind the other -/
theorem row_two {w : World} {g p : Nat} {cur : Array Value} {T : TypeId} (hg : w.heap[g]? = some (.cells cur T (0, 0))) (vs ds : List Value) (h : p + vs.length + ds.length ≤ cur.size) :
    ∃ cur', ((w.setCells g p vs).setCells g (p + vs.length) ds).heap[g]? = some (.cells cur' T (0, 0)) ∧ cur'.size = cur.size ∧ cur'.toList.take (p + vs.length + ds.length) = cur.toList.take p ++ vs ++ ds := by
  obtain ⟨c1, e1, e2⟩ := setCells_row g T vs p w cur hg (by omega)
  have s1 : c1.size = cur.size := by
    have := congrArg List.length e2
    simp only [List.length_append, List.length_take, List.length_drop, Array.length_toList] at this
    omega
  obtain ⟨c2, f1, f2⟩ := setCells_row g T ds (p + vs.length) _ c1 e1 (by omega)
  have s2 : c2.size = c1.size := by
    have := congrArg List.length f2
    simp only [List.length_append, List.length_take, List.length_drop, Array.length_toList] at this
    omega
  refine ⟨c2, f1, by omega, ?_⟩
  have d1 : c1.toList.take (p + vs.length) = cur.toList.take p ++ vs := by
    rw [e2, List.take_append_of_le_length (by simp; omega), List.take_of_length_le (by simp; omega)]
  rw [f2, d1, List.take_append_of_le_length (by simp; omega), List.take_of_length_le (by simp; omega)]
end Go.Proofs.Ytabalicembhjmaa

namespace Go.Proofs.Ytabalicembhjmaa
open Go.RowKit
open Go (info_parts)
set_option linter.unusedVariables false
set_option linter.unusedSimpArgs false

def OwnR (base : Nat) (w : World) (v : Value) (l : List Rng) : Prop := w.ownsRow base 86 3 v l.length (l.flatMap rngC)
def OwnP (base : Nat) (w : World) (v : Value) (l : List Par) : Prop :=
  ∃ lv : List (Par × Value), lv.map (·.1) = l ∧ w.ownsRow base 42 7 v lv.length (lv.flatMap parC) ∧ ∀ y ∈ lv, OwnR base w y.2 y.1.rngs
def OwnL (base : Nat) (w : World) (v : Value) (l : List Prf) : Prop :=
  ∃ lv : List (Prf × Value), lv.map (·.1) = l ∧ w.ownsRow base 70 3 v lv.length (lv.flatMap prfC) ∧ ∀ y ∈ lv, OwnP base w y.2 y.1.pars
def OwnU (base : Nat) (w : World) (v : Value) (l : List Unt) : Prop := w.ownsRow base 67 4 v l.length (l.flatMap untC)
theorem OwnP.nil (base : Nat) (w : World) : OwnP base w (.slice none 0 0) [] := ⟨[], rfl, World.ownsRow_nil w base _ _, by simp⟩
theorem OwnL.nil (base : Nat) (w : World) : OwnL base w (.slice none 0 0) [] := ⟨[], rfl, World.ownsRow_nil w base _ _, by simp⟩
theorem OwnR.below {base : Nat} {w w' : World} {v : Value} {l : List Rng} (h : OwnR base w v l) (hb : Below w.heap.size w w') : OwnR base w' v l := own_below2 h hb
theorem OwnU.below {base : Nat} {w w' : World} {v : Value} {l : List Unt} (h : OwnU base w v l) (hb : Below w.heap.size w w') : OwnU base w' v l := own_below2 h hb
theorem OwnP.below {base : Nat} {w w' : World} {v : Value} {l : List Par} (h : OwnP base w v l) (hb : Below w.heap.size w w') : OwnP base w' v l := by
  obtain ⟨lv, h1, h2, h3⟩ := h
  exact ⟨lv, h1, own_below2 h2 hb, fun y hy => (h3 y hy).below hb⟩
theorem OwnL.below {base : Nat} {w w' : World} {v : Value} {l : List Prf} (h : OwnL base w v l) (hb : Below w.heap.size w w') : OwnL base w' v l := by
  obtain ⟨lv, h1, h2, h3⟩ := h
  exact ⟨lv, h1, own_below2 h2 hb, fun y hy => (h3 y hy).below hb⟩
theorem OwnR.less {base base' : Nat} {w : World} {v : Value} {l : List Rng} (h : OwnR base w v l) (hb : base' ≤ base) : OwnR base' w v l := own_base h hb
theorem OwnP.less {base base' : Nat} {w : World} {v : Value} {l : List Par} (h : OwnP base w v l) (hb : base' ≤ base) : OwnP base' w v l := by
  obtain ⟨lv, h1, h2, h3⟩ := h
  exact ⟨lv, h1, own_base h2 hb, fun y hy => (h3 y hy).less hb⟩
theorem OwnL.less {base base' : Nat} {w : World} {v : Value} {l : List Prf} (h : OwnL base w v l) (hb : base' ≤ base) : OwnL base' w v l := by
  obtain ⟨lv, h1, h2, h3⟩ := h
  exact ⟨lv, h1, own_base h2 hb, fun y hy => (h3 y hy).less hb⟩
theorem OwnP.shape {base : Nat} {w : World} {v : Value} {l : List Par} (h : OwnP base w v l) : ∃ ao cap, v = .slice ao l.length cap := by
  obtain ⟨lv, h1, h2, h3⟩ := h
  obtain ⟨ao, cap, e⟩ := own_shape2 h2
  exact ⟨ao, cap, by rw [← h1]; simpa using e⟩
theorem OwnL.shape {base : Nat} {w : World} {v : Value} {l : List Prf} (h : OwnL base w v l) : ∃ ao cap, v = .slice ao l.length cap := by
  obtain ⟨lv, h1, h2, h3⟩ := h
  obtain ⟨ao, cap, e⟩ := own_shape2 h2
  exact ⟨ao, cap, by rw [← h1]; simpa using e⟩
theorem OwnU.shape {base : Nat} {w : World} {v : Value} {l : List Unt} (h : OwnU base w v l) : ∃ ao cap, v = .slice ao l.length cap := own_shape2 h
theorem OwnR.shape {base : Nat} {w : World} {v : Value} {l : List Rng} (h : OwnR base w v l) : ∃ ao cap, v = .slice ao l.length cap := own_shape2 h
theorem OwnR.other {base : Nat} {w w' : World} {v : Value} {l : List Rng} {T' : TypeId} (h : OwnR base w v l) (ho : Other w w' T') (h1 : 86 ≠ T') : OwnR base w' v l := ho.own h h1
theorem OwnU.other {base : Nat} {w w' : World} {v : Value} {l : List Unt} {T' : TypeId} (h : OwnU base w v l) (ho : Other w w' T') (h1 : 67 ≠ T') : OwnU base w' v l := ho.own h h1
theorem OwnP.other {base : Nat} {w w' : World} {v : Value} {l : List Par} {T' : TypeId} (h : OwnP base w v l) (ho : Other w w' T') (h1 : 86 ≠ T') (h2 : 42 ≠ T') : OwnP base w' v l := by
  obtain ⟨lv, e1, e2, e3⟩ := h
  exact ⟨lv, e1, ho.own e2 h2, fun y hy => (e3 y hy).other ho h1⟩
theorem OwnL.other {base : Nat} {w w' : World} {v : Value} {l : List Prf} {T' : TypeId} (h : OwnL base w v l) (ho : Other w w' T') (h1 : 86 ≠ T') (h2 : 42 ≠ T') (h3 : 70 ≠ T') : OwnL base w' v l := by
  obtain ⟨lv, e1, e2, e3⟩ := h
  exact ⟨lv, e1, ho.own e2 h3, fun y hy => (e3 y hy).other ho h1 h2⟩
theorem OwnR.rngS {base : Nat} {w : World} {v : Value} {l : List Rng} (h : OwnR base w v l) : RngS w.heap.size w v l := CellsS.of_own h
theorem OwnP.parS {base : Nat} {w : World} {v : Value} {l : List Par} (h : OwnP base w v l) : ParS w.heap.size w v l := by
  obtain ⟨lv, e1, e2, e3⟩ := h
  exact ⟨lv, e1, CellsS.of_own e2, fun y hy => (e3 y hy).rngS⟩
theorem OwnL.prfS {base : Nat} {w : World} {v : Value} {l : List Prf} (h : OwnL base w v l) : PrfS w.heap.size w v l := by
  obtain ⟨lv, e1, e2, e3⟩ := h
  exact ⟨lv, e1, CellsS.of_own e2, fun y hy => (e3 y hy).parS⟩
theorem OwnU.untS {base : Nat} {w : World} {v : Value} {l : List Unt} (h : OwnU base w v l) : UntS w.heap.size w v l := CellsS.of_own h
theorem infoOwnP : (Try.prog.info? 42).map (fun i => (i.zero, i.size, i.bytes)) = some (some (.agg #[.string ⟨#[]⟩, .int .i64 0, .int .i64 0, .int .i64 0, .int .i64 0, .bool false, .slice none 0 0]), 7, 80) := by kernel_rfl
theorem infoOwnL : (Try.prog.info? 70).map (fun i => (i.zero, i.size, i.bytes)) = some (some (.agg #[.string ⟨#[]⟩, .int .i64 0, .slice none 0 0]), 3, 48) := by kernel_rfl
theorem wpList_ownP {w : World} {ops : Array Oper} {rest : List Oper} {o : Oper} {a : Act} {Q : Exit → Act → World → Prop} (hgd : o.guard = none) (s x : Operand)
    (hop : o.op = .call { callee := .builtin .append, args := #[s, x], argTypes := #[68, 68] })
    (base c : Nat) (v : Value) (l : List Par) (y : Par × Value) (ad : Addr) (hs : a.eval s = v) (hx : a.eval x = .slice (some ad) 1 c)
    (ho : OwnP base w v l) (hy : OwnR base w y.2 y.1.rngs) (hc : ∀ (j : Nat) u, (parC y)[j]? = some u → w.cell? (ad.add j) = some u) (hl : l.length ≤ 100000) (hb : base ≤ w.heap.size)
    (h : ∀ v' w', OwnP base w' v' (l ++ [y.1]) → w.grownBy w' v.ownBlock → Other w w' 42 → wpList Try.prog ops Q rest (a.put o.dst v') w') : wpList Try.prog ops Q (o :: rest) a w := by
  obtain ⟨i0, hi, hz0, hz1, hz2⟩ := info_parts infoOwnP
  obtain ⟨lv, e1, e2, e3⟩ := ho
  have hll : lv.length = l.length := by rw [← e1]; simp
  obtain ⟨⟨pn, pg, ps, pf, pd, pb, pr⟩, yv⟩ := y
  obtain ⟨ro, rcap, hrs⟩ := hy.shape
  simp only at hrs
  subst hrs
  refine wpList_append_own w hgd s x 68 hop base 42 i0 (.agg #[.string ⟨#[]⟩, .int .i64 0, .int .i64 0, .int .i64 0, .int .i64 0, .bool false, .slice none 0 0]) 7 80 Try.underlying68 hi hz0 hz1 hz2 rfl (by decide) v lv.length (lv.flatMap parC) hs e2 ad 1 c (parC (⟨pn, pg, ps, pf, pd, pb, pr⟩, .slice ro pr.length rcap)) hx rfl hc (by intro u hu; simp [parC] at hu; rcases hu with rfl | rfl | rfl | rfl | rfl | rfl | rfl <;> rfl) (by unfold maxLen; omega) (by omega) hb ?_
  intro v' w' h1 h2 _
  have hO := Other.row e2 h2
  refine h v' w' ⟨lv ++ [(⟨pn, pg, ps, pf, pd, pb, pr⟩, .slice ro pr.length rcap)], by simp [e1], ?_, ?_⟩ h2 hO
  · rw [List.flatMap_append, List.length_append]
    simpa using h1
  · intro y hy'
    rcases List.mem_append.1 hy' with h' | h'
    · exact (e3 y h').other hO (by decide)
    · simp at h'
      subst h'
      exact hy.other hO (by decide)
theorem wpList_ownL {w : World} {ops : Array Oper} {rest : List Oper} {o : Oper} {a : Act} {Q : Exit → Act → World → Prop} (hgd : o.guard = none) (s x : Operand)
    (hop : o.op = .call { callee := .builtin .append, args := #[s, x], argTypes := #[22, 22] })
    (base c : Nat) (v : Value) (l : List Prf) (y : Prf × Value) (ad : Addr) (hs : a.eval s = v) (hx : a.eval x = .slice (some ad) 1 c)
    (ho : OwnL base w v l) (hy : OwnP base w y.2 y.1.pars) (hc : ∀ (j : Nat) u, (prfC y)[j]? = some u → w.cell? (ad.add j) = some u) (hl : l.length ≤ 100000) (hb : base ≤ w.heap.size)
    (h : ∀ v' w', OwnL base w' v' (l ++ [y.1]) → w.grownBy w' v.ownBlock → Other w w' 70 → wpList Try.prog ops Q rest (a.put o.dst v') w') : wpList Try.prog ops Q (o :: rest) a w := by
  obtain ⟨i0, hi, hz0, hz1, hz2⟩ := info_parts infoOwnL
  obtain ⟨lv, e1, e2, e3⟩ := ho
  have hll : lv.length = l.length := by rw [← e1]; simp
  obtain ⟨⟨pn, pg, ps⟩, yv⟩ := y
  obtain ⟨ro, rcap, hrs⟩ := hy.shape
  simp only at hrs
  subst hrs
  refine wpList_append_own w hgd s x 22 hop base 70 i0 (.agg #[.string ⟨#[]⟩, .int .i64 0, .slice none 0 0]) 3 48 Try.underlying22 hi hz0 hz1 hz2 rfl (by decide) v lv.length (lv.flatMap prfC) hs e2 ad 1 c (prfC (⟨pn, pg, ps⟩, .slice ro ps.length rcap)) hx rfl hc (by intro u hu; simp [prfC] at hu; rcases hu with rfl | rfl | rfl <;> rfl) (by unfold maxLen; omega) (by omega) hb ?_
  intro v' w' h1 h2 _
  have hO := Other.row e2 h2
  refine h v' w' ⟨lv ++ [(⟨pn, pg, ps⟩, .slice ro ps.length rcap)], by simp [e1], ?_, ?_⟩ h2 hO
  · rw [List.flatMap_append, List.length_append]
    simpa using h1
  · intro y hy'
    rcases List.mem_append.1 hy' with h' | h'
    · exact (e3 y h').other hO (by decide) (by decide)
    · simp at h'
      subst h'
      exact hy.other hO (by decide) (by decide)
theorem ownP_new (w : World) (y : Par × Value) (T : TypeId) : ∀ (j : Nat) u, (parC y)[j]? = some u → (w.alloc (.cells #[.string y.1.name, .int .i64 y.1.grp, .int .i64 y.1.sl, .int .i64 y.1.fine, .int .i64 y.1.dflt, .bool y.1.snap, y.2] T)).cell? ((⟨w.heap.size, 0, none⟩ : Addr).add j) = some u := by
  intro j u hu
  match j, hu with
  | 0, hu => simp [parC] at hu; subst hu; simp [Addr.add, go_sem]
  | 1, hu => simp [parC] at hu; subst hu; simp [Addr.add, go_sem]
  | 2, hu => simp [parC] at hu; subst hu; simp [Addr.add, go_sem]
  | 3, hu => simp [parC] at hu; subst hu; simp [Addr.add, go_sem]
  | 4, hu => simp [parC] at hu; subst hu; simp [Addr.add, go_sem]
  | 5, hu => simp [parC] at hu; subst hu; simp [Addr.add, go_sem]
  | 6, hu => simp [parC] at hu; subst hu; simp [Addr.add, go_sem]
  | j + 7, hu => simp [parC] at hu
theorem ownL_new (w : World) (y : Prf × Value) (T : TypeId) : ∀ (j : Nat) u, (prfC y)[j]? = some u → (w.alloc (.cells #[.string y.1.name, .int .i64 y.1.size, y.2] T)).cell? ((⟨w.heap.size, 0, none⟩ : Addr).add j) = some u := by
  intro j u hu
  match j, hu with
  | 0, hu => simp [prfC] at hu; subst hu; simp [Addr.add, go_sem]
  | 1, hu => simp [prfC] at hu; subst hu; simp [Addr.add, go_sem]
  | 2, hu => simp [prfC] at hu; subst hu; simp [Addr.add, go_sem]
  | j + 3, hu => simp [prfC] at hu
end Go.Proofs.Ytabalicembhjmaa

namespace Go.Proofs.Ytabalicembhjmaa
open Go.RowKit
set_option linter.unusedVariables false
set_option linter.unusedSimpArgs false

set_option maxHeartbeats 1000000 in
theorem exFail_any (f : Int) (w : World) :
    Calls Try.prog 43 #[.int .i64 f] w fun e w' => e = .returned (.tuple #[.agg #[.slice none 0 0, .slice none 0 0], .slice none 0 0, .slice none 0 0, .int .i64 f]) ∧ Below w.heap.size w w' := by
  go_enter Try.func43, Try.ntmps43
  go_wp2
  exact bodyPost_ret (v := .tuple #[.agg #[.slice none 0 0, .slice none 0 0], .slice none 0 0, .slice none 0 0, .int .i64 f]) (by simp [results, Try.results43, go_sem]) rfl ⟨rfl, (Below.refl _ _).alloc (Nat.le_refl _) _⟩
theorem exFail_call (args : Array Value) (W : World) : Sem.run Try.prog (callFunc 43 args) W = .ok (.enter 43 args) W := by simp [go_sem]

/-- a unit stored into an own row of units -/
theorem OwnU.put {base g cap : Nat} {w : World} {l : List Unt} (h : OwnU base w (.slice (some ⟨g, 0, none⟩) l.length cap) l) (k : Nat) (hk : k < l.length) (u : Unt) :
    OwnU base (w.setCells g (k * 4) (untC u)) (.slice (some ⟨g, 0, none⟩) l.length cap) (l.set k u) := by
  unfold OwnU at *
  obtain ⟨hx, hn | ⟨g', cap', cur, e1, hb, hg, hnc, hcm, hcs, hct⟩⟩ := h
  · exact absurd hn.1 (by simp)
  · injection e1 with e1 _ e2
    injection e1 with e1
    injection e1 with e1
    subst e1 e2
    have h1 : l.length * 4 ≤ cap * 4 := Nat.mul_le_mul_right _ hnc
    obtain ⟨c, f1, f2⟩ := setCells_row g _ (untC u) (k * 4) w cur hg (by simp [untC]; omega)
    have hl4 : (untC u).length = 4 := rfl
    have hs : c.size = cur.size := by
      have := congrArg List.length f2
      simp only [List.length_append, hl4, List.length_take, List.length_drop, Array.length_toList] at this
      omega
    have hlen : (l.set k u).length = l.length := List.length_set
    rw [hlen]
    refine ⟨by rw [flat_len untC 4 (fun _ => rfl), hlen], .inr ⟨g, cap, c, rfl, hb, f1, hnc, hcm, by omega, ?_⟩⟩
    have hA : (cur.toList.take (k * 4)).length = k * 4 := by rw [List.length_take, Array.length_toList]; omega
    have a1 : (cur.toList.take (k * 4)).take (l.length * 4) = cur.toList.take (k * 4) := List.take_of_length_le (by rw [hA]; omega)
    have a2 : (untC u).take (l.length * 4 - k * 4) = untC u := List.take_of_length_le (by rw [hl4]; omega)
    rw [f2, hl4, List.append_assoc, List.take_append, hA, List.take_append, hl4, a1, a2]
    have e3 : cur.toList.take (k * 4) = (l.take k).flatMap untC := by
      rw [← flat_take untC 4 (fun _ => rfl) l k (by omega), ← hct, List.take_take, Nat.min_eq_left (by omega)]
    have e4 : (cur.toList.drop (k * 4 + 4)).take (l.length * 4 - k * 4 - 4) = (l.drop (k + 1)).flatMap untC := by
      have e5 : (l.flatMap untC).drop ((k + 1) * 4) = (l.drop (k + 1)).flatMap untC := by
        have h2 := congrArg (List.flatMap untC) (List.take_append_drop (k + 1) l)
        rw [List.flatMap_append] at h2
        rw [← h2, List.drop_left' (by rw [flat_len untC 4 (fun _ => rfl), List.length_take]; omega)]
      rw [← e5, ← hct, List.drop_take, show (k + 1) * 4 = k * 4 + 4 by omega, show l.length * 4 - (k * 4 + 4) = l.length * 4 - k * 4 - 4 by omega]
    rw [e3, e4, List.set_eq_take_append_cons_drop, if_pos hk, List.flatMap_append, List.flatMap_cons]

/-! ### what Exchange answers -/
def exF (x : Rig) (n : Int) (nm : ByteArray) (l : List Stg) : Int :=
  if chkRig x ≠ 0 then chkRig x else
  match x.units.find? (isNo n) with
  | none => 8
  | some u => match profOf x.lib nm.data.toList with
    | none => 5
    | some p => if chkStgs x l ≠ 0 then chkStgs x l else if (exAt x n p.size u).isNone then 13 else 0
theorem exF_bad {x : Rig} {n : Int} {nm : ByteArray} {l : List Stg} (h : ¬ chkRig x = 0) : exF x n nm l = chkRig x := by unfold exF; rw [if_pos h]
theorem exF_none {x : Rig} {n : Int} {nm : ByteArray} {l : List Stg} (h : chkRig x = 0) (hu : x.units.find? (isNo n) = none) : exF x n nm l = 8 := by unfold exF; rw [if_neg (by simpa using h), hu]
theorem exF_name {x : Rig} {n : Int} {nm : ByteArray} {l : List Stg} {u : Unt} (h : chkRig x = 0) (hu : x.units.find? (isNo n) = some u) (hp : profOf x.lib nm.data.toList = none) : exF x n nm l = 5 := by
  unfold exF; rw [if_neg (by simpa using h), hu]; simp only; rw [hp]
theorem exF_some {x : Rig} {n : Int} {nm : ByteArray} {l : List Stg} {u : Unt} {p : Prf} (h : chkRig x = 0) (hu : x.units.find? (isNo n) = some u) (hp : profOf x.lib nm.data.toList = some p) :
    exF x n nm l = if chkStgs x l ≠ 0 then chkStgs x l else if (exAt x n p.size u).isNone then 13 else 0 := by
  unfold exF; rw [if_neg (by simpa using h), hu]; simp only; rw [hp]
end Go.Proofs.Ytabalicembhjmaa
