/- Own rows changed: an element taken out, one put in; rows of unlike types. No program in it. -/
import Derived.Test.YtpmiinamaofnnaaCellRows
import Derived.Laws.IdiomCopy
import Derived.Laws.AppendOwn
import Derived.Lib.AppendZerosOnto
import Derived.Lib.Overlaps
import Derived.Lib.SliceRun
namespace Go.Proofs.Ytpmiinamaofnnaa
open Go.RowKit
set_option linter.unusedVariables false
set_option linter.unusedSimpArgs false

/-- a row of another type stays while a row grows -/
theorem own_type {w w' : World} {base base' : Nat} {T T' : TypeId} {s s' : Nat} {v v' : Value} {n n' : Nat} {xs xs' : List Value} (h : w.ownsRow base T s v n xs) (h' : w.ownsRow base' T' s' v' n' xs') (hT : T ≠ T') (hg : w.grownBy w' v'.ownBlock) : w'.ownsRow base T s v n xs := by
  refine h.kept hg ?_
  rcases h.2 with ⟨rfl, _⟩ | ⟨g, cap, cur, rfl, _, h1, _⟩
  · exact .inl rfl
  · refine .inr ?_
    rcases h'.2 with ⟨rfl, _⟩ | ⟨g', cap', cur', rfl, _, h2, _⟩
    · simp [Value.ownBlock]
    · simp only [Value.ownBlock, ne_eq, Option.some.injEq]
      intro e
      subst e
      rw [h1] at h2
      injection h2 with h2
      injection h2 with _ h3
      exact hT h3
theorem own_below2 {w w' : World} {base : Nat} {T : TypeId} {s : Nat} {v : Value} {n : Nat} {xs : List Value} (h : w.ownsRow base T s v n xs) (hb : Below w.heap.size w w') : w'.ownsRow base T s v n xs := by
  refine ⟨h.1, ?_⟩
  rcases h.2 with h' | ⟨g, cap, cur, e1, h1, h2, h3⟩
  · exact .inl h'
  · exact .inr ⟨g, cap, cur, e1, h1, (hb.block g (World.ownsRow.lt h g (by rw [e1]; rfl)).2).trans h2, h3⟩
theorem own_base {w : World} {base base' : Nat} {T : TypeId} {s : Nat} {v : Value} {n : Nat} {xs : List Value} (h : w.ownsRow base T s v n xs) (hb : base' ≤ base) : w.ownsRow base' T s v n xs := by
  refine ⟨h.1, ?_⟩
  rcases h.2 with h' | ⟨g, cap, cur, e1, h1, h2, h3⟩
  · exact .inl h'
  · exact .inr ⟨g, cap, cur, e1, Nat.le_trans hb h1, h2, h3⟩
theorem own_shape2 {w : World} {base : Nat} {T : TypeId} {s : Nat} {v : Value} {n : Nat} {xs : List Value} (h : w.ownsRow base T s v n xs) : ∃ ao cap, v = .slice ao n cap := by
  rcases h.2 with h' | ⟨g, cap, cur, e1, _⟩
  · exact ⟨none, 0, by rw [h'.1, h'.2]⟩
  · exact ⟨_, cap, e1⟩
theorem own_keeps {B base : Nat} {a w w' : World} {T : TypeId} {s : Nat} {v : Value} {n : Nat} {xs : List Value} (ho : w.ownsRow base T s v n xs) (h : Below B a w) (g : w.grownBy w' v.ownBlock) (hB : B ≤ base) (hs : B ≤ w.heap.size) : Below B a w' :=
  h.grown g hs (fun k hk => by have := (World.ownsRow.lt ho k hk).1; omega)
/-- cells stored into a row, one after the other -/
theorem setCells_row (g : Nat) (T : TypeId) : ∀ (Z : List Value) (o : Nat) (w : World) (cur : Array Value), w.heap[g]? = some (.cells cur T (0, 0)) → o + Z.length ≤ cur.size →
    ∃ cur', (w.setCells g o Z).heap[g]? = some (.cells cur' T (0, 0)) ∧ cur'.toList = cur.toList.take o ++ Z ++ cur.toList.drop (o + Z.length)
  | [], o, w, cur, h, hl => ⟨cur, h, by simp⟩
  | v :: r, o, w, cur, h, hl => by
    simp only [List.length_cons] at hl
    obtain ⟨c, h1, h2⟩ := setCells_row g T r (o + 1) (w.setCell ⟨g, o, none⟩ v) (cur.setIfInBounds o v) (heap_setCell_same w g o cur T v h) (by simp; omega)
    refine ⟨c, h1, ?_⟩
    have ho : o < cur.toList.length := by simp; omega
    have e1 : (cur.toList.set o v).take (o + 1) = cur.toList.take o ++ [v] := by
      rw [List.take_succ_eq_append_getElem (by simpa using ho), List.take_set_of_le (Nat.le_refl o)]
      simp
    have e2 : (cur.toList.set o v).drop (o + 1 + r.length) = cur.toList.drop (o + 1 + r.length) := List.drop_set_of_lt (by omega)
    rw [h2, Array.toList_setIfInBounds, e1, e2]
    simp only [List.length_cons, List.append_assoc, List.cons_append, List.nil_append]
    rw [show o + 1 + r.length = o + (r.length + 1) by omega]
theorem setCells_grown2 (g : Nat) : ∀ (Z : List Value) (o : Nat) (w : World), w.grownBy (w.setCells g o Z) (some g)
  | [], o, w => ⟨rfl, rfl, rfl, Nat.le_refl _, fun _ _ _ => rfl⟩
  | v :: r, o, w => by
    have h1 := setCells_grown2 g r (o + 1) (w.setCell ⟨g, o, none⟩ v)
    exact ⟨h1.os.trans rfl, h1.tape.trans rfl, h1.output.trans rfl, Nat.le_trans (by simp) h1.size, fun k hk hne => (h1.block k (by simpa using hk) hne).trans (heap_setCell_other w ⟨g, o, none⟩ k v (fun e => hne (by simp [e])))⟩
theorem grown_trans {w w1 w2 : World} {r : Option Nat} (h1 : w.grownBy w1 r) (h2 : w1.grownBy w2 r) : w.grownBy w2 r :=
  ⟨h2.os.trans h1.os, h2.tape.trans h1.tape, h2.output.trans h1.output, Nat.le_trans h1.size h2.size, fun k hk hne => (h2.block k (Nat.lt_of_lt_of_le hk h1.size) hne).trans (h1.block k hk hne)⟩
theorem grown_drew (w : World) (r : Option Nat) : w.grownBy w.drew r := ⟨rfl, rfl, rfl, Nat.le_refl _, fun _ _ _ => rfl⟩
theorem grown_weak {w w1 : World} {r : Option Nat} (h1 : w.grownBy w1 none) : w.grownBy w1 r := ⟨h1.os, h1.tape, h1.output, h1.size, fun k hk _ => h1.block k hk (by simp)⟩
theorem grown_of_below2 {w w' : World} {row : Option Nat} (h : Below w.heap.size w w') : w.grownBy w' row := ⟨h.os, h.tape, h.output, h.size, fun k hk _ => h.block k hk⟩
/-- what was made anew may be written: nothing older is -/
theorem grown_new {w w1 w2 : World} {g : Nat} {r : Option Nat} (h1 : w.grownBy w1 r) (h2 : w1.grownBy w2 (some g)) (hg : w.heap.size ≤ g) : w.grownBy w2 r :=
  ⟨h2.os.trans h1.os, h2.tape.trans h1.tape, h2.output.trans h1.output, Nat.le_trans h1.size h2.size, fun k hk hne => (h2.block k (Nat.lt_of_lt_of_le hk h1.size) (by intro e; injection e with e; omega)).trans (h1.block k hk hne)⟩
theorem row_isSome2 {w : World} {g j : Nat} {cur : Array Value} {T : TypeId} (h : w.heap[g]? = some (.cells cur T (0, 0))) (hj : j < cur.size) : (w.cell? ⟨g, j, none⟩).isSome = true := by
  simp [World.cell?, h, hj]
theorem row_cell2 {w : World} {g j : Nat} {cur : Array Value} {T : TypeId} (h : w.heap[g]? = some (.cells cur T (0, 0))) : w.cell? ⟨g, j, none⟩ = cur[j]? := by
  simp [World.cell?, h]
/-- copy at elements of any size: all is read before anything is written -/
theorem run_copy_size {P : Program} (w : World) (dT sT ty elem : TypeId) (size : Nat) (b o dLen dCap : Nat) (a : Addr) (sLen sCap m : Nat) (cs : List Value)
    (hu : P.underlying dT = some (.slice elem)) (hs : (P.info? elem).map (·.size) = some size) (hm : m = Nat.min sLen dLen) (hn : cs.length = m * size)
    (hsrc : ∀ j v, cs[j]? = some v → w.cell? (a.add j) = some v) (hc : ∀ j, j < cs.length → (w.cell? ⟨b, o + j, none⟩).isSome = true) (hf : ∀ j, j < cs.length → w.frozen? ⟨b, o + j, none⟩ = false) (h1 : ∀ v ∈ cs, v.oneCell' = true) :
    (Builtin.copy_ #[dT, sT] ty #[.slice (some ⟨b, o, none⟩) dLen dCap, .slice (some a) sLen sCap]).run P w = .ok (goInt m) (w.setCells b o cs) := by
  have hl := run_loadCells_list (P := P) w a cs hsrc
  have hst := run_storeCells_cells (P := P) b o cs 0 w (by simpa using hc) (by simpa using hf) h1
  cases hq : P.info? elem with
  | none => simp [hq] at hs
  | some i =>
    have hi : i.size = size := by simpa [hq] using hs
    rw [hn] at hl
    simp only [Nat.add_zero] at hst
    simp [Builtin.copy_, run_underlying hu, Builtin.lenOf, Builtin.firstCells, sizeOf, typeInfo, hq, hi, ← hm, hl, hst]
/-- clear at elements of any size -/
theorem run_clear_any {P : Program} (w : World) (t e : TypeId) (z : Value) (m : Nat) (ht : P.underlying t = some (.slice e)) (hv : ∀ w, (zeroValue e).run P w = .ok z w) (hz : z.cells.size = m) (h1 : ∀ u ∈ z.cells, u.oneCell' = true) (b o n c : Nat) (hn : 0 < n)
    (hc : ∀ j, j < n * m → (w.cell? ⟨b, o + j, none⟩).isSome = true) (hf : ∀ j, j < n * m → w.frozen? ⟨b, o + j, none⟩ = false) :
    ∃ Z : List Value, Z.length = n * m ∧ ∀ ty, (Builtin.clear_ #[t] ty #[.slice (some ⟨b, o, none⟩) n c]).run P w = .ok (.tuple #[]) (w.setCells b o Z) := by
  have hlen : (Builtin.zeroCells z.cells n).toList.length = n * m := by
    simp [Builtin.zeroCells, hz, Nat.mul_comm]
  have hone : ∀ v ∈ (Builtin.zeroCells z.cells n).toList, v.oneCell' = true := by
    intro v hv'
    simp [Builtin.zeroCells] at hv'
    obtain ⟨i, hi, rfl⟩ := hv'
    have hpos : 0 < z.cells.size := by
      rcases Nat.eq_zero_or_pos z.cells.size with h | h
      · rw [h] at hi; simp at hi
      · exact h
    have hlt := Nat.mod_lt i hpos
    rw [getElem!_pos z.cells _ hlt]
    exact h1 _ (Array.getElem_mem _)
  have hst := run_storeCells_cells (P := P) b o (Builtin.zeroCells z.cells n).toList 0 w (by rw [hlen]; simpa using hc) (by rw [hlen]; simpa using hf) hone
  simp only [Nat.add_zero] at hst
  obtain ⟨k, rfl⟩ : ∃ k, n = k + 1 := ⟨n - 1, by omega⟩
  refine ⟨_, hlen, fun ty => ?_⟩
  simp [Builtin.clear_, run_underlying ht, hv, hst]
/-- a row behind an element's leaving: the cells moved, the last ones written over -/
theorem row_del {w : World} {g n cap i size : Nat} {cur : Array Value} {T : TypeId} (hg : w.heap[g]? = some (.cells cur T (0, 0))) (hi : i < n) (hn : n ≤ cap) (hc : cur.size = cap * size) (Z : List Value) (hZ : Z.length = size) :
    ∃ cur', ((w.setCells g (i * size) ((cur.toList.take (n * size)).drop ((i + 1) * size))).setCells g ((n - 1) * size) Z).heap[g]? = some (.cells cur' T (0, 0)) ∧ cur'.size = cap * size ∧
      cur'.toList.take ((n - 1) * size) = (cur.toList.take (n * size)).take (i * size) ++ (cur.toList.take (n * size)).drop ((i + 1) * size) := by
  have h1 : n * size ≤ cap * size := Nat.mul_le_mul_right _ hn
  have h2 : (i + 1) * size ≤ n * size := Nat.mul_le_mul_right _ hi
  have h3 : (n - 1) * size + size = n * size := by
    obtain ⟨k, rfl⟩ : ∃ k, n = k + 1 := ⟨n - 1, by omega⟩
    rw [Nat.add_sub_cancel, Nat.succ_mul]
  have h4 : (i + 1) * size = i * size + size := Nat.succ_mul _ _
  have hL : (cur.toList.take (n * size)).length = n * size := by rw [List.length_take]; simp; omega
  have hD : ((cur.toList.take (n * size)).drop ((i + 1) * size)).length = n * size - (i + 1) * size := by rw [List.length_drop, hL]
  obtain ⟨c1, e1, e2⟩ := setCells_row g T ((cur.toList.take (n * size)).drop ((i + 1) * size)) (i * size) w cur hg (by rw [hD]; omega)
  have s1 : c1.size = cur.size := by
    have := congrArg List.length e2
    simp only [List.length_append, hD, List.length_take, List.length_drop, Array.length_toList] at this
    omega
  obtain ⟨c2, f1, f2⟩ := setCells_row g T Z ((n - 1) * size) _ c1 e1 (by rw [hZ]; omega)
  have s2 : c2.size = c1.size := by
    have := congrArg List.length f2
    simp only [List.length_append, List.length_take, List.length_drop, Array.length_toList] at this
    omega
  refine ⟨c2, f1, by omega, ?_⟩
  rw [f2, List.append_assoc, List.take_append_of_le_length (by simp; omega), List.take_take, Nat.min_self, e2, List.take_append_of_le_length (by rw [List.length_append, hD, List.length_take, Array.length_toList]; omega),
    List.take_of_length_le (by rw [List.length_append, hD, List.length_take, Array.length_toList]; omega), List.take_take, Nat.min_eq_left (by omega)]
/-- a row behind an element's coming, in place: the cells behind it moved on first -/
theorem row_ins {w : World} {g n cap i size : Nat} {cur : Array Value} {T : TypeId} (hg : w.heap[g]? = some (.cells cur T (0, 0))) (hi : i ≤ n) (hn : n + 1 ≤ cap) (hc : cur.size = cap * size) (ys : List Value) (hy : ys.length = size) :
    ∃ cur', ((w.setCells g ((i + 1) * size) ((cur.toList.take (n * size)).drop (i * size))).setCells g (i * size) ys).heap[g]? = some (.cells cur' T (0, 0)) ∧ cur'.size = cap * size ∧
      cur'.toList.take ((n + 1) * size) = (cur.toList.take (n * size)).take (i * size) ++ ys ++ (cur.toList.take (n * size)).drop (i * size) := by
  have h1 : (n + 1) * size ≤ cap * size := Nat.mul_le_mul_right _ hn
  have h2 : i * size ≤ n * size := Nat.mul_le_mul_right _ hi
  have h3 : (n + 1) * size = n * size + size := Nat.succ_mul _ _
  have h4 : (i + 1) * size = i * size + size := Nat.succ_mul _ _
  have hL : (cur.toList.take (n * size)).length = n * size := by rw [List.length_take]; simp; omega
  have hD : ((cur.toList.take (n * size)).drop (i * size)).length = n * size - i * size := by rw [List.length_drop, hL]
  obtain ⟨c1, e1, e2⟩ := setCells_row g T ((cur.toList.take (n * size)).drop (i * size)) ((i + 1) * size) w cur hg (by rw [hD]; omega)
  have s1 : c1.size = cur.size := by
    have := congrArg List.length e2
    simp only [List.length_append, hD, List.length_take, List.length_drop, Array.length_toList] at this
    omega
  obtain ⟨c2, f1, f2⟩ := setCells_row g T ys (i * size) _ c1 e1 (by rw [hy]; omega)
  have s2 : c2.size = c1.size := by
    have := congrArg List.length f2
    simp only [List.length_append, List.length_take, List.length_drop, Array.length_toList] at this
    omega
  refine ⟨c2, f1, by omega, ?_⟩
  have d1 : c1.toList.take (i * size) = (cur.toList.take (n * size)).take (i * size) := by
    rw [e2, List.append_assoc, List.take_append_of_le_length (by simp; omega), List.take_take, Nat.min_eq_left (by omega), List.take_take, Nat.min_eq_left (by omega)]
  have d2 : (c1.toList.drop (i * size + ys.length)).take (n * size - i * size) = (cur.toList.take (n * size)).drop (i * size) := by
    rw [hy, ← h4, e2, List.append_assoc, List.drop_append_of_le_length (by simp; omega), List.drop_of_length_le (by simp; omega), List.nil_append, List.take_append_of_le_length (by rw [hD]; omega), List.take_of_length_le (by rw [hD]; omega)]
  rw [f2, d1, List.take_append, ← d2]
  have l1 : ((cur.toList.take (n * size)).take (i * size) ++ ys).length = i * size + size := by rw [List.length_append, hy, List.length_take, hL]; omega
  rw [List.take_of_length_le (by rw [l1]; omega), l1]
  congr 2
  omega
/-- a row written twice, one stretch behind the other -/
theorem row_two {w : World} {g p : Nat} {cur : Array Value} {T : TypeId} (hg : w.heap[g]? = some (.cells cur T (0, 0))) (vs ds : List Value) (h : p + vs.length + ds.length ≤ cur.size) :
    ∃ cur', ((w.setCells g p vs).setCells g (p + vs.length) ds).heap[g]? = some (.cells cur' T (0, 0)) ∧ cur'.size = cur.size ∧ cur'.toList.take (p + vs.length + ds.length) = cur.toList.take p ++ vs ++ ds := by
  obtain ⟨c1, e1, e2⟩ := setCells_row g T vs p w cur hg (by omega)
  have s1 : c1.size = cur.size := by
    have := congrArg List.length e2
    simp only [List.length_append, List.length_take, List.length_drop, Array.length_toList] at this
    omega
  obtain ⟨c2, f1, f2⟩ := setCells_row g T ds (p + vs.length) _ c1 e1 (by omega)
  have s2 : c2.size = c1.size := by
    have := congrArg List.length f2
    simp only [List.length_append, List.length_take, List.length_drop, Array.length_toList] at this
    omega
  refine ⟨c2, f1, by omega, ?_⟩
  have d1 : c1.toList.take (p + vs.length) = cur.toList.take p ++ vs := by
    rw [e2, List.take_append_of_le_length (by simp; omega), List.take_of_length_le (by simp; omega)]
  rw [f2, d1, List.take_append_of_le_length (by simp; omega), List.take_of_length_le (by simp; omega)]
end Go.Proofs.Ytpmiinamaofnnaa
