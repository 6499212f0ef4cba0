/- Boxes known by their block and type; what changes rows and boxes of one type leaves those of others. No program in it. -/
import Derived.Test.YtljgpiaihahneaaGreatDoorT65M14
import Derived.Laws.AppendOwn

namespace Go.Proofs.YtljgpiaihahneaaGreatDoor
open Go.RowKit
set_option linter.unusedVariables false
set_option linter.unusedSimpArgs false

/-- block b of W holds these cells, of this type -/
def TBox (W : World) (b : Nat) (T : TypeId) (cs : Array Value) : Prop := W.heap[b]? = some (.cells cs T)
theorem TBox.new (w : World) (cs : Array Value) (T : TypeId) : TBox (w.alloc (.cells cs T)) w.heap.size T cs := heap_alloc_new w _
theorem TBox.lt {W : World} {b : Nat} {T : TypeId} {cs : Array Value} (h : TBox W b T cs) : b < W.heap.size := by
  unfold TBox at h
  by_cases c : b < W.heap.size
  · exact c
  · rw [Array.getElem?_eq_none (by omega)] at h; cases h
theorem TBox.below {W W' : World} {b : Nat} {T : TypeId} {cs : Array Value} (h : TBox W b T cs) (hb : Below W.heap.size W W') : TBox W' b T cs := (hb.block b h.lt).trans h
theorem TBox.alloc {W : World} {b : Nat} {T : TypeId} {cs : Array Value} (h : TBox W b T cs) (o : Obj) : TBox (W.alloc o) b T cs := h.below ((Below.refl _ _).alloc (Nat.le_refl _) o)
theorem TBox.cell {W : World} {b i : Nat} {T : TypeId} {cs : Array Value} {v : Value} (h : TBox W b T cs) (hi : cs[i]? = some v) : W.cell? ⟨b, i, none⟩ = some v := by
  unfold TBox at h
  simp [World.cell?, h, hi]
theorem TBox.set {W : World} {b : Nat} {T : TypeId} {cs : Array Value} (h : TBox W b T cs) (i : Nat) (v : Value) : TBox (W.setCell ⟨b, i, none⟩ v) b T (cs.setIfInBounds i v) := by
  unfold TBox at *
  exact heap_setCell_same W b i cs T v h
theorem TBox.frozen {W : World} {b : Nat} {T : TypeId} {cs : Array Value} (h : TBox W b T cs) (i : Nat) : W.frozen? ⟨b, i, none⟩ = false := frozen_of_row W b i cs T h
/-- rows of other types grow, or boxes of other types are written: these rows stay -/
def Other (w w' : World) (T' : TypeId) : Prop := ∃ r, w.grownBy w' r ∧ ∀ g, r = some g → ∃ cs fz, w.heap[g]? = some (.cells cs T' fz)
theorem Other.row {w w' : World} {T' : TypeId} {base s n : Nat} {v : Value} {xs : List Value} (h : w.ownsRow base T' s v n xs) (hg : w.grownBy w' v.ownBlock) : Other w w' T' := by
  refine ⟨_, hg, fun g hgg => ?_⟩
  rcases h.2 with ⟨rfl, _⟩ | ⟨g', cap, cur, rfl, _, h1, _⟩
  · simp [Value.ownBlock] at hgg
  · simp [Value.ownBlock] at hgg
    subst hgg
    exact ⟨_, _, h1⟩
theorem Other.box {w : World} {T' : TypeId} {b i : Nat} {cs : Array Value} (h : TBox w b T' cs) (v : Value) : Other w (w.setCell ⟨b, i, none⟩ v) T' :=
  ⟨some b, ⟨rfl, rfl, rfl, by simp, fun k _ hne => heap_setCell_other w ⟨b, i, none⟩ k v (fun e => hne (by simp [e]))⟩, fun g hg => by cases hg; exact ⟨_, _, h⟩⟩
theorem Other.own {w w' : World} {T' : TypeId} (h : Other w w' T') {base s n : Nat} {T : TypeId} {v : Value} {xs : List Value} (ho : w.ownsRow base T s v n xs) (hT : T ≠ T') : w'.ownsRow base T s v n xs := by
  obtain ⟨r, hg, hr⟩ := h
  refine ho.kept hg ?_
  rcases ho.2 with ⟨rfl, _⟩ | ⟨g, cap, cur, rfl, _, h1, _⟩
  · exact .inl rfl
  · refine .inr ?_
    cases r with
    | none => simp [Value.ownBlock]
    | some g' =>
      obtain ⟨cs, fz, h2⟩ := hr g' rfl
      simp only [Value.ownBlock, ne_eq, Option.some.injEq]
      intro e
      subst e
      rw [h1] at h2
      injection h2 with h2
      injection h2 with _ h3
      exact hT h3
theorem Other.tbox {w w' : World} {T' T : TypeId} (h : Other w w' T') {b : Nat} {cs : Array Value} (ho : TBox w b T cs) (hT : T ≠ T') : TBox w' b T cs := by
  obtain ⟨r, hg, hr⟩ := h
  refine (hg.block b ho.lt ?_).trans ho
  intro e
  obtain ⟨cs', fz, h2⟩ := hr b e.symm
  unfold TBox at ho
  rw [ho] at h2
  injection h2 with h2
  injection h2 with _ h3
  exact hT h3
theorem Other.size {w w' : World} {T' : TypeId} (h : Other w w' T') : w.heap.size ≤ w'.heap.size := by
  obtain ⟨r, hg, _⟩ := h
  exact hg.size
theorem Other.refl (w : World) (T : TypeId) : Other w w T := ⟨none, ⟨rfl, rfl, rfl, Nat.le_refl _, fun _ _ _ => rfl⟩, by simp⟩
theorem TBox.setOther {W : World} {b b' i : Nat} {T : TypeId} {cs : Array Value} (h : TBox W b T cs) (hb : b ≠ b') (v : Value) : TBox (W.setCell ⟨b', i, none⟩ v) b T cs := (Below.heap_setCell W ⟨b', i, none⟩ v b (by simpa using hb)).trans h
end Go.Proofs.YtljgpiaihahneaaGreatDoor
