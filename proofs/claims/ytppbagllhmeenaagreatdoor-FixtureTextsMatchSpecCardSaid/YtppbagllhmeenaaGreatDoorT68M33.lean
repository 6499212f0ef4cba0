/- A library under way in own rows: its last profile and its last parameter grow. -/
import Derived.Test.YtppbagllhmeenaaGreatDoorT68M32
import Derived.OwnWalk
import Derived.Laws.AppendOwn
import Derived.RegionTactic
import Derived.Lib.AppendZeros

namespace Go.Proofs.YtppbagllhmeenaaGreatDoor
open Go.RowKit
open Go (info_parts)
set_option linter.unusedVariables false
set_option linter.unusedSimpArgs false

theorem own_apart {w w' : World} {base : Nat} {T : TypeId} {s : Nat} {v : Value} {n : Nat} {xs : List Value} {r : Option Nat} (h : w.ownsRow base T s v n xs) (hg : w.grownBy w' r) (hr : ∀ b, v.ownBlock = some b → r ≠ some b) : w'.ownsRow base T s v n xs := by
  refine h.kept hg ?_
  rcases h.2 with ⟨rfl, _⟩ | ⟨g, cap, cur, rfl, _, h1, _⟩
  · exact .inl rfl
  · exact .inr (fun e => hr g rfl (by first | exact e | exact e.symm))
theorem own_at {w : World} {base : Nat} {T : TypeId} {s : Nat} {v : Value} {n : Nat} {xs : List Value} (h : w.ownsRow base T s v n xs) (hn : 0 < n) : ∃ g cap, v = .slice (some ⟨g, 0, none⟩) n cap ∧ base ≤ g ∧ g < w.heap.size := by
  rcases h.2 with ⟨rfl, e⟩ | ⟨g, cap, cur, rfl, h1, h2, _⟩
  · omega
  · exact ⟨g, cap, rfl, h1, (Array.getElem?_eq_some_iff.1 h2).1⟩
theorem own_cell {w : World} {base : Nat} {T : TypeId} {s : Nat} {g n cap : Nat} {xs : List Value} (h : w.ownsRow base T s (.slice (some ⟨g, 0, none⟩) n cap) n xs) {i : Nat} {u : Value} (hi : xs[i]? = some u) : w.cell? ⟨g, i, none⟩ = some u := by
  rcases h.2 with ⟨e, _⟩ | ⟨g', cap', cur, e, h1, h2, h3, h4, h5, h6⟩
  · cases e
  · injection e with e1 _ e2
    injection e1 with e1
    injection e1 with e1
    subst e1 e2
    rw [row_cell2 h2]
    rw [← h6, List.getElem?_take] at hi
    split at hi
    · simpa using hi
    · cases hi
theorem own_frozen {w : World} {base : Nat} {T : TypeId} {s : Nat} {g n cap : Nat} {xs : List Value} (h : w.ownsRow base T s (.slice (some ⟨g, 0, none⟩) n cap) n xs) (i : Nat) : w.frozen? ⟨g, i, none⟩ = false := by
  rcases h.2 with ⟨e, _⟩ | ⟨g', cap', cur, e, h1, h2, h3, h4, h5, h6⟩
  · cases e
  · injection e with e1 _ e2
    injection e1 with e1
    injection e1 with e1
    subst e1
    exact frozen_of_row w g i cur T h2
theorem own_setCell {w : World} {base : Nat} {T : TypeId} {s : Nat} {g n cap : Nat} {xs : List Value} (h : w.ownsRow base T s (.slice (some ⟨g, 0, none⟩) n cap) n xs) (i : Nat) (hi : i < n * s) (u : Value) : (w.setCell ⟨g, i, none⟩ u).ownsRow base T s (.slice (some ⟨g, 0, none⟩) n cap) n (xs.set i u) := by
  obtain ⟨hx, hn | ⟨g', cap', cur, e1, hb, hg, hnc, hcm, hcs, hct⟩⟩ := h
  · cases hn.1
  · injection e1 with e1 _ e2
    injection e1 with e1
    injection e1 with e1
    subst e1 e2
    refine ⟨by rw [List.length_set]; exact hx, .inr ⟨g, cap, cur.setIfInBounds i u, rfl, hb, heap_setCell_same w g i cur T u hg, hnc, hcm, by simpa using hcs, ?_⟩⟩
    rw [Array.toList_setIfInBounds, List.take_set, hct]
theorem grown_set (w : World) (g i : Nat) (u : Value) : w.grownBy (w.setCell ⟨g, i, none⟩ u) (some g) := ⟨rfl, rfl, rfl, by simp, fun k _ hne => heap_setCell_other w ⟨g, i, none⟩ k u (fun e => hne (by simp [e]))⟩
theorem other_set {w : World} {base : Nat} {T : TypeId} {s : Nat} {g n cap : Nat} {xs : List Value} (h : w.ownsRow base T s (.slice (some ⟨g, 0, none⟩) n cap) n xs) (i : Nat) (u : Value) : Other w (w.setCell ⟨g, i, none⟩ u) T :=
  Other.row h (grown_set w g i u)

/-! ### rows that do not grow any more -/
def RngIn (lo hi : Nat) (w : World) (v : Value) (l : List Rng) : Prop := OwnR lo w v l ∧ ∀ b, v.ownBlock = some b → b < hi
def ParIn (lo hi : Nat) (w : World) (v : Value) (l : List Par) : Prop :=
  ∃ lp : List (Par × Value), lp.map (·.1) = l ∧ w.ownsRow lo 73 7 v lp.length (lp.flatMap parC) ∧ (∀ b, v.ownBlock = some b → b < hi) ∧ ∀ y ∈ lp, RngIn lo hi w y.2 y.1.rngs
theorem RngIn.below {lo hi : Nat} {w w' : World} {v : Value} {l : List Rng} (h : RngIn lo hi w v l) (hb : Below w.heap.size w w') : RngIn lo hi w' v l := ⟨h.1.below hb, h.2⟩
theorem RngIn.apart {lo hi : Nat} {w w' : World} {v : Value} {l : List Rng} {r : Option Nat} (h : RngIn lo hi w v l) (hg : w.grownBy w' r) (hr : ∀ b, r = some b → hi ≤ b) : RngIn lo hi w' v l :=
  ⟨own_apart h.1 hg (fun b hb e => by have := h.2 b hb; have := hr b e; omega), h.2⟩
theorem RngIn.other {lo hi : Nat} {w w' : World} {v : Value} {l : List Rng} {T' : TypeId} (h : RngIn lo hi w v l) (ho : Other w w' T') (h1 : 75 ≠ T') : RngIn lo hi w' v l := ⟨h.1.other ho h1, h.2⟩
theorem RngIn.wide {lo lo' hi hi' : Nat} {w : World} {v : Value} {l : List Rng} (h : RngIn lo hi w v l) (h1 : lo' ≤ lo) (h2 : hi ≤ hi') : RngIn lo' hi' w v l := ⟨h.1.less h1, fun b hb => by have := h.2 b hb; omega⟩
theorem RngIn.of {lo : Nat} {w : World} {v : Value} {l : List Rng} (h : OwnR lo w v l) : RngIn lo w.heap.size w v l := ⟨h, fun b hb => (World.ownsRow.lt h b hb).2⟩
theorem ParIn.below {lo hi : Nat} {w w' : World} {v : Value} {l : List Par} (h : ParIn lo hi w v l) (hb : Below w.heap.size w w') : ParIn lo hi w' v l := by
  obtain ⟨lp, h1, h2, h3, h4⟩ := h
  exact ⟨lp, h1, own_below2 h2 hb, h3, fun y hy => (h4 y hy).below hb⟩
theorem ParIn.apart {lo hi : Nat} {w w' : World} {v : Value} {l : List Par} {r : Option Nat} (h : ParIn lo hi w v l) (hg : w.grownBy w' r) (hr : ∀ b, r = some b → hi ≤ b) : ParIn lo hi w' v l := by
  obtain ⟨lp, h1, h2, h3, h4⟩ := h
  exact ⟨lp, h1, own_apart h2 hg (fun b hb e => by have := h3 b hb; have := hr b e; omega), h3, fun y hy => (h4 y hy).apart hg hr⟩
theorem ParIn.other {lo hi : Nat} {w w' : World} {v : Value} {l : List Par} {T' : TypeId} (h : ParIn lo hi w v l) (ho : Other w w' T') (h1 : 75 ≠ T') (h2 : 73 ≠ T') : ParIn lo hi w' v l := by
  obtain ⟨lp, g1, g2, g3, g4⟩ := h
  exact ⟨lp, g1, ho.own g2 h2, g3, fun y hy => (g4 y hy).other ho h1⟩
theorem ParIn.wide {lo lo' hi hi' : Nat} {w : World} {v : Value} {l : List Par} (h : ParIn lo hi w v l) (h1 : lo' ≤ lo) (h2 : hi ≤ hi') : ParIn lo' hi' w v l := by
  obtain ⟨lp, g1, g2, g3, g4⟩ := h
  exact ⟨lp, g1, own_base g2 h1, fun b hb => by have := g3 b hb; omega, fun y hy => (g4 y hy).wide h1 h2⟩
theorem ParIn.parS {lo hi : Nat} {w : World} {v : Value} {l : List Par} (h : ParIn lo hi w v l) : ParS w.heap.size w v l := by
  obtain ⟨lp, g1, g2, g3, g4⟩ := h
  exact ⟨lp, g1, CellsS.of_own g2, fun y hy => (g4 y hy).1.rngS⟩

/-! ### the last profile's parameters -/
def ParO (C : Nat) (w : World) (pv : Value) (l : List Par) : Prop :=
  (l = [] ∧ pv = .slice none 0 0) ∨ ∃ (D : Nat) (lp : List (Par × Value)) (x : Par) (rv : Value), C ≤ D ∧ D ≤ w.heap.size ∧ l = lp.map (·.1) ++ [x] ∧ w.ownsRow C 73 7 pv (lp.length + 1) (lp.flatMap parC ++ parC (x, rv)) ∧ (∀ y ∈ lp, RngIn C D w y.2 y.1.rngs) ∧ OwnR D w rv x.rngs
theorem snocF {α : Type} (f : α → List Value) (l : List α) (y : α) : l.flatMap f ++ f y = (l ++ [y]).flatMap f := by simp
theorem ParO.parIn {C : Nat} {w : World} {pv : Value} {l : List Par} (h : ParO C w pv l) : ParIn C w.heap.size w pv l := by
  rcases h with ⟨rfl, rfl⟩ | ⟨D, lp, x, rv, h1, h2, rfl, h3, h4, h5⟩
  · exact ⟨[], rfl, World.ownsRow_nil w C _ _, by simp [Value.ownBlock], by simp⟩
  · refine ⟨lp ++ [(x, rv)], by simp, ?_, fun b hb => (World.ownsRow.lt h3 b hb).2, fun y hy => ?_⟩
    · rw [← snocF, List.length_append]
      exact h3
    · rcases List.mem_append.1 hy with hy | hy
      · exact (h4 y hy).wide (Nat.le_refl _) h2
      · obtain rfl := List.mem_singleton.1 hy
        exact (RngIn.of h5).wide h1 (Nat.le_refl _)
theorem ParO.below {C : Nat} {w w' : World} {pv : Value} {l : List Par} (h : ParO C w pv l) (hb : Below w.heap.size w w') : ParO C w' pv l := by
  rcases h with h | ⟨D, lp, x, rv, h1, h2, h3, h4, h5, h6⟩
  · exact .inl h
  · exact .inr ⟨D, lp, x, rv, h1, Nat.le_trans h2 hb.size, h3, own_below2 h4 hb, fun y hy => (h5 y hy).below hb, h6.below hb⟩
theorem ParO.other {C : Nat} {w w' : World} {pv : Value} {l : List Par} {T' : TypeId} (h : ParO C w pv l) (ho : Other w w' T') (g1 : 75 ≠ T') (g2 : 73 ≠ T') : ParO C w' pv l := by
  rcases h with h | ⟨D, lp, x, rv, h1, h2, h3, h4, h5, h6⟩
  · exact .inl h
  · exact .inr ⟨D, lp, x, rv, h1, Nat.le_trans h2 ho.size, h3, ho.own h4 g2, fun y hy => (h5 y hy).other ho g1, h6.other ho g1⟩
theorem ParO.shape {C : Nat} {w : World} {pv : Value} {l : List Par} (h : ParO C w pv l) : ∃ ao cap, pv = .slice ao l.length cap := by
  rcases h with ⟨rfl, rfl⟩ | ⟨D, lp, x, rv, h1, h2, rfl, h3, h4, h5⟩
  · exact ⟨none, 0, rfl⟩
  · obtain ⟨ao, cap, e⟩ := own_shape2 h3
    exact ⟨ao, cap, by rw [e]; simp⟩
theorem ParO.row {C : Nat} {w : World} {pv : Value} {l : List Par} (h : ParO C w pv l) : ∃ lp : List (Par × Value), lp.map (·.1) = l ∧ w.ownsRow C 73 7 pv lp.length (lp.flatMap parC) := by
  obtain ⟨lp, h1, h2, _⟩ := h.parIn
  exact ⟨lp, h1, h2⟩

/-- the library l0 and a last profile: its cells hold pv as its parameters, which are really pv' (these ps) -/
def LibN (base : Nat) (w : World) (v : Value) (l0 : List Prf) (nm : ByteArray) (sz : Int) (pv pv' : Value) (ps : List Par) : Prop :=
  ∃ (C : Nat) (lv : List (Prf × Value)), base ≤ C ∧ C ≤ w.heap.size ∧ lv.map (·.1) = l0 ∧ w.ownsRow base 70 3 v (l0.length + 1) (lv.flatMap prfC ++ [.string nm, .int .i64 sz, pv]) ∧ (∀ y ∈ lv, ParIn base C w y.2 y.1.pars) ∧ ParO C w pv' ps
/-- as LibN, one step deeper: the last parameter's cells hold rv as its ranges, which are really rv' (these rs) -/
def LibM (base : Nat) (w : World) (v : Value) (l0 : List Prf) (nm : ByteArray) (sz : Int) (pv : Value) (ps : List Par) (x : Par) (rv rv' : Value) (rs : List Rng) : Prop :=
  ∃ (C D : Nat) (lv : List (Prf × Value)) (lp : List (Par × Value)), base ≤ C ∧ C ≤ D ∧ D ≤ w.heap.size ∧ lv.map (·.1) = l0 ∧ lp.map (·.1) = ps ∧
    w.ownsRow base 70 3 v (l0.length + 1) (lv.flatMap prfC ++ [.string nm, .int .i64 sz, pv]) ∧ (∀ y ∈ lv, ParIn base C w y.2 y.1.pars) ∧
    w.ownsRow C 73 7 pv (ps.length + 1) (lp.flatMap parC ++ parC (x, rv)) ∧ (∀ y ∈ lp, RngIn C D w y.2 y.1.rngs) ∧ OwnR D w rv' rs
def LibO (base : Nat) (w : World) (v : Value) (l : List Prf) : Prop :=
  (l = [] ∧ v = .slice none 0 0) ∨ ∃ l0 nm sz pv ps, l = l0 ++ [⟨nm, sz, ps⟩] ∧ LibN base w v l0 nm sz pv pv ps
theorem LibN.below {base : Nat} {w w' : World} {v : Value} {l0 : List Prf} {nm : ByteArray} {sz : Int} {pv pv' : Value} {ps : List Par} (h : LibN base w v l0 nm sz pv pv' ps) (hb : Below w.heap.size w w') : LibN base w' v l0 nm sz pv pv' ps := by
  obtain ⟨C, lv, h1, h2, h3, h4, h5, h6⟩ := h
  exact ⟨C, lv, h1, Nat.le_trans h2 hb.size, h3, own_below2 h4 hb, fun y hy => (h5 y hy).below hb, h6.below hb⟩
theorem LibM.below {base : Nat} {w w' : World} {v : Value} {l0 : List Prf} {nm : ByteArray} {sz : Int} {pv : Value} {ps : List Par} {x : Par} {rv rv' : Value} {rs : List Rng} (h : LibM base w v l0 nm sz pv ps x rv rv' rs) (hb : Below w.heap.size w w') : LibM base w' v l0 nm sz pv ps x rv rv' rs := by
  obtain ⟨C, D, lv, lp, h1, h2, h3, h4, h5, h6, h7, h8, h9, h10⟩ := h
  exact ⟨C, D, lv, lp, h1, h2, Nat.le_trans h3 hb.size, h4, h5, own_below2 h6 hb, fun y hy => (h7 y hy).below hb, own_below2 h8 hb, fun y hy => (h9 y hy).below hb, h10.below hb⟩
theorem LibO.below {base : Nat} {w w' : World} {v : Value} {l : List Prf} (h : LibO base w v l) (hb : Below w.heap.size w w') : LibO base w' v l := by
  rcases h with h | ⟨l0, nm, sz, pv, ps, h1, h2⟩
  · exact .inl h
  · exact .inr ⟨l0, nm, sz, pv, ps, h1, h2.below hb⟩
theorem LibN.other {base : Nat} {w w' : World} {v : Value} {l0 : List Prf} {nm : ByteArray} {sz : Int} {pv pv' : Value} {ps : List Par} {T' : TypeId} (h : LibN base w v l0 nm sz pv pv' ps) (ho : Other w w' T') (g1 : 75 ≠ T') (g2 : 73 ≠ T') (g3 : 70 ≠ T') : LibN base w' v l0 nm sz pv pv' ps := by
  obtain ⟨C, lv, h1, h2, h3, h4, h5, h6⟩ := h
  exact ⟨C, lv, h1, Nat.le_trans h2 ho.size, h3, ho.own h4 g3, fun y hy => (h5 y hy).other ho g1 g2, h6.other ho g1 g2⟩
theorem LibO.other {base : Nat} {w w' : World} {v : Value} {l : List Prf} {T' : TypeId} (h : LibO base w v l) (ho : Other w w' T') (g1 : 75 ≠ T') (g2 : 73 ≠ T') (g3 : 70 ≠ T') : LibO base w' v l := by
  rcases h with h | ⟨l0, nm, sz, pv, ps, h1, h2⟩
  · exact .inl h
  · exact .inr ⟨l0, nm, sz, pv, ps, h1, h2.other ho g1 g2 g3⟩
theorem LibO.drew {base : Nat} {w : World} {v : Value} {l : List Prf} (h : LibO base w v l) : LibO base w.drew v l := h
theorem LibN.drew {base : Nat} {w : World} {v : Value} {l0 : List Prf} {nm : ByteArray} {sz : Int} {pv pv' : Value} {ps : List Par} (h : LibN base w v l0 nm sz pv pv' ps) : LibN base w.drew v l0 nm sz pv pv' ps := h
theorem LibM.drew {base : Nat} {w : World} {v : Value} {l0 : List Prf} {nm : ByteArray} {sz : Int} {pv : Value} {ps : List Par} {x : Par} {rv rv' : Value} {rs : List Rng} (h : LibM base w v l0 nm sz pv ps x rv rv' rs) : LibM base w.drew v l0 nm sz pv ps x rv rv' rs := h
theorem LibO.shape {base : Nat} {w : World} {v : Value} {l : List Prf} (h : LibO base w v l) : ∃ ao cap, v = .slice ao l.length cap := by
  rcases h with ⟨rfl, rfl⟩ | ⟨l0, nm, sz, pv, ps, rfl, C, lv, h1, h2, h3, h4, _⟩
  · exact ⟨none, 0, rfl⟩
  · obtain ⟨ao, cap, e⟩ := own_shape2 h4
    exact ⟨ao, cap, by rw [e]; simp⟩
theorem LibO.row {base : Nat} {w : World} {v : Value} {l : List Prf} (h : LibO base w v l) : ∃ lv : List (Prf × Value), lv.map (·.1) = l ∧ w.ownsRow base 70 3 v lv.length (lv.flatMap prfC) ∧ ∀ y ∈ lv, ParIn base w.heap.size w y.2 y.1.pars := by
  rcases h with ⟨rfl, rfl⟩ | ⟨l0, nm, sz, pv, ps, rfl, C, lv, h1, h2, h3, h4, h5, h6⟩
  · exact ⟨[], rfl, World.ownsRow_nil w base _ _, by simp⟩
  · refine ⟨lv ++ [(⟨nm, sz, ps⟩, pv)], by simp [h3], ?_, fun y hy => ?_⟩
    · rw [← snocF, List.length_append, show lv.length = l0.length by rw [← h3]; simp]
      exact h4
    · rcases List.mem_append.1 hy with hy | hy
      · exact (h5 y hy).wide (Nat.le_refl _) h2
      · obtain rfl := List.mem_singleton.1 hy
        exact h6.parIn.wide h1 (Nat.le_refl _)
theorem LibO.prfS {base : Nat} {w : World} {v : Value} {l : List Prf} (h : LibO base w v l) : PrfS w.heap.size w v l := by
  obtain ⟨lv, h1, h2, h3⟩ := h.row
  exact ⟨lv, h1, CellsS.of_own h2, fun y hy => (h3 y hy).parS⟩
theorem LibN.at {base : Nat} {w : World} {v : Value} {l0 : List Prf} {nm : ByteArray} {sz : Int} {pv pv' : Value} {ps : List Par} (h : LibN base w v l0 nm sz pv pv' ps) : ∃ g cap, v = .slice (some ⟨g, 0, none⟩) (l0.length + 1) cap ∧ base ≤ g ∧ g < w.heap.size := by
  obtain ⟨C, lv, h1, h2, h3, h4, h5, h6⟩ := h
  exact own_at h4 (by omega)
theorem lenP {lv : List (Prf × Value)} {l0 : List Prf} (h : lv.map (·.1) = l0) : (lv.flatMap prfC).length = l0.length * 3 := by
  rw [flat_len prfC 3 (fun _ => rfl), ← h]; simp
theorem lenQ {lp : List (Par × Value)} {ps : List Par} (h : lp.map (·.1) = ps) : (lp.flatMap parC).length = ps.length * 7 := by
  rw [flat_len parC 7 (fun _ => rfl), ← h]; simp
theorem LibN.cell {base g cap : Nat} {w : World} {l0 : List Prf} {nm : ByteArray} {sz : Int} {pv pv' : Value} {ps : List Par} (h : LibN base w (.slice (some ⟨g, 0, none⟩) (l0.length + 1) cap) l0 nm sz pv pv' ps) : w.cell? ⟨g, l0.length * 3 + 2, none⟩ = some pv ∧ w.frozen? ⟨g, l0.length * 3 + 2, none⟩ = false := by
  obtain ⟨C, lv, h1, h2, h3, h4, h5, h6⟩ := h
  refine ⟨own_cell h4 ?_, own_frozen h4 _⟩
  rw [List.getElem?_append_right (by rw [lenP h3]; omega), lenP h3, show l0.length * 3 + 2 - l0.length * 3 = 2 by omega]
  rfl
theorem LibM.at {base : Nat} {w : World} {v : Value} {l0 : List Prf} {nm : ByteArray} {sz : Int} {pv : Value} {ps : List Par} {x : Par} {rv rv' : Value} {rs : List Rng} (h : LibM base w v l0 nm sz pv ps x rv rv' rs) : (∃ g cap, v = .slice (some ⟨g, 0, none⟩) (l0.length + 1) cap ∧ base ≤ g ∧ g < w.heap.size) ∧ (∃ g cap, pv = .slice (some ⟨g, 0, none⟩) (ps.length + 1) cap ∧ base ≤ g ∧ g < w.heap.size) ∧ ∃ ao cap, rv' = .slice ao rs.length cap := by
  obtain ⟨C, D, lv, lp, h1, h2, h3, h4, h5, h6, h7, h8, h9, h10⟩ := h
  obtain ⟨g, cap, e, h11, h12⟩ := own_at h8 (by omega)
  exact ⟨own_at h6 (by omega), ⟨g, cap, e, by omega, h12⟩, h10.shape⟩
theorem LibM.cellP {base g cap : Nat} {w : World} {l0 : List Prf} {nm : ByteArray} {sz : Int} {pv : Value} {ps : List Par} {x : Par} {rv rv' : Value} {rs : List Rng} (h : LibM base w (.slice (some ⟨g, 0, none⟩) (l0.length + 1) cap) l0 nm sz pv ps x rv rv' rs) : w.cell? ⟨g, l0.length * 3 + 2, none⟩ = some pv ∧ w.frozen? ⟨g, l0.length * 3 + 2, none⟩ = false := by
  obtain ⟨C, D, lv, lp, h1, h2, h3, h4, h5, h6, h7, h8, h9, h10⟩ := h
  refine ⟨own_cell h6 ?_, own_frozen h6 _⟩
  rw [List.getElem?_append_right (by rw [lenP h4]; omega), lenP h4, show l0.length * 3 + 2 - l0.length * 3 = 2 by omega]
  rfl
theorem LibM.cellR {base g cap : Nat} {w : World} {v : Value} {l0 : List Prf} {nm : ByteArray} {sz : Int} {ps : List Par} {x : Par} {rv rv' : Value} {rs : List Rng} (h : LibM base w v l0 nm sz (.slice (some ⟨g, 0, none⟩) (ps.length + 1) cap) ps x rv rv' rs) : w.cell? ⟨g, ps.length * 7 + 6, none⟩ = some rv ∧ w.frozen? ⟨g, ps.length * 7 + 6, none⟩ = false := by
  obtain ⟨C, D, lv, lp, h1, h2, h3, h4, h5, h6, h7, h8, h9, h10⟩ := h
  refine ⟨own_cell h8 ?_, own_frozen h8 _⟩
  rw [List.getElem?_append_right (by rw [lenQ h5]; omega), lenQ h5, show ps.length * 7 + 6 - ps.length * 7 = 6 by omega]
  rfl
theorem LibN.deep {base : Nat} {w : World} {v : Value} {l0 : List Prf} {nm : ByteArray} {sz : Int} {pv : Value} {ps : List Par} {x : Par} (h : LibN base w v l0 nm sz pv pv (ps ++ [x])) : ∃ rv, LibM base w v l0 nm sz pv ps x rv rv x.rngs := by
  obtain ⟨C, lv, h1, h2, h3, h4, h5, h6⟩ := h
  rcases h6 with ⟨e, _⟩ | ⟨D, lp, y, rv, g1, g2, e, g3, g4, g5⟩
  · simp at e
  · obtain ⟨e1, e2⟩ := List.append_inj' e rfl
    obtain rfl := List.cons.inj e2 |>.1
    subst e1
    exact ⟨rv, C, D, lv, lp, h1, g1, g2, h3, rfl, h4, h5, by simpa using g3, g4, g5⟩
theorem LibM.up {base : Nat} {w : World} {v : Value} {l0 : List Prf} {nm : ByteArray} {sz : Int} {pv : Value} {ps : List Par} {x : Par} {rv : Value} (h : LibM base w v l0 nm sz pv ps x rv rv x.rngs) : LibN base w v l0 nm sz pv pv (ps ++ [x]) := by
  obtain ⟨C, D, lv, lp, h1, h2, h3, h4, h5, h6, h7, h8, h9, h10⟩ := h
  refine ⟨C, lv, h1, Nat.le_trans h2 h3, h4, h6, h7, .inr ⟨D, lp, x, rv, h2, h3, by rw [h5], ?_, h9, h10⟩⟩
  rw [show lp.length = ps.length by rw [← h5]; simp]
  exact h8
theorem set_last (A B : List Value) (k i : Nat) (u : Value) (h : A.length = k) : (A ++ B).set (k + i) u = A ++ B.set i u := by
  rw [List.set_append_right _ _ (by omega), h, show k + i - k = i by omega]
/-- the parameters' slice stored into the last profile -/
theorem LibN.store {base g cap : Nat} {w : World} {l0 : List Prf} {nm : ByteArray} {sz : Int} {pv pv' : Value} {ps : List Par} (h : LibN base w (.slice (some ⟨g, 0, none⟩) (l0.length + 1) cap) l0 nm sz pv pv' ps) : LibN base (w.setCell ⟨g, l0.length * 3 + 2, none⟩ pv') (.slice (some ⟨g, 0, none⟩) (l0.length + 1) cap) l0 nm sz pv' pv' ps := by
  obtain ⟨C, lv, h1, h2, h3, h4, h5, h6⟩ := h
  have hO := other_set h4 (l0.length * 3 + 2) pv'
  have hs := own_setCell h4 (l0.length * 3 + 2) (by omega) pv'
  rw [set_last _ _ _ _ _ (lenP h3)] at hs
  exact ⟨C, lv, h1, Nat.le_trans h2 hO.size, h3, hs, fun y hy => (h5 y hy).other hO (by decide) (by decide), h6.other hO (by decide) (by decide)⟩
/-- the ranges' slice stored into the last parameter -/
theorem LibM.store {base g cap : Nat} {w : World} {v : Value} {l0 : List Prf} {nm : ByteArray} {sz : Int} {ps : List Par} {x : Par} {rv rv' : Value} {rs : List Rng} (h : LibM base w v l0 nm sz (.slice (some ⟨g, 0, none⟩) (ps.length + 1) cap) ps x rv rv' rs) :
    LibM base (w.setCell ⟨g, ps.length * 7 + 6, none⟩ rv') v l0 nm sz (.slice (some ⟨g, 0, none⟩) (ps.length + 1) cap) ps ⟨x.name, x.grp, x.sl, x.fine, x.dflt, x.snap, rs⟩ rv' rv' rs := by
  obtain ⟨C, D, lv, lp, h1, h2, h3, h4, h5, h6, h7, h8, h9, h10⟩ := h
  have hO := other_set h8 (ps.length * 7 + 6) rv'
  have hs := own_setCell h8 (ps.length * 7 + 6) (by omega) rv'
  rw [set_last _ _ _ _ _ (lenQ h5)] at hs
  have hC : C ≤ g := (World.ownsRow.lt h8 g rfl).1
  exact ⟨C, D, lv, lp, h1, h2, Nat.le_trans h3 hO.size, h4, h5, hO.own h6 (by decide), fun y hy => (h7 y hy).apart (grown_set w g _ rv') (fun b hb => by injection hb with hb; omega), hs, fun y hy => (h9 y hy).other hO (by decide), h10.other hO (by decide)⟩
theorem infoOwnR : (Tryz.prog.info? 75).map (fun i => (i.zero, i.size, i.bytes)) = some (some (.agg #[.int .i64 0, .int .i64 0, .string ⟨#[]⟩]), 3, 32) := by kernel_rfl
/-- a range appended to those of the last parameter -/
theorem wpList_libR {w : World} {ops : Array Oper} {rest : List Oper} {o : Oper} {a : Act} {Q : Exit → Act → World → Prop} (hgd : o.guard = none) (s x : Operand)
    (hop : o.op = .call { callee := .builtin .append, args := #[s, x], argTypes := #[71, 71] })
    (base c : Nat) (v : Value) (l0 : List Prf) (nm : ByteArray) (sz : Int) (pv : Value) (ps : List Par) (p : Par) (rv rv' : Value) (rs : List Rng) (y : Rng) (ad : Addr) (hs : a.eval s = rv') (hx : a.eval x = .slice (some ad) 1 c)
    (ho : LibM base w v l0 nm sz pv ps p rv rv' rs) (hc : ∀ (j : Nat) u, (rngC y)[j]? = some u → w.cell? (ad.add j) = some u) (hl : rs.length ≤ 1000000)
    (h : ∀ v' w', LibM base w' v l0 nm sz pv ps p rv v' (rs ++ [y]) → (∃ ao cap, v' = .slice ao (rs.length + 1) cap) → w.grownBy w' rv'.ownBlock → (∀ b, rv'.ownBlock = some b → base ≤ b) → Other w w' 75 → wpList Tryz.prog ops Q rest (a.put o.dst v') w') : wpList Tryz.prog ops Q (o :: rest) a w := by
  obtain ⟨i0, hi, hz0, hz1, hz2⟩ := info_parts infoOwnR
  obtain ⟨C, D, lv, lp, h1, h2, h3, h4, h5, h6, h7, h8, h9, h10⟩ := ho
  obtain ⟨yl, yh, yn⟩ := y
  refine wpList_append_own w hgd s x 71 hop D 75 i0 (.agg #[.int .i64 0, .int .i64 0, .string ⟨#[]⟩]) 3 32 Tryz.underlying71 hi hz0 hz1 hz2 rfl (by decide) rv' rs.length (rs.flatMap rngC) hs h10 ad 1 c (rngC ⟨yl, yh, yn⟩) hx rfl hc (by intro u hu; simp [rngC] at hu; rcases hu with rfl | rfl | rfl <;> rfl) (by unfold maxLen; omega) (by omega) h3 ?_
  intro v' w' k1 k2 _
  have hO := Other.row h10 k2
  have hr : ∀ b, rv'.ownBlock = some b → D ≤ b := fun b hb => (World.ownsRow.lt h10 b hb).1
  have hR : OwnR D w' v' (rs ++ [⟨yl, yh, yn⟩]) := by
    unfold OwnR
    rw [List.flatMap_append, List.length_append]
    simpa using k1
  obtain ⟨ao, cap, e⟩ := hR.shape
  refine h v' w' ⟨C, D, lv, lp, h1, h2, Nat.le_trans h3 hO.size, h4, h5, hO.own h6 (by decide), fun y hy => (h7 y hy).apart k2 (fun b hb => by have := hr b hb; omega), hO.own h8 (by decide), fun y hy => (h9 y hy).apart k2 hr, hR⟩ ⟨ao, cap, by rw [e]; simp⟩ k2 (fun b hb => by have := hr b hb; omega) hO
/-- a parameter appended to those of the last profile -/
theorem wpList_libP {w : World} {ops : Array Oper} {rest : List Oper} {o : Oper} {a : Act} {Q : Exit → Act → World → Prop} (hgd : o.guard = none) (s x : Operand)
    (hop : o.op = .call { callee := .builtin .append, args := #[s, x], argTypes := #[68, 68] })
    (base c : Nat) (v : Value) (l0 : List Prf) (nm : ByteArray) (sz : Int) (pv pv' : Value) (ps : List Par) (y : Par) (ad : Addr) (hs : a.eval s = pv') (hx : a.eval x = .slice (some ad) 1 c) (hy : y.rngs = [])
    (ho : LibN base w v l0 nm sz pv pv' ps) (hc : ∀ (j : Nat) u, (parC (y, .slice none 0 0))[j]? = some u → w.cell? (ad.add j) = some u) (hl : ps.length ≤ 1000000)
    (h : ∀ v' w', LibN base w' v l0 nm sz pv v' (ps ++ [y]) → (∃ ao cap, v' = .slice ao (ps.length + 1) cap) → w.grownBy w' pv'.ownBlock → (∀ b, pv'.ownBlock = some b → base ≤ b) → Other w w' 73 → wpList Tryz.prog ops Q rest (a.put o.dst v') w') : wpList Tryz.prog ops Q (o :: rest) a w := by
  obtain ⟨i0, hi, hz0, hz1, hz2⟩ := info_parts infoOwnP
  obtain ⟨C, lv, h1, h2, h3, h4, h5, h6⟩ := ho
  obtain ⟨lp, g1, g2, g3, g4⟩ := h6.parIn
  have hll : lp.length = ps.length := by rw [← g1]; simp
  obtain ⟨yn, yg, ys, yf, yd, yb, yr⟩ := y
  simp only at hy
  subst hy
  refine wpList_append_own w hgd s x 68 hop C 73 i0 (.agg #[.string ⟨#[]⟩, .int .i64 0, .int .i64 0, .int .i64 0, .int .i64 0, .bool false, .slice none 0 0]) 7 80 Tryz.underlying68 hi hz0 hz1 hz2 rfl (by decide) pv' lp.length (lp.flatMap parC) hs g2 ad 1 c (parC (⟨yn, yg, ys, yf, yd, yb, []⟩, .slice none 0 0)) hx rfl hc (by intro u hu; simp [parC] at hu; rcases hu with rfl | rfl | rfl | rfl | rfl | rfl | rfl <;> rfl) (by unfold maxLen; omega) (by omega) h2 ?_
  intro v' w' k1 k2 _
  have hO := Other.row g2 k2
  have hr : ∀ b, pv'.ownBlock = some b → C ≤ b := fun b hb => (World.ownsRow.lt g2 b hb).1
  obtain ⟨ao, cap, e⟩ := own_shape2 k1
  refine h v' w' ⟨C, lv, h1, Nat.le_trans h2 hO.size, h3, hO.own h4 (by decide), fun y hy => (h5 y hy).apart k2 hr, .inr ⟨w'.heap.size, lp, ⟨yn, yg, ys, yf, yd, yb, []⟩, .slice none 0 0, Nat.le_trans h2 hO.size, Nat.le_refl _, by rw [g1], by simpa using k1, fun y hy => ((g4 y hy).other hO (by decide)).wide (Nat.le_refl _) hO.size, World.ownsRow_nil w' _ _ _⟩⟩ ⟨ao, cap, by rw [e, hll]⟩ k2 (fun b hb => by have := hr b hb; omega) hO
/-- a profile appended -/
theorem wpList_libL {w : World} {ops : Array Oper} {rest : List Oper} {o : Oper} {a : Act} {Q : Exit → Act → World → Prop} (hgd : o.guard = none) (s x : Operand)
    (hop : o.op = .call { callee := .builtin .append, args := #[s, x], argTypes := #[22, 22] })
    (base c : Nat) (v : Value) (l : List Prf) (nm : ByteArray) (sz : Int) (ad : Addr) (hs : a.eval s = v) (hx : a.eval x = .slice (some ad) 1 c)
    (ho : LibO base w v l) (hc : ∀ (j : Nat) u, (prfC (⟨nm, sz, []⟩, .slice none 0 0))[j]? = some u → w.cell? (ad.add j) = some u) (hl : l.length ≤ 1000000) (hb : base ≤ w.heap.size)
    (h : ∀ v' w', LibO base w' v' (l ++ [⟨nm, sz, []⟩]) → (∃ ao cap, v' = .slice ao (l.length + 1) cap) → w.grownBy w' v.ownBlock → (∀ b, v.ownBlock = some b → base ≤ b) → Other w w' 70 → wpList Tryz.prog ops Q rest (a.put o.dst v') w') : wpList Tryz.prog ops Q (o :: rest) a w := by
  obtain ⟨i0, hi, hz0, hz1, hz2⟩ := info_parts infoOwnL
  obtain ⟨lv, e1, e2, e3⟩ := ho.row
  have hll : lv.length = l.length := by rw [← e1]; simp
  refine wpList_append_own w hgd s x 22 hop base 70 i0 (.agg #[.string ⟨#[]⟩, .int .i64 0, .slice none 0 0]) 3 48 Tryz.underlying22 hi hz0 hz1 hz2 rfl (by decide) v lv.length (lv.flatMap prfC) hs e2 ad 1 c (prfC (⟨nm, sz, []⟩, .slice none 0 0)) hx rfl hc (by intro u hu; simp [prfC] at hu; rcases hu with rfl | rfl | rfl <;> rfl) (by unfold maxLen; omega) (by omega) hb ?_
  intro v' w' k1 k2 _
  have hO := Other.row e2 k2
  obtain ⟨ao, cap, e⟩ := own_shape2 k1
  refine h v' w' (.inr ⟨l, nm, sz, .slice none 0 0, [], rfl, w'.heap.size, lv, Nat.le_trans hb hO.size, Nat.le_refl _, e1, ?_, fun y hy => ((e3 y hy).other hO (by decide) (by decide)).wide (Nat.le_refl _) hO.size, .inl ⟨rfl, rfl⟩⟩) ⟨ao, cap, by rw [e, hll]⟩ k2 (fun b hb => (World.ownsRow.lt e2 b hb).1) hO
  rw [← hll]
  exact k1
/-! ### the same, in a region that draws its order -/
theorem step_libR {w : World} {ops : Array Oper} {o : Oper} {a : Act} {K : Act → World → Prop} {Q : Exit → Act → World → Prop} {E : Prop} (hgd : o.guard = none) (s x : Operand)
    (hop : o.op = .call { callee := .builtin .append, args := #[s, x], argTypes := #[71, 71] }) (hty : o.type = 71)
    (base : Nat) (v : Value) (l0 : List Prf) (nm : ByteArray) (sz : Int) (pv : Value) (ps : List Par) (p : Par) (rv rv' : Value) (rs : List Rng) (y : Rng) (ad : Addr) (hs : a.eval s = rv') (hx : a.eval x = .slice (some ad) 1 1)
    (ho : LibM base w v l0 nm sz pv ps p rv rv' rs) (hc : ∀ (j : Nat) u, (rngC y)[j]? = some u → w.cell? (ad.add j) = some u) (hl : rs.length ≤ 1000000)
    (h : ∀ v' w', LibM base w' v l0 nm sz pv ps p rv v' (rs ++ [y]) → (∃ ao cap, v' = .slice ao (rs.length + 1) cap) → w.grownBy w' rv'.ownBlock → (∀ b, rv'.ownBlock = some b → base ≤ b) → K (a.put o.dst v') w') :
    if Region.wanted o (yielded ops a.tmps) = true then Oper.wp Tryz.prog o a w K Q else E := by
  rw [if_pos (by simp [Region.wanted, hgd])]
  obtain ⟨i0, hi, hz0, hz1, hz2⟩ := info_parts infoOwnR
  obtain ⟨C, D, lv, lp, h1, h2, h3, h4, h5, h6, h7, h8, h9, h10⟩ := ho
  obtain ⟨yl, yh, yn⟩ := y
  obtain ⟨v', w', hrun, k1, k2, _⟩ := run_append_own (P := Tryz.prog) w D 71 71 75 i0 (.agg #[.int .i64 0, .int .i64 0, .string ⟨#[]⟩]) 3 32 Tryz.underlying71 hi hz0 hz1 hz2 rfl (by decide) rv' rs.length (rs.flatMap rngC) h10 ad 1 1 (rngC ⟨yl, yh, yn⟩) rfl hc (by intro u hu; simp [rngC] at hu; rcases hu with rfl | rfl | rfl <;> rfl) (by unfold maxLen; omega) (by omega) h3
  have hO := Other.row h10 k2
  have hr : ∀ b, rv'.ownBlock = some b → D ≤ b := fun b hb => (World.ownsRow.lt h10 b hb).1
  have hR : OwnR D w' v' (rs ++ [⟨yl, yh, yn⟩]) := by
    unfold OwnR
    rw [List.flatMap_append, List.length_append]
    simpa using k1
  obtain ⟨ao, cap, e⟩ := hR.shape
  exact Lib.wp_append_run w s x _ _ hop rv' _ hs hx v' w' (by rw [hty]; exact hrun) (h v' w' ⟨C, D, lv, lp, h1, h2, Nat.le_trans h3 hO.size, h4, h5, hO.own h6 (by decide), fun y hy => (h7 y hy).apart k2 (fun b hb => by have := hr b hb; omega), hO.own h8 (by decide), fun y hy => (h9 y hy).apart k2 hr, hR⟩ ⟨ao, cap, by rw [e]; simp⟩ k2 (fun b hb => by have := hr b hb; omega))
theorem step_libP {w : World} {ops : Array Oper} {o : Oper} {a : Act} {K : Act → World → Prop} {Q : Exit → Act → World → Prop} {E : Prop} (hgd : o.guard = none) (s x : Operand)
    (hop : o.op = .call { callee := .builtin .append, args := #[s, x], argTypes := #[68, 68] }) (hty : o.type = 68)
    (base : Nat) (v : Value) (l0 : List Prf) (nm : ByteArray) (sz : Int) (pv pv' : Value) (ps : List Par) (y : Par) (ad : Addr) (hs : a.eval s = pv') (hx : a.eval x = .slice (some ad) 1 1) (hy : y.rngs = [])
    (ho : LibN base w v l0 nm sz pv pv' ps) (hc : ∀ (j : Nat) u, (parC (y, .slice none 0 0))[j]? = some u → w.cell? (ad.add j) = some u) (hl : ps.length ≤ 1000000)
    (h : ∀ v' w', LibN base w' v l0 nm sz pv v' (ps ++ [y]) → (∃ ao cap, v' = .slice ao (ps.length + 1) cap) → w.grownBy w' pv'.ownBlock → (∀ b, pv'.ownBlock = some b → base ≤ b) → K (a.put o.dst v') w') :
    if Region.wanted o (yielded ops a.tmps) = true then Oper.wp Tryz.prog o a w K Q else E := by
  rw [if_pos (by simp [Region.wanted, hgd])]
  obtain ⟨i0, hi, hz0, hz1, hz2⟩ := info_parts infoOwnP
  obtain ⟨C, lv, h1, h2, h3, h4, h5, h6⟩ := ho
  obtain ⟨lp, g1, g2, g3, g4⟩ := h6.parIn
  have hll : lp.length = ps.length := by rw [← g1]; simp
  obtain ⟨yn, yg, ys, yf, yd, yb, yr⟩ := y
  simp only at hy
  subst hy
  obtain ⟨v', w', hrun, k1, k2, _⟩ := run_append_own (P := Tryz.prog) w C 68 68 73 i0 (.agg #[.string ⟨#[]⟩, .int .i64 0, .int .i64 0, .int .i64 0, .int .i64 0, .bool false, .slice none 0 0]) 7 80 Tryz.underlying68 hi hz0 hz1 hz2 rfl (by decide) pv' lp.length (lp.flatMap parC) g2 ad 1 1 (parC (⟨yn, yg, ys, yf, yd, yb, []⟩, .slice none 0 0)) rfl hc (by intro u hu; simp [parC] at hu; rcases hu with rfl | rfl | rfl | rfl | rfl | rfl | rfl <;> rfl) (by unfold maxLen; omega) (by omega) h2
  have hO := Other.row g2 k2
  have hr : ∀ b, pv'.ownBlock = some b → C ≤ b := fun b hb => (World.ownsRow.lt g2 b hb).1
  obtain ⟨ao, cap, e⟩ := own_shape2 k1
  exact Lib.wp_append_run w s x _ _ hop pv' _ hs hx v' w' (by rw [hty]; exact hrun) (h v' w' ⟨C, lv, h1, Nat.le_trans h2 hO.size, h3, hO.own h4 (by decide), fun y hy => (h5 y hy).apart k2 hr, .inr ⟨w'.heap.size, lp, ⟨yn, yg, ys, yf, yd, yb, []⟩, .slice none 0 0, Nat.le_trans h2 hO.size, Nat.le_refl _, by rw [g1], by simpa using k1, fun y hy => ((g4 y hy).other hO (by decide)).wide (Nat.le_refl _) hO.size, World.ownsRow_nil w' _ _ _⟩⟩ ⟨ao, cap, by rw [e, hll]⟩ k2 (fun b hb => by have := hr b hb; omega))
theorem libR_new (w : World) (y : Rng) (T : TypeId) : ∀ (j : Nat) u, (rngC y)[j]? = some u → (w.alloc (.cells #[.int .i64 y.low, .int .i64 y.high, .string y.name] T)).cell? ((⟨w.heap.size, 0, none⟩ : Addr).add j) = some u := by
  intro j u hu
  match j, hu with
  | 0, hu => simp [rngC] at hu; subst hu; simp [Addr.add, go_sem]
  | 1, hu => simp [rngC] at hu; subst hu; simp [Addr.add, go_sem]
  | 2, hu => simp [rngC] at hu; subst hu; simp [Addr.add, go_sem]
  | j + 3, hu => simp [rngC] at hu
end Go.Proofs.YtppbagllhmeenaaGreatDoor
