/- A map of the call's own whose elements are bools, as the list of the keys that are in it. No program in it. -/
import Derived.Maps.OwnOps
import Derived.Maps.OwnSet
import Derived.Maps.Own
import Derived.Maps.Views
import Derived.Below

namespace Go.Proofs.YtppbagllhmeenaaGreatDoor
open Go.Maps (Keyed IsMap atKey_put_same atKey_put_other)
open Go.ChangeShapes Go.WideShapes Go.RowKit
set_option linter.unusedVariables false

section
variable {H : Type}
theorem plainElem_bool_inv {P : Program} {e : TypeId} (he : P.underlying e = some .bool) {v : Value} {z : DataW H × List MemPlace} (h : plainElem P e v = some z) : ∃ x, v = .bool x ∧ z = (.lit (.bool x), []) := by
  unfold plainElem at h
  rw [he] at h
  cases v <;> simp at h
  exact ⟨_, rfl, h.symm⟩

/-- block b of w is a map of at most n entries; just the keys of S are there, each with true -/
structure SeenM (w : World) (P : Program) (k e : TypeId) (b n : Nat) (S : List Lit) : Prop where
  own : ∃ D : DataW Unit, w.ownsMap P k (plainElem P e) b n D ∧ IsMap D ∧ ∀ kl, ∃ c : Bool, D.atKey kl (.lit (.bool false)) = .lit (.bool c) ∧ (c = true ↔ kl ∈ S)

theorem seen_made (w : World) (P : Program) (k e : TypeId) : SeenM (w.alloc (.map #[] 0)) P k e w.heap.size 0 [] :=
  ⟨.map [], World.ownsMap_made w P k _, ⟨_, rfl⟩, fun kl => ⟨false, by rw [WideAt.atKey_none _ (by simp)], by simp⟩⟩

theorem SeenM.kept {w w' : World} {P : Program} {k e : TypeId} {b n : Nat} {S : List Lit} {row : Option Nat} (h : SeenM w P k e b n S) (hg : w.grownBy w' row) (hne : some b ≠ row) : SeenM w' P k e b n S := by
  obtain ⟨D, h1, h2, h3⟩ := h.own
  exact ⟨D, h1.kept hg hne, h2, h3⟩
theorem SeenM.below {B : Nat} {w w' : World} {P : Program} {k e : TypeId} {b n : Nat} {S : List Lit} (h : SeenM w P k e b n S) (hb : Below B w w') (hlt : b < B) : SeenM w' P k e b n S := by
  obtain ⟨D, ⟨es, clock, h1, h2, h3, h4⟩, h5, h6⟩ := h.own
  exact ⟨D, ⟨es, clock, (hb.block _ hlt).trans h1, h2, h3, h4⟩, h5, h6⟩
theorem SeenM.lt {w : World} {P : Program} {k e : TypeId} {b n : Nat} {S : List Lit} (h : SeenM w P k e b n S) : b < w.heap.size := by
  obtain ⟨D, h1, h2, h3⟩ := h.own
  exact h1.lt

/-- the look-up: it is true just at a key that is there -/
theorem wpList_seen {P : Program} (w : World) {ops : Array Oper} {rest : List Oper} {o : Oper} {a : Act} {Q : Exit → Act → World → Prop}
    (hg : o.guard = none) (m x : Operand) (t : TypeId) (hop : o.op = Op.lookup t m x false)
    (k e : TypeId) (K : Keyed P k) (ht : P.underlying t = some (.map k e)) (he : P.underlying e = some .bool) (hz : (zeroValue e).run P w = .ok (.bool false) w) (b n : Nat) (S : List Lit)
    (hm : a.eval m = .map (some b)) (hown : SeenM w P k e b n S) (key : Value) (kl : Lit) (hx : a.eval x = key) (hkey : keyOf P k key = some kl)
    (hK : ∀ c : Bool, (c = true ↔ kl ∈ S) → wpList P ops Q rest (a.put o.dst (.bool c)) w) :
    wpList P ops Q (o :: rest) a w := by
  refine wpList_plain hg fun K' hK' => ?_
  obtain ⟨D, h1, h2, h3⟩ := hown.own
  obtain ⟨v, ps, hrun, hv⟩ := h1.lookup K ht hz (plainElem_bool he false) hkey
  obtain ⟨x', rfl, hx'⟩ := plainElem_bool_inv he hv
  obtain ⟨c, h4, h5⟩ := h3 kl
  rw [h4] at hx'
  simp at hx'
  obtain ⟨hxe, rfl⟩ := hx'
  subst hxe
  unfold Oper.wp
  simp [execOp, hop, hm, hx, hrun, Result.andThen]
  exact hK' _ _ (hK c h5)

/-- the look-up with 'ok' in a nil map -/
theorem wpList_nil_ok {P : Program} (w : World) {ops : Array Oper} {rest : List Oper} {o : Oper} {a : Act} {Q : Exit → Act → World → Prop}
    (hg : o.guard = none) (m x : Operand) (t : TypeId) (hop : o.op = Op.lookup t m x true)
    (k e : TypeId) (K : Keyed P k) (ht : P.underlying t = some (.map k e)) (z : Value) (hz : (zeroValue e).run P w = .ok z w)
    (hm : a.eval m = .map none) (key : Value) (kl : Lit) (hx : a.eval x = key) (hkey : keyOf P k key = some kl)
    (hK : wpList P ops Q rest (a.put o.dst (.tuple #[z, .bool false])) w) :
    wpList P ops Q (o :: rest) a w := by
  refine wpList_plain hg fun K' hK' => ?_
  have hrun := Maps.look_nil (w := w) true K ht hz hkey
  unfold Oper.wp
  simp [execOp, hop, hm, hx, hrun, Result.andThen]
  exact hK' _ _ hK

theorem SeenM.put {w' : World} {P : Program} {k e : TypeId} {b n : Nat} {S : List Lit} {D : DataW Unit} {kl : Lit} (hD : IsMap D) (h3 : ∀ kl, ∃ c : Bool, D.atKey kl (.lit (.bool false)) = .lit (.bool c) ∧ (c = true ↔ kl ∈ S)) (hk : WideAt.IsKeyLit kl)
    (h : w'.ownsMap P k (plainElem P e) b n (D.put kl (.lit (.bool true)))) : SeenM w' P k e b n (S ++ [kl]) := by
  refine ⟨_, h, hD.put _ _, fun kl' => ?_⟩
  by_cases c : kl' = kl
  · subst c
    exact ⟨true, atKey_put_same hD hk _ _, by simp⟩
  · obtain ⟨x, h4, h5⟩ := h3 kl'
    exact ⟨x, (atKey_put_other c _ _).trans h4, by rw [h5]; simp [c]⟩

/-- the store of true: the key is there from now on -/
theorem wpList_seen_put {P : Program} (w : World) {ops : Array Oper} {rest : List Oper} {o : Oper} {a : Act} {Q : Exit → Act → World → Prop}
    (hg : o.guard = none) (m x v : Operand) (t : TypeId) (hop : o.op = Op.mapUpdate t m x v)
    (k e : TypeId) (K : Keyed P k) (ht : P.underlying t = some (.map k e)) (he : P.underlying e = some .bool) (b n : Nat) (S : List Lit)
    (hm : a.eval m = .map (some b)) (hown : SeenM w P k e b n S) (hn : n < maxLen) (key : Value) (kl : Lit) (hx : a.eval x = key) (hv : a.eval v = .bool true) (hkey : keyOf P k key = some kl)
    (hK : ∀ w', SeenM w' P k e b (n + 1) (S ++ [kl]) → w.grownBy w' (some b) → wpList P ops Q rest (a.put o.dst undef) w') :
    wpList P ops Q (o :: rest) a w := by
  obtain ⟨D, h1, h2, h3⟩ := hown.own
  exact wpList_mapUpdate_own w hg m x v t hop k e K ht _ b n D hm h1 hn key _ kl hx hv hkey _ [] (plainElem_bool he true) fun w' r1 r2 => hK w' (SeenM.put h2 h3 (K.key hkey) r1) r2
end
end Go.Proofs.YtppbagllhmeenaaGreatDoor
