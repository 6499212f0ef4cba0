/- The contract of the reference's divide. -/
import Derived.Test.YtdicoggpcobbpaaDoorNatGive
namespace Go.Proofs.YtdicoggpcobbpaaDoor
open Go.RowKit
set_option linter.unusedVariables false
set_option linter.unusedSimpArgs false

theorem own_below {w w' : World} {B base e size n : Nat} {v : Value} {xs : List Value} (h : w.ownsRow base e size v n xs) (hb : Below B w w') (hv : ∀ g, v.ownBlock = some g → g < B) : w'.ownsRow base e size v n xs := by
  refine ⟨h.1, ?_⟩
  rcases h.2 with h' | ⟨g, cap, cur, rfl, h1, h2, h3⟩
  · exact .inl h'
  · exact .inr ⟨g, cap, cur, rfl, h1, (hb.block g (hv g rfl)).trans h2, h3⟩
theorem own_grown {w w' : World} {base e size n : Nat} {r : Option Nat} {v : Value} {xs : List Value} (h : w.ownsRow base e size v n xs) (hg : w.grownBy w' r) (hv : v.ownBlock = none ∨ v.ownBlock ≠ r) : w'.ownsRow base e size v n xs := h.kept hg hv
theorem own_base {w : World} {base base' e size n : Nat} {v : Value} {xs : List Value} (h : w.ownsRow base e size v n xs) (hv : base' ≤ base) : w.ownsRow base' e size v n xs := by
  refine ⟨h.1, ?_⟩
  rcases h.2 with h' | ⟨g, cap, cur, rfl, h1, h2, h3⟩
  · exact .inl h'
  · exact .inr ⟨g, cap, cur, rfl, by omega, h2, h3⟩
theorem own_shape_pos {w : World} {base : Nat} {e : TypeId} {size : Nat} {v : Value} {n : Nat} {xs : List Value} (h : w.ownsRow base e size v n xs) (hn : 0 < n) : ∃ g cap, v = .slice (some ⟨g, 0, none⟩) n cap := by
  rcases h.2 with ⟨rfl, rfl⟩ | ⟨g, cap, cur, rfl, _⟩
  · omega
  · exact ⟨_, _, rfl⟩
/-- quotient and rest, as numbers anywhere -/
def DivP (q r : Nat) (w : World) (e : Ending) (w' : World) : Prop := ∃ v1 v2, e = .returned (.tuple #[v1, v2]) ∧ IsN w'.heap.size w' v1 q ∧ IsN w'.heap.size w' v2 r ∧ Below w.heap.size w w'
theorem isN_nil (B : Nat) (w : World) : IsN B w (.slice none 0 0) 0 := ⟨0, lenOf_zero, none, 0, rfl, by omega, by omega, by decide, by omega⟩
theorem isN_own {w : World} {base e n L : Nat} {v : Value} (h : w.ownsRow base e 1 v L (dcells n L)) (hl : LenOf n L) : IsN w.heap.size w v n := ⟨L, hl, RowN.of_own h hl.1⟩
theorem ordV_ge {a b : Nat} (h : b ≤ a) : 0 ≤ ordV a b := by
  unfold ordV
  rw [if_neg (by omega)]
  split <;> omega

def OrdQ (o : Int) (w : World) (e : Ending) (w' : World) : Prop := e = .returned (.int .i64 o) ∧ Below w.heap.size w w'
end Go.Proofs.YtdicoggpcobbpaaDoor
