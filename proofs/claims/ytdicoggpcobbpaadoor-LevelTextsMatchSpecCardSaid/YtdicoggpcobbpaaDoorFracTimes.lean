/- The contracts of the reference's Times and Over. -/
import Derived.Test.YtdicoggpcobbpaaDoorFrac
namespace Go.Proofs.YtdicoggpcobbpaaDoor
open Go.RowKit
set_option linter.unusedVariables false
set_option linter.unusedSimpArgs false

theorem sg_mul (s t : Bool) (n m : Nat) : sg (s != t) (n * m) = sg s n * sg t m := by
  cases s <;> cases t <;> simp [sg, Int.neg_mul, Int.mul_neg]
theorem Fit.of6 {n : Nat} (h : n < BB ^ 6) : Fit n := lt_pow h (by omega)
theorem Fit.of5 {n : Nat} (h : n < BB ^ 5) : Fit n := lt_pow h (by omega)
theorem box_new' (w : World) (c0 c1 c2 : Value) (T : TypeId) : Box3 (w.alloc (.cells #[c0, c1, c2] T)) w.heap.size c0 c1 c2 := box_new w c0 c1 c2 T
theorem Box3.alloc {w : World} {g : Nat} {c0 c1 c2 : Value} (h : Box3 w g c0 c1 c2) (hg : g < w.heap.size) (o : Obj) : Box3 (w.alloc o) g c0 c1 c2 :=
  h.below ((Below.refl _ _).alloc (Nat.le_refl _) o) hg
/-- a new number whose row lies off block g -/
def NewT (g n : Nat) (w : World) (e : Ending) (w' : World) : Prop := ∃ ao L cap, e = .returned (.slice ao L cap) ∧ IsN w'.heap.size w' (.slice ao L cap) n ∧ Off g (.slice ao L cap) ∧ Below w.heap.size w w'
theorem newT_of {g n : Nat} {w w' : World} {e : Ending} (h : NewO w.heap.size n w e w') (hg : g < w.heap.size) : NewT g n w e w' := by
  obtain ⟨v, L, rfl, h2, h3, h4⟩ := h
  obtain ⟨ao, cap, rfl⟩ := own_shape1 h3
  exact ⟨ao, L, cap, rfl, isN_own h3 h2, off_own h3 hg, h4⟩
theorem isN_up {n : Nat} {w w' : World} {v : Value} (h : IsN w.heap.size w v n) (hb : Below w.heap.size w w') : IsN w'.heap.size w' v n := (h.below hb).more hb.size


end Go.Proofs.YtdicoggpcobbpaaDoor
