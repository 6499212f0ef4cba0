/- The reference's fractions by value: Plus, Times, Over, Minus, Zero, Order, Floor, Round. -/
import Derived.Test.YteelomjknllcbaaFracPlus
namespace Go.Proofs.Yteelomjknllcbaa
open Go.RowKit
set_option linter.unusedVariables false
set_option linter.unusedSimpArgs false

theorem sm_sg {s : Bool} {n d : Nat} (h : Sm (sg s n) d) : n < BB ^ 6 ∧ d < BB ^ 5 := ⟨by have := h.1; rwa [sg_abs] at this, h.2⟩
theorem plusQ (B da db : Nat) (pa pb : Int) (v u : Value) (w : World) (hB : B ≤ w.heap.size) (ha : Sm pa da) (hb : Sm pb db) (h : Sm (pa * (db : Int) + pb * (da : Int)) (da * db)) (hv : IsQ B w v pa da) (hu : IsQ B w u pb db) :
    Calls Try.prog 64 #[v, u] w (NewQ (pa * (db : Int) + pb * (da : Int)) (da * db) w) := by
  obtain ⟨s, x, y, rfl, na, h1, h2, rfl⟩ := hv
  obtain ⟨t, z, u, rfl, nb, h3, h4, rfl⟩ := hu
  exact plus_frac B na nb da db s t x y z u w hB (sm_sg ha).1 ha.2 (sm_sg hb).1 hb.2 h h1 h2 h3 h4
theorem timesQ (B da db : Nat) (pa pb : Int) (v u : Value) (w : World) (hB : B ≤ w.heap.size) (ha : Sm pa da) (hb : Sm pb db) (h : Sm (pa * pb) (da * db)) (hv : IsQ B w v pa da) (hu : IsQ B w u pb db) :
    Calls Try.prog 66 #[v, u] w (NewQ (pa * pb) (da * db) w) := by
  obtain ⟨s, x, y, rfl, na, h1, h2, rfl⟩ := hv
  obtain ⟨t, z, u, rfl, nb, h3, h4, rfl⟩ := hu
  rw [← sg_mul] at h ⊢
  exact times_frac B na nb da db s t x y z u w hB (sm_sg ha).1 ha.2 (sm_sg hb).1 hb.2 (sm_sg h).1 h.2 h1 h2 h3 h4
theorem overQ (B da db : Nat) (pa : Int) (nb : Nat) (v u : Value) (w : World) (hB : B ≤ w.heap.size) (ha : Sm pa da) (hb : Sm nb db) (hp : 0 < nb) (h : Sm (pa * (db : Int)) (da * nb)) (hv : IsQ B w v pa da) (hu : IsQ B w u nb db) :
    Calls Try.prog 106 #[v, u] w (NewQ (pa * (db : Int)) (da * nb) w) := by
  obtain ⟨s, x, y, rfl, na, h1, h2, rfl⟩ := hv
  obtain ⟨t, z, u, rfl, nc, h3, h4, hnc⟩ := hu
  have ht : t = false := by
    cases t
    · rfl
    · simp only [sg] at hnc; omega
  subst ht
  have hnb : nc = nb := by simp only [sg] at hnc; omega
  subst hnb
  rw [sg_scale] at h ⊢
  have := over_frac B na nc da db s false x y z u w hB (sm_sg ha).1 ha.2 (by have := hb.1; simpa using this) hb.2 (sm_sg h).1 h.2 h1 h2 h3 h4
  rwa [Bool.bne_false] at this

def zB (p : Int) : Bool := decide (p = 0)
theorem zB_yes {p : Int} (h : p = 0) : zB p = true := decide_eq_true h
theorem zB_no {p : Int} (h : p ≠ 0) : zB p = false := decide_eq_false h
end Go.Proofs.Yteelomjknllcbaa
