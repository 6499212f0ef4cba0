/- colour.Between: its faults, and what it stands on. (printed by wip/gen/gen_between.py) -/
import Derived.Test.YteelomjknllcbaaWays
import Derived.Test.YteelomjknllcbaaBoxes
namespace Go.Proofs.Yteelomjknllcbaa
open Go.RowKit
set_option linter.unusedVariables false
set_option linter.unusedSimpArgs false

theorem first4d (b : Nat) (x y z u : Int) (W : World) (h1 : W.cell? ⟨b, 0, none⟩ = some (.int .i64 x)) (h2 : W.cell? ⟨b, 1, none⟩ = some (.int .i64 y)) (h3 : W.cell? ⟨b, 2, none⟩ = some (.int .i64 z)) (h4 : W.cell? ⟨b, 3, none⟩ = some (.int .i64 u)) :
    Calls Try.prog 44 #[.slice (some ⟨b, 0, none⟩) 4 4] W fun e w' => e = .returned (.int .i64 (firstF [x, y, z, u])) ∧ W = w' := by
  refine first_any b 0 4 [x, y, z, u] W (by simp) ?_
  intro i h
  match i, h with
  | 0, _ => simpa using h1
  | 1, _ => simpa using h2
  | 2, _ => simpa using h3
  | 3, _ => simpa using h4
theorem firstF_one' (a b c : Int) : firstF [a, b, c, 1] ≠ 0 := by
  by_cases ha : a = 0 <;> by_cases hb : b = 0 <;> by_cases hc : c = 0 <;> simp [firstF, *]
theorem firstF_zero {a b c : Int} (h : firstF [a, b, c, 0] = 0) : a = 0 ∧ b = 0 ∧ c = 0 := by
  by_cases ha : a = 0 <;> by_cases hb : b = 0 <;> by_cases hc : c = 0 <;> simp_all [firstF]
theorem btwE_ok {r1 g1 b1 r2 g2 b2 way p q : Int} (h : PartOk p q) : btwE r1 g1 b1 r2 g2 b2 way p q = firstF [chkC r1 g1 b1, chkC r2 g2 b2, whenV (!inB way 1 3) 4, 0] := by
  obtain ⟨h1, h2⟩ := h
  unfold btwE
  rw [show inB q 1 36000000 = true from decide_eq_true h1, show inB p 0 q = true from decide_eq_true h2]
  rfl
theorem btwE_no {r1 g1 b1 r2 g2 b2 way p q : Int} (h : ¬ PartOk p q) : btwE r1 g1 b1 r2 g2 b2 way p q = firstF [chkC r1 g1 b1, chkC r2 g2 b2, whenV (!inB way 1 3) 4, 1] := by
  unfold btwE
  by_cases h1 : 1 ≤ q ∧ q ≤ 36000000
  · have h2 : ¬ (0 ≤ p ∧ p ≤ q) := fun k => h ⟨h1, k⟩
    rw [show inB q 1 36000000 = true from decide_eq_true h1, show inB p 0 q = false from decide_eq_false h2]
    rfl
  · rw [show inB q 1 36000000 = false from decide_eq_false h1]
    rfl
theorem btw_lv {r1 g1 b1 r2 g2 b2 way p q : Int} (h : PartOk p q) (hE : btwE r1 g1 b1 r2 g2 b2 way p q = 0) : (LvOkC r1 ∧ LvOkC g1 ∧ LvOkC b1) ∧ (LvOkC r2 ∧ LvOkC g2 ∧ LvOkC b2) ∧ 1 ≤ way ∧ way ≤ 3 := by
  rw [btwE_ok h] at hE
  obtain ⟨h1, h2, h3⟩ := firstF_zero hE
  refine ⟨?_, ?_, ?_⟩
  · unfold chkC at h1
    by_cases c : LvOkC r1 ∧ LvOkC g1 ∧ LvOkC b1
    · exact c
    · rw [if_neg c] at h1; omega
  · unfold chkC at h2
    by_cases c : LvOkC r2 ∧ LvOkC g2 ∧ LvOkC b2
    · exact c
    · rw [if_neg c] at h2; omega
  · by_cases c : 1 ≤ way ∧ way ≤ 3
    · exact c
    · rw [show inB way 1 3 = false from decide_eq_false c] at h3
      simp [whenV] at h3

/-- the world behind the fault of Between -/
abbrev btwX (w : World) (r1 g1 b1 r2 g2 b2 way p q lf : Int) : World :=
  ((((((((w.alloc (.cells #[.int .i64 r1, .int .i64 g1, .int .i64 b1] 23)).alloc (.cells #[.int .i64 r2, .int .i64 g2, .int .i64 b2] 23)).alloc (.cells #[.int .i64 p] 3)).alloc (.cells #[.int .i64 q] 3)).alloc (.cells #[.int .i64 0, .int .i64 0, .int .i64 0] 23)).alloc (.cells #[.int .i64 r1, .int .i64 g1, .int .i64 b1] 23)).alloc (.cells #[.int .i64 r2, .int .i64 g2, .int .i64 b2] 23)).alloc (.cells #[.int .i64 (chkC r1 g1 b1), .int .i64 (chkC r2 g2 b2), .int .i64 (whenV (!inB way 1 3) 4), .int .i64 lf] 26)).drew
/-- what is known of a world behind the fault of Between -/
structure BtwS (w : World) (r1 g1 b1 r2 g2 b2 p q : Int) (W : World) : Prop where
  bl : Below w.heap.size w W
  sz : w.heap.size + 5 ≤ W.heap.size
  a0 : W.cell? ⟨w.heap.size, 0, none⟩ = some (.int .i64 r1)
  a1 : W.cell? ⟨w.heap.size, 1, none⟩ = some (.int .i64 g1)
  a2 : W.cell? ⟨w.heap.size, 2, none⟩ = some (.int .i64 b1)
  d0 : W.cell? ⟨w.heap.size + 1, 0, none⟩ = some (.int .i64 r2)
  d1 : W.cell? ⟨w.heap.size + 1, 1, none⟩ = some (.int .i64 g2)
  d2 : W.cell? ⟨w.heap.size + 1, 2, none⟩ = some (.int .i64 b2)
  pc : W.cell? ⟨w.heap.size + 1 + 1, 0, none⟩ = some (.int .i64 p)
  qc : W.cell? ⟨w.heap.size + 1 + 1 + 1, 0, none⟩ = some (.int .i64 q)
  box : Box3 W (w.heap.size + 1 + 1 + 1 + 1) (.int .i64 0) (.int .i64 0) (.int .i64 0)
theorem BtwS.below {w : World} {r1 g1 b1 r2 g2 b2 p q : Int} {W W1 : World} (h : BtwS w r1 g1 b1 r2 g2 b2 p q W) (hb : Below W.heap.size W W1) : BtwS w r1 g1 b1 r2 g2 b2 p q W1 := by
  have hz := h.sz
  exact ⟨h.bl.trans (hb.mono (by omega)), by have := hb.size; omega,
    (hb.cell (p := ⟨w.heap.size, 0, none⟩) (by show w.heap.size < _; omega)).trans h.a0, (hb.cell (p := ⟨w.heap.size, 1, none⟩) (by show w.heap.size < _; omega)).trans h.a1, (hb.cell (p := ⟨w.heap.size, 2, none⟩) (by show w.heap.size < _; omega)).trans h.a2,
    (hb.cell (p := ⟨w.heap.size + 1, 0, none⟩) (by show w.heap.size + 1 < _; omega)).trans h.d0, (hb.cell (p := ⟨w.heap.size + 1, 1, none⟩) (by show w.heap.size + 1 < _; omega)).trans h.d1, (hb.cell (p := ⟨w.heap.size + 1, 2, none⟩) (by show w.heap.size + 1 < _; omega)).trans h.d2,
    (hb.cell (p := ⟨w.heap.size + 1 + 1, 0, none⟩) (by show w.heap.size + 1 + 1 < _; omega)).trans h.pc, (hb.cell (p := ⟨w.heap.size + 1 + 1 + 1, 0, none⟩) (by show w.heap.size + 1 + 1 + 1 < _; omega)).trans h.qc,
    h.box.below hb (by omega)⟩
set_option maxRecDepth 10000 in
theorem btwS_of (w : World) (r1 g1 b1 r2 g2 b2 way p q lf : Int) : BtwS w r1 g1 b1 r2 g2 b2 p q (btwX w r1 g1 b1 r2 g2 b2 way p q lf) :=
  ⟨by repeat' first | exact Below.refl _ _ | apply Below.drew | refine Below.alloc ?_ (by simp <;> omega) _, by simp,
   by simp [go_sem, World.cell?_alloc_past], by simp [go_sem, World.cell?_alloc_past], by simp [go_sem, World.cell?_alloc_past], by simp [go_sem, World.cell?_alloc_past], by simp [go_sem, World.cell?_alloc_past], by simp [go_sem, World.cell?_alloc_past], by simp [go_sem, World.cell?_alloc_past], by simp [go_sem, World.cell?_alloc_past],
   by
    refine bx_drew (bx_alloc (by simp) (bx_alloc (by simp) (bx_alloc (by simp) ?_)))
    exact bx_new (by simp)⟩

theorem BtwS.set {w : World} {r1 g1 b1 r2 g2 b2 p q : Int} {W : World} {g i : Nat} {u : Value} (h : BtwS w r1 g1 b1 r2 g2 b2 p q W) (hg : w.heap.size + 5 ≤ g) : BtwS w r1 g1 b1 r2 g2 b2 p q (W.setCell ⟨g, i, none⟩ u) := by
  have hc : ∀ k i', k < w.heap.size + 5 → (W.setCell ⟨g, i, none⟩ u).cell? ⟨k, i', none⟩ = W.cell? ⟨k, i', none⟩ := fun k i' hk =>
    World.cell?_of_block (a := ⟨k, i', none⟩) (heap_setCell_other _ _ _ _ (by have hne : k ≠ g := (by omega); simpa using hne))
  have hz := h.sz
  exact ⟨below_set h.bl g i u (by omega), by simpa using h.sz, (hc _ _ (by omega)).trans h.a0, (hc _ _ (by omega)).trans h.a1, (hc _ _ (by omega)).trans h.a2, (hc _ _ (by omega)).trans h.d0, (hc _ _ (by omega)).trans h.d1, (hc _ _ (by omega)).trans h.d2, (hc _ _ (by omega)).trans h.pc, (hc _ _ (by omega)).trans h.qc, bx_set1 (by omega) h.box⟩
/-- whether a hue goes up -/
def upB (way d : Int) : Bool := if way = 3 then decide (196605 < d ∨ d = 0) else decide (d ≤ 196605)
theorem turn_up (a b way : Int) : turnV a b way = if upB way ((b - a) % 393210) then (b - a) % 393210 else (b - a) % 393210 - 393210 := by
  unfold turnV upB
  by_cases hw : way = 3
  · rw [if_pos hw, if_pos hw]
    by_cases h : 196605 < (b - a) % 393210 ∨ (b - a) % 393210 = 0
    · rw [if_pos h, if_pos (by simpa using h)]
    · rw [if_neg h, if_neg (by simpa using h)]
  · rw [if_neg hw, if_neg hw]
    by_cases h : (b - a) % 393210 ≤ 196605
    · rw [if_pos h, if_pos (by simpa using h)]
    · rw [if_neg h, if_neg (by simpa using h)]
theorem upB_cases (way d : Int) : (way = 3 ∧ 196605 < d ∧ upB way d = true) ∨ (way = 3 ∧ d ≤ 196605 ∧ (d == 0) = true ∧ upB way d = true) ∨ (way = 3 ∧ d ≤ 196605 ∧ (d == 0) = false ∧ upB way d = false) ∨ ((way == 3) = false ∧ d ≤ 196605 ∧ upB way d = true) ∨ ((way == 3) = false ∧ 196605 < d ∧ upB way d = false) := by
  unfold upB
  by_cases hw : way = 3
  · rw [if_pos hw]
    by_cases h : 196605 < d
    · exact .inl ⟨hw, h, by simp [h]⟩
    · by_cases h2 : d = 0
      · exact .inr (.inl ⟨hw, by omega, by simp [h2], by simp [h2]⟩)
      · exact .inr (.inr (.inl ⟨hw, by omega, by simp [h2], by simp [h, h2]⟩))
  · rw [if_neg hw]
    by_cases h : d ≤ 196605
    · exact .inr (.inr (.inr (.inl ⟨by simpa using hw, h, by simp [h]⟩)))
    · exact .inr (.inr (.inr (.inr ⟨by simpa using hw, by omega, by simp; omega⟩)))

def btwR (E : Int) (C : Int × Int × Int) : Int × Int × Int := if E = 0 then C else (0, 0, 0)
end Go.Proofs.Yteelomjknllcbaa
