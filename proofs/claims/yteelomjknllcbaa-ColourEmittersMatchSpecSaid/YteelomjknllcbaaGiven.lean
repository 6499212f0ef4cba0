/- What emitters give: colour.given. -/
import Derived.Test.YteelomjknllcbaaEmCheck
import Derived.Test.YteelomjknllcbaaEach
import Derived.Test.YteelomjknllcbaaBoxes
import Derived.Test.YteelomjknllcbaaInts
namespace Go.Proofs.Yteelomjknllcbaa
open Go.RowKit
set_option linter.unusedVariables false
set_option linter.unusedSimpArgs false

/-- a sum of components, each times its level, over the first k emitters -/
def gsum (f : Emi → Int) (l : List Emi) (zs : List Int) : Nat → Int
  | 0 => 0
  | k + 1 => gsum f l zs k + f (l.getD k default) * zs.getD k 0
def endV (s : Int) : Int := if rnd s 65535 < 65535 then rnd s 65535 else 65535
/-- emitters and levels that are right -/
structure GvOk (l : List Emi) (zs : List Int) : Prop where
  len : zs.length = l.length
  l12 : l.length ≤ 12
  col : ∀ k, k < l.length → LvOkC (l.getD k default).r ∧ LvOkC (l.getD k default).g ∧ LvOkC (l.getD k default).b
  lev : ∀ k, k < l.length → LvOkC (zs.getD k 0)
theorem prod_le {a b : Int} (ha : LvOkC a) (hb : LvOkC b) : 0 ≤ a * b ∧ a * b ≤ 4294836225 := by
  obtain ⟨a0, a1⟩ := ha
  obtain ⟨b0, b1⟩ := hb
  refine ⟨Int.mul_nonneg a0 b0, ?_⟩
  have := Int.mul_le_mul a1 b1 b0 (by omega)
  omega
theorem gsum_le (f : Emi → Int) (l : List Emi) (zs : List Int) (h : ∀ k, k < l.length → LvOkC (f (l.getD k default)) ∧ LvOkC (zs.getD k 0)) : ∀ k, k ≤ l.length → 0 ≤ gsum f l zs k ∧ gsum f l zs k ≤ 4294836225 * k := by
  intro k
  induction k with
  | zero => intro _; simp [gsum]
  | succ k ih =>
    intro hk
    have h1 := ih (by omega)
    have h2 := prod_le (h k (by omega)).1 (h k (by omega)).2
    simp only [gsum]
    omega

set_option maxHeartbeats 1000000 in
theorem cg_sum (a b z : Int) (k n cap zb zoff g h : Nat) (w : World) (hg : w.cell? ⟨g, 0, none⟩ = some (.slice (some ⟨zb, zoff, none⟩) n cap)) (hh : w.cell? ⟨h, 0, none⟩ = some (.int .i64 k)) (hk : k < n) (hn : n ≤ 12)
    (hz : w.cell? ⟨zb, zoff + k, none⟩ = some (.int .i64 z)) (ha : 0 ≤ a ∧ a ≤ 60000000000) (hb : 0 ≤ b * z ∧ b * z ≤ 4294836225) :
    Calls Try.prog 82 #[.int .i64 a, .int .i64 b, .pointer (some ⟨g, 0, none⟩), .pointer (some ⟨h, 0, none⟩)] w fun e w' => e = .returned (.int .i64 (a + b * z)) ∧ Below w.heap.size w w' := by
  generalize hp : b * z = p at *
  go_enter Try.func82, Try.ntmps82
  go_wp2
  go_ret
  exact ⟨rfl, Below.refl _ _⟩
set_option maxHeartbeats 1000000 in
theorem cg_end (a c : Int) (w : World) (ha : 0 ≤ a ∧ a ≤ 60000000000) :
    Calls Try.prog 83 #[.int .i64 a, .int .i64 c] w fun e w' => e = .returned (.int .i64 (endV a)) ∧ Below w.heap.size w w' := by
  have HR := Lib.hid (fun W => round_any a 65535 W (by omega) (by omega) (by omega) (by omega))
  have HE := Lib.hid (show endV a = if rnd a 65535 < 65535 then rnd a 65535 else 65535 from rfl)
  generalize endV a = m at *
  generalize rnd a 65535 = q at *
  by_cases hq : q < 65535
  · have HM := Lib.hid (show m = q by rw [HE.out, if_pos hq])
    go_enter Try.func83, Try.ntmps83
    go_wp2_with (go_at_call 58; refine (HR.out _).mono ?_; rintro e w' ⟨rfl, rfl⟩)
    go_ret
    exact ⟨by rw [HM.out] <;> rfl, Below.refl _ _⟩
  · have HM := Lib.hid (show m = 65535 by rw [HE.out, if_neg hq])
    have hq2 : 65535 ≤ q := by omega
    go_enter Try.func83, Try.ntmps83
    go_wp2_with (go_at_call 58; refine (HR.out _).mono ?_; rintro e w' ⟨rfl, rfl⟩)
    go_ret
    exact ⟨by rw [HM.out] <;> rfl, Below.refl _ _⟩

/-- what is known of a world within given -/
structure GvS (w : World) (zv : Value) (a b c : Int) (W : World) : Prop where
  bl : Below w.heap.size w W
  sz : w.heap.size + 3 ≤ W.heap.size
  lv : W.cell? ⟨w.heap.size, 0, none⟩ = some zv
  res : Box3 W (w.heap.size + 1) (.int .i64 0) (.int .i64 0) (.int .i64 0)
  sum : Box3 W (w.heap.size + 1 + 1) (.int .i64 a) (.int .i64 b) (.int .i64 c)
theorem GvS.below {w : World} {zv : Value} {a b c : Int} {W W1 : World} (h : GvS w zv a b c W) (hb : Below W.heap.size W W1) : GvS w zv a b c W1 := by
  have hz := h.sz
  exact ⟨h.bl.trans (hb.mono (by omega)), by have := hb.size; omega, (hb.cell (p := ⟨w.heap.size, 0, none⟩) (by show w.heap.size < _; omega)).trans h.lv, h.res.below hb (by omega), h.sum.below hb (by omega)⟩
theorem GvS.put {w : World} {zv : Value} {a b c x y z : Int} {W : World} (h : GvS w zv a b c W) : GvS w zv x y z (((W.setCell ⟨w.heap.size + 1 + 1, 0, none⟩ (.int .i64 x)).setCell ⟨w.heap.size + 1 + 1, 1, none⟩ (.int .i64 y)).setCell ⟨w.heap.size + 1 + 1, 2, none⟩ (.int .i64 z)) :=
  ⟨below_set3 h.bl (by omega), by rw [size_set3]; exact h.sz, (cell_set3' (by omega)).trans h.lv, bx_other (by omega) h.res, bx_put rfl (has_of h.sum)⟩
theorem gvS_of (w : World) (zv : Value) : GvS w zv 0 0 0 (((w.alloc (.cells #[zv] 36)).alloc (.cells #[.int .i64 0, .int .i64 0, .int .i64 0] 23)).alloc (.cells #[.int .i64 0, .int .i64 0, .int .i64 0] 23)) :=
  ⟨by repeat' first | exact Below.refl _ _ | refine Below.alloc ?_ (by simp <;> omega) _, by simp, by simp [go_sem, World.cell?_alloc_past], bx_alloc (by simp) (bx_new (by simp)), bx_new (by simp)⟩
end Go.Proofs.Yteelomjknllcbaa
