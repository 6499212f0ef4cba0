/- The box of a running effect. (printed by wip/gen/gen_runbox.py) -/
import Derived.Test.YtopmdeefcjdadaaRunCheck
import Derived.Test.YtopmdeefcjdadaaClkPlain
namespace Go.Proofs.Ytopmdeefcjdadaa
open Go.RowKit
set_option linter.unusedVariables false
set_option linter.unusedSimpArgs false

theorem run_below (w : World) (c0 c1 c2 c3 c4 c5 c6 c7 c8 c9 c10 c11 c12 c13 c14 : Value) (T : TypeId) : ∀ W, Below (w.heap.size + 1) (w.alloc (.cells #[c0, c1, c2, c3, c4, c5, c6, c7, c8, c9, c10, c11, c12, c13, c14] T)) W → Below w.heap.size w W ∧ w.heap.size < W.heap.size ∧ (W.cell? ⟨w.heap.size, 0, none⟩ = some c0 ∧ W.cell? ⟨w.heap.size, 1, none⟩ = some c1 ∧ W.cell? ⟨w.heap.size, 2, none⟩ = some c2 ∧ W.cell? ⟨w.heap.size, 3, none⟩ = some c3 ∧ W.cell? ⟨w.heap.size, 4, none⟩ = some c4 ∧ W.cell? ⟨w.heap.size, 5, none⟩ = some c5 ∧ W.cell? ⟨w.heap.size, 6, none⟩ = some c6 ∧ W.cell? ⟨w.heap.size, 7, none⟩ = some c7 ∧ W.cell? ⟨w.heap.size, 8, none⟩ = some c8 ∧ W.cell? ⟨w.heap.size, 9, none⟩ = some c9 ∧ W.cell? ⟨w.heap.size, 10, none⟩ = some c10 ∧ W.cell? ⟨w.heap.size, 11, none⟩ = some c11 ∧ W.cell? ⟨w.heap.size, 12, none⟩ = some c12 ∧ W.cell? ⟨w.heap.size, 13, none⟩ = some c13 ∧ W.cell? ⟨w.heap.size, 14, none⟩ = some c14) := fun W hW => by
  have hz := hW.size
  simp at hz
  refine ⟨((Below.refl _ _).alloc (Nat.le_refl _) _).trans (hW.mono (by omega)), by omega, ?_, ?_, ?_, ?_, ?_, ?_, ?_, ?_, ?_, ?_, ?_, ?_, ?_, ?_, ?_⟩
  all_goals exact (hW.cell (p := ⟨w.heap.size, _, none⟩) (by simp)).trans (by simp [go_sem])
theorem up_alloc {B : Nat} {w W : World} (h : Below B w W) (hB : B ≤ w.heap.size) (o : Obj) : Below B w (W.alloc o) := h.alloc (Nat.le_trans hB h.size) o
theorem up_below {B : Nat} {w W W' : World} (h : Below B w W) (hB : B ≤ w.heap.size) (h2 : Below W.heap.size W W') : Below B w W' := h.trans (h2.mono (Nat.le_trans hB h.size))
theorem mul_bd {a p : Int} (h0 : 0 ≤ a) (h1 : a ≤ 36000000) (h2 : 0 ≤ p) (h3 : p ≤ 1000) : 0 ≤ a * p ∧ a * p ≤ 1000 * a ∧ a * p ≤ 36000000000 := by
  have e1 := Int.mul_nonneg h0 h2
  have e2 := Int.mul_le_mul_of_nonneg_left h3 h0
  omega
/-- the rates as cells -/
theorem rates_get {B : Nat} {w : World} {ro : Option Addr} {rcap : Nat} {rates : List (Int × Int)} (h : RateS B w (.slice ro rates.length rcap) rates) (k : Nat) (hk : k < rates.length) : ∃ b off, ro = some ⟨b, off, none⟩ ∧ b < B ∧ ∀ W, Below B w W → W.cell? ⟨b, off + k * 2, none⟩ = some (.int .i64 rates[k].1) ∧ W.cell? ⟨b, off + k * 2 + 1, none⟩ = some (.int .i64 rates[k].2) := by
  obtain ⟨ao, cap, e, h1, h2, h3⟩ := h
  injection e with e1 e2 e3
  subst e1
  obtain ⟨b, off, h4, h5, h6⟩ := h3 (by omega)
  have hg := cells2_get (fun k : Int × Int => Value.int .i64 k.1) (fun k => .int .i64 k.2) rates k hk
  exact ⟨b, off, h4, h5, fun W hb => ⟨(hb.cell (p := ⟨b, off + k * 2, none⟩) h5).trans (h6 _ _ hg.1), (hb.cell (p := ⟨b, off + k * 2 + 1, none⟩) h5).trans (h6 (k * 2 + 1) _ hg.2)⟩⟩
end Go.Proofs.Ytopmdeefcjdadaa
