/- The reference's reached and first: a search by halves. -/
import Derived.Test.YtdicoggpcobbpaaDoorAt
namespace Go.Proofs.YtdicoggpcobbpaaDoor
open Go.RowKit
set_option linter.unusedVariables false
set_option linter.unusedSimpArgs false

def reachB (f : Fd) (n k : Int) : Bool := if f.fr < f.to then decide (k ≤ n) else if f.to < f.fr then decide (n ≤ k) else decide (n = k)
/-- a search by halves -/
def bs (P : Int → Bool) : Nat → Int → Int → Int
  | 0, lo, _ => lo
  | n + 1, lo, hi => if lo < hi then (if P ((lo + hi) / 2) then bs P n lo ((lo + hi) / 2) else bs P n ((lo + hi) / 2 + 1) hi) else lo
def bsV (P : Int → Bool) (lo hi : Int) : Int := bs P (hi - lo).toNat lo hi
theorem bs_enough (P : Int → Bool) : ∀ (n m : Nat) (lo hi : Int), (hi - lo).toNat ≤ n → (hi - lo).toNat ≤ m → bs P n lo hi = bs P m lo hi := by
  intro n
  induction n with
  | zero =>
    intro m lo hi h1 h2
    cases m with
    | zero => rfl
    | succ m => simp only [bs]; rw [if_neg (by omega)]
  | succ n ih =>
    intro m lo hi h1 h2
    cases m with
    | zero => simp only [bs]; rw [if_neg (by omega)]
    | succ m =>
      simp only [bs]
      by_cases h : lo < hi
      · rw [if_pos h, if_pos h, ih m lo ((lo + hi) / 2) (by omega) (by omega), ih m ((lo + hi) / 2 + 1) hi (by omega) (by omega)]
      · rw [if_neg h, if_neg h]
theorem bsV_end (P : Int → Bool) {lo hi : Int} (h : hi ≤ lo) : bsV P lo hi = lo := by
  unfold bsV
  rw [show (hi - lo).toNat = 0 by omega]
  rfl
theorem bsV_yes (P : Int → Bool) {lo hi : Int} (h : lo < hi) (hp : P ((lo + hi) / 2) = true) : bsV P lo hi = bsV P lo ((lo + hi) / 2) := by
  unfold bsV
  rw [bs_enough P (hi - lo).toNat ((hi - lo).toNat - 1 + 1) lo hi (by omega) (by omega)]
  simp only [bs]
  rw [if_pos h, if_pos hp]
  exact bs_enough P _ _ _ _ (by omega) (by omega)
theorem bsV_no (P : Int → Bool) {lo hi : Int} (h : lo < hi) (hp : P ((lo + hi) / 2) = false) : bsV P lo hi = bsV P ((lo + hi) / 2 + 1) hi := by
  unfold bsV
  rw [bs_enough P (hi - lo).toNat ((hi - lo).toNat - 1 + 1) lo hi (by omega) (by omega)]
  simp only [bs]
  rw [if_pos h, if_neg (by simp [hp])]
  exact bs_enough P _ _ _ _ (by omega) (by omega)

theorem fade_cells {w : World} {c0 c1 c2 c3 c4 c5 c6 : Value} {T : TypeId} : ∀ W, Below (w.heap.size + 1) (w.alloc (.cells #[c0, c1, c2, c3, c4, c5, c6] T)) W → W.cell? ⟨w.heap.size, 0, none⟩ = some c0 ∧ W.cell? ⟨w.heap.size, 1, none⟩ = some c1 ∧ W.cell? ⟨w.heap.size, 2, none⟩ = some c2 ∧ W.cell? ⟨w.heap.size, 3, none⟩ = some c3 ∧ W.cell? ⟨w.heap.size, 4, none⟩ = some c4 ∧ W.cell? ⟨w.heap.size, 5, none⟩ = some c5 ∧ W.cell? ⟨w.heap.size, 6, none⟩ = some c6 := fun W hW => by
  have hW' : Below (w.alloc (.cells #[c0, c1, c2, c3, c4, c5, c6] T)).heap.size (w.alloc (.cells #[c0, c1, c2, c3, c4, c5, c6] T)) W := hW.mono (by simp)
  exact ⟨boxAt hW' 0 rfl, boxAt hW' 1 rfl, boxAt hW' 2 rfl, boxAt hW' 3 rfl, boxAt hW' 4 rfl, boxAt hW' 5 rfl, boxAt hW' 6 rfl⟩

end Go.Proofs.YtdicoggpcobbpaaDoor
