/- Look-ups and stores of a map of marks as run equations. No walk in it. -/
import Derived.Test.YtabalicembhjmaaFixWords
namespace Go.Proofs.Ytabalicembhjmaa
open Go.RowKit
set_option linter.unusedVariables false
set_option linter.unusedSimpArgs false

open Go.Maps (Keyed)
section
variable {w : World} {P : Program} {k e : TypeId} {b n : Nat} {S : List Lit}
theorem SeenM.mono (h : SeenM w P k e b n S) {m : Nat} (hm : n ≤ m) : SeenM w P k e b m S := by
  obtain ⟨D, h1, h2⟩ := h.own
  exact ⟨D, h1.mono hm, h2⟩
theorem SeenM.drew (h : SeenM w P k e b n S) : SeenM w.drew P k e b n S := by
  obtain ⟨D, h1, h2⟩ := h.own
  exact ⟨D, h1.drew, h2⟩
theorem SeenM.look (h : SeenM w P k e b n S) (K : Keyed P k) {t : TypeId} (ht : P.underlying t = some (.map k e)) (he : P.underlying e = some .bool) (hz : (zeroValue e).run P w = .ok (.bool false) w) {key : Value} {kl : Lit} (hkey : keyOf P k key = some kl) (c : Bool) (hc : c = true ↔ kl ∈ S) :
    (Instr.lookup t (.map (some b)) key false).run P w = .ok (.bool c) w := by
  obtain ⟨D, h1, h2, h3⟩ := h.own
  obtain ⟨v, ps, hrun, hv⟩ := h1.lookup K ht hz (plainElem_bool he false) hkey
  obtain ⟨x', rfl, hx'⟩ := plainElem_bool_inv he hv
  obtain ⟨c', h4, h5⟩ := h3 kl
  rw [h4] at hx'
  simp at hx'
  obtain ⟨hxe, rfl⟩ := hx'
  subst hxe
  rw [hrun]
  have : c = c' := by
    cases c <;> cases c' <;> simp_all
  rw [this]
theorem SeenM.look_in (h : SeenM w P k e b n S) (K : Keyed P k) {t : TypeId} (ht : P.underlying t = some (.map k e)) (he : P.underlying e = some .bool) (hz : (zeroValue e).run P w = .ok (.bool false) w) {key : Value} {kl : Lit} (hkey : keyOf P k key = some kl) (hc : kl ∈ S) :
    (Instr.lookup t (.map (some b)) key false).run P w = .ok (.bool true) w := h.look K ht he hz hkey true (by simp [hc])
theorem SeenM.look_out (h : SeenM w P k e b n S) (K : Keyed P k) {t : TypeId} (ht : P.underlying t = some (.map k e)) (he : P.underlying e = some .bool) (hz : (zeroValue e).run P w = .ok (.bool false) w) {key : Value} {kl : Lit} (hkey : keyOf P k key = some kl) (hc : kl ∉ S) :
    (Instr.lookup t (.map (some b)) key false).run P w = .ok (.bool false) w := h.look K ht he hz hkey false (by simp [hc])
theorem SeenM.update (h : SeenM w P k e b n S) (K : Keyed P k) {t : TypeId} (ht : P.underlying t = some (.map k e)) (he : P.underlying e = some .bool) (hn : n < maxLen) {key : Value} {kl : Lit} (hkey : keyOf P k key = some kl) :
    ∃ w', (Instr.mapUpdate t (.map (some b)) key (.bool true)).run P w = .ok () w' ∧ SeenM w' P k e b (n + 1) (S ++ [kl]) ∧ w.grownBy w' (some b) := by
  obtain ⟨D, h1, h2, h3⟩ := h.own
  obtain ⟨w', hrun, r1, r2⟩ := h1.update K ht hn hkey (plainElem_bool he true)
  exact ⟨w', hrun, SeenM.put h2 h3 (K.key hkey) r1, r2⟩
end
theorem grown_cell {w w' : World} {row b off : Nat} (h : w.grownBy w' (some row)) (hb : b < w.heap.size) (hne : b ≠ row) : w'.cell? ⟨b, off, none⟩ = w.cell? ⟨b, off, none⟩ :=
  World.cell?_of_block (h.block b hb (by intro e; injection e with e; exact hne e))
end Go.Proofs.Ytabalicembhjmaa
