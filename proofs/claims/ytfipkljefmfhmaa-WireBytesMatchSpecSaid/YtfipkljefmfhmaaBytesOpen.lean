/- Slices of bytes as arguments of a law. -/
import Derived.Test.YtfipkljefmfhmaaBytesLib
namespace Go.Proofs.Ytfipkljefmfhmaa
open Go.ChangeShapes Go.WideShapes Go.RowKit
set_option linter.unusedVariables false
section
variable {H : Type} {enc : TypeId × Value → H} {w : World} {held : Bool}

set_option maxRecDepth 100000 in
theorem read_bytesS {fuel : Nat} {cs : List Value} {x : DataW H × List MemPlace} (h : DataW.trod enc Try.prog w 0 (fun _ => true) held fuel 22 cs = some x) :
    ∃ v l, cs = [v] ∧ ByS w.heap.size w v l := by
  rcases open_ints Try.underlying22 Try.underlying5 (by kernel_rfl) h with ⟨rfl, _⟩ | ⟨a, len, cap, zs, rfl, _, hl, hm, hz, _, hcell, hwz⟩
  · exact ⟨_, [], rfl, none, 0, rfl, Nat.le_refl _, by omega, fun h => absurd rfl h⟩
  · simp only [if_true] at hz
    have hz' : zs.length = cap := by simpa using hz
    have hll : ((zs.take len).map (fun z => UInt8.ofNat z.toNat)).length = len := by simp; omega
    refine ⟨_, (zs.take len).map (fun z => UInt8.ofNat z.toNat), rfl, some a, cap, by rw [hll], by rw [hll]; omega, by unfold maxLen at hm; omega, fun hne => ?_⟩
    have h0 : 0 < len := by
      rcases Nat.eq_zero_or_pos len with h | h
      · subst h; simp at hne
      · exact h
    obtain ⟨b, off, rfl, hc⟩ := ints_at hcell (by omega)
    have hb : b < w.heap.size := World.block_lt_of_cell? w _ (hc 0 (by omega))
    refine ⟨b, off, rfl, hb, ?_⟩
    intro i hi
    simp at hi
    have h1 := hc i (by omega)
    have h2 := hwz (zs.getD i 0) (by
      rw [List.getD_eq_getElem?_getD, List.getElem?_eq_getElem (by omega)]
      exact List.getElem_mem _)
    rw [h1]
    simp only [List.getElem_map, List.getElem_take]
    rw [List.getD_eq_getElem?_getD, List.getElem?_eq_getElem (by omega)] at h2 ⊢
    simp [Lit.wf, IntKind.min, IntKind.max, IntKind.signed, IntKind.bits] at h2 ⊢
    omega

set_option maxRecDepth 100000 in
theorem open_bytesS {r : Reach} {b0 : Nat} {v : Value} {d : DataW H} {p : List MemPlace} (_hv : Value.okWide Try.prog w r b0 22 v) (h : DataW.Trod enc Try.prog w 0 (fun _ => true) held 22 v d p) :
    ∃ a : Value, v = a ∧ ∃ l, ByS w.heap.size w a l := by
  obtain ⟨ao, len, cap, rfl⟩ := okWide_slice Try.underlying22 _hv
  obtain ⟨fuel, hf⟩ := h
  obtain ⟨v, l, e, hl⟩ := read_bytesS hf
  simp [Value.cells] at e
  subst e
  exact ⟨_, rfl, l, hl⟩
end
end Go.Proofs.Ytfipkljefmfhmaa
