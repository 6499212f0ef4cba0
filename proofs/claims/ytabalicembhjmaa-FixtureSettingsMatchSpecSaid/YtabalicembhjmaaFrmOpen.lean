/- Frames as an argument. (printed by wip/gen/gen_set.py) -/
import Derived.Test.YtabalicembhjmaaSetPlain
namespace Go.Proofs.Ytabalicembhjmaa
open Go.ChangeShapes Go.WideShapes Go.RowKit Go.Deep
set_option linter.unusedSimpArgs false
set_option linter.unusedVariables false

section
variable {H : Type} {enc : TypeId × Value → H} {w : World} {held : Bool}
set_option maxRecDepth 100000 in
theorem read_byte {fuel : Nat} {cs : List Value} {x : DataW H × List MemPlace} (h : DataW.trod enc Try.prog w 0 (fun _ => true) held fuel 5 cs = some x) : ∃ y : Int, cs = bytC y ∧ 0 ≤ y ∧ y ≤ 255 := by
  have hl : ∃ u, cs = [u] := by
    cases fuel with
    | zero => simp [DataW.trod] at h
    | succ n =>
      match cs, h with
      | [u], _ => exact ⟨u, rfl⟩
      | [], h => simp [DataW.trod, Try.underlying5] at h
      | _ :: _ :: _, h => simp [DataW.trod, Try.underlying5] at h
  obtain ⟨u, rfl⟩ := hl
  obtain ⟨a, rfl, hw⟩ := field_int Try.underlying5 h
  refine ⟨a, rfl, ?_⟩
  simp [Lit.wf, IntKind.min, IntKind.max, IntKind.signed, IntKind.bits] at hw
  exact hw
set_option maxRecDepth 100000 in
theorem read_frame {fuel : Nat} {cs : List Value} {x : DataW H × List MemPlace} (h : DataW.trod enc Try.prog w 0 (fun _ => true) held fuel 64 cs = some x) :
    ∃ y : Frm × Value, cs = frmC y ∧ BytS w.heap.size w y.2 y.1.sl ∧ FrmFit y.1 := by
  have hc : Try.prog.cellsOf 64 = 2 := by kernel_rfl
  obtain ⟨hl, n, hf⟩ := open_fields1 Try.underlying64 (by kernel_rfl) hc h
  obtain ⟨u0, u1, rfl⟩ := list2 hl
  obtain ⟨x0, y0, q0, k0⟩ := hf 0 _ rfl
  obtain ⟨x1, y1, q1, k1⟩ := hf 1 _ rfl
  simp at q0 q1
  subst q0 q1
  obtain ⟨a0, rfl, w0⟩ := field_int Try.underlying3 k0
  obtain ⟨v, l, e, h1, h2⟩ := read_rows (n := 1) bytC (fun b => 0 ≤ b ∧ b ≤ 255) (fun _ => rfl) (by omega) Try.underlying62 (by kernel_rfl) (fun _ _ _ h => read_byte h) k1
  simp at e
  subst e
  exact ⟨(⟨a0, l⟩, _), rfl, h1, i64_of_wf w0, h2⟩
/-- frames as an argument -/
def FrmW (w : World) (v : Value) : Prop := ∃ l : List Frm, FrmS w.heap.size w v l ∧ ∀ p ∈ l, FrmFit p
set_option maxRecDepth 100000 in
theorem open_frames {r : Reach} {b0 : Nat} {v : Value} {d : DataW H} {p : List MemPlace} (hv : Value.okWide Try.prog w r b0 26 v) (h : DataW.Trod enc Try.prog w 0 (fun _ => true) held 26 v d p) :
    ∃ a : Value, v = a ∧ FrmW w a := by
  obtain ⟨ao, len, cap, rfl⟩ := okWide_slice Try.underlying26 hv
  obtain ⟨fuel, hf⟩ := h
  obtain ⟨v, l, e, h1, h2⟩ := read_rows (n := 2) frmC (fun y => BytS w.heap.size w y.2 y.1.sl ∧ FrmFit y.1) (fun _ => rfl) (by omega) Try.underlying26 (by kernel_rfl) (fun _ _ _ h => read_frame h) hf
  simp [Value.cells] at e
  subst e
  refine ⟨_, rfl, l.map (·.1), ⟨l, rfl, h1, fun y hy => (h2 y hy).1⟩, fun y hy => ?_⟩
  obtain ⟨z, hz, rfl⟩ := List.mem_map.1 hy
  exact (h2 z hz).2
end
end Go.Proofs.Ytabalicembhjmaa
