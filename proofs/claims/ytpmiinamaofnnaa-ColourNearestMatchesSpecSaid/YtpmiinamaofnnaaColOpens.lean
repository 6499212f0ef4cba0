/- Colours and tones as arguments. -/
import Derived.Test.YtpmiinamaofnnaaOpens
namespace Go.Proofs.Ytpmiinamaofnnaa
open Go.ChangeShapes Go.WideShapes Go.RowKit Go.Deep
set_option linter.unusedSimpArgs false
/-- three whole numbers as an argument: a colour, a tone -/
def TriV (v : Value) : Prop := ∃ r g b : Int, v = .agg #[.int .i64 r, .int .i64 g, .int .i64 b] ∧ I64 r ∧ I64 g ∧ I64 b
section
variable {H : Type} {enc : TypeId × Value → H} {w : World} {held : Bool}
set_option maxRecDepth 100000 in
theorem open_colour {r : Reach} {b0 : Nat} {v : Value} {d : DataW H} {p : List MemPlace} (hv : Value.okWide Try.prog w r b0 24 v) (h : DataW.Trod enc Try.prog w 0 (fun _ => true) held 24 v d p) :
    ∃ a : Value, v = a ∧ TriV a := by
  obtain ⟨cs, n, rfl, hl, hf⟩ := open_struct1 Try.underlying24 (by kernel_rfl) (by kernel_rfl) hv h
  obtain ⟨u, v, x, rfl⟩ := list3 hl
  obtain ⟨u', y0, q0, k0⟩ := hf 0 _ rfl
  obtain ⟨v', y1, q1, k1⟩ := hf 1 _ rfl
  obtain ⟨x', y2, q2, k2⟩ := hf 2 _ rfl
  simp at q0 q1 q2
  subst q0; subst q1; subst q2
  obtain ⟨a0, rfl, w0⟩ := field_int Try.underlying3 k0
  obtain ⟨a1, rfl, w1⟩ := field_int Try.underlying3 k1
  obtain ⟨a2, rfl, w2⟩ := field_int Try.underlying3 k2
  exact ⟨_, rfl, a0, a1, a2, rfl, i64_of_wf w0, i64_of_wf w1, i64_of_wf w2⟩
end
end Go.Proofs.Ytpmiinamaofnnaa
