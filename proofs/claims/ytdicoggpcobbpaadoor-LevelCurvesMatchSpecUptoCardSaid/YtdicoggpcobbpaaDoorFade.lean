/- Fades as arguments: opened to cells. -/
import Derived.Test.YtdicoggpcobbpaaDoorCurve
namespace Go.Proofs.YtdicoggpcobbpaaDoor
open Go.ChangeShapes Go.WideShapes Go.RowKit Go.Deep

/-- a fade's value -/
def FdV (w : World) (v : Value) (f : Fd) : Prop :=
  ∃ p, v = .agg #[.int .i64 f.fr, .int .i64 f.to, .int .i64 f.start, .int .i64 f.delay, .int .i64 f.time, .int .i64 f.curve.kind, p] ∧ PtsV w p f.curve.pts
def FdFit (f : Fd) : Prop := I64 f.fr ∧ I64 f.to ∧ I64 f.start ∧ I64 f.delay ∧ I64 f.time ∧ CvFit f.curve

theorem list7 {α : Type} {l : List α} (h : l.length = 7) : ∃ a b c d e f g, l = [a, b, c, d, e, f, g] := by
  match l, h with
  | [a, b, c, d, e, f, g], _ => exact ⟨a, b, c, d, e, f, g, rfl⟩

/-- the fields of a struct, where they lie: offset and number of cells -/
def fieldsAt (P : Program) (fs : Array Field) : List (Nat × Nat) := fs.toList.map fun f => (f.offset, P.cellsOf f.type)

section
variable {H : Type} {enc : TypeId × Value → H} {w : World} {held : Bool}

theorem read_curve {fuel : Nat} {cs : List Value} {x : DataW H × List MemPlace} (h : DataW.trod enc Tryd.prog w 0 (fun _ => true) held fuel 31 cs = some x) :
    ∃ k p ps, cs = [.int .i64 k, p] ∧ PtsV w p ps ∧ CvFit ⟨k, ps⟩ := by
  have hh : Tryd.prog.cellsOf 31 = 2 := by kernel_rfl
  obtain ⟨hl, n, hf⟩ := open_fields1 Tryd.underlying31 (by kernel_rfl) hh h
  obtain ⟨u, v, rfl⟩ := list2 hl
  obtain ⟨u', y0, q0, k0⟩ := hf 0 _ rfl
  obtain ⟨v', y1, q1, k1⟩ := hf 1 _ rfl
  simp at q0 q1
  subst q0; subst q1
  obtain ⟨a0, rfl, w0⟩ := field_int Tryd.underlying3 k0
  obtain ⟨v', ps, e, hp, hi⟩ := read_pts k1
  simp at e
  subst e
  exact ⟨a0, _, ps, rfl, hp, i64_of_wf w0, hi⟩

theorem cellsInt : Tryd.prog.cellsOf 3 = 1 := by kernel_rfl
theorem cellsCurve : Tryd.prog.cellsOf 31 = 2 := by kernel_rfl
theorem cellsFade : Tryd.prog.cellsOf 40 = 7 := by kernel_rfl

set_option maxRecDepth 100000 in
/-- a fade that came in -/
theorem open_fade {r : Reach} {b0 : Nat} {v : Value} {d : DataW H} {p : List MemPlace} (hv : Value.okWide Tryd.prog w r b0 40 v) (h : DataW.Trod enc Tryd.prog w 0 (fun _ => true) held 40 v d p) :
    ∃ a : Value, v = a ∧ ∃ f, FdV w a f ∧ FdFit f := by
  obtain ⟨cs, n, rfl, hl, hf⟩ := open_struct Tryd.underlying40 hv h
  rw [cellsFade] at hl
  obtain ⟨u0, u1, u2, u3, u4, u5, u6, rfl⟩ := list7 hl
  obtain ⟨y0, k0⟩ := hf 0 _ rfl
  obtain ⟨y1, k1⟩ := hf 1 _ rfl
  obtain ⟨y2, k2⟩ := hf 2 _ rfl
  obtain ⟨y3, k3⟩ := hf 3 _ rfl
  obtain ⟨y4, k4⟩ := hf 4 _ rfl
  obtain ⟨y5, k5⟩ := hf 5 _ rfl
  simp only [List.getElem_toArray, List.getElem_cons_zero, List.getElem_cons_succ, cellsInt, cellsCurve, List.drop_zero, List.drop_succ_cons, List.take_succ_cons, List.take_zero] at k0 k1 k2 k3 k4 k5
  obtain ⟨a0, rfl, w0⟩ := field_int Tryd.underlying3 k0
  obtain ⟨a1, rfl, w1⟩ := field_int Tryd.underlying3 k1
  obtain ⟨a2, rfl, w2⟩ := field_int Tryd.underlying3 k2
  obtain ⟨a3, rfl, w3⟩ := field_int Tryd.underlying3 k3
  obtain ⟨a4, rfl, w4⟩ := field_int Tryd.underlying3 k4
  obtain ⟨k, q, ps, e, hp, hi⟩ := read_curve k5
  simp at e
  obtain ⟨rfl, rfl⟩ := e
  exact ⟨_, rfl, ⟨a0, a1, a2, a3, a4, ⟨k, ps⟩⟩, ⟨_, rfl, hp⟩, i64_of_wf w0, i64_of_wf w1, i64_of_wf w2, i64_of_wf w3, i64_of_wf w4, hi⟩
end
end Go.Proofs.YtdicoggpcobbpaaDoor
