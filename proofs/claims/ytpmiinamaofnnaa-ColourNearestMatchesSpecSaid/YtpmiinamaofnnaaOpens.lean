/- Arguments of struct types, opened to cells: for any program. -/
import Derived.Test.YtpmiinamaofnnaaProg
import Derived.WalkKit
import Derived.ProofKit
import Derived.OpenShut
import Derived.Deep.Slices
import Derived.Deep.Fields
namespace Go.Proofs.Ytpmiinamaofnnaa
open Go.ChangeShapes Go.WideShapes Go.RowKit Go.Deep

section
variable {H : Type} {enc : TypeId × Value → H} {P : Program} {w : World} {base : Nat} {spare : Nat → Bool} {held : Bool}

/-- a struct that came in by value: its cells, and each field's own reading -/
theorem open_struct {r : Reach} {b0 : Nat} {t : TypeId} {fs : Array Field} {v : Value} {d : DataW H} {p : List MemPlace} (hs : P.underlying t = some (.struct fs))
    (hv : Value.okWide P w r b0 t v) (h : DataW.Trod enc P w base spare held t v d p) :
    ∃ (cs : List Value) (n : Nat), v = .agg cs.toArray ∧ cs.length = P.cellsOf t ∧ ∀ (i : Nat) (f : Field), fs[i]? = some f → ∃ y, DataW.trod enc P w base spare held n f.type ((cs.drop f.offset).take (P.cellsOf f.type)) = some y := by
  obtain ⟨cs, rfl, hsz⟩ := okWide_struct hs hv
  obtain ⟨fuel, hf⟩ := h
  obtain ⟨xs, n, _, _, hlen, hl, hg⟩ := DataW.trod_struct hs hf
  have hc : (Value.agg cs).cells = cs := by simp [Value.cells]
  rw [hc] at hg
  refine ⟨cs.toList, n, by simp, by simpa using hsz, fun i f hf => ?_⟩
  have hi : i < xs.length := by rw [hl]; exact (Array.getElem?_eq_some_iff.1 hf).1
  exact ⟨xs[i], by rw [hg i f hf, List.getElem?_eq_getElem hi]⟩

theorem take1_drop {α : Type} (l : List α) (i : Nat) (h : i < l.length) : (l.drop i).take 1 = [l[i]] := by
  rw [List.drop_eq_getElem_cons h]; rfl

/-- .. where each field is one cell -/
theorem open_struct1 {r : Reach} {b0 : Nat} {t : TypeId} {fs : Array Field} {v : Value} {d : DataW H} {p : List MemPlace} (hs : P.underlying t = some (.struct fs)) (hone : oneCellFields P fs = true) (hC : P.cellsOf t = fs.size)
    (hv : Value.okWide P w r b0 t v) (h : DataW.Trod enc P w base spare held t v d p) :
    ∃ (cs : List Value) (n : Nat), v = .agg cs.toArray ∧ cs.length = fs.size ∧ ∀ (i : Nat) (f : Field), fs[i]? = some f → ∃ u y, cs[i]? = some u ∧ DataW.trod enc P w base spare held n f.type [u] = some y := by
  obtain ⟨cs, n, hv, hl, hf⟩ := open_struct hs hv h
  refine ⟨cs, n, hv, hl.trans hC, fun i f hif => ?_⟩
  obtain ⟨o, c⟩ := hone_of hone i f hif
  obtain ⟨y, hy⟩ := hf i f hif
  have hi : i < cs.length := by rw [hl, hC]; exact (Array.getElem?_eq_some_iff.1 hif).1
  rw [o, c, take1_drop cs i hi] at hy
  exact ⟨_, y, List.getElem?_eq_getElem hi, hy⟩

/-- a struct among cells: each field's own reading -/
theorem open_fields {t : TypeId} {fs : Array Field} {fuel : Nat} {cs : List Value} {x : DataW H × List MemPlace} (hs : P.underlying t = some (.struct fs)) (h : DataW.trod enc P w base spare held fuel t cs = some x) :
    cs.length = P.cellsOf t ∧ ∃ n : Nat, ∀ (i : Nat) (f : Field), fs[i]? = some f → ∃ y, DataW.trod enc P w base spare held n f.type ((cs.drop f.offset).take (P.cellsOf f.type)) = some y := by
  obtain ⟨xs, n, _, _, hlen, hl, hg⟩ := DataW.trod_struct hs h
  refine ⟨hlen, n, fun i f hf => ?_⟩
  have hi : i < xs.length := by rw [hl]; exact (Array.getElem?_eq_some_iff.1 hf).1
  exact ⟨xs[i], by rw [hg i f hf, List.getElem?_eq_getElem hi]⟩

theorem open_fields1 {t : TypeId} {fs : Array Field} {fuel : Nat} {cs : List Value} {x : DataW H × List MemPlace} (hs : P.underlying t = some (.struct fs)) (hone : oneCellFields P fs = true) (hC : P.cellsOf t = fs.size)
    (h : DataW.trod enc P w base spare held fuel t cs = some x) :
    cs.length = fs.size ∧ ∃ n : Nat, ∀ (i : Nat) (f : Field), fs[i]? = some f → ∃ u y, cs[i]? = some u ∧ DataW.trod enc P w base spare held n f.type [u] = some y := by
  obtain ⟨hl, n, hf⟩ := open_fields hs h
  refine ⟨hl.trans hC, n, fun i f hif => ?_⟩
  obtain ⟨o, c⟩ := hone_of hone i f hif
  obtain ⟨y, hy⟩ := hf i f hif
  have hi : i < cs.length := by rw [hl, hC]; exact (Array.getElem?_eq_some_iff.1 hif).1
  rw [o, c, take1_drop cs i hi] at hy
  exact ⟨_, y, List.getElem?_eq_getElem hi, hy⟩

theorem field_int {fuel : Nat} {t : TypeId} {k : IntKind} {u : Value} {y : DataW H × List MemPlace} (ht : P.underlying t = some (.int k)) (h : DataW.trod enc P w base spare held fuel t [u] = some y) : ∃ a, u = .int k a ∧ (Lit.int k a).wf = true := by
  obtain ⟨a, e, _, hw⟩ := DataW.trod_int ht h
  simp at e
  exact ⟨a, e, hw⟩
end

theorem list2 {α : Type} {l : List α} (h : l.length = 2) : ∃ a b, l = [a, b] := by
  match l, h with
  | [a, b], _ => exact ⟨a, b, rfl⟩

/-- integers that fit -/
def I64 (a : Int) : Prop := -9223372036854775808 ≤ a ∧ a ≤ 9223372036854775807

theorem i64_of_wf {a : Int} (h : (Lit.int .i64 a).wf = true) : I64 a := by
  simp [Lit.wf, IntKind.min, IntKind.max, IntKind.signed, IntKind.bits] at h
  unfold I64; omega

theorem list3 {α : Type} {l : List α} (h : l.length = 3) : ∃ a b c, l = [a, b, c] := by
  match l, h with
  | [a, b, c], _ => exact ⟨a, b, c, rfl⟩
end Go.Proofs.Ytpmiinamaofnnaa
