/- Curves and fades as arguments: opened to cells. -/
import Derived.Test.YtdicoggpcobbpaaDoorLevels
import Derived.ProofKit
import Derived.OpenShut
import Derived.Deep.Slices
import Derived.Deep.Fields
namespace Go.Proofs.YtdicoggpcobbpaaDoor
open Go.ChangeShapes Go.WideShapes Go.RowKit Go.Deep

section
variable {H : Type} {enc : TypeId × Value → H} {P : Program} {w : World} {base : Nat} {spare : Nat → Bool} {held : Bool}

/-- a struct that came in by value: its cells, and each field's own reading -/
theorem open_struct {r : Reach} {b0 : Nat} {t : TypeId} {fs : Array Field} {v : Value} {d : DataW H} {p : List MemPlace} (hs : P.underlying t = some (.struct fs))
    (hv : Value.okWide P w r b0 t v) (h : DataW.Trod enc P w base spare held t v d p) :
    ∃ (cs : List Value) (n : Nat), v = .agg cs.toArray ∧ cs.length = P.cellsOf t ∧ ∀ (i : Nat) (f : Field), fs[i]? = some f → ∃ y, DataW.trod enc P w base spare held n f.type ((cs.drop f.offset).take (P.cellsOf f.type)) = some y := by
  obtain ⟨cs, rfl, hsz⟩ := okWide_struct hs hv
  obtain ⟨fuel, hf⟩ := h
  obtain ⟨xs, n, _, _, hlen, hl, hg⟩ := DataW.trod_struct hs hf
  have hc : (Value.agg cs).cells = cs := by simp [Value.cells]
  rw [hc] at hg
  refine ⟨cs.toList, n, by simp, by simpa using hsz, fun i f hf => ?_⟩
  have hi : i < xs.length := by rw [hl]; exact (Array.getElem?_eq_some_iff.1 hf).1
  exact ⟨xs[i], by rw [hg i f hf, List.getElem?_eq_getElem hi]⟩

theorem take1_drop {α : Type} (l : List α) (i : Nat) (h : i < l.length) : (l.drop i).take 1 = [l[i]] := by
  rw [List.drop_eq_getElem_cons h]; rfl

/-- .. where each field is one cell -/
theorem open_struct1 {r : Reach} {b0 : Nat} {t : TypeId} {fs : Array Field} {v : Value} {d : DataW H} {p : List MemPlace} (hs : P.underlying t = some (.struct fs)) (hone : oneCellFields P fs = true) (hC : P.cellsOf t = fs.size)
    (hv : Value.okWide P w r b0 t v) (h : DataW.Trod enc P w base spare held t v d p) :
    ∃ (cs : List Value) (n : Nat), v = .agg cs.toArray ∧ cs.length = fs.size ∧ ∀ (i : Nat) (f : Field), fs[i]? = some f → ∃ u y, cs[i]? = some u ∧ DataW.trod enc P w base spare held n f.type [u] = some y := by
  obtain ⟨cs, n, hv, hl, hf⟩ := open_struct hs hv h
  refine ⟨cs, n, hv, hl.trans hC, fun i f hif => ?_⟩
  obtain ⟨o, c⟩ := hone_of hone i f hif
  obtain ⟨y, hy⟩ := hf i f hif
  have hi : i < cs.length := by rw [hl, hC]; exact (Array.getElem?_eq_some_iff.1 hif).1
  rw [o, c, take1_drop cs i hi] at hy
  exact ⟨_, y, List.getElem?_eq_getElem hi, hy⟩

/-- a struct among cells: each field's own reading -/
theorem open_fields {t : TypeId} {fs : Array Field} {fuel : Nat} {cs : List Value} {x : DataW H × List MemPlace} (hs : P.underlying t = some (.struct fs)) (h : DataW.trod enc P w base spare held fuel t cs = some x) :
    cs.length = P.cellsOf t ∧ ∃ n : Nat, ∀ (i : Nat) (f : Field), fs[i]? = some f → ∃ y, DataW.trod enc P w base spare held n f.type ((cs.drop f.offset).take (P.cellsOf f.type)) = some y := by
  obtain ⟨xs, n, _, _, hlen, hl, hg⟩ := DataW.trod_struct hs h
  refine ⟨hlen, n, fun i f hf => ?_⟩
  have hi : i < xs.length := by rw [hl]; exact (Array.getElem?_eq_some_iff.1 hf).1
  exact ⟨xs[i], by rw [hg i f hf, List.getElem?_eq_getElem hi]⟩

theorem open_fields1 {t : TypeId} {fs : Array Field} {fuel : Nat} {cs : List Value} {x : DataW H × List MemPlace} (hs : P.underlying t = some (.struct fs)) (hone : oneCellFields P fs = true) (hC : P.cellsOf t = fs.size)
    (h : DataW.trod enc P w base spare held fuel t cs = some x) :
    cs.length = fs.size ∧ ∃ n : Nat, ∀ (i : Nat) (f : Field), fs[i]? = some f → ∃ u y, cs[i]? = some u ∧ DataW.trod enc P w base spare held n f.type [u] = some y := by
  obtain ⟨hl, n, hf⟩ := open_fields hs h
  refine ⟨hl.trans hC, n, fun i f hif => ?_⟩
  obtain ⟨o, c⟩ := hone_of hone i f hif
  obtain ⟨y, hy⟩ := hf i f hif
  have hi : i < cs.length := by rw [hl, hC]; exact (Array.getElem?_eq_some_iff.1 hif).1
  rw [o, c, take1_drop cs i hi] at hy
  exact ⟨_, y, List.getElem?_eq_getElem hi, hy⟩

theorem field_int {fuel : Nat} {t : TypeId} {k : IntKind} {u : Value} {y : DataW H × List MemPlace} (ht : P.underlying t = some (.int k)) (h : DataW.trod enc P w base spare held fuel t [u] = some y) : ∃ a, u = .int k a ∧ (Lit.int k a).wf = true := by
  obtain ⟨a, e, _, hw⟩ := DataW.trod_int ht h
  simp at e
  exact ⟨a, e, hw⟩
end

theorem list2 {α : Type} {l : List α} (h : l.length = 2) : ∃ a b, l = [a, b] := by
  match l, h with
  | [a, b], _ => exact ⟨a, b, rfl⟩

/-- the points of a slice of points: Time and Way, two cells each -/
def PtsAt (w : World) (b off : Nat) (ps : List (Int × Int)) : Prop :=
  ∀ i (h : i < ps.length), w.cell? ⟨b, off + i * 2, none⟩ = some (.int .i64 ps[i].1) ∧ w.cell? ⟨b, off + i * 2 + 1, none⟩ = some (.int .i64 ps[i].2)

/-- a slice value whose elements are these points -/
def PtsV (w : World) (v : Value) (ps : List (Int × Int)) : Prop :=
  (ps = [] ∧ ∃ ao cap, v = .slice ao 0 cap) ∨ (ps ≠ [] ∧ ps.length ≤ 9223372036854775807 ∧ ∃ b off cap, v = .slice (some ⟨b, off, none⟩) ps.length cap ∧ b < w.heap.size ∧ PtsAt w b off ps)

/-- a curve's value -/
def CvV (w : World) (v : Value) (c : Cv) : Prop := ∃ p, v = .agg #[.int .i64 c.kind, p] ∧ PtsV w p c.pts

/-- integers that fit -/
def I64 (a : Int) : Prop := -9223372036854775808 ≤ a ∧ a ≤ 9223372036854775807
def CvFit (c : Cv) : Prop := I64 c.kind ∧ ∀ x ∈ c.pts, I64 x.1 ∧ I64 x.2

theorem i64_of_wf {a : Int} (h : (Lit.int .i64 a).wf = true) : I64 a := by
  simp [Lit.wf, IntKind.min, IntKind.max, IntKind.signed, IntKind.bits] at h
  unfold I64; omega

section
variable {H : Type} {enc : TypeId × Value → H} {w : World} {held : Bool}

set_option maxRecDepth 100000 in
theorem read_pts {fuel : Nat} {cs : List Value} {x : DataW H × List MemPlace} (h : DataW.trod enc Tryd.prog w 0 (fun _ => true) held fuel 29 cs = some x) :
    ∃ v ps, cs = [v] ∧ PtsV w v ps ∧ ∀ y ∈ ps, I64 y.1 ∧ I64 y.2 := by
  rcases open_slice Tryd.underlying29 h with ⟨rfl, _⟩ | ⟨a, len, cap, m, n, D, Pl, rfl, _, hl, hm, hmm, _, hx⟩
  · exact ⟨_, [], rfl, .inl ⟨rfl, none, 0, rfl⟩, by simp⟩
  · simp only [if_true] at hmm
    subst hmm
    have c2 : Tryd.prog.cellsOf 63 = 2 := by kernel_rfl
    have he : ∀ i, i < len → ∃ y : Int × Int, w.cell? (a.add (i * 2)) = some (.int .i64 y.1) ∧ w.cell? ((a.add (i * 2)).add 1) = some (.int .i64 y.2) ∧ I64 y.1 ∧ I64 y.2 := by
      intro i hi
      obtain ⟨cs', h1, h2⟩ := hx i (by omega)
      rw [c2] at h1
      obtain ⟨_, hcl, hat⟩ := World.cells?_some h1
      obtain ⟨_, n', hf⟩ := open_fields1 Tryd.underlying63 (by kernel_rfl) c2 h2
      obtain ⟨u, v, rfl⟩ := list2 hcl
      obtain ⟨u', y0, q0, k0⟩ := hf 0 _ rfl
      obtain ⟨v', y1, q1, k1⟩ := hf 1 _ rfl
      simp at q0 q1
      subst q0; subst q1
      obtain ⟨a0, rfl, w0⟩ := field_int Tryd.underlying3 k0
      obtain ⟨a1, rfl, w1⟩ := field_int Tryd.underlying3 k1
      refine ⟨(a0, a1), ?_, hat 1 (by omega), i64_of_wf w0, i64_of_wf w1⟩
      have := hat 0 (by omega)
      simpa [Addr.add] using this
    obtain ⟨Y, hY⟩ := choose_lt he
    have hps : ∀ i (h : i < ((List.range len).map Y).length), ((List.range len).map Y)[i] = Y i := by
      intro i h; simp
    refine ⟨_, (List.range len).map Y, rfl, ?_, ?_⟩
    · by_cases h0 : len = 0
      · subst h0
        exact .inl ⟨rfl, some a, m, rfl⟩
      · have hsp : a.spot = none := by
          have := World.cell?_spot (hY 0 (by omega)).1
          simpa [Addr.add] using this
        obtain ⟨b, off, spot⟩ := a
        simp only at hsp
        subst hsp
        refine .inr ⟨by simpa using h0, by simp; unfold maxLen at hm; omega, b, off, m, by simp, ?_, ?_⟩
        · have := World.block_lt_of_cell? w _ (hY 0 (by omega)).1
          simpa [Addr.add] using this
        · intro i h
          rw [hps i h]
          have hi : i < len := by simpa using h
          obtain ⟨h1, h2, _, _⟩ := hY i hi
          rw [add_plain] at h1
          rw [add_plain, add_plain] at h2
          exact ⟨h1, h2⟩
    · intro y hy
      simp at hy
      obtain ⟨i, hi, rfl⟩ := hy
      exact (hY i hi).2.2

set_option maxRecDepth 100000 in
/-- a curve that came in -/
theorem open_curve {r : Reach} {b0 : Nat} {v : Value} {d : DataW H} {p : List MemPlace} (hv : Value.okWide Tryd.prog w r b0 31 v) (h : DataW.Trod enc Tryd.prog w 0 (fun _ => true) held 31 v d p) :
    ∃ a : Value, v = a ∧ ∃ c, CvV w a c ∧ CvFit c := by
  obtain ⟨cs, n, rfl, hl, hf⟩ := open_struct1 Tryd.underlying31 (by kernel_rfl) (by kernel_rfl) hv h
  obtain ⟨u, v, rfl⟩ := list2 hl
  obtain ⟨u', y0, q0, k0⟩ := hf 0 _ rfl
  obtain ⟨v', y1, q1, k1⟩ := hf 1 _ rfl
  simp at q0 q1
  subst q0; subst q1
  obtain ⟨a0, rfl, w0⟩ := field_int Tryd.underlying3 k0
  obtain ⟨v', ps, e, hp, hi⟩ := read_pts k1
  simp at e
  subst e
  exact ⟨_, rfl, ⟨a0, ps⟩, ⟨_, rfl, hp⟩, i64_of_wf w0, hi⟩
end
end Go.Proofs.YtdicoggpcobbpaaDoor
