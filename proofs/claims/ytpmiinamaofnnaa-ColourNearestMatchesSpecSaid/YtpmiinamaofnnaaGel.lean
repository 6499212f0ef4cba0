/- Slices of gels as arguments. (printed by wip/gen/gen_gel.py out of XEmit) -/
import Derived.Test.YtpmiinamaofnnaaOpens
namespace Go.Proofs.Ytpmiinamaofnnaa
open Go.ChangeShapes Go.WideShapes Go.RowKit Go.Deep
set_option linter.unusedSimpArgs false
set_option linter.unusedVariables false

/-- a gel: its number, its name, and its colour -/
structure Gel where
  n : Int
  name : ByteArray
  r : Int
  g : Int
  b : Int
instance : Inhabited Gel := ⟨⟨0, ByteArray.empty, 0, 0, 0⟩⟩
/-- the cells of gel i of a row -/
def GelC (w : World) (b off : Nat) (x : Gel) : Prop :=
  w.cell? ⟨b, off, none⟩ = some (.int .i64 x.n) ∧ w.cell? ⟨b, off + 1, none⟩ = some (.string x.name) ∧ w.cell? ⟨b, off + 2, none⟩ = some (.int .i64 x.r) ∧ w.cell? ⟨b, off + 3, none⟩ = some (.int .i64 x.g) ∧ w.cell? ⟨b, off + 4, none⟩ = some (.int .i64 x.b)
def GelFit (x : Gel) : Prop := x.name.size ≤ maxLen ∧ I64 x.n ∧ I64 x.r ∧ I64 x.g ∧ I64 x.b
/-- a slice value whose elements are these gels, their cells below block B -/
def GelS (B : Nat) (w : World) (v : Value) (l : List Gel) : Prop :=
  ∃ ao cap, v = .slice ao l.length cap ∧ (l.length ≤ cap ∧ cap ≤ maxLen) ∧ (l ≠ [] → ∃ b off, ao = some ⟨b, off, none⟩ ∧ b < B ∧ ∀ i (h : i < l.length), GelC w b (off + i * 5) l[i])

section
variable {H : Type} {enc : TypeId × Value → H} {w : World} {held : Bool}
theorem list5 {α : Type} {l : List α} (h : l.length = 5) : ∃ a b c d e, l = [a, b, c, d, e] := by
  match l, h with
  | [a, b, c, d, e], _ => exact ⟨a, b, c, d, e, rfl⟩
set_option maxRecDepth 100000 in
theorem read_gels {fuel : Nat} {cs : List Value} {x : DataW H × List MemPlace} (h : DataW.trod enc Try.prog w 0 (fun _ => true) held fuel 22 cs = some x) :
    ∃ v l, cs = [v] ∧ GelS w.heap.size w v l ∧ ∀ x ∈ l, GelFit x := by
  rcases open_slice Try.underlying22 h with ⟨rfl, _⟩ | ⟨a, len, cap, m, n, D, Pl, rfl, _, hl, hm, hmm, _, hx⟩
  · exact ⟨_, [], rfl, ⟨none, 0, rfl, ⟨Nat.zero_le _, Nat.zero_le _⟩, fun h => absurd rfl h⟩, by simp⟩
  · simp only [if_true] at hmm
    subst hmm
    have c5 : Try.prog.cellsOf 29 = 5 := by kernel_rfl
    have c3 : Try.prog.cellsOf 24 = 3 := by kernel_rfl
    have c1 : Try.prog.cellsOf 9 = 1 := by kernel_rfl
    have ci : Try.prog.cellsOf 3 = 1 := by kernel_rfl
    have he : ∀ i, i < len → ∃ y : Gel, w.cell? (a.add (i * 5)) = some (.int .i64 y.n) ∧ w.cell? ((a.add (i * 5)).add 1) = some (.string y.name) ∧ w.cell? ((a.add (i * 5)).add 2) = some (.int .i64 y.r) ∧ w.cell? ((a.add (i * 5)).add 3) = some (.int .i64 y.g) ∧ w.cell? ((a.add (i * 5)).add 4) = some (.int .i64 y.b) ∧ GelFit y := by
      intro i hi
      obtain ⟨cs', h1, h2⟩ := hx i (by omega)
      rw [c5] at h1
      obtain ⟨_, hcl, hat⟩ := World.cells?_some h1
      obtain ⟨_, n', hf⟩ := open_fields Try.underlying29 h2
      obtain ⟨u0, u1, u2, u3, u4, rfl⟩ := list5 hcl
      obtain ⟨y0, k0⟩ := hf 0 _ rfl
      obtain ⟨y1, k1⟩ := hf 1 _ rfl
      obtain ⟨y2, k2⟩ := hf 2 _ rfl
      simp only [List.getElem_toArray, List.getElem_cons_zero, List.getElem_cons_succ] at k0 k1 k2
      rw [ci] at k0
      rw [c1] at k1
      rw [c3] at k2
      obtain ⟨_, n2, hg⟩ := open_fields1 Try.underlying24 (by kernel_rfl) c3 k2
      obtain ⟨x1, z1, q1, m1⟩ := hg 0 _ rfl
      obtain ⟨x2, z2, q2, m2⟩ := hg 1 _ rfl
      obtain ⟨x3, z3, q3, m3⟩ := hg 2 _ rfl
      simp at q1 q2 q3
      subst q1 q2 q3
      obtain ⟨a1, rfl, w1⟩ := field_int Try.underlying3 m1
      obtain ⟨a2, rfl, w2⟩ := field_int Try.underlying3 m2
      obtain ⟨a3, rfl, w3⟩ := field_int Try.underlying3 m3
      obtain ⟨a0, e0, _, w0⟩ := DataW.trod_string Try.underlying9 k1
      simp at e0
      subst e0
      obtain ⟨an, rfl, wn⟩ := field_int Try.underlying3 k0
      refine ⟨⟨an, a0, a1, a2, a3⟩, ?_, hat 1 (by omega), hat 2 (by omega), hat 3 (by omega), hat 4 (by omega), w0, i64_of_wf wn, i64_of_wf w1, i64_of_wf w2, i64_of_wf w3⟩
      have := hat 0 (by omega)
      simpa [Addr.add] using this
    obtain ⟨Y, hY⟩ := choose_lt he
    have hps : ∀ i (h : i < ((List.range len).map Y).length), ((List.range len).map Y)[i] = Y i := by
      intro i h; simp
    refine ⟨_, (List.range len).map Y, rfl, ⟨some a, m, by simp, ⟨by simp; omega, by omega⟩, fun hne => ?_⟩, ?_⟩
    · have h0 : 0 < len := by
        rcases Nat.eq_zero_or_pos len with h0 | h0
        · subst h0; simp at hne
        · exact h0
      have hsp : a.spot = none := by
        have := World.cell?_spot (hY 0 h0).1
        simpa [Addr.add] using this
      obtain ⟨b, off, spot⟩ := a
      simp only at hsp
      subst hsp
      refine ⟨b, off, rfl, ?_, ?_⟩
      · have := World.block_lt_of_cell? w _ (hY 0 h0).1
        simpa [Addr.add] using this
      · intro i h
        rw [hps i h]
        have hi : i < len := by simpa using h
        obtain ⟨h1, h2, h3, h4, h5, _⟩ := hY i hi
        rw [add_plain] at h1
        rw [add_plain, add_plain] at h2 h3 h4 h5
        exact ⟨h1, h2, h3, h4, h5⟩
    · intro y hy
      simp at hy
      obtain ⟨i, hi, rfl⟩ := hy
      exact (hY i hi).2.2.2.2.2
set_option maxRecDepth 100000 in
theorem open_gels {r : Reach} {b0 : Nat} {v : Value} {d : DataW H} {p : List MemPlace} (_hv : Value.okWide Try.prog w r b0 22 v) (h : DataW.Trod enc Try.prog w 0 (fun _ => true) held 22 v d p) :
    ∃ a : Value, v = a ∧ ∃ l, GelS w.heap.size w a l ∧ ∀ x ∈ l, GelFit x := by
  obtain ⟨ao, len, cap, rfl⟩ := okWide_slice Try.underlying22 _hv
  obtain ⟨fuel, hf⟩ := h
  obtain ⟨v, l, e, hl⟩ := read_gels hf
  simp [Value.cells] at e
  subst e
  exact ⟨_, rfl, l, hl⟩
end
theorem GelS.below {B : Nat} {w w' : World} {v : Value} {l : List Gel} (h : GelS B w v l) (hb : Below B w w') : GelS B w' v l := by
  obtain ⟨ao, cap, rfl, h1, h2⟩ := h
  refine ⟨ao, cap, rfl, h1, fun hl => ?_⟩
  obtain ⟨b, off, rfl, h4, h5⟩ := h2 hl
  refine ⟨b, off, rfl, h4, fun i hi => ?_⟩
  obtain ⟨p0, p1, p2, p3, p4⟩ := h5 i hi
  exact ⟨(hb.cell h4).trans p0, (hb.cell h4).trans p1, (hb.cell h4).trans p2, (hb.cell h4).trans p3, (hb.cell h4).trans p4⟩
theorem GelS.more {B B' : Nat} {w : World} {v : Value} {l : List Gel} (h : GelS B w v l) (hB : B ≤ B') : GelS B' w v l := by
  obtain ⟨ao, cap, rfl, h1, h2⟩ := h
  refine ⟨ao, cap, rfl, h1, fun hl => ?_⟩
  obtain ⟨b, off, rfl, h4, h5⟩ := h2 hl
  exact ⟨b, off, rfl, Nat.lt_of_lt_of_le h4 hB, h5⟩
theorem GelS.nil (B : Nat) (w : World) : GelS B w (.slice none 0 0) [] := ⟨none, 0, rfl, ⟨Nat.le_refl _, Nat.zero_le _⟩, fun h => absurd rfl h⟩
theorem GelS.cells {B : Nat} {w : World} {v : Value} {l : List Gel} (h : GelS B w v l) : ∃ ao cap, v = .slice ao l.length cap ∧ l.length ≤ maxLen ∧ (l ≠ [] → ∃ b off, ao = some ⟨b, off, none⟩ ∧ b < B ∧ ∀ i (h : i < l.length), GelC w b (off + i * 5) l[i]) := by
  obtain ⟨ao, cap, rfl, h1, h2⟩ := h
  exact ⟨ao, cap, rfl, Nat.le_trans h1.1 h1.2, h2⟩
end Go.Proofs.Ytpmiinamaofnnaa
