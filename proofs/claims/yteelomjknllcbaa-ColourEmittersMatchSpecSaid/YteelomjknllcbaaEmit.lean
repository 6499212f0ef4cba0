/- Slices of emitters as arguments. -/
import Derived.Test.YteelomjknllcbaaOpens
namespace Go.Proofs.Yteelomjknllcbaa
open Go.ChangeShapes Go.WideShapes Go.RowKit Go.Deep
set_option linter.unusedSimpArgs false
set_option linter.unusedVariables false

/-- an emitter: its name, and its colour -/
structure Emi where
  name : ByteArray
  r : Int
  g : Int
  b : Int
instance : Inhabited Emi := ⟨⟨ByteArray.empty, 0, 0, 0⟩⟩
/-- the cells of emitter i of a row -/
def EmiC (w : World) (b off : Nat) (x : Emi) : Prop :=
  w.cell? ⟨b, off, none⟩ = some (.string x.name) ∧ w.cell? ⟨b, off + 1, none⟩ = some (.int .i64 x.r) ∧ w.cell? ⟨b, off + 2, none⟩ = some (.int .i64 x.g) ∧ w.cell? ⟨b, off + 3, none⟩ = some (.int .i64 x.b)
def EmiFit (x : Emi) : Prop := x.name.size ≤ maxLen ∧ I64 x.r ∧ I64 x.g ∧ I64 x.b
/-- a slice value whose elements are these emitters, their cells below block B -/
def EmS (B : Nat) (w : World) (v : Value) (l : List Emi) : Prop :=
  ∃ ao cap, v = .slice ao l.length cap ∧ (l.length ≤ cap ∧ cap ≤ maxLen) ∧ (l ≠ [] → ∃ b off, ao = some ⟨b, off, none⟩ ∧ b < B ∧ ∀ i (h : i < l.length), EmiC w b (off + i * 4) l[i]) ∧ ∀ x ∈ l, EmiFit x

section
variable {H : Type} {enc : TypeId × Value → H} {w : World} {held : Bool}
theorem list4 {α : Type} {l : List α} (h : l.length = 4) : ∃ a b c d, l = [a, b, c, d] := by
  match l, h with
  | [a, b, c, d], _ => exact ⟨a, b, c, d, rfl⟩
set_option maxRecDepth 100000 in
theorem read_ems {fuel : Nat} {cs : List Value} {x : DataW H × List MemPlace} (h : DataW.trod enc Try.prog w 0 (fun _ => true) held fuel 35 cs = some x) :
    ∃ v l, cs = [v] ∧ EmS w.heap.size w v l := by
  rcases open_slice Try.underlying35 h with ⟨rfl, _⟩ | ⟨a, len, cap, m, n, D, Pl, rfl, _, hl, hm, hmm, _, hx⟩
  · exact ⟨_, [], rfl, none, 0, rfl, ⟨Nat.zero_le _, Nat.zero_le _⟩, fun h => absurd rfl h, by simp⟩
  · simp only [if_true] at hmm
    subst hmm
    have c4 : Try.prog.cellsOf 40 = 4 := by kernel_rfl
    have c3 : Try.prog.cellsOf 23 = 3 := by kernel_rfl
    have c1 : Try.prog.cellsOf 9 = 1 := by kernel_rfl
    have he : ∀ i, i < len → ∃ y : Emi, w.cell? (a.add (i * 4)) = some (.string y.name) ∧ w.cell? ((a.add (i * 4)).add 1) = some (.int .i64 y.r) ∧ w.cell? ((a.add (i * 4)).add 2) = some (.int .i64 y.g) ∧ w.cell? ((a.add (i * 4)).add 3) = some (.int .i64 y.b) ∧ EmiFit y := by
      intro i hi
      obtain ⟨cs', h1, h2⟩ := hx i (by omega)
      rw [c4] at h1
      obtain ⟨_, hcl, hat⟩ := World.cells?_some h1
      obtain ⟨_, n', hf⟩ := open_fields Try.underlying40 h2
      obtain ⟨u0, u1, u2, u3, rfl⟩ := list4 hcl
      obtain ⟨y0, k0⟩ := hf 0 _ rfl
      obtain ⟨y1, k1⟩ := hf 1 _ rfl
      simp only [List.getElem_toArray, List.getElem_cons_zero, List.getElem_cons_succ] at k0 k1
      rw [c1] at k0
      rw [c3] at k1
      obtain ⟨_, n2, hg⟩ := open_fields1 Try.underlying23 (by kernel_rfl) c3 k1
      obtain ⟨x1, z1, q1, m1⟩ := hg 0 _ rfl
      obtain ⟨x2, z2, q2, m2⟩ := hg 1 _ rfl
      obtain ⟨x3, z3, q3, m3⟩ := hg 2 _ rfl
      simp at q1 q2 q3
      subst q1 q2 q3
      obtain ⟨a1, rfl, w1⟩ := field_int Try.underlying3 m1
      obtain ⟨a2, rfl, w2⟩ := field_int Try.underlying3 m2
      obtain ⟨a3, rfl, w3⟩ := field_int Try.underlying3 m3
      obtain ⟨a0, e0, _, w0⟩ := DataW.trod_string Try.underlying9 k0
      simp at e0
      subst e0
      refine ⟨⟨a0, a1, a2, a3⟩, ?_, hat 1 (by omega), hat 2 (by omega), hat 3 (by omega), w0, i64_of_wf w1, i64_of_wf w2, i64_of_wf w3⟩
      have := hat 0 (by omega)
      simpa [Addr.add] using this
    obtain ⟨Y, hY⟩ := choose_lt he
    have hps : ∀ i (h : i < ((List.range len).map Y).length), ((List.range len).map Y)[i] = Y i := by
      intro i h; simp
    refine ⟨_, (List.range len).map Y, rfl, some a, m, by simp, ⟨by simp; omega, by omega⟩, fun hne => ?_, ?_⟩
    · have h0 : 0 < len := by
        rcases Nat.eq_zero_or_pos len with h0 | h0
        · subst h0; simp at hne
        · exact h0
      have hsp : a.spot = none := by
        have := World.cell?_spot (hY 0 h0).1
        simpa [Addr.add] using this
      obtain ⟨b, off, spot⟩ := a
      simp only at hsp
      subst hsp
      refine ⟨b, off, rfl, ?_, ?_⟩
      · have := World.block_lt_of_cell? w _ (hY 0 h0).1
        simpa [Addr.add] using this
      · intro i h
        rw [hps i h]
        have hi : i < len := by simpa using h
        obtain ⟨h1, h2, h3, h4, _⟩ := hY i hi
        rw [add_plain] at h1
        rw [add_plain, add_plain] at h2 h3 h4
        exact ⟨h1, h2, h3, h4⟩
    · intro y hy
      simp at hy
      obtain ⟨i, hi, rfl⟩ := hy
      exact (hY i hi).2.2.2.2
set_option maxRecDepth 100000 in
theorem open_emitters {r : Reach} {b0 : Nat} {v : Value} {d : DataW H} {p : List MemPlace} (_hv : Value.okWide Try.prog w r b0 35 v) (h : DataW.Trod enc Try.prog w 0 (fun _ => true) held 35 v d p) :
    ∃ a : Value, v = a ∧ ∃ l, EmS w.heap.size w a l := by
  obtain ⟨ao, len, cap, rfl⟩ := okWide_slice Try.underlying35 _hv
  obtain ⟨fuel, hf⟩ := h
  obtain ⟨v, l, e, hl⟩ := read_ems hf
  simp [Value.cells] at e
  subst e
  exact ⟨_, rfl, l, hl⟩
end
end Go.Proofs.Yteelomjknllcbaa
