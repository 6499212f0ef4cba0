/- Effects as arguments. -/
import Derived.Test.YtfidbdegggalmaaGreatDoorT66M01

namespace Go.Proofs.YtfidbdegggalmaaGreatDoor
open Go.ChangeShapes Go.WideShapes Go.RowKit Go.Deep
set_option linter.unusedSimpArgs false
set_option linter.unusedVariables false

/-- a step of an effect -/
structure Stp where
  lv : Int
  hold : Int
  fade : Int
instance : Inhabited Stp := ⟨⟨0, 0, 0⟩⟩
/-- an effect -/
structure Eff where
  form : Int
  low : Int
  high : Int
  cycle : Int
  width : Int
  spread : Int
  back : Bool
  rel : Bool
  steps : List Stp
/-- the cells of a step -/
def StpC (w : World) (b off : Nat) (x : Stp) : Prop :=
  w.cell? ⟨b, off, none⟩ = some (.int .i64 x.lv) ∧ w.cell? ⟨b, off + 1, none⟩ = some (.int .i64 x.hold) ∧ w.cell? ⟨b, off + 2, none⟩ = some (.int .i64 x.fade)
def StpFit (x : Stp) : Prop := I64 x.lv ∧ I64 x.hold ∧ I64 x.fade
/-- a slice value whose elements are these steps, their cells below block B -/
def StS (B : Nat) (w : World) (v : Value) (l : List Stp) : Prop :=
  ∃ ao cap, v = .slice ao l.length cap ∧ l.length ≤ maxLen ∧ (l ≠ [] → ∃ b off, ao = some ⟨b, off, none⟩ ∧ b < B ∧ ∀ i (h : i < l.length), StpC w b (off + i * 3) l[i])
def EffFit (x : Eff) : Prop := (I64 x.form ∧ I64 x.low ∧ I64 x.high ∧ I64 x.cycle ∧ I64 x.width ∧ I64 x.spread) ∧ ∀ s ∈ x.steps, StpFit s
/-- an effect's value, its steps' slice being sv -/
def effV (x : Eff) (sv : Value) : Value := .agg #[.int .i64 x.form, .int .i64 x.low, .int .i64 x.high, .int .i64 x.cycle, .int .i64 x.width, .int .i64 x.spread, .bool x.back, .bool x.rel, sv]

theorem StS.below {B : Nat} {w w' : World} {v : Value} {l : List Stp} (h : StS B w v l) (hb : Below B w w') : StS B w' v l := by
  obtain ⟨ao, cap, rfl, h1, h2⟩ := h
  refine ⟨ao, cap, rfl, h1, fun hne => ?_⟩
  obtain ⟨b, off, rfl, h3, h4⟩ := h2 hne
  refine ⟨b, off, rfl, h3, fun i hi => ?_⟩
  obtain ⟨c0, c1, c2⟩ := h4 i hi
  exact ⟨(hb.cell (p := ⟨b, off + i * 3, none⟩) h3).trans c0, (hb.cell (p := ⟨b, off + i * 3 + 1, none⟩) h3).trans c1, (hb.cell (p := ⟨b, off + i * 3 + 2, none⟩) h3).trans c2⟩
theorem StS.more {B B' : Nat} {w : World} {v : Value} {l : List Stp} (h : StS B w v l) (hB : B ≤ B') : StS B' w v l := by
  obtain ⟨ao, cap, rfl, h1, h2⟩ := h
  refine ⟨ao, cap, rfl, h1, fun hne => ?_⟩
  obtain ⟨b, off, rfl, h3, h4⟩ := h2 hne
  exact ⟨b, off, rfl, Nat.lt_of_lt_of_le h3 hB, h4⟩

section
variable {H : Type} {enc : TypeId × Value → H} {w : World} {held : Bool}
theorem slist3 {α : Type} {l : List α} (h : l.length = 3) : ∃ a b c, l = [a, b, c] := by
  match l, h with
  | [a, b, c], _ => exact ⟨a, b, c, rfl⟩
theorem slist9 {α : Type} {l : List α} (h : l.length = 9) : ∃ a b c d e f g i j, l = [a, b, c, d, e, f, g, i, j] := by
  match l, h with
  | [a, b, c, d, e, f, g, i, j], _ => exact ⟨a, b, c, d, e, f, g, i, j, rfl⟩
set_option maxRecDepth 100000 in
theorem read_steps {fuel : Nat} {cs : List Value} {x : DataW H × List MemPlace} (h : DataW.trod enc Tryz.prog w 0 (fun _ => true) held fuel 22 cs = some x) :
    ∃ v l, cs = [v] ∧ StS w.heap.size w v l ∧ ∀ s ∈ l, StpFit s := by
  rcases open_slice Tryz.underlying22 h with ⟨rfl, _⟩ | ⟨a, len, cap, m, n, D, Pl, rfl, _, hl, hm, hmm, _, hx⟩
  · exact ⟨_, [], rfl, ⟨none, 0, rfl, Nat.zero_le _, fun h => absurd rfl h⟩, by simp⟩
  · simp only [if_true] at hmm
    subst hmm
    have c3 : Tryz.prog.cellsOf 44 = 3 := by kernel_rfl
    have he : ∀ i, i < len → ∃ y : Stp, w.cell? (a.add (i * 3)) = some (.int .i64 y.lv) ∧ w.cell? ((a.add (i * 3)).add 1) = some (.int .i64 y.hold) ∧ w.cell? ((a.add (i * 3)).add 2) = some (.int .i64 y.fade) ∧ StpFit y := by
      intro i hi
      obtain ⟨cs', h1, h2⟩ := hx i (by omega)
      rw [c3] at h1
      obtain ⟨_, hcl, hat⟩ := World.cells?_some h1
      obtain ⟨_, n', hf⟩ := open_fields1 Tryz.underlying44 (by kernel_rfl) c3 h2
      obtain ⟨u0, u1, u2, rfl⟩ := slist3 hcl
      obtain ⟨x1, z1, q1, m1⟩ := hf 0 _ rfl
      obtain ⟨x2, z2, q2, m2⟩ := hf 1 _ rfl
      obtain ⟨x3, z3, q3, m3⟩ := hf 2 _ rfl
      simp at q1 q2 q3
      subst q1 q2 q3
      obtain ⟨a1, rfl, w1⟩ := field_int Tryz.underlying3 m1
      obtain ⟨a2, rfl, w2⟩ := field_int Tryz.underlying3 m2
      obtain ⟨a3, rfl, w3⟩ := field_int Tryz.underlying3 m3
      refine ⟨⟨a1, a2, a3⟩, ?_, hat 1 (by omega), hat 2 (by omega), i64_of_wf w1, i64_of_wf w2, i64_of_wf w3⟩
      have := hat 0 (by omega)
      simpa [Addr.add] using this
    obtain ⟨Y, hY⟩ := choose_lt he
    have hps : ∀ i (h : i < ((List.range len).map Y).length), ((List.range len).map Y)[i] = Y i := by
      intro i h; simp
    refine ⟨_, (List.range len).map Y, rfl, ⟨some a, m, by simp, by simp; omega, fun hne => ?_⟩, ?_⟩
    · have h0 : 0 < len := by
        rcases Nat.eq_zero_or_pos len with h0 | h0
        · subst h0; simp at hne
        · exact h0
      have hsp : a.spot = none := by
        have := World.cell?_spot (hY 0 h0).1
        simpa [Addr.add] using this
      obtain ⟨b, off, spot⟩ := a
      simp only at hsp
      subst hsp
      refine ⟨b, off, rfl, ?_, ?_⟩
      · have := World.block_lt_of_cell? w _ (hY 0 h0).1
        simpa [Addr.add] using this
      · intro i h
        rw [hps i h]
        have hi : i < len := by simpa using h
        obtain ⟨h1, h2, h3, _⟩ := hY i hi
        rw [add_plain] at h1
        rw [add_plain, add_plain] at h2 h3
        exact ⟨h1, h2, h3⟩
    · intro y hy
      simp at hy
      obtain ⟨i, hi, rfl⟩ := hy
      exact (hY i hi).2.2.2
/-- an effect as an argument -/
def EfV (w : World) (v : Value) : Prop := ∃ (x : Eff) (sv : Value), v = effV x sv ∧ StS w.heap.size w sv x.steps ∧ EffFit x
set_option maxRecDepth 100000 in
theorem open_effect {r : Reach} {b0 : Nat} {v : Value} {d : DataW H} {p : List MemPlace} (hv : Value.okWide Tryz.prog w r b0 24 v) (h : DataW.Trod enc Tryz.prog w 0 (fun _ => true) held 24 v d p) :
    ∃ a : Value, v = a ∧ EfV w a := by
  obtain ⟨cs, n, rfl, hl, hf⟩ := open_struct1 Tryz.underlying24 (by kernel_rfl) (by kernel_rfl) hv h
  obtain ⟨u0, u1, u2, u3, u4, u5, u6, u7, u8, rfl⟩ := slist9 hl
  obtain ⟨x0, y0, q0, k0⟩ := hf 0 _ rfl
  obtain ⟨x1, y1, q1, k1⟩ := hf 1 _ rfl
  obtain ⟨x2, y2, q2, k2⟩ := hf 2 _ rfl
  obtain ⟨x3, y3, q3, k3⟩ := hf 3 _ rfl
  obtain ⟨x4, y4, q4, k4⟩ := hf 4 _ rfl
  obtain ⟨x5, y5, q5, k5⟩ := hf 5 _ rfl
  obtain ⟨x6, y6, q6, k6⟩ := hf 6 _ rfl
  obtain ⟨x7, y7, q7, k7⟩ := hf 7 _ rfl
  obtain ⟨x8, y8, q8, k8⟩ := hf 8 _ rfl
  simp at q0 q1 q2 q3 q4 q5 q6 q7 q8
  subst q0 q1 q2 q3 q4 q5 q6 q7 q8
  obtain ⟨a0, rfl, w0⟩ := field_int Tryz.underlying3 k0
  obtain ⟨a1, rfl, w1⟩ := field_int Tryz.underlying3 k1
  obtain ⟨a2, rfl, w2⟩ := field_int Tryz.underlying3 k2
  obtain ⟨a3, rfl, w3⟩ := field_int Tryz.underlying3 k3
  obtain ⟨a4, rfl, w4⟩ := field_int Tryz.underlying3 k4
  obtain ⟨a5, rfl, w5⟩ := field_int Tryz.underlying3 k5
  obtain ⟨a6, e6, _⟩ := DataW.trod_bool Tryz.underlying4 k6
  simp at e6
  subst e6
  obtain ⟨a7, e7, _⟩ := DataW.trod_bool Tryz.underlying4 k7
  simp at e7
  subst e7
  obtain ⟨v8, l8, e8, h8, f8⟩ := read_steps k8
  simp at e8
  subst e8
  exact ⟨_, rfl, ⟨a0, a1, a2, a3, a4, a5, a6, a7, l8⟩, _, rfl, h8, ⟨i64_of_wf w0, i64_of_wf w1, i64_of_wf w2, i64_of_wf w3, i64_of_wf w4, i64_of_wf w5⟩, f8⟩
end
end Go.Proofs.YtfidbdegggalmaaGreatDoor
