/- Boxes known by their block and type; what changes rows and boxes of one type leaves those of others. No program in it. Libraries, rigs, settings, frames as arguments. -/
import Derived.Test.YtppbagllhmeenaaGreatDoorT68M15
import Derived.Laws.AppendOwn
import Derived.Test.YtppbagllhmeenaaGreatDoorT68M17

namespace Go.Proofs.YtppbagllhmeenaaGreatDoor
open Go.RowKit
set_option linter.unusedVariables false
set_option linter.unusedSimpArgs false

/-- block b of W holds these cells, of this type -/
def TBox (W : World) (b : Nat) (T : TypeId) (cs : Array Value) : Prop := W.heap[b]? = some (.cells cs T)
theorem TBox.new (w : World) (cs : Array Value) (T : TypeId) : TBox (w.alloc (.cells cs T)) w.heap.size T cs := heap_alloc_new w _
theorem TBox.lt {W : World} {b : Nat} {T : TypeId} {cs : Array Value} (h : TBox W b T cs) : b < W.heap.size := by
  unfold TBox at h
  by_cases c : b < W.heap.size
  · exact c
  · rw [Array.getElem?_eq_none (by omega)] at h; cases h
theorem TBox.below {W W' : World} {b : Nat} {T : TypeId} {cs : Array Value} (h : TBox W b T cs) (hb : Below W.heap.size W W') : TBox W' b T cs := (hb.block b h.lt).trans h
theorem TBox.alloc {W : World} {b : Nat} {T : TypeId} {cs : Array Value} (h : TBox W b T cs) (o : Obj) : TBox (W.alloc o) b T cs := h.below ((Below.refl _ _).alloc (Nat.le_refl _) o)
theorem TBox.cell {W : World} {b i : Nat} {T : TypeId} {cs : Array Value} {v : Value} (h : TBox W b T cs) (hi : cs[i]? = some v) : W.cell? ⟨b, i, none⟩ = some v := by
  unfold TBox at h
  simp [World.cell?, h, hi]
theorem TBox.set {W : World} {b : Nat} {T : TypeId} {cs : Array Value} (h : TBox W b T cs) (i : Nat) (v : Value) : TBox (W.setCell ⟨b, i, none⟩ v) b T (cs.setIfInBounds i v) := by
  unfold TBox at *
  exact heap_setCell_same W b i cs T v h
theorem TBox.frozen {W : World} {b : Nat} {T : TypeId} {cs : Array Value} (h : TBox W b T cs) (i : Nat) : W.frozen? ⟨b, i, none⟩ = false := frozen_of_row W b i cs T h
/-- rows of other types grow, or boxes of other types are written: these rows stay -/
def Other (w w' : World) (T' : TypeId) : Prop := ∃ r, w.grownBy w' r ∧ ∀ g, r = some g → ∃ cs fz, w.heap[g]? = some (.cells cs T' fz)
theorem Other.row {w w' : World} {T' : TypeId} {base s n : Nat} {v : Value} {xs : List Value} (h : w.ownsRow base T' s v n xs) (hg : w.grownBy w' v.ownBlock) : Other w w' T' := by
  refine ⟨_, hg, fun g hgg => ?_⟩
  rcases h.2 with ⟨rfl, _⟩ | ⟨g', cap, cur, rfl, _, h1, _⟩
  · simp [Value.ownBlock] at hgg
  · simp [Value.ownBlock] at hgg
    subst hgg
    exact ⟨_, _, h1⟩
theorem Other.box {w : World} {T' : TypeId} {b i : Nat} {cs : Array Value} (h : TBox w b T' cs) (v : Value) : Other w (w.setCell ⟨b, i, none⟩ v) T' :=
  ⟨some b, ⟨rfl, rfl, rfl, by simp, fun k _ hne => heap_setCell_other w ⟨b, i, none⟩ k v (fun e => hne (by simp [e]))⟩, fun g hg => by cases hg; exact ⟨_, _, h⟩⟩
theorem Other.own {w w' : World} {T' : TypeId} (h : Other w w' T') {base s n : Nat} {T : TypeId} {v : Value} {xs : List Value} (ho : w.ownsRow base T s v n xs) (hT : T ≠ T') : w'.ownsRow base T s v n xs := by
  obtain ⟨r, hg, hr⟩ := h
  refine ho.kept hg ?_
  rcases ho.2 with ⟨rfl, _⟩ | ⟨g, cap, cur, rfl, _, h1, _⟩
  · exact .inl rfl
  · refine .inr ?_
    cases r with
    | none => simp [Value.ownBlock]
    | some g' =>
      obtain ⟨cs, fz, h2⟩ := hr g' rfl
      simp only [Value.ownBlock, ne_eq, Option.some.injEq]
      intro e
      subst e
      rw [h1] at h2
      injection h2 with h2
      injection h2 with _ h3
      exact hT h3
theorem Other.tbox {w w' : World} {T' T : TypeId} (h : Other w w' T') {b : Nat} {cs : Array Value} (ho : TBox w b T cs) (hT : T ≠ T') : TBox w' b T cs := by
  obtain ⟨r, hg, hr⟩ := h
  refine (hg.block b ho.lt ?_).trans ho
  intro e
  obtain ⟨cs', fz, h2⟩ := hr b e.symm
  unfold TBox at ho
  rw [ho] at h2
  injection h2 with h2
  injection h2 with _ h3
  exact hT h3
theorem Other.size {w w' : World} {T' : TypeId} (h : Other w w' T') : w.heap.size ≤ w'.heap.size := by
  obtain ⟨r, hg, _⟩ := h
  exact hg.size
theorem Other.refl (w : World) (T : TypeId) : Other w w T := ⟨none, ⟨rfl, rfl, rfl, Nat.le_refl _, fun _ _ _ => rfl⟩, by simp⟩
theorem TBox.setOther {W : World} {b b' i : Nat} {T : TypeId} {cs : Array Value} (h : TBox W b T cs) (hb : b ≠ b') (v : Value) : TBox (W.setCell ⟨b', i, none⟩ v) b T cs := (Below.heap_setCell W ⟨b', i, none⟩ v b (by simpa using hb)).trans h
end Go.Proofs.YtppbagllhmeenaaGreatDoor

namespace Go.Proofs.YtppbagllhmeenaaGreatDoor
open Go.ChangeShapes Go.WideShapes Go.RowKit Go.Deep
set_option linter.unusedSimpArgs false
set_option linter.unusedVariables false

section
variable {H : Type} {enc : TypeId × Value → H} {P : Program} {w : World} {held : Bool}
/-- a slice of records: each element's cells are those of some record that reads so -/
theorem read_rows {β : Type} [Inhabited β] {SL E : TypeId} {n : Nat} (f : β → List Value) (Good : β → Prop) (hn : ∀ y, (f y).length = n) (hn0 : 0 < n) (hSL : P.underlying SL = some (.slice E)) (hc : P.cellsOf E = n)
    (elem : ∀ fuel cs x, DataW.trod enc P w 0 (fun _ => true) held fuel E cs = some x → ∃ y, cs = f y ∧ Good y)
    {fuel : Nat} {cs : List Value} {x : DataW H × List MemPlace} (h : DataW.trod enc P w 0 (fun _ => true) held fuel SL cs = some x) :
    ∃ (v : Value) (l : List β), cs = [v] ∧ CellsS w.heap.size w v l.length (l.flatMap f) ∧ ∀ y ∈ l, Good y := by
  rcases open_slice hSL h with ⟨rfl, _⟩ | ⟨a, len, cap, m, nn, D, Pl, rfl, _, hl, hm, hmm, _, hx⟩
  · exact ⟨_, [], rfl, CellsS.nil _ _, by simp⟩
  · simp only [if_true] at hmm
    subst hmm
    have he : ∀ i, i < len → ∃ y : β, (∀ j, j < n → w.cell? ((a.add (i * n)).add j) = (f y)[j]?) ∧ Good y := by
      intro i hi
      obtain ⟨cs', h1, h2⟩ := hx i (by omega)
      rw [hc] at h1
      obtain ⟨_, hcl, hat⟩ := World.cells?_some h1
      obtain ⟨y, rfl, hy⟩ := elem _ _ _ h2
      exact ⟨y, hat, hy⟩
    obtain ⟨Y, hY⟩ := choose_lt he
    refine ⟨_, (List.range len).map Y, rfl, ⟨some a, m, by simp, by simpa using hl, hm, fun hpos => ?_⟩, ?_⟩
    · have h0 : 0 < len := by simpa using hpos
      have hc0 : ∃ u, w.cell? ((a.add (0 * n)).add 0) = some u := by
        rw [(hY 0 h0).1 0 hn0]
        exact ⟨_, List.getElem?_eq_getElem (by rw [hn]; exact hn0)⟩
      obtain ⟨u0, hu0⟩ := hc0
      have hsp : a.spot = none := by
        have := World.cell?_spot hu0
        simpa [Addr.add] using this
      obtain ⟨b, off, spot⟩ := a
      simp only at hsp
      subst hsp
      refine ⟨b, off, rfl, ?_, fun j u hu => ?_⟩
      · have := World.block_lt_of_cell? w _ hu0
        simpa [Addr.add] using this
      · have hj : j < (((List.range len).map Y).flatMap f).length := (List.getElem?_eq_some_iff.1 hu).1
        rw [flat_len f n hn] at hj
        simp only [List.length_map, List.length_range] at hj
        have hi : j / n < len := Nat.div_lt_of_lt_mul (by rw [Nat.mul_comm]; exact hj)
        have hr : j % n < n := Nat.mod_lt _ hn0
        have hjj : j = j / n * n + j % n := by rw [Nat.mul_comm]; exact (Nat.div_add_mod j n).symm
        rw [hjj, flat_get f n hn ((List.range len).map Y) (j / n) (by simpa using hi) (j % n) hr] at hu
        have h1 := (hY (j / n) hi).1 (j % n) hr
        rw [addr_plus, addr_plus] at h1
        simp only [List.getElem_map, List.getElem_range] at hu
        rw [hu] at h1
        rw [hjj]
        rw [Nat.add_assoc] at h1
        exact h1
    · intro y hy
      simp at hy
      obtain ⟨i, hi, rfl⟩ := hy
      exact (hY i hi).2
theorem list7 {α : Type} {l : List α} (h : l.length = 7) : ∃ a b c d e f g, l = [a, b, c, d, e, f, g] := by
  match l, h with
  | [a, b, c, d, e, f, g], _ => exact ⟨a, b, c, d, e, f, g, rfl⟩
theorem list4 {α : Type} {l : List α} (h : l.length = 4) : ∃ a b c d, l = [a, b, c, d] := by
  match l, h with
  | [a, b, c, d], _ => exact ⟨a, b, c, d, rfl⟩
theorem list3' {α : Type} {l : List α} (h : l.length = 3) : ∃ a b c, l = [a, b, c] := by
  match l, h with
  | [a, b, c], _ => exact ⟨a, b, c, rfl⟩
theorem field_string {fuel : Nat} {t : TypeId} {u : Value} {y : DataW H × List MemPlace} (ht : P.underlying t = some .string) (h : DataW.trod enc P w 0 (fun _ => true) held fuel t [u] = some y) : ∃ s : ByteArray, u = .string s ∧ s.size ≤ maxLen := by
  obtain ⟨a2, e2, _, w2⟩ := DataW.trod_string ht h
  simp at e2
  exact ⟨a2, e2, w2⟩
theorem field_bool {fuel : Nat} {t : TypeId} {u : Value} {y : DataW H × List MemPlace} (ht : P.underlying t = some .bool) (h : DataW.trod enc P w 0 (fun _ => true) held fuel t [u] = some y) : ∃ s : Bool, u = .bool s := by
  obtain ⟨a2, e2, _⟩ := DataW.trod_bool ht h
  simp at e2
  exact ⟨a2, e2⟩
end
instance : Inhabited Rng := ⟨⟨0, 0, ByteArray.empty⟩⟩
instance : Inhabited Par := ⟨⟨ByteArray.empty, 0, 0, 0, 0, false, []⟩⟩
instance : Inhabited Prf := ⟨⟨ByteArray.empty, 0, []⟩⟩
instance : Inhabited Unt := ⟨⟨0, ByteArray.empty, 0, 0⟩⟩

section
variable {H : Type} {enc : TypeId × Value → H} {w : World} {held : Bool}
set_option maxRecDepth 100000 in
theorem read_range {fuel : Nat} {cs : List Value} {x : DataW H × List MemPlace} (h : DataW.trod enc Tryz.prog w 0 (fun _ => true) held fuel 75 cs = some x) :
    ∃ y : Rng, cs = rngC y ∧ RngFit y := by
  have hc : Tryz.prog.cellsOf 75 = 3 := by kernel_rfl
  obtain ⟨hl, n, hf⟩ := open_fields1 Tryz.underlying75 (by kernel_rfl) hc h
  obtain ⟨u0, u1, u2, rfl⟩ := list3' hl
  obtain ⟨x0, y0, q0, k0⟩ := hf 0 _ rfl
  obtain ⟨x1, y1, q1, k1⟩ := hf 1 _ rfl
  obtain ⟨x2, y2, q2, k2⟩ := hf 2 _ rfl
  simp at q0 q1 q2
  subst q0 q1 q2
  obtain ⟨a0, rfl, w0⟩ := field_int Tryz.underlying3 k0
  obtain ⟨a1, rfl, w1⟩ := field_int Tryz.underlying3 k1
  obtain ⟨a2, rfl, w2⟩ := field_string Tryz.underlying9 k2
  exact ⟨⟨a0, a1, a2⟩, rfl, i64_of_wf w0, i64_of_wf w1, w2⟩
set_option maxRecDepth 100000 in
theorem read_param {fuel : Nat} {cs : List Value} {x : DataW H × List MemPlace} (h : DataW.trod enc Tryz.prog w 0 (fun _ => true) held fuel 73 cs = some x) :
    ∃ y : Par × Value, cs = parC y ∧ RngS w.heap.size w y.2 y.1.rngs ∧ ParFit y.1 := by
  have hc : Tryz.prog.cellsOf 73 = 7 := by kernel_rfl
  obtain ⟨hl, n, hf⟩ := open_fields1 Tryz.underlying73 (by kernel_rfl) hc h
  obtain ⟨u0, u1, u2, u3, u4, u5, u6, rfl⟩ := list7 hl
  obtain ⟨x0, y0, q0, k0⟩ := hf 0 _ rfl
  obtain ⟨x1, y1, q1, k1⟩ := hf 1 _ rfl
  obtain ⟨x2, y2, q2, k2⟩ := hf 2 _ rfl
  obtain ⟨x3, y3, q3, k3⟩ := hf 3 _ rfl
  obtain ⟨x4, y4, q4, k4⟩ := hf 4 _ rfl
  obtain ⟨x5, y5, q5, k5⟩ := hf 5 _ rfl
  obtain ⟨x6, y6, q6, k6⟩ := hf 6 _ rfl
  simp at q0 q1 q2 q3 q4 q5 q6
  subst q0 q1 q2 q3 q4 q5 q6
  obtain ⟨a0, rfl, w0⟩ := field_string Tryz.underlying9 k0
  obtain ⟨a1, rfl, w1⟩ := field_int Tryz.underlying3 k1
  obtain ⟨a2, rfl, w2⟩ := field_int Tryz.underlying3 k2
  obtain ⟨a3, rfl, w3⟩ := field_int Tryz.underlying3 k3
  obtain ⟨a4, rfl, w4⟩ := field_int Tryz.underlying3 k4
  obtain ⟨a5, rfl⟩ := field_bool Tryz.underlying4 k5
  obtain ⟨v, l, e, h1, h2⟩ := read_rows (n := 3) rngC RngFit (fun _ => rfl) (by omega) Tryz.underlying71 (by kernel_rfl) (fun _ _ _ h => read_range h) k6
  simp at e
  subst e
  exact ⟨(⟨a0, a1, a2, a3, a4, a5, l⟩, _), rfl, h1, i64_of_wf w1, i64_of_wf w2, i64_of_wf w3, i64_of_wf w4, w0, h2⟩
set_option maxRecDepth 100000 in
theorem read_params {fuel : Nat} {cs : List Value} {x : DataW H × List MemPlace} (h : DataW.trod enc Tryz.prog w 0 (fun _ => true) held fuel 68 cs = some x) :
    ∃ v l, cs = [v] ∧ ParS w.heap.size w v l ∧ ∀ y ∈ l, ParFit y := by
  obtain ⟨v, l, e, h1, h2⟩ := read_rows (n := 7) parC (fun y => RngS w.heap.size w y.2 y.1.rngs ∧ ParFit y.1) (fun _ => rfl) (by omega) Tryz.underlying68 (by kernel_rfl) (fun _ _ _ h => read_param h) h
  refine ⟨v, l.map (·.1), e, ⟨l, rfl, h1, fun y hy => (h2 y hy).1⟩, fun y hy => ?_⟩
  obtain ⟨z, hz, rfl⟩ := List.mem_map.1 hy
  exact (h2 z hz).2
set_option maxRecDepth 100000 in
theorem read_profile {fuel : Nat} {cs : List Value} {x : DataW H × List MemPlace} (h : DataW.trod enc Tryz.prog w 0 (fun _ => true) held fuel 70 cs = some x) :
    ∃ y : Prf × Value, cs = prfC y ∧ ParS w.heap.size w y.2 y.1.pars ∧ PrfFit y.1 := by
  have hc : Tryz.prog.cellsOf 70 = 3 := by kernel_rfl
  obtain ⟨hl, n, hf⟩ := open_fields1 Tryz.underlying70 (by kernel_rfl) hc h
  obtain ⟨u0, u1, u2, rfl⟩ := list3' hl
  obtain ⟨x0, y0, q0, k0⟩ := hf 0 _ rfl
  obtain ⟨x1, y1, q1, k1⟩ := hf 1 _ rfl
  obtain ⟨x2, y2, q2, k2⟩ := hf 2 _ rfl
  simp at q0 q1 q2
  subst q0 q1 q2
  obtain ⟨a0, rfl, w0⟩ := field_string Tryz.underlying9 k0
  obtain ⟨a1, rfl, w1⟩ := field_int Tryz.underlying3 k1
  obtain ⟨v, l, e, h1, h2⟩ := read_params k2
  simp at e
  subst e
  exact ⟨(⟨a0, a1, l⟩, _), rfl, h1, i64_of_wf w1, w0, h2⟩
set_option maxRecDepth 100000 in
theorem read_profiles {fuel : Nat} {cs : List Value} {x : DataW H × List MemPlace} (h : DataW.trod enc Tryz.prog w 0 (fun _ => true) held fuel 22 cs = some x) :
    ∃ v l, cs = [v] ∧ PrfS w.heap.size w v l ∧ ∀ y ∈ l, PrfFit y := by
  obtain ⟨v, l, e, h1, h2⟩ := read_rows (n := 3) prfC (fun y => ParS w.heap.size w y.2 y.1.pars ∧ PrfFit y.1) (fun _ => rfl) (by omega) Tryz.underlying22 (by kernel_rfl) (fun _ _ _ h => read_profile h) h
  refine ⟨v, l.map (·.1), e, ⟨l, rfl, h1, fun y hy => (h2 y hy).1⟩, fun y hy => ?_⟩
  obtain ⟨z, hz, rfl⟩ := List.mem_map.1 hy
  exact (h2 z hz).2
set_option maxRecDepth 100000 in
theorem read_unit {fuel : Nat} {cs : List Value} {x : DataW H × List MemPlace} (h : DataW.trod enc Tryz.prog w 0 (fun _ => true) held fuel 51 cs = some x) :
    ∃ y : Unt, cs = untC y ∧ UntFit y := by
  have hc : Tryz.prog.cellsOf 51 = 4 := by kernel_rfl
  obtain ⟨hl, n, hf⟩ := open_fields1 Tryz.underlying51 (by kernel_rfl) hc h
  obtain ⟨u0, u1, u2, u3, rfl⟩ := list4 hl
  obtain ⟨x0, y0, q0, k0⟩ := hf 0 _ rfl
  obtain ⟨x1, y1, q1, k1⟩ := hf 1 _ rfl
  obtain ⟨x2, y2, q2, k2⟩ := hf 2 _ rfl
  obtain ⟨x3, y3, q3, k3⟩ := hf 3 _ rfl
  simp at q0 q1 q2 q3
  subst q0 q1 q2 q3
  obtain ⟨a0, rfl, w0⟩ := field_int Tryz.underlying3 k0
  obtain ⟨a1, rfl, w1⟩ := field_string Tryz.underlying9 k1
  obtain ⟨a2, rfl, w2⟩ := field_int Tryz.underlying3 k2
  obtain ⟨a3, rfl, w3⟩ := field_int Tryz.underlying3 k3
  exact ⟨⟨a0, a1, a2, a3⟩, rfl, i64_of_wf w0, i64_of_wf w2, i64_of_wf w3, w1⟩
set_option maxRecDepth 100000 in
theorem read_units {fuel : Nat} {cs : List Value} {x : DataW H × List MemPlace} (h : DataW.trod enc Tryz.prog w 0 (fun _ => true) held fuel 23 cs = some x) :
    ∃ v l, cs = [v] ∧ UntS w.heap.size w v l ∧ ∀ y ∈ l, UntFit y := read_rows (n := 4) untC UntFit (fun _ => rfl) (by omega) Tryz.underlying23 (by kernel_rfl) (fun _ _ _ h => read_unit h) h
/-- a library as an argument -/
def LibV (w : World) (v : Value) : Prop := ∃ l : List Prf, PrfS w.heap.size w v l ∧ ∀ p ∈ l, PrfFit p
set_option maxRecDepth 100000 in
theorem open_library {r : Reach} {b0 : Nat} {v : Value} {d : DataW H} {p : List MemPlace} (hv : Value.okWide Tryz.prog w r b0 22 v) (h : DataW.Trod enc Tryz.prog w 0 (fun _ => true) held 22 v d p) :
    ∃ a : Value, v = a ∧ LibV w a := by
  obtain ⟨ao, len, cap, rfl⟩ := okWide_slice Tryz.underlying22 hv
  obtain ⟨fuel, hf⟩ := h
  obtain ⟨v, l, e, hl⟩ := read_profiles hf
  simp [Value.cells] at e
  subst e
  exact ⟨_, rfl, l, hl⟩
/-- a rig's value -/
def rigV (lv uv : Value) : Value := .agg #[lv, uv]
structure RigAt (B : Nat) (w : World) (x : Rig) (lv uv : Value) : Prop where
  lib : PrfS B w lv x.lib
  units : UntS B w uv x.units
theorem RigAt.below {B : Nat} {w w' : World} {x : Rig} {lv uv : Value} (h : RigAt B w x lv uv) (hb : Below B w w') : RigAt B w' x lv uv := ⟨h.lib.below hb, h.units.below hb⟩
theorem RigAt.more {B B' : Nat} {w : World} {x : Rig} {lv uv : Value} (h : RigAt B w x lv uv) (hB : B ≤ B') : RigAt B' w x lv uv := ⟨h.lib.more hB, h.units.more hB⟩
/-- a rig as an argument -/
def RigW (w : World) (v : Value) : Prop := ∃ (x : Rig) (lv uv : Value), v = rigV lv uv ∧ RigAt w.heap.size w x lv uv ∧ RigFit x
set_option maxRecDepth 100000 in
theorem open_rig {r : Reach} {b0 : Nat} {v : Value} {d : DataW H} {p : List MemPlace} (hv : Value.okWide Tryz.prog w r b0 25 v) (h : DataW.Trod enc Tryz.prog w 0 (fun _ => true) held 25 v d p) :
    ∃ a : Value, v = a ∧ RigW w a := by
  obtain ⟨cs, n, rfl, hl, hf⟩ := open_struct1 Tryz.underlying25 (by kernel_rfl) (by kernel_rfl) hv h
  obtain ⟨u0, u1, rfl⟩ := list2 hl
  obtain ⟨x0, y0, q0, k0⟩ := hf 0 _ rfl
  obtain ⟨x1, y1, q1, k1⟩ := hf 1 _ rfl
  simp at q0 q1
  subst q0 q1
  obtain ⟨v0, l0, e0, h0, f0⟩ := read_profiles k0
  simp at e0
  subst e0
  obtain ⟨v1, l1, e1, h1, f1⟩ := read_units k1
  simp at e1
  subst e1
  exact ⟨_, rfl, ⟨l0, l1⟩, _, _, rfl, ⟨h0, h1⟩, f0, f1⟩
end
end Go.Proofs.YtppbagllhmeenaaGreatDoor
