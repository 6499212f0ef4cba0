/- Libraries, rigs, settings, frames as arguments. A map of the call's own whose elements are bools, as the list of the keys that are in it. No program in it. -/
import Derived.Test.YtppbagllhmeenaaGreatDoorT67M09
import Derived.Maps.OwnOps
import Derived.Maps.OwnSet
import Derived.Maps.Own
import Derived.Maps.Views
import Derived.Below

namespace Go.Proofs.YtppbagllhmeenaaGreatDoor
open Go.ChangeShapes Go.WideShapes Go.RowKit Go.Deep
set_option linter.unusedSimpArgs false
set_option linter.unusedVariables false

section
variable {H : Type} {enc : TypeId × Value → H} {P : Program} {w : World} {held : Bool}
/-- a slice of records: each element's cells are those of some record that reads so -/
theorem read_rows {β : Type} [Inhabited β] {SL E : TypeId} {n : Nat} (f : β → List Value) (Good : β → Prop) (hn : ∀ y, (f y).length = n) (hn0 : 0 < n) (hSL : P.underlying SL = some (.slice E)) (hc : P.cellsOf E = n)
    (elem : ∀ fuel cs x, DataW.trod enc P w 0 (fun _ => true) held fuel E cs = some x → ∃ y, cs = f y ∧ Good y)
    {fuel : Nat} {cs : List Value} {x : DataW H × List MemPlace} (h : DataW.trod enc P w 0 (fun _ => true) held fuel SL cs = some x) :
    ∃ (v : Value) (l : List β), cs = [v] ∧ CellsS w.heap.size w v l.length (l.flatMap f) ∧ ∀ y ∈ l, Good y := by
  rcases open_slice hSL h with ⟨rfl, _⟩ | ⟨a, len, cap, m, nn, D, Pl, rfl, _, hl, hm, hmm, _, hx⟩
  · exact ⟨_, [], rfl, CellsS.nil _ _, by simp⟩
  · simp only [if_true] at hmm
    subst hmm
    have he : ∀ i, i < len → ∃ y : β, (∀ j, j < n → w.cell? ((a.add (i * n)).add j) = (f y)[j]?) ∧ Good y := by
      intro i hi
      obtain ⟨cs', h1, h2⟩ := hx i (by omega)
      rw [hc] at h1
      obtain ⟨_, hcl, hat⟩ := World.cells?_some h1
      obtain ⟨y, rfl, hy⟩ := elem _ _ _ h2
      exact ⟨y, hat, hy⟩
    obtain ⟨Y, hY⟩ := choose_lt he
    refine ⟨_, (List.range len).map Y, rfl, ⟨some a, m, by simp, by simpa using hl, hm, fun hpos => ?_⟩, ?_⟩
    · have h0 : 0 < len := by simpa using hpos
      have hc0 : ∃ u, w.cell? ((a.add (0 * n)).add 0) = some u := by
        rw [(hY 0 h0).1 0 hn0]
        exact ⟨_, List.getElem?_eq_getElem (by rw [hn]; exact hn0)⟩
      obtain ⟨u0, hu0⟩ := hc0
      have hsp : a.spot = none := by
        have := World.cell?_spot hu0
        simpa [Addr.add] using this
      obtain ⟨b, off, spot⟩ := a
      simp only at hsp
      subst hsp
      refine ⟨b, off, rfl, ?_, fun j u hu => ?_⟩
      · have := World.block_lt_of_cell? w _ hu0
        simpa [Addr.add] using this
      · have hj : j < (((List.range len).map Y).flatMap f).length := (List.getElem?_eq_some_iff.1 hu).1
        rw [flat_len f n hn] at hj
        simp only [List.length_map, List.length_range] at hj
        have hi : j / n < len := Nat.div_lt_of_lt_mul (by rw [Nat.mul_comm]; exact hj)
        have hr : j % n < n := Nat.mod_lt _ hn0
        have hjj : j = j / n * n + j % n := by rw [Nat.mul_comm]; exact (Nat.div_add_mod j n).symm
        rw [hjj, flat_get f n hn ((List.range len).map Y) (j / n) (by simpa using hi) (j % n) hr] at hu
        have h1 := (hY (j / n) hi).1 (j % n) hr
        rw [addr_plus, addr_plus] at h1
        simp only [List.getElem_map, List.getElem_range] at hu
        rw [hu] at h1
        rw [hjj]
        rw [Nat.add_assoc] at h1
        exact h1
    · intro y hy
      simp at hy
      obtain ⟨i, hi, rfl⟩ := hy
      exact (hY i hi).2
theorem list7 {α : Type} {l : List α} (h : l.length = 7) : ∃ a b c d e f g, l = [a, b, c, d, e, f, g] := by
  match l, h with
  | [a, b, c, d, e, f, g], _ => exact ⟨a, b, c, d, e, f, g, rfl⟩
theorem list4 {α : Type} {l : List α} (h : l.length = 4) : ∃ a b c d, l = [a, b, c, d] := by
  match l, h with
  | [a, b, c, d], _ => exact ⟨a, b, c, d, rfl⟩
theorem list3' {α : Type} {l : List α} (h : l.length = 3) : ∃ a b c, l = [a, b, c] := by
  match l, h with
  | [a, b, c], _ => exact ⟨a, b, c, rfl⟩
theorem field_string {fuel : Nat} {t : TypeId} {u : Value} {y : DataW H × List MemPlace} (ht : P.underlying t = some .string) (h : DataW.trod enc P w 0 (fun _ => true) held fuel t [u] = some y) : ∃ s : ByteArray, u = .string s ∧ s.size ≤ maxLen := by
  obtain ⟨a2, e2, _, w2⟩ := DataW.trod_string ht h
  simp at e2
  exact ⟨a2, e2, w2⟩
theorem field_bool {fuel : Nat} {t : TypeId} {u : Value} {y : DataW H × List MemPlace} (ht : P.underlying t = some .bool) (h : DataW.trod enc P w 0 (fun _ => true) held fuel t [u] = some y) : ∃ s : Bool, u = .bool s := by
  obtain ⟨a2, e2, _⟩ := DataW.trod_bool ht h
  simp at e2
  exact ⟨a2, e2⟩
end
instance : Inhabited Rng := ⟨⟨0, 0, ByteArray.empty⟩⟩
instance : Inhabited Par := ⟨⟨ByteArray.empty, 0, 0, 0, 0, false, []⟩⟩
instance : Inhabited Prf := ⟨⟨ByteArray.empty, 0, []⟩⟩
instance : Inhabited Unt := ⟨⟨0, ByteArray.empty, 0, 0⟩⟩

section
variable {H : Type} {enc : TypeId × Value → H} {w : World} {held : Bool}
set_option maxRecDepth 100000 in
theorem read_range {fuel : Nat} {cs : List Value} {x : DataW H × List MemPlace} (h : DataW.trod enc Tryz.prog w 0 (fun _ => true) held fuel 75 cs = some x) :
    ∃ y : Rng, cs = rngC y ∧ RngFit y := by
  have hc : Tryz.prog.cellsOf 75 = 3 := by kernel_rfl
  obtain ⟨hl, n, hf⟩ := open_fields1 Tryz.underlying75 (by kernel_rfl) hc h
  obtain ⟨u0, u1, u2, rfl⟩ := list3' hl
  obtain ⟨x0, y0, q0, k0⟩ := hf 0 _ rfl
  obtain ⟨x1, y1, q1, k1⟩ := hf 1 _ rfl
  obtain ⟨x2, y2, q2, k2⟩ := hf 2 _ rfl
  simp at q0 q1 q2
  subst q0 q1 q2
  obtain ⟨a0, rfl, w0⟩ := field_int Tryz.underlying3 k0
  obtain ⟨a1, rfl, w1⟩ := field_int Tryz.underlying3 k1
  obtain ⟨a2, rfl, w2⟩ := field_string Tryz.underlying9 k2
  exact ⟨⟨a0, a1, a2⟩, rfl, i64_of_wf w0, i64_of_wf w1, w2⟩
set_option maxRecDepth 100000 in
theorem read_param {fuel : Nat} {cs : List Value} {x : DataW H × List MemPlace} (h : DataW.trod enc Tryz.prog w 0 (fun _ => true) held fuel 73 cs = some x) :
    ∃ y : Par × Value, cs = parC y ∧ RngS w.heap.size w y.2 y.1.rngs ∧ ParFit y.1 := by
  have hc : Tryz.prog.cellsOf 73 = 7 := by kernel_rfl
  obtain ⟨hl, n, hf⟩ := open_fields1 Tryz.underlying73 (by kernel_rfl) hc h
  obtain ⟨u0, u1, u2, u3, u4, u5, u6, rfl⟩ := list7 hl
  obtain ⟨x0, y0, q0, k0⟩ := hf 0 _ rfl
  obtain ⟨x1, y1, q1, k1⟩ := hf 1 _ rfl
  obtain ⟨x2, y2, q2, k2⟩ := hf 2 _ rfl
  obtain ⟨x3, y3, q3, k3⟩ := hf 3 _ rfl
  obtain ⟨x4, y4, q4, k4⟩ := hf 4 _ rfl
  obtain ⟨x5, y5, q5, k5⟩ := hf 5 _ rfl
  obtain ⟨x6, y6, q6, k6⟩ := hf 6 _ rfl
  simp at q0 q1 q2 q3 q4 q5 q6
  subst q0 q1 q2 q3 q4 q5 q6
  obtain ⟨a0, rfl, w0⟩ := field_string Tryz.underlying9 k0
  obtain ⟨a1, rfl, w1⟩ := field_int Tryz.underlying3 k1
  obtain ⟨a2, rfl, w2⟩ := field_int Tryz.underlying3 k2
  obtain ⟨a3, rfl, w3⟩ := field_int Tryz.underlying3 k3
  obtain ⟨a4, rfl, w4⟩ := field_int Tryz.underlying3 k4
  obtain ⟨a5, rfl⟩ := field_bool Tryz.underlying4 k5
  obtain ⟨v, l, e, h1, h2⟩ := read_rows (n := 3) rngC RngFit (fun _ => rfl) (by omega) Tryz.underlying71 (by kernel_rfl) (fun _ _ _ h => read_range h) k6
  simp at e
  subst e
  exact ⟨(⟨a0, a1, a2, a3, a4, a5, l⟩, _), rfl, h1, i64_of_wf w1, i64_of_wf w2, i64_of_wf w3, i64_of_wf w4, w0, h2⟩
set_option maxRecDepth 100000 in
theorem read_params {fuel : Nat} {cs : List Value} {x : DataW H × List MemPlace} (h : DataW.trod enc Tryz.prog w 0 (fun _ => true) held fuel 68 cs = some x) :
    ∃ v l, cs = [v] ∧ ParS w.heap.size w v l ∧ ∀ y ∈ l, ParFit y := by
  obtain ⟨v, l, e, h1, h2⟩ := read_rows (n := 7) parC (fun y => RngS w.heap.size w y.2 y.1.rngs ∧ ParFit y.1) (fun _ => rfl) (by omega) Tryz.underlying68 (by kernel_rfl) (fun _ _ _ h => read_param h) h
  refine ⟨v, l.map (·.1), e, ⟨l, rfl, h1, fun y hy => (h2 y hy).1⟩, fun y hy => ?_⟩
  obtain ⟨z, hz, rfl⟩ := List.mem_map.1 hy
  exact (h2 z hz).2
set_option maxRecDepth 100000 in
theorem read_profile {fuel : Nat} {cs : List Value} {x : DataW H × List MemPlace} (h : DataW.trod enc Tryz.prog w 0 (fun _ => true) held fuel 70 cs = some x) :
    ∃ y : Prf × Value, cs = prfC y ∧ ParS w.heap.size w y.2 y.1.pars ∧ PrfFit y.1 := by
  have hc : Tryz.prog.cellsOf 70 = 3 := by kernel_rfl
  obtain ⟨hl, n, hf⟩ := open_fields1 Tryz.underlying70 (by kernel_rfl) hc h
  obtain ⟨u0, u1, u2, rfl⟩ := list3' hl
  obtain ⟨x0, y0, q0, k0⟩ := hf 0 _ rfl
  obtain ⟨x1, y1, q1, k1⟩ := hf 1 _ rfl
  obtain ⟨x2, y2, q2, k2⟩ := hf 2 _ rfl
  simp at q0 q1 q2
  subst q0 q1 q2
  obtain ⟨a0, rfl, w0⟩ := field_string Tryz.underlying9 k0
  obtain ⟨a1, rfl, w1⟩ := field_int Tryz.underlying3 k1
  obtain ⟨v, l, e, h1, h2⟩ := read_params k2
  simp at e
  subst e
  exact ⟨(⟨a0, a1, l⟩, _), rfl, h1, i64_of_wf w1, w0, h2⟩
set_option maxRecDepth 100000 in
theorem read_profiles {fuel : Nat} {cs : List Value} {x : DataW H × List MemPlace} (h : DataW.trod enc Tryz.prog w 0 (fun _ => true) held fuel 22 cs = some x) :
    ∃ v l, cs = [v] ∧ PrfS w.heap.size w v l ∧ ∀ y ∈ l, PrfFit y := by
  obtain ⟨v, l, e, h1, h2⟩ := read_rows (n := 3) prfC (fun y => ParS w.heap.size w y.2 y.1.pars ∧ PrfFit y.1) (fun _ => rfl) (by omega) Tryz.underlying22 (by kernel_rfl) (fun _ _ _ h => read_profile h) h
  refine ⟨v, l.map (·.1), e, ⟨l, rfl, h1, fun y hy => (h2 y hy).1⟩, fun y hy => ?_⟩
  obtain ⟨z, hz, rfl⟩ := List.mem_map.1 hy
  exact (h2 z hz).2
set_option maxRecDepth 100000 in
theorem read_unit {fuel : Nat} {cs : List Value} {x : DataW H × List MemPlace} (h : DataW.trod enc Tryz.prog w 0 (fun _ => true) held fuel 51 cs = some x) :
    ∃ y : Unt, cs = untC y ∧ UntFit y := by
  have hc : Tryz.prog.cellsOf 51 = 4 := by kernel_rfl
  obtain ⟨hl, n, hf⟩ := open_fields1 Tryz.underlying51 (by kernel_rfl) hc h
  obtain ⟨u0, u1, u2, u3, rfl⟩ := list4 hl
  obtain ⟨x0, y0, q0, k0⟩ := hf 0 _ rfl
  obtain ⟨x1, y1, q1, k1⟩ := hf 1 _ rfl
  obtain ⟨x2, y2, q2, k2⟩ := hf 2 _ rfl
  obtain ⟨x3, y3, q3, k3⟩ := hf 3 _ rfl
  simp at q0 q1 q2 q3
  subst q0 q1 q2 q3
  obtain ⟨a0, rfl, w0⟩ := field_int Tryz.underlying3 k0
  obtain ⟨a1, rfl, w1⟩ := field_string Tryz.underlying9 k1
  obtain ⟨a2, rfl, w2⟩ := field_int Tryz.underlying3 k2
  obtain ⟨a3, rfl, w3⟩ := field_int Tryz.underlying3 k3
  exact ⟨⟨a0, a1, a2, a3⟩, rfl, i64_of_wf w0, i64_of_wf w2, i64_of_wf w3, w1⟩
set_option maxRecDepth 100000 in
theorem read_units {fuel : Nat} {cs : List Value} {x : DataW H × List MemPlace} (h : DataW.trod enc Tryz.prog w 0 (fun _ => true) held fuel 23 cs = some x) :
    ∃ v l, cs = [v] ∧ UntS w.heap.size w v l ∧ ∀ y ∈ l, UntFit y := read_rows (n := 4) untC UntFit (fun _ => rfl) (by omega) Tryz.underlying23 (by kernel_rfl) (fun _ _ _ h => read_unit h) h
/-- a library as an argument -/
def LibV (w : World) (v : Value) : Prop := ∃ l : List Prf, PrfS w.heap.size w v l ∧ ∀ p ∈ l, PrfFit p
set_option maxRecDepth 100000 in
theorem open_library {r : Reach} {b0 : Nat} {v : Value} {d : DataW H} {p : List MemPlace} (hv : Value.okWide Tryz.prog w r b0 22 v) (h : DataW.Trod enc Tryz.prog w 0 (fun _ => true) held 22 v d p) :
    ∃ a : Value, v = a ∧ LibV w a := by
  obtain ⟨ao, len, cap, rfl⟩ := okWide_slice Tryz.underlying22 hv
  obtain ⟨fuel, hf⟩ := h
  obtain ⟨v, l, e, hl⟩ := read_profiles hf
  simp [Value.cells] at e
  subst e
  exact ⟨_, rfl, l, hl⟩
/-- a rig's value -/
def rigV (lv uv : Value) : Value := .agg #[lv, uv]
structure RigAt (B : Nat) (w : World) (x : Rig) (lv uv : Value) : Prop where
  lib : PrfS B w lv x.lib
  units : UntS B w uv x.units
theorem RigAt.below {B : Nat} {w w' : World} {x : Rig} {lv uv : Value} (h : RigAt B w x lv uv) (hb : Below B w w') : RigAt B w' x lv uv := ⟨h.lib.below hb, h.units.below hb⟩
theorem RigAt.more {B B' : Nat} {w : World} {x : Rig} {lv uv : Value} (h : RigAt B w x lv uv) (hB : B ≤ B') : RigAt B' w x lv uv := ⟨h.lib.more hB, h.units.more hB⟩
/-- a rig as an argument -/
def RigW (w : World) (v : Value) : Prop := ∃ (x : Rig) (lv uv : Value), v = rigV lv uv ∧ RigAt w.heap.size w x lv uv ∧ RigFit x
set_option maxRecDepth 100000 in
theorem open_rig {r : Reach} {b0 : Nat} {v : Value} {d : DataW H} {p : List MemPlace} (hv : Value.okWide Tryz.prog w r b0 25 v) (h : DataW.Trod enc Tryz.prog w 0 (fun _ => true) held 25 v d p) :
    ∃ a : Value, v = a ∧ RigW w a := by
  obtain ⟨cs, n, rfl, hl, hf⟩ := open_struct1 Tryz.underlying25 (by kernel_rfl) (by kernel_rfl) hv h
  obtain ⟨u0, u1, rfl⟩ := list2 hl
  obtain ⟨x0, y0, q0, k0⟩ := hf 0 _ rfl
  obtain ⟨x1, y1, q1, k1⟩ := hf 1 _ rfl
  simp at q0 q1
  subst q0 q1
  obtain ⟨v0, l0, e0, h0, f0⟩ := read_profiles k0
  simp at e0
  subst e0
  obtain ⟨v1, l1, e1, h1, f1⟩ := read_units k1
  simp at e1
  subst e1
  exact ⟨_, rfl, ⟨l0, l1⟩, _, _, rfl, ⟨h0, h1⟩, f0, f1⟩
end
end Go.Proofs.YtppbagllhmeenaaGreatDoor

namespace Go.Proofs.YtppbagllhmeenaaGreatDoor
open Go.Maps (Keyed IsMap atKey_put_same atKey_put_other)
open Go.ChangeShapes Go.WideShapes Go.RowKit
set_option linter.unusedVariables false

section
variable {H : Type}
theorem plainElem_bool_inv {P : Program} {e : TypeId} (he : P.underlying e = some .bool) {v : Value} {z : DataW H × List MemPlace} (h : plainElem P e v = some z) : ∃ x, v = .bool x ∧ z = (.lit (.bool x), []) := by
  unfold plainElem at h
  rw [he] at h
  cases v <;> simp at h
  exact ⟨_, rfl, h.symm⟩

/-- block b of w is a map of at most n entries; just the keys of S are there, each with true -/
structure SeenM (w : World) (P : Program) (k e : TypeId) (b n : Nat) (S : List Lit) : Prop where
  own : ∃ D : DataW Unit, w.ownsMap P k (plainElem P e) b n D ∧ IsMap D ∧ ∀ kl, ∃ c : Bool, D.atKey kl (.lit (.bool false)) = .lit (.bool c) ∧ (c = true ↔ kl ∈ S)

theorem seen_made (w : World) (P : Program) (k e : TypeId) : SeenM (w.alloc (.map #[] 0)) P k e w.heap.size 0 [] :=
  ⟨.map [], World.ownsMap_made w P k _, ⟨_, rfl⟩, fun kl => ⟨false, by rw [WideAt.atKey_none _ (by simp)], by simp⟩⟩

theorem SeenM.kept {w w' : World} {P : Program} {k e : TypeId} {b n : Nat} {S : List Lit} {row : Option Nat} (h : SeenM w P k e b n S) (hg : w.grownBy w' row) (hne : some b ≠ row) : SeenM w' P k e b n S := by
  obtain ⟨D, h1, h2, h3⟩ := h.own
  exact ⟨D, h1.kept hg hne, h2, h3⟩
theorem SeenM.below {B : Nat} {w w' : World} {P : Program} {k e : TypeId} {b n : Nat} {S : List Lit} (h : SeenM w P k e b n S) (hb : Below B w w') (hlt : b < B) : SeenM w' P k e b n S := by
  obtain ⟨D, ⟨es, clock, h1, h2, h3, h4⟩, h5, h6⟩ := h.own
  exact ⟨D, ⟨es, clock, (hb.block _ hlt).trans h1, h2, h3, h4⟩, h5, h6⟩
theorem SeenM.lt {w : World} {P : Program} {k e : TypeId} {b n : Nat} {S : List Lit} (h : SeenM w P k e b n S) : b < w.heap.size := by
  obtain ⟨D, h1, h2, h3⟩ := h.own
  exact h1.lt

/-- the look-up: it is true just at a key that is there -/
theorem wpList_seen {P : Program} (w : World) {ops : Array Oper} {rest : List Oper} {o : Oper} {a : Act} {Q : Exit → Act → World → Prop}
    (hg : o.guard = none) (m x : Operand) (t : TypeId) (hop : o.op = Op.lookup t m x false)
    (k e : TypeId) (K : Keyed P k) (ht : P.underlying t = some (.map k e)) (he : P.underlying e = some .bool) (hz : (zeroValue e).run P w = .ok (.bool false) w) (b n : Nat) (S : List Lit)
    (hm : a.eval m = .map (some b)) (hown : SeenM w P k e b n S) (key : Value) (kl : Lit) (hx : a.eval x = key) (hkey : keyOf P k key = some kl)
    (hK : ∀ c : Bool, (c = true ↔ kl ∈ S) → wpList P ops Q rest (a.put o.dst (.bool c)) w) :
    wpList P ops Q (o :: rest) a w := by
  refine wpList_plain hg fun K' hK' => ?_
  obtain ⟨D, h1, h2, h3⟩ := hown.own
  obtain ⟨v, ps, hrun, hv⟩ := h1.lookup K ht hz (plainElem_bool he false) hkey
  obtain ⟨x', rfl, hx'⟩ := plainElem_bool_inv he hv
  obtain ⟨c, h4, h5⟩ := h3 kl
  rw [h4] at hx'
  simp at hx'
  obtain ⟨hxe, rfl⟩ := hx'
  subst hxe
  unfold Oper.wp
  simp [execOp, hop, hm, hx, hrun, Result.andThen]
  exact hK' _ _ (hK c h5)

/-- the look-up with 'ok' in a nil map -/
theorem wpList_nil_ok {P : Program} (w : World) {ops : Array Oper} {rest : List Oper} {o : Oper} {a : Act} {Q : Exit → Act → World → Prop}
    (hg : o.guard = none) (m x : Operand) (t : TypeId) (hop : o.op = Op.lookup t m x true)
    (k e : TypeId) (K : Keyed P k) (ht : P.underlying t = some (.map k e)) (z : Value) (hz : (zeroValue e).run P w = .ok z w)
    (hm : a.eval m = .map none) (key : Value) (kl : Lit) (hx : a.eval x = key) (hkey : keyOf P k key = some kl)
    (hK : wpList P ops Q rest (a.put o.dst (.tuple #[z, .bool false])) w) :
    wpList P ops Q (o :: rest) a w := by
  refine wpList_plain hg fun K' hK' => ?_
  have hrun := Maps.look_nil (w := w) true K ht hz hkey
  unfold Oper.wp
  simp [execOp, hop, hm, hx, hrun, Result.andThen]
  exact hK' _ _ hK

theorem SeenM.put {w' : World} {P : Program} {k e : TypeId} {b n : Nat} {S : List Lit} {D : DataW Unit} {kl : Lit} (hD : IsMap D) (h3 : ∀ kl, ∃ c : Bool, D.atKey kl (.lit (.bool false)) = .lit (.bool c) ∧ (c = true ↔ kl ∈ S)) (hk : WideAt.IsKeyLit kl)
    (h : w'.ownsMap P k (plainElem P e) b n (D.put kl (.lit (.bool true)))) : SeenM w' P k e b n (S ++ [kl]) := by
  refine ⟨_, h, hD.put _ _, fun kl' => ?_⟩
  by_cases c : kl' = kl
  · subst c
    exact ⟨true, atKey_put_same hD hk _ _, by simp⟩
  · obtain ⟨x, h4, h5⟩ := h3 kl'
    exact ⟨x, (atKey_put_other c _ _).trans h4, by rw [h5]; simp [c]⟩

/-- the store of true: the key is there from now on -/
theorem wpList_seen_put {P : Program} (w : World) {ops : Array Oper} {rest : List Oper} {o : Oper} {a : Act} {Q : Exit → Act → World → Prop}
    (hg : o.guard = none) (m x v : Operand) (t : TypeId) (hop : o.op = Op.mapUpdate t m x v)
    (k e : TypeId) (K : Keyed P k) (ht : P.underlying t = some (.map k e)) (he : P.underlying e = some .bool) (b n : Nat) (S : List Lit)
    (hm : a.eval m = .map (some b)) (hown : SeenM w P k e b n S) (hn : n < maxLen) (key : Value) (kl : Lit) (hx : a.eval x = key) (hv : a.eval v = .bool true) (hkey : keyOf P k key = some kl)
    (hK : ∀ w', SeenM w' P k e b (n + 1) (S ++ [kl]) → w.grownBy w' (some b) → wpList P ops Q rest (a.put o.dst undef) w') :
    wpList P ops Q (o :: rest) a w := by
  obtain ⟨D, h1, h2, h3⟩ := hown.own
  exact wpList_mapUpdate_own w hg m x v t hop k e K ht _ b n D hm h1 hn key _ kl hx hv hkey _ [] (plainElem_bool he true) fun w' r1 r2 => hK w' (SeenM.put h2 h3 (K.key hkey) r1) r2
end
end Go.Proofs.YtppbagllhmeenaaGreatDoor
