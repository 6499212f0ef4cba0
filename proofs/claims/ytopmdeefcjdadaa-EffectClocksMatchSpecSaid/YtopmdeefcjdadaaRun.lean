/- Running effects as arguments. -/
import Derived.Test.YtopmdeefcjdadaaEff
import Derived.Test.YtopmdeefcjdadaaCellRows
import Derived.MapViews
import Derived.DeepKeys4
import Derived.Maps.Keyed
namespace Go.Proofs.Ytopmdeefcjdadaa
open Go.ChangeShapes Go.WideShapes Go.RowKit Go.Deep
set_option linter.unusedSimpArgs false
set_option linter.unusedVariables false

/-- a running effect; a key: its unit and its parameter's name; a rate: its time and its percentage -/
structure Run where
  ef : Eff
  keys : List (Int × ByteArray)
  start : Int
  rates : List (Int × Int)
  tin : Int
  tend : Int
  tout : Int
def kCells (l : List (Int × ByteArray)) : List Value := cells2 (fun k : Int × ByteArray => Value.int .i64 k.1) (fun k => .string k.2) l
def rCells (l : List (Int × Int)) : List Value := cells2 (fun k : Int × Int => Value.int .i64 k.1) (fun k => .int .i64 k.2) l
def KeyS (B : Nat) (w : World) (v : Value) (l : List (Int × ByteArray)) : Prop := CellsS B w v l.length (kCells l)
def RateS (B : Nat) (w : World) (v : Value) (l : List (Int × Int)) : Prop := CellsS B w v l.length (rCells l)
def KeyFit (k : Int × ByteArray) : Prop := I64 k.1 ∧ k.2.size ≤ maxLen
def RateFit (k : Int × Int) : Prop := I64 k.1 ∧ I64 k.2
def RunFit (x : Run) : Prop := EffFit x.ef ∧ (∀ k ∈ x.keys, KeyFit k) ∧ (∀ k ∈ x.rates, RateFit k) ∧ I64 x.start ∧ I64 x.tin ∧ I64 x.tend ∧ I64 x.tout
/-- a running effect's value -/
def runV (x : Run) (sv kv rv : Value) : Value := .agg #[.int .i64 x.ef.form, .int .i64 x.ef.low, .int .i64 x.ef.high, .int .i64 x.ef.cycle, .int .i64 x.ef.width, .int .i64 x.ef.spread, .bool x.ef.back, .bool x.ef.rel, sv, kv, .int .i64 x.start, rv, .int .i64 x.tin, .int .i64 x.tend, .int .i64 x.tout]
/-- what its slices hold -/
structure RunAt (B : Nat) (w : World) (x : Run) (sv kv rv : Value) : Prop where
  steps : StS B w sv x.ef.steps
  keys : KeyS B w kv x.keys
  rates : RateS B w rv x.rates
theorem RunAt.below {B : Nat} {w w' : World} {x : Run} {sv kv rv : Value} (h : RunAt B w x sv kv rv) (hb : Below B w w') : RunAt B w' x sv kv rv := ⟨h.steps.below hb, CellsS.below h.keys hb, CellsS.below h.rates hb⟩
theorem RunAt.more {B B' : Nat} {w : World} {x : Run} {sv kv rv : Value} (h : RunAt B w x sv kv rv) (hB : B ≤ B') : RunAt B' w x sv kv rv := ⟨h.steps.more hB, CellsS.more h.keys hB, CellsS.more h.rates hB⟩

/-- a key as a map's key -/
def keyL (k : Int × ByteArray) : Lit := .string (keyBytes [.int .i64 k.1, .string k.2.data.toList])
def keyV (k : Int × ByteArray) : Value := .agg #[.int .i64 k.1, .string k.2]

section
variable {H : Type} {enc : TypeId × Value → H} {w : World} {held : Bool}
theorem slist15 {α : Type} {l : List α} (h : l.length = 15) : ∃ a b c d e f g i j k m n o p q, l = [a, b, c, d, e, f, g, i, j, k, m, n, o, p, q] := by
  match l, h with
  | [a, b, c, d, e, f, g, i, j, k, m, n, o, p, q], _ => exact ⟨a, b, c, d, e, f, g, i, j, k, m, n, o, p, q, rfl⟩
set_option maxRecDepth 100000 in
theorem read_keys {fuel : Nat} {cs : List Value} {x : DataW H × List MemPlace} (h : DataW.trod enc Try.prog w 0 (fun _ => true) held fuel 25 cs = some x) :
    ∃ v l, cs = [v] ∧ KeyS w.heap.size w v l ∧ ∀ s ∈ l, KeyFit s := by
  rcases open_slice Try.underlying25 h with ⟨rfl, _⟩ | ⟨a, len, cap, m, n, D, Pl, rfl, _, hl, hm, hmm, _, hx⟩
  · exact ⟨_, [], rfl, CellsS.nil _ _, by simp⟩
  · simp only [if_true] at hmm
    subst hmm
    have c3 : Try.prog.cellsOf 47 = 2 := by kernel_rfl
    have he : ∀ i, i < len → ∃ y : Int × ByteArray, w.cell? (a.add (i * 2)) = some (.int .i64 y.1) ∧ w.cell? ((a.add (i * 2)).add 1) = some (.string y.2) ∧ KeyFit y := by
      intro i hi
      obtain ⟨cs', h1, h2⟩ := hx i (by omega)
      rw [c3] at h1
      obtain ⟨_, hcl, hat⟩ := World.cells?_some h1
      obtain ⟨_, n', hf⟩ := open_fields1 Try.underlying47 (by kernel_rfl) c3 h2
      obtain ⟨u0, u1, rfl⟩ := list2 hcl
      obtain ⟨x1, z1, q1, m1⟩ := hf 0 _ rfl
      obtain ⟨x2, z2, q2, m2⟩ := hf 1 _ rfl
      simp at q1 q2
      subst q1 q2
      obtain ⟨a1, rfl, w1⟩ := field_int Try.underlying3 m1
      obtain ⟨a2, e2, _, w2⟩ := DataW.trod_string Try.underlying9 m2
      simp at e2
      subst e2
      refine ⟨⟨a1, a2⟩, ?_, hat 1 (by omega), i64_of_wf w1, w2⟩
      have := hat 0 (by omega)
      simpa [Addr.add] using this
    obtain ⟨Y, hY⟩ := choose_lt he
    refine ⟨_, (List.range len).map Y, rfl, ⟨some a, m, by simp, by simpa using hl, hm, fun hpos => ?_⟩, ?_⟩
    · have h0 : 0 < len := by simpa using hpos
      have hsp : a.spot = none := by
        have := World.cell?_spot (hY 0 h0).1
        simpa [Addr.add] using this
      obtain ⟨b, off, spot⟩ := a
      simp only at hsp
      subst hsp
      refine ⟨b, off, rfl, ?_, fun j u hu => ?_⟩
      · have := World.block_lt_of_cell? w _ (hY 0 h0).1
        simpa [Addr.add] using this
      · have hj : j < (kCells ((List.range len).map Y)).length := (List.getElem?_eq_some_iff.1 hu).1
        rw [show (kCells ((List.range len).map Y)).length = len * 2 by unfold kCells; rw [cells2_length]; simp] at hj
        have hi : j / 2 < len := by omega
        obtain ⟨g1, g2⟩ := cells2_get (fun k : Int × ByteArray => Value.int .i64 k.1) (fun k => .string k.2) ((List.range len).map Y) (j / 2) (by simpa using hi)
        obtain ⟨c1, c2, _⟩ := hY (j / 2) hi
        rw [addr_plus] at c1
        rw [addr_plus, addr_plus] at c2
        simp only [List.getElem_map, List.getElem_range] at g1 g2
        rcases Nat.mod_two_eq_zero_or_one j with e | e
        · have : j = j / 2 * 2 := by omega
          rw [this] at hu ⊢
          obtain rfl := Option.some.inj (g1.symm.trans hu)
          exact c1
        · have : j = j / 2 * 2 + 1 := by omega
          rw [this] at hu ⊢
          obtain rfl := Option.some.inj (g2.symm.trans hu)
          exact c2
    · intro y hy
      simp at hy
      obtain ⟨i, hi, rfl⟩ := hy
      exact (hY i hi).2.2
set_option maxRecDepth 100000 in
theorem read_rates {fuel : Nat} {cs : List Value} {x : DataW H × List MemPlace} (h : DataW.trod enc Try.prog w 0 (fun _ => true) held fuel 26 cs = some x) :
    ∃ v l, cs = [v] ∧ RateS w.heap.size w v l ∧ ∀ s ∈ l, RateFit s := by
  rcases open_slice Try.underlying26 h with ⟨rfl, _⟩ | ⟨a, len, cap, m, n, D, Pl, rfl, _, hl, hm, hmm, _, hx⟩
  · exact ⟨_, [], rfl, CellsS.nil _ _, by simp⟩
  · simp only [if_true] at hmm
    subst hmm
    have c3 : Try.prog.cellsOf 67 = 2 := by kernel_rfl
    have he : ∀ i, i < len → ∃ y : Int × Int, w.cell? (a.add (i * 2)) = some (.int .i64 y.1) ∧ w.cell? ((a.add (i * 2)).add 1) = some (.int .i64 y.2) ∧ RateFit y := by
      intro i hi
      obtain ⟨cs', h1, h2⟩ := hx i (by omega)
      rw [c3] at h1
      obtain ⟨_, hcl, hat⟩ := World.cells?_some h1
      obtain ⟨_, n', hf⟩ := open_fields1 Try.underlying67 (by kernel_rfl) c3 h2
      obtain ⟨u0, u1, rfl⟩ := list2 hcl
      obtain ⟨x1, z1, q1, m1⟩ := hf 0 _ rfl
      obtain ⟨x2, z2, q2, m2⟩ := hf 1 _ rfl
      simp at q1 q2
      subst q1 q2
      obtain ⟨a1, rfl, w1⟩ := field_int Try.underlying3 m1
      obtain ⟨a2, rfl, w2⟩ := field_int Try.underlying3 m2
      refine ⟨⟨a1, a2⟩, ?_, hat 1 (by omega), i64_of_wf w1, i64_of_wf w2⟩
      have := hat 0 (by omega)
      simpa [Addr.add] using this
    obtain ⟨Y, hY⟩ := choose_lt he
    refine ⟨_, (List.range len).map Y, rfl, ⟨some a, m, by simp, by simpa using hl, hm, fun hpos => ?_⟩, ?_⟩
    · have h0 : 0 < len := by simpa using hpos
      have hsp : a.spot = none := by
        have := World.cell?_spot (hY 0 h0).1
        simpa [Addr.add] using this
      obtain ⟨b, off, spot⟩ := a
      simp only at hsp
      subst hsp
      refine ⟨b, off, rfl, ?_, fun j u hu => ?_⟩
      · have := World.block_lt_of_cell? w _ (hY 0 h0).1
        simpa [Addr.add] using this
      · have hj : j < (rCells ((List.range len).map Y)).length := (List.getElem?_eq_some_iff.1 hu).1
        rw [show (rCells ((List.range len).map Y)).length = len * 2 by unfold rCells; rw [cells2_length]; simp] at hj
        have hi : j / 2 < len := by omega
        obtain ⟨g1, g2⟩ := cells2_get (fun k : Int × Int => Value.int .i64 k.1) (fun k => .int .i64 k.2) ((List.range len).map Y) (j / 2) (by simpa using hi)
        obtain ⟨c1, c2, _⟩ := hY (j / 2) hi
        rw [addr_plus] at c1
        rw [addr_plus, addr_plus] at c2
        simp only [List.getElem_map, List.getElem_range] at g1 g2
        rcases Nat.mod_two_eq_zero_or_one j with e | e
        · have : j = j / 2 * 2 := by omega
          rw [this] at hu ⊢
          obtain rfl := Option.some.inj (g1.symm.trans hu)
          exact c1
        · have : j = j / 2 * 2 + 1 := by omega
          rw [this] at hu ⊢
          obtain rfl := Option.some.inj (g2.symm.trans hu)
          exact c2
    · intro y hy
      simp at hy
      obtain ⟨i, hi, rfl⟩ := hy
      exact (hY i hi).2.2
set_option maxRecDepth 100000 in
theorem read_effect {fuel : Nat} {cs : List Value} {x : DataW H × List MemPlace} (h : DataW.trod enc Try.prog w 0 (fun _ => true) held fuel 24 cs = some x) :
    ∃ (y : Eff) (sv : Value), cs = [.int .i64 y.form, .int .i64 y.low, .int .i64 y.high, .int .i64 y.cycle, .int .i64 y.width, .int .i64 y.spread, .bool y.back, .bool y.rel, sv] ∧ StS w.heap.size w sv y.steps ∧ EffFit y := by
  have hc : Try.prog.cellsOf 24 = 9 := by kernel_rfl
  obtain ⟨hl, n, hf⟩ := open_fields1 Try.underlying24 (by kernel_rfl) hc h
  obtain ⟨u0, u1, u2, u3, u4, u5, u6, u7, u8, rfl⟩ := slist9 hl
  obtain ⟨x0, y0, q0, k0⟩ := hf 0 _ rfl
  obtain ⟨x1, y1, q1, k1⟩ := hf 1 _ rfl
  obtain ⟨x2, y2, q2, k2⟩ := hf 2 _ rfl
  obtain ⟨x3, y3, q3, k3⟩ := hf 3 _ rfl
  obtain ⟨x4, y4, q4, k4⟩ := hf 4 _ rfl
  obtain ⟨x5, y5, q5, k5⟩ := hf 5 _ rfl
  obtain ⟨x6, y6, q6, k6⟩ := hf 6 _ rfl
  obtain ⟨x7, y7, q7, k7⟩ := hf 7 _ rfl
  obtain ⟨x8, y8, q8, k8⟩ := hf 8 _ rfl
  simp at q0 q1 q2 q3 q4 q5 q6 q7 q8
  subst q0 q1 q2 q3 q4 q5 q6 q7 q8
  obtain ⟨a0, rfl, w0⟩ := field_int Try.underlying3 k0
  obtain ⟨a1, rfl, w1⟩ := field_int Try.underlying3 k1
  obtain ⟨a2, rfl, w2⟩ := field_int Try.underlying3 k2
  obtain ⟨a3, rfl, w3⟩ := field_int Try.underlying3 k3
  obtain ⟨a4, rfl, w4⟩ := field_int Try.underlying3 k4
  obtain ⟨a5, rfl, w5⟩ := field_int Try.underlying3 k5
  obtain ⟨a6, e6, _⟩ := DataW.trod_bool Try.underlying4 k6
  simp at e6
  subst e6
  obtain ⟨a7, e7, _⟩ := DataW.trod_bool Try.underlying4 k7
  simp at e7
  subst e7
  obtain ⟨v8, l8, e8, h8, f8⟩ := read_steps k8
  simp at e8
  subst e8
  exact ⟨⟨a0, a1, a2, a3, a4, a5, a6, a7, l8⟩, _, rfl, h8, ⟨i64_of_wf w0, i64_of_wf w1, i64_of_wf w2, i64_of_wf w3, i64_of_wf w4, i64_of_wf w5⟩, f8⟩
theorem cellsInt_ : Try.prog.cellsOf 3 = 1 := by kernel_rfl
theorem cellsString_ : Try.prog.cellsOf 9 = 1 := by kernel_rfl
theorem cellsEffect_ : Try.prog.cellsOf 24 = 9 := by kernel_rfl
theorem cellsKeys_ : Try.prog.cellsOf 25 = 1 := by kernel_rfl
theorem cellsRates_ : Try.prog.cellsOf 26 = 1 := by kernel_rfl
theorem cellsRunning_ : Try.prog.cellsOf 28 = 15 := by kernel_rfl
/-- a running effect as an argument -/
def RunV (w : World) (v : Value) : Prop := ∃ (x : Run) (sv kv rv : Value), v = runV x sv kv rv ∧ RunAt w.heap.size w x sv kv rv ∧ RunFit x
set_option maxRecDepth 100000 in
theorem open_running {r : Reach} {b0 : Nat} {v : Value} {d : DataW H} {p : List MemPlace} (hv : Value.okWide Try.prog w r b0 28 v) (h : DataW.Trod enc Try.prog w 0 (fun _ => true) held 28 v d p) :
    ∃ a : Value, v = a ∧ RunV w a := by
  obtain ⟨cs, n, rfl, hl, hf⟩ := open_struct Try.underlying28 hv h
  rw [cellsRunning_] at hl
  obtain ⟨u0, u1, u2, u3, u4, u5, u6, u7, u8, u9, u10, u11, u12, u13, u14, rfl⟩ := slist15 hl
  obtain ⟨y0, k0⟩ := hf 0 _ rfl
  obtain ⟨y1, k1⟩ := hf 1 _ rfl
  obtain ⟨y2, k2⟩ := hf 2 _ rfl
  obtain ⟨y3, k3⟩ := hf 3 _ rfl
  obtain ⟨y4, k4⟩ := hf 4 _ rfl
  obtain ⟨y5, k5⟩ := hf 5 _ rfl
  obtain ⟨y6, k6⟩ := hf 6 _ rfl
  simp only [List.getElem_toArray, List.getElem_cons_zero, List.getElem_cons_succ, cellsInt_, cellsEffect_, cellsKeys_, cellsRates_, List.drop_zero, List.drop_succ_cons, List.take_succ_cons, List.take_zero] at k0 k1 k2 k3 k4 k5 k6
  obtain ⟨y, sv, e0, h0, f0⟩ := read_effect k0
  simp at e0
  obtain ⟨rfl, rfl, rfl, rfl, rfl, rfl, rfl, rfl, rfl⟩ := e0
  obtain ⟨kv, kl, e1, h1, f1⟩ := read_keys k1
  simp at e1
  subst e1
  obtain ⟨a2, rfl, w2⟩ := field_int Try.underlying3 k2
  obtain ⟨rv, rl, e3, h3, f3⟩ := read_rates k3
  simp at e3
  subst e3
  obtain ⟨a4, rfl, w4⟩ := field_int Try.underlying3 k4
  obtain ⟨a5, rfl, w5⟩ := field_int Try.underlying3 k5
  obtain ⟨a6, rfl, w6⟩ := field_int Try.underlying3 k6
  exact ⟨_, rfl, ⟨y, kl, a2, rl, a4, a5, a6⟩, _, _, _, rfl, ⟨h0, h1, h3⟩, f0, f1, f3, i64_of_wf w2, i64_of_wf w4, i64_of_wf w5, i64_of_wf w6⟩
end

/-! ### keys of maps -/
theorem laidOut_ : laidOutB Try.prog = true := by kernel_rfl
theorem keyRow_ : (47 : TypeId) < Try.prog.types.size := of_decide_eq_true (by kernel_rfl)
theorem keyAt2_ : Try.prog.keyTypeAt 2 47 = true := by kernel_rfl
theorem keyWide_ : (match Try.prog.underlying 47 with | some (.array _ _) | some (.struct _) => true | _ => false) = true := by kernel_rfl
set_option maxRecDepth 100000 in
theorem keyLaw_ : WideMaps.KeyLaw Try.prog 47 := deep_law_laid laidOut_ (m := 2) (by omega) keyRow_ keyAt2_ keyWide_
theorem keyed_ : Maps.Keyed Try.prog 47 := Maps.Keyed.of_law keyLaw_
theorem keyType_ : Try.prog.keyType 47 = true := by kernel_rfl
theorem keyCells_ : Try.prog.cellsOf 47 = 2 := by kernel_rfl
theorem i64_wf {a : Int} (h : I64 a) : (Lit.int .i64 a).wf = true := by
  unfold I64 at h
  simp [Lit.wf, IntKind.min, IntKind.max, IntKind.signed, IntKind.bits]
  omega
theorem keyLits_ (d : Nat) {k : Int × ByteArray} (h : KeyFit k) : Try.prog.keyLits (d + 2) 47 [.int .i64 k.1, .string k.2] = some [.int .i64 k.1, .string k.2.data.toList] := by
  obtain ⟨h1, h2⟩ := h
  have hw := i64_wf h1
  unfold Program.keyLits
  rw [Try.underlying47]
  simp [keyCells_, cellsInt_, Program.keyLits, Try.underlying3, Try.underlying9, hw, h2, cellsString_]
theorem keyFormed_ (k : Int × ByteArray) : (keyV k).formed Try.prog 47 = true := by
  unfold keyV Value.formed
  rw [Try.underlying47]
  simp [keyCells_]
theorem keyOf_key {k : Int × ByteArray} (h : KeyFit k) : keyOf Try.prog 47 (keyV k) = some (keyL k) := by
  unfold keyOf
  rw [Try.underlying47]
  simp only [keyType_, keyFormed_, Bool.and_self, if_true]
  obtain ⟨d, hd⟩ : ∃ d, Try.prog.types.size + 1 = d + 2 := by
    have h0 : (47 : Nat) < Try.prog.types.size := keyRow_
    generalize Try.prog.types.size = n at h0 ⊢
    exact ⟨n - 1, by omega⟩
  rw [hd, show (keyV k).cells.toList = [.int .i64 k.1, .string k.2] from rfl, keyLits_ d h]
  rfl
theorem keyL_inj {a b : Int × ByteArray} (ha : KeyFit a) (hb : KeyFit b) (h : keyL a = keyL b) : a = b := by
  have h1 := keyOf_key ha
  have h2 := keyOf_key hb
  rw [← h] at h2
  have h3 := keyed_.inj h1 h2
  unfold keyV at h3
  simp at h3
  obtain ⟨x, y⟩ := a
  obtain ⟨z, u⟩ := b
  obtain ⟨h4, h5⟩ := h3
  simp at h4 h5
  rw [h4, h5]
end Go.Proofs.Ytopmdeefcjdadaa
