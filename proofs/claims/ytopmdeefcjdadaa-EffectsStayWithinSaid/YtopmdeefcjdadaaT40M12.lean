/- Running effects as arguments. Words of effects' Check; the cycle of an effect, of both sides. (printed by wip/gen/gen_efcheck.py) -/
import Derived.Test.YtopmdeefcjdadaaT40M11
import Derived.Test.YtopmdeefcjdadaaT40M01
import Derived.MapViews
import Derived.DeepKeys4
import Derived.Maps.Keyed
import Derived.Test.YtopmdeefcjdadaaT40M03

namespace Go.Proofs.Ytopmdeefcjdadaa
open Go.ChangeShapes Go.WideShapes Go.RowKit Go.Deep
set_option linter.unusedSimpArgs false
set_option linter.unusedVariables false

/-- a running effect; a key: its unit and its parameter's name; a rate: its time and its percentage -/
structure Run where
  ef : Eff
  keys : List (Int × ByteArray)
  start : Int
  rates : List (Int × Int)
  tin : Int
  tend : Int
  tout : Int
def kCells (l : List (Int × ByteArray)) : List Value := cells2 (fun k : Int × ByteArray => Value.int .i64 k.1) (fun k => .string k.2) l
def rCells (l : List (Int × Int)) : List Value := cells2 (fun k : Int × Int => Value.int .i64 k.1) (fun k => .int .i64 k.2) l
def KeyS (B : Nat) (w : World) (v : Value) (l : List (Int × ByteArray)) : Prop := CellsS B w v l.length (kCells l)
def RateS (B : Nat) (w : World) (v : Value) (l : List (Int × Int)) : Prop := CellsS B w v l.length (rCells l)
def RateFit (k : Int × Int) : Prop := I64 k.1 ∧ I64 k.2
def RunFit (x : Run) : Prop := EffFit x.ef ∧ (∀ k ∈ x.keys, KeyFit k) ∧ (∀ k ∈ x.rates, RateFit k) ∧ I64 x.start ∧ I64 x.tin ∧ I64 x.tend ∧ I64 x.tout
/-- a running effect's value -/
def runV (x : Run) (sv kv rv : Value) : Value := .agg #[.int .i64 x.ef.form, .int .i64 x.ef.low, .int .i64 x.ef.high, .int .i64 x.ef.cycle, .int .i64 x.ef.width, .int .i64 x.ef.spread, .bool x.ef.back, .bool x.ef.rel, sv, kv, .int .i64 x.start, rv, .int .i64 x.tin, .int .i64 x.tend, .int .i64 x.tout]
/-- what its slices hold -/
structure RunAt (B : Nat) (w : World) (x : Run) (sv kv rv : Value) : Prop where
  steps : StS B w sv x.ef.steps
  keys : KeyS B w kv x.keys
  rates : RateS B w rv x.rates
theorem RunAt.below {B : Nat} {w w' : World} {x : Run} {sv kv rv : Value} (h : RunAt B w x sv kv rv) (hb : Below B w w') : RunAt B w' x sv kv rv := ⟨h.steps.below hb, CellsS.below h.keys hb, CellsS.below h.rates hb⟩
theorem RunAt.more {B B' : Nat} {w : World} {x : Run} {sv kv rv : Value} (h : RunAt B w x sv kv rv) (hB : B ≤ B') : RunAt B' w x sv kv rv := ⟨h.steps.more hB, CellsS.more h.keys hB, CellsS.more h.rates hB⟩

section
variable {H : Type} {enc : TypeId × Value → H} {w : World} {held : Bool}
theorem slist15 {α : Type} {l : List α} (h : l.length = 15) : ∃ a b c d e f g i j k m n o p q, l = [a, b, c, d, e, f, g, i, j, k, m, n, o, p, q] := by
  match l, h with
  | [a, b, c, d, e, f, g, i, j, k, m, n, o, p, q], _ => exact ⟨a, b, c, d, e, f, g, i, j, k, m, n, o, p, q, rfl⟩
set_option maxRecDepth 100000 in
theorem read_keys {fuel : Nat} {cs : List Value} {x : DataW H × List MemPlace} (h : DataW.trod enc Try.prog w 0 (fun _ => true) held fuel 25 cs = some x) :
    ∃ v l, cs = [v] ∧ KeyS w.heap.size w v l ∧ ∀ s ∈ l, KeyFit s := by
  rcases open_slice Try.underlying25 h with ⟨rfl, _⟩ | ⟨a, len, cap, m, n, D, Pl, rfl, _, hl, hm, hmm, _, hx⟩
  · exact ⟨_, [], rfl, CellsS.nil _ _, by simp⟩
  · simp only [if_true] at hmm
    subst hmm
    have c3 : Try.prog.cellsOf 47 = 2 := by kernel_rfl
    have he : ∀ i, i < len → ∃ y : Int × ByteArray, w.cell? (a.add (i * 2)) = some (.int .i64 y.1) ∧ w.cell? ((a.add (i * 2)).add 1) = some (.string y.2) ∧ KeyFit y := by
      intro i hi
      obtain ⟨cs', h1, h2⟩ := hx i (by omega)
      rw [c3] at h1
      obtain ⟨_, hcl, hat⟩ := World.cells?_some h1
      obtain ⟨_, n', hf⟩ := open_fields1 Try.underlying47 (by kernel_rfl) c3 h2
      obtain ⟨u0, u1, rfl⟩ := list2 hcl
      obtain ⟨x1, z1, q1, m1⟩ := hf 0 _ rfl
      obtain ⟨x2, z2, q2, m2⟩ := hf 1 _ rfl
      simp at q1 q2
      subst q1 q2
      obtain ⟨a1, rfl, w1⟩ := field_int Try.underlying3 m1
      obtain ⟨a2, e2, _, w2⟩ := DataW.trod_string Try.underlying9 m2
      simp at e2
      subst e2
      refine ⟨⟨a1, a2⟩, ?_, hat 1 (by omega), i64_of_wf w1, w2⟩
      have := hat 0 (by omega)
      simpa [Addr.add] using this
    obtain ⟨Y, hY⟩ := choose_lt he
    refine ⟨_, (List.range len).map Y, rfl, ⟨some a, m, by simp, by simpa using hl, hm, fun hpos => ?_⟩, ?_⟩
    · have h0 : 0 < len := by simpa using hpos
      have hsp : a.spot = none := by
        have := World.cell?_spot (hY 0 h0).1
        simpa [Addr.add] using this
      obtain ⟨b, off, spot⟩ := a
      simp only at hsp
      subst hsp
      refine ⟨b, off, rfl, ?_, fun j u hu => ?_⟩
      · have := World.block_lt_of_cell? w _ (hY 0 h0).1
        simpa [Addr.add] using this
      · have hj : j < (kCells ((List.range len).map Y)).length := (List.getElem?_eq_some_iff.1 hu).1
        rw [show (kCells ((List.range len).map Y)).length = len * 2 by unfold kCells; rw [cells2_length]; simp] at hj
        have hi : j / 2 < len := by omega
        obtain ⟨g1, g2⟩ := cells2_get (fun k : Int × ByteArray => Value.int .i64 k.1) (fun k => .string k.2) ((List.range len).map Y) (j / 2) (by simpa using hi)
        obtain ⟨c1, c2, _⟩ := hY (j / 2) hi
        rw [addr_plus] at c1
        rw [addr_plus, addr_plus] at c2
        simp only [List.getElem_map, List.getElem_range] at g1 g2
        rcases Nat.mod_two_eq_zero_or_one j with e | e
        · have : j = j / 2 * 2 := by omega
          rw [this] at hu ⊢
          obtain rfl := Option.some.inj (g1.symm.trans hu)
          exact c1
        · have : j = j / 2 * 2 + 1 := by omega
          rw [this] at hu ⊢
          obtain rfl := Option.some.inj (g2.symm.trans hu)
          exact c2
    · intro y hy
      simp at hy
      obtain ⟨i, hi, rfl⟩ := hy
      exact (hY i hi).2.2
set_option maxRecDepth 100000 in
theorem read_rates {fuel : Nat} {cs : List Value} {x : DataW H × List MemPlace} (h : DataW.trod enc Try.prog w 0 (fun _ => true) held fuel 26 cs = some x) :
    ∃ v l, cs = [v] ∧ RateS w.heap.size w v l ∧ ∀ s ∈ l, RateFit s := by
  rcases open_slice Try.underlying26 h with ⟨rfl, _⟩ | ⟨a, len, cap, m, n, D, Pl, rfl, _, hl, hm, hmm, _, hx⟩
  · exact ⟨_, [], rfl, CellsS.nil _ _, by simp⟩
  · simp only [if_true] at hmm
    subst hmm
    have c3 : Try.prog.cellsOf 67 = 2 := by kernel_rfl
    have he : ∀ i, i < len → ∃ y : Int × Int, w.cell? (a.add (i * 2)) = some (.int .i64 y.1) ∧ w.cell? ((a.add (i * 2)).add 1) = some (.int .i64 y.2) ∧ RateFit y := by
      intro i hi
      obtain ⟨cs', h1, h2⟩ := hx i (by omega)
      rw [c3] at h1
      obtain ⟨_, hcl, hat⟩ := World.cells?_some h1
      obtain ⟨_, n', hf⟩ := open_fields1 Try.underlying67 (by kernel_rfl) c3 h2
      obtain ⟨u0, u1, rfl⟩ := list2 hcl
      obtain ⟨x1, z1, q1, m1⟩ := hf 0 _ rfl
      obtain ⟨x2, z2, q2, m2⟩ := hf 1 _ rfl
      simp at q1 q2
      subst q1 q2
      obtain ⟨a1, rfl, w1⟩ := field_int Try.underlying3 m1
      obtain ⟨a2, rfl, w2⟩ := field_int Try.underlying3 m2
      refine ⟨⟨a1, a2⟩, ?_, hat 1 (by omega), i64_of_wf w1, i64_of_wf w2⟩
      have := hat 0 (by omega)
      simpa [Addr.add] using this
    obtain ⟨Y, hY⟩ := choose_lt he
    refine ⟨_, (List.range len).map Y, rfl, ⟨some a, m, by simp, by simpa using hl, hm, fun hpos => ?_⟩, ?_⟩
    · have h0 : 0 < len := by simpa using hpos
      have hsp : a.spot = none := by
        have := World.cell?_spot (hY 0 h0).1
        simpa [Addr.add] using this
      obtain ⟨b, off, spot⟩ := a
      simp only at hsp
      subst hsp
      refine ⟨b, off, rfl, ?_, fun j u hu => ?_⟩
      · have := World.block_lt_of_cell? w _ (hY 0 h0).1
        simpa [Addr.add] using this
      · have hj : j < (rCells ((List.range len).map Y)).length := (List.getElem?_eq_some_iff.1 hu).1
        rw [show (rCells ((List.range len).map Y)).length = len * 2 by unfold rCells; rw [cells2_length]; simp] at hj
        have hi : j / 2 < len := by omega
        obtain ⟨g1, g2⟩ := cells2_get (fun k : Int × Int => Value.int .i64 k.1) (fun k => .int .i64 k.2) ((List.range len).map Y) (j / 2) (by simpa using hi)
        obtain ⟨c1, c2, _⟩ := hY (j / 2) hi
        rw [addr_plus] at c1
        rw [addr_plus, addr_plus] at c2
        simp only [List.getElem_map, List.getElem_range] at g1 g2
        rcases Nat.mod_two_eq_zero_or_one j with e | e
        · have : j = j / 2 * 2 := by omega
          rw [this] at hu ⊢
          obtain rfl := Option.some.inj (g1.symm.trans hu)
          exact c1
        · have : j = j / 2 * 2 + 1 := by omega
          rw [this] at hu ⊢
          obtain rfl := Option.some.inj (g2.symm.trans hu)
          exact c2
    · intro y hy
      simp at hy
      obtain ⟨i, hi, rfl⟩ := hy
      exact (hY i hi).2.2
set_option maxRecDepth 100000 in
theorem read_effect {fuel : Nat} {cs : List Value} {x : DataW H × List MemPlace} (h : DataW.trod enc Try.prog w 0 (fun _ => true) held fuel 24 cs = some x) :
    ∃ (y : Eff) (sv : Value), cs = [.int .i64 y.form, .int .i64 y.low, .int .i64 y.high, .int .i64 y.cycle, .int .i64 y.width, .int .i64 y.spread, .bool y.back, .bool y.rel, sv] ∧ StS w.heap.size w sv y.steps ∧ EffFit y := by
  have hc : Try.prog.cellsOf 24 = 9 := by kernel_rfl
  obtain ⟨hl, n, hf⟩ := open_fields1 Try.underlying24 (by kernel_rfl) hc h
  obtain ⟨u0, u1, u2, u3, u4, u5, u6, u7, u8, rfl⟩ := slist9 hl
  obtain ⟨x0, y0, q0, k0⟩ := hf 0 _ rfl
  obtain ⟨x1, y1, q1, k1⟩ := hf 1 _ rfl
  obtain ⟨x2, y2, q2, k2⟩ := hf 2 _ rfl
  obtain ⟨x3, y3, q3, k3⟩ := hf 3 _ rfl
  obtain ⟨x4, y4, q4, k4⟩ := hf 4 _ rfl
  obtain ⟨x5, y5, q5, k5⟩ := hf 5 _ rfl
  obtain ⟨x6, y6, q6, k6⟩ := hf 6 _ rfl
  obtain ⟨x7, y7, q7, k7⟩ := hf 7 _ rfl
  obtain ⟨x8, y8, q8, k8⟩ := hf 8 _ rfl
  simp at q0 q1 q2 q3 q4 q5 q6 q7 q8
  subst q0 q1 q2 q3 q4 q5 q6 q7 q8
  obtain ⟨a0, rfl, w0⟩ := field_int Try.underlying3 k0
  obtain ⟨a1, rfl, w1⟩ := field_int Try.underlying3 k1
  obtain ⟨a2, rfl, w2⟩ := field_int Try.underlying3 k2
  obtain ⟨a3, rfl, w3⟩ := field_int Try.underlying3 k3
  obtain ⟨a4, rfl, w4⟩ := field_int Try.underlying3 k4
  obtain ⟨a5, rfl, w5⟩ := field_int Try.underlying3 k5
  obtain ⟨a6, e6, _⟩ := DataW.trod_bool Try.underlying4 k6
  simp at e6
  subst e6
  obtain ⟨a7, e7, _⟩ := DataW.trod_bool Try.underlying4 k7
  simp at e7
  subst e7
  obtain ⟨v8, l8, e8, h8, f8⟩ := read_steps k8
  simp at e8
  subst e8
  exact ⟨⟨a0, a1, a2, a3, a4, a5, a6, a7, l8⟩, _, rfl, h8, ⟨i64_of_wf w0, i64_of_wf w1, i64_of_wf w2, i64_of_wf w3, i64_of_wf w4, i64_of_wf w5⟩, f8⟩
theorem cellsEffect_ : Try.prog.cellsOf 24 = 9 := by kernel_rfl
theorem cellsKeys_ : Try.prog.cellsOf 25 = 1 := by kernel_rfl
theorem cellsRates_ : Try.prog.cellsOf 26 = 1 := by kernel_rfl
theorem cellsRunning_ : Try.prog.cellsOf 28 = 15 := by kernel_rfl
/-- a running effect as an argument -/
def RunV (w : World) (v : Value) : Prop := ∃ (x : Run) (sv kv rv : Value), v = runV x sv kv rv ∧ RunAt w.heap.size w x sv kv rv ∧ RunFit x
set_option maxRecDepth 100000 in
theorem open_running {r : Reach} {b0 : Nat} {v : Value} {d : DataW H} {p : List MemPlace} (hv : Value.okWide Try.prog w r b0 28 v) (h : DataW.Trod enc Try.prog w 0 (fun _ => true) held 28 v d p) :
    ∃ a : Value, v = a ∧ RunV w a := by
  obtain ⟨cs, n, rfl, hl, hf⟩ := open_struct Try.underlying28 hv h
  rw [cellsRunning_] at hl
  obtain ⟨u0, u1, u2, u3, u4, u5, u6, u7, u8, u9, u10, u11, u12, u13, u14, rfl⟩ := slist15 hl
  obtain ⟨y0, k0⟩ := hf 0 _ rfl
  obtain ⟨y1, k1⟩ := hf 1 _ rfl
  obtain ⟨y2, k2⟩ := hf 2 _ rfl
  obtain ⟨y3, k3⟩ := hf 3 _ rfl
  obtain ⟨y4, k4⟩ := hf 4 _ rfl
  obtain ⟨y5, k5⟩ := hf 5 _ rfl
  obtain ⟨y6, k6⟩ := hf 6 _ rfl
  simp only [List.getElem_toArray, List.getElem_cons_zero, List.getElem_cons_succ, cellsInt_, cellsEffect_, cellsKeys_, cellsRates_, List.drop_zero, List.drop_succ_cons, List.take_succ_cons, List.take_zero] at k0 k1 k2 k3 k4 k5 k6
  obtain ⟨y, sv, e0, h0, f0⟩ := read_effect k0
  simp at e0
  obtain ⟨rfl, rfl, rfl, rfl, rfl, rfl, rfl, rfl, rfl⟩ := e0
  obtain ⟨kv, kl, e1, h1, f1⟩ := read_keys k1
  simp at e1
  subst e1
  obtain ⟨a2, rfl, w2⟩ := field_int Try.underlying3 k2
  obtain ⟨rv, rl, e3, h3, f3⟩ := read_rates k3
  simp at e3
  subst e3
  obtain ⟨a4, rfl, w4⟩ := field_int Try.underlying3 k4
  obtain ⟨a5, rfl, w5⟩ := field_int Try.underlying3 k5
  obtain ⟨a6, rfl, w6⟩ := field_int Try.underlying3 k6
  exact ⟨_, rfl, ⟨y, kl, a2, rl, a4, a5, a6⟩, _, _, _, rfl, ⟨h0, h1, h3⟩, f0, f1, f3, i64_of_wf w2, i64_of_wf w4, i64_of_wf w5, i64_of_wf w6⟩
end

end Go.Proofs.Ytopmdeefcjdadaa

namespace Go.Proofs.Ytopmdeefcjdadaa
open Go.RowKit
set_option linter.unusedVariables false
set_option linter.unusedSimpArgs false

set_option maxHeartbeats 400000 in
theorem eLevel_R (n : Int) (w : World) : Calls Try.prog 73 #[.int .i64 n] w fun e w' => e = .returned (.bool (inR n 0 65535)) ∧ w = w' := by
  go_enter Try.func73, Try.ntmps73
  go_wp2_with (go_at_call 30; refine (within_R _ _ _ _).mono ?_; rintro e w' ⟨rfl, rfl⟩)
  go_ret
  exact ⟨rfl, rfl⟩
/-- whether a step is right -/
def stpB (s : Stp) : Bool := inR s.lv 0 65535 && inR s.hold 0 3600000 && inR s.fade 0 3600000
def sumS : List Stp → Int
  | [] => 0
  | s :: r => s.hold + s.fade + sumS r
theorem sumS_append (l m : List Stp) : sumS (l ++ m) = sumS l + sumS m := by
  induction l with
  | nil => simp [sumS]
  | cons s r ih => simp only [List.cons_append, sumS, ih]; omega
theorem sumS_take (l : List Stp) (k : Nat) (h : k < l.length) : sumS (l.take (k + 1)) = sumS (l.take k) + (l[k].hold + l[k].fade) := by
  rw [List.take_succ_eq_append_getElem h, sumS_append]
  simp [sumS]
theorem stpB_le {s : Stp} (h : stpB s = true) : (0 ≤ s.lv ∧ s.lv ≤ 65535) ∧ (0 ≤ s.hold ∧ s.hold ≤ 3600000) ∧ 0 ≤ s.fade ∧ s.fade ≤ 3600000 := by
  simp [stpB, inR] at h
  omega
theorem sumS_le (l : List Stp) (h : l.all stpB = true) : 0 ≤ sumS l ∧ sumS l ≤ 7200000 * l.length := by
  induction l with
  | nil => simp [sumS]
  | cons s r ih =>
    simp only [List.all_cons, Bool.and_eq_true] at h
    have h1 := ih h.2
    have h2 := stpB_le h.1
    simp only [sumS, List.length_cons]
    omega
theorem all_takeS {l : List Stp} (h : l.all stpB = true) (k : Nat) : (l.take k).all stpB = true := by
  rw [List.all_eq_true] at h ⊢
  exact fun x hx => h x (List.mem_of_mem_take hx)
/-- the fault of an effect -/
def chkB (fb f4 f7 w0 c0 l0 lb hb hl cb wb sb l50 st cy : Bool) : Int :=
  if !fb then 4 else if (!f4 && !w0) || (f7 && !c0) || (!f7 && !l0) then 3 else if !lb || !hb || hl then 1 else if (!f7 && !cb) || !wb || !sb then 1 else if !f7 then 0 else if l0 then 8 else if l50 then 2 else if !st then 1 else if cy then 0 else 1
def chkF (form low high cycle width spread : Int) (l : List Stp) : Int :=
  chkB (inR form 1 7) (form == 4) (form == 7) (width == 0) (cycle == 0) (l.length == 0) (inR low 0 65535) (inR high 0 65535) (decide (high < low)) (inR cycle 1 3600000) (inR width 0 1000) (inR spread (-10000) 10000) (decide (50 < l.length)) (l.all stpB) (inR (cycle + sumS l) 1 3600000)
def chkEf (x : Eff) : Int := chkF x.form x.low x.high x.cycle x.width x.spread x.steps
/-- the cells of the steps, whatever grows behind the block W -/
def StepsAt (B : Nat) (w : World) (ao : Option Addr) (l : List Stp) : Prop := l ≠ [] → ∃ b off, ao = some ⟨b, off, none⟩ ∧ b < B ∧ ∀ i (h : i < l.length), StpC w b (off + i * 3) l[i]

set_option maxHeartbeats 2000000 in
theorem cycle_any (form low high cycle width spread : Int) (back rel : Bool) (ao : Option Addr) (cap : Nat) (l : List Stp) (w : World) (hs : StepsAt w.heap.size w ao l) (hl : l.length ≤ 50) (hall : l.all stpB = true) (hc : 0 ≤ cycle ∧ cycle ≤ 3600000) :
    Calls Try.prog 55 #[(.agg #[.int .i64 form, .int .i64 low, .int .i64 high, .int .i64 cycle, .int .i64 width, .int .i64 spread, .bool back, .bool rel, .slice ao l.length cap])] w fun e w' => e = .returned (.int .i64 (cycle + sumS l)) ∧ Below w.heap.size w w' := by
  have HS := Lib.hid hs
  have HSB := Lib.hid (fun k => sumS_le _ (all_takeS hall k))
  have HK := Lib.hid (fun k (h : k < l.length) => sumS_take l k h)
  have HA := Lib.hid (fun k (h : k < l.length) => stpB_le (List.all_eq_true.1 hall _ (List.getElem_mem h)))
  have HEND := Lib.hid (show sumS (l.take l.length) = sumS l by rw [List.take_length])
  skip
  clear hs hall
  go_enter Try.func55, Try.ntmps55
  go_wp2_with fail
  go_loopw [3, 11] (fun n i wr => ∃ k : Nat, k ≤ l.length ∧ i = .int .i64 k ∧ n = .int .i64 (cycle + sumS (l.take k)) ∧ Below w.heap.size w wr ∧ w.heap.size + 1 ≤ wr.heap.size) (fun _ i _ => l.length - (intOf i).toNat)
  case atStart => exact ⟨0, Nat.zero_le _, rfl, by simp [sumS], (Below.refl _ _).alloc (Nat.le_refl _) _, by simp⟩
  case round =>
    obtain ⟨k, hk, rfl, rfl, hbw, hzw⟩ := hrel
    by_cases hlt : k < l.length
    · obtain ⟨b, off, rfl, hbb, hc9⟩ := HS.out (by intro h; subst h; simp at hlt)
      obtain ⟨c0, c1, c2⟩ := hc9 k hlt
      have d0 : wr.cell? ⟨b, off + k * 3, none⟩ = some (.int .i64 l[k].lv) := (hbw.cell (p := ⟨b, off + k * 3, none⟩) hbb).trans c0
      have d1 : wr.cell? ⟨b, off + k * 3 + 1, none⟩ = some (.int .i64 l[k].hold) := (hbw.cell (p := ⟨b, off + k * 3 + 1, none⟩) hbb).trans c1
      have d2 : wr.cell? ⟨b, off + k * 3 + 2, none⟩ = some (.int .i64 l[k].fade) := (hbw.cell (p := ⟨b, off + k * 3 + 2, none⟩) hbb).trans c2
      have hbr : b < wr.heap.size := by omega
      have HB := Lib.hid hbw
      have HN := Lib.hid (HK.out k hlt)
      have s1 := HSB.out k
      obtain ⟨_, s3, s4⟩ := HA.out k hlt
      have s2 : (l.take k).length ≤ 50 := by rw [List.length_take]; omega
      obtain ⟨s5, s6⟩ := s1
      have s7 : sumS (l.take k) ≤ 360000000 := by omega
      clear hbw c0 c1 c2 hc9 hbb s6
      go_wp2_with fail
      go_roundw
      case rel =>
        first
          | exact ⟨k + 1, by omega, by go_num, by rw [HN.out] <;> (congr 1; omega), HB.out.alloc (by omega) _, by simp; omega⟩
          | ((repeat apply Exists.intro); refine ⟨⟨k + 1, by omega, by go_num, by rw [HN.out] <;> (congr 1; omega), HB.out.alloc (by omega) _, by simp; omega⟩, ?_⟩; rfl)
      case measure => simp [intOf]; omega
    · have hkk : k = l.length := by omega
      have HB := Lib.hid hbw
      subst hkk
      clear hbw
      go_wp2_with fail
      go_ret
      exact ⟨by rw [HEND.out]; rfl, HB.out⟩

set_option maxHeartbeats 2000000 in
theorem rcycle_any (form low high cycle width spread : Int) (back rel : Bool) (ao : Option Addr) (cap : Nat) (l : List Stp) (w : World) (h7 : form = 7) (hs : StepsAt w.heap.size w ao l) (hl : l.length ≤ 50) (hall : l.all stpB = true) (hc : 0 ≤ cycle ∧ cycle ≤ 3600000) :
    Calls Try.prog 79 #[(.agg #[.int .i64 form, .int .i64 low, .int .i64 high, .int .i64 cycle, .int .i64 width, .int .i64 spread, .bool back, .bool rel, .slice ao l.length cap])] w fun e w' => e = .returned (.int .i64 (sumS l)) ∧ Below w.heap.size w w' := by
  have HS := Lib.hid hs
  have HSB := Lib.hid (fun k => sumS_le _ (all_takeS hall k))
  have HK := Lib.hid (fun k (h : k < l.length) => sumS_take l k h)
  have HA := Lib.hid (fun k (h : k < l.length) => stpB_le (List.all_eq_true.1 hall _ (List.getElem_mem h)))
  have HEND := Lib.hid (show sumS (l.take l.length) = sumS l by rw [List.take_length])
  subst h7
  clear hs hall
  go_enter Try.func79, Try.ntmps79
  go_wp2_with fail
  go_loopw [3, 14] (fun n i wr => ∃ k : Nat, k ≤ l.length ∧ i = .int .i64 k ∧ n = .int .i64 (sumS (l.take k)) ∧ Below w.heap.size w wr ∧ w.heap.size + 1 ≤ wr.heap.size) (fun _ i _ => l.length - (intOf i).toNat)
  case atStart => exact ⟨0, Nat.zero_le _, rfl, by simp [sumS], (Below.refl _ _).alloc (Nat.le_refl _) _, by simp⟩
  case round =>
    obtain ⟨k, hk, rfl, rfl, hbw, hzw⟩ := hrel
    by_cases hlt : k < l.length
    · obtain ⟨b, off, rfl, hbb, hc9⟩ := HS.out (by intro h; subst h; simp at hlt)
      obtain ⟨c0, c1, c2⟩ := hc9 k hlt
      have d0 : wr.cell? ⟨b, off + k * 3, none⟩ = some (.int .i64 l[k].lv) := (hbw.cell (p := ⟨b, off + k * 3, none⟩) hbb).trans c0
      have d1 : wr.cell? ⟨b, off + k * 3 + 1, none⟩ = some (.int .i64 l[k].hold) := (hbw.cell (p := ⟨b, off + k * 3 + 1, none⟩) hbb).trans c1
      have d2 : wr.cell? ⟨b, off + k * 3 + 2, none⟩ = some (.int .i64 l[k].fade) := (hbw.cell (p := ⟨b, off + k * 3 + 2, none⟩) hbb).trans c2
      have hbr : b < wr.heap.size := by omega
      have HB := Lib.hid hbw
      have HN := Lib.hid (HK.out k hlt)
      have s1 := HSB.out k
      obtain ⟨_, s3, s4⟩ := HA.out k hlt
      have s2 : (l.take k).length ≤ 50 := by rw [List.length_take]; omega
      obtain ⟨s5, s6⟩ := s1
      have s7 : sumS (l.take k) ≤ 360000000 := by omega
      clear hbw c0 c1 c2 hc9 hbb s6
      go_wp2_with fail
      go_roundw
      case rel =>
        first
          | exact ⟨k + 1, by omega, by go_num, by rw [HN.out] <;> (congr 1; omega), HB.out.alloc (by omega) _, by simp; omega⟩
          | ((repeat apply Exists.intro); refine ⟨⟨k + 1, by omega, by go_num, by rw [HN.out] <;> (congr 1; omega), HB.out.alloc (by omega) _, by simp; omega⟩, ?_⟩; rfl)
      case measure => simp [intOf]; omega
    · have hkk : k = l.length := by omega
      have HB := Lib.hid hbw
      subst hkk
      clear hbw
      go_wp2_with fail
      go_ret
      exact ⟨by rw [HEND.out]; rfl, HB.out⟩
end Go.Proofs.Ytopmdeefcjdadaa
