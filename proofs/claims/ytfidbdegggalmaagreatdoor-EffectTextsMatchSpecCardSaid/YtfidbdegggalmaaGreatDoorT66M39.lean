/- api.Key as a key of maps. (printed by wip/gen/gen_keylaw.py) Running effects as arguments. The fault of a running effect; words of its check. -/
import Derived.Test.YtfidbdegggalmaaGreatDoorT66M01
import Derived.MapViews
import Derived.DeepKeys4
import Derived.Maps.Keyed
import Derived.Test.YtfidbdegggalmaaGreatDoorT66M02
import Derived.Test.YtfidbdegggalmaaGreatDoorT66M20
import Derived.Test.YtfidbdegggalmaaGreatDoorT66M32

namespace Go.Proofs.YtfidbdegggalmaaGreatDoor
open Go.ChangeShapes Go.WideShapes Go.RowKit Go.Deep
set_option linter.unusedSimpArgs false
set_option linter.unusedVariables false

def KeyFit (k : Int × ByteArray) : Prop := I64 k.1 ∧ k.2.size ≤ maxLen
def keyL (k : Int × ByteArray) : Lit := .string (keyBytes [.int .i64 k.1, .string k.2.data.toList])
def keyV (k : Int × ByteArray) : Value := .agg #[.int .i64 k.1, .string k.2]

theorem cellsInt_ : Tryz.prog.cellsOf 3 = 1 := by kernel_rfl
theorem cellsString_ : Tryz.prog.cellsOf 9 = 1 := by kernel_rfl
/-! ### keys of maps -/
theorem laidOut_ : laidOutB Tryz.prog = true := by kernel_rfl
theorem i64_wf {a : Int} (h : I64 a) : (Lit.int .i64 a).wf = true := by
  unfold I64 at h
  simp [Lit.wf, IntKind.min, IntKind.max, IntKind.signed, IntKind.bits]
  omega
end Go.Proofs.YtfidbdegggalmaaGreatDoor

namespace Go.Proofs.YtfidbdegggalmaaGreatDoor
open Go.ChangeShapes Go.WideShapes Go.RowKit Go.Deep
set_option linter.unusedSimpArgs false
set_option linter.unusedVariables false

/-- a running effect; a key: its unit and its parameter's name; a rate: its time and its percentage -/
structure Run where
  ef : Eff
  keys : List (Int × ByteArray)
  start : Int
  rates : List (Int × Int)
  tin : Int
  tend : Int
  tout : Int
def kCells (l : List (Int × ByteArray)) : List Value := cells2 (fun k : Int × ByteArray => Value.int .i64 k.1) (fun k => .string k.2) l
def rCells (l : List (Int × Int)) : List Value := cells2 (fun k : Int × Int => Value.int .i64 k.1) (fun k => .int .i64 k.2) l
def KeyS (B : Nat) (w : World) (v : Value) (l : List (Int × ByteArray)) : Prop := CellsS B w v l.length (kCells l)
def RateS (B : Nat) (w : World) (v : Value) (l : List (Int × Int)) : Prop := CellsS B w v l.length (rCells l)
def RateFit (k : Int × Int) : Prop := I64 k.1 ∧ I64 k.2
def RunFit (x : Run) : Prop := EffFit x.ef ∧ (∀ k ∈ x.keys, KeyFit k) ∧ (∀ k ∈ x.rates, RateFit k) ∧ I64 x.start ∧ I64 x.tin ∧ I64 x.tend ∧ I64 x.tout
/-- a running effect's value -/
def runV (x : Run) (sv kv rv : Value) : Value := .agg #[.int .i64 x.ef.form, .int .i64 x.ef.low, .int .i64 x.ef.high, .int .i64 x.ef.cycle, .int .i64 x.ef.width, .int .i64 x.ef.spread, .bool x.ef.back, .bool x.ef.rel, sv, kv, .int .i64 x.start, rv, .int .i64 x.tin, .int .i64 x.tend, .int .i64 x.tout]
/-- what its slices hold -/
structure RunAt (B : Nat) (w : World) (x : Run) (sv kv rv : Value) : Prop where
  steps : StS B w sv x.ef.steps
  keys : KeyS B w kv x.keys
  rates : RateS B w rv x.rates
theorem RunAt.below {B : Nat} {w w' : World} {x : Run} {sv kv rv : Value} (h : RunAt B w x sv kv rv) (hb : Below B w w') : RunAt B w' x sv kv rv := ⟨h.steps.below hb, CellsS.below h.keys hb, CellsS.below h.rates hb⟩
theorem RunAt.more {B B' : Nat} {w : World} {x : Run} {sv kv rv : Value} (h : RunAt B w x sv kv rv) (hB : B ≤ B') : RunAt B' w x sv kv rv := ⟨h.steps.more hB, CellsS.more h.keys hB, CellsS.more h.rates hB⟩

section
variable {H : Type} {enc : TypeId × Value → H} {w : World} {held : Bool}
theorem slist15 {α : Type} {l : List α} (h : l.length = 15) : ∃ a b c d e f g i j k m n o p q, l = [a, b, c, d, e, f, g, i, j, k, m, n, o, p, q] := by
  match l, h with
  | [a, b, c, d, e, f, g, i, j, k, m, n, o, p, q], _ => exact ⟨a, b, c, d, e, f, g, i, j, k, m, n, o, p, q, rfl⟩
set_option maxRecDepth 100000 in
theorem read_effect {fuel : Nat} {cs : List Value} {x : DataW H × List MemPlace} (h : DataW.trod enc Tryz.prog w 0 (fun _ => true) held fuel 24 cs = some x) :
    ∃ (y : Eff) (sv : Value), cs = [.int .i64 y.form, .int .i64 y.low, .int .i64 y.high, .int .i64 y.cycle, .int .i64 y.width, .int .i64 y.spread, .bool y.back, .bool y.rel, sv] ∧ StS w.heap.size w sv y.steps ∧ EffFit y := by
  have hc : Tryz.prog.cellsOf 24 = 9 := by kernel_rfl
  obtain ⟨hl, n, hf⟩ := open_fields1 Tryz.underlying24 (by kernel_rfl) hc h
  obtain ⟨u0, u1, u2, u3, u4, u5, u6, u7, u8, rfl⟩ := slist9 hl
  obtain ⟨x0, y0, q0, k0⟩ := hf 0 _ rfl
  obtain ⟨x1, y1, q1, k1⟩ := hf 1 _ rfl
  obtain ⟨x2, y2, q2, k2⟩ := hf 2 _ rfl
  obtain ⟨x3, y3, q3, k3⟩ := hf 3 _ rfl
  obtain ⟨x4, y4, q4, k4⟩ := hf 4 _ rfl
  obtain ⟨x5, y5, q5, k5⟩ := hf 5 _ rfl
  obtain ⟨x6, y6, q6, k6⟩ := hf 6 _ rfl
  obtain ⟨x7, y7, q7, k7⟩ := hf 7 _ rfl
  obtain ⟨x8, y8, q8, k8⟩ := hf 8 _ rfl
  simp at q0 q1 q2 q3 q4 q5 q6 q7 q8
  subst q0 q1 q2 q3 q4 q5 q6 q7 q8
  obtain ⟨a0, rfl, w0⟩ := field_int Tryz.underlying3 k0
  obtain ⟨a1, rfl, w1⟩ := field_int Tryz.underlying3 k1
  obtain ⟨a2, rfl, w2⟩ := field_int Tryz.underlying3 k2
  obtain ⟨a3, rfl, w3⟩ := field_int Tryz.underlying3 k3
  obtain ⟨a4, rfl, w4⟩ := field_int Tryz.underlying3 k4
  obtain ⟨a5, rfl, w5⟩ := field_int Tryz.underlying3 k5
  obtain ⟨a6, e6, _⟩ := DataW.trod_bool Tryz.underlying4 k6
  simp at e6
  subst e6
  obtain ⟨a7, e7, _⟩ := DataW.trod_bool Tryz.underlying4 k7
  simp at e7
  subst e7
  obtain ⟨v8, l8, e8, h8, f8⟩ := read_steps k8
  simp at e8
  subst e8
  exact ⟨⟨a0, a1, a2, a3, a4, a5, a6, a7, l8⟩, _, rfl, h8, ⟨i64_of_wf w0, i64_of_wf w1, i64_of_wf w2, i64_of_wf w3, i64_of_wf w4, i64_of_wf w5⟩, f8⟩
theorem cellsEffect_ : Tryz.prog.cellsOf 24 = 9 := by kernel_rfl
/-- a running effect as an argument -/
def RunV (w : World) (v : Value) : Prop := ∃ (x : Run) (sv kv rv : Value), v = runV x sv kv rv ∧ RunAt w.heap.size w x sv kv rv ∧ RunFit x
end

end Go.Proofs.YtfidbdegggalmaaGreatDoor

namespace Go.Proofs.YtfidbdegggalmaaGreatDoor
open Go.RowKit
set_option linter.unusedVariables false
set_option linter.unusedSimpArgs false

theorem row2r {k : IntKind} {W : World} {b : Nat} {x y : Int} (h1 : W.cell? ⟨b, 0, none⟩ = some (.int k x)) (h2 : W.cell? ⟨b, 1, none⟩ = some (.int k y)) : RowAt k W b 0 [x, y] := by
  intro i h
  match i, h with
  | 0, _ => simpa using h1
  | 1, _ => simpa using h2
theorem row3r {k : IntKind} {W : World} {b : Nat} {x y z : Int} (h1 : W.cell? ⟨b, 0, none⟩ = some (.int k x)) (h2 : W.cell? ⟨b, 1, none⟩ = some (.int k y)) (h3 : W.cell? ⟨b, 2, none⟩ = some (.int k z)) : RowAt k W b 0 [x, y, z] := by
  intro i h
  match i, h with
  | 0, _ => simpa using h1
  | 1, _ => simpa using h2
  | 2, _ => simpa using h3
theorem row4r {k : IntKind} {W : World} {b : Nat} {x y z u : Int} (h1 : W.cell? ⟨b, 0, none⟩ = some (.int k x)) (h2 : W.cell? ⟨b, 1, none⟩ = some (.int k y)) (h3 : W.cell? ⟨b, 2, none⟩ = some (.int k z)) (h4 : W.cell? ⟨b, 3, none⟩ = some (.int k u)) : RowAt k W b 0 [x, y, z, u] := by
  intro i h
  match i, h with
  | 0, _ => simpa using h1
  | 1, _ => simpa using h2
  | 2, _ => simpa using h3
  | 3, _ => simpa using h4
def fi2 (x y : Int) : Int := if x = 0 then y else x
def fi3 (x y z : Int) : Int := if x = 0 then fi2 y z else x
def fi4 (x y z u : Int) : Int := if x = 0 then fi3 y z u else x
theorem fi2_eq (x y : Int) : firstF [x, y] = fi2 x y := by
  simp only [firstF, fi2]
  split
  · split <;> simp_all
  · rfl
theorem fi3_eq (x y z : Int) : firstF [x, y, z] = fi3 x y z := by
  unfold fi3
  rw [← fi2_eq]
  rfl
theorem fi4_eq (x y z u : Int) : firstF [x, y, z, u] = fi4 x y z u := by
  unfold fi4
  rw [← fi3_eq]
  rfl
/-- the first fault of rates -/
def rF (start : Int) : Option Int → List (Int × Int) → Int
  | _, [] => 0
  | p, r :: l => if inR r.1 start 36000000 && inR r.2 0 1000 then (if p.any (fun q => decide (r.1 ≤ q)) then 7 else rF start (some r.1) l) else 1
def prevT (l : List (Int × Int)) (k : Nat) : Option Int := if k = 0 then none else (l[k - 1]?).map (·.1)
theorem rF_step (start : Int) (l : List (Int × Int)) (k : Nat) (h : k < l.length) :
    rF start (prevT l k) (l.drop k) = if inR l[k].1 start 36000000 && inR l[k].2 0 1000 then (if (prevT l k).any (fun q => decide (l[k].1 ≤ q)) then 7 else rF start (prevT l (k + 1)) (l.drop (k + 1))) else 1 := by
  rw [List.drop_eq_getElem_cons h]
  simp only [rF]
  have : prevT l (k + 1) = some l[k].1 := by simp [prevT, List.getElem?_eq_getElem h]
  rw [this]
theorem prevT_pos (l : List (Int × Int)) (k : Nat) (h0 : 0 < k) (h : k < l.length) : prevT l k = some (l[k - 1]'(by omega)).1 := by
  unfold prevT
  rw [if_neg (by omega), List.getElem?_eq_getElem (by omega)]
  rfl
def bad1 (start tin tend tout : Int) : Bool := !inR start 0 36000000 || !inR tin 0 36000000 || !inR tout 0 36000000 || (decide (tend ≠ -1) && !inR tend start 36000000)
def chkTm (start tin tend tout : Int) (rates : List (Int × Int)) : Int :=
  if bad1 start tin tend tout then 1 else if decide (tend = -1) && decide (tout ≠ 0) then 3 else if 50 < rates.length then 2 else rF start none rates
def chkKy (ke : Int) (keys : List (Int × ByteArray)) : Int := fi3 ke (whenW (decide (keys.length = 0)) 8) (whenW (decide (400 < keys.length)) 2)
/-- the fault of a running effect without a rig -/
def chkRun (x : Run) : Int :=
  if chkKy (chkEf x.ef) x.keys ≠ 0 then chkKy (chkEf x.ef) x.keys else if ¬ x.keys.Nodup then 6 else chkTm x.start x.tin x.tend x.tout x.rates
theorem nodup_take_succ {α : Type} (l : List α) (k : Nat) (h : k < l.length) : (l.take (k + 1)).Nodup ↔ (l.take k).Nodup ∧ l[k] ∉ l.take k := by
  rw [List.take_succ_eq_append_getElem h, List.nodup_append]
  simp
  intro _
  constructor
  · intro h1 h2; exact h1 _ h2 rfl
  · intro h1 a ha e; subst e; exact h1 ha
theorem not_nodup_of {α : Type} (l : List α) (k : Nat) (h : k < l.length) (hin : l[k] ∈ l.take k) : ¬ l.Nodup := by
  intro hn
  have : (l.take (k + 1)).Nodup := hn.sublist (List.take_sublist _ _)
  exact ((nodup_take_succ l k h).1 this).2 hin
end Go.Proofs.YtfidbdegggalmaaGreatDoor
