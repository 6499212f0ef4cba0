/- Keys, settings as arguments. -/
import Derived.Test.YtabalicembhjmaaDoorT37M14

namespace Go.Proofs.YtabalicembhjmaaDoor
open Go.ChangeShapes Go.WideShapes Go.RowKit Go.Deep
set_option linter.unusedSimpArgs false
set_option linter.unusedVariables false

/-- a setting: a unit, a parameter, a level -/
structure Stg where
  unit : Int
  par : ByteArray
  lv : Int
instance : Inhabited Stg := ⟨⟨0, ByteArray.empty, 0⟩⟩
def stgC (s : Stg) : List Value := [.int .i64 s.unit, .string s.par, .int .i64 s.lv]
def StgS (B : Nat) (w : World) (v : Value) (l : List Stg) : Prop := CellsS B w v l.length (l.flatMap stgC)
def StgFit (s : Stg) : Prop := I64 s.unit ∧ s.par.size ≤ maxLen ∧ I64 s.lv
theorem StgS.below {B : Nat} {w w' : World} {v : Value} {l : List Stg} (h : StgS B w v l) (hb : Below B w w') : StgS B w' v l := CellsS.below h hb
theorem StgS.more {B B' : Nat} {w : World} {v : Value} {l : List Stg} (h : StgS B w v l) (hB : B ≤ B') : StgS B' w v l := CellsS.more h hB
theorem StgS.get {B : Nat} {w : World} {v : Value} {l : List Stg} (h : StgS B w v l) (hl : 0 < l.length) :
    ∃ b off cap, v = .slice (some ⟨b, off, none⟩) l.length cap ∧ b < B ∧ l.length ≤ maxLen ∧ ∀ k (hk : k < l.length) (W : World), Below B w W →
      W.cell? ⟨b, off + k * 3, none⟩ = some (.int .i64 l[k].unit) ∧ W.cell? ⟨b, off + k * 3 + 1, none⟩ = some (.string l[k].par) ∧ W.cell? ⟨b, off + k * 3 + 2, none⟩ = some (.int .i64 l[k].lv) := by
  obtain ⟨b, off, cap, rfl, h1, h2, h3⟩ := CellsS.rec h (n := 3) (fun _ => rfl) hl
  refine ⟨b, off, cap, rfl, h1, h2, fun k hk W hW => ?_⟩
  exact ⟨(hW.cell (p := ⟨b, off + k * 3, none⟩) h1).trans (h3 k hk 0 _ (by omega) rfl), (hW.cell (p := ⟨b, off + k * 3 + 1, none⟩) h1).trans (h3 k hk 1 _ (by omega) rfl), (hW.cell (p := ⟨b, off + k * 3 + 2, none⟩) h1).trans (h3 k hk 2 _ (by omega) rfl)⟩

section
variable {H : Type} {enc : TypeId × Value → H} {w : World} {held : Bool}
set_option maxRecDepth 100000 in
theorem read_keyC {fuel : Nat} {cs : List Value} {x : DataW H × List MemPlace} (h : DataW.trod enc Tryd.prog w 0 (fun _ => true) held fuel 38 cs = some x) :
    ∃ (n : Int) (s : ByteArray), cs = [.int .i64 n, .string s] ∧ I64 n ∧ s.size ≤ maxLen := by
  have hc : Tryd.prog.cellsOf 38 = 2 := by kernel_rfl
  obtain ⟨hl, n, hf⟩ := open_fields1 Tryd.underlying38 (by kernel_rfl) hc h
  obtain ⟨u0, u1, rfl⟩ := list2 hl
  obtain ⟨x0, y0, q0, k0⟩ := hf 0 _ rfl
  obtain ⟨x1, y1, q1, k1⟩ := hf 1 _ rfl
  simp at q0 q1
  subst q0 q1
  obtain ⟨a0, rfl, w0⟩ := field_int Tryd.underlying3 k0
  obtain ⟨a1, rfl, w1⟩ := field_string Tryd.underlying9 k1
  exact ⟨a0, a1, rfl, i64_of_wf w0, w1⟩
theorem fxInt_ : Tryd.prog.cellsOf 3 = 1 := by kernel_rfl
theorem fxKey_ : Tryd.prog.cellsOf 38 = 2 := by kernel_rfl
/-- settings as an argument -/
def StgW (w : World) (v : Value) : Prop := ∃ l : List Stg, StgS w.heap.size w v l ∧ ∀ p ∈ l, StgFit p
end
end Go.Proofs.YtabalicembhjmaaDoor
