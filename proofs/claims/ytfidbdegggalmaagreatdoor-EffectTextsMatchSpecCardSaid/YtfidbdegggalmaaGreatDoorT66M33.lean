/- What Read hands back. (printed by wip/gen/gen_ereadtop.py) -/
import Derived.Test.YtfidbdegggalmaaGreatDoorT66M23
import Derived.Test.YtfidbdegggalmaaGreatDoorT66M32

namespace Go.Proofs.YtfidbdegggalmaaGreatDoor
open Go.RowKit
set_option linter.unusedVariables false
set_option linter.unusedSimpArgs false

def zEff : Eff := ⟨0, 0, 0, 0, 0, 0, false, false, []⟩
noncomputable def rdE (s : ByteArray) : Int := if 4000 < s.size then 2 else match prsE (wordsB 32 s) with
  | none => 9
  | some E => chkEf E
noncomputable def rdR (s : ByteArray) : Eff := if 4000 < s.size then zEff else match prsE (wordsB 32 s) with
  | none => zEff
  | some E => if chkEf E = 0 then E else zEff
def ReadPost (s : ByteArray) (w : World) (e : Ending) (w' : World) : Prop := Below w.heap.size w w' ∧ ∃ sv, e = .returned (.tuple #[effV (rdR s) sv, .int .i64 (rdE s)]) ∧ StS w'.heap.size w' sv (rdR s).steps
theorem StS.ret9 {B B0 g : Nat} {W : World} {v : Value} {l : List Stp} (h : StS B W v l) (hf : FreshS B0 v) (hg : g < B0) (hB : B ≤ W.heap.size) (u0 : Value) (u1 : Value) (u2 : Value) (u3 : Value) (u4 : Value) (u5 : Value) (u6 : Value) (u7 : Value) (u8 : Value) : StS (((((((((W.setCell ⟨g, 0, none⟩ u0).setCell ⟨g, 1, none⟩ u1).setCell ⟨g, 2, none⟩ u2).setCell ⟨g, 3, none⟩ u3).setCell ⟨g, 4, none⟩ u4).setCell ⟨g, 5, none⟩ u5).setCell ⟨g, 6, none⟩ u6).setCell ⟨g, 7, none⟩ u7).setCell ⟨g, 8, none⟩ u8).heap.size (((((((((W.setCell ⟨g, 0, none⟩ u0).setCell ⟨g, 1, none⟩ u1).setCell ⟨g, 2, none⟩ u2).setCell ⟨g, 3, none⟩ u3).setCell ⟨g, 4, none⟩ u4).setCell ⟨g, 5, none⟩ u5).setCell ⟨g, 6, none⟩ u6).setCell ⟨g, 7, none⟩ u7).setCell ⟨g, 8, none⟩ u8) v l :=
  (h.set9 hf hg u0 u1 u2 u3 u4 u5 u6 u7 u8).more (by simp; exact hB)
theorem stsAt_below {w W : World} {ao : Option Addr} {l : List Stp} (h : StepsAt w.heap.size w ao l) (hb : Below w.heap.size w W) : StepsAt W.heap.size W ao l := fun hne => by
  obtain ⟨b, off, k1, k2, k3⟩ := h hne
  exact ⟨b, off, k1, Nat.lt_of_lt_of_le k2 hb.size, fun i hi => ⟨(hb.cell (p := ⟨b, off + i * 3, none⟩) k2).trans (k3 i hi).1, (hb.cell (p := ⟨b, off + i * 3 + 1, none⟩) k2).trans (k3 i hi).2.1, (hb.cell (p := ⟨b, off + i * 3 + 2, none⟩) k2).trans (k3 i hi).2.2⟩⟩
theorem stsAt_of {w : World} {ao : Option Addr} {n cap : Nat} {l : List Stp} (h : StS w.heap.size w (.slice ao n cap) l) : n = l.length ∧ l.length ≤ maxLen ∧ StepsAt w.heap.size w ao l := by
  obtain ⟨ao', cap', e, h1, h2⟩ := h
  injection e with e1 e2 e3
  subst e1 e2
  exact ⟨rfl, h1, h2⟩
end Go.Proofs.YtfidbdegggalmaaGreatDoor
