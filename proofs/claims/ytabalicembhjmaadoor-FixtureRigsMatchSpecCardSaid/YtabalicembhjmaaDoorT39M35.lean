/- The parameter of a key. No walk in it. (printed by wip/gen/gen_find.py) The words of Find. (printed by wip/gen/gen_findtop.py) -/
import Derived.Test.YtabalicembhjmaaDoorT39M32
import Derived.Test.YtabalicembhjmaaDoorT39M34
import Derived.Test.YtabalicembhjmaaDoorT39M14
import Derived.Test.YtabalicembhjmaaDoorT39M31
import Derived.Test.YtabalicembhjmaaDoorT39M33

namespace Go.Proofs.YtabalicembhjmaaDoor
open Go.RowKit
set_option linter.unusedVariables false
set_option linter.unusedSimpArgs false

theorem TBox.set3 {W : World} {g : Nat} {T : TypeId} {a b c u0 u1 u2 : Value} (h : TBox W g T #[a, b, c]) : TBox (((W.setCell ⟨g, 0, none⟩ u0).setCell ⟨g, 1, none⟩ u1).setCell ⟨g, 2, none⟩ u2) g T #[u0, u1, u2] := by
  have hl := h.lt
  unfold TBox at *
  have k1 := heap_setCell_same _ _ 0 _ _ u0 h
  have k2 := heap_setCell_same _ _ 1 _ _ u1 k1
  have k3 := heap_setCell_same _ _ 2 _ _ u2 k2
  simpa using k3
theorem TBox.drew {W : World} {g : Nat} {T : TypeId} {cs : Array Value} (h : TBox W g T cs) : TBox W.drew g T cs := h
def findO (x : Rig) (n : Int) (nm : List UInt8) : Option Par := match x.units.find? (isNo n) with
  | none => none
  | some u => parOf (parsOf x.lib u) nm
theorem find_no {l : List Unt} {n : Int} (h : hasU l n = false) : l.find? (isNo n) = none := by
  rw [List.find?_eq_none]
  intro u hu c
  have : hasU l n = true := List.any_eq_true.2 ⟨u, hu, c⟩
  rw [this] at h; cases h
theorem find_pos {l : List Unt} (ha : AscU l) {n : Int} (h : hasU l n = true) : ∃ hp : posU l n < l.length, l.find? (isNo n) = some (l[posU l n]'hp) ∧ (l[posU l n]'hp).num = n := by
  obtain ⟨hp, h1⟩ := (hasU_at ha n).1 h
  refine ⟨hp, ?_, h1⟩
  have h2 := (idxU_has ha n).1 h
  rcases idxF_spec (isNo n) l with ⟨h3, _⟩ | ⟨k, hk, h3, h4⟩
  · unfold idxU at h2; rw [h3] at h2; omega
  · unfold idxU at h2
    rw [h3] at h2
    have : k = posU l n := by omega
    subst this
    exact h4
theorem findO_no {x : Rig} {n : Int} (h : hasU x.units n = false) (nm : List UInt8) : findO x n nm = none := by unfold findO; rw [find_no h]
theorem findO_yes {x : Rig} (hx : chkRig x = 0) {n : Int} (h : hasU x.units n = true) (nm : List UInt8) : ∃ (hp : posU x.units n < x.units.length) (p : Prf), (x.units[posU x.units n]'hp).num = n ∧ profOf x.lib (x.units[posU x.units n]'hp).nm = some p ∧ findO x n nm = parOf p.pars nm := by
  obtain ⟨hp, h1, h2⟩ := find_pos (asc_units hx) h
  obtain ⟨p, h3, _⟩ := par_right hx (List.getElem_mem hp)
  refine ⟨hp, p, h2, h3, ?_⟩
  unfold findO parsOf
  rw [h1]
  simp only [h3]
  rfl
end Go.Proofs.YtabalicembhjmaaDoor

namespace Go.Proofs.YtabalicembhjmaaDoor
open Go.RowKit
set_option linter.unusedVariables false
set_option linter.unusedSimpArgs false
def FBox (w : World) (lv uv : Value) (n : Int) (nm : ByteArray) (W : World) : Prop := Below (w.heap.size + 3) (((w.alloc (.cells #[lv, uv] 36)).alloc (.cells #[.int .i64 n, .string nm] 38)).alloc (.cells #[.string ⟨#[]⟩, .int .i64 0, .int .i64 0, .int .i64 0, .int .i64 0, .bool false, .slice none 0 0] 46)) W
theorem FBox.start (w : World) (lv uv : Value) (n : Int) (nm : ByteArray) : FBox w lv uv n nm (((w.alloc (.cells #[lv, uv] 36)).alloc (.cells #[.int .i64 n, .string nm] 38)).alloc (.cells #[.string ⟨#[]⟩, .int .i64 0, .int .i64 0, .int .i64 0, .int .i64 0, .bool false, .slice none 0 0] 46)) := Below.refl _ _
section
variable {w W W1 : World} {lv uv : Value} {n : Int} {nm : ByteArray}
theorem FBox.size (h : FBox w lv uv n nm W) : w.heap.size + 3 ≤ W.heap.size := by
  have := Below.size h
  simp at this
  omega
theorem FBox.bel (h : FBox w lv uv n nm W) : Below w.heap.size w W := ((((Below.refl _ _).alloc (Nat.le_refl _) _).alloc (by simp) _).alloc (by simp; omega) _).trans (Below.mono h (by omega))
theorem FBox.next (h : FBox w lv uv n nm W) (hb : Below W.heap.size W W1) : FBox w lv uv n nm W1 := Below.trans h (hb.mono h.size)
theorem FBox.rig (h : FBox w lv uv n nm W) : TBox W w.heap.size 36 #[lv, uv] := (Below.block h w.heap.size (by omega)).trans (((TBox.new w #[lv, uv] 36).alloc _).alloc _)
theorem FBox.key (h : FBox w lv uv n nm W) : TBox W (w.heap.size + 1) 38 #[.int .i64 n, .string nm] := by
  have h1 := TBox.new (w.alloc (.cells #[lv, uv] 36)) #[.int .i64 n, .string nm] 38
  simp only [World.size_alloc] at h1
  exact (Below.block h (w.heap.size + 1) (by omega)).trans (h1.alloc _)
theorem FBox.res (h : FBox w lv uv n nm W) : TBox W (w.heap.size + 2) 46 #[.string ⟨#[]⟩, .int .i64 0, .int .i64 0, .int .i64 0, .int .i64 0, .bool false, .slice none 0 0] := by
  have h1 := TBox.new ((w.alloc (.cells #[lv, uv] 36)).alloc (.cells #[.int .i64 n, .string nm] 38)) #[.string ⟨#[]⟩, .int .i64 0, .int .i64 0, .int .i64 0, .int .i64 0, .bool false, .slice none 0 0] 46
  simp only [World.size_alloc] at h1
  exact (Below.block h (w.heap.size + 2) (by omega)).trans h1
end
theorem st7_own {W : World} {g base s m : Nat} {T T' : TypeId} {cs : Array Value} {v : Value} {ys : List Value} (h : W.ownsRow base T' s v m ys) (hb : TBox W g T cs) (hT : T' ≠ T) (u0 u1 u2 u3 u4 u5 u6 : Value) : World.ownsRow (((((((W.setCell ⟨g, 0, none⟩ u0).setCell ⟨g, 1, none⟩ u1).setCell ⟨g, 2, none⟩ u2).setCell ⟨g, 3, none⟩ u3).setCell ⟨g, 4, none⟩ u4).setCell ⟨g, 5, none⟩ u5).setCell ⟨g, 6, none⟩ u6) base T' s v m ys := by
  have h0 := (Other.box hb (i := 0) u0).own h hT
  have b1 := hb.set 0 u0
  have h1 := (Other.box b1 (i := 1) u1).own h0 hT
  have b2 := b1.set 1 u1
  have h2 := (Other.box b2 (i := 2) u2).own h1 hT
  have b3 := b2.set 2 u2
  have h3 := (Other.box b3 (i := 3) u3).own h2 hT
  have b4 := b3.set 3 u3
  have h4 := (Other.box b4 (i := 4) u4).own h3 hT
  have b5 := b4.set 4 u4
  have h5 := (Other.box b5 (i := 5) u5).own h4 hT
  have b6 := b5.set 5 u5
  exact (Other.box b6 (i := 6) u6).own h5 hT
theorem st7_below {W w : World} {g B : Nat} (h : Below B w W) (hg : B ≤ g) (u0 u1 u2 u3 u4 u5 u6 : Value) : Below B w (((((((W.setCell ⟨g, 0, none⟩ u0).setCell ⟨g, 1, none⟩ u1).setCell ⟨g, 2, none⟩ u2).setCell ⟨g, 3, none⟩ u3).setCell ⟨g, 4, none⟩ u4).setCell ⟨g, 5, none⟩ u5).setCell ⟨g, 6, none⟩ u6) :=
  ((((((h.setCell (p := ⟨g, 0, none⟩) hg u0).setCell (p := ⟨g, 1, none⟩) hg u1).setCell (p := ⟨g, 2, none⟩) hg u2).setCell (p := ⟨g, 3, none⟩) hg u3).setCell (p := ⟨g, 4, none⟩) hg u4).setCell (p := ⟨g, 5, none⟩) hg u5).setCell (p := ⟨g, 6, none⟩) hg u6
/-- what Find gives -/
def findF (x : Rig) (n : Int) (nm : List UInt8) : Int := if chkRig x ≠ 0 then chkRig x else if (findO x n nm).isSome then 0 else 8
def findV (x : Rig) (n : Int) (nm : List UInt8) : Option Par := if chkRig x ≠ 0 then none else findO x n nm
theorem find_bad {x : Rig} {n : Int} {nm : List UInt8} (h : ¬ chkRig x = 0) : findF x n nm = chkRig x ∧ findV x n nm = none := ⟨if_pos h, if_pos h⟩
theorem find_none {x : Rig} {n : Int} {nm : List UInt8} (h : chkRig x = 0) (k : findO x n nm = none) : findF x n nm = 8 ∧ findV x n nm = none := by
  have e : ¬ chkRig x ≠ 0 := by simpa using h
  refine ⟨?_, ?_⟩
  · unfold findF; rw [if_neg e, k]; rfl
  · unfold findV; rw [if_neg e, k]
theorem find_some {x : Rig} {n : Int} {nm : List UInt8} {p : Par} (h : chkRig x = 0) (k : findO x n nm = some p) : findF x n nm = 0 ∧ findV x n nm = some p := by
  have e : ¬ chkRig x ≠ 0 := by simpa using h
  refine ⟨?_, ?_⟩
  · unfold findF; rw [if_neg e, k]; rfl
  · unfold findV; rw [if_neg e, k]
theorem rng_sizes {x : Rig} (h : chkRig x = 0) {n : Int} {nm : List UInt8} {p : Par} (k : findO x n nm = some p) : p.rngs.length ≤ 30 := by
  unfold findO at k
  cases hu : x.units.find? (isNo n) with
  | none => rw [hu] at k; cases k
  | some u =>
    rw [hu] at k
    have hm : u ∈ x.units := List.mem_of_find?_eq_some hu
    obtain ⟨q, hq, _⟩ := par_right h hm
    simp only at k
    have hp : p ∈ parsOf x.lib u := List.mem_of_find?_eq_some k
    have hpo : parsOf x.lib u = q.pars := by unfold parsOf; rw [hq]; rfl
    rw [hpo] at hp
    exact ((lib_sizes (chkRig_zero h).1).2 q (profOf_some hq).1).2 p hp
def par0 : Par := ⟨⟨#[]⟩, 0, 0, 0, 0, false, []⟩
theorem parR_val {B : Nat} {w : World} {o : Option Par} {v : Value} (h : ParR B w o v) : ∃ rv, v = .agg #[.string (o.getD par0).name, .int .i64 (o.getD par0).grp, .int .i64 (o.getD par0).sl, .int .i64 (o.getD par0).fine, .int .i64 (o.getD par0).dflt, .bool (o.getD par0).snap, rv] ∧ RngS B w rv (o.getD par0).rngs := by
  cases o with
  | none => exact ⟨.slice none 0 0, h, CellsS.nil _ _⟩
  | some p =>
    obtain ⟨rv, h1, h2⟩ := h
    exact ⟨rv, h1, h2⟩
end Go.Proofs.YtabalicembhjmaaDoor
