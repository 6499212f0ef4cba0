/- Clashes of units are marks that are taken. No walk in it. What a patch's text says. No walk in it. (printed by wip/gen/gen_patchread.py) Boxes known by their block and type; what changes rows and boxes of one type leaves those of others. No program in it. Keys, settings as arguments. -/
import Derived.Test.YtppbagllhmeenaaGreatDoorT62M18
import Derived.Test.YtppbagllhmeenaaGreatDoorT62M09
import Derived.Test.YtppbagllhmeenaaGreatDoorT62M10
import Derived.Test.YtppbagllhmeenaaGreatDoorT62M14
import Derived.Test.YtppbagllhmeenaaGreatDoorT62M11
import Derived.Laws.AppendOwn
import Derived.Test.YtppbagllhmeenaaGreatDoorT62M15

namespace Go.Proofs.YtppbagllhmeenaaGreatDoor
open Go.RowKit
set_option linter.unusedVariables false
set_option linter.unusedSimpArgs false

def usOf (lib : List Prf) (l : List Unt) : List (Unt × Int) := l.map (fun u => (u, sizeOf' lib u))
theorem usOf_snoc (lib : List Prf) (l : List Unt) (k : Nat) (h : k < l.length) : usOf lib (l.take (k + 1)) = usOf lib (l.take k) ++ [(l[k], sizeOf' lib l[k])] := by
  unfold usOf
  rw [List.take_succ_eq_append_getElem h, List.map_append]; rfl
theorem size_of {lib : List Prf} {u : Unt} {p : Prf} (h : profOf lib u.nm = some p) : sizeOf' lib u = p.size := by simp [sizeOf', h]
theorem size_pos {lib : List Prf} (hl : chkLib lib = 0) {u : Unt} {p : Prf} (h : profOf lib u.nm = some p) : 1 ≤ p.size ∧ p.size ≤ 512 := (chkPrf_zero (chkLib_prf hl (profOf_some h).1)).2.1
/-- units clash just where one's slots are taken already -/
theorem clash_free {lib : List Prf} (hl : chkLib lib = 0) (pre : List Unt) (hp : ∀ x ∈ pre, ∃ p, profOf lib x.nm = some p) (u : Unt) (p : Prf) (hu : profOf lib u.nm = some p) (hb : untBad u p.size = false) :
    pre.any (clashU lib u) = !freeN (usedB (usOf lib pre) u.univ) u.addr p.size.toNat := by
  obtain ⟨b1, b2, b3⟩ := untBad_false hb
  have hs := size_pos hl hu
  have hsu := size_of hu
  have key : pre.any (clashU lib u) = true ↔ ¬ freeN (usedB (usOf lib pre) u.univ) u.addr p.size.toNat = true := by
    rw [freeN_iff, List.any_eq_true]
    constructor
    · rintro ⟨x, hx, hc⟩ hf
      obtain ⟨q, hq⟩ := hp x hx
      have hsq := size_pos hl hq
      have hsx := size_of hq
      simp only [clashU, lastOf, hsu, hsx, Bool.and_eq_true, decide_eq_true_eq] at hc
      obtain ⟨⟨c1, c2⟩, c3⟩ := hc
      obtain ⟨m, hm1, hm2, hm3, hm4⟩ : ∃ m : Int, u.addr ≤ m ∧ m < u.addr + p.size ∧ x.addr ≤ m ∧ m < x.addr + q.size := by
        by_cases c : u.addr ≤ x.addr
        · exact ⟨x.addr, c, by omega, by omega, by omega⟩
        · exact ⟨u.addr, by omega, by omega, by omega, by omega⟩
      have := (hf m hm1 (by omega)).2
      have : usedB (usOf lib pre) u.univ m = true := by
        unfold usedB
        rw [List.any_eq_true]
        exact ⟨(x, sizeOf' lib x), List.mem_map.2 ⟨x, hx, rfl⟩, by simp only [hsx, Bool.and_eq_true, decide_eq_true_eq]; exact ⟨c1, hm3, hm4⟩⟩
      simp_all
    · intro hf
      by_cases c : ∃ x ∈ pre, clashU lib u x = true
      · exact c
      · refine absurd (fun m h1 h2 => ⟨by omega, ?_⟩) hf
        unfold usedB
        rw [List.any_eq_false]
        intro y hy
        obtain ⟨x, hx, rfl⟩ := List.mem_map.1 hy
        obtain ⟨q, hq⟩ := hp x hx
        have hsx := size_of hq
        intro hcon
        simp only [hsx, Bool.and_eq_true, decide_eq_true_eq] at hcon
        obtain ⟨c1, c2, c3⟩ := hcon
        refine c ⟨x, hx, ?_⟩
        simp only [clashU, lastOf, hsu, hsx, Bool.and_eq_true, decide_eq_true_eq]
        exact ⟨⟨c1, by omega⟩, by omega⟩
  cases h : freeN (usedB (usOf lib pre) u.univ) u.addr p.size.toNat <;> simp_all
theorem clash_none {lib : List Prf} (pre : List Unt) (u : Unt) (h : ∀ x ∈ usOf lib pre, x.1.univ ≠ u.univ) : pre.any (clashU lib u) = false := by
  rw [List.any_eq_false]
  intro x hx
  have := h (x, sizeOf' lib x) (List.mem_map.2 ⟨x, hx, rfl⟩)
  simp [clashU, this]
theorem pre_known {lib : List Prf} {units : List Unt} {k : Nat} (hk : k ≤ units.length) (h : ∀ j (hj : j < units.length), j < k → untF lib (units.take j) units[j] = 0) : ∀ x ∈ units.take k, ∃ p, profOf lib x.nm = some p := by
  intro x hx
  obtain ⟨j, hj, rfl⟩ := List.getElem_of_mem hx
  rw [List.length_take] at hj
  have h1 := h j (by omega) (by omega)
  obtain ⟨_, _, ⟨p, hp, _⟩, _⟩ := untF_zero h1
  exact ⟨p, by rw [List.getElem_take]; exact hp⟩
theorem parS_shape {B : Nat} {w : World} {v : Value} {l : List Par} (h : ParS B w v l) : ∃ ao cap, v = .slice ao l.length cap := by
  obtain ⟨lv, hlv, hcs, _⟩ := h
  obtain ⟨ao, cap, rfl, _⟩ := CellsS.shape hcs
  exact ⟨ao, cap, by rw [← hlv]; simp⟩
theorem prfS_shape {B : Nat} {w : World} {v : Value} {l : List Prf} (h : PrfS B w v l) : ∃ ao cap, v = .slice ao l.length cap := by
  obtain ⟨lv, hlv, hcs, _⟩ := h
  obtain ⟨ao, cap, rfl, _⟩ := CellsS.shape hcs
  exact ⟨ao, cap, by rw [← hlv]; simp⟩
theorem usOf_len (lib : List Prf) (l : List Unt) : (usOf lib l).length = l.length := by simp [usOf]
end Go.Proofs.YtppbagllhmeenaaGreatDoor

namespace Go.Proofs.YtppbagllhmeenaaGreatDoor
open Go.RowKit
set_option linter.unusedVariables false
set_option linter.unusedSimpArgs false

/-- the line of a unit, by its words -/
structure WordsU (L : List ByteArray) : Prop where
  len : L.length = 3
  row : rowB (L.getD 1 ⟨#[]⟩).data.toList = true
  num : NumS (L.getD 0 ⟨#[]⟩) 9
  pair : PairOk 47 (L.getD 2 ⟨#[]⟩)
def LineU (s : ByteArray) : Prop := WordsU (wordsB 32 s)
def untW (L : List ByteArray) : Unt := ⟨valS (L.getD 0 ⟨#[]⟩), L.getD 1 ⟨#[]⟩, valS (cutA (L.getD 2 ⟨#[]⟩) 47), valS (cutB (L.getD 2 ⟨#[]⟩) 47)⟩
def untV (s : ByteArray) : Unt := untW (wordsB 32 s)
/-- whether line k is wrong -/
def BadU (wh : Bool) (L : List ByteArray) (k : Nat) : Prop := (∃ h : k < L.length, ¬ LineU L[k]) ∨ (wh = false ∧ k + 1 = L.length)
open Classical in
noncomputable def rpB (s : ByteArray) : Option Nat := (List.range (linesL s).length).find? fun k => decide (BadU (linesW s) (linesL s) k)
def rpR (lib : List Prf) (s : ByteArray) : Rig := ⟨lib, (linesL s).map untV⟩
def noRigP : Rig := ⟨[], []⟩
/-- the fault, the line, the rig of a patch -/
noncomputable def rpX (lib : List Prf) (s : ByteArray) : Int × Int × Rig :=
  if chkLib lib ≠ 0 then (chkLib lib, 0, noRigP) else if 60000 < s.size then (2, 0, noRigP) else match rpB s with
    | some k => (9, (k : Int) + 1, noRigP)
    | none => if chkRig (rpR lib s) = 0 then (0, 0, rpR lib s) else (chkRig (rpR lib s), 0, noRigP)
theorem find_range (p : Nat → Bool) : ∀ (n k : Nat), k < n → (∀ j, j < k → p j = false) → p k = true → (List.range n).find? p = some k := by
  intro n k hk h1 h2
  rw [List.find?_range_eq_some]
  refine ⟨h2, by simpa using hk, fun j hj => ?_⟩
  simp [h1 j hj]
theorem find_none (p : Nat → Bool) (n : Nat) (h : ∀ j, j < n → p j = false) : (List.range n).find? p = none := by
  rw [List.find?_eq_none]
  intro x hx
  rw [h x (List.mem_range.1 hx)]
  decide

theorem rp_lib {lib : List Prf} {s : ByteArray} (h : chkLib lib ≠ 0) : rpX lib s = (chkLib lib, 0, noRigP) := if_pos h
theorem rp_large {lib : List Prf} {s : ByteArray} (h : chkLib lib = 0) (h2 : 60000 < s.size) : rpX lib s = (2, 0, noRigP) := by
  unfold rpX
  rw [if_neg (by rw [h]; decide), if_pos h2]
open Classical in
theorem rp_bad {lib : List Prf} {s : ByteArray} (hl : chkLib lib = 0) (h : ¬ 60000 < s.size) {k : Nat} (hk : k < (linesL s).length) (h1 : ∀ j, j < k → ¬ BadU (linesW s) (linesL s) j) (h2 : BadU (linesW s) (linesL s) k) : rpX lib s = (9, (k : Int) + 1, noRigP) := by
  have e : rpB s = some k := find_range _ _ k hk (fun j hj => decide_eq_false (h1 j hj)) (decide_eq_true h2)
  unfold rpX
  rw [if_neg (by rw [hl]; decide), if_neg h, e]
open Classical in
theorem rp_good {lib : List Prf} {s : ByteArray} (hl : chkLib lib = 0) (h : ¬ 60000 < s.size) (h1 : ∀ j, j < (linesL s).length → ¬ BadU (linesW s) (linesL s) j) : rpX lib s = if chkRig (rpR lib s) = 0 then (0, 0, rpR lib s) else (chkRig (rpR lib s), 0, noRigP) := by
  have e : rpB s = none := find_none _ _ (fun j hj => decide_eq_false (h1 j hj))
  unfold rpX
  rw [if_neg (by rw [hl]; decide), if_neg h, e]
theorem map_takeU {α β : Type} (f : α → β) (l : List α) (k : Nat) (h : k < l.length) : (l.take (k + 1)).map f = (l.take k).map f ++ [f l[k]] := by
  rw [List.take_succ_eq_append_getElem h, List.map_append]
  rfl
theorem line_three {s : ByteArray} {a b c : ByteArray} (h : wordsB 32 s = [a, b, c]) : (LineU s ↔ rowB b.data.toList = true ∧ NumS a 9 ∧ PairOk 47 c) ∧ untV s = ⟨valS a, b, valS (cutA c 47), valS (cutB c 47)⟩ := by
  unfold LineU untV
  rw [h]
  exact ⟨⟨fun h => ⟨h.row, h.num, h.pair⟩, fun h => ⟨rfl, h.1, h.2.1, h.2.2⟩⟩, rfl⟩
end Go.Proofs.YtppbagllhmeenaaGreatDoor

namespace Go.Proofs.YtppbagllhmeenaaGreatDoor
open Go.RowKit
set_option linter.unusedVariables false
set_option linter.unusedSimpArgs false

/-- block b of W holds these cells, of this type -/
def TBox (W : World) (b : Nat) (T : TypeId) (cs : Array Value) : Prop := W.heap[b]? = some (.cells cs T)
theorem TBox.new (w : World) (cs : Array Value) (T : TypeId) : TBox (w.alloc (.cells cs T)) w.heap.size T cs := heap_alloc_new w _
theorem TBox.lt {W : World} {b : Nat} {T : TypeId} {cs : Array Value} (h : TBox W b T cs) : b < W.heap.size := by
  unfold TBox at h
  by_cases c : b < W.heap.size
  · exact c
  · rw [Array.getElem?_eq_none (by omega)] at h; cases h
theorem TBox.below {W W' : World} {b : Nat} {T : TypeId} {cs : Array Value} (h : TBox W b T cs) (hb : Below W.heap.size W W') : TBox W' b T cs := (hb.block b h.lt).trans h
theorem TBox.alloc {W : World} {b : Nat} {T : TypeId} {cs : Array Value} (h : TBox W b T cs) (o : Obj) : TBox (W.alloc o) b T cs := h.below ((Below.refl _ _).alloc (Nat.le_refl _) o)
theorem TBox.cell {W : World} {b i : Nat} {T : TypeId} {cs : Array Value} {v : Value} (h : TBox W b T cs) (hi : cs[i]? = some v) : W.cell? ⟨b, i, none⟩ = some v := by
  unfold TBox at h
  simp [World.cell?, h, hi]
theorem TBox.set {W : World} {b : Nat} {T : TypeId} {cs : Array Value} (h : TBox W b T cs) (i : Nat) (v : Value) : TBox (W.setCell ⟨b, i, none⟩ v) b T (cs.setIfInBounds i v) := by
  unfold TBox at *
  exact heap_setCell_same W b i cs T v h
theorem TBox.frozen {W : World} {b : Nat} {T : TypeId} {cs : Array Value} (h : TBox W b T cs) (i : Nat) : W.frozen? ⟨b, i, none⟩ = false := frozen_of_row W b i cs T h
/-- rows of other types grow, or boxes of other types are written: these rows stay -/
def Other (w w' : World) (T' : TypeId) : Prop := ∃ r, w.grownBy w' r ∧ ∀ g, r = some g → ∃ cs fz, w.heap[g]? = some (.cells cs T' fz)
theorem Other.row {w w' : World} {T' : TypeId} {base s n : Nat} {v : Value} {xs : List Value} (h : w.ownsRow base T' s v n xs) (hg : w.grownBy w' v.ownBlock) : Other w w' T' := by
  refine ⟨_, hg, fun g hgg => ?_⟩
  rcases h.2 with ⟨rfl, _⟩ | ⟨g', cap, cur, rfl, _, h1, _⟩
  · simp [Value.ownBlock] at hgg
  · simp [Value.ownBlock] at hgg
    subst hgg
    exact ⟨_, _, h1⟩
theorem Other.box {w : World} {T' : TypeId} {b i : Nat} {cs : Array Value} (h : TBox w b T' cs) (v : Value) : Other w (w.setCell ⟨b, i, none⟩ v) T' :=
  ⟨some b, ⟨rfl, rfl, rfl, by simp, fun k _ hne => heap_setCell_other w ⟨b, i, none⟩ k v (fun e => hne (by simp [e]))⟩, fun g hg => by cases hg; exact ⟨_, _, h⟩⟩
theorem Other.own {w w' : World} {T' : TypeId} (h : Other w w' T') {base s n : Nat} {T : TypeId} {v : Value} {xs : List Value} (ho : w.ownsRow base T s v n xs) (hT : T ≠ T') : w'.ownsRow base T s v n xs := by
  obtain ⟨r, hg, hr⟩ := h
  refine ho.kept hg ?_
  rcases ho.2 with ⟨rfl, _⟩ | ⟨g, cap, cur, rfl, _, h1, _⟩
  · exact .inl rfl
  · refine .inr ?_
    cases r with
    | none => simp [Value.ownBlock]
    | some g' =>
      obtain ⟨cs, fz, h2⟩ := hr g' rfl
      simp only [Value.ownBlock, ne_eq, Option.some.injEq]
      intro e
      subst e
      rw [h1] at h2
      injection h2 with h2
      injection h2 with _ h3
      exact hT h3
theorem Other.tbox {w w' : World} {T' T : TypeId} (h : Other w w' T') {b : Nat} {cs : Array Value} (ho : TBox w b T cs) (hT : T ≠ T') : TBox w' b T cs := by
  obtain ⟨r, hg, hr⟩ := h
  refine (hg.block b ho.lt ?_).trans ho
  intro e
  obtain ⟨cs', fz, h2⟩ := hr b e.symm
  unfold TBox at ho
  rw [ho] at h2
  injection h2 with h2
  injection h2 with _ h3
  exact hT h3
theorem Other.size {w w' : World} {T' : TypeId} (h : Other w w' T') : w.heap.size ≤ w'.heap.size := by
  obtain ⟨r, hg, _⟩ := h
  exact hg.size
theorem Other.refl (w : World) (T : TypeId) : Other w w T := ⟨none, ⟨rfl, rfl, rfl, Nat.le_refl _, fun _ _ _ => rfl⟩, by simp⟩
theorem TBox.setOther {W : World} {b b' i : Nat} {T : TypeId} {cs : Array Value} (h : TBox W b T cs) (hb : b ≠ b') (v : Value) : TBox (W.setCell ⟨b', i, none⟩ v) b T cs := (Below.heap_setCell W ⟨b', i, none⟩ v b (by simpa using hb)).trans h
end Go.Proofs.YtppbagllhmeenaaGreatDoor

namespace Go.Proofs.YtppbagllhmeenaaGreatDoor
open Go.ChangeShapes Go.WideShapes Go.RowKit Go.Deep
set_option linter.unusedSimpArgs false
set_option linter.unusedVariables false

/-- a setting: a unit, a parameter, a level -/
structure Stg where
  unit : Int
  par : ByteArray
  lv : Int
instance : Inhabited Stg := ⟨⟨0, ByteArray.empty, 0⟩⟩
def stgC (s : Stg) : List Value := [.int .i64 s.unit, .string s.par, .int .i64 s.lv]
def StgS (B : Nat) (w : World) (v : Value) (l : List Stg) : Prop := CellsS B w v l.length (l.flatMap stgC)
def StgFit (s : Stg) : Prop := I64 s.unit ∧ s.par.size ≤ maxLen ∧ I64 s.lv
theorem StgS.below {B : Nat} {w w' : World} {v : Value} {l : List Stg} (h : StgS B w v l) (hb : Below B w w') : StgS B w' v l := CellsS.below h hb
theorem StgS.more {B B' : Nat} {w : World} {v : Value} {l : List Stg} (h : StgS B w v l) (hB : B ≤ B') : StgS B' w v l := CellsS.more h hB
theorem StgS.get {B : Nat} {w : World} {v : Value} {l : List Stg} (h : StgS B w v l) (hl : 0 < l.length) :
    ∃ b off cap, v = .slice (some ⟨b, off, none⟩) l.length cap ∧ b < B ∧ l.length ≤ maxLen ∧ ∀ k (hk : k < l.length) (W : World), Below B w W →
      W.cell? ⟨b, off + k * 3, none⟩ = some (.int .i64 l[k].unit) ∧ W.cell? ⟨b, off + k * 3 + 1, none⟩ = some (.string l[k].par) ∧ W.cell? ⟨b, off + k * 3 + 2, none⟩ = some (.int .i64 l[k].lv) := by
  obtain ⟨b, off, cap, rfl, h1, h2, h3⟩ := CellsS.rec h (n := 3) (fun _ => rfl) hl
  refine ⟨b, off, cap, rfl, h1, h2, fun k hk W hW => ?_⟩
  exact ⟨(hW.cell (p := ⟨b, off + k * 3, none⟩) h1).trans (h3 k hk 0 _ (by omega) rfl), (hW.cell (p := ⟨b, off + k * 3 + 1, none⟩) h1).trans (h3 k hk 1 _ (by omega) rfl), (hW.cell (p := ⟨b, off + k * 3 + 2, none⟩) h1).trans (h3 k hk 2 _ (by omega) rfl)⟩

section
variable {H : Type} {enc : TypeId × Value → H} {w : World} {held : Bool}
theorem fxInt_ : Tryz.prog.cellsOf 3 = 1 := by kernel_rfl
/-- settings as an argument -/
def StgW (w : World) (v : Value) : Prop := ∃ l : List Stg, StgS w.heap.size w v l ∧ ∀ p ∈ l, StgFit p
end
end Go.Proofs.YtppbagllhmeenaaGreatDoor
