/- Functions that take a rig and give a rig: their box of the argument and that of the result. The words of Place. (printed by wip/gen/gen_place.py) -/
import Derived.Test.YtabalicembhjmaaT38M22
import Derived.Test.YtabalicembhjmaaT38M30
import Derived.Test.YtabalicembhjmaaT38M35
import Derived.Test.YtabalicembhjmaaT38M36
import Derived.StillTailTactics

namespace Go.Proofs.Ytabalicembhjmaa
open Go.RowKit
set_option linter.unusedVariables false
set_option linter.unusedSimpArgs false

def RigBox (w : World) (lv uv : Value) (W : World) : Prop := Below (w.heap.size + 2) ((w.alloc (.cells #[lv, uv] 25)).alloc (.cells #[.slice none 0 0, .slice none 0 0] 25)) W
theorem RigBox.start (w : World) (lv uv : Value) : RigBox w lv uv ((w.alloc (.cells #[lv, uv] 25)).alloc (.cells #[.slice none 0 0, .slice none 0 0] 25)) := Below.refl _ _
theorem RigBox.size {w W : World} {lv uv : Value} (h : RigBox w lv uv W) : w.heap.size + 2 ≤ W.heap.size := by
  have := Below.size h
  simp at this
  omega
theorem RigBox.bel {w W : World} {lv uv : Value} (h : RigBox w lv uv W) : Below w.heap.size w W := (((Below.refl _ _).alloc (Nat.le_refl _) _).alloc (by simp) _).trans (Below.mono h (by omega))
theorem RigBox.next {w W W1 : World} {lv uv : Value} (h : RigBox w lv uv W) (hb : Below W.heap.size W W1) : RigBox w lv uv W1 := Below.trans h (hb.mono h.size)
theorem RigBox.alloc {w W : World} {lv uv : Value} (h : RigBox w lv uv W) (o : Obj) : RigBox w lv uv (W.alloc o) := Below.alloc h h.size o
theorem RigBox.drew {w W : World} {lv uv : Value} (h : RigBox w lv uv W) : RigBox w lv uv W.drew := Below.drew h
theorem RigBox.grown {w W W1 : World} {lv uv : Value} (h : RigBox w lv uv W) {base s n : Nat} {T : TypeId} {v : Value} {xs : List Value} (ho : W.ownsRow base T s v n xs) (hg : W.grownBy W1 v.ownBlock) (hb : w.heap.size + 2 ≤ base) : RigBox w lv uv W1 :=
  Below.grown h hg h.size (fun k hk => by have := (World.ownsRow.lt ho k hk).1; omega)
theorem RigBox.set {w W : World} {lv uv : Value} (h : RigBox w lv uv W) {b : Nat} (hb : w.heap.size + 2 ≤ b) (i : Nat) (u : Value) : RigBox w lv uv (W.setCell ⟨b, i, none⟩ u) := Below.setCell h (p := ⟨b, i, none⟩) hb u
theorem RigBox.par {w W : World} {lv uv : Value} (h : RigBox w lv uv W) : TBox W w.heap.size 25 #[lv, uv] :=
  (Below.block h w.heap.size (by omega)).trans ((TBox.new w #[lv, uv] 25).alloc _)
theorem RigBox.res {w W : World} {lv uv : Value} (h : RigBox w lv uv W) : TBox W (w.heap.size + 1) 25 #[.slice none 0 0, .slice none 0 0] := by
  have h1 := TBox.new (w.alloc (.cells #[lv, uv] 25)) #[.slice none 0 0, .slice none 0 0] 25
  simp only [World.size_alloc] at h1
  exact (Below.block h (w.heap.size + 1) (by omega)).trans h1
theorem RigBox.done {w W : World} {lv uv : Value} (h : RigBox w lv uv W) (a b : Value) : Below w.heap.size w ((W.setCell ⟨w.heap.size + 1, 0, none⟩ a).setCell ⟨w.heap.size + 1, 1, none⟩ b) :=
  (h.bel.setCell (p := ⟨w.heap.size + 1, 0, none⟩) (by simp) a).setCell (p := ⟨w.heap.size + 1, 1, none⟩) (by simp) b
theorem noRig_at (B : Nat) (w : World) : RigAt B w noRig (.slice none 0 0) (.slice none 0 0) := ⟨⟨[], rfl, CellsS.nil _ _, by simp⟩, CellsS.nil _ _⟩
/-- own rows behind the store of a result -/
theorem OwnU.res {W : World} {rb base : Nat} {cs : Array Value} {v : Value} {l : List Unt} (h : OwnU base W v l) (hr : TBox W rb 25 cs) (a b : Value) : OwnU base ((W.setCell ⟨rb, 0, none⟩ a).setCell ⟨rb, 1, none⟩ b) v l :=
  (h.other (Other.box hr a) (by decide)).other (Other.box (hr.set 0 a) b) (by decide)
theorem OwnL.res {W : World} {rb base : Nat} {cs : Array Value} {v : Value} {l : List Prf} (h : OwnL base W v l) (hr : TBox W rb 25 cs) (a b : Value) : OwnL base ((W.setCell ⟨rb, 0, none⟩ a).setCell ⟨rb, 1, none⟩ b) v l :=
  (h.other (Other.box hr a) (by decide) (by decide) (by decide)).other (Other.box (hr.set 0 a) b) (by decide) (by decide) (by decide)
theorem rig_sizes {x : Rig} (h : chkRig x = 0) : (x.lib.length ≤ 60 ∧ ∀ p ∈ x.lib, p.pars.length ≤ 40 ∧ ∀ q ∈ p.pars, q.rngs.length ≤ 30) ∧ x.units.length ≤ 1000 := by
  obtain ⟨h1, h2, _⟩ := chkRig_zero h
  exact ⟨lib_sizes h1, by omega⟩
theorem has_pos {x : Rig} (h : chkRig x = 0) {n : Int} (hn : hasU x.units n = true) : posU x.units n < x.units.length ∧ 1 ≤ n ∧ n ≤ 9999 := by
  obtain ⟨hp, he⟩ := (hasU_at (asc_units h) n).1 hn
  have := num_range h (List.getElem_mem hp)
  rw [he] at this
  exact ⟨hp, this⟩
/-! ### what lies in blocks from B on stays while those do -/
theorem own_agree {w W : World} {base s n : Nat} {T : TypeId} {v : Value} {xs : List Value} (h : w.ownsRow base T s v n xs) (hk : ∀ k, base ≤ k → k < w.heap.size → W.heap[k]? = w.heap[k]?) : W.ownsRow base T s v n xs := by
  refine ⟨h.1, ?_⟩
  rcases h.2 with h' | ⟨g, cap, cur, e1, h1, h2, h3⟩
  · exact .inl h'
  · exact .inr ⟨g, cap, cur, e1, h1, (hk g h1 (Array.getElem?_eq_some_iff.1 h2).1).trans h2, h3⟩
theorem OwnU.agree {w W : World} {base : Nat} {v : Value} {l : List Unt} (h : OwnU base w v l) (hk : ∀ k, base ≤ k → k < w.heap.size → W.heap[k]? = w.heap[k]?) : OwnU base W v l := own_agree h hk
theorem OwnP.agree {w W : World} {base : Nat} {v : Value} {l : List Par} (h : OwnP base w v l) (hk : ∀ k, base ≤ k → k < w.heap.size → W.heap[k]? = w.heap[k]?) : OwnP base W v l := by
  obtain ⟨lv, h1, h2, h3⟩ := h
  exact ⟨lv, h1, own_agree h2 hk, fun y hy => own_agree (h3 y hy) hk⟩
theorem OwnL.agree {w W : World} {base : Nat} {v : Value} {l : List Prf} (h : OwnL base w v l) (hk : ∀ k, base ≤ k → k < w.heap.size → W.heap[k]? = w.heap[k]?) : OwnL base W v l := by
  obtain ⟨lv, h1, h2, h3⟩ := h
  exact ⟨lv, h1, own_agree h2 hk, fun y hy => (h3 y hy).agree hk⟩
/-- a rig that lies in blocks below B0 and from B on -/
def RigNew (B0 B : Nat) (w : World) (x : Rig) (lv uv : Value) : Prop := ∀ W, Below B0 w W → (∀ k, B ≤ k → k < w.heap.size → W.heap[k]? = w.heap[k]?) → RigAt W.heap.size W x lv uv
theorem RigNew.at {B0 B : Nat} {w : World} {x : Rig} {lv uv : Value} (h : RigNew B0 B w x lv uv) : RigAt w.heap.size w x lv uv := h w (Below.refl _ _) (fun _ _ _ => rfl)
end Go.Proofs.Ytabalicembhjmaa

namespace Go.Proofs.Ytabalicembhjmaa
open Go.RowKit
set_option linter.unusedVariables false
set_option linter.unusedSimpArgs false

def pf4 (a b c d : Int) : Int := if a = 0 then (if b = 0 then (if c = 0 then d else c) else b) else a
theorem pf4_eq (a b c d : Int) : firstF [a, b, c, d] = pf4 a b c d := by
  unfold pf4
  by_cases h1 : a = 0 <;> by_cases h2 : b = 0 <;> by_cases h3 : c = 0 <;> by_cases h4 : d = 0 <;> simp [firstF, *]
theorem first4p (b : Nat) (x y z u r : Int) (W : World) (hr : pf4 x y z u = r) (h1 : W.cell? ⟨b, 0, none⟩ = some (.int .i64 x)) (h2 : W.cell? ⟨b, 1, none⟩ = some (.int .i64 y)) (h3 : W.cell? ⟨b, 2, none⟩ = some (.int .i64 z)) (h4 : W.cell? ⟨b, 3, none⟩ = some (.int .i64 u)) :
    Calls Try.prog 60 #[.slice (some ⟨b, 0, none⟩) 4 4] W fun e w' => e = .returned (.int .i64 r) ∧ W = w' := by
  rw [← hr, ← pf4_eq]
  refine first_any b 0 4 [x, y, z, u] W (by simp) ?_
  intro i h
  match i, h with
  | 0, _ => simpa using h1
  | 1, _ => simpa using h2
  | 2, _ => simpa using h3
  | 3, _ => simpa using h4
/-- the fault of Place where the profile is there, but for the room -/
def placeE (x : Rig) (n : Int) : Int := pf4 (whenW (!true) 5) (whenW (!inR n 1 9999) 1) (whenW (hasU x.units n) 6) (whenW ((x.units.length : Int) == 400) 2)
theorem placeF_E {x : Rig} {nm : ByteArray} {n : Int} {p : Prf} (h : chkRig x = 0) (hp : profOf x.lib nm.data.toList = some p) : placeF x nm n = if placeE x n = 0 then (if (roomO (usBut x 0) p.size).isNone then 13 else 0) else placeE x n := by
  rw [placeF_some h hp]
  unfold placeE pf4 whenW
  have e : ((x.units.length : Int) == 400) = decide (x.units.length = 400) := by
    by_cases c : x.units.length = 400
    · rw [c]; rfl
    · have c' : ¬ (x.units.length : Int) = 400 := by omega
      simp [c, c']
  rw [e]
  cases h2 : inR n 1 9999 <;> cases h3 : hasU x.units n <;> by_cases h4 : x.units.length = 400 <;> simp [h4]
theorem placeE_zero {x : Rig} {n : Int} (h : placeE x n = 0) : (1 ≤ n ∧ n ≤ 9999) ∧ hasU x.units n = false ∧ x.units.length ≠ 400 := by
  unfold placeE pf4 whenW at h
  cases h2 : inR n 1 9999
  · simp [h2] at h
  cases h3 : hasU x.units n
  rotate_left
  · simp [h2, h3] at h
  refine ⟨inR_true h2, rfl, fun c => ?_⟩
  have : ((x.units.length : Int) == 400) = true := by rw [c]; rfl
  rw [h2, h3, this] at h
  simp at h
theorem still_of {f : FuncId} {args : Array Value} {w : World} {v : Value} (h : Calls Try.prog f args w fun e w' => e = .returned v ∧ w = w') : Calls Try.prog f args w fun e w'' => e = .returned v ∧ w'' = w := h.mono fun _ _ ⟨a, b⟩ => ⟨a, b.symm⟩
theorem pf4_name (b c d : Int) : pf4 (whenW (!false) 5) b c d = 5 := rfl
theorem placeR_no {x : Rig} {nm : ByteArray} {n e : Int} (h : placeF x nm n = e) (he : e ≠ 0) : placeF x nm n = e ∧ placeR x nm n = noRig := ⟨h, placeR_bad (by rw [h]; exact he)⟩
theorem unt_cells (W : World) (y : Unt) (T : TypeId) : (W.alloc (.cells #[.int .i64 y.num, .string y.prof, .int .i64 y.univ, .int .i64 y.addr] T)).heap[W.heap.size]? = some (.cells #[.int .i64 y.num, .string y.prof, .int .i64 y.univ, .int .i64 y.addr] T (0, 0)) := heap_alloc_new W _
end Go.Proofs.Ytabalicembhjmaa
