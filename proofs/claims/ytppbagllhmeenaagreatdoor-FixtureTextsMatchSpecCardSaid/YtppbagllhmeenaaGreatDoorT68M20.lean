/- Keys, settings as arguments. Frames of bytes, the settings that they have: plain data, rows of cells. No walk in it. (printed by wip/gen/gen_set.py) -/
import Derived.Test.YtppbagllhmeenaaGreatDoorT68M19
import Derived.Test.YtppbagllhmeenaaGreatDoorT68M17

namespace Go.Proofs.YtppbagllhmeenaaGreatDoor
open Go.ChangeShapes Go.WideShapes Go.RowKit Go.Deep
set_option linter.unusedSimpArgs false
set_option linter.unusedVariables false

/-- a setting: a unit, a parameter, a level -/
structure Stg where
  unit : Int
  par : ByteArray
  lv : Int
instance : Inhabited Stg := ⟨⟨0, ByteArray.empty, 0⟩⟩
def stgC (s : Stg) : List Value := [.int .i64 s.unit, .string s.par, .int .i64 s.lv]
def StgS (B : Nat) (w : World) (v : Value) (l : List Stg) : Prop := CellsS B w v l.length (l.flatMap stgC)
def StgFit (s : Stg) : Prop := I64 s.unit ∧ s.par.size ≤ maxLen ∧ I64 s.lv
theorem StgS.below {B : Nat} {w w' : World} {v : Value} {l : List Stg} (h : StgS B w v l) (hb : Below B w w') : StgS B w' v l := CellsS.below h hb
theorem StgS.more {B B' : Nat} {w : World} {v : Value} {l : List Stg} (h : StgS B w v l) (hB : B ≤ B') : StgS B' w v l := CellsS.more h hB
theorem StgS.get {B : Nat} {w : World} {v : Value} {l : List Stg} (h : StgS B w v l) (hl : 0 < l.length) :
    ∃ b off cap, v = .slice (some ⟨b, off, none⟩) l.length cap ∧ b < B ∧ l.length ≤ maxLen ∧ ∀ k (hk : k < l.length) (W : World), Below B w W →
      W.cell? ⟨b, off + k * 3, none⟩ = some (.int .i64 l[k].unit) ∧ W.cell? ⟨b, off + k * 3 + 1, none⟩ = some (.string l[k].par) ∧ W.cell? ⟨b, off + k * 3 + 2, none⟩ = some (.int .i64 l[k].lv) := by
  obtain ⟨b, off, cap, rfl, h1, h2, h3⟩ := CellsS.rec h (n := 3) (fun _ => rfl) hl
  refine ⟨b, off, cap, rfl, h1, h2, fun k hk W hW => ?_⟩
  exact ⟨(hW.cell (p := ⟨b, off + k * 3, none⟩) h1).trans (h3 k hk 0 _ (by omega) rfl), (hW.cell (p := ⟨b, off + k * 3 + 1, none⟩) h1).trans (h3 k hk 1 _ (by omega) rfl), (hW.cell (p := ⟨b, off + k * 3 + 2, none⟩) h1).trans (h3 k hk 2 _ (by omega) rfl)⟩

section
variable {H : Type} {enc : TypeId × Value → H} {w : World} {held : Bool}
theorem fxInt_ : Tryz.prog.cellsOf 3 = 1 := by kernel_rfl
/-- settings as an argument -/
def StgW (w : World) (v : Value) : Prop := ∃ l : List Stg, StgS w.heap.size w v l ∧ ∀ p ∈ l, StgFit p
end
end Go.Proofs.YtppbagllhmeenaaGreatDoor

namespace Go.Proofs.YtppbagllhmeenaaGreatDoor
open Go.RowKit
set_option linter.unusedVariables false
set_option linter.unusedSimpArgs false

/-- a frame: a universe and its bytes -/
structure Frm where
  univ : Int
  sl : List Int
instance : Inhabited Frm := ⟨⟨0, []⟩⟩
def bytC (b : Int) : List Value := [.int .u8 b]
def BytS (B : Nat) (w : World) (v : Value) (l : List Int) : Prop := CellsS B w v l.length (l.flatMap bytC)
def frmC (p : Frm × Value) : List Value := [.int .i64 p.1.univ, p.2]
def FrmS (B : Nat) (w : World) (v : Value) (l : List Frm) : Prop :=
  ∃ lv : List (Frm × Value), lv.map (·.1) = l ∧ CellsS B w v lv.length (lv.flatMap frmC) ∧ ∀ y ∈ lv, BytS B w y.2 y.1.sl
def FrmFit (f : Frm) : Prop := I64 f.univ ∧ ∀ b ∈ f.sl, 0 ≤ b ∧ b ≤ 255
theorem BytS.below {B : Nat} {w w' : World} {v : Value} {l : List Int} (h : BytS B w v l) (hb : Below B w w') : BytS B w' v l := CellsS.below h hb
theorem BytS.more {B B' : Nat} {w : World} {v : Value} {l : List Int} (h : BytS B w v l) (hB : B ≤ B') : BytS B' w v l := CellsS.more h hB
theorem FrmS.below {B : Nat} {w w' : World} {v : Value} {l : List Frm} (h : FrmS B w v l) (hb : Below B w w') : FrmS B w' v l := by
  obtain ⟨lv, h1, h2, h3⟩ := h
  exact ⟨lv, h1, h2.below hb, fun y hy => (h3 y hy).below hb⟩
theorem FrmS.more {B B' : Nat} {w : World} {v : Value} {l : List Frm} (h : FrmS B w v l) (hB : B ≤ B') : FrmS B' w v l := by
  obtain ⟨lv, h1, h2, h3⟩ := h
  exact ⟨lv, h1, h2.more hB, fun y hy => (h3 y hy).more hB⟩
/-- the bytes' cells -/
theorem BytS.get {B : Nat} {w : World} {v : Value} {l : List Int} (h : BytS B w v l) (hl : 0 < l.length) :
    ∃ b off cap, v = .slice (some ⟨b, off, none⟩) l.length cap ∧ b < B ∧ l.length ≤ maxLen ∧ ∀ k (hk : k < l.length) (W : World), Below B w W → W.cell? ⟨b, off + k, none⟩ = some (.int .u8 l[k]) := by
  obtain ⟨b, off, cap, rfl, h1, h2, h3⟩ := CellsS.rec h (n := 1) (fun _ => rfl) hl
  refine ⟨b, off, cap, rfl, h1, h2, fun k hk W hW => ?_⟩
  have h4 := h3 k hk 0 _ (by omega) rfl
  rw [Nat.mul_one, Nat.add_zero] at h4
  exact (hW.cell (p := ⟨b, off + k, none⟩) h1).trans h4
/-- a frame's cells -/
theorem FrmS.get {B : Nat} {w : World} {v : Value} {l : List Frm} (h : FrmS B w v l) (hl : 0 < l.length) :
    ∃ b off cap, v = .slice (some ⟨b, off, none⟩) l.length cap ∧ b < B ∧ l.length ≤ maxLen ∧ ∀ k (hk : k < l.length), ∃ sv, BytS B w sv l[k].sl ∧ ∀ (W : World), Below B w W →
      W.cell? ⟨b, off + k * 2, none⟩ = some (.int .i64 l[k].univ) ∧ W.cell? ⟨b, off + k * 2 + 1, none⟩ = some sv := by
  obtain ⟨lv, rfl, h1, h2⟩ := h
  obtain ⟨b, off, cap, rfl, h3, h4, h5⟩ := CellsS.rec h1 (n := 2) (fun _ => rfl) (by simpa using hl)
  refine ⟨b, off, cap, by simp, h3, by simpa using h4, fun k hk => ?_⟩
  have hk' : k < lv.length := by simpa using hk
  refine ⟨lv[k].2, by simpa using h2 _ (List.getElem_mem hk'), fun W hW => ?_⟩
  simp only [List.getElem_map]
  exact ⟨(hW.cell (p := ⟨b, off + k * 2, none⟩) h3).trans (h5 k hk' 0 _ (by omega) rfl), (hW.cell (p := ⟨b, off + k * 2 + 1, none⟩) h3).trans (h5 k hk' 1 _ (by omega) rfl)⟩
theorem frmS_shape {B : Nat} {w : World} {v : Value} {l : List Frm} (h : FrmS B w v l) : ∃ ao cap, v = .slice ao l.length cap := by
  obtain ⟨lv, rfl, h1, _⟩ := h
  obtain ⟨ao, cap, rfl, _⟩ := CellsS.shape h1
  exact ⟨ao, cap, by simp⟩
theorem frmS_len {B : Nat} {w : World} {v : Value} {l : List Frm} (h : FrmS B w v l) : l.length ≤ 9223372036854775807 := by
  obtain ⟨lv, rfl, h1, _⟩ := h
  have := CellsS.len h1
  unfold maxLen at this
  simpa using this
theorem bytS_shape {B : Nat} {w : World} {v : Value} {l : List Int} (h : BytS B w v l) : ∃ ao cap, v = .slice ao l.length cap := by
  obtain ⟨ao, cap, rfl, _⟩ := CellsS.shape h
  exact ⟨ao, cap, rfl⟩
theorem bytS_len {B : Nat} {w : World} {v : Value} {l : List Int} (h : BytS B w v l) : l.length ≤ 9223372036854775807 := by
  have := CellsS.len h
  unfold maxLen at this
  omega

/-! ### faults, settings -/
def frmLow (pre : List Frm) (f : Frm) : Bool := pre.getLast?.any (fun q => decide (f.univ ≤ q.univ))
def frmF (pre : List Frm) (f : Frm) : Int := if !inR f.univ 1 64 then 1 else if f.sl.length ≠ 512 then 3 else if frmLow pre f then 7 else 0
def chkFrms (l : List Frm) : Int := scanF frmF l 0
def chkSet (x : Rig) (l : List Frm) : Int := if chkRig x ≠ 0 then chkRig x else chkFrms l
def atF (f : Frm) (i : Int) : Int := f.sl.getD i.toNat 0
def lvO (u : Unt) (f : Frm) (x : Par) : Int := if x.fine = 0 then atF f (u.addr + x.sl - 2) * 257 else 256 * atF f (u.addr + x.sl - 2) + atF f (u.addr + x.fine - 2)
def setO (u : Unt) (f : Frm) (x : Par) : Stg := ⟨u.num, x.name, lvO u f x⟩
def parsOf (lib : List Prf) (u : Unt) : List Par := ((profOf lib u.nm).map Prf.pars).getD []
def isU (u : Unt) (f : Frm) : Bool := decide (f.univ = u.univ)
def setU (lib : List Prf) (l : List Frm) (u : Unt) : List Stg := match l.find? (isU u) with
  | none => []
  | some f => (parsOf lib u).map (setO u f)
def setV (lib : List Prf) (units : List Unt) (l : List Frm) : List Stg := units.flatMap (setU lib l)
def setsV (x : Rig) (l : List Frm) : List Stg := if chkSet x l = 0 then setV x.lib x.units l else []
/-- as the reference goes -/
def setR (lib : List Prf) (l : List Frm) (u : Unt) : List Stg := (l.filter (isU u)).flatMap (fun f => (parsOf lib u).map (setO u f))
theorem frmF_zero {pre : List Frm} {f : Frm} (h : frmF pre f = 0) : (1 ≤ f.univ ∧ f.univ ≤ 64) ∧ f.sl.length = 512 ∧ frmLow pre f = false := by
  unfold frmF at h
  cases h1 : inR f.univ 1 64
  · simp [h1] at h
  by_cases h2 : f.sl.length = 512
  · cases h3 : frmLow pre f
    · exact ⟨inR_true h1, h2, rfl⟩
    · simp [h1, h2, h3] at h
  · simp [h1, h2] at h
theorem frms_step {l : List Frm} (h : chkFrms l = 0) (k : Nat) (hk : k + 1 < l.length) : l[k].univ < l[k + 1].univ := by
  have h1 := (frmF_zero (scanF_zero _ _ h (k + 1) hk)).2.2
  unfold frmLow at h1
  rw [last_take l (k + 1) hk (by omega)] at h1
  simp at h1
  exact h1
theorem frms_less {l : List Frm} (h : chkFrms l = 0) (i : Nat) : ∀ d, ∀ hj : i + 1 + d < l.length, l[i].univ < (l[i + 1 + d]'hj).univ
  | 0, hj => frms_step h i hj
  | d + 1, hj => Int.lt_trans (frms_less h i d (by omega)) (frms_step h (i + 1 + d) hj)
theorem frms_pair {l : List Frm} (h : chkFrms l = 0) : l.Pairwise (fun a b => a.univ < b.univ) := by
  rw [List.pairwise_iff_getElem]
  intro i j hi hj hij
  obtain ⟨d, rfl⟩ : ∃ d, j = i + 1 + d := ⟨j - (i + 1), by omega⟩
  exact frms_less h i d hj
theorem filter_one (U : Int) : ∀ l : List Frm, l.Pairwise (fun a b => a.univ < b.univ) → l.filter (fun f => decide (f.univ = U)) = (l.find? (fun f => decide (f.univ = U))).toList
  | [], _ => rfl
  | f :: l, h => by
    rw [List.pairwise_cons] at h
    by_cases c : f.univ = U
    · have h1 : l.filter (fun f => decide (f.univ = U)) = [] := by
        rw [List.filter_eq_nil_iff]
        intro a ha
        have := h.1 a ha
        simp only [decide_eq_true_eq]
        omega
      simp [List.filter_cons, List.find?_cons, c, h1]
    · simp [List.filter_cons, List.find?_cons, c, filter_one U l h.2]
theorem setR_eq {l : List Frm} (h : chkFrms l = 0) (lib : List Prf) (u : Unt) : setR lib l u = setU lib l u := by
  unfold setR setU
  have h1 := filter_one u.univ l (frms_pair h)
  have h2 : isU u = fun f => decide (f.univ = u.univ) := rfl
  rw [h2, h1]
  cases l.find? (fun f => decide (f.univ = u.univ)) with
  | none => rfl
  | some f => simp
theorem frms_few {l : List Frm} (h : chkFrms l = 0) : l.length ≤ 64 := by
  have key : ∀ k, ∀ hk : k < l.length, (k : Int) + 1 ≤ l[k].univ := by
    intro k
    induction k with
    | zero => intro hk; have := (frmF_zero (scanF_zero _ _ h 0 hk)).1.1; simpa using this
    | succ k ih => intro hk; have := ih (by omega); have := frms_step h k hk; omega
  by_cases c : l.length ≤ 64
  · exact c
  · have h1 := key 64 (by omega)
    have h2 := (frmF_zero (scanF_zero _ _ h 64 (by omega))).1.2
    omega
theorem frm_long {l : List Frm} (h : chkFrms l = 0) {f : Frm} (hf : f ∈ l) : f.sl.length = 512 := by
  obtain ⟨k, hk, rfl⟩ := List.getElem_of_mem hf
  exact (frmF_zero (scanF_zero _ _ h k hk)).2.1
theorem chkSet_zero {x : Rig} {l : List Frm} (h : chkSet x l = 0) : chkRig x = 0 ∧ chkFrms l = 0 := by
  unfold chkSet at h
  by_cases c : chkRig x = 0
  · rw [if_neg (by simpa using c)] at h; exact ⟨c, h⟩
  · rw [if_pos c] at h; exact absurd h c
/-- the parameters of a unit of a right rig -/
theorem par_right {x : Rig} (h : chkRig x = 0) {u : Unt} (hu : u ∈ x.units) : ∃ p, profOf x.lib u.nm = some p ∧ p.pars.length ≤ 40 ∧ (1 ≤ u.addr ∧ u.addr + p.size - 1 ≤ 512) ∧ ∀ q ∈ p.pars, (1 ≤ q.sl ∧ q.sl ≤ p.size) ∧ (0 ≤ q.fine ∧ q.fine ≤ p.size) := by
  obtain ⟨h1, h2, h3⟩ := chkRig_zero h
  obtain ⟨k, hk, rfl⟩ := List.getElem_of_mem hu
  obtain ⟨_, _, ⟨p, h4, h5⟩, _⟩ := untF_zero (scanF_zero _ _ h3 k hk)
  have h6 := chkPrf_zero (chkLib_prf h1 (profOf_some h4).1)
  refine ⟨p, h4, h6.2.2.2.1, ⟨(untBad_false h5).2.1.1, (untBad_false h5).2.2⟩, fun q hq => ?_⟩
  obtain ⟨j, hj, rfl⟩ := List.getElem_of_mem hq
  have h7 := parBad_false (parF_zero (scanF_zero _ _ h6.2.2.2.2 j hj)).2.2.2.1
  exact ⟨h7.1, h7.2.1⟩
theorem setU_len {x : Rig} (h : chkRig x = 0) (l : List Frm) {u : Unt} (hu : u ∈ x.units) : (setU x.lib l u).length ≤ 40 := by
  obtain ⟨p, h1, h2, _⟩ := par_right h hu
  unfold setU
  split
  · simp
  · simp [parsOf, h1]; exact h2
theorem flat_le {α β : Type} (f : α → List β) (c : Nat) (l : List α) (h : ∀ x ∈ l, (f x).length ≤ c) : (l.flatMap f).length ≤ c * l.length := by
  induction l with
  | nil => simp
  | cons a l ih =>
    have h1 := h a (by simp)
    have h2 := ih (fun x hx => h x (by simp [hx]))
    simp only [List.flatMap_cons, List.length_append, List.length_cons, Nat.mul_add, Nat.mul_one]
    omega
theorem flat_snoc' {α β : Type} (f : α → List β) (l : List α) (k : Nat) (h : k < l.length) : (l.take (k + 1)).flatMap f = (l.take k).flatMap f ++ f l[k] := by
  rw [List.take_succ_eq_append_getElem h, List.flatMap_append]; simp
theorem map_snoc' {α β : Type} (f : α → β) (l : List α) (k : Nat) (h : k < l.length) : (l.take (k + 1)).map f = (l.take k).map f ++ [f l[k]] := by
  rw [List.take_succ_eq_append_getElem h, List.map_append]; rfl
end Go.Proofs.YtppbagllhmeenaaGreatDoor
