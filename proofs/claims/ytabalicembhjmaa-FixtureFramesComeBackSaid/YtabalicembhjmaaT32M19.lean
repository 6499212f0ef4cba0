/- Boxes known by their block: kept by calls, allocs, appends to own rows of another type. (printed by wip/gen/gen_tbox.py) The parameter of a key. No walk in it. (printed by wip/gen/gen_find.py) api.Key as a key of maps. (printed by wip/gen/gen_keylaw.py) The faults of settings. No walk in it. (printed by wip/gen/gen_ckstg.py) -/
import Derived.Test.YtabalicembhjmaaT32M16
import Derived.Test.YtabalicembhjmaaT32M18
import Derived.Test.YtabalicembhjmaaT32M08
import Derived.Test.YtabalicembhjmaaT32M14
import Derived.MapViews
import Derived.DeepKeys4
import Derived.Maps.Keyed

namespace Go.Proofs.Ytabalicembhjmaa
open Go.RowKit
set_option linter.unusedVariables false
set_option linter.unusedSimpArgs false

theorem TBox.grownS {base : Nat} {W W' : World} {b : Nat} {T : TypeId} {cs : Array Value} {v : Value} {l : List Stg} (h : TBox W b T cs) (ho : OwnS base W v l) (hg : W.grownBy W' v.ownBlock) (hT : T ≠ 35) : TBox W' b T cs := by
  refine (hg.block b h.lt fun e => ?_).trans h
  rcases ho.2 with h' | ⟨g, cap, cur, e1, _, h2, _⟩
  · rw [h'.1] at e; simp [Value.ownBlock] at e
  · rw [e1] at e
    simp [Value.ownBlock] at e
    subst e
    unfold TBox at h
    rw [h2] at h
    injection h with h
    injection h with _ h3
    exact hT h3.symm
theorem TBox.grownK {base : Nat} {W W' : World} {b : Nat} {T : TypeId} {cs : Array Value} {v : Value} {l : List KeyR} (h : TBox W b T cs) (ho : OwnK base W v l) (hg : W.grownBy W' v.ownBlock) (hT : T ≠ 33) : TBox W' b T cs := by
  refine (hg.block b h.lt fun e => ?_).trans h
  rcases ho.2 with h' | ⟨g, cap, cur, e1, _, h2, _⟩
  · rw [h'.1] at e; simp [Value.ownBlock] at e
  · rw [e1] at e
    simp [Value.ownBlock] at e
    subst e
    unfold TBox at h
    rw [h2] at h
    injection h with h
    injection h with _ h3
    exact hT h3.symm
theorem stgS_nil (B : Nat) (w : World) : StgS B w (.slice none 0 0) [] := CellsS.nil B w
theorem keyS_nil (B : Nat) (w : World) : KeyRS B w (.slice none 0 0) [] := CellsS.nil B w
theorem zeroBy_ (w : World) : (zeroValue 62).run Try.prog w = .ok (.slice none 0 0) w := by kernel_rfl
theorem frmC_get {B : Nat} {w : World} {v : Value} {lv : List (Frm × Value)} (h1 : CellsS B w v lv.length (lv.flatMap frmC)) (hl : 0 < lv.length) :
    ∃ b off cap, v = .slice (some ⟨b, off, none⟩) lv.length cap ∧ b < B ∧ lv.length ≤ maxLen ∧ ∀ k (hk : k < lv.length) (W : World), Below B w W →
      W.cell? ⟨b, off + k * 2, none⟩ = some (.int .i64 lv[k].1.univ) ∧ W.cell? ⟨b, off + k * 2 + 1, none⟩ = some lv[k].2 := by
  obtain ⟨b, off, cap, rfl, h3, h4, h5⟩ := CellsS.rec h1 (n := 2) (fun _ => rfl) hl
  refine ⟨b, off, cap, rfl, h3, h4, fun k hk W hW => ?_⟩
  exact ⟨(hW.cell (p := ⟨b, off + k * 2, none⟩) h3).trans (h5 k hk 0 _ (by omega) rfl), (hW.cell (p := ⟨b, off + k * 2 + 1, none⟩) h3).trans (h5 k hk 1 _ (by omega) rfl)⟩
theorem put_rev {fl : List (Frm × Value)} {k : Nat} (h : k < fl.length) {f : Lit → Option Value} (hf : ∀ U : Int, f (.int .i64 U) = ((fl.take k).reverse.find? (isF U)).map (·.2)) : ∀ U : Int, putF f (.int .i64 fl[k].1.univ) fl[k].2 (.int .i64 U) = ((fl.take (k + 1)).reverse.find? (isF U)).map (·.2) := by
  intro U
  rw [rev_snoc _ _ _ h]
  by_cases c : fl[k].1.univ = U
  · rw [← c, putF_same (keyLitI_ _), if_pos (by simp [isF])]; rfl
  · rw [putF_other (litI_ne (Ne.symm c)), if_neg (by simp [isF, c]), hf]
theorem setV_len {x : Rig} (h : chkRig x = 0) (l : List Frm) (k : Nat) : ((x.units.take k).flatMap (setU x.lib l)).length ≤ 16000 := by
  have h1 := flat_le (setU x.lib l) 40 (x.units.take k) (fun u hu => setU_len h l (List.mem_of_mem_take hu))
  have h2 := (chkRig_zero h).2.1
  rw [List.length_take] at h1
  omega
theorem setU_none {lib : List Prf} {l : List Frm} {u : Unt} (h : l.find? (isU u) = none) : setU lib l u = [] := by unfold setU; rw [h]
theorem setU_some {lib : List Prf} {l : List Frm} {u : Unt} {f : Frm} {p : Prf} (h : l.find? (isU u) = some f) (hp : profOf lib u.nm = some p) : setU lib l u = p.pars.map (setO u f) := by unfold setU parsOf; rw [h, hp]; rfl
theorem at_val {f : Frm} {b : Nat} (hb : b < f.sl.length) {i : Int} (hi : i = (b : Int)) : atF f i = f.sl[b] := by
  subst hi
  unfold atF
  rw [List.getD_eq_getElem?_getD, Int.toNat_natCast, List.getElem?_eq_getElem hb]; rfl
end Go.Proofs.Ytabalicembhjmaa

namespace Go.Proofs.Ytabalicembhjmaa
open Go.RowKit
set_option linter.unusedVariables false
set_option linter.unusedSimpArgs false

theorem TBox.set3 {W : World} {g : Nat} {T : TypeId} {a b c u0 u1 u2 : Value} (h : TBox W g T #[a, b, c]) : TBox (((W.setCell ⟨g, 0, none⟩ u0).setCell ⟨g, 1, none⟩ u1).setCell ⟨g, 2, none⟩ u2) g T #[u0, u1, u2] := by
  have hl := h.lt
  unfold TBox at *
  have k1 := heap_setCell_same _ _ 0 _ _ u0 h
  have k2 := heap_setCell_same _ _ 1 _ _ u1 k1
  have k3 := heap_setCell_same _ _ 2 _ _ u2 k2
  simpa using k3
theorem TBox.drew {W : World} {g : Nat} {T : TypeId} {cs : Array Value} (h : TBox W g T cs) : TBox W.drew g T cs := h
def findO (x : Rig) (n : Int) (nm : List UInt8) : Option Par := match x.units.find? (isNo n) with
  | none => none
  | some u => parOf (parsOf x.lib u) nm
theorem find_no {l : List Unt} {n : Int} (h : hasU l n = false) : l.find? (isNo n) = none := by
  rw [List.find?_eq_none]
  intro u hu c
  have : hasU l n = true := List.any_eq_true.2 ⟨u, hu, c⟩
  rw [this] at h; cases h
theorem find_pos {l : List Unt} (ha : AscU l) {n : Int} (h : hasU l n = true) : ∃ hp : posU l n < l.length, l.find? (isNo n) = some (l[posU l n]'hp) ∧ (l[posU l n]'hp).num = n := by
  obtain ⟨hp, h1⟩ := (hasU_at ha n).1 h
  refine ⟨hp, ?_, h1⟩
  have h2 := (idxU_has ha n).1 h
  rcases idxF_spec (isNo n) l with ⟨h3, _⟩ | ⟨k, hk, h3, h4⟩
  · unfold idxU at h2; rw [h3] at h2; omega
  · unfold idxU at h2
    rw [h3] at h2
    have : k = posU l n := by omega
    subst this
    exact h4
theorem findO_no {x : Rig} {n : Int} (h : hasU x.units n = false) (nm : List UInt8) : findO x n nm = none := by unfold findO; rw [find_no h]
theorem findO_yes {x : Rig} (hx : chkRig x = 0) {n : Int} (h : hasU x.units n = true) (nm : List UInt8) : ∃ (hp : posU x.units n < x.units.length) (p : Prf), (x.units[posU x.units n]'hp).num = n ∧ profOf x.lib (x.units[posU x.units n]'hp).nm = some p ∧ findO x n nm = parOf p.pars nm := by
  obtain ⟨hp, h1, h2⟩ := find_pos (asc_units hx) h
  obtain ⟨p, h3, _⟩ := par_right hx (List.getElem_mem hp)
  refine ⟨hp, p, h2, h3, ?_⟩
  unfold findO parsOf
  rw [h1]
  simp only [h3]
  rfl
end Go.Proofs.Ytabalicembhjmaa

namespace Go.Proofs.Ytabalicembhjmaa
open Go.ChangeShapes Go.WideShapes Go.RowKit Go.Deep
set_option linter.unusedSimpArgs false
set_option linter.unusedVariables false

def KeyFit (k : Int × ByteArray) : Prop := I64 k.1 ∧ k.2.size ≤ maxLen
def keyL (k : Int × ByteArray) : Lit := .string (keyBytes [.int .i64 k.1, .string k.2.data.toList])
def keyV (k : Int × ByteArray) : Value := .agg #[.int .i64 k.1, .string k.2]

theorem cellsInt_ : Try.prog.cellsOf 3 = 1 := by kernel_rfl
theorem cellsString_ : Try.prog.cellsOf 9 = 1 := by kernel_rfl
/-! ### keys of maps -/
theorem laidOut_ : laidOutB Try.prog = true := by kernel_rfl
theorem keyRow_ : (33 : TypeId) < Try.prog.types.size := of_decide_eq_true (by kernel_rfl)
theorem keyAt2_ : Try.prog.keyTypeAt 2 33 = true := by kernel_rfl
theorem keyWide_ : (match Try.prog.underlying 33 with | some (.array _ _) | some (.struct _) => true | _ => false) = true := by kernel_rfl
set_option maxRecDepth 100000 in
theorem keyLaw_ : WideMaps.KeyLaw Try.prog 33 := deep_law_laid laidOut_ (m := 2) (by omega) keyRow_ keyAt2_ keyWide_
theorem keyed_ : Maps.Keyed Try.prog 33 := Maps.Keyed.of_law keyLaw_
theorem keyType_ : Try.prog.keyType 33 = true := by kernel_rfl
theorem keyCells_ : Try.prog.cellsOf 33 = 2 := by kernel_rfl
theorem i64_wf {a : Int} (h : I64 a) : (Lit.int .i64 a).wf = true := by
  unfold I64 at h
  simp [Lit.wf, IntKind.min, IntKind.max, IntKind.signed, IntKind.bits]
  omega
theorem keyLits_ (d : Nat) {k : Int × ByteArray} (h : KeyFit k) : Try.prog.keyLits (d + 2) 33 [.int .i64 k.1, .string k.2] = some [.int .i64 k.1, .string k.2.data.toList] := by
  obtain ⟨h1, h2⟩ := h
  have hw := i64_wf h1
  unfold Program.keyLits
  rw [Try.underlying33]
  simp [keyCells_, cellsInt_, Program.keyLits, Try.underlying3, Try.underlying9, hw, h2, cellsString_]
theorem keyFormed_ (k : Int × ByteArray) : (keyV k).formed Try.prog 33 = true := by
  unfold keyV Value.formed
  rw [Try.underlying33]
  simp [keyCells_]
theorem keyOf_key {k : Int × ByteArray} (h : KeyFit k) : keyOf Try.prog 33 (keyV k) = some (keyL k) := by
  unfold keyOf
  rw [Try.underlying33]
  simp only [keyType_, keyFormed_, Bool.and_self, if_true]
  obtain ⟨d, hd⟩ : ∃ d, Try.prog.types.size + 1 = d + 2 := by
    have h0 : (33 : Nat) < Try.prog.types.size := keyRow_
    generalize Try.prog.types.size = n at h0 ⊢
    exact ⟨n - 1, by omega⟩
  rw [hd, show (keyV k).cells.toList = [.int .i64 k.1, .string k.2] from rfl, keyLits_ d h]
  rfl
theorem keyL_inj {a b : Int × ByteArray} (ha : KeyFit a) (hb : KeyFit b) (h : keyL a = keyL b) : a = b := by
  have h1 := keyOf_key ha
  have h2 := keyOf_key hb
  rw [← h] at h2
  have h3 := keyed_.inj h1 h2
  unfold keyV at h3
  simp at h3
  obtain ⟨x, y⟩ := a
  obtain ⟨z, u⟩ := b
  obtain ⟨h4, h5⟩ := h3
  simp at h4 h5
  rw [h4, h5]
end Go.Proofs.Ytabalicembhjmaa

namespace Go.Proofs.Ytabalicembhjmaa
open Go.RowKit
set_option linter.unusedVariables false
set_option linter.unusedSimpArgs false

instance decBytes : DecidableEq ByteArray := fun a b => if h : a.data = b.data then isTrue (ByteArray.ext h) else isFalse (fun e => h (by rw [e]))
def Stg.k (s : Stg) : Int × ByteArray := (s.unit, s.par)
def isK (k : Int × ByteArray) (s : Stg) : Bool := decide (s.k = k)
def stgF (x : Rig) (pre : List Stg) (s : Stg) : Int :=
  if (findO x s.unit s.par.data.toList).isNone then 8 else if !inR s.lv 0 65535 then 1 else if pre.any (isK s.k) then 6 else 0
def chkStgs (x : Rig) (l : List Stg) : Int := scanF (stgF x) l 0
def lvV (s : Stg) : Value := .int .i64 s.lv
theorem rev_some_iff (l : List Stg) (k : Int × ByteArray) : (l.reverse.find? (isK k)).isSome = l.any (isK k) := by
  rw [Bool.eq_iff_iff, List.find?_isSome, List.any_eq_true]
  constructor
  · rintro ⟨s, hs, h⟩
    exact ⟨s, List.mem_reverse.1 hs, h⟩
  · rintro ⟨s, hs, h⟩
    exact ⟨s, List.mem_reverse.2 hs, h⟩
theorem keyS_fit {s : Stg} (h : StgFit s) : KeyFit s.k := ⟨h.1, h.2.1⟩
theorem put_key {l : List Stg} {j : Nat} (h : j < l.length) (hf : ∀ s ∈ l, StgFit s) {f : Lit → Option Value} (hr : ∀ k, KeyFit k → f (keyL k) = ((l.take j).reverse.find? (isK k)).map lvV) :
    ∀ k, KeyFit k → putF f (keyL l[j].k) (lvV l[j]) (keyL k) = ((l.take (j + 1)).reverse.find? (isK k)).map lvV := by
  intro k hk
  rw [rev_snoc _ _ _ h]
  have hfj := keyS_fit (hf _ (List.getElem_mem h))
  by_cases c : l[j].k = k
  · rw [← c, putF_same (keyed_.key (keyOf_key hfj)), if_pos (by simp [isK])]; rfl
  · rw [putF_other (fun e => c (keyL_inj hk hfj e).symm), if_neg (by simp [isK, c]), hr k hk]
end Go.Proofs.Ytabalicembhjmaa
