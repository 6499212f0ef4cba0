/- Boxes known by their block: kept by calls, allocs, appends to own rows of another type. (printed by wip/gen/gen_tbox.py) The parameter of a key. No walk in it. (printed by wip/gen/gen_find.py) api.Key as a key of maps. (printed by wip/gen/gen_keylaw.py) The faults of settings. No walk in it. (printed by wip/gen/gen_ckstg.py) Effects as arguments. Running effects as arguments. Words of effects' Check; the cycle of an effect, of both sides. (printed by wip/gen/gen_efcheck.py) -/
import Derived.Test.YtopmdeefcjdadaaT43M08
import Derived.Test.YtopmdeefcjdadaaT43M09
import Derived.Test.YtopmdeefcjdadaaT43M05
import Derived.Test.YtopmdeefcjdadaaT43M03
import Derived.MapViews
import Derived.DeepKeys4
import Derived.Maps.Keyed
import Derived.Test.YtopmdeefcjdadaaT43M01

namespace Go.Proofs.Ytopmdeefcjdadaa
open Go.RowKit
set_option linter.unusedVariables false
set_option linter.unusedSimpArgs false

theorem TBox.grownS {base : Nat} {W W' : World} {b : Nat} {T : TypeId} {cs : Array Value} {v : Value} {l : List Stg} (h : TBox W b T cs) (ho : OwnS base W v l) (hg : W.grownBy W' v.ownBlock) (hT : T ≠ 49) : TBox W' b T cs := by
  refine (hg.block b h.lt fun e => ?_).trans h
  rcases ho.2 with h' | ⟨g, cap, cur, e1, _, h2, _⟩
  · rw [h'.1] at e; simp [Value.ownBlock] at e
  · rw [e1] at e
    simp [Value.ownBlock] at e
    subst e
    unfold TBox at h
    rw [h2] at h
    injection h with h
    injection h with _ h3
    exact hT h3.symm
theorem TBox.grownK {base : Nat} {W W' : World} {b : Nat} {T : TypeId} {cs : Array Value} {v : Value} {l : List KeyR} (h : TBox W b T cs) (ho : OwnK base W v l) (hg : W.grownBy W' v.ownBlock) (hT : T ≠ 47) : TBox W' b T cs := by
  refine (hg.block b h.lt fun e => ?_).trans h
  rcases ho.2 with h' | ⟨g, cap, cur, e1, _, h2, _⟩
  · rw [h'.1] at e; simp [Value.ownBlock] at e
  · rw [e1] at e
    simp [Value.ownBlock] at e
    subst e
    unfold TBox at h
    rw [h2] at h
    injection h with h
    injection h with _ h3
    exact hT h3.symm
theorem stgS_nil (B : Nat) (w : World) : StgS B w (.slice none 0 0) [] := CellsS.nil B w
theorem keyS_nil (B : Nat) (w : World) : KeyRS B w (.slice none 0 0) [] := CellsS.nil B w
theorem frmC_get {B : Nat} {w : World} {v : Value} {lv : List (Frm × Value)} (h1 : CellsS B w v lv.length (lv.flatMap frmC)) (hl : 0 < lv.length) :
    ∃ b off cap, v = .slice (some ⟨b, off, none⟩) lv.length cap ∧ b < B ∧ lv.length ≤ maxLen ∧ ∀ k (hk : k < lv.length) (W : World), Below B w W →
      W.cell? ⟨b, off + k * 2, none⟩ = some (.int .i64 lv[k].1.univ) ∧ W.cell? ⟨b, off + k * 2 + 1, none⟩ = some lv[k].2 := by
  obtain ⟨b, off, cap, rfl, h3, h4, h5⟩ := CellsS.rec h1 (n := 2) (fun _ => rfl) hl
  refine ⟨b, off, cap, rfl, h3, h4, fun k hk W hW => ?_⟩
  exact ⟨(hW.cell (p := ⟨b, off + k * 2, none⟩) h3).trans (h5 k hk 0 _ (by omega) rfl), (hW.cell (p := ⟨b, off + k * 2 + 1, none⟩) h3).trans (h5 k hk 1 _ (by omega) rfl)⟩
theorem put_rev {fl : List (Frm × Value)} {k : Nat} (h : k < fl.length) {f : Lit → Option Value} (hf : ∀ U : Int, f (.int .i64 U) = ((fl.take k).reverse.find? (isF U)).map (·.2)) : ∀ U : Int, putF f (.int .i64 fl[k].1.univ) fl[k].2 (.int .i64 U) = ((fl.take (k + 1)).reverse.find? (isF U)).map (·.2) := by
  intro U
  rw [rev_snoc _ _ _ h]
  by_cases c : fl[k].1.univ = U
  · rw [← c, putF_same (keyLitI_ _), if_pos (by simp [isF])]; rfl
  · rw [putF_other (litI_ne (Ne.symm c)), if_neg (by simp [isF, c]), hf]
theorem setV_len {x : Rig} (h : chkRig x = 0) (l : List Frm) (k : Nat) : ((x.units.take k).flatMap (setU x.lib l)).length ≤ 16000 := by
  have h1 := flat_le (setU x.lib l) 40 (x.units.take k) (fun u hu => setU_len h l (List.mem_of_mem_take hu))
  have h2 := (chkRig_zero h).2.1
  rw [List.length_take] at h1
  omega
theorem setU_none {lib : List Prf} {l : List Frm} {u : Unt} (h : l.find? (isU u) = none) : setU lib l u = [] := by unfold setU; rw [h]
theorem setU_some {lib : List Prf} {l : List Frm} {u : Unt} {f : Frm} {p : Prf} (h : l.find? (isU u) = some f) (hp : profOf lib u.nm = some p) : setU lib l u = p.pars.map (setO u f) := by unfold setU parsOf; rw [h, hp]; rfl
theorem at_val {f : Frm} {b : Nat} (hb : b < f.sl.length) {i : Int} (hi : i = (b : Int)) : atF f i = f.sl[b] := by
  subst hi
  unfold atF
  rw [List.getD_eq_getElem?_getD, Int.toNat_natCast, List.getElem?_eq_getElem hb]; rfl
end Go.Proofs.Ytopmdeefcjdadaa

namespace Go.Proofs.Ytopmdeefcjdadaa
open Go.RowKit
set_option linter.unusedVariables false
set_option linter.unusedSimpArgs false

theorem TBox.set3 {W : World} {g : Nat} {T : TypeId} {a b c u0 u1 u2 : Value} (h : TBox W g T #[a, b, c]) : TBox (((W.setCell ⟨g, 0, none⟩ u0).setCell ⟨g, 1, none⟩ u1).setCell ⟨g, 2, none⟩ u2) g T #[u0, u1, u2] := by
  have hl := h.lt
  unfold TBox at *
  have k1 := heap_setCell_same _ _ 0 _ _ u0 h
  have k2 := heap_setCell_same _ _ 1 _ _ u1 k1
  have k3 := heap_setCell_same _ _ 2 _ _ u2 k2
  simpa using k3
theorem TBox.drew {W : World} {g : Nat} {T : TypeId} {cs : Array Value} (h : TBox W g T cs) : TBox W.drew g T cs := h
def findO (x : Rig) (n : Int) (nm : List UInt8) : Option Par := match x.units.find? (isNo n) with
  | none => none
  | some u => parOf (parsOf x.lib u) nm
theorem find_no {l : List Unt} {n : Int} (h : hasU l n = false) : l.find? (isNo n) = none := by
  rw [List.find?_eq_none]
  intro u hu c
  have : hasU l n = true := List.any_eq_true.2 ⟨u, hu, c⟩
  rw [this] at h; cases h
theorem find_pos {l : List Unt} (ha : AscU l) {n : Int} (h : hasU l n = true) : ∃ hp : posU l n < l.length, l.find? (isNo n) = some (l[posU l n]'hp) ∧ (l[posU l n]'hp).num = n := by
  obtain ⟨hp, h1⟩ := (hasU_at ha n).1 h
  refine ⟨hp, ?_, h1⟩
  have h2 := (idxU_has ha n).1 h
  rcases idxF_spec (isNo n) l with ⟨h3, _⟩ | ⟨k, hk, h3, h4⟩
  · unfold idxU at h2; rw [h3] at h2; omega
  · unfold idxU at h2
    rw [h3] at h2
    have : k = posU l n := by omega
    subst this
    exact h4
theorem findO_no {x : Rig} {n : Int} (h : hasU x.units n = false) (nm : List UInt8) : findO x n nm = none := by unfold findO; rw [find_no h]
theorem findO_yes {x : Rig} (hx : chkRig x = 0) {n : Int} (h : hasU x.units n = true) (nm : List UInt8) : ∃ (hp : posU x.units n < x.units.length) (p : Prf), (x.units[posU x.units n]'hp).num = n ∧ profOf x.lib (x.units[posU x.units n]'hp).nm = some p ∧ findO x n nm = parOf p.pars nm := by
  obtain ⟨hp, h1, h2⟩ := find_pos (asc_units hx) h
  obtain ⟨p, h3, _⟩ := par_right hx (List.getElem_mem hp)
  refine ⟨hp, p, h2, h3, ?_⟩
  unfold findO parsOf
  rw [h1]
  simp only [h3]
  rfl
end Go.Proofs.Ytopmdeefcjdadaa

namespace Go.Proofs.Ytopmdeefcjdadaa
open Go.ChangeShapes Go.WideShapes Go.RowKit Go.Deep
set_option linter.unusedSimpArgs false
set_option linter.unusedVariables false

def KeyFit (k : Int × ByteArray) : Prop := I64 k.1 ∧ k.2.size ≤ maxLen
def keyL (k : Int × ByteArray) : Lit := .string (keyBytes [.int .i64 k.1, .string k.2.data.toList])
def keyV (k : Int × ByteArray) : Value := .agg #[.int .i64 k.1, .string k.2]

theorem cellsInt_ : Try.prog.cellsOf 3 = 1 := by kernel_rfl
theorem cellsString_ : Try.prog.cellsOf 9 = 1 := by kernel_rfl
/-! ### keys of maps -/
theorem laidOut_ : laidOutB Try.prog = true := by kernel_rfl
theorem keyRow_ : (47 : TypeId) < Try.prog.types.size := of_decide_eq_true (by kernel_rfl)
theorem keyAt2_ : Try.prog.keyTypeAt 2 47 = true := by kernel_rfl
theorem keyWide_ : (match Try.prog.underlying 47 with | some (.array _ _) | some (.struct _) => true | _ => false) = true := by kernel_rfl
set_option maxRecDepth 100000 in
theorem keyLaw_ : WideMaps.KeyLaw Try.prog 47 := deep_law_laid laidOut_ (m := 2) (by omega) keyRow_ keyAt2_ keyWide_
theorem keyed_ : Maps.Keyed Try.prog 47 := Maps.Keyed.of_law keyLaw_
theorem keyType_ : Try.prog.keyType 47 = true := by kernel_rfl
theorem keyCells_ : Try.prog.cellsOf 47 = 2 := by kernel_rfl
theorem i64_wf {a : Int} (h : I64 a) : (Lit.int .i64 a).wf = true := by
  unfold I64 at h
  simp [Lit.wf, IntKind.min, IntKind.max, IntKind.signed, IntKind.bits]
  omega
theorem keyLits_ (d : Nat) {k : Int × ByteArray} (h : KeyFit k) : Try.prog.keyLits (d + 2) 47 [.int .i64 k.1, .string k.2] = some [.int .i64 k.1, .string k.2.data.toList] := by
  obtain ⟨h1, h2⟩ := h
  have hw := i64_wf h1
  unfold Program.keyLits
  rw [Try.underlying47]
  simp [keyCells_, cellsInt_, Program.keyLits, Try.underlying3, Try.underlying9, hw, h2, cellsString_]
theorem keyFormed_ (k : Int × ByteArray) : (keyV k).formed Try.prog 47 = true := by
  unfold keyV Value.formed
  rw [Try.underlying47]
  simp [keyCells_]
theorem keyOf_key {k : Int × ByteArray} (h : KeyFit k) : keyOf Try.prog 47 (keyV k) = some (keyL k) := by
  unfold keyOf
  rw [Try.underlying47]
  simp only [keyType_, keyFormed_, Bool.and_self, if_true]
  obtain ⟨d, hd⟩ : ∃ d, Try.prog.types.size + 1 = d + 2 := by
    have h0 : (47 : Nat) < Try.prog.types.size := keyRow_
    generalize Try.prog.types.size = n at h0 ⊢
    exact ⟨n - 1, by omega⟩
  rw [hd, show (keyV k).cells.toList = [.int .i64 k.1, .string k.2] from rfl, keyLits_ d h]
  rfl
theorem keyL_inj {a b : Int × ByteArray} (ha : KeyFit a) (hb : KeyFit b) (h : keyL a = keyL b) : a = b := by
  have h1 := keyOf_key ha
  have h2 := keyOf_key hb
  rw [← h] at h2
  have h3 := keyed_.inj h1 h2
  unfold keyV at h3
  simp at h3
  obtain ⟨x, y⟩ := a
  obtain ⟨z, u⟩ := b
  obtain ⟨h4, h5⟩ := h3
  simp at h4 h5
  rw [h4, h5]
end Go.Proofs.Ytopmdeefcjdadaa

namespace Go.Proofs.Ytopmdeefcjdadaa
open Go.RowKit
set_option linter.unusedVariables false
set_option linter.unusedSimpArgs false

instance decBytes : DecidableEq ByteArray := fun a b => if h : a.data = b.data then isTrue (ByteArray.ext h) else isFalse (fun e => h (by rw [e]))
def Stg.k (s : Stg) : Int × ByteArray := (s.unit, s.par)
def isK (k : Int × ByteArray) (s : Stg) : Bool := decide (s.k = k)
def stgF (x : Rig) (pre : List Stg) (s : Stg) : Int :=
  if (findO x s.unit s.par.data.toList).isNone then 8 else if !inR s.lv 0 65535 then 1 else if pre.any (isK s.k) then 6 else 0
def chkStgs (x : Rig) (l : List Stg) : Int := scanF (stgF x) l 0
def lvV (s : Stg) : Value := .int .i64 s.lv
theorem rev_some_iff (l : List Stg) (k : Int × ByteArray) : (l.reverse.find? (isK k)).isSome = l.any (isK k) := by
  rw [Bool.eq_iff_iff, List.find?_isSome, List.any_eq_true]
  constructor
  · rintro ⟨s, hs, h⟩
    exact ⟨s, List.mem_reverse.1 hs, h⟩
  · rintro ⟨s, hs, h⟩
    exact ⟨s, List.mem_reverse.2 hs, h⟩
theorem keyS_fit {s : Stg} (h : StgFit s) : KeyFit s.k := ⟨h.1, h.2.1⟩
theorem put_key {l : List Stg} {j : Nat} (h : j < l.length) (hf : ∀ s ∈ l, StgFit s) {f : Lit → Option Value} (hr : ∀ k, KeyFit k → f (keyL k) = ((l.take j).reverse.find? (isK k)).map lvV) :
    ∀ k, KeyFit k → putF f (keyL l[j].k) (lvV l[j]) (keyL k) = ((l.take (j + 1)).reverse.find? (isK k)).map lvV := by
  intro k hk
  rw [rev_snoc _ _ _ h]
  have hfj := keyS_fit (hf _ (List.getElem_mem h))
  by_cases c : l[j].k = k
  · rw [← c, putF_same (keyed_.key (keyOf_key hfj)), if_pos (by simp [isK])]; rfl
  · rw [putF_other (fun e => c (keyL_inj hk hfj e).symm), if_neg (by simp [isK, c]), hr k hk]
end Go.Proofs.Ytopmdeefcjdadaa

namespace Go.Proofs.Ytopmdeefcjdadaa
open Go.ChangeShapes Go.WideShapes Go.RowKit Go.Deep
set_option linter.unusedSimpArgs false
set_option linter.unusedVariables false

/-- a step of an effect -/
structure Stp where
  lv : Int
  hold : Int
  fade : Int
instance : Inhabited Stp := ⟨⟨0, 0, 0⟩⟩
/-- an effect -/
structure Eff where
  form : Int
  low : Int
  high : Int
  cycle : Int
  width : Int
  spread : Int
  back : Bool
  rel : Bool
  steps : List Stp
/-- the cells of a step -/
def StpC (w : World) (b off : Nat) (x : Stp) : Prop :=
  w.cell? ⟨b, off, none⟩ = some (.int .i64 x.lv) ∧ w.cell? ⟨b, off + 1, none⟩ = some (.int .i64 x.hold) ∧ w.cell? ⟨b, off + 2, none⟩ = some (.int .i64 x.fade)
def StpFit (x : Stp) : Prop := I64 x.lv ∧ I64 x.hold ∧ I64 x.fade
/-- a slice value whose elements are these steps, their cells below block B -/
def StS (B : Nat) (w : World) (v : Value) (l : List Stp) : Prop :=
  ∃ ao cap, v = .slice ao l.length cap ∧ l.length ≤ maxLen ∧ (l ≠ [] → ∃ b off, ao = some ⟨b, off, none⟩ ∧ b < B ∧ ∀ i (h : i < l.length), StpC w b (off + i * 3) l[i])
def EffFit (x : Eff) : Prop := (I64 x.form ∧ I64 x.low ∧ I64 x.high ∧ I64 x.cycle ∧ I64 x.width ∧ I64 x.spread) ∧ ∀ s ∈ x.steps, StpFit s
/-- an effect's value, its steps' slice being sv -/
def effV (x : Eff) (sv : Value) : Value := .agg #[.int .i64 x.form, .int .i64 x.low, .int .i64 x.high, .int .i64 x.cycle, .int .i64 x.width, .int .i64 x.spread, .bool x.back, .bool x.rel, sv]

theorem StS.below {B : Nat} {w w' : World} {v : Value} {l : List Stp} (h : StS B w v l) (hb : Below B w w') : StS B w' v l := by
  obtain ⟨ao, cap, rfl, h1, h2⟩ := h
  refine ⟨ao, cap, rfl, h1, fun hne => ?_⟩
  obtain ⟨b, off, rfl, h3, h4⟩ := h2 hne
  refine ⟨b, off, rfl, h3, fun i hi => ?_⟩
  obtain ⟨c0, c1, c2⟩ := h4 i hi
  exact ⟨(hb.cell (p := ⟨b, off + i * 3, none⟩) h3).trans c0, (hb.cell (p := ⟨b, off + i * 3 + 1, none⟩) h3).trans c1, (hb.cell (p := ⟨b, off + i * 3 + 2, none⟩) h3).trans c2⟩
theorem StS.more {B B' : Nat} {w : World} {v : Value} {l : List Stp} (h : StS B w v l) (hB : B ≤ B') : StS B' w v l := by
  obtain ⟨ao, cap, rfl, h1, h2⟩ := h
  refine ⟨ao, cap, rfl, h1, fun hne => ?_⟩
  obtain ⟨b, off, rfl, h3, h4⟩ := h2 hne
  exact ⟨b, off, rfl, Nat.lt_of_lt_of_le h3 hB, h4⟩

section
variable {H : Type} {enc : TypeId × Value → H} {w : World} {held : Bool}
theorem slist3 {α : Type} {l : List α} (h : l.length = 3) : ∃ a b c, l = [a, b, c] := by
  match l, h with
  | [a, b, c], _ => exact ⟨a, b, c, rfl⟩
theorem slist9 {α : Type} {l : List α} (h : l.length = 9) : ∃ a b c d e f g i j, l = [a, b, c, d, e, f, g, i, j] := by
  match l, h with
  | [a, b, c, d, e, f, g, i, j], _ => exact ⟨a, b, c, d, e, f, g, i, j, rfl⟩
set_option maxRecDepth 100000 in
theorem read_steps {fuel : Nat} {cs : List Value} {x : DataW H × List MemPlace} (h : DataW.trod enc Try.prog w 0 (fun _ => true) held fuel 22 cs = some x) :
    ∃ v l, cs = [v] ∧ StS w.heap.size w v l ∧ ∀ s ∈ l, StpFit s := by
  rcases open_slice Try.underlying22 h with ⟨rfl, _⟩ | ⟨a, len, cap, m, n, D, Pl, rfl, _, hl, hm, hmm, _, hx⟩
  · exact ⟨_, [], rfl, ⟨none, 0, rfl, Nat.zero_le _, fun h => absurd rfl h⟩, by simp⟩
  · simp only [if_true] at hmm
    subst hmm
    have c3 : Try.prog.cellsOf 108 = 3 := by kernel_rfl
    have he : ∀ i, i < len → ∃ y : Stp, w.cell? (a.add (i * 3)) = some (.int .i64 y.lv) ∧ w.cell? ((a.add (i * 3)).add 1) = some (.int .i64 y.hold) ∧ w.cell? ((a.add (i * 3)).add 2) = some (.int .i64 y.fade) ∧ StpFit y := by
      intro i hi
      obtain ⟨cs', h1, h2⟩ := hx i (by omega)
      rw [c3] at h1
      obtain ⟨_, hcl, hat⟩ := World.cells?_some h1
      obtain ⟨_, n', hf⟩ := open_fields1 Try.underlying108 (by kernel_rfl) c3 h2
      obtain ⟨u0, u1, u2, rfl⟩ := slist3 hcl
      obtain ⟨x1, z1, q1, m1⟩ := hf 0 _ rfl
      obtain ⟨x2, z2, q2, m2⟩ := hf 1 _ rfl
      obtain ⟨x3, z3, q3, m3⟩ := hf 2 _ rfl
      simp at q1 q2 q3
      subst q1 q2 q3
      obtain ⟨a1, rfl, w1⟩ := field_int Try.underlying3 m1
      obtain ⟨a2, rfl, w2⟩ := field_int Try.underlying3 m2
      obtain ⟨a3, rfl, w3⟩ := field_int Try.underlying3 m3
      refine ⟨⟨a1, a2, a3⟩, ?_, hat 1 (by omega), hat 2 (by omega), i64_of_wf w1, i64_of_wf w2, i64_of_wf w3⟩
      have := hat 0 (by omega)
      simpa [Addr.add] using this
    obtain ⟨Y, hY⟩ := choose_lt he
    have hps : ∀ i (h : i < ((List.range len).map Y).length), ((List.range len).map Y)[i] = Y i := by
      intro i h; simp
    refine ⟨_, (List.range len).map Y, rfl, ⟨some a, m, by simp, by simp; omega, fun hne => ?_⟩, ?_⟩
    · have h0 : 0 < len := by
        rcases Nat.eq_zero_or_pos len with h0 | h0
        · subst h0; simp at hne
        · exact h0
      have hsp : a.spot = none := by
        have := World.cell?_spot (hY 0 h0).1
        simpa [Addr.add] using this
      obtain ⟨b, off, spot⟩ := a
      simp only at hsp
      subst hsp
      refine ⟨b, off, rfl, ?_, ?_⟩
      · have := World.block_lt_of_cell? w _ (hY 0 h0).1
        simpa [Addr.add] using this
      · intro i h
        rw [hps i h]
        have hi : i < len := by simpa using h
        obtain ⟨h1, h2, h3, _⟩ := hY i hi
        rw [add_plain] at h1
        rw [add_plain, add_plain] at h2 h3
        exact ⟨h1, h2, h3⟩
    · intro y hy
      simp at hy
      obtain ⟨i, hi, rfl⟩ := hy
      exact (hY i hi).2.2.2
/-- an effect as an argument -/
def EfV (w : World) (v : Value) : Prop := ∃ (x : Eff) (sv : Value), v = effV x sv ∧ StS w.heap.size w sv x.steps ∧ EffFit x
set_option maxRecDepth 100000 in
theorem open_effect {r : Reach} {b0 : Nat} {v : Value} {d : DataW H} {p : List MemPlace} (hv : Value.okWide Try.prog w r b0 24 v) (h : DataW.Trod enc Try.prog w 0 (fun _ => true) held 24 v d p) :
    ∃ a : Value, v = a ∧ EfV w a := by
  obtain ⟨cs, n, rfl, hl, hf⟩ := open_struct1 Try.underlying24 (by kernel_rfl) (by kernel_rfl) hv h
  obtain ⟨u0, u1, u2, u3, u4, u5, u6, u7, u8, rfl⟩ := slist9 hl
  obtain ⟨x0, y0, q0, k0⟩ := hf 0 _ rfl
  obtain ⟨x1, y1, q1, k1⟩ := hf 1 _ rfl
  obtain ⟨x2, y2, q2, k2⟩ := hf 2 _ rfl
  obtain ⟨x3, y3, q3, k3⟩ := hf 3 _ rfl
  obtain ⟨x4, y4, q4, k4⟩ := hf 4 _ rfl
  obtain ⟨x5, y5, q5, k5⟩ := hf 5 _ rfl
  obtain ⟨x6, y6, q6, k6⟩ := hf 6 _ rfl
  obtain ⟨x7, y7, q7, k7⟩ := hf 7 _ rfl
  obtain ⟨x8, y8, q8, k8⟩ := hf 8 _ rfl
  simp at q0 q1 q2 q3 q4 q5 q6 q7 q8
  subst q0 q1 q2 q3 q4 q5 q6 q7 q8
  obtain ⟨a0, rfl, w0⟩ := field_int Try.underlying3 k0
  obtain ⟨a1, rfl, w1⟩ := field_int Try.underlying3 k1
  obtain ⟨a2, rfl, w2⟩ := field_int Try.underlying3 k2
  obtain ⟨a3, rfl, w3⟩ := field_int Try.underlying3 k3
  obtain ⟨a4, rfl, w4⟩ := field_int Try.underlying3 k4
  obtain ⟨a5, rfl, w5⟩ := field_int Try.underlying3 k5
  obtain ⟨a6, e6, _⟩ := DataW.trod_bool Try.underlying4 k6
  simp at e6
  subst e6
  obtain ⟨a7, e7, _⟩ := DataW.trod_bool Try.underlying4 k7
  simp at e7
  subst e7
  obtain ⟨v8, l8, e8, h8, f8⟩ := read_steps k8
  simp at e8
  subst e8
  exact ⟨_, rfl, ⟨a0, a1, a2, a3, a4, a5, a6, a7, l8⟩, _, rfl, h8, ⟨i64_of_wf w0, i64_of_wf w1, i64_of_wf w2, i64_of_wf w3, i64_of_wf w4, i64_of_wf w5⟩, f8⟩
end
end Go.Proofs.Ytopmdeefcjdadaa

namespace Go.Proofs.Ytopmdeefcjdadaa
open Go.ChangeShapes Go.WideShapes Go.RowKit Go.Deep
set_option linter.unusedSimpArgs false
set_option linter.unusedVariables false

/-- a running effect; a key: its unit and its parameter's name; a rate: its time and its percentage -/
structure Run where
  ef : Eff
  keys : List (Int × ByteArray)
  start : Int
  rates : List (Int × Int)
  tin : Int
  tend : Int
  tout : Int
def kCells (l : List (Int × ByteArray)) : List Value := cells2 (fun k : Int × ByteArray => Value.int .i64 k.1) (fun k => .string k.2) l
def rCells (l : List (Int × Int)) : List Value := cells2 (fun k : Int × Int => Value.int .i64 k.1) (fun k => .int .i64 k.2) l
def KeyS (B : Nat) (w : World) (v : Value) (l : List (Int × ByteArray)) : Prop := CellsS B w v l.length (kCells l)
def RateS (B : Nat) (w : World) (v : Value) (l : List (Int × Int)) : Prop := CellsS B w v l.length (rCells l)
def RateFit (k : Int × Int) : Prop := I64 k.1 ∧ I64 k.2
def RunFit (x : Run) : Prop := EffFit x.ef ∧ (∀ k ∈ x.keys, KeyFit k) ∧ (∀ k ∈ x.rates, RateFit k) ∧ I64 x.start ∧ I64 x.tin ∧ I64 x.tend ∧ I64 x.tout
/-- a running effect's value -/
def runV (x : Run) (sv kv rv : Value) : Value := .agg #[.int .i64 x.ef.form, .int .i64 x.ef.low, .int .i64 x.ef.high, .int .i64 x.ef.cycle, .int .i64 x.ef.width, .int .i64 x.ef.spread, .bool x.ef.back, .bool x.ef.rel, sv, kv, .int .i64 x.start, rv, .int .i64 x.tin, .int .i64 x.tend, .int .i64 x.tout]
/-- what its slices hold -/
structure RunAt (B : Nat) (w : World) (x : Run) (sv kv rv : Value) : Prop where
  steps : StS B w sv x.ef.steps
  keys : KeyS B w kv x.keys
  rates : RateS B w rv x.rates
theorem RunAt.below {B : Nat} {w w' : World} {x : Run} {sv kv rv : Value} (h : RunAt B w x sv kv rv) (hb : Below B w w') : RunAt B w' x sv kv rv := ⟨h.steps.below hb, CellsS.below h.keys hb, CellsS.below h.rates hb⟩
theorem RunAt.more {B B' : Nat} {w : World} {x : Run} {sv kv rv : Value} (h : RunAt B w x sv kv rv) (hB : B ≤ B') : RunAt B' w x sv kv rv := ⟨h.steps.more hB, CellsS.more h.keys hB, CellsS.more h.rates hB⟩

section
variable {H : Type} {enc : TypeId × Value → H} {w : World} {held : Bool}
theorem slist15 {α : Type} {l : List α} (h : l.length = 15) : ∃ a b c d e f g i j k m n o p q, l = [a, b, c, d, e, f, g, i, j, k, m, n, o, p, q] := by
  match l, h with
  | [a, b, c, d, e, f, g, i, j, k, m, n, o, p, q], _ => exact ⟨a, b, c, d, e, f, g, i, j, k, m, n, o, p, q, rfl⟩
set_option maxRecDepth 100000 in
theorem read_keys {fuel : Nat} {cs : List Value} {x : DataW H × List MemPlace} (h : DataW.trod enc Try.prog w 0 (fun _ => true) held fuel 25 cs = some x) :
    ∃ v l, cs = [v] ∧ KeyS w.heap.size w v l ∧ ∀ s ∈ l, KeyFit s := by
  rcases open_slice Try.underlying25 h with ⟨rfl, _⟩ | ⟨a, len, cap, m, n, D, Pl, rfl, _, hl, hm, hmm, _, hx⟩
  · exact ⟨_, [], rfl, CellsS.nil _ _, by simp⟩
  · simp only [if_true] at hmm
    subst hmm
    have c3 : Try.prog.cellsOf 47 = 2 := by kernel_rfl
    have he : ∀ i, i < len → ∃ y : Int × ByteArray, w.cell? (a.add (i * 2)) = some (.int .i64 y.1) ∧ w.cell? ((a.add (i * 2)).add 1) = some (.string y.2) ∧ KeyFit y := by
      intro i hi
      obtain ⟨cs', h1, h2⟩ := hx i (by omega)
      rw [c3] at h1
      obtain ⟨_, hcl, hat⟩ := World.cells?_some h1
      obtain ⟨_, n', hf⟩ := open_fields1 Try.underlying47 (by kernel_rfl) c3 h2
      obtain ⟨u0, u1, rfl⟩ := list2 hcl
      obtain ⟨x1, z1, q1, m1⟩ := hf 0 _ rfl
      obtain ⟨x2, z2, q2, m2⟩ := hf 1 _ rfl
      simp at q1 q2
      subst q1 q2
      obtain ⟨a1, rfl, w1⟩ := field_int Try.underlying3 m1
      obtain ⟨a2, e2, _, w2⟩ := DataW.trod_string Try.underlying9 m2
      simp at e2
      subst e2
      refine ⟨⟨a1, a2⟩, ?_, hat 1 (by omega), i64_of_wf w1, w2⟩
      have := hat 0 (by omega)
      simpa [Addr.add] using this
    obtain ⟨Y, hY⟩ := choose_lt he
    refine ⟨_, (List.range len).map Y, rfl, ⟨some a, m, by simp, by simpa using hl, hm, fun hpos => ?_⟩, ?_⟩
    · have h0 : 0 < len := by simpa using hpos
      have hsp : a.spot = none := by
        have := World.cell?_spot (hY 0 h0).1
        simpa [Addr.add] using this
      obtain ⟨b, off, spot⟩ := a
      simp only at hsp
      subst hsp
      refine ⟨b, off, rfl, ?_, fun j u hu => ?_⟩
      · have := World.block_lt_of_cell? w _ (hY 0 h0).1
        simpa [Addr.add] using this
      · have hj : j < (kCells ((List.range len).map Y)).length := (List.getElem?_eq_some_iff.1 hu).1
        rw [show (kCells ((List.range len).map Y)).length = len * 2 by unfold kCells; rw [cells2_length]; simp] at hj
        have hi : j / 2 < len := by omega
        obtain ⟨g1, g2⟩ := cells2_get (fun k : Int × ByteArray => Value.int .i64 k.1) (fun k => .string k.2) ((List.range len).map Y) (j / 2) (by simpa using hi)
        obtain ⟨c1, c2, _⟩ := hY (j / 2) hi
        rw [addr_plus] at c1
        rw [addr_plus, addr_plus] at c2
        simp only [List.getElem_map, List.getElem_range] at g1 g2
        rcases Nat.mod_two_eq_zero_or_one j with e | e
        · have : j = j / 2 * 2 := by omega
          rw [this] at hu ⊢
          obtain rfl := Option.some.inj (g1.symm.trans hu)
          exact c1
        · have : j = j / 2 * 2 + 1 := by omega
          rw [this] at hu ⊢
          obtain rfl := Option.some.inj (g2.symm.trans hu)
          exact c2
    · intro y hy
      simp at hy
      obtain ⟨i, hi, rfl⟩ := hy
      exact (hY i hi).2.2
set_option maxRecDepth 100000 in
theorem read_rates {fuel : Nat} {cs : List Value} {x : DataW H × List MemPlace} (h : DataW.trod enc Try.prog w 0 (fun _ => true) held fuel 26 cs = some x) :
    ∃ v l, cs = [v] ∧ RateS w.heap.size w v l ∧ ∀ s ∈ l, RateFit s := by
  rcases open_slice Try.underlying26 h with ⟨rfl, _⟩ | ⟨a, len, cap, m, n, D, Pl, rfl, _, hl, hm, hmm, _, hx⟩
  · exact ⟨_, [], rfl, CellsS.nil _ _, by simp⟩
  · simp only [if_true] at hmm
    subst hmm
    have c3 : Try.prog.cellsOf 67 = 2 := by kernel_rfl
    have he : ∀ i, i < len → ∃ y : Int × Int, w.cell? (a.add (i * 2)) = some (.int .i64 y.1) ∧ w.cell? ((a.add (i * 2)).add 1) = some (.int .i64 y.2) ∧ RateFit y := by
      intro i hi
      obtain ⟨cs', h1, h2⟩ := hx i (by omega)
      rw [c3] at h1
      obtain ⟨_, hcl, hat⟩ := World.cells?_some h1
      obtain ⟨_, n', hf⟩ := open_fields1 Try.underlying67 (by kernel_rfl) c3 h2
      obtain ⟨u0, u1, rfl⟩ := list2 hcl
      obtain ⟨x1, z1, q1, m1⟩ := hf 0 _ rfl
      obtain ⟨x2, z2, q2, m2⟩ := hf 1 _ rfl
      simp at q1 q2
      subst q1 q2
      obtain ⟨a1, rfl, w1⟩ := field_int Try.underlying3 m1
      obtain ⟨a2, rfl, w2⟩ := field_int Try.underlying3 m2
      refine ⟨⟨a1, a2⟩, ?_, hat 1 (by omega), i64_of_wf w1, i64_of_wf w2⟩
      have := hat 0 (by omega)
      simpa [Addr.add] using this
    obtain ⟨Y, hY⟩ := choose_lt he
    refine ⟨_, (List.range len).map Y, rfl, ⟨some a, m, by simp, by simpa using hl, hm, fun hpos => ?_⟩, ?_⟩
    · have h0 : 0 < len := by simpa using hpos
      have hsp : a.spot = none := by
        have := World.cell?_spot (hY 0 h0).1
        simpa [Addr.add] using this
      obtain ⟨b, off, spot⟩ := a
      simp only at hsp
      subst hsp
      refine ⟨b, off, rfl, ?_, fun j u hu => ?_⟩
      · have := World.block_lt_of_cell? w _ (hY 0 h0).1
        simpa [Addr.add] using this
      · have hj : j < (rCells ((List.range len).map Y)).length := (List.getElem?_eq_some_iff.1 hu).1
        rw [show (rCells ((List.range len).map Y)).length = len * 2 by unfold rCells; rw [cells2_length]; simp] at hj
        have hi : j / 2 < len := by omega
        obtain ⟨g1, g2⟩ := cells2_get (fun k : Int × Int => Value.int .i64 k.1) (fun k => .int .i64 k.2) ((List.range len).map Y) (j / 2) (by simpa using hi)
        obtain ⟨c1, c2, _⟩ := hY (j / 2) hi
        rw [addr_plus] at c1
        rw [addr_plus, addr_plus] at c2
        simp only [List.getElem_map, List.getElem_range] at g1 g2
        rcases Nat.mod_two_eq_zero_or_one j with e | e
        · have : j = j / 2 * 2 := by omega
          rw [this] at hu ⊢
          obtain rfl := Option.some.inj (g1.symm.trans hu)
          exact c1
        · have : j = j / 2 * 2 + 1 := by omega
          rw [this] at hu ⊢
          obtain rfl := Option.some.inj (g2.symm.trans hu)
          exact c2
    · intro y hy
      simp at hy
      obtain ⟨i, hi, rfl⟩ := hy
      exact (hY i hi).2.2
set_option maxRecDepth 100000 in
theorem read_effect {fuel : Nat} {cs : List Value} {x : DataW H × List MemPlace} (h : DataW.trod enc Try.prog w 0 (fun _ => true) held fuel 24 cs = some x) :
    ∃ (y : Eff) (sv : Value), cs = [.int .i64 y.form, .int .i64 y.low, .int .i64 y.high, .int .i64 y.cycle, .int .i64 y.width, .int .i64 y.spread, .bool y.back, .bool y.rel, sv] ∧ StS w.heap.size w sv y.steps ∧ EffFit y := by
  have hc : Try.prog.cellsOf 24 = 9 := by kernel_rfl
  obtain ⟨hl, n, hf⟩ := open_fields1 Try.underlying24 (by kernel_rfl) hc h
  obtain ⟨u0, u1, u2, u3, u4, u5, u6, u7, u8, rfl⟩ := slist9 hl
  obtain ⟨x0, y0, q0, k0⟩ := hf 0 _ rfl
  obtain ⟨x1, y1, q1, k1⟩ := hf 1 _ rfl
  obtain ⟨x2, y2, q2, k2⟩ := hf 2 _ rfl
  obtain ⟨x3, y3, q3, k3⟩ := hf 3 _ rfl
  obtain ⟨x4, y4, q4, k4⟩ := hf 4 _ rfl
  obtain ⟨x5, y5, q5, k5⟩ := hf 5 _ rfl
  obtain ⟨x6, y6, q6, k6⟩ := hf 6 _ rfl
  obtain ⟨x7, y7, q7, k7⟩ := hf 7 _ rfl
  obtain ⟨x8, y8, q8, k8⟩ := hf 8 _ rfl
  simp at q0 q1 q2 q3 q4 q5 q6 q7 q8
  subst q0 q1 q2 q3 q4 q5 q6 q7 q8
  obtain ⟨a0, rfl, w0⟩ := field_int Try.underlying3 k0
  obtain ⟨a1, rfl, w1⟩ := field_int Try.underlying3 k1
  obtain ⟨a2, rfl, w2⟩ := field_int Try.underlying3 k2
  obtain ⟨a3, rfl, w3⟩ := field_int Try.underlying3 k3
  obtain ⟨a4, rfl, w4⟩ := field_int Try.underlying3 k4
  obtain ⟨a5, rfl, w5⟩ := field_int Try.underlying3 k5
  obtain ⟨a6, e6, _⟩ := DataW.trod_bool Try.underlying4 k6
  simp at e6
  subst e6
  obtain ⟨a7, e7, _⟩ := DataW.trod_bool Try.underlying4 k7
  simp at e7
  subst e7
  obtain ⟨v8, l8, e8, h8, f8⟩ := read_steps k8
  simp at e8
  subst e8
  exact ⟨⟨a0, a1, a2, a3, a4, a5, a6, a7, l8⟩, _, rfl, h8, ⟨i64_of_wf w0, i64_of_wf w1, i64_of_wf w2, i64_of_wf w3, i64_of_wf w4, i64_of_wf w5⟩, f8⟩
theorem cellsEffect_ : Try.prog.cellsOf 24 = 9 := by kernel_rfl
theorem cellsKeys_ : Try.prog.cellsOf 25 = 1 := by kernel_rfl
theorem cellsRates_ : Try.prog.cellsOf 26 = 1 := by kernel_rfl
theorem cellsRunning_ : Try.prog.cellsOf 28 = 15 := by kernel_rfl
/-- a running effect as an argument -/
def RunV (w : World) (v : Value) : Prop := ∃ (x : Run) (sv kv rv : Value), v = runV x sv kv rv ∧ RunAt w.heap.size w x sv kv rv ∧ RunFit x
set_option maxRecDepth 100000 in
theorem open_running {r : Reach} {b0 : Nat} {v : Value} {d : DataW H} {p : List MemPlace} (hv : Value.okWide Try.prog w r b0 28 v) (h : DataW.Trod enc Try.prog w 0 (fun _ => true) held 28 v d p) :
    ∃ a : Value, v = a ∧ RunV w a := by
  obtain ⟨cs, n, rfl, hl, hf⟩ := open_struct Try.underlying28 hv h
  rw [cellsRunning_] at hl
  obtain ⟨u0, u1, u2, u3, u4, u5, u6, u7, u8, u9, u10, u11, u12, u13, u14, rfl⟩ := slist15 hl
  obtain ⟨y0, k0⟩ := hf 0 _ rfl
  obtain ⟨y1, k1⟩ := hf 1 _ rfl
  obtain ⟨y2, k2⟩ := hf 2 _ rfl
  obtain ⟨y3, k3⟩ := hf 3 _ rfl
  obtain ⟨y4, k4⟩ := hf 4 _ rfl
  obtain ⟨y5, k5⟩ := hf 5 _ rfl
  obtain ⟨y6, k6⟩ := hf 6 _ rfl
  simp only [List.getElem_toArray, List.getElem_cons_zero, List.getElem_cons_succ, cellsInt_, cellsEffect_, cellsKeys_, cellsRates_, List.drop_zero, List.drop_succ_cons, List.take_succ_cons, List.take_zero] at k0 k1 k2 k3 k4 k5 k6
  obtain ⟨y, sv, e0, h0, f0⟩ := read_effect k0
  simp at e0
  obtain ⟨rfl, rfl, rfl, rfl, rfl, rfl, rfl, rfl, rfl⟩ := e0
  obtain ⟨kv, kl, e1, h1, f1⟩ := read_keys k1
  simp at e1
  subst e1
  obtain ⟨a2, rfl, w2⟩ := field_int Try.underlying3 k2
  obtain ⟨rv, rl, e3, h3, f3⟩ := read_rates k3
  simp at e3
  subst e3
  obtain ⟨a4, rfl, w4⟩ := field_int Try.underlying3 k4
  obtain ⟨a5, rfl, w5⟩ := field_int Try.underlying3 k5
  obtain ⟨a6, rfl, w6⟩ := field_int Try.underlying3 k6
  exact ⟨_, rfl, ⟨y, kl, a2, rl, a4, a5, a6⟩, _, _, _, rfl, ⟨h0, h1, h3⟩, f0, f1, f3, i64_of_wf w2, i64_of_wf w4, i64_of_wf w5, i64_of_wf w6⟩
end

end Go.Proofs.Ytopmdeefcjdadaa

namespace Go.Proofs.Ytopmdeefcjdadaa
open Go.RowKit
set_option linter.unusedVariables false
set_option linter.unusedSimpArgs false

set_option maxHeartbeats 400000 in
theorem eLevel_R (n : Int) (w : World) : Calls Try.prog 73 #[.int .i64 n] w fun e w' => e = .returned (.bool (inR n 0 65535)) ∧ w = w' := by
  go_enter Try.func73, Try.ntmps73
  go_wp2_with (go_at_call 30; refine (within_R _ _ _ _).mono ?_; rintro e w' ⟨rfl, rfl⟩)
  go_ret
  exact ⟨rfl, rfl⟩
/-- whether a step is right -/
def stpB (s : Stp) : Bool := inR s.lv 0 65535 && inR s.hold 0 3600000 && inR s.fade 0 3600000
def sumS : List Stp → Int
  | [] => 0
  | s :: r => s.hold + s.fade + sumS r
theorem sumS_append (l m : List Stp) : sumS (l ++ m) = sumS l + sumS m := by
  induction l with
  | nil => simp [sumS]
  | cons s r ih => simp only [List.cons_append, sumS, ih]; omega
theorem sumS_take (l : List Stp) (k : Nat) (h : k < l.length) : sumS (l.take (k + 1)) = sumS (l.take k) + (l[k].hold + l[k].fade) := by
  rw [List.take_succ_eq_append_getElem h, sumS_append]
  simp [sumS]
theorem stpB_le {s : Stp} (h : stpB s = true) : (0 ≤ s.lv ∧ s.lv ≤ 65535) ∧ (0 ≤ s.hold ∧ s.hold ≤ 3600000) ∧ 0 ≤ s.fade ∧ s.fade ≤ 3600000 := by
  simp [stpB, inR] at h
  omega
theorem sumS_le (l : List Stp) (h : l.all stpB = true) : 0 ≤ sumS l ∧ sumS l ≤ 7200000 * l.length := by
  induction l with
  | nil => simp [sumS]
  | cons s r ih =>
    simp only [List.all_cons, Bool.and_eq_true] at h
    have h1 := ih h.2
    have h2 := stpB_le h.1
    simp only [sumS, List.length_cons]
    omega
theorem all_takeS {l : List Stp} (h : l.all stpB = true) (k : Nat) : (l.take k).all stpB = true := by
  rw [List.all_eq_true] at h ⊢
  exact fun x hx => h x (List.mem_of_mem_take hx)
/-- the fault of an effect -/
def chkB (fb f4 f7 w0 c0 l0 lb hb hl cb wb sb l50 st cy : Bool) : Int :=
  if !fb then 4 else if (!f4 && !w0) || (f7 && !c0) || (!f7 && !l0) then 3 else if !lb || !hb || hl then 1 else if (!f7 && !cb) || !wb || !sb then 1 else if !f7 then 0 else if l0 then 8 else if l50 then 2 else if !st then 1 else if cy then 0 else 1
def chkF (form low high cycle width spread : Int) (l : List Stp) : Int :=
  chkB (inR form 1 7) (form == 4) (form == 7) (width == 0) (cycle == 0) (l.length == 0) (inR low 0 65535) (inR high 0 65535) (decide (high < low)) (inR cycle 1 3600000) (inR width 0 1000) (inR spread (-10000) 10000) (decide (50 < l.length)) (l.all stpB) (inR (cycle + sumS l) 1 3600000)
def chkEf (x : Eff) : Int := chkF x.form x.low x.high x.cycle x.width x.spread x.steps
/-- the cells of the steps, whatever grows behind the block W -/
def StepsAt (B : Nat) (w : World) (ao : Option Addr) (l : List Stp) : Prop := l ≠ [] → ∃ b off, ao = some ⟨b, off, none⟩ ∧ b < B ∧ ∀ i (h : i < l.length), StpC w b (off + i * 3) l[i]

set_option maxHeartbeats 2000000 in
theorem cycle_any (form low high cycle width spread : Int) (back rel : Bool) (ao : Option Addr) (cap : Nat) (l : List Stp) (w : World) (hs : StepsAt w.heap.size w ao l) (hl : l.length ≤ 50) (hall : l.all stpB = true) (hc : 0 ≤ cycle ∧ cycle ≤ 3600000) :
    Calls Try.prog 55 #[(.agg #[.int .i64 form, .int .i64 low, .int .i64 high, .int .i64 cycle, .int .i64 width, .int .i64 spread, .bool back, .bool rel, .slice ao l.length cap])] w fun e w' => e = .returned (.int .i64 (cycle + sumS l)) ∧ Below w.heap.size w w' := by
  have HS := Lib.hid hs
  have HSB := Lib.hid (fun k => sumS_le _ (all_takeS hall k))
  have HK := Lib.hid (fun k (h : k < l.length) => sumS_take l k h)
  have HA := Lib.hid (fun k (h : k < l.length) => stpB_le (List.all_eq_true.1 hall _ (List.getElem_mem h)))
  have HEND := Lib.hid (show sumS (l.take l.length) = sumS l by rw [List.take_length])
  skip
  clear hs hall
  go_enter Try.func55, Try.ntmps55
  go_wp2_with fail
  go_loopw [3, 11] (fun n i wr => ∃ k : Nat, k ≤ l.length ∧ i = .int .i64 k ∧ n = .int .i64 (cycle + sumS (l.take k)) ∧ Below w.heap.size w wr ∧ w.heap.size + 1 ≤ wr.heap.size) (fun _ i _ => l.length - (intOf i).toNat)
  case atStart => exact ⟨0, Nat.zero_le _, rfl, by simp [sumS], (Below.refl _ _).alloc (Nat.le_refl _) _, by simp⟩
  case round =>
    obtain ⟨k, hk, rfl, rfl, hbw, hzw⟩ := hrel
    by_cases hlt : k < l.length
    · obtain ⟨b, off, rfl, hbb, hc9⟩ := HS.out (by intro h; subst h; simp at hlt)
      obtain ⟨c0, c1, c2⟩ := hc9 k hlt
      have d0 : wr.cell? ⟨b, off + k * 3, none⟩ = some (.int .i64 l[k].lv) := (hbw.cell (p := ⟨b, off + k * 3, none⟩) hbb).trans c0
      have d1 : wr.cell? ⟨b, off + k * 3 + 1, none⟩ = some (.int .i64 l[k].hold) := (hbw.cell (p := ⟨b, off + k * 3 + 1, none⟩) hbb).trans c1
      have d2 : wr.cell? ⟨b, off + k * 3 + 2, none⟩ = some (.int .i64 l[k].fade) := (hbw.cell (p := ⟨b, off + k * 3 + 2, none⟩) hbb).trans c2
      have hbr : b < wr.heap.size := by omega
      have HB := Lib.hid hbw
      have HN := Lib.hid (HK.out k hlt)
      have s1 := HSB.out k
      obtain ⟨_, s3, s4⟩ := HA.out k hlt
      have s2 : (l.take k).length ≤ 50 := by rw [List.length_take]; omega
      obtain ⟨s5, s6⟩ := s1
      have s7 : sumS (l.take k) ≤ 360000000 := by omega
      clear hbw c0 c1 c2 hc9 hbb s6
      go_wp2_with fail
      go_roundw
      case rel =>
        first
          | exact ⟨k + 1, by omega, by go_num, by rw [HN.out] <;> (congr 1; omega), HB.out.alloc (by omega) _, by simp; omega⟩
          | ((repeat apply Exists.intro); refine ⟨⟨k + 1, by omega, by go_num, by rw [HN.out] <;> (congr 1; omega), HB.out.alloc (by omega) _, by simp; omega⟩, ?_⟩; rfl)
      case measure => simp [intOf]; omega
    · have hkk : k = l.length := by omega
      have HB := Lib.hid hbw
      subst hkk
      clear hbw
      go_wp2_with fail
      go_ret
      exact ⟨by rw [HEND.out]; rfl, HB.out⟩

set_option maxHeartbeats 2000000 in
theorem rcycle_any (form low high cycle width spread : Int) (back rel : Bool) (ao : Option Addr) (cap : Nat) (l : List Stp) (w : World) (h7 : form = 7) (hs : StepsAt w.heap.size w ao l) (hl : l.length ≤ 50) (hall : l.all stpB = true) (hc : 0 ≤ cycle ∧ cycle ≤ 3600000) :
    Calls Try.prog 79 #[(.agg #[.int .i64 form, .int .i64 low, .int .i64 high, .int .i64 cycle, .int .i64 width, .int .i64 spread, .bool back, .bool rel, .slice ao l.length cap])] w fun e w' => e = .returned (.int .i64 (sumS l)) ∧ Below w.heap.size w w' := by
  have HS := Lib.hid hs
  have HSB := Lib.hid (fun k => sumS_le _ (all_takeS hall k))
  have HK := Lib.hid (fun k (h : k < l.length) => sumS_take l k h)
  have HA := Lib.hid (fun k (h : k < l.length) => stpB_le (List.all_eq_true.1 hall _ (List.getElem_mem h)))
  have HEND := Lib.hid (show sumS (l.take l.length) = sumS l by rw [List.take_length])
  subst h7
  clear hs hall
  go_enter Try.func79, Try.ntmps79
  go_wp2_with fail
  go_loopw [3, 14] (fun n i wr => ∃ k : Nat, k ≤ l.length ∧ i = .int .i64 k ∧ n = .int .i64 (sumS (l.take k)) ∧ Below w.heap.size w wr ∧ w.heap.size + 1 ≤ wr.heap.size) (fun _ i _ => l.length - (intOf i).toNat)
  case atStart => exact ⟨0, Nat.zero_le _, rfl, by simp [sumS], (Below.refl _ _).alloc (Nat.le_refl _) _, by simp⟩
  case round =>
    obtain ⟨k, hk, rfl, rfl, hbw, hzw⟩ := hrel
    by_cases hlt : k < l.length
    · obtain ⟨b, off, rfl, hbb, hc9⟩ := HS.out (by intro h; subst h; simp at hlt)
      obtain ⟨c0, c1, c2⟩ := hc9 k hlt
      have d0 : wr.cell? ⟨b, off + k * 3, none⟩ = some (.int .i64 l[k].lv) := (hbw.cell (p := ⟨b, off + k * 3, none⟩) hbb).trans c0
      have d1 : wr.cell? ⟨b, off + k * 3 + 1, none⟩ = some (.int .i64 l[k].hold) := (hbw.cell (p := ⟨b, off + k * 3 + 1, none⟩) hbb).trans c1
      have d2 : wr.cell? ⟨b, off + k * 3 + 2, none⟩ = some (.int .i64 l[k].fade) := (hbw.cell (p := ⟨b, off + k * 3 + 2, none⟩) hbb).trans c2
      have hbr : b < wr.heap.size := by omega
      have HB := Lib.hid hbw
      have HN := Lib.hid (HK.out k hlt)
      have s1 := HSB.out k
      obtain ⟨_, s3, s4⟩ := HA.out k hlt
      have s2 : (l.take k).length ≤ 50 := by rw [List.length_take]; omega
      obtain ⟨s5, s6⟩ := s1
      have s7 : sumS (l.take k) ≤ 360000000 := by omega
      clear hbw c0 c1 c2 hc9 hbb s6
      go_wp2_with fail
      go_roundw
      case rel =>
        first
          | exact ⟨k + 1, by omega, by go_num, by rw [HN.out] <;> (congr 1; omega), HB.out.alloc (by omega) _, by simp; omega⟩
          | ((repeat apply Exists.intro); refine ⟨⟨k + 1, by omega, by go_num, by rw [HN.out] <;> (congr 1; omega), HB.out.alloc (by omega) _, by simp; omega⟩, ?_⟩; rfl)
      case measure => simp [intOf]; omega
    · have hkk : k = l.length := by omega
      have HB := Lib.hid hbw
      subst hkk
      clear hbw
      go_wp2_with fail
      go_ret
      exact ⟨by rw [HEND.out]; rfl, HB.out⟩
end Go.Proofs.Ytopmdeefcjdadaa
