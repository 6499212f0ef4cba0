/- Own rows of settings and of keys, an append of one as one step; the frames of a map. (printed by wip/gen/gen_setown.py) Boxes known by their block: kept by calls, allocs, appends to own rows of another type. (printed by wip/gen/gen_tbox.py) The parameter of a key. No walk in it. (printed by wip/gen/gen_find.py) A unit gets another profile: its place; the rig behind it is right. No walk in it. api.Key as a key of maps. (printed by wip/gen/gen_keylaw.py) The faults of settings. No walk in it. (printed by wip/gen/gen_ckstg.py) The level of a named range. No walk in it. (printed by wip/gen/gen_named.py) The level of a setting with another profile. No walk in it. (printed by wip/gen/gen_carried.py) -/
import Derived.Test.YtabalicembhjmaaT33M17
import Derived.OwnWalk
import Derived.Laws.AppendOwn
import Derived.Test.YtabalicembhjmaaT33M06
import Derived.Test.YtabalicembhjmaaT33M16
import Derived.Test.YtabalicembhjmaaT33M15
import Derived.MapViews
import Derived.DeepKeys4
import Derived.Maps.Keyed
import Derived.Test.YtabalicembhjmaaT33M02

namespace Go.Proofs.Ytabalicembhjmaa
open Go.RowKit
open Go (info_parts)
set_option linter.unusedVariables false
set_option linter.unusedSimpArgs false

def OwnS (base : Nat) (w : World) (v : Value) (l : List Stg) : Prop := w.ownsRow base 35 3 v l.length (l.flatMap stgC)
theorem OwnS.nil (base : Nat) (w : World) : OwnS base w (.slice none 0 0) [] := World.ownsRow_nil w base _ _
theorem OwnS.shape {base : Nat} {w : World} {v : Value} {l : List Stg} (h : OwnS base w v l) : ∃ ao cap, v = .slice ao l.length cap := by
  rcases h.2 with h' | ⟨g, cap, cur, e1, _⟩
  · exact ⟨none, 0, by rw [h'.1, h'.2]⟩
  · exact ⟨_, cap, e1⟩
theorem OwnS.below {base : Nat} {w w' : World} {v : Value} {l : List Stg} (h : OwnS base w v l) (hb : Below w.heap.size w w') : OwnS base w' v l := by
  refine ⟨h.1, ?_⟩
  rcases h.2 with h' | ⟨g, cap, cur, e1, h1, h2, h3⟩
  · exact .inl h'
  · exact .inr ⟨g, cap, cur, e1, h1, (hb.block g (World.ownsRow.lt h g (by rw [e1]; rfl)).2).trans h2, h3⟩
theorem OwnS.keeps {B base : Nat} {a w w' : World} {v : Value} {l : List Stg} (ho : OwnS base w v l) (h : Below B a w) (g : w.grownBy w' v.ownBlock) (hB : B ≤ base) (hs : B ≤ w.heap.size) : Below B a w' :=
  h.grown g hs (fun k hk => by have := (World.ownsRow.lt ho k hk).1; omega)
theorem infoOwnS : (Try.prog.info? 35).map (fun i => (i.zero, i.size, i.bytes)) = some (some (.agg #[.int .i64 0, .string ⟨#[]⟩, .int .i64 0]), 3, 32) := by kernel_rfl
theorem wpList_ownS {w : World} {ops : Array Oper} {rest : List Oper} {o : Oper} {a : Act} {Q : Exit → Act → World → Prop} (hgd : o.guard = none) (s x : Operand)
    (hop : o.op = .call { callee := .builtin .append, args := #[s, x], argTypes := #[27, 27] })
    (base c : Nat) (v : Value) (l : List Stg) (y : Stg) (ad : Addr) (hs : a.eval s = v) (hx : a.eval x = .slice (some ad) 1 c)
    (ho : OwnS base w v l) (hc : ∀ (j : Nat) u, (stgC y)[j]? = some u → w.cell? (ad.add j) = some u) (hl : l.length ≤ 10000000) (hb : base ≤ w.heap.size)
    (h : ∀ v' w', OwnS base w' v' (l ++ [y]) → w.grownBy w' v.ownBlock → wpList Try.prog ops Q rest (a.put o.dst v') w') : wpList Try.prog ops Q (o :: rest) a w := by
  obtain ⟨i0, hi, hz0, hz1, hz2⟩ := info_parts infoOwnS
  refine wpList_append_own w hgd s x 27 hop base 35 i0 (.agg #[.int .i64 0, .string ⟨#[]⟩, .int .i64 0]) 3 32 Try.underlying27 hi hz0 hz1 hz2 rfl (by decide) v l.length (l.flatMap stgC) hs ho ad 1 c (stgC y) hx rfl hc (by intro u hu; simp [stgC] at hu; rcases hu with rfl | rfl | rfl <;> rfl) (by unfold maxLen; omega) (by omega) hb ?_
  intro v' w' h1 h2 _
  refine h v' w' ?_ h2
  unfold OwnS
  rw [List.flatMap_append, List.length_append]
  simpa using h1
theorem ownS_new (w : World) (y : Stg) (T : TypeId) : ∀ (j : Nat) u, (stgC y)[j]? = some u → (w.alloc (.cells #[.int .i64 y.unit, .string y.par, .int .i64 y.lv] T)).cell? ((⟨w.heap.size, 0, none⟩ : Addr).add j) = some u := by
  intro j u hu
  match j, hu with
  | 0, hu => simp [stgC] at hu; subst hu; simp [Addr.add, go_sem]
  | 1, hu => simp [stgC] at hu; subst hu; simp [Addr.add, go_sem]
  | 2, hu => simp [stgC] at hu; subst hu; simp [Addr.add, go_sem]
  | j + 3, hu => simp [stgC] at hu
def OwnK (base : Nat) (w : World) (v : Value) (l : List KeyR) : Prop := w.ownsRow base 33 2 v l.length (l.flatMap keyC)
theorem OwnK.nil (base : Nat) (w : World) : OwnK base w (.slice none 0 0) [] := World.ownsRow_nil w base _ _
theorem OwnK.shape {base : Nat} {w : World} {v : Value} {l : List KeyR} (h : OwnK base w v l) : ∃ ao cap, v = .slice ao l.length cap := by
  rcases h.2 with h' | ⟨g, cap, cur, e1, _⟩
  · exact ⟨none, 0, by rw [h'.1, h'.2]⟩
  · exact ⟨_, cap, e1⟩
theorem OwnK.below {base : Nat} {w w' : World} {v : Value} {l : List KeyR} (h : OwnK base w v l) (hb : Below w.heap.size w w') : OwnK base w' v l := by
  refine ⟨h.1, ?_⟩
  rcases h.2 with h' | ⟨g, cap, cur, e1, h1, h2, h3⟩
  · exact .inl h'
  · exact .inr ⟨g, cap, cur, e1, h1, (hb.block g (World.ownsRow.lt h g (by rw [e1]; rfl)).2).trans h2, h3⟩
theorem OwnK.keeps {B base : Nat} {a w w' : World} {v : Value} {l : List KeyR} (ho : OwnK base w v l) (h : Below B a w) (g : w.grownBy w' v.ownBlock) (hB : B ≤ base) (hs : B ≤ w.heap.size) : Below B a w' :=
  h.grown g hs (fun k hk => by have := (World.ownsRow.lt ho k hk).1; omega)
theorem infoOwnK : (Try.prog.info? 33).map (fun i => (i.zero, i.size, i.bytes)) = some (some (.agg #[.int .i64 0, .string ⟨#[]⟩]), 2, 24) := by kernel_rfl
theorem wpList_ownK {w : World} {ops : Array Oper} {rest : List Oper} {o : Oper} {a : Act} {Q : Exit → Act → World → Prop} (hgd : o.guard = none) (s x : Operand)
    (hop : o.op = .call { callee := .builtin .append, args := #[s, x], argTypes := #[47, 47] })
    (base c : Nat) (v : Value) (l : List KeyR) (y : KeyR) (ad : Addr) (hs : a.eval s = v) (hx : a.eval x = .slice (some ad) 1 c)
    (ho : OwnK base w v l) (hc : ∀ (j : Nat) u, (keyC y)[j]? = some u → w.cell? (ad.add j) = some u) (hl : l.length ≤ 10000000) (hb : base ≤ w.heap.size)
    (h : ∀ v' w', OwnK base w' v' (l ++ [y]) → w.grownBy w' v.ownBlock → wpList Try.prog ops Q rest (a.put o.dst v') w') : wpList Try.prog ops Q (o :: rest) a w := by
  obtain ⟨i0, hi, hz0, hz1, hz2⟩ := info_parts infoOwnK
  refine wpList_append_own w hgd s x 47 hop base 33 i0 (.agg #[.int .i64 0, .string ⟨#[]⟩]) 2 24 Try.underlying47 hi hz0 hz1 hz2 rfl (by decide) v l.length (l.flatMap keyC) hs ho ad 1 c (keyC y) hx rfl hc (by intro u hu; simp [keyC] at hu; rcases hu with rfl | rfl <;> rfl) (by unfold maxLen; omega) (by omega) hb ?_
  intro v' w' h1 h2 _
  refine h v' w' ?_ h2
  unfold OwnK
  rw [List.flatMap_append, List.length_append]
  simpa using h1
theorem ownK_new (w : World) (y : KeyR) (T : TypeId) : ∀ (j : Nat) u, (keyC y)[j]? = some u → (w.alloc (.cells #[.int .i64 y.unit, .string y.par] T)).cell? ((⟨w.heap.size, 0, none⟩ : Addr).add j) = some u := by
  intro j u hu
  match j, hu with
  | 0, hu => simp [keyC] at hu; subst hu; simp [Addr.add, go_sem]
  | 1, hu => simp [keyC] at hu; subst hu; simp [Addr.add, go_sem]
  | j + 2, hu => simp [keyC] at hu
theorem OwnS.stgS {base : Nat} {w : World} {v : Value} {l : List Stg} (h : OwnS base w v l) : StgS w.heap.size w v l := CellsS.of_own h
theorem OwnK.keyS {base : Nat} {w : World} {v : Value} {l : List KeyR} (h : OwnK base w v l) : KeyRS w.heap.size w v l := CellsS.of_own h

/-! ### frames kept in a map: what the map says is what a search says -/
def isF (U : Int) (y : Frm × Value) : Bool := decide (y.1.univ = U)
theorem rev_snoc {α : Type} (p : α → Bool) (l : List α) (k : Nat) (h : k < l.length) : (l.take (k + 1)).reverse.find? p = if p l[k] then some l[k] else (l.take k).reverse.find? p := by
  rw [List.take_succ_eq_append_getElem h, List.reverse_append]
  simp [List.find?_cons]
  cases p l[k] <;> simp
theorem find_rev {l : List Frm} (h : chkFrms l = 0) (U : Int) : l.reverse.find? (fun f => decide (f.univ = U)) = l.find? (fun f => decide (f.univ = U)) := by
  rw [← List.head?_filter, List.filter_reverse, filter_one U l (frms_pair h), ]
  cases l.find? (fun f => decide (f.univ = U)) <;> rfl
theorem rev_none {lv : List (Frm × Value)} (h : chkFrms (lv.map (·.1)) = 0) (U : Int) (hn : lv.reverse.find? (isF U) = none) : (lv.map (·.1)).find? (fun f => decide (f.univ = U)) = none := by
  rw [← find_rev h, ← List.map_reverse, List.find?_map]
  have : (fun f : Frm => decide (f.univ = U)) ∘ (·.1) = isF U := rfl
  rw [this, hn]; rfl
theorem rev_some {lv : List (Frm × Value)} (h : chkFrms (lv.map (·.1)) = 0) (U : Int) {y : Frm × Value} (hn : lv.reverse.find? (isF U) = some y) : (lv.map (·.1)).find? (fun f => decide (f.univ = U)) = some y.1 ∧ y ∈ lv := by
  refine ⟨?_, List.mem_reverse.1 (List.mem_of_find?_eq_some hn)⟩
  rw [← find_rev h, ← List.map_reverse, List.find?_map]
  have : (fun f : Frm => decide (f.univ = U)) ∘ (·.1) = isF U := rfl
  rw [this, hn]; rfl
end Go.Proofs.Ytabalicembhjmaa

namespace Go.Proofs.Ytabalicembhjmaa
open Go.RowKit
set_option linter.unusedVariables false
set_option linter.unusedSimpArgs false

theorem TBox.grownS {base : Nat} {W W' : World} {b : Nat} {T : TypeId} {cs : Array Value} {v : Value} {l : List Stg} (h : TBox W b T cs) (ho : OwnS base W v l) (hg : W.grownBy W' v.ownBlock) (hT : T ≠ 35) : TBox W' b T cs := by
  refine (hg.block b h.lt fun e => ?_).trans h
  rcases ho.2 with h' | ⟨g, cap, cur, e1, _, h2, _⟩
  · rw [h'.1] at e; simp [Value.ownBlock] at e
  · rw [e1] at e
    simp [Value.ownBlock] at e
    subst e
    unfold TBox at h
    rw [h2] at h
    injection h with h
    injection h with _ h3
    exact hT h3.symm
theorem TBox.grownK {base : Nat} {W W' : World} {b : Nat} {T : TypeId} {cs : Array Value} {v : Value} {l : List KeyR} (h : TBox W b T cs) (ho : OwnK base W v l) (hg : W.grownBy W' v.ownBlock) (hT : T ≠ 33) : TBox W' b T cs := by
  refine (hg.block b h.lt fun e => ?_).trans h
  rcases ho.2 with h' | ⟨g, cap, cur, e1, _, h2, _⟩
  · rw [h'.1] at e; simp [Value.ownBlock] at e
  · rw [e1] at e
    simp [Value.ownBlock] at e
    subst e
    unfold TBox at h
    rw [h2] at h
    injection h with h
    injection h with _ h3
    exact hT h3.symm
theorem stgS_nil (B : Nat) (w : World) : StgS B w (.slice none 0 0) [] := CellsS.nil B w
theorem keyS_nil (B : Nat) (w : World) : KeyRS B w (.slice none 0 0) [] := CellsS.nil B w
theorem zeroBy_ (w : World) : (zeroValue 62).run Try.prog w = .ok (.slice none 0 0) w := by kernel_rfl
theorem frmC_get {B : Nat} {w : World} {v : Value} {lv : List (Frm × Value)} (h1 : CellsS B w v lv.length (lv.flatMap frmC)) (hl : 0 < lv.length) :
    ∃ b off cap, v = .slice (some ⟨b, off, none⟩) lv.length cap ∧ b < B ∧ lv.length ≤ maxLen ∧ ∀ k (hk : k < lv.length) (W : World), Below B w W →
      W.cell? ⟨b, off + k * 2, none⟩ = some (.int .i64 lv[k].1.univ) ∧ W.cell? ⟨b, off + k * 2 + 1, none⟩ = some lv[k].2 := by
  obtain ⟨b, off, cap, rfl, h3, h4, h5⟩ := CellsS.rec h1 (n := 2) (fun _ => rfl) hl
  refine ⟨b, off, cap, rfl, h3, h4, fun k hk W hW => ?_⟩
  exact ⟨(hW.cell (p := ⟨b, off + k * 2, none⟩) h3).trans (h5 k hk 0 _ (by omega) rfl), (hW.cell (p := ⟨b, off + k * 2 + 1, none⟩) h3).trans (h5 k hk 1 _ (by omega) rfl)⟩
theorem put_rev {fl : List (Frm × Value)} {k : Nat} (h : k < fl.length) {f : Lit → Option Value} (hf : ∀ U : Int, f (.int .i64 U) = ((fl.take k).reverse.find? (isF U)).map (·.2)) : ∀ U : Int, putF f (.int .i64 fl[k].1.univ) fl[k].2 (.int .i64 U) = ((fl.take (k + 1)).reverse.find? (isF U)).map (·.2) := by
  intro U
  rw [rev_snoc _ _ _ h]
  by_cases c : fl[k].1.univ = U
  · rw [← c, putF_same (keyLitI_ _), if_pos (by simp [isF])]; rfl
  · rw [putF_other (litI_ne (Ne.symm c)), if_neg (by simp [isF, c]), hf]
theorem setV_len {x : Rig} (h : chkRig x = 0) (l : List Frm) (k : Nat) : ((x.units.take k).flatMap (setU x.lib l)).length ≤ 16000 := by
  have h1 := flat_le (setU x.lib l) 40 (x.units.take k) (fun u hu => setU_len h l (List.mem_of_mem_take hu))
  have h2 := (chkRig_zero h).2.1
  rw [List.length_take] at h1
  omega
theorem setU_none {lib : List Prf} {l : List Frm} {u : Unt} (h : l.find? (isU u) = none) : setU lib l u = [] := by unfold setU; rw [h]
theorem setU_some {lib : List Prf} {l : List Frm} {u : Unt} {f : Frm} {p : Prf} (h : l.find? (isU u) = some f) (hp : profOf lib u.nm = some p) : setU lib l u = p.pars.map (setO u f) := by unfold setU parsOf; rw [h, hp]; rfl
theorem at_val {f : Frm} {b : Nat} (hb : b < f.sl.length) {i : Int} (hi : i = (b : Int)) : atF f i = f.sl[b] := by
  subst hi
  unfold atF
  rw [List.getD_eq_getElem?_getD, Int.toNat_natCast, List.getElem?_eq_getElem hb]; rfl
end Go.Proofs.Ytabalicembhjmaa

namespace Go.Proofs.Ytabalicembhjmaa
open Go.RowKit
set_option linter.unusedVariables false
set_option linter.unusedSimpArgs false

theorem TBox.set3 {W : World} {g : Nat} {T : TypeId} {a b c u0 u1 u2 : Value} (h : TBox W g T #[a, b, c]) : TBox (((W.setCell ⟨g, 0, none⟩ u0).setCell ⟨g, 1, none⟩ u1).setCell ⟨g, 2, none⟩ u2) g T #[u0, u1, u2] := by
  have hl := h.lt
  unfold TBox at *
  have k1 := heap_setCell_same _ _ 0 _ _ u0 h
  have k2 := heap_setCell_same _ _ 1 _ _ u1 k1
  have k3 := heap_setCell_same _ _ 2 _ _ u2 k2
  simpa using k3
theorem TBox.drew {W : World} {g : Nat} {T : TypeId} {cs : Array Value} (h : TBox W g T cs) : TBox W.drew g T cs := h
def findO (x : Rig) (n : Int) (nm : List UInt8) : Option Par := match x.units.find? (isNo n) with
  | none => none
  | some u => parOf (parsOf x.lib u) nm
theorem find_no {l : List Unt} {n : Int} (h : hasU l n = false) : l.find? (isNo n) = none := by
  rw [List.find?_eq_none]
  intro u hu c
  have : hasU l n = true := List.any_eq_true.2 ⟨u, hu, c⟩
  rw [this] at h; cases h
theorem find_pos {l : List Unt} (ha : AscU l) {n : Int} (h : hasU l n = true) : ∃ hp : posU l n < l.length, l.find? (isNo n) = some (l[posU l n]'hp) ∧ (l[posU l n]'hp).num = n := by
  obtain ⟨hp, h1⟩ := (hasU_at ha n).1 h
  refine ⟨hp, ?_, h1⟩
  have h2 := (idxU_has ha n).1 h
  rcases idxF_spec (isNo n) l with ⟨h3, _⟩ | ⟨k, hk, h3, h4⟩
  · unfold idxU at h2; rw [h3] at h2; omega
  · unfold idxU at h2
    rw [h3] at h2
    have : k = posU l n := by omega
    subst this
    exact h4
theorem findO_no {x : Rig} {n : Int} (h : hasU x.units n = false) (nm : List UInt8) : findO x n nm = none := by unfold findO; rw [find_no h]
theorem findO_yes {x : Rig} (hx : chkRig x = 0) {n : Int} (h : hasU x.units n = true) (nm : List UInt8) : ∃ (hp : posU x.units n < x.units.length) (p : Prf), (x.units[posU x.units n]'hp).num = n ∧ profOf x.lib (x.units[posU x.units n]'hp).nm = some p ∧ findO x n nm = parOf p.pars nm := by
  obtain ⟨hp, h1, h2⟩ := find_pos (asc_units hx) h
  obtain ⟨p, h3, _⟩ := par_right hx (List.getElem_mem hp)
  refine ⟨hp, p, h2, h3, ?_⟩
  unfold findO parsOf
  rw [h1]
  simp only [h3]
  rfl
end Go.Proofs.Ytabalicembhjmaa

namespace Go.Proofs.Ytabalicembhjmaa
open Go.RowKit
set_option linter.unusedVariables false
set_option linter.unusedSimpArgs false

/-- the place of a unit with another profile: its own, or where there is room -/
def exAt (x : Rig) (n s : Int) (u : Unt) : Option (Int × Int) := if freeAt (usBut x n) u.univ u.addr s then some (u.univ, u.addr) else roomO (usBut x n) s
theorem exAt_free {x : Rig} {n s : Int} {u : Unt} (h : freeAt (usBut x n) u.univ u.addr s = true) : exAt x n s u = some (u.univ, u.addr) := by unfold exAt; rw [if_pos h]
theorem exAt_room {x : Rig} {n s : Int} {u : Unt} (h : freeAt (usBut x n) u.univ u.addr s = false) : exAt x n s u = roomO (usBut x n) s := by unfold exAt; rw [h]; rfl
theorem exAt_spec {x : Rig} (hx : chkRig x = 0) {n s : Int} {u : Unt} (hu : u ∈ x.units) (hs : 1 ≤ s) {r : Int × Int} (h : exAt x n s u = some r) :
    (1 ≤ r.1 ∧ r.1 ≤ 64) ∧ 1 ≤ r.2 ∧ r.2 + s - 1 ≤ 512 ∧ freeAt (usBut x n) r.1 r.2 s = true := by
  cases c : freeAt (usBut x n) u.univ u.addr s
  · rw [exAt_room c] at h
    exact room_spec h
  · rw [exAt_free c] at h
    obtain rfl := Option.some.inj h
    obtain ⟨_, q, _, hq⟩ := ((chkRig_iff x).1 hx).2.2.1 u hu
    obtain ⟨b1, b2, _⟩ := untBad_false hq
    have c2 := c
    unfold freeAt at c2
    rw [freeN_iff] at c2
    have h3 := (c2 (u.addr + s - 1) (by omega) (by omega)).1
    exact ⟨b1, b2.1, h3, c⟩
/-- the rig in which a unit is another one -/
def setUn (x : Rig) (n : Int) (v : Unt) : Rig := ⟨x.lib, x.units.set (posU x.units n) v⟩
theorem ex_ok {x : Rig} (hx : chkRig x = 0) {n : Int} {nm : ByteArray} {p : Prf} {u : Unt} {r : Int × Int} (hn : 1 ≤ n ∧ n ≤ 9999) (hu : u ∈ x.units) (hp : profOf x.lib nm.data.toList = some p) (hr : exAt x n p.size u = some r) :
    OkU x.lib ⟨n, nm, r.1, r.2⟩ ∧ ∀ y ∈ x.units, y.num ≠ n → clashU x.lib ⟨n, nm, r.1, r.2⟩ y = false := by
  obtain ⟨k1, _, k3, _⟩ := (chkRig_iff x).1 hx
  have hs := size_pos k1 (u := ⟨n, nm, r.1, r.2⟩) hp
  obtain ⟨r1, r2, r3, r4⟩ := exAt_spec hx hu hs.1 hr
  have hb : untBad ⟨n, nm, r.1, r.2⟩ p.size = false := by
    unfold untBad
    have e1 : inR r.1 1 64 = true := decide_eq_true r1
    have e2 : inR r.2 1 512 = true := decide_eq_true ⟨r2, by omega⟩
    rw [e1, e2]
    simp
    omega
  refine ⟨⟨hn, p, hp, hb⟩, fun y hy hne => ?_⟩
  rw [fits_free hx r.1 r.2 p.size n hs.1 r3] at r4
  unfold fitsV at r4
  rw [Bool.and_eq_true, Bool.not_eq_true', List.any_eq_false] at r4
  have h1 := r4.2 y hy
  have hsz : sizeOf' x.lib ⟨n, nm, r.1, r.2⟩ = p.size := size_of (u := ⟨n, nm, r.1, r.2⟩) hp
  unfold clashU
  simp only [hitU, Bool.and_eq_true, decide_eq_true_eq] at h1
  rw [Bool.and_eq_false_iff, Bool.and_eq_false_iff, decide_eq_false_iff_not, decide_eq_false_iff_not, decide_eq_false_iff_not]
  show (¬ y.univ = r.1 ∨ ¬ y.addr ≤ lastOf x.lib ⟨n, nm, r.1, r.2⟩) ∨ ¬ r.2 ≤ lastOf x.lib y
  have hl : lastOf x.lib ⟨n, nm, r.1, r.2⟩ = r.2 + p.size - 1 := by unfold lastOf; rw [hsz]
  rw [hl]
  by_cases c1 : y.univ = r.1
  · by_cases c2 : y.addr ≤ r.2 + p.size - 1
    · exact .inr fun c3 => h1 ⟨hne, c1, c2, c3⟩
    · exact .inl (.inr c2)
  · exact .inl (.inl c1)
theorem ex_right {x : Rig} (hx : chkRig x = 0) {n : Int} {nm : ByteArray} {p : Prf} {r : Int × Int} (hk : posU x.units n < x.units.length) (hn : (x.units[posU x.units n]'hk).num = n) (hp : profOf x.lib nm.data.toList = some p) (hr : exAt x n p.size (x.units[posU x.units n]'hk) = some r) :
    chkRig (setUn x n ⟨n, nm, r.1, r.2⟩) = 0 := by
  obtain ⟨k1, k2, k3, k4⟩ := (chkRig_iff x).1 hx
  have hr9 : 1 ≤ n ∧ n ≤ 9999 := by have := num_range hx (List.getElem_mem hk); rw [hn] at this; exact this
  obtain ⟨ho, hc⟩ := ex_ok hx hr9 (List.getElem_mem hk) hp hr
  have hpw := List.pairwise_iff_getElem.1 k4
  have ha := asc_units hx
  rw [chkRig_iff]
  unfold setUn
  refine ⟨k1, by simpa using k2, fun v hv => ?_, List.pairwise_iff_getElem.2 fun i j hi hj hij => ?_⟩
  · rcases List.mem_or_eq_of_mem_set hv with h | rfl
    · exact k3 v h
    · exact ho
  · simp only [List.length_set] at hi hj
    rw [List.getElem_set, List.getElem_set]
    by_cases ci : posU x.units n = i
    · rw [if_pos ci]
      subst ci
      rw [if_neg (by omega)]
      have h1 := ha _ _ hk hj hij
      refine ⟨by show n < _; omega, ?_⟩
      rw [clashU_comm]
      exact hc _ (List.getElem_mem hj) (by omega)
    · rw [if_neg ci]
      by_cases cj : posU x.units n = j
      · rw [if_pos cj]
        subst cj
        have h1 := ha _ _ hi hk hij
        exact ⟨by show _ < n; omega, hc _ (List.getElem_mem hi) (by omega)⟩
      · rw [if_neg cj]
        exact hpw i j hi hj hij
end Go.Proofs.Ytabalicembhjmaa

namespace Go.Proofs.Ytabalicembhjmaa
open Go.ChangeShapes Go.WideShapes Go.RowKit Go.Deep
set_option linter.unusedSimpArgs false
set_option linter.unusedVariables false

def KeyFit (k : Int × ByteArray) : Prop := I64 k.1 ∧ k.2.size ≤ maxLen
def keyL (k : Int × ByteArray) : Lit := .string (keyBytes [.int .i64 k.1, .string k.2.data.toList])
def keyV (k : Int × ByteArray) : Value := .agg #[.int .i64 k.1, .string k.2]

theorem cellsInt_ : Try.prog.cellsOf 3 = 1 := by kernel_rfl
theorem cellsString_ : Try.prog.cellsOf 9 = 1 := by kernel_rfl
/-! ### keys of maps -/
theorem laidOut_ : laidOutB Try.prog = true := by kernel_rfl
theorem keyRow_ : (33 : TypeId) < Try.prog.types.size := of_decide_eq_true (by kernel_rfl)
theorem keyAt2_ : Try.prog.keyTypeAt 2 33 = true := by kernel_rfl
theorem keyWide_ : (match Try.prog.underlying 33 with | some (.array _ _) | some (.struct _) => true | _ => false) = true := by kernel_rfl
set_option maxRecDepth 100000 in
theorem keyLaw_ : WideMaps.KeyLaw Try.prog 33 := deep_law_laid laidOut_ (m := 2) (by omega) keyRow_ keyAt2_ keyWide_
theorem keyed_ : Maps.Keyed Try.prog 33 := Maps.Keyed.of_law keyLaw_
theorem keyType_ : Try.prog.keyType 33 = true := by kernel_rfl
theorem keyCells_ : Try.prog.cellsOf 33 = 2 := by kernel_rfl
theorem i64_wf {a : Int} (h : I64 a) : (Lit.int .i64 a).wf = true := by
  unfold I64 at h
  simp [Lit.wf, IntKind.min, IntKind.max, IntKind.signed, IntKind.bits]
  omega
theorem keyLits_ (d : Nat) {k : Int × ByteArray} (h : KeyFit k) : Try.prog.keyLits (d + 2) 33 [.int .i64 k.1, .string k.2] = some [.int .i64 k.1, .string k.2.data.toList] := by
  obtain ⟨h1, h2⟩ := h
  have hw := i64_wf h1
  unfold Program.keyLits
  rw [Try.underlying33]
  simp [keyCells_, cellsInt_, Program.keyLits, Try.underlying3, Try.underlying9, hw, h2, cellsString_]
theorem keyFormed_ (k : Int × ByteArray) : (keyV k).formed Try.prog 33 = true := by
  unfold keyV Value.formed
  rw [Try.underlying33]
  simp [keyCells_]
theorem keyOf_key {k : Int × ByteArray} (h : KeyFit k) : keyOf Try.prog 33 (keyV k) = some (keyL k) := by
  unfold keyOf
  rw [Try.underlying33]
  simp only [keyType_, keyFormed_, Bool.and_self, if_true]
  obtain ⟨d, hd⟩ : ∃ d, Try.prog.types.size + 1 = d + 2 := by
    have h0 : (33 : Nat) < Try.prog.types.size := keyRow_
    generalize Try.prog.types.size = n at h0 ⊢
    exact ⟨n - 1, by omega⟩
  rw [hd, show (keyV k).cells.toList = [.int .i64 k.1, .string k.2] from rfl, keyLits_ d h]
  rfl
theorem keyL_inj {a b : Int × ByteArray} (ha : KeyFit a) (hb : KeyFit b) (h : keyL a = keyL b) : a = b := by
  have h1 := keyOf_key ha
  have h2 := keyOf_key hb
  rw [← h] at h2
  have h3 := keyed_.inj h1 h2
  unfold keyV at h3
  simp at h3
  obtain ⟨x, y⟩ := a
  obtain ⟨z, u⟩ := b
  obtain ⟨h4, h5⟩ := h3
  simp at h4 h5
  rw [h4, h5]
end Go.Proofs.Ytabalicembhjmaa

namespace Go.Proofs.Ytabalicembhjmaa
open Go.RowKit
set_option linter.unusedVariables false
set_option linter.unusedSimpArgs false

instance decBytes : DecidableEq ByteArray := fun a b => if h : a.data = b.data then isTrue (ByteArray.ext h) else isFalse (fun e => h (by rw [e]))
def Stg.k (s : Stg) : Int × ByteArray := (s.unit, s.par)
def isK (k : Int × ByteArray) (s : Stg) : Bool := decide (s.k = k)
def stgF (x : Rig) (pre : List Stg) (s : Stg) : Int :=
  if (findO x s.unit s.par.data.toList).isNone then 8 else if !inR s.lv 0 65535 then 1 else if pre.any (isK s.k) then 6 else 0
def chkStgs (x : Rig) (l : List Stg) : Int := scanF (stgF x) l 0
def lvV (s : Stg) : Value := .int .i64 s.lv
theorem rev_some_iff (l : List Stg) (k : Int × ByteArray) : (l.reverse.find? (isK k)).isSome = l.any (isK k) := by
  rw [Bool.eq_iff_iff, List.find?_isSome, List.any_eq_true]
  constructor
  · rintro ⟨s, hs, h⟩
    exact ⟨s, List.mem_reverse.1 hs, h⟩
  · rintro ⟨s, hs, h⟩
    exact ⟨s, List.mem_reverse.2 hs, h⟩
theorem keyS_fit {s : Stg} (h : StgFit s) : KeyFit s.k := ⟨h.1, h.2.1⟩
theorem put_key {l : List Stg} {j : Nat} (h : j < l.length) (hf : ∀ s ∈ l, StgFit s) {f : Lit → Option Value} (hr : ∀ k, KeyFit k → f (keyL k) = ((l.take j).reverse.find? (isK k)).map lvV) :
    ∀ k, KeyFit k → putF f (keyL l[j].k) (lvV l[j]) (keyL k) = ((l.take (j + 1)).reverse.find? (isK k)).map lvV := by
  intro k hk
  rw [rev_snoc _ _ _ h]
  have hfj := keyS_fit (hf _ (List.getElem_mem h))
  by_cases c : l[j].k = k
  · rw [← c, putF_same (keyed_.key (keyOf_key hfj)), if_pos (by simp [isK])]; rfl
  · rw [putF_other (fun e => c (keyL_inj hk hfj e).symm), if_neg (by simp [isK, c]), hr k hk]
end Go.Proofs.Ytabalicembhjmaa

namespace Go.Proofs.Ytabalicembhjmaa
open Go.RowKit
set_option linter.unusedVariables false
set_option linter.unusedSimpArgs false

def hasRn (nm : List UInt8) (r : Rng) : Bool := decide (r.nm = nm)
/-- the range of a parameter, or of none, that has a name -/
def rngO (o : Option Par) (b : List UInt8) : Option Rng := match o with | some q => q.rngs.find? (hasRn b) | none => none
def midO (o : Option Rng) : Int × Int := match o with | some r => ((r.low + r.high) / 2, 0) | none => (0, 8)
/-- what Named answers -/
def namedV (p : Prf) (a b : ByteArray) : Int × Int := if chkPrf p = 0 then midO (rngO (parOf p.pars a.data.toList) b.data.toList) else (0, chkPrf p)
theorem namedV_ok {p : Prf} (h : chkPrf p = 0) (a b : ByteArray) : namedV p a b = midO (rngO (parOf p.pars a.data.toList) b.data.toList) := if_pos h
theorem namedV_bad {p : Prf} (h : ¬ chkPrf p = 0) (a b : ByteArray) : namedV p a b = (0, chkPrf p) := if_neg h
theorem parOf_mem {l : List Par} {n : List UInt8} {q : Par} (h : parOf l n = some q) : q ∈ l := List.mem_of_find?_eq_some h
theorem par_chk {p : Prf} (h : chkPrf p = 0) {q : Par} (hq : q ∈ p.pars) : nameB q.nm = true ∧ (1 ≤ q.grp ∧ q.grp ≤ 4) ∧ (0 ≤ q.fine ∧ q.fine ≤ 512) ∧ (0 ≤ q.dflt ∧ q.dflt ≤ 65535) ∧ (1 ≤ q.sl ∧ q.sl ≤ 512) ∧ chkRngs q.rngs = 0 := by
  obtain ⟨k, hk, rfl⟩ := List.getElem_of_mem hq
  obtain ⟨h1, h2, h3, h4, h5⟩ := chkPrf_zero h
  obtain ⟨g1, _, g3, g4, _, g6⟩ := parF_zero (scanF_zero _ _ h5 k hk)
  obtain ⟨b1, b2, b3⟩ := parBad_false g4
  exact ⟨g1, g3, ⟨b2.1, by omega⟩, b3, ⟨b1.1, by omega⟩, g6⟩
theorem rngF_zero {pre : List Rng} {r : Rng} (h : rngF pre r = 0) : (0 ≤ r.low ∧ r.low ≤ 65535) ∧ (0 ≤ r.high ∧ r.high ≤ 65535) ∧ nameB r.nm = true := by
  unfold rngF at h
  cases h1 : rngBad r
  · have h2 := h1
    simp only [rngBad, Bool.or_eq_false_iff, Bool.not_eq_false'] at h2
    refine ⟨inR_true h2.1.1, inR_true h2.1.2, ?_⟩
    cases h3 : rngLow pre r
    · cases h4 : nameB r.nm
      · rw [h1, h3, h4] at h; simp at h
      · rfl
    · rw [h1, h3] at h; simp at h
  · rw [h1] at h; simp at h
theorem rng_chk {l : List Rng} (h : chkRngs l = 0) : l.length ≤ 30 ∧ ∀ r ∈ l, (0 ≤ r.low ∧ r.low ≤ 65535) ∧ (0 ≤ r.high ∧ r.high ≤ 65535) ∧ nameB r.nm = true := by
  unfold chkRngs at h
  by_cases c : 30 < l.length
  · rw [if_pos c] at h; simp at h
  rw [if_neg c] at h
  refine ⟨by omega, fun r hr => ?_⟩
  obtain ⟨k, hk, rfl⟩ := List.getElem_of_mem hr
  exact rngF_zero (scanF_zero _ _ h k hk)
theorem rngO_fit {p : Prf} (h : chkPrf p = 0) {n b : List UInt8} {q : Par} (hq : parOf p.pars n = some q) : ∀ r ∈ q.rngs, (0 ≤ r.low ∧ r.low ≤ 65535) ∧ (0 ≤ r.high ∧ r.high ≤ 65535) := by
  intro r hr
  have h1 := (rng_chk (par_chk h (parOf_mem hq)).2.2.2.2.2).2 r hr
  exact ⟨h1.1, h1.2.1⟩
theorem rngO_some (q : Par) (b : List UInt8) : rngO (some q) b = q.rngs.find? (hasRn b) := rfl
theorem midO_some (r : Rng) : midO (some r) = ((r.low + r.high) / 2, 0) := rfl
theorem midO_none : midO none = (0, 8) := rfl
theorem tdiv2 {a : Int} (h : 0 ≤ a) : a.tdiv 2 = a / 2 := Int.tdiv_eq_ediv_of_nonneg h
end Go.Proofs.Ytabalicembhjmaa

namespace Go.Proofs.Ytabalicembhjmaa
open Go.RowKit
set_option linter.unusedVariables false
set_option linter.unusedSimpArgs false

def holds (n : Int) (r : Rng) : Bool := decide (r.low ≤ n ∧ n ≤ r.high)
/-- the level that is carried over; false: it is lost -/
def carV (o q : List Rng) (n : Int) : Int × Bool :=
  if o.length = 0 ∨ q.length = 0 then (n, true) else
  match o.find? (holds n) with
  | none => (n, true)
  | some a => match q.find? (hasRn a.nm) with
    | none => (0, false)
    | some b => if a.low = a.high then (b.low, true) else (rnd (b.low * (a.high - a.low) + (n - a.low) * (b.high - b.low)) (a.high - a.low), true)
theorem carV_none {o q : List Rng} {n : Int} (h : o.length = 0 ∨ q.length = 0) : carV o q n = (n, true) := by unfold carV; rw [if_pos h]
theorem carV_out {o q : List Rng} {n : Int} (h : o.find? (holds n) = none) : carV o q n = (n, true) := by
  unfold carV
  split
  · rfl
  · rw [h]
theorem carV_lost {o q : List Rng} {n : Int} {a : Rng} (h1 : ¬ (o.length = 0 ∨ q.length = 0)) (h : o.find? (holds n) = some a) (h2 : q.find? (hasRn a.nm) = none) : carV o q n = (0, false) := by
  unfold carV
  rw [if_neg h1, h]
  simp only [h2]
theorem carV_low {o q : List Rng} {n : Int} {a b : Rng} (h1 : ¬ (o.length = 0 ∨ q.length = 0)) (h : o.find? (holds n) = some a) (h2 : q.find? (hasRn a.nm) = some b) (h3 : a.low = a.high) : carV o q n = (b.low, true) := by
  unfold carV
  rw [if_neg h1, h]
  simp only [h2]
  rw [if_pos h3]
theorem carV_way {o q : List Rng} {n : Int} {a b : Rng} (h1 : ¬ (o.length = 0 ∨ q.length = 0)) (h : o.find? (holds n) = some a) (h2 : q.find? (hasRn a.nm) = some b) (h3 : ¬ a.low = a.high) : carV o q n = (rnd (b.low * (a.high - a.low) + (n - a.low) * (b.high - b.low)) (a.high - a.low), true) := by
  unfold carV
  rw [if_neg h1, h]
  simp only [h2]
  rw [if_neg h3]
/-- what is known of right ranges -/
def RngsOk (l : List Rng) : Prop := ∀ r ∈ l, (0 ≤ r.low ∧ r.low ≤ 65535) ∧ (0 ≤ r.high ∧ r.high ≤ 65535) ∧ r.low ≤ r.high
theorem rngF_le {pre : List Rng} {r : Rng} (h : rngF pre r = 0) : r.low ≤ r.high := by
  unfold rngF at h
  cases h1 : rngBad r
  · simp only [rngBad, Bool.or_eq_false_iff, Bool.not_eq_false', decide_eq_false_iff_not] at h1
    have := h1.2
    omega
  · rw [h1] at h; simp at h
theorem rngsOk_of {l : List Rng} (h : chkRngs l = 0) : RngsOk l := by
  intro r hr
  have h1 := (rng_chk h).2 r hr
  refine ⟨h1.1, h1.2.1, ?_⟩
  unfold chkRngs at h
  by_cases c : 30 < l.length
  · rw [if_pos c] at h; simp at h
  rw [if_neg c] at h
  obtain ⟨k, hk, rfl⟩ := List.getElem_of_mem hr
  exact rngF_le (scanF_zero _ _ h k hk)
theorem mul_le_sq {a b : Int} (h0 : 0 ≤ a) (h1 : a ≤ 65535) (g0 : 0 ≤ b) (g1 : b ≤ 65535) : 0 ≤ a * b ∧ a * b ≤ 4294836225 :=
  ⟨Int.mul_nonneg h0 g0, Int.le_trans (Int.mul_le_mul h1 g1 g0 (by omega)) (by omega)⟩
end Go.Proofs.Ytabalicembhjmaa
