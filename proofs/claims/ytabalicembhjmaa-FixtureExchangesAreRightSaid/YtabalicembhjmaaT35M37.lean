/- What stays in fixture.Exchange's loop; how few settings there are; the loop's steps. No walk in it. Are slots free in a universe? The look-up in the map of marks and the call of free, together. -/
import Derived.Test.YtabalicembhjmaaT35M27
import Derived.Test.YtabalicembhjmaaT35M35
import Derived.Test.YtabalicembhjmaaT35M23
import Derived.Test.YtabalicembhjmaaT35M21
import Derived.Test.YtabalicembhjmaaT35M36
import Derived.Test.YtabalicembhjmaaT35M33

namespace Go.Proofs.Ytabalicembhjmaa
open Go.RowKit
set_option linter.unusedVariables false
set_option linter.unusedSimpArgs false

theorem nodup_few {α : Type} [DecidableEq α] : ∀ (l m : List α), l.Nodup → (∀ a ∈ l, a ∈ m) → l.length ≤ m.length
  | [], m, _, _ => Nat.zero_le _
  | a :: l, m, h, hs => by
    have ha : a ∈ m := hs a (by simp)
    obtain ⟨h1, h2⟩ := List.nodup_cons.1 h
    have := nodup_few l (m.erase a) h2 (fun b hb => (List.mem_erase_of_ne (fun e => h1 (by rw [← e]; exact hb))).2 (hs b (by simp [hb])))
    rw [List.length_erase_of_mem ha] at this
    have : 0 < m.length := List.length_pos_of_mem ha
    simp only [List.length_cons]
    omega
theorem bytes_ext {a b : ByteArray} (h : a.data.toList = b.data.toList) : a = b := ByteArray.ext (Array.ext' h)
/-- right settings are few -/
theorem stgs_few {x : Rig} (hx : chkRig x = 0) {l : List Stg} (hl : chkStgs x l = 0) : l.length ≤ 16000 := by
  obtain ⟨h1, h2⟩ := (stgs_iff x l).1 hl
  have hk : (l.map Stg.k).Nodup := by
    rw [List.nodup_iff_pairwise_ne, List.pairwise_map]
    exact h2
  have hs : ∀ a ∈ l.map Stg.k, a ∈ x.units.flatMap (fun u => (parsOf x.lib u).map (fun p => (u.num, p.name))) := by
    intro a ha
    obtain ⟨s, hs, rfl⟩ := List.mem_map.1 ha
    obtain ⟨g1, _⟩ := h1 s hs
    cases hh : hasU x.units s.unit
    · rw [findO_no hh] at g1; cases g1
    · obtain ⟨hp, p, e1, e2, e3⟩ := findO_yes hx hh s.par.data.toList
      rw [e3] at g1
      cases hq : parOf p.pars s.par.data.toList with
      | none => rw [hq] at g1; cases g1
      | some q =>
        refine List.mem_flatMap.2 ⟨_, List.getElem_mem hp, List.mem_map.2 ⟨q, ?_, ?_⟩⟩
        · unfold parsOf
          rw [e2]
          exact List.mem_of_find?_eq_some hq
        · have := List.find?_some hq
          simp only [hasPn, decide_eq_true_eq] at this
          have e : q.name = s.par := bytes_ext this
          rw [e1, e]
          rfl
  have h3 := nodup_few _ _ hk hs
  rw [List.length_map] at h3
  have h4 := flat_le (fun u => (parsOf x.lib u).map (fun p => (u.num, p.name))) 40 x.units (fun u hu => by
    obtain ⟨p, e1, e2, _⟩ := par_right hx hu
    rw [List.length_map]
    unfold parsOf
    rw [e1]
    exact e2)
  have h5 := (chkRig_zero hx).2.1
  omega
theorem below_mid {B : Nat} {a u W : World} (h1 : Below B a u) (h2 : Below B a W) (hs : u.heap.size ≤ W.heap.size) : Below B u W :=
  ⟨h2.os.trans h1.os.symm, h2.tape.trans h1.tape.symm, h2.output.trans h1.output.symm, hs, fun b hb => (h2.block b hb).trans (h1.block b hb).symm⟩
/-- a parameter's value, or that of none, and its ranges -/
theorem parR_rngs {B : Nat} {w : World} {o : Option Par} {v : Value} (h : ParR B w o v) : ∃ qn qg qs qf qd qb rv, v = .agg #[.string qn, .int .i64 qg, .int .i64 qs, .int .i64 qf, .int .i64 qd, .bool qb, rv] ∧ RngS B w rv ((o.map Par.rngs).getD []) := by
  cases o with
  | none => exact ⟨_, _, _, _, _, _, _, h, CellsS.nil _ _⟩
  | some p =>
    obtain ⟨rv, h1, h2⟩ := h
    exact ⟨_, _, _, _, _, _, _, h1, h2⟩
theorem heap4 (W : World) (g a b c d : Nat) (u v x y : Value) : W.grownBy ((((W.setCell ⟨g, a, none⟩ u).setCell ⟨g, b, none⟩ v).setCell ⟨g, c, none⟩ x).setCell ⟨g, d, none⟩ y) (some g) := by
  refine ⟨rfl, rfl, rfl, by simp, fun k _ hne => ?_⟩
  have h : ∀ (W : World) (i : Nat) (u : Value), (W.setCell ⟨g, i, none⟩ u).heap[k]? = W.heap[k]? := fun W i u => heap_setCell_other W ⟨g, i, none⟩ k u (fun e => hne (by simp [e]))
  rw [h, h, h, h]
theorem Other.box4 {w : World} {T : TypeId} {g : Nat} {cs : Array Value} (h : TBox w g T cs) (a b c d : Nat) (u v x y : Value) : Other w ((((w.setCell ⟨g, a, none⟩ u).setCell ⟨g, b, none⟩ v).setCell ⟨g, c, none⟩ x).setCell ⟨g, d, none⟩ y) T :=
  ⟨some g, heap4 w g a b c d u v x y, fun k hk => by cases hk; exact ⟨_, _, h⟩⟩
/-- what stays: the boxes of the argument, of the profiles, of the result; the copied rig -/
structure ExK (w : World) (lv uv : Value) (b3 b7 b10 : Nat) (cs3 cs7 cs10 : Array Value) (LV UV : Value) (lib : List Prf) (us : List Unt) (W : World) : Prop where
  box : RigBox w lv uv W
  t3 : TBox W b3 70 cs3
  t7 : TBox W b7 70 cs7
  t10 : TBox W b10 25 cs10
  ol : OwnL (w.heap.size + 2) W LV lib
  ou : OwnU (w.heap.size + 2) W UV us
theorem ExK.below {w : World} {lv uv : Value} {b3 b7 b10 : Nat} {cs3 cs7 cs10 : Array Value} {LV UV : Value} {lib : List Prf} {us : List Unt} {W W' : World} (h : ExK w lv uv b3 b7 b10 cs3 cs7 cs10 LV UV lib us W) (hb : Below W.heap.size W W') : ExK w lv uv b3 b7 b10 cs3 cs7 cs10 LV UV lib us W' :=
  ⟨h.box.next hb, h.t3.below hb, h.t7.below hb, h.t10.below hb, h.ol.below hb, h.ou.below hb⟩
theorem ExK.alloc {w : World} {lv uv : Value} {b3 b7 b10 : Nat} {cs3 cs7 cs10 : Array Value} {LV UV : Value} {lib : List Prf} {us : List Unt} {W : World} (h : ExK w lv uv b3 b7 b10 cs3 cs7 cs10 LV UV lib us W) (o : Obj) : ExK w lv uv b3 b7 b10 cs3 cs7 cs10 LV UV lib us (W.alloc o) :=
  h.below ((Below.refl _ _).alloc (Nat.le_refl _) o)
theorem ExK.other {w : World} {lv uv : Value} {b3 b7 b10 : Nat} {cs3 cs7 cs10 : Array Value} {LV UV : Value} {lib : List Prf} {us : List Unt} {W W' : World} {T : TypeId} (h : ExK w lv uv b3 b7 b10 cs3 cs7 cs10 LV UV lib us W) (o : Other W W' T) (hb : RigBox w lv uv W')
    (h1 : 70 ≠ T) (h2 : 25 ≠ T) (h3 : 86 ≠ T) (h4 : 42 ≠ T) (h5 : 67 ≠ T) : ExK w lv uv b3 b7 b10 cs3 cs7 cs10 LV UV lib us W' :=
  ⟨hb, o.tbox h.t3 h1, o.tbox h.t7 h1, o.tbox h.t10 h2, h.ol.other o h3 h4 h1, h.ou.other o h5⟩
theorem ExK.grownS {w : World} {lv uv : Value} {b3 b7 b10 : Nat} {cs3 cs7 cs10 : Array Value} {LV UV : Value} {lib : List Prf} {us : List Unt} {W W' : World} {v : Value} {l : List Stg} (h : ExK w lv uv b3 b7 b10 cs3 cs7 cs10 LV UV lib us W) (ho : OwnS (w.heap.size + 2) W v l) (hg : W.grownBy W' v.ownBlock) : ExK w lv uv b3 b7 b10 cs3 cs7 cs10 LV UV lib us W' :=
  h.other (Other.row (T' := 35) ho hg) (h.box.grown ho hg (Nat.le_refl _)) (by decide) (by decide) (by decide) (by decide) (by decide)
theorem ExK.grownK {w : World} {lv uv : Value} {b3 b7 b10 : Nat} {cs3 cs7 cs10 : Array Value} {LV UV : Value} {lib : List Prf} {us : List Unt} {W W' : World} {v : Value} {l : List KeyR} (h : ExK w lv uv b3 b7 b10 cs3 cs7 cs10 LV UV lib us W) (ho : OwnK (w.heap.size + 2) W v l) (hg : W.grownBy W' v.ownBlock) : ExK w lv uv b3 b7 b10 cs3 cs7 cs10 LV UV lib us W' :=
  h.other (Other.row (T' := 33) ho hg) (h.box.grown ho hg (Nat.le_refl _)) (by decide) (by decide) (by decide) (by decide) (by decide)
theorem OwnK.grownS {base : Nat} {W W' : World} {v v' : Value} {l : List Stg} {m : List KeyR} (h : OwnK base W v' m) (ho : OwnS base W v l) (hg : W.grownBy W' v.ownBlock) : OwnK base W' v' m :=
  (Other.row (T' := 35) ho hg).own h (by decide)
theorem OwnS.grownK {base : Nat} {W W' : World} {v v' : Value} {l : List KeyR} {m : List Stg} (h : OwnS base W v' m) (ho : OwnK base W v l) (hg : W.grownBy W' v.ownBlock) : OwnS base W' v' m :=
  (Other.row (T' := 33) ho hg).own h (by decide)
theorem ExK.done {w : World} {lv uv : Value} {b3 b7 b10 : Nat} {cs3 cs7 cs10 : Array Value} {LV UV : Value} {lib : List Prf} {us : List Unt} {W : World} (h : ExK w lv uv b3 b7 b10 cs3 cs7 cs10 LV UV lib us W) (a b : Value) :
    OwnL (w.heap.size + 2) ((W.setCell ⟨w.heap.size + 1, 0, none⟩ a).setCell ⟨w.heap.size + 1, 1, none⟩ b) LV lib ∧ OwnU (w.heap.size + 2) ((W.setCell ⟨w.heap.size + 1, 0, none⟩ a).setCell ⟨w.heap.size + 1, 1, none⟩ b) UV us :=
  ⟨h.ol.res h.box.res a b, h.ou.res h.box.res a b⟩
theorem OwnS.res {W : World} {rb base : Nat} {cs : Array Value} {v : Value} {l : List Stg} (h : OwnS base W v l) (hr : TBox W rb 25 cs) (a b : Value) : OwnS base ((W.setCell ⟨rb, 0, none⟩ a).setCell ⟨rb, 1, none⟩ b) v l :=
  (Other.box (hr.set 0 a) b).own ((Other.box hr a).own h (by decide)) (by decide)
theorem OwnK.res {W : World} {rb base : Nat} {cs : Array Value} {v : Value} {l : List KeyR} (h : OwnK base W v l) (hr : TBox W rb 25 cs) (a b : Value) : OwnK base ((W.setCell ⟨rb, 0, none⟩ a).setCell ⟨rb, 1, none⟩ b) v l :=
  (Other.box (hr.set 0 a) b).own ((Other.box hr a).own h (by decide)) (by decide)

/-! ### the loop's steps -/
def keyRs (l : List (Int × ByteArray)) : List KeyR := l.map (fun k => ⟨k.1, k.2⟩)
theorem kept_some {n : Int} {old p : Prf} {l : List Stg} {k : Nat} (hk : k < l.length) {t : Stg} (h : keepS n old p l[k] = some t) : keptS n old p (l.take (k + 1)) = keptS n old p (l.take k) ++ [t] ∧ lostS n old p (l.take (k + 1)) = lostS n old p (l.take k) := by
  unfold keptS lostS
  rw [List.take_succ_eq_append_getElem hk, List.filterMap_append, List.filter_append, List.map_append]
  refine ⟨by rw [List.filterMap_cons_some h]; rfl, by rw [List.filter_cons_of_neg (by rw [h]; simp)]; simp⟩
theorem kept_none {n : Int} {old p : Prf} {l : List Stg} {k : Nat} (hk : k < l.length) (h : keepS n old p l[k] = none) : keptS n old p (l.take (k + 1)) = keptS n old p (l.take k) ∧ keyRs (lostS n old p (l.take (k + 1))) = keyRs (lostS n old p (l.take k)) ++ [⟨l[k].unit, l[k].par⟩] := by
  unfold keptS lostS keyRs
  rw [List.take_succ_eq_append_getElem hk, List.filterMap_append, List.filter_append, List.map_append, List.map_append]
  refine ⟨by rw [List.filterMap_cons_none h]; simp, by rw [List.filter_cons_of_pos (by rw [h]; rfl)]; rfl⟩
theorem keep_other {n : Int} (old p : Prf) {s : Stg} (h : ¬ s.unit = n) : keepS n old p s = some s := by unfold keepS; rw [if_neg h]
theorem keep_gone {n : Int} (old : Prf) {p : Prf} {s : Stg} (h : s.unit = n) (hb : parOf p.pars s.par.data.toList = none) : keepS n old p s = none := by
  unfold keepS carO; rw [if_pos h, hb]; rfl
theorem keep_way {n : Int} {old p : Prf} {s : Stg} {b : Par} (h : s.unit = n) (hb : parOf p.pars s.par.data.toList = some b) {v : Int} (hc : carV (((parOf old.pars s.par.data.toList).map Par.rngs).getD []) b.rngs s.lv = (v, true)) : keepS n old p s = some ⟨s.unit, s.par, v⟩ := by
  unfold keepS carO; rw [if_pos h, hb]; simp only; rw [hc]; rfl
theorem keep_lost {n : Int} {old p : Prf} {s : Stg} {b : Par} (h : s.unit = n) (hb : parOf p.pars s.par.data.toList = some b) {v : Int} (hc : carV (((parOf old.pars s.par.data.toList).map Par.rngs).getD []) b.rngs s.lv = (v, false)) : keepS n old p s = none := by
  unfold keepS carO; rw [if_pos h, hb]; simp only; rw [hc]; rfl
theorem kept_few (n : Int) (old p : Prf) (l : List Stg) (k : Nat) (h : l.length ≤ 16000) : (keptS n old p (l.take k)).length ≤ 10000000 ∧ (keyRs (lostS n old p (l.take k))).length ≤ 10000000 := by
  have := kept_len n old p (l.take k)
  rw [List.length_take] at this
  unfold keyRs
  rw [List.length_map]
  omega
theorem rngs_right {q : Prf} (h : chkPrf q = 0) (nm : List UInt8) : RngsOk (((parOf q.pars nm).map Par.rngs).getD []) := by
  cases hp : parOf q.pars nm with
  | none => intro r hr; exact absurd hr (by simp)
  | some a => exact rngsOk_of (par_chk h (parOf_mem hp)).2.2.2.2.2
end Go.Proofs.Ytabalicembhjmaa

namespace Go.Proofs.Ytabalicembhjmaa
open Go.RowKit
set_option linter.unusedVariables false
set_option linter.unusedSimpArgs false

theorem freeAt_end {us : List (Unt × Int)} {U a s : Int} (h : ∀ x ∈ us, x.1.univ ≠ U) (hs : 1 ≤ s) : freeAt us U a s = decide (a + s - 1 ≤ 512) := by
  unfold freeAt
  rw [Bool.eq_iff_iff, freeN_iff, decide_eq_true_eq]
  constructor
  · intro hk
    exact (hk (a + s - 1) (by omega) (by omega)).1
  · intro hk k h1 h2
    refine ⟨by omega, ?_⟩
    unfold usedB
    rw [List.any_eq_false]
    intro x hx
    simp [h x hx]
theorem used_free {base mb : Nat} {us : List (Unt × Int)} {w : World} (h : UsedS base w mb us) (U a s : Int) (hU : I64 U) (a0 : 0 ≤ a) (a1 : a ≤ 100000) (s0 : 1 ≤ s) (s1 : s ≤ 100000) :
    ∃ pv, (Instr.lookup 90 (.map (some mb)) (.int .i64 U) false).run Try.prog w = .ok pv w ∧
      Calls Try.prog 46 #[pv, .int .i64 a, .int .i64 s] w fun e w' => e = .returned (.bool (freeAt us U a s)) ∧ w = w' := by
  obtain ⟨m, f, hm, hM, hUU, hI⟩ := h
  have hq := hM.look false keyI_ (t := 90) Try.underlying90 (zeroPtr_ _) (keyOfI_ hU)
  rcases hUU U with ⟨hf, hno⟩ | ⟨g, hf, hbg, hgm, hgl, hS⟩
  · rw [hf] at hq
    simp only [Option.getD_none, Bool.false_eq_true, if_false] at hq
    refine ⟨_, hq, ?_⟩
    rw [freeAt_end hno s0]
    exact free_nil a s w a0 a1 (by omega) s1
  · rw [hf] at hq
    simp only [Option.getD_some, Bool.false_eq_true, if_false, ptrV] at hq
    exact ⟨_, hq, free_ptr g _ a s w hS hgl a0 a1 (by omega) s1⟩
end Go.Proofs.Ytabalicembhjmaa
