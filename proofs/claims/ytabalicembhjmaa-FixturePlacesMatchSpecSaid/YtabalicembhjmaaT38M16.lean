/- Own rows of ranges, parameters, profiles, units: deep copies of libraries; an append of one as one step. Clashes of units are marks that are taken. No walk in it. -/
import Derived.Test.YtabalicembhjmaaT38M14
import Derived.Test.YtabalicembhjmaaT38M15
import Derived.Test.YtabalicembhjmaaT38M13

namespace Go.Proofs.Ytabalicembhjmaa
open Go.RowKit
open Go (info_parts)
set_option linter.unusedVariables false
set_option linter.unusedSimpArgs false

def OwnR (base : Nat) (w : World) (v : Value) (l : List Rng) : Prop := w.ownsRow base 86 3 v l.length (l.flatMap rngC)
def OwnP (base : Nat) (w : World) (v : Value) (l : List Par) : Prop :=
  ∃ lv : List (Par × Value), lv.map (·.1) = l ∧ w.ownsRow base 42 7 v lv.length (lv.flatMap parC) ∧ ∀ y ∈ lv, OwnR base w y.2 y.1.rngs
def OwnL (base : Nat) (w : World) (v : Value) (l : List Prf) : Prop :=
  ∃ lv : List (Prf × Value), lv.map (·.1) = l ∧ w.ownsRow base 70 3 v lv.length (lv.flatMap prfC) ∧ ∀ y ∈ lv, OwnP base w y.2 y.1.pars
def OwnU (base : Nat) (w : World) (v : Value) (l : List Unt) : Prop := w.ownsRow base 67 4 v l.length (l.flatMap untC)
theorem OwnP.nil (base : Nat) (w : World) : OwnP base w (.slice none 0 0) [] := ⟨[], rfl, World.ownsRow_nil w base _ _, by simp⟩
theorem OwnL.nil (base : Nat) (w : World) : OwnL base w (.slice none 0 0) [] := ⟨[], rfl, World.ownsRow_nil w base _ _, by simp⟩
theorem OwnR.below {base : Nat} {w w' : World} {v : Value} {l : List Rng} (h : OwnR base w v l) (hb : Below w.heap.size w w') : OwnR base w' v l := own_below2 h hb
theorem OwnU.below {base : Nat} {w w' : World} {v : Value} {l : List Unt} (h : OwnU base w v l) (hb : Below w.heap.size w w') : OwnU base w' v l := own_below2 h hb
theorem OwnP.below {base : Nat} {w w' : World} {v : Value} {l : List Par} (h : OwnP base w v l) (hb : Below w.heap.size w w') : OwnP base w' v l := by
  obtain ⟨lv, h1, h2, h3⟩ := h
  exact ⟨lv, h1, own_below2 h2 hb, fun y hy => (h3 y hy).below hb⟩
theorem OwnL.below {base : Nat} {w w' : World} {v : Value} {l : List Prf} (h : OwnL base w v l) (hb : Below w.heap.size w w') : OwnL base w' v l := by
  obtain ⟨lv, h1, h2, h3⟩ := h
  exact ⟨lv, h1, own_below2 h2 hb, fun y hy => (h3 y hy).below hb⟩
theorem OwnR.less {base base' : Nat} {w : World} {v : Value} {l : List Rng} (h : OwnR base w v l) (hb : base' ≤ base) : OwnR base' w v l := own_base h hb
theorem OwnP.less {base base' : Nat} {w : World} {v : Value} {l : List Par} (h : OwnP base w v l) (hb : base' ≤ base) : OwnP base' w v l := by
  obtain ⟨lv, h1, h2, h3⟩ := h
  exact ⟨lv, h1, own_base h2 hb, fun y hy => (h3 y hy).less hb⟩
theorem OwnL.less {base base' : Nat} {w : World} {v : Value} {l : List Prf} (h : OwnL base w v l) (hb : base' ≤ base) : OwnL base' w v l := by
  obtain ⟨lv, h1, h2, h3⟩ := h
  exact ⟨lv, h1, own_base h2 hb, fun y hy => (h3 y hy).less hb⟩
theorem OwnP.shape {base : Nat} {w : World} {v : Value} {l : List Par} (h : OwnP base w v l) : ∃ ao cap, v = .slice ao l.length cap := by
  obtain ⟨lv, h1, h2, h3⟩ := h
  obtain ⟨ao, cap, e⟩ := own_shape2 h2
  exact ⟨ao, cap, by rw [← h1]; simpa using e⟩
theorem OwnL.shape {base : Nat} {w : World} {v : Value} {l : List Prf} (h : OwnL base w v l) : ∃ ao cap, v = .slice ao l.length cap := by
  obtain ⟨lv, h1, h2, h3⟩ := h
  obtain ⟨ao, cap, e⟩ := own_shape2 h2
  exact ⟨ao, cap, by rw [← h1]; simpa using e⟩
theorem OwnU.shape {base : Nat} {w : World} {v : Value} {l : List Unt} (h : OwnU base w v l) : ∃ ao cap, v = .slice ao l.length cap := own_shape2 h
theorem OwnR.shape {base : Nat} {w : World} {v : Value} {l : List Rng} (h : OwnR base w v l) : ∃ ao cap, v = .slice ao l.length cap := own_shape2 h
/-- rows of other types grow, or boxes of other types are written: these rows stay -/
def Other (w w' : World) (T' : TypeId) : Prop := ∃ r, w.grownBy w' r ∧ ∀ g, r = some g → ∃ cs fz, w.heap[g]? = some (.cells cs T' fz)
theorem Other.row {w w' : World} {T' : TypeId} {base s n : Nat} {v : Value} {xs : List Value} (h : w.ownsRow base T' s v n xs) (hg : w.grownBy w' v.ownBlock) : Other w w' T' := by
  refine ⟨_, hg, fun g hgg => ?_⟩
  rcases h.2 with ⟨rfl, _⟩ | ⟨g', cap, cur, rfl, _, h1, _⟩
  · simp [Value.ownBlock] at hgg
  · simp [Value.ownBlock] at hgg
    subst hgg
    exact ⟨_, _, h1⟩
theorem Other.box {w : World} {T' : TypeId} {b i : Nat} {cs : Array Value} (h : TBox w b T' cs) (v : Value) : Other w (w.setCell ⟨b, i, none⟩ v) T' :=
  ⟨some b, ⟨rfl, rfl, rfl, by simp, fun k _ hne => heap_setCell_other w ⟨b, i, none⟩ k v (fun e => hne (by simp [e]))⟩, fun g hg => by cases hg; exact ⟨_, _, h⟩⟩
theorem Other.own {w w' : World} {T' : TypeId} (h : Other w w' T') {base s n : Nat} {T : TypeId} {v : Value} {xs : List Value} (ho : w.ownsRow base T s v n xs) (hT : T ≠ T') : w'.ownsRow base T s v n xs := by
  obtain ⟨r, hg, hr⟩ := h
  refine ho.kept hg ?_
  rcases ho.2 with ⟨rfl, _⟩ | ⟨g, cap, cur, rfl, _, h1, _⟩
  · exact .inl rfl
  · refine .inr ?_
    cases r with
    | none => simp [Value.ownBlock]
    | some g' =>
      obtain ⟨cs, fz, h2⟩ := hr g' rfl
      simp only [Value.ownBlock, ne_eq, Option.some.injEq]
      intro e
      subst e
      rw [h1] at h2
      injection h2 with h2
      injection h2 with _ h3
      exact hT h3
theorem Other.tbox {w w' : World} {T' T : TypeId} (h : Other w w' T') {b : Nat} {cs : Array Value} (ho : TBox w b T cs) (hT : T ≠ T') : TBox w' b T cs := by
  obtain ⟨r, hg, hr⟩ := h
  refine (hg.block b ho.lt ?_).trans ho
  intro e
  obtain ⟨cs', fz, h2⟩ := hr b e.symm
  unfold TBox at ho
  rw [ho] at h2
  injection h2 with h2
  injection h2 with _ h3
  exact hT h3
theorem Other.size {w w' : World} {T' : TypeId} (h : Other w w' T') : w.heap.size ≤ w'.heap.size := by
  obtain ⟨r, hg, _⟩ := h
  exact hg.size
theorem OwnR.other {base : Nat} {w w' : World} {v : Value} {l : List Rng} {T' : TypeId} (h : OwnR base w v l) (ho : Other w w' T') (h1 : 86 ≠ T') : OwnR base w' v l := ho.own h h1
theorem OwnU.other {base : Nat} {w w' : World} {v : Value} {l : List Unt} {T' : TypeId} (h : OwnU base w v l) (ho : Other w w' T') (h1 : 67 ≠ T') : OwnU base w' v l := ho.own h h1
theorem OwnP.other {base : Nat} {w w' : World} {v : Value} {l : List Par} {T' : TypeId} (h : OwnP base w v l) (ho : Other w w' T') (h1 : 86 ≠ T') (h2 : 42 ≠ T') : OwnP base w' v l := by
  obtain ⟨lv, e1, e2, e3⟩ := h
  exact ⟨lv, e1, ho.own e2 h2, fun y hy => (e3 y hy).other ho h1⟩
theorem OwnL.other {base : Nat} {w w' : World} {v : Value} {l : List Prf} {T' : TypeId} (h : OwnL base w v l) (ho : Other w w' T') (h1 : 86 ≠ T') (h2 : 42 ≠ T') (h3 : 70 ≠ T') : OwnL base w' v l := by
  obtain ⟨lv, e1, e2, e3⟩ := h
  exact ⟨lv, e1, ho.own e2 h3, fun y hy => (e3 y hy).other ho h1 h2⟩
theorem OwnR.rngS {base : Nat} {w : World} {v : Value} {l : List Rng} (h : OwnR base w v l) : RngS w.heap.size w v l := CellsS.of_own h
theorem OwnP.parS {base : Nat} {w : World} {v : Value} {l : List Par} (h : OwnP base w v l) : ParS w.heap.size w v l := by
  obtain ⟨lv, e1, e2, e3⟩ := h
  exact ⟨lv, e1, CellsS.of_own e2, fun y hy => (e3 y hy).rngS⟩
theorem OwnL.prfS {base : Nat} {w : World} {v : Value} {l : List Prf} (h : OwnL base w v l) : PrfS w.heap.size w v l := by
  obtain ⟨lv, e1, e2, e3⟩ := h
  exact ⟨lv, e1, CellsS.of_own e2, fun y hy => (e3 y hy).parS⟩
theorem OwnU.untS {base : Nat} {w : World} {v : Value} {l : List Unt} (h : OwnU base w v l) : UntS w.heap.size w v l := CellsS.of_own h
theorem infoOwnP : (Try.prog.info? 42).map (fun i => (i.zero, i.size, i.bytes)) = some (some (.agg #[.string ⟨#[]⟩, .int .i64 0, .int .i64 0, .int .i64 0, .int .i64 0, .bool false, .slice none 0 0]), 7, 80) := by kernel_rfl
theorem infoOwnL : (Try.prog.info? 70).map (fun i => (i.zero, i.size, i.bytes)) = some (some (.agg #[.string ⟨#[]⟩, .int .i64 0, .slice none 0 0]), 3, 48) := by kernel_rfl
theorem wpList_ownP {w : World} {ops : Array Oper} {rest : List Oper} {o : Oper} {a : Act} {Q : Exit → Act → World → Prop} (hgd : o.guard = none) (s x : Operand)
    (hop : o.op = .call { callee := .builtin .append, args := #[s, x], argTypes := #[68, 68] })
    (base c : Nat) (v : Value) (l : List Par) (y : Par × Value) (ad : Addr) (hs : a.eval s = v) (hx : a.eval x = .slice (some ad) 1 c)
    (ho : OwnP base w v l) (hy : OwnR base w y.2 y.1.rngs) (hc : ∀ (j : Nat) u, (parC y)[j]? = some u → w.cell? (ad.add j) = some u) (hl : l.length ≤ 100000) (hb : base ≤ w.heap.size)
    (h : ∀ v' w', OwnP base w' v' (l ++ [y.1]) → w.grownBy w' v.ownBlock → Other w w' 42 → wpList Try.prog ops Q rest (a.put o.dst v') w') : wpList Try.prog ops Q (o :: rest) a w := by
  obtain ⟨i0, hi, hz0, hz1, hz2⟩ := info_parts infoOwnP
  obtain ⟨lv, e1, e2, e3⟩ := ho
  have hll : lv.length = l.length := by rw [← e1]; simp
  obtain ⟨⟨pn, pg, ps, pf, pd, pb, pr⟩, yv⟩ := y
  obtain ⟨ro, rcap, hrs⟩ := hy.shape
  simp only at hrs
  subst hrs
  refine wpList_append_own w hgd s x 68 hop base 42 i0 (.agg #[.string ⟨#[]⟩, .int .i64 0, .int .i64 0, .int .i64 0, .int .i64 0, .bool false, .slice none 0 0]) 7 80 Try.underlying68 hi hz0 hz1 hz2 rfl (by decide) v lv.length (lv.flatMap parC) hs e2 ad 1 c (parC (⟨pn, pg, ps, pf, pd, pb, pr⟩, .slice ro pr.length rcap)) hx rfl hc (by intro u hu; simp [parC] at hu; rcases hu with rfl | rfl | rfl | rfl | rfl | rfl | rfl <;> rfl) (by unfold maxLen; omega) (by omega) hb ?_
  intro v' w' h1 h2 _
  have hO := Other.row e2 h2
  refine h v' w' ⟨lv ++ [(⟨pn, pg, ps, pf, pd, pb, pr⟩, .slice ro pr.length rcap)], by simp [e1], ?_, ?_⟩ h2 hO
  · rw [List.flatMap_append, List.length_append]
    simpa using h1
  · intro y hy'
    rcases List.mem_append.1 hy' with h' | h'
    · exact (e3 y h').other hO (by decide)
    · simp at h'
      subst h'
      exact hy.other hO (by decide)
theorem wpList_ownL {w : World} {ops : Array Oper} {rest : List Oper} {o : Oper} {a : Act} {Q : Exit → Act → World → Prop} (hgd : o.guard = none) (s x : Operand)
    (hop : o.op = .call { callee := .builtin .append, args := #[s, x], argTypes := #[22, 22] })
    (base c : Nat) (v : Value) (l : List Prf) (y : Prf × Value) (ad : Addr) (hs : a.eval s = v) (hx : a.eval x = .slice (some ad) 1 c)
    (ho : OwnL base w v l) (hy : OwnP base w y.2 y.1.pars) (hc : ∀ (j : Nat) u, (prfC y)[j]? = some u → w.cell? (ad.add j) = some u) (hl : l.length ≤ 100000) (hb : base ≤ w.heap.size)
    (h : ∀ v' w', OwnL base w' v' (l ++ [y.1]) → w.grownBy w' v.ownBlock → Other w w' 70 → wpList Try.prog ops Q rest (a.put o.dst v') w') : wpList Try.prog ops Q (o :: rest) a w := by
  obtain ⟨i0, hi, hz0, hz1, hz2⟩ := info_parts infoOwnL
  obtain ⟨lv, e1, e2, e3⟩ := ho
  have hll : lv.length = l.length := by rw [← e1]; simp
  obtain ⟨⟨pn, pg, ps⟩, yv⟩ := y
  obtain ⟨ro, rcap, hrs⟩ := hy.shape
  simp only at hrs
  subst hrs
  refine wpList_append_own w hgd s x 22 hop base 70 i0 (.agg #[.string ⟨#[]⟩, .int .i64 0, .slice none 0 0]) 3 48 Try.underlying22 hi hz0 hz1 hz2 rfl (by decide) v lv.length (lv.flatMap prfC) hs e2 ad 1 c (prfC (⟨pn, pg, ps⟩, .slice ro ps.length rcap)) hx rfl hc (by intro u hu; simp [prfC] at hu; rcases hu with rfl | rfl | rfl <;> rfl) (by unfold maxLen; omega) (by omega) hb ?_
  intro v' w' h1 h2 _
  have hO := Other.row e2 h2
  refine h v' w' ⟨lv ++ [(⟨pn, pg, ps⟩, .slice ro ps.length rcap)], by simp [e1], ?_, ?_⟩ h2 hO
  · rw [List.flatMap_append, List.length_append]
    simpa using h1
  · intro y hy'
    rcases List.mem_append.1 hy' with h' | h'
    · exact (e3 y h').other hO (by decide) (by decide)
    · simp at h'
      subst h'
      exact hy.other hO (by decide) (by decide)
theorem ownP_new (w : World) (y : Par × Value) (T : TypeId) : ∀ (j : Nat) u, (parC y)[j]? = some u → (w.alloc (.cells #[.string y.1.name, .int .i64 y.1.grp, .int .i64 y.1.sl, .int .i64 y.1.fine, .int .i64 y.1.dflt, .bool y.1.snap, y.2] T)).cell? ((⟨w.heap.size, 0, none⟩ : Addr).add j) = some u := by
  intro j u hu
  match j, hu with
  | 0, hu => simp [parC] at hu; subst hu; simp [Addr.add, go_sem]
  | 1, hu => simp [parC] at hu; subst hu; simp [Addr.add, go_sem]
  | 2, hu => simp [parC] at hu; subst hu; simp [Addr.add, go_sem]
  | 3, hu => simp [parC] at hu; subst hu; simp [Addr.add, go_sem]
  | 4, hu => simp [parC] at hu; subst hu; simp [Addr.add, go_sem]
  | 5, hu => simp [parC] at hu; subst hu; simp [Addr.add, go_sem]
  | 6, hu => simp [parC] at hu; subst hu; simp [Addr.add, go_sem]
  | j + 7, hu => simp [parC] at hu
theorem ownL_new (w : World) (y : Prf × Value) (T : TypeId) : ∀ (j : Nat) u, (prfC y)[j]? = some u → (w.alloc (.cells #[.string y.1.name, .int .i64 y.1.size, y.2] T)).cell? ((⟨w.heap.size, 0, none⟩ : Addr).add j) = some u := by
  intro j u hu
  match j, hu with
  | 0, hu => simp [prfC] at hu; subst hu; simp [Addr.add, go_sem]
  | 1, hu => simp [prfC] at hu; subst hu; simp [Addr.add, go_sem]
  | 2, hu => simp [prfC] at hu; subst hu; simp [Addr.add, go_sem]
  | j + 3, hu => simp [prfC] at hu
end Go.Proofs.Ytabalicembhjmaa

namespace Go.Proofs.Ytabalicembhjmaa
open Go.RowKit
set_option linter.unusedVariables false
set_option linter.unusedSimpArgs false

def usOf (lib : List Prf) (l : List Unt) : List (Unt × Int) := l.map (fun u => (u, sizeOf' lib u))
theorem usOf_snoc (lib : List Prf) (l : List Unt) (k : Nat) (h : k < l.length) : usOf lib (l.take (k + 1)) = usOf lib (l.take k) ++ [(l[k], sizeOf' lib l[k])] := by
  unfold usOf
  rw [List.take_succ_eq_append_getElem h, List.map_append]; rfl
theorem size_of {lib : List Prf} {u : Unt} {p : Prf} (h : profOf lib u.nm = some p) : sizeOf' lib u = p.size := by simp [sizeOf', h]
theorem size_pos {lib : List Prf} (hl : chkLib lib = 0) {u : Unt} {p : Prf} (h : profOf lib u.nm = some p) : 1 ≤ p.size ∧ p.size ≤ 512 := (chkPrf_zero (chkLib_prf hl (profOf_some h).1)).2.1
/-- units clash just where one's slots are taken already -/
theorem clash_free {lib : List Prf} (hl : chkLib lib = 0) (pre : List Unt) (hp : ∀ x ∈ pre, ∃ p, profOf lib x.nm = some p) (u : Unt) (p : Prf) (hu : profOf lib u.nm = some p) (hb : untBad u p.size = false) :
    pre.any (clashU lib u) = !freeN (usedB (usOf lib pre) u.univ) u.addr p.size.toNat := by
  obtain ⟨b1, b2, b3⟩ := untBad_false hb
  have hs := size_pos hl hu
  have hsu := size_of hu
  have key : pre.any (clashU lib u) = true ↔ ¬ freeN (usedB (usOf lib pre) u.univ) u.addr p.size.toNat = true := by
    rw [freeN_iff, List.any_eq_true]
    constructor
    · rintro ⟨x, hx, hc⟩ hf
      obtain ⟨q, hq⟩ := hp x hx
      have hsq := size_pos hl hq
      have hsx := size_of hq
      simp only [clashU, lastOf, hsu, hsx, Bool.and_eq_true, decide_eq_true_eq] at hc
      obtain ⟨⟨c1, c2⟩, c3⟩ := hc
      obtain ⟨m, hm1, hm2, hm3, hm4⟩ : ∃ m : Int, u.addr ≤ m ∧ m < u.addr + p.size ∧ x.addr ≤ m ∧ m < x.addr + q.size := by
        by_cases c : u.addr ≤ x.addr
        · exact ⟨x.addr, c, by omega, by omega, by omega⟩
        · exact ⟨u.addr, by omega, by omega, by omega, by omega⟩
      have := (hf m hm1 (by omega)).2
      have : usedB (usOf lib pre) u.univ m = true := by
        unfold usedB
        rw [List.any_eq_true]
        exact ⟨(x, sizeOf' lib x), List.mem_map.2 ⟨x, hx, rfl⟩, by simp only [hsx, Bool.and_eq_true, decide_eq_true_eq]; exact ⟨c1, hm3, hm4⟩⟩
      simp_all
    · intro hf
      by_cases c : ∃ x ∈ pre, clashU lib u x = true
      · exact c
      · refine absurd (fun m h1 h2 => ⟨by omega, ?_⟩) hf
        unfold usedB
        rw [List.any_eq_false]
        intro y hy
        obtain ⟨x, hx, rfl⟩ := List.mem_map.1 hy
        obtain ⟨q, hq⟩ := hp x hx
        have hsx := size_of hq
        intro hcon
        simp only [hsx, Bool.and_eq_true, decide_eq_true_eq] at hcon
        obtain ⟨c1, c2, c3⟩ := hcon
        refine c ⟨x, hx, ?_⟩
        simp only [clashU, lastOf, hsu, hsx, Bool.and_eq_true, decide_eq_true_eq]
        exact ⟨⟨c1, by omega⟩, by omega⟩
  cases h : freeN (usedB (usOf lib pre) u.univ) u.addr p.size.toNat <;> simp_all
theorem clash_none {lib : List Prf} (pre : List Unt) (u : Unt) (h : ∀ x ∈ usOf lib pre, x.1.univ ≠ u.univ) : pre.any (clashU lib u) = false := by
  rw [List.any_eq_false]
  intro x hx
  have := h (x, sizeOf' lib x) (List.mem_map.2 ⟨x, hx, rfl⟩)
  simp [clashU, this]
theorem pre_known {lib : List Prf} {units : List Unt} {k : Nat} (hk : k ≤ units.length) (h : ∀ j (hj : j < units.length), j < k → untF lib (units.take j) units[j] = 0) : ∀ x ∈ units.take k, ∃ p, profOf lib x.nm = some p := by
  intro x hx
  obtain ⟨j, hj, rfl⟩ := List.getElem_of_mem hx
  rw [List.length_take] at hj
  have h1 := h j (by omega) (by omega)
  obtain ⟨_, _, ⟨p, hp, _⟩, _⟩ := untF_zero h1
  exact ⟨p, by rw [List.getElem_take]; exact hp⟩
theorem parS_shape {B : Nat} {w : World} {v : Value} {l : List Par} (h : ParS B w v l) : ∃ ao cap, v = .slice ao l.length cap := by
  obtain ⟨lv, hlv, hcs, _⟩ := h
  obtain ⟨ao, cap, rfl, _⟩ := CellsS.shape hcs
  exact ⟨ao, cap, by rw [← hlv]; simp⟩
theorem prfS_shape {B : Nat} {w : World} {v : Value} {l : List Prf} (h : PrfS B w v l) : ∃ ao cap, v = .slice ao l.length cap := by
  obtain ⟨lv, hlv, hcs, _⟩ := h
  obtain ⟨ao, cap, rfl, _⟩ := CellsS.shape hcs
  exact ⟨ao, cap, by rw [← hlv]; simp⟩
theorem usOf_len (lib : List Prf) (l : List Unt) : (usOf lib l).length = l.length := by simp [usOf]
end Go.Proofs.Ytabalicembhjmaa
