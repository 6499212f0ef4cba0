/- Own rows of ranges, parameters, profiles, units: deep copies of libraries; an append of one as one step. -/
import Derived.Test.YtppbagllhmeenaaGreatDoorT68M30
import Derived.Test.YtppbagllhmeenaaGreatDoorT68M19
import Derived.Test.YtppbagllhmeenaaGreatDoorT68M31

namespace Go.Proofs.YtppbagllhmeenaaGreatDoor
open Go.RowKit
open Go (info_parts)
set_option linter.unusedVariables false
set_option linter.unusedSimpArgs false

def OwnR (base : Nat) (w : World) (v : Value) (l : List Rng) : Prop := w.ownsRow base 75 3 v l.length (l.flatMap rngC)
def OwnP (base : Nat) (w : World) (v : Value) (l : List Par) : Prop :=
  ∃ lv : List (Par × Value), lv.map (·.1) = l ∧ w.ownsRow base 73 7 v lv.length (lv.flatMap parC) ∧ ∀ y ∈ lv, OwnR base w y.2 y.1.rngs
def OwnL (base : Nat) (w : World) (v : Value) (l : List Prf) : Prop :=
  ∃ lv : List (Prf × Value), lv.map (·.1) = l ∧ w.ownsRow base 70 3 v lv.length (lv.flatMap prfC) ∧ ∀ y ∈ lv, OwnP base w y.2 y.1.pars
def OwnU (base : Nat) (w : World) (v : Value) (l : List Unt) : Prop := w.ownsRow base 51 4 v l.length (l.flatMap untC)
theorem OwnP.nil (base : Nat) (w : World) : OwnP base w (.slice none 0 0) [] := ⟨[], rfl, World.ownsRow_nil w base _ _, by simp⟩
theorem OwnL.nil (base : Nat) (w : World) : OwnL base w (.slice none 0 0) [] := ⟨[], rfl, World.ownsRow_nil w base _ _, by simp⟩
theorem OwnR.below {base : Nat} {w w' : World} {v : Value} {l : List Rng} (h : OwnR base w v l) (hb : Below w.heap.size w w') : OwnR base w' v l := own_below2 h hb
theorem OwnU.below {base : Nat} {w w' : World} {v : Value} {l : List Unt} (h : OwnU base w v l) (hb : Below w.heap.size w w') : OwnU base w' v l := own_below2 h hb
theorem OwnP.below {base : Nat} {w w' : World} {v : Value} {l : List Par} (h : OwnP base w v l) (hb : Below w.heap.size w w') : OwnP base w' v l := by
  obtain ⟨lv, h1, h2, h3⟩ := h
  exact ⟨lv, h1, own_below2 h2 hb, fun y hy => (h3 y hy).below hb⟩
theorem OwnL.below {base : Nat} {w w' : World} {v : Value} {l : List Prf} (h : OwnL base w v l) (hb : Below w.heap.size w w') : OwnL base w' v l := by
  obtain ⟨lv, h1, h2, h3⟩ := h
  exact ⟨lv, h1, own_below2 h2 hb, fun y hy => (h3 y hy).below hb⟩
theorem OwnR.less {base base' : Nat} {w : World} {v : Value} {l : List Rng} (h : OwnR base w v l) (hb : base' ≤ base) : OwnR base' w v l := own_base h hb
theorem OwnP.less {base base' : Nat} {w : World} {v : Value} {l : List Par} (h : OwnP base w v l) (hb : base' ≤ base) : OwnP base' w v l := by
  obtain ⟨lv, h1, h2, h3⟩ := h
  exact ⟨lv, h1, own_base h2 hb, fun y hy => (h3 y hy).less hb⟩
theorem OwnL.less {base base' : Nat} {w : World} {v : Value} {l : List Prf} (h : OwnL base w v l) (hb : base' ≤ base) : OwnL base' w v l := by
  obtain ⟨lv, h1, h2, h3⟩ := h
  exact ⟨lv, h1, own_base h2 hb, fun y hy => (h3 y hy).less hb⟩
theorem OwnP.shape {base : Nat} {w : World} {v : Value} {l : List Par} (h : OwnP base w v l) : ∃ ao cap, v = .slice ao l.length cap := by
  obtain ⟨lv, h1, h2, h3⟩ := h
  obtain ⟨ao, cap, e⟩ := own_shape2 h2
  exact ⟨ao, cap, by rw [← h1]; simpa using e⟩
theorem OwnL.shape {base : Nat} {w : World} {v : Value} {l : List Prf} (h : OwnL base w v l) : ∃ ao cap, v = .slice ao l.length cap := by
  obtain ⟨lv, h1, h2, h3⟩ := h
  obtain ⟨ao, cap, e⟩ := own_shape2 h2
  exact ⟨ao, cap, by rw [← h1]; simpa using e⟩
theorem OwnU.shape {base : Nat} {w : World} {v : Value} {l : List Unt} (h : OwnU base w v l) : ∃ ao cap, v = .slice ao l.length cap := own_shape2 h
theorem OwnR.shape {base : Nat} {w : World} {v : Value} {l : List Rng} (h : OwnR base w v l) : ∃ ao cap, v = .slice ao l.length cap := own_shape2 h
theorem OwnR.other {base : Nat} {w w' : World} {v : Value} {l : List Rng} {T' : TypeId} (h : OwnR base w v l) (ho : Other w w' T') (h1 : 75 ≠ T') : OwnR base w' v l := ho.own h h1
theorem OwnU.other {base : Nat} {w w' : World} {v : Value} {l : List Unt} {T' : TypeId} (h : OwnU base w v l) (ho : Other w w' T') (h1 : 51 ≠ T') : OwnU base w' v l := ho.own h h1
theorem OwnP.other {base : Nat} {w w' : World} {v : Value} {l : List Par} {T' : TypeId} (h : OwnP base w v l) (ho : Other w w' T') (h1 : 75 ≠ T') (h2 : 73 ≠ T') : OwnP base w' v l := by
  obtain ⟨lv, e1, e2, e3⟩ := h
  exact ⟨lv, e1, ho.own e2 h2, fun y hy => (e3 y hy).other ho h1⟩
theorem OwnL.other {base : Nat} {w w' : World} {v : Value} {l : List Prf} {T' : TypeId} (h : OwnL base w v l) (ho : Other w w' T') (h1 : 75 ≠ T') (h2 : 73 ≠ T') (h3 : 70 ≠ T') : OwnL base w' v l := by
  obtain ⟨lv, e1, e2, e3⟩ := h
  exact ⟨lv, e1, ho.own e2 h3, fun y hy => (e3 y hy).other ho h1 h2⟩
theorem OwnR.rngS {base : Nat} {w : World} {v : Value} {l : List Rng} (h : OwnR base w v l) : RngS w.heap.size w v l := CellsS.of_own h
theorem OwnP.parS {base : Nat} {w : World} {v : Value} {l : List Par} (h : OwnP base w v l) : ParS w.heap.size w v l := by
  obtain ⟨lv, e1, e2, e3⟩ := h
  exact ⟨lv, e1, CellsS.of_own e2, fun y hy => (e3 y hy).rngS⟩
theorem OwnL.prfS {base : Nat} {w : World} {v : Value} {l : List Prf} (h : OwnL base w v l) : PrfS w.heap.size w v l := by
  obtain ⟨lv, e1, e2, e3⟩ := h
  exact ⟨lv, e1, CellsS.of_own e2, fun y hy => (e3 y hy).parS⟩
theorem OwnU.untS {base : Nat} {w : World} {v : Value} {l : List Unt} (h : OwnU base w v l) : UntS w.heap.size w v l := CellsS.of_own h
theorem infoOwnP : (Tryz.prog.info? 73).map (fun i => (i.zero, i.size, i.bytes)) = some (some (.agg #[.string ⟨#[]⟩, .int .i64 0, .int .i64 0, .int .i64 0, .int .i64 0, .bool false, .slice none 0 0]), 7, 80) := by kernel_rfl
theorem infoOwnL : (Tryz.prog.info? 70).map (fun i => (i.zero, i.size, i.bytes)) = some (some (.agg #[.string ⟨#[]⟩, .int .i64 0, .slice none 0 0]), 3, 48) := by kernel_rfl
theorem wpList_ownP {w : World} {ops : Array Oper} {rest : List Oper} {o : Oper} {a : Act} {Q : Exit → Act → World → Prop} (hgd : o.guard = none) (s x : Operand)
    (hop : o.op = .call { callee := .builtin .append, args := #[s, x], argTypes := #[68, 68] })
    (base c : Nat) (v : Value) (l : List Par) (y : Par × Value) (ad : Addr) (hs : a.eval s = v) (hx : a.eval x = .slice (some ad) 1 c)
    (ho : OwnP base w v l) (hy : OwnR base w y.2 y.1.rngs) (hc : ∀ (j : Nat) u, (parC y)[j]? = some u → w.cell? (ad.add j) = some u) (hl : l.length ≤ 100000) (hb : base ≤ w.heap.size)
    (h : ∀ v' w', OwnP base w' v' (l ++ [y.1]) → w.grownBy w' v.ownBlock → Other w w' 73 → wpList Tryz.prog ops Q rest (a.put o.dst v') w') : wpList Tryz.prog ops Q (o :: rest) a w := by
  obtain ⟨i0, hi, hz0, hz1, hz2⟩ := info_parts infoOwnP
  obtain ⟨lv, e1, e2, e3⟩ := ho
  have hll : lv.length = l.length := by rw [← e1]; simp
  obtain ⟨⟨pn, pg, ps, pf, pd, pb, pr⟩, yv⟩ := y
  obtain ⟨ro, rcap, hrs⟩ := hy.shape
  simp only at hrs
  subst hrs
  refine wpList_append_own w hgd s x 68 hop base 73 i0 (.agg #[.string ⟨#[]⟩, .int .i64 0, .int .i64 0, .int .i64 0, .int .i64 0, .bool false, .slice none 0 0]) 7 80 Tryz.underlying68 hi hz0 hz1 hz2 rfl (by decide) v lv.length (lv.flatMap parC) hs e2 ad 1 c (parC (⟨pn, pg, ps, pf, pd, pb, pr⟩, .slice ro pr.length rcap)) hx rfl hc (by intro u hu; simp [parC] at hu; rcases hu with rfl | rfl | rfl | rfl | rfl | rfl | rfl <;> rfl) (by unfold maxLen; omega) (by omega) hb ?_
  intro v' w' h1 h2 _
  have hO := Other.row e2 h2
  refine h v' w' ⟨lv ++ [(⟨pn, pg, ps, pf, pd, pb, pr⟩, .slice ro pr.length rcap)], by simp [e1], ?_, ?_⟩ h2 hO
  · rw [List.flatMap_append, List.length_append]
    simpa using h1
  · intro y hy'
    rcases List.mem_append.1 hy' with h' | h'
    · exact (e3 y h').other hO (by decide)
    · simp at h'
      subst h'
      exact hy.other hO (by decide)
theorem wpList_ownL {w : World} {ops : Array Oper} {rest : List Oper} {o : Oper} {a : Act} {Q : Exit → Act → World → Prop} (hgd : o.guard = none) (s x : Operand)
    (hop : o.op = .call { callee := .builtin .append, args := #[s, x], argTypes := #[22, 22] })
    (base c : Nat) (v : Value) (l : List Prf) (y : Prf × Value) (ad : Addr) (hs : a.eval s = v) (hx : a.eval x = .slice (some ad) 1 c)
    (ho : OwnL base w v l) (hy : OwnP base w y.2 y.1.pars) (hc : ∀ (j : Nat) u, (prfC y)[j]? = some u → w.cell? (ad.add j) = some u) (hl : l.length ≤ 100000) (hb : base ≤ w.heap.size)
    (h : ∀ v' w', OwnL base w' v' (l ++ [y.1]) → w.grownBy w' v.ownBlock → Other w w' 70 → wpList Tryz.prog ops Q rest (a.put o.dst v') w') : wpList Tryz.prog ops Q (o :: rest) a w := by
  obtain ⟨i0, hi, hz0, hz1, hz2⟩ := info_parts infoOwnL
  obtain ⟨lv, e1, e2, e3⟩ := ho
  have hll : lv.length = l.length := by rw [← e1]; simp
  obtain ⟨⟨pn, pg, ps⟩, yv⟩ := y
  obtain ⟨ro, rcap, hrs⟩ := hy.shape
  simp only at hrs
  subst hrs
  refine wpList_append_own w hgd s x 22 hop base 70 i0 (.agg #[.string ⟨#[]⟩, .int .i64 0, .slice none 0 0]) 3 48 Tryz.underlying22 hi hz0 hz1 hz2 rfl (by decide) v lv.length (lv.flatMap prfC) hs e2 ad 1 c (prfC (⟨pn, pg, ps⟩, .slice ro ps.length rcap)) hx rfl hc (by intro u hu; simp [prfC] at hu; rcases hu with rfl | rfl | rfl <;> rfl) (by unfold maxLen; omega) (by omega) hb ?_
  intro v' w' h1 h2 _
  have hO := Other.row e2 h2
  refine h v' w' ⟨lv ++ [(⟨pn, pg, ps⟩, .slice ro ps.length rcap)], by simp [e1], ?_, ?_⟩ h2 hO
  · rw [List.flatMap_append, List.length_append]
    simpa using h1
  · intro y hy'
    rcases List.mem_append.1 hy' with h' | h'
    · exact (e3 y h').other hO (by decide) (by decide)
    · simp at h'
      subst h'
      exact hy.other hO (by decide) (by decide)
theorem ownP_new (w : World) (y : Par × Value) (T : TypeId) : ∀ (j : Nat) u, (parC y)[j]? = some u → (w.alloc (.cells #[.string y.1.name, .int .i64 y.1.grp, .int .i64 y.1.sl, .int .i64 y.1.fine, .int .i64 y.1.dflt, .bool y.1.snap, y.2] T)).cell? ((⟨w.heap.size, 0, none⟩ : Addr).add j) = some u := by
  intro j u hu
  match j, hu with
  | 0, hu => simp [parC] at hu; subst hu; simp [Addr.add, go_sem]
  | 1, hu => simp [parC] at hu; subst hu; simp [Addr.add, go_sem]
  | 2, hu => simp [parC] at hu; subst hu; simp [Addr.add, go_sem]
  | 3, hu => simp [parC] at hu; subst hu; simp [Addr.add, go_sem]
  | 4, hu => simp [parC] at hu; subst hu; simp [Addr.add, go_sem]
  | 5, hu => simp [parC] at hu; subst hu; simp [Addr.add, go_sem]
  | 6, hu => simp [parC] at hu; subst hu; simp [Addr.add, go_sem]
  | j + 7, hu => simp [parC] at hu
theorem ownL_new (w : World) (y : Prf × Value) (T : TypeId) : ∀ (j : Nat) u, (prfC y)[j]? = some u → (w.alloc (.cells #[.string y.1.name, .int .i64 y.1.size, y.2] T)).cell? ((⟨w.heap.size, 0, none⟩ : Addr).add j) = some u := by
  intro j u hu
  match j, hu with
  | 0, hu => simp [prfC] at hu; subst hu; simp [Addr.add, go_sem]
  | 1, hu => simp [prfC] at hu; subst hu; simp [Addr.add, go_sem]
  | 2, hu => simp [prfC] at hu; subst hu; simp [Addr.add, go_sem]
  | j + 3, hu => simp [prfC] at hu
end Go.Proofs.YtppbagllhmeenaaGreatDoor
