/- A region that draws its order, by an invariant: of each operation that has come up something is known of its slot, whatever came up besides. For any program. -/
import Derived.Test.YtopmdeefcjdadaaProg
import Derived.RegionTactic
import Derived.WalkKit

namespace Go.Proofs.Ytopmdeefcjdadaa
open Go.RowKit
set_option linter.unusedVariables false
set_option linter.unusedSimpArgs false

section
variable {P : Program} {ops : Array Oper} {Q : Exit → Act → World → Prop} {md : Region.Mode}

def todo (l : Array Bool) : Nat := l.toList.countP (fun b => !b)
theorem getD_false {l : Array Bool} {i : Nat} (h : l.getD i true = false) : ∃ hi : i < l.size, l[i] = false := by
  by_cases hi : i < l.size
  · refine ⟨hi, ?_⟩
    simpa [Array.getD, hi] using h
  · simp [Array.getD, hi] at h
theorem todo_set (l : Array Bool) (i : Nat) (h : l.getD i true = false) : todo (l.setIfInBounds i true) + 1 = todo l := by
  obtain ⟨hi, hf⟩ := getD_false h
  unfold todo
  rw [Array.toList_setIfInBounds, List.countP_set (by simpa using hi)]
  have h1 : l.toList[i]'(by simpa using hi) = false := by simpa using hf
  have h2 : 0 < l.toList.countP (fun b => !b) := List.countP_pos_iff.2 ⟨false, by rw [← h1]; exact List.getElem_mem _, rfl⟩
  rw [h1]
  simp only [Bool.not_false, Bool.not_true, if_true, Bool.false_eq_true, if_false]
  omega
theorem todo_zero (l : Array Bool) (h : todo l = 0) (i : Nat) : l.getD i true = true := by
  by_cases hf : l.getD i true = false
  · have := todo_set l i hf; omega
  · simpa using hf

theorem any_inv (Inv : Array Bool → Act → World → Prop)
    (hstep : ∀ l a w i, Inv l a w → i ∈ Region.ready md ops l → wpOp P ops Q i (fun a' w' => Inv (l.setIfInBounds i true) a' w') a w)
    (hfin : ∀ l a w, Inv l a w → Region.ready md ops l = [] → Q .normal a w) :
    ∀ (fuel : Nat) (l : Array Bool) (a : Act) (w : World), Inv l a w → todo l ≤ fuel → wpAny P md ops Q fuel l a w := by
  intro fuel
  induction fuel with
  | zero =>
    intro l a w h ht
    have hr : Region.ready md ops l = [] := by
      cases hr : Region.ready md ops l with
      | nil => rfl
      | cons i r =>
        have hi : i ∈ Region.ready md ops l := by rw [hr]; simp
        have h1 := (mem_ready.1 hi).1
        rw [todo_zero l (by omega) i] at h1
        cases h1
    exact ⟨hr, hfin l a w h hr⟩
  | succ fuel ih =>
    intro l a w h ht
    refine ⟨hfin l a w h, fun i hi => ?_⟩
    have h1 := todo_set l i (mem_ready.1 hi).1
    exact wpOp_mono (fun a' w' h' => ih _ a' w' h' (by omega)) (hstep l a w i h hi)

/-- each operation waits for earlier ones alone -/
def dagB (ops : Array Oper) : Bool := (List.range ops.size).all fun j => ((ops[j]?).map fun o => o.after.toList.all fun e => decide (e.on < j)).getD true
/-- no guard; each writes a slot; no two the same -/
def dstB (ops : Array Oper) : Bool := (ops.toList.all fun o => o.guard.isNone && o.dst.isSome) && decide (ops.toList.map (·.dst)).Nodup

theorem dag_of (h : dagB ops = true) {j : Nat} {o : Oper} (ho : ops[j]? = some o) : ∀ e ∈ o.after, e.on < j := by
  have hj : j < ops.size := (Array.getElem?_eq_some_iff.1 ho).1
  unfold dagB at h
  rw [List.all_eq_true] at h
  have h1 := h j (List.mem_range.2 hj)
  rw [ho] at h1
  simp only [Option.map_some, Option.getD_some, List.all_eq_true, decide_eq_true_eq] at h1
  intro e he
  exact h1 e (by simpa using he)
theorem dst_of (h : dstB ops = true) {j : Nat} {o : Oper} (ho : ops[j]? = some o) : o.guard = none ∧ ∃ d, o.dst = some d := by
  unfold dstB at h
  rw [Bool.and_eq_true, List.all_eq_true] at h
  have h1 := h.1 o (by
    have := (Array.getElem?_eq_some_iff.1 ho)
    obtain ⟨hj, e⟩ := this
    rw [← e]; simp)
  rw [Bool.and_eq_true] at h1
  exact ⟨Option.isNone_iff_eq_none.1 h1.1, Option.isSome_iff_exists.1 h1.2⟩
theorem dst_inj (h : dstB ops = true) {i j : Nat} {o p : Oper} (ho : ops[i]? = some o) (hp : ops[j]? = some p) (hd : o.dst = p.dst) : i = j := by
  unfold dstB at h
  rw [Bool.and_eq_true] at h
  have hn := of_decide_eq_true h.2
  obtain ⟨hi, ei⟩ := Array.getElem?_eq_some_iff.1 ho
  obtain ⟨hj, ej⟩ := Array.getElem?_eq_some_iff.1 hp
  have hi' : i < (ops.toList.map (·.dst)).length := by simpa using hi
  have hj' : j < (ops.toList.map (·.dst)).length := by simpa using hj
  refine (List.getElem_inj (h₀ := hi') (h₁ := hj') hn).1 ?_
  simp [ei, ej, hd]

/-- the frame but for the region's own slots -/
def ShapeF (ops : Array Oper) (a0 a : Act) : Prop := a.tmps.size = a0.tmps.size ∧ a.defers = a0.defers ∧ ∀ s, (∀ (j : Nat) (o : Oper), ops[j]? = some o → o.dst ≠ some s) → a.tmps.getD s undef = a0.tmps.getD s undef

theorem region_phi (hm : P.follows .mixedOrders = true) {id : Nat} {a0 : Act} {w0 : World} (hdag : dagB ops = true) (hdst : dstB ops = true)
    (φ : Nat → Value → World → Prop) (W : World → Prop) (G : World → World → Prop)
    (hW0 : W { w0 with drawn := w0.drawn + 1 })
    (hmono : ∀ j v w w', φ j v w → G w w' → φ j v w')
    (hin : ∀ (j : Nat) (o : Oper) d, ops[j]? = some o → o.dst = some d → d < a0.tmps.size)
    (hop : ∀ (i : Nat) (o : Oper) (a : Act) (w : World), ops[i]? = some o → ShapeF ops a0 a → W w →
      (∀ e ∈ o.after, Region.binds .any e = true → ∀ (p : Oper) d, ops[e.on]? = some p → p.dst = some d → φ e.on (a.tmps.getD d undef) w) →
      o.wp P a w (fun a' w' => ∃ v, a' = a.put o.dst v ∧ φ i v w' ∧ W w' ∧ G w w') Q)
    (hfin : ∀ a w, ShapeF ops a0 a → W w → (∀ (j : Nat) (o : Oper) d, ops[j]? = some o → o.dst = some d → φ j (a.tmps.getD d undef) w) → Q .normal a w) :
    (Code.region id ops true).wp P Q a0 w0 := by
  refine wp_region_any hm ?_
  refine any_inv (fun l a w => l.size = ops.size ∧ ShapeF ops a0 a ∧ W w ∧ ∀ (j : Nat) (o : Oper) d, ops[j]? = some o → l.getD j false = true → o.dst = some d → φ j (a.tmps.getD d undef) w) ?_ ?_ _ _ _ _ ?_ ?_
  · rintro l a w i ⟨hl, hs, hw, hφ⟩ hi
    obtain ⟨hnot, o, ho, hafter⟩ := mem_ready.1 hi
    obtain ⟨hg, d, hd⟩ := dst_of hdst ho
    unfold wpOp
    simp only [ho]
    rw [if_pos (by simp [Region.wanted, hg])]
    refine .inl (Oper.wp_mono ?_ (hop i o a w ho hs hw fun e he hb p d' hp hd' => hφ e.on p d' hp (hafter e he hb) hd'))
    rintro a' w' ⟨v, rfl, hv, hw', hG⟩
    have hput : a.put o.dst v = { a with tmps := a.tmps.setIfInBounds d v } := by unfold Act.put; rw [hd]
    rw [hput]
    refine ⟨by simpa using hl, ⟨by simpa using hs.1, hs.2.1, fun s hns => ?_⟩, hw', fun j p d' hp hlj hd' => ?_⟩
    · have hne : d ≠ s := by rintro rfl; exact hns i o ho hd
      rw [← hs.2.2 s hns]
      simp [Array.getD_eq_getD_getElem?, Array.getElem?_setIfInBounds_ne hne]
    · by_cases hij : j = i
      · subst hij
        rw [ho] at hp
        cases hp
        rw [hd] at hd'
        cases hd'
        have hsz : d < a.tmps.size := by rw [hs.1]; exact hin _ _ _ ho hd
        have : (a.tmps.setIfInBounds d v).getD d undef = v := by simp [Array.getD_eq_getD_getElem?, hsz]
        rw [this]
        exact hv
      · have hne : d ≠ d' := by
          rintro rfl
          exact hij (dst_inj hdst hp ho (by rw [hd, hd']))
        have : (a.tmps.setIfInBounds d v).getD d' undef = a.tmps.getD d' undef := by simp [Array.getD_eq_getD_getElem?, Array.getElem?_setIfInBounds_ne hne]
        rw [this]
        refine hmono _ _ _ _ (hφ j p d' hp ?_ hd') hG
        have hni : i ≠ j := fun e => hij e.symm
        rw [← hlj]
        simp [Array.getD_eq_getD_getElem?, Array.getElem?_setIfInBounds_ne hni]
  · rintro l a w ⟨hl, hs, hw, hφ⟩ hr
    refine hfin a w hs hw fun j o d ho hd => hφ j o d ho ?_ hd
    -- all have come up
    have key : ∀ n j, j ≤ n → j < ops.size → l.getD j true = true := by
      intro n
      induction n with
      | zero =>
        intro j hj hjs
        by_cases hf : l.getD j true = false
        · have : j ∈ Region.ready .any ops l := mem_ready.2 ⟨hf, ops[j], Array.getElem?_eq_getElem hjs, fun e he _ => by
            have := dag_of hdag (Array.getElem?_eq_getElem hjs) e he; omega⟩
          rw [hr] at this; cases this
        · simpa using hf
      | succ n ih =>
        intro j hj hjs
        by_cases hf : l.getD j true = false
        · have : j ∈ Region.ready .any ops l := mem_ready.2 ⟨hf, ops[j], Array.getElem?_eq_getElem hjs, fun e he _ => by
            have h1 := dag_of hdag (Array.getElem?_eq_getElem hjs) e he
            have h2 := ih e.on (by omega) (by omega)
            have h3 : e.on < l.size := by omega
            simpa [Array.getD, h3] using h2⟩
          rw [hr] at this; cases this
        · simpa using hf
    have hjs : j < ops.size := (Array.getElem?_eq_some_iff.1 ho).1
    have h1 := key j j (Nat.le_refl _) hjs
    have h3 : j < l.size := by omega
    simpa [Array.getD, h3] using h1
  · refine ⟨by simp, ⟨rfl, rfl, fun _ _ => rfl⟩, hW0, fun j o d ho hlj _ => ?_⟩
    exfalso
    by_cases hjs : j < ops.size
    · simp [Array.getD, hjs] at hlj
    · simp [Array.getD, hjs] at hlj
  · have : todo (Array.replicate ops.size false) = ops.size := by unfold todo; rw [Array.toList_replicate, List.countP_replicate]; rfl
    omega
end
end Go.Proofs.Ytopmdeefcjdadaa
