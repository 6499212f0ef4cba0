/- region_heads with a fact on frame and world that every head keeps: two boxes of one region lie apart. For any program. (printed by wip/gen/gen_heads2.py) -/
import Derived.Test.YtopmdeefcjdadaaT28M22
import Derived.Test.YtopmdeefcjdadaaT28M18

namespace Go.Proofs.Ytopmdeefcjdadaa
open Go.RowKit
set_option linter.unusedVariables false
set_option linter.unusedSimpArgs false

section
variable {P : Program} {Q : Exit → Act → World → Prop}
theorem region_headsJ (hm : P.follows .mixedOrders = true) {id : Nat} {a0 : Act} {w0 : World} {l : List Oper} (n : Nat) (hn : n ≤ l.length) (hdag : dagN l.toArray n = true) (hdst : dstN l.toArray n = true)
    (hwait : waitN l n = true) (hseq : Region.seqB .any l.toArray (l.length - n) n (headsL n l.length) = true)
    (J : Act → World → Prop) (φ : Nat → Value → World → Prop) (W : World → Prop) (G : World → World → Prop)
    (hJ0 : J a0 w0.drew)
    (hW0 : W w0.drew)
    (hmono : ∀ j v w w', φ j v w → G w w' → φ j v w')
    (hin : ∀ (j : Nat) (o : Oper) d, j < n → l.toArray[j]? = some o → o.dst = some d → d < a0.tmps.size)
    (hop : ∀ (i : Nat) (o : Oper) (a : Act) (w : World), i < n → l.toArray[i]? = some o → ShapeN l.toArray n a0 a → W w → J a w →
      (∀ e ∈ o.after, Region.binds .any e = true → ∀ (p : Oper) d, l.toArray[e.on]? = some p → p.dst = some d → φ e.on (a.tmps.getD d undef) w) →
      o.wp P a w (fun a' w' => ∃ v, a' = a.put o.dst v ∧ φ i v w' ∧ W w' ∧ G w w' ∧ J a' w') Q)
    (hfin : ∀ a w, ShapeN l.toArray n a0 a → W w → J a w → (∀ (j : Nat) (o : Oper) d, j < n → l.toArray[j]? = some o → o.dst = some d → φ j (a.tmps.getD d undef) w) → wpList P l.toArray Q (l.drop n) a w) :
    (Code.region id l.toArray true).wp P Q a0 w0 := by
  refine wp_region_any hm ?_
  have main : ∀ (m : Nat) (ls : Array Bool) (a : Act) (w : World), HeadInv .any l.toArray n ls → ls.size = l.length → (∀ k, n ≤ k → k < l.length → ls.getD k true = false) → ShapeN l.toArray n a0 a → W w → J a w →
      (∀ (j : Nat) (o : Oper) d, j < n → l.toArray[j]? = some o → ls.getD j false = true → o.dst = some d → φ j (a.tmps.getD d undef) w) → todoN ls n = m → wpAny P .any l.toArray Q (m + (l.length - n)) ls a w := by
    intro m
    induction m with
    | zero =>
      intro ls a w inv hl ht hs hw hJ hφ hz
      have e : ls = headsL n l.length := by
        apply Array.ext'
        unfold headsL
        apply List.ext_getElem
        · simp [hl]; omega
        · intro i h1 h2
          have hi' : i < ls.size := by simpa using h1
          by_cases hi : i < n
          · rw [List.getElem_append_left (by simpa using hi), List.getElem_replicate]
            have := todoN_zero ls n hz i hi
            simpa [Array.getD, hi'] using this
          · rw [List.getElem_append_right (by simp; omega), List.getElem_replicate]
            have := ht i (by omega) (by omega)
            simpa [Array.getD, hi'] using this
      rw [Nat.zero_add]
      have hdl : (l.drop n).length = l.length - n := by simp
      have := wpAny_of_seq (md := .any) (ops := l.toArray) (P := P) (Q' := Q) (l.drop n) n ls a w (fun j => by simp [List.getElem?_drop]) (by rw [hdl, e]; exact hseq) (hfin a w hs hw hJ fun j o d hj ho hd => hφ j o d hj ho (by
        have h1 := todoN_zero ls n hz j hj
        have h3 : j < ls.size := by omega
        simpa [Array.getD, h3] using h1) hd)
      rwa [hdl] at this
    | succ m ih =>
      intro ls a w inv hl ht hs hw hJ hφ hz
      rw [show m + 1 + (l.length - n) = (m + (l.length - n)) + 1 by omega]
      have hun : ∃ i, i < n ∧ ls.getD i true = false := by
        by_cases c : ∃ i, i < n ∧ ls.getD i true = false
        · exact c
        · exfalso
          have h0 : todoN ls n = 0 := by
            unfold todoN
            rw [List.countP_eq_zero]
            intro b hb
            obtain ⟨i, hi, rfl⟩ := List.mem_take_iff_getElem.1 hb
            have hin' : i < n := by omega
            have his : i < ls.size := by simp at hi; omega
            have : ¬ ls.getD i true = false := fun h => c ⟨i, hin', h⟩
            simpa [Array.getD, his] using this
          omega
      refine ⟨fun hr => ?_, fun i hi => ?_⟩
      · exfalso
        -- the least head that is not up is ready
        have key : ∀ k j, j ≤ k → j < n → ls.getD j true = true := by
          intro k
          induction k with
          | zero =>
            intro j hj hjn
            by_cases hf : ls.getD j true = false
            · have hjs : j < l.toArray.size := by simp; omega
              have : j ∈ Region.ready .any l.toArray ls := mem_ready.2 ⟨hf, l.toArray[j], Array.getElem?_eq_getElem hjs, fun e he _ => by
                have := dagN_of hdag hjn (Array.getElem?_eq_getElem hjs) e he; omega⟩
              rw [hr] at this; cases this
            · simpa using hf
          | succ k ihk =>
            intro j hj hjn
            by_cases hf : ls.getD j true = false
            · have hjs : j < l.toArray.size := by simp; omega
              have : j ∈ Region.ready .any l.toArray ls := mem_ready.2 ⟨hf, l.toArray[j], Array.getElem?_eq_getElem hjs, fun e he _ => by
                have h1 := dagN_of hdag hjn (Array.getElem?_eq_getElem hjs) e he
                have h2 := ihk e.on (by omega) (by omega)
                have h3 : e.on < ls.size := by omega
                simpa [Array.getD, h3] using h2⟩
              rw [hr] at this; cases this
            · simpa using hf
        obtain ⟨i, hi, hf⟩ := hun
        rw [key i i (Nat.le_refl _) hi] at hf
        cases hf
      · obtain ⟨hnot, o, ho, hafter⟩ := mem_ready.1 hi
        have hin' : i < n := by
          rcases Nat.lt_or_ge i n with h | h
          · exact h
          · exfalso
            obtain ⟨j, hj, hf⟩ := hun
            have his : i < l.length := by have := (Array.getElem?_eq_some_iff.1 ho).1; simpa using this
            unfold waitN at hwait
            rw [Bool.or_eq_true, decide_eq_true_eq, Bool.and_eq_true] at hwait
            rcases hwait with h1 | ⟨h1, h2⟩
            · omega
            · exact tail_waits h1 h2 (by simp; omega) inv _ j rfl hj hf i h hi
        obtain ⟨hg, d, hd⟩ := dstN_of hdst hin' ho
        unfold wpOp
        simp only [ho]
        rw [if_pos (by simp [Region.wanted, hg])]
        refine .inl (Oper.wp_mono ?_ (hop i o a w hin' ho hs hw hJ fun e he hb p d' hp hd' => hφ e.on p d' (by have := dagN_of hdag hin' ho e he; omega) hp (hafter e he hb) hd'))
        rintro a' w' ⟨v, rfl, hv, hw', hG, hJ'⟩
        have hput : a.put o.dst v = { a with tmps := a.tmps.setIfInBounds d v } := by unfold Act.put; rw [hd]
        rw [hput] at hJ' ⊢
        refine ih _ _ _ (inv.set hi hin') (by simpa using hl) (fun k hk hkl => ?_) ⟨by simpa using hs.1, hs.2.1, fun s hns => ?_⟩ hw' hJ' (fun j p d' hjn hp hlj hd' => ?_) (by have := todoN_set ls n i hin' hnot; omega)
        · have hne : i ≠ k := by omega
          have := ht k hk hkl
          simpa [Array.getD_eq_getD_getElem?, Array.getElem?_setIfInBounds_ne hne] using this
        · have hne : d ≠ s := by rintro rfl; exact hns i o hin' ho hd
          rw [← hs.2.2 s hns]
          simp [Array.getD_eq_getD_getElem?, Array.getElem?_setIfInBounds_ne hne]
        · by_cases hij : j = i
          · subst hij
            rw [ho] at hp
            cases hp
            rw [hd] at hd'
            cases hd'
            have hsz : d < a.tmps.size := by rw [hs.1]; exact hin _ _ _ hin' ho hd
            have : (a.tmps.setIfInBounds d v).getD d undef = v := by simp [Array.getD_eq_getD_getElem?, hsz]
            rw [this]
            exact hv
          · have hne : d ≠ d' := by
              rintro rfl
              exact hij (dstN_inj hdst hjn hin' hp ho (by rw [hd, hd']))
            have : (a.tmps.setIfInBounds d v).getD d' undef = a.tmps.getD d' undef := by simp [Array.getD_eq_getD_getElem?, Array.getElem?_setIfInBounds_ne hne]
            rw [this]
            refine hmono _ _ _ _ (hφ j p d' hjn hp ?_ hd') hG
            have hni : i ≠ j := fun e => hij e.symm
            rw [← hlj]
            simp [Array.getD_eq_getD_getElem?, Array.getElem?_setIfInBounds_ne hni]
  have h0 : todoN (Array.replicate l.length false) n = n := by
    unfold todoN
    rw [Array.toList_replicate, List.take_replicate, List.countP_replicate]
    simp
    omega
  have := main n (Array.replicate l.length false) a0 w0.drew ⟨by simp, fun j oj _ hl => (by
    exfalso
    by_cases hjs : j < l.length
    · simp [Array.getD, hjs] at hl
    · simp [Array.getD, hjs] at hl), fun t _ ht => (by simp at ht; simp [Array.getD, ht])⟩ (by simp) (fun k hk hkl => by simp [Array.getD, hkl]) ⟨rfl, rfl, fun _ _ => rfl⟩ hW0 hJ0 (fun j o d hj ho hlj _ => by
    exfalso
    by_cases hjs : j < l.length
    · simp [Array.getD, hjs] at hlj
    · simp [Array.getD, hjs] at hlj) h0
  rw [show n + (l.length - n) = l.toArray.size by simp; omega] at this
  simpa using this
end
/-- the pointers in two slots are to blocks that are there, and to unlike ones -/
def Two (s1 s2 : Nat) (a : Act) (W : World) : Prop := (∀ b, a.tmps.getD s1 undef = .pointer (some ⟨b, 0, none⟩) → b < W.heap.size ∧ a.tmps.getD s2 undef ≠ .pointer (some ⟨b, 0, none⟩)) ∧ ∀ b, a.tmps.getD s2 undef = .pointer (some ⟨b, 0, none⟩) → b < W.heap.size
theorem put_get {a : Act} {d s : Nat} (v : Value) (h : d ≠ s) : (a.put (some d) v).tmps.getD s undef = a.tmps.getD s undef := by
  unfold Act.put
  simp [Array.getD_eq_getD_getElem?, Array.getElem?_setIfInBounds_ne h]
theorem two_put {s1 s2 d : Nat} {a : Act} {W W' : World} (h : Two s1 s2 a W) (g : Below W.heap.size W W') (v : Value) (h1 : d ≠ s1) (h2 : d ≠ s2) : Two s1 s2 (a.put (some d) v) W' := by
  unfold Two
  rw [put_get v h1, put_get v h2]
  refine ⟨fun b hb => ⟨Nat.lt_of_lt_of_le (h.1 b hb).1 g.size, (h.1 b hb).2⟩, fun b hb => Nat.lt_of_lt_of_le (h.2 b hb) g.size⟩
theorem put_at {a : Act} {d : Nat} (v : Value) : (a.put (some d) v).tmps.getD d undef = v ∨ (a.put (some d) v).tmps.getD d undef = undef := by
  unfold Act.put
  simp only [Array.getD_eq_getD_getElem?]
  by_cases h : d < a.tmps.size
  · left; simp [h]
  · right; simp [h]
theorem undef_ne {b : Nat} : undef ≠ (Value.pointer (some ⟨b, 0, none⟩)) := by
  unfold undef
  intro h
  cases h
theorem two_one {s1 s2 : Nat} {a : Act} {W : World} (h : Two s1 s2 a W) (o : Obj) (hne : s1 ≠ s2) : Two s1 s2 (a.put (some s1) (.pointer (some ⟨W.heap.size, 0, none⟩))) (W.alloc o) := by
  unfold Two
  rw [put_get (d := s1) (s := s2) _ hne]
  refine ⟨fun b hb => ?_, fun b hb => by have := h.2 b hb; simp; omega⟩
  rcases put_at (a := a) (d := s1) (.pointer (some ⟨W.heap.size, 0, none⟩)) with e | e
  · rw [e] at hb
    injection hb with hb
    injection hb with hb
    injection hb with hb
    subst hb
    refine ⟨by simp, fun k => ?_⟩
    have := h.2 _ k
    omega
  · rw [e] at hb
    exact absurd hb undef_ne
theorem two_two {s1 s2 : Nat} {a : Act} {W : World} (h : Two s1 s2 a W) (o : Obj) (hne : s1 ≠ s2) : Two s1 s2 (a.put (some s2) (.pointer (some ⟨W.heap.size, 0, none⟩))) (W.alloc o) := by
  unfold Two
  rw [put_get (d := s2) (s := s1) _ (Ne.symm hne)]
  refine ⟨fun b hb => ⟨by have := (h.1 b hb).1; simp; omega, fun k => ?_⟩, fun b hb => ?_⟩
  · rcases put_at (a := a) (d := s2) (.pointer (some ⟨W.heap.size, 0, none⟩)) with e | e
    · rw [e] at k
      injection k with k
      injection k with k
      injection k with k
      have := (h.1 b hb).1
      omega
    · rw [e] at k
      exact absurd k undef_ne
  · rcases put_at (a := a) (d := s2) (.pointer (some ⟨W.heap.size, 0, none⟩)) with e | e
    · rw [e] at hb
      injection hb with hb
      injection hb with hb
      injection hb with hb
      subst hb
      simp
    · rw [e] at hb
      exact absurd hb undef_ne
end Go.Proofs.Ytopmdeefcjdadaa
