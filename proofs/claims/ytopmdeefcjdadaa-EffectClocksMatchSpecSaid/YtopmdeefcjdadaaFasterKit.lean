/- What Faster and Stop share. (printed by wip/gen/gen_faster.py) -/
import Derived.Test.YtopmdeefcjdadaaDelete
import Derived.Test.YtopmdeefcjdadaaCopied
import Derived.Test.YtopmdeefcjdadaaClock
namespace Go.Proofs.Ytopmdeefcjdadaa
open Go.RowKit
set_option linter.unusedVariables false
set_option linter.unusedSimpArgs false

/-- the zero running effect -/
def zRun : Run := ⟨⟨0, 0, 0, 0, 0, 0, false, false, []⟩, [], 0, [], 0, 0, 0⟩
/-- the slices of a running effect, in rows of the call's own from block B on -/
def RunNew (B : Nat) (W : World) (x : Run) (sv kv rv : Value) : Prop := W.ownsRow B 108 3 sv x.ef.steps.length (stCells x.ef.steps) ∧ W.ownsRow B 47 2 kv x.keys.length (kCells x.keys) ∧ W.ownsRow B 67 2 rv x.rates.length (rCells x.rates)
theorem RunNew.at {B : Nat} {W : World} {x : Run} {sv kv rv : Value} (h : RunNew B W x sv kv rv) : RunAt W.heap.size W x sv kv rv := ⟨steps_of_own h.1, CellsS.of_own h.2.1, CellsS.of_own h.2.2⟩
theorem zRun_new (B : Nat) (W : World) : RunNew B W zRun (.slice none 0 0) (.slice none 0 0) (.slice none 0 0) := ⟨World.ownsRow_nil _ _ _ _, World.ownsRow_nil _ _ _ _, World.ownsRow_nil _ _ _ _⟩
/-- a running effect and a fault as results -/
def RunRes (w : World) (E : Int) (y : Run) (e : Ending) (w' : World) : Prop :=
  ∃ sv kv rv, e = .returned (.tuple #[runV y sv kv rv, .int .i64 E]) ∧ RunNew w.heap.size w' y sv kv rv ∧ Below w.heap.size w w'
def Typed (W : World) (g : Nat) (T : TypeId) : Prop := ∃ cur, W.heap[g]? = some (.cells cur T (0, 0))
theorem typed_new (W : World) (cs : Array Value) (T : TypeId) : Typed (W.alloc (.cells cs T)) W.heap.size T := ⟨cs, heap_alloc_new W _⟩
theorem Typed.keep {W W' : World} {g : Nat} {T : TypeId} (h : Typed W g T) (e : W'.heap[g]? = W.heap[g]?) : Typed W' g T := by
  obtain ⟨c, hc⟩ := h
  exact ⟨c, e.trans hc⟩
theorem Typed.set {W : World} {g : Nat} {T : TypeId} (h : Typed W g T) (k i : Nat) (u : Value) : Typed (W.setCell ⟨k, i, none⟩ u) g T := by
  obtain ⟨c, hc⟩ := h
  by_cases e : g = k
  · subst e
    exact ⟨_, heap_setCell_same W g i c T u hc⟩
  · exact ⟨c, (heap_setCell_other W ⟨k, i, none⟩ g u e).trans hc⟩
theorem Typed.lt {W : World} {g : Nat} {T : TypeId} (h : Typed W g T) : g < W.heap.size := by
  obtain ⟨c, hc⟩ := h
  exact (Array.getElem?_eq_some_iff.1 hc).1
theorem own_not {W : World} {B m n g : Nat} {T T' : TypeId} {v : Value} {xs : List Value} (h : W.ownsRow B T m v n xs) (ht : Typed W g T') (hne : T ≠ T') : some g ≠ v.ownBlock := by
  obtain ⟨c, hc⟩ := ht
  rcases h.2 with ⟨rfl, _⟩ | ⟨k, cap, cur, rfl, _, hk, _⟩
  · intro e; cases e
  · intro e
    simp only [Value.ownBlock] at e
    obtain rfl := Option.some.inj e
    rw [hc] at hk
    injection hk with hk
    injection hk with _ hk
    exact hne hk.symm
theorem own_low {W : World} {B m n g : Nat} {T : TypeId} {v : Value} {xs : List Value} (h : W.ownsRow B T m v n xs) (hg : g < B) : some g ≠ v.ownBlock := by
  rcases h.2 with ⟨rfl, _⟩ | ⟨k, cap, cur, rfl, hk, _⟩
  · intro e; cases e
  · intro e
    simp only [Value.ownBlock] at e
    obtain rfl := Option.some.inj e
    omega
/-- an own row beside one of another type that grows -/
theorem own_beside {W W' : World} {B B' m m' n n' : Nat} {T T' : TypeId} {v v' : Value} {xs xs' : List Value} (h : W.ownsRow B T m v n xs) (h' : W.ownsRow B' T' m' v' n' xs') (hne : T' ≠ T) (hg : W.grownBy W' v'.ownBlock) : W'.ownsRow B T m v n xs := by
  refine ⟨h.1, ?_⟩
  rcases h.2 with hn | ⟨k, cap, cur, rfl, h1, h2, rest⟩
  · exact .inl hn
  · exact .inr ⟨k, cap, cur, rfl, h1, (hg.block k (Array.getElem?_eq_some_iff.1 h2).1 (own_not h' ⟨cur, h2⟩ hne)).trans h2, rest⟩
theorem box15_keep {W W' : World} {g : Nat} {c0 c1 c2 c3 c4 c5 c6 c7 c8 c9 c10 c11 c12 c13 c14 : Value} (hb : Box15 W g c0 c1 c2 c3 c4 c5 c6 c7 c8 c9 c10 c11 c12 c13 c14) (e : W'.heap[g]? = W.heap[g]?) : Box15 W' g c0 c1 c2 c3 c4 c5 c6 c7 c8 c9 c10 c11 c12 c13 c14 :=
  ⟨(World.cell?_of_block (a := ⟨g, 0, none⟩) e).trans hb.c0, (World.cell?_of_block (a := ⟨g, 1, none⟩) e).trans hb.c1, (World.cell?_of_block (a := ⟨g, 2, none⟩) e).trans hb.c2, (World.cell?_of_block (a := ⟨g, 3, none⟩) e).trans hb.c3, (World.cell?_of_block (a := ⟨g, 4, none⟩) e).trans hb.c4, (World.cell?_of_block (a := ⟨g, 5, none⟩) e).trans hb.c5, (World.cell?_of_block (a := ⟨g, 6, none⟩) e).trans hb.c6, (World.cell?_of_block (a := ⟨g, 7, none⟩) e).trans hb.c7, (World.cell?_of_block (a := ⟨g, 8, none⟩) e).trans hb.c8, (World.cell?_of_block (a := ⟨g, 9, none⟩) e).trans hb.c9, (World.cell?_of_block (a := ⟨g, 10, none⟩) e).trans hb.c10, (World.cell?_of_block (a := ⟨g, 11, none⟩) e).trans hb.c11, (World.cell?_of_block (a := ⟨g, 12, none⟩) e).trans hb.c12, (World.cell?_of_block (a := ⟨g, 13, none⟩) e).trans hb.c13, (World.cell?_of_block (a := ⟨g, 14, none⟩) e).trans hb.c14, (World.frozen?_of_block (a := ⟨g, 0, none⟩) e).trans hb.f0, (World.frozen?_of_block (a := ⟨g, 1, none⟩) e).trans hb.f1, (World.frozen?_of_block (a := ⟨g, 2, none⟩) e).trans hb.f2, (World.frozen?_of_block (a := ⟨g, 3, none⟩) e).trans hb.f3, (World.frozen?_of_block (a := ⟨g, 4, none⟩) e).trans hb.f4, (World.frozen?_of_block (a := ⟨g, 5, none⟩) e).trans hb.f5, (World.frozen?_of_block (a := ⟨g, 6, none⟩) e).trans hb.f6, (World.frozen?_of_block (a := ⟨g, 7, none⟩) e).trans hb.f7, (World.frozen?_of_block (a := ⟨g, 8, none⟩) e).trans hb.f8, (World.frozen?_of_block (a := ⟨g, 9, none⟩) e).trans hb.f9, (World.frozen?_of_block (a := ⟨g, 10, none⟩) e).trans hb.f10, (World.frozen?_of_block (a := ⟨g, 11, none⟩) e).trans hb.f11, (World.frozen?_of_block (a := ⟨g, 12, none⟩) e).trans hb.f12, (World.frozen?_of_block (a := ⟨g, 13, none⟩) e).trans hb.f13, (World.frozen?_of_block (a := ⟨g, 14, none⟩) e).trans hb.f14⟩
theorem box15_put11 {W : World} {g : Nat} {c0 c1 c2 c3 c4 c5 c6 c7 c8 c9 c10 c11 c12 c13 c14 u : Value} (h : Box15 W g c0 c1 c2 c3 c4 c5 c6 c7 c8 c9 c10 c11 c12 c13 c14) : Box15 (W.setCell ⟨g, 11, none⟩ u) g c0 c1 c2 c3 c4 c5 c6 c7 c8 c9 c10 u c12 c13 c14 := by
  obtain ⟨a0, a1, a2, a3, a4, a5, a6, a7, a8, a9, a10, a11, a12, a13, a14, b0, b1, b2, b3, b4, b5, b6, b7, b8, b9, b10, b11, b12, b13, b14⟩ := h
  exact ⟨by simp [go_sem, a0, a1, a2, a3, a4, a5, a6, a7, a8, a9, a10, a11, a12, a13, a14], by simp [go_sem, a0, a1, a2, a3, a4, a5, a6, a7, a8, a9, a10, a11, a12, a13, a14], by simp [go_sem, a0, a1, a2, a3, a4, a5, a6, a7, a8, a9, a10, a11, a12, a13, a14], by simp [go_sem, a0, a1, a2, a3, a4, a5, a6, a7, a8, a9, a10, a11, a12, a13, a14], by simp [go_sem, a0, a1, a2, a3, a4, a5, a6, a7, a8, a9, a10, a11, a12, a13, a14], by simp [go_sem, a0, a1, a2, a3, a4, a5, a6, a7, a8, a9, a10, a11, a12, a13, a14], by simp [go_sem, a0, a1, a2, a3, a4, a5, a6, a7, a8, a9, a10, a11, a12, a13, a14], by simp [go_sem, a0, a1, a2, a3, a4, a5, a6, a7, a8, a9, a10, a11, a12, a13, a14], by simp [go_sem, a0, a1, a2, a3, a4, a5, a6, a7, a8, a9, a10, a11, a12, a13, a14], by simp [go_sem, a0, a1, a2, a3, a4, a5, a6, a7, a8, a9, a10, a11, a12, a13, a14], by simp [go_sem, a0, a1, a2, a3, a4, a5, a6, a7, a8, a9, a10, a11, a12, a13, a14], by simp [go_sem, a0, a1, a2, a3, a4, a5, a6, a7, a8, a9, a10, a11, a12, a13, a14], by simp [go_sem, a0, a1, a2, a3, a4, a5, a6, a7, a8, a9, a10, a11, a12, a13, a14], by simp [go_sem, a0, a1, a2, a3, a4, a5, a6, a7, a8, a9, a10, a11, a12, a13, a14], by simp [go_sem, a0, a1, a2, a3, a4, a5, a6, a7, a8, a9, a10, a11, a12, a13, a14], by simp [go_sem, b0, b1, b2, b3, b4, b5, b6, b7, b8, b9, b10, b11, b12, b13, b14], by simp [go_sem, b0, b1, b2, b3, b4, b5, b6, b7, b8, b9, b10, b11, b12, b13, b14], by simp [go_sem, b0, b1, b2, b3, b4, b5, b6, b7, b8, b9, b10, b11, b12, b13, b14], by simp [go_sem, b0, b1, b2, b3, b4, b5, b6, b7, b8, b9, b10, b11, b12, b13, b14], by simp [go_sem, b0, b1, b2, b3, b4, b5, b6, b7, b8, b9, b10, b11, b12, b13, b14], by simp [go_sem, b0, b1, b2, b3, b4, b5, b6, b7, b8, b9, b10, b11, b12, b13, b14], by simp [go_sem, b0, b1, b2, b3, b4, b5, b6, b7, b8, b9, b10, b11, b12, b13, b14], by simp [go_sem, b0, b1, b2, b3, b4, b5, b6, b7, b8, b9, b10, b11, b12, b13, b14], by simp [go_sem, b0, b1, b2, b3, b4, b5, b6, b7, b8, b9, b10, b11, b12, b13, b14], by simp [go_sem, b0, b1, b2, b3, b4, b5, b6, b7, b8, b9, b10, b11, b12, b13, b14], by simp [go_sem, b0, b1, b2, b3, b4, b5, b6, b7, b8, b9, b10, b11, b12, b13, b14], by simp [go_sem, b0, b1, b2, b3, b4, b5, b6, b7, b8, b9, b10, b11, b12, b13, b14], by simp [go_sem, b0, b1, b2, b3, b4, b5, b6, b7, b8, b9, b10, b11, b12, b13, b14], by simp [go_sem, b0, b1, b2, b3, b4, b5, b6, b7, b8, b9, b10, b11, b12, b13, b14], by simp [go_sem, b0, b1, b2, b3, b4, b5, b6, b7, b8, b9, b10, b11, b12, b13, b14]⟩
theorem box15_put1314 {W : World} {g : Nat} {c0 c1 c2 c3 c4 c5 c6 c7 c8 c9 c10 c11 c12 c13 c14 u13 u14 : Value} (h : Box15 W g c0 c1 c2 c3 c4 c5 c6 c7 c8 c9 c10 c11 c12 c13 c14) : Box15 ((W.setCell ⟨g, 13, none⟩ u13).setCell ⟨g, 14, none⟩ u14) g c0 c1 c2 c3 c4 c5 c6 c7 c8 c9 c10 c11 c12 u13 u14 := by
  obtain ⟨a0, a1, a2, a3, a4, a5, a6, a7, a8, a9, a10, a11, a12, a13, a14, b0, b1, b2, b3, b4, b5, b6, b7, b8, b9, b10, b11, b12, b13, b14⟩ := h
  exact ⟨by simp [go_sem, a0, a1, a2, a3, a4, a5, a6, a7, a8, a9, a10, a11, a12, a13, a14], by simp [go_sem, a0, a1, a2, a3, a4, a5, a6, a7, a8, a9, a10, a11, a12, a13, a14], by simp [go_sem, a0, a1, a2, a3, a4, a5, a6, a7, a8, a9, a10, a11, a12, a13, a14], by simp [go_sem, a0, a1, a2, a3, a4, a5, a6, a7, a8, a9, a10, a11, a12, a13, a14], by simp [go_sem, a0, a1, a2, a3, a4, a5, a6, a7, a8, a9, a10, a11, a12, a13, a14], by simp [go_sem, a0, a1, a2, a3, a4, a5, a6, a7, a8, a9, a10, a11, a12, a13, a14], by simp [go_sem, a0, a1, a2, a3, a4, a5, a6, a7, a8, a9, a10, a11, a12, a13, a14], by simp [go_sem, a0, a1, a2, a3, a4, a5, a6, a7, a8, a9, a10, a11, a12, a13, a14], by simp [go_sem, a0, a1, a2, a3, a4, a5, a6, a7, a8, a9, a10, a11, a12, a13, a14], by simp [go_sem, a0, a1, a2, a3, a4, a5, a6, a7, a8, a9, a10, a11, a12, a13, a14], by simp [go_sem, a0, a1, a2, a3, a4, a5, a6, a7, a8, a9, a10, a11, a12, a13, a14], by simp [go_sem, a0, a1, a2, a3, a4, a5, a6, a7, a8, a9, a10, a11, a12, a13, a14], by simp [go_sem, a0, a1, a2, a3, a4, a5, a6, a7, a8, a9, a10, a11, a12, a13, a14], by simp [go_sem, a0, a1, a2, a3, a4, a5, a6, a7, a8, a9, a10, a11, a12, a13, a14], by simp [go_sem, a0, a1, a2, a3, a4, a5, a6, a7, a8, a9, a10, a11, a12, a13, a14], by simp [go_sem, b0, b1, b2, b3, b4, b5, b6, b7, b8, b9, b10, b11, b12, b13, b14], by simp [go_sem, b0, b1, b2, b3, b4, b5, b6, b7, b8, b9, b10, b11, b12, b13, b14], by simp [go_sem, b0, b1, b2, b3, b4, b5, b6, b7, b8, b9, b10, b11, b12, b13, b14], by simp [go_sem, b0, b1, b2, b3, b4, b5, b6, b7, b8, b9, b10, b11, b12, b13, b14], by simp [go_sem, b0, b1, b2, b3, b4, b5, b6, b7, b8, b9, b10, b11, b12, b13, b14], by simp [go_sem, b0, b1, b2, b3, b4, b5, b6, b7, b8, b9, b10, b11, b12, b13, b14], by simp [go_sem, b0, b1, b2, b3, b4, b5, b6, b7, b8, b9, b10, b11, b12, b13, b14], by simp [go_sem, b0, b1, b2, b3, b4, b5, b6, b7, b8, b9, b10, b11, b12, b13, b14], by simp [go_sem, b0, b1, b2, b3, b4, b5, b6, b7, b8, b9, b10, b11, b12, b13, b14], by simp [go_sem, b0, b1, b2, b3, b4, b5, b6, b7, b8, b9, b10, b11, b12, b13, b14], by simp [go_sem, b0, b1, b2, b3, b4, b5, b6, b7, b8, b9, b10, b11, b12, b13, b14], by simp [go_sem, b0, b1, b2, b3, b4, b5, b6, b7, b8, b9, b10, b11, b12, b13, b14], by simp [go_sem, b0, b1, b2, b3, b4, b5, b6, b7, b8, b9, b10, b11, b12, b13, b14], by simp [go_sem, b0, b1, b2, b3, b4, b5, b6, b7, b8, b9, b10, b11, b12, b13, b14], by simp [go_sem, b0, b1, b2, b3, b4, b5, b6, b7, b8, b9, b10, b11, b12, b13, b14]⟩
def fastF (x : Run) (t p : Int) : Int := fi3 (chkRun x) (whenW (!inR t 0 36000000) 1) (whenW (!inR p 0 1000 || decide (t < x.start)) 1)
def fastE (x : Run) (t p : Int) : Int := if fastF x t p ≠ 0 then fastF x t p else if 50 < (fasterR x.rates t p).length then 2 else 0
def fastR (x : Run) (t p : Int) : Run := if fastE x t p = 0 then ⟨x.ef, x.keys, x.start, fasterR x.rates t p, x.tin, x.tend, x.tout⟩ else zRun
/-- what is known of a running effect without a fault -/
theorem chkRun_zero {x : Run} (h : chkRun x = 0) : chkEf x.ef = 0 ∧ 0 < x.keys.length ∧ x.keys.length ≤ 400 ∧ x.keys.Nodup ∧ inR x.start 0 36000000 = true ∧ bad1 x.start x.tin x.tend x.tout = false ∧ (decide (x.tend = -1) && decide (x.tout ≠ 0)) = false ∧ x.rates.length ≤ 50 ∧ RatesOk x.start x.rates := by
  unfold chkRun at h
  by_cases h1 : chkKy (chkEf x.ef) x.keys = 0
  · rw [if_neg (by simpa using h1)] at h
    by_cases h2 : x.keys.Nodup
    · rw [if_neg (by simpa using h2)] at h
      unfold chkTm at h
      cases h3 : bad1 x.start x.tin x.tend x.tout
      · rw [h3] at h
        simp only [Bool.false_eq_true, if_false] at h
        cases h4 : (decide (x.tend = -1) && decide (x.tout ≠ 0))
        · rw [h4] at h
          simp only [Bool.false_eq_true, if_false] at h
          by_cases h5 : 50 < x.rates.length
          · rw [if_pos h5] at h; omega
          · rw [if_neg h5] at h
            have hs : inR x.start 0 36000000 = true := by
              cases hc : inR x.start 0 36000000
              · simp [bad1, hc] at h3
              · rfl
            have hk : chkEf x.ef = 0 ∧ 0 < x.keys.length ∧ x.keys.length ≤ 400 := by
              unfold chkKy fi3 fi2 whenW at h1
              by_cases c : x.keys.length = 0
              · simp [c] at h1
                split at h1 <;> simp_all
              · by_cases d : 400 < x.keys.length
                · simp [c, d] at h1
                  split at h1 <;> simp_all
                · simp [c, d] at h1
                  exact ⟨by first | exact h1 | exact Classical.byContradiction fun hh => hh (h1 hh), by omega, by omega⟩
            exact ⟨hk.1, hk.2.1, hk.2.2, h2, hs, rfl, rfl, by omega, (ratesOk_iff _ _).1 h⟩
        · rw [h4] at h; simp at h
      · rw [h3] at h; simp at h
    · rw [if_pos h2] at h; omega
  · rw [if_pos h1] at h; exact absurd h h1
theorem chkB_long {fb f4 f7 w0 c0 lb hb hl cb wb sb st cy : Bool} (h : chkB fb f4 f7 w0 c0 false lb hb hl cb wb sb true st cy = 0) : False := by
  unfold chkB at h
  cases f7
  · cases fb <;> simp at h
  · simp only [Bool.not_true, Bool.false_and, Bool.false_eq_true, if_false, if_true, Bool.or_false] at h
    repeat' split at h
    all_goals omega
theorem chkEf_steps {e : Eff} (h : chkEf e = 0) : e.steps.length ≤ 50 := by
  rcases Nat.lt_or_ge 50 e.steps.length with hl | hl
  · unfold chkEf chkF at h
    rw [show (e.steps.length == 0) = false from beq_eq_false_iff_ne.2 (by omega), show decide (50 < e.steps.length) = true by simpa using hl] at h
    exact (chkB_long h).elim
  · exact hl
theorem fi3_zero {a b c : Int} (h : fi3 a b c = 0) : a = 0 ∧ b = 0 ∧ c = 0 := by
  unfold fi3 fi2 at h
  split at h
  · split at h
    · exact ⟨by assumption, by assumption, h⟩
    · exact absurd h (by assumption)
  · exact absurd h (by assumption)
theorem whenW_zero {b : Bool} (h : whenW b 1 = 0) : b = false := by
  cases b
  · rfl
  · simp [whenW] at h
/-- the state of Faster: its copy lies in block g, its result in block 'size + 2', its time in block 'size + 1' -/
structure FS (w W : World) (form low high cycle width spread : Int) (back rel : Bool) (start tin tend tout : Int) (t : Int) (g : Nat) (vs vk u v : Value) (ls : List Stp) (lk : List (Int × ByteArray)) (lr : List (Int × Int)) : Prop where
  box : Box15 W g (.int .i64 form) (.int .i64 low) (.int .i64 high) (.int .i64 cycle) (.int .i64 width) (.int .i64 spread) (.bool back) (.bool rel) (vs) (vk) (.int .i64 start) (u) (.int .i64 tin) (.int .i64 tend) (.int .i64 tout)
  ty : Typed W g 28
  st : W.ownsRow (w.heap.size + 1 + 1 + 1) 108 3 vs ls.length (stCells ls)
  ke : W.ownsRow (w.heap.size + 1 + 1 + 1) 47 2 vk lk.length (kCells lk)
  ra : W.ownsRow (w.heap.size + 1 + 1 + 1) 67 2 v lr.length (rCells lr)
  res : Box15 W (w.heap.size + 1 + 1) (.int .i64 0) (.int .i64 0) (.int .i64 0) (.int .i64 0) (.int .i64 0) (.int .i64 0) (.bool false) (.bool false) (.slice none 0 0) (.slice none 0 0) (.int .i64 0) (.slice none 0 0) (.int .i64 0) (.int .i64 0) (.int .i64 0)
  tm : W.cell? ⟨w.heap.size + 1, 0, none⟩ = some (.int .i64 t)
  bl : Below w.heap.size w W
  lo : (w.heap.size + 1 + 1 + 1) ≤ g
  sz : (w.heap.size + 1 + 1 + 1) ≤ W.heap.size
theorem FS.grow {w W W' : World} {form low high cycle width spread : Int} {back rel : Bool} {start tin tend tout t : Int} {g : Nat} {vs vk u v v' : Value} {ls : List Stp} {lk : List (Int × ByteArray)} {lr lr' : List (Int × Int)} (h : FS w W form low high cycle width spread back rel start tin tend tout t g vs vk u v ls lk lr) (hg : W.grownBy W' v.ownBlock) (hr : W'.ownsRow (w.heap.size + 1 + 1 + 1) 67 2 v' lr'.length (rCells lr')) :
    FS w W' form low high cycle width spread back rel start tin tend tout t g vs vk u v' ls lk lr' := by
  have e1 := hg.block g h.ty.lt (own_not h.ra h.ty (by decide))
  have e2 := hg.block (w.heap.size + 1 + 1) (by have := h.sz; omega) (own_low h.ra (by omega))
  have e3 := hg.block (w.heap.size + 1) (by have := h.sz; omega) (own_low h.ra (by omega))
  refine ⟨box15_keep h.box e1, h.ty.keep e1, own_beside h.st h.ra (by decide) hg, own_beside h.ke h.ra (by decide) hg, hr, box15_keep h.res e2, (World.cell?_of_block (a := ⟨w.heap.size + 1, 0, none⟩) e3).trans h.tm, ?_, h.lo, Nat.le_trans h.sz hg.size⟩
  exact ⟨hg.os.trans h.bl.os, hg.tape.trans h.bl.tape, hg.output.trans h.bl.output, Nat.le_trans h.bl.size hg.size, fun k hk => (hg.block k (Nat.lt_of_lt_of_le hk h.bl.size) (own_low h.ra (by omega))).trans (h.bl.block k hk)⟩
theorem FS.put {w W : World} {form low high cycle width spread : Int} {back rel : Bool} {start tin tend tout t : Int} {g : Nat} {vs vk u v : Value} {ls : List Stp} {lk : List (Int × ByteArray)} {lr : List (Int × Int)} (h : FS w W form low high cycle width spread back rel start tin tend tout t g vs vk u v ls lk lr) :
    FS w (W.setCell ⟨g, 11, none⟩ v) form low high cycle width spread back rel start tin tend tout t g vs vk v v ls lk lr := by
  have hne : ∀ {T : TypeId} {m n : Nat} {a : Value} {xs : List Value}, T ≠ 28 → W.ownsRow (w.heap.size + 1 + 1 + 1) T m a n xs → (W.setCell ⟨g, 11, none⟩ v).ownsRow (w.heap.size + 1 + 1 + 1) T m a n xs := by
    intro T m n a xs hT ho
    refine ⟨ho.1, ?_⟩
    rcases ho.2 with hn | ⟨k, cap, cur, rfl, h1, h2, rest⟩
    · exact .inl hn
    · refine .inr ⟨k, cap, cur, rfl, h1, (heap_setCell_other W ⟨g, 11, none⟩ k v ?_).trans h2, rest⟩
      intro e
      exact own_not ho h.ty hT (by simp [Value.ownBlock]; exact e.symm)
  refine ⟨box15_put11 h.box, h.ty.set _ _ _, hne (by decide) h.st, hne (by decide) h.ke, hne (by decide) h.ra, h.res.other (by have := h.lo; show g ≠ _; omega), ?_, h.bl.setCell (by have := h.lo; show w.heap.size ≤ g; omega) _, h.lo, by simpa using h.sz⟩
  exact (World.cell?_of_block (a := ⟨w.heap.size + 1, 0, none⟩) (heap_setCell_other W ⟨g, 11, none⟩ (w.heap.size + 1) v (by have := h.lo; show w.heap.size + 1 ≠ g; omega))).trans h.tm
theorem FS.alloc {w W : World} {form low high cycle width spread : Int} {back rel : Bool} {start tin tend tout t : Int} {g : Nat} {vs vk u v : Value} {ls : List Stp} {lk : List (Int × ByteArray)} {lr : List (Int × Int)} (h : FS w W form low high cycle width spread back rel start tin tend tout t g vs vk u v ls lk lr) (o : Obj) :
    FS w (W.alloc o) form low high cycle width spread back rel start tin tend tout t g vs vk u v ls lk lr := by
  have hg : W.grownBy (W.alloc o) v.ownBlock := World.grownBy_alloc _ _ _
  have hb : Below W.heap.size W (W.alloc o) := (Below.refl _ _).alloc (Nat.le_refl _) o
  exact FS.grow h hg (own_below' h.ra hb)
/-- what the copy is as a running effect -/
theorem FS.run {w W : World} {form low high cycle width spread : Int} {back rel : Bool} {start tin tend tout t : Int} {g : Nat} {vs vk u v : Value} {ls : List Stp} {lk : List (Int × ByteArray)} {lr : List (Int × Int)} (h : FS w W form low high cycle width spread back rel start tin tend tout t g vs vk u v ls lk lr) :
    RunAt W.heap.size W ⟨⟨form, low, high, cycle, width, spread, back, rel, ls⟩, lk, start, lr, tin, tend, tout⟩ vs vk v :=
  ⟨steps_of_own h.st, CellsS.of_own h.ke, CellsS.of_own h.ra⟩
/-- and behind the result's cells are written -/
theorem FS.runPut {w W : World} {form low high cycle width spread : Int} {back rel : Bool} {start tin tend tout t : Int} {g : Nat} {vs vk u v : Value} {ls : List Stp} {lk : List (Int × ByteArray)} {lr : List (Int × Int)} {u0 u1 u2 u3 u4 u5 u6 u7 u8 u9 u10 u11 u12 u13 u14 : Value} (h : FS w W form low high cycle width spread back rel start tin tend tout t g vs vk u v ls lk lr) :
    RunNew w.heap.size (set15 W (w.heap.size + 1 + 1) u0 u1 u2 u3 u4 u5 u6 u7 u8 u9 u10 u11 u12 u13 u14) ⟨⟨form, low, high, cycle, width, spread, back, rel, ls⟩, lk, start, lr, tin, tend, tout⟩ vs vk v := by
  have hk : ∀ {T : TypeId} {m n : Nat} {a : Value} {xs : List Value}, W.ownsRow (w.heap.size + 1 + 1 + 1) T m a n xs → (set15 W (w.heap.size + 1 + 1) u0 u1 u2 u3 u4 u5 u6 u7 u8 u9 u10 u11 u12 u13 u14).ownsRow (w.heap.size + 1 + 1 + 1) T m a n xs :=
    fun ho => own_same ho (fun k hk => heap_set15 (by omega))
  exact ⟨own_base' (hk h.st) (by omega), own_base' (hk h.ke) (by omega), own_base' (hk h.ra) (by omega)⟩
theorem one_keys (l : List (Int × ByteArray)) : ∀ u ∈ kCells l, u.oneCell' = true := cells2_one _ _ l (fun _ => rfl) (fun _ => rfl)
theorem one_rates (l : List (Int × Int)) : ∀ u ∈ rCells l, u.oneCell' = true := cells2_one _ _ l (fun _ => rfl) (fun _ => rfl)
theorem one_steps (l : List Stp) : ∀ u ∈ stCells l, u.oneCell' = true := cells3_one _ _ _ l (fun _ => rfl) (fun _ => rfl) (fun _ => rfl)
theorem zRun_at (B : Nat) (W : World) : RunAt B W zRun (.slice none 0 0) (.slice none 0 0) (.slice none 0 0) :=
  ⟨⟨none, 0, rfl, Nat.zero_le _, fun h => absurd rfl h⟩, CellsS.nil _ _, CellsS.nil _ _⟩
end Go.Proofs.Ytopmdeefcjdadaa
