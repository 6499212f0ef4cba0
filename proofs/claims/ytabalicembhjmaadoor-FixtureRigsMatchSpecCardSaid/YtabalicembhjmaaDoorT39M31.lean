/- fixture.copied: the deep copy of a rig. (printed by wip/gen/gen_copiedrig.py) Units in order of their numbers: where a number stands. No walk in it. (printed by wip/gen/gen_unitfn.py) -/
import Derived.Test.YtabalicembhjmaaDoorT39M30
import Derived.Test.YtabalicembhjmaaDoorT39M19
import Derived.Test.YtabalicembhjmaaDoorT39M24
import Derived.Test.YtabalicembhjmaaDoorT39M17

namespace Go.Proofs.YtabalicembhjmaaDoor
open Go.RowKit
set_option linter.unusedVariables false
set_option linter.unusedSimpArgs false

theorem rowC_of {B : Nat} {w : World} {v : Value} {n : Nat} {xs : List Value} (h : CellsS B w v n xs) : RowC B w v n xs := by
  obtain ⟨ao, cap, rfl, h1, h2, h3⟩ := h
  exact ⟨ao, cap, rfl, h3⟩
theorem rngC_len (l : List Rng) : (l.flatMap rngC).length = l.length * 3 := flat_len rngC 3 (fun _ => rfl) l
theorem one_rngC (l : List Rng) : ∀ u ∈ l.flatMap rngC, u.oneCell' = true := by
  intro u hu
  obtain ⟨y, _, hy⟩ := List.mem_flatMap.1 hu
  simp [rngC] at hy
  rcases hy with rfl | rfl | rfl <;> rfl
theorem one_untC' (l : List Unt) : ∀ u ∈ l.flatMap untC, u.oneCell' = true := by
  intro u hu
  obtain ⟨y, _, hy⟩ := List.mem_flatMap.1 hu
  simp [untC] at hy
  rcases hy with rfl | rfl | rfl | rfl <;> rfl
theorem chkRngs_len {l : List Rng} (h : chkRngs l = 0) : l.length ≤ 30 := by
  unfold chkRngs at h
  by_cases c : 30 < l.length
  · rw [if_pos c] at h; cases h
  · omega
theorem lib_sizes {lib : List Prf} (h : chkLib lib = 0) : lib.length ≤ 60 ∧ ∀ p ∈ lib, p.pars.length ≤ 40 ∧ ∀ q ∈ p.pars, q.rngs.length ≤ 30 := by
  refine ⟨(chkLib_zero h).1, fun p hp => ?_⟩
  obtain ⟨_, _, _, h4, h5⟩ := chkPrf_zero (chkLib_prf h hp)
  refine ⟨h4, fun q hq => ?_⟩
  obtain ⟨k, hk, rfl⟩ := List.getElem_of_mem hq
  obtain ⟨_, _, _, _, _, h6⟩ := parF_zero (scanF_zero _ _ h5 k hk)
  exact chkRngs_len h6
theorem par_take (l : List Par) (k : Nat) (h : k < l.length) : l.take (k + 1) = l.take k ++ [l[k]] := List.take_succ_eq_append_getElem h
theorem prf_take (l : List Prf) (k : Nat) (h : k < l.length) : l.take (k + 1) = l.take k ++ [l[k]] := List.take_succ_eq_append_getElem h
end Go.Proofs.YtabalicembhjmaaDoor

namespace Go.Proofs.YtabalicembhjmaaDoor
open Go.RowKit
set_option linter.unusedVariables false
set_option linter.unusedSimpArgs false

def posU (l : List Unt) (n : Int) : Nat := (l.takeWhile (fun u => decide (u.num < n))).length
def hasU (l : List Unt) (n : Int) : Bool := l.any (fun u => decide (u.num = n))
def isNo (n : Int) (u : Unt) : Bool := decide (u.num = n)
def idxU (l : List Unt) (n : Int) : Int := idxF (isNo n) l 0
def AscU (l : List Unt) : Prop := ∀ i j (hi : i < l.length) (hj : j < l.length), i < j → l[i].num < l[j].num
theorem posU_le (l : List Unt) (n : Int) : posU l n ≤ l.length := List.Sublist.length_le (List.takeWhile_sublist _)
theorem posU_lt (n : Int) : ∀ (l : List Unt) (i : Nat) (h : i < l.length), i < posU l n → l[i].num < n
  | [], i, h, _ => absurd h (by simp)
  | u :: l, i, h, hp => by
    by_cases c : u.num < n
    · have h1 : posU (u :: l) n = posU l n + 1 := by simp [posU, List.takeWhile_cons, c]
      cases i with
      | zero => exact c
      | succ i => exact posU_lt n l i (by simpa using h) (by omega)
    · have h1 : posU (u :: l) n = 0 := by simp [posU, List.takeWhile_cons, c]
      omega
theorem posU_at (n : Int) : ∀ (l : List Unt) (h : posU l n < l.length), n ≤ (l[posU l n]'h).num
  | [], h => absurd h (by simp)
  | u :: l, h => by
    by_cases c : u.num < n
    · have h1 : posU (u :: l) n = posU l n + 1 := by simp [posU, List.takeWhile_cons, c]
      have h2 : posU l n < l.length := by rw [h1] at h; simpa using h
      have h3 := posU_at n l h2
      simp only [h1, List.getElem_cons_succ]
      exact h3
    · have h1 : posU (u :: l) n = 0 := by simp [posU, List.takeWhile_cons, c]
      simp only [h1, List.getElem_cons_zero]
      omega
theorem posU_ge {l : List Unt} (h : AscU l) (n : Int) (i : Nat) (hi : i < l.length) (hp : posU l n ≤ i) : n ≤ l[i].num := by
  have h1 := posU_at n l (by omega)
  by_cases c : posU l n = i
  · subst c; exact h1
  · have := h (posU l n) i (by omega) hi (by omega)
    omega
theorem hasU_at {l : List Unt} (h : AscU l) (n : Int) : hasU l n = true ↔ ∃ hp : posU l n < l.length, (l[posU l n]'hp).num = n := by
  constructor
  · intro h1
    obtain ⟨u, hu, h2⟩ := List.any_eq_true.1 h1
    simp at h2
    obtain ⟨i, hi, rfl⟩ := List.getElem_of_mem hu
    have h3 : ¬ i < posU l n := fun c => by have := posU_lt n l i hi c; omega
    have h4 : ¬ posU l n < i := fun c => by
      have h5 := posU_at n l (by omega)
      have := h (posU l n) i (by omega) hi c
      omega
    have h6 : posU l n = i := by omega
    subst h6
    exact ⟨hi, h2⟩
  · rintro ⟨hp, h1⟩
    exact List.any_eq_true.2 ⟨_, List.getElem_mem hp, by simpa using h1⟩
theorem hasU_end {l : List Unt} (h : AscU l) (n : Int) (hp : l.length ≤ posU l n) : hasU l n = false := by
  cases c : hasU l n
  · rfl
  · obtain ⟨h1, _⟩ := (hasU_at h n).1 c
    omega
theorem hasU_val {l : List Unt} (h : AscU l) (n : Int) (hp : posU l n < l.length) : hasU l n = decide ((l[posU l n]'hp).num = n) := by
  by_cases c : (l[posU l n]'hp).num = n
  · rw [(hasU_at h n).2 ⟨hp, c⟩]; simpa using c
  · cases d : hasU l n
    · simpa using c
    · obtain ⟨_, h1⟩ := (hasU_at h n).1 d
      exact absurd h1 c
theorem idxU_has {l : List Unt} (h : AscU l) (n : Int) : (hasU l n = true → idxU l n = (posU l n : Int)) ∧ (hasU l n = false → idxU l n = -1) := by
  rcases idxF_spec (isNo n) l with ⟨h1, h2⟩ | ⟨k, hk, h1, h2⟩
  · refine ⟨fun c => ?_, fun _ => h1⟩
    obtain ⟨hp, h3⟩ := (hasU_at h n).1 c
    have := List.find?_eq_none.1 h2 _ (List.getElem_mem hp)
    simp [isNo] at this
    exact absurd h3 this
  · have h3 : l[k].num = n := by simpa [isNo] using List.find?_some h2
    refine ⟨fun _ => ?_, fun c => ?_⟩
    · have h4 : ¬ k < posU l n := fun d => by have := posU_lt n l k hk d; omega
      have h5 : ¬ posU l n < k := fun d => by
        have h6 := posU_at n l (by omega)
        have := h (posU l n) k (by omega) hk d
        omega
      have h7 : posU l n = k := by omega
      rw [h7]; exact h1
    · have : hasU l n = true := List.any_eq_true.2 ⟨_, List.getElem_mem hk, by simpa using h3⟩
      rw [this] at c; cases c
theorem asc_units {r : Rig} (h : chkRig r = 0) : AscU r.units := by
  obtain ⟨_, _, h3⟩ := chkRig_zero h
  have step : ∀ k, ∀ hk : k + 1 < r.units.length, r.units[k].num < r.units[k + 1].num := by
    intro k hk
    have h4 := (untF_zero (scanF_zero _ _ h3 (k + 1) hk)).2.1
    unfold untLow at h4
    rw [last_take r.units (k + 1) hk (by omega)] at h4
    simp at h4
    exact h4
  have less : ∀ i d, ∀ hj : i + 1 + d < r.units.length, r.units[i].num < (r.units[i + 1 + d]'hj).num := by
    intro i d
    induction d with
    | zero => intro hj; exact step i hj
    | succ d ih => intro hj; exact Int.lt_trans (ih (by omega)) (step (i + 1 + d) hj)
  intro i j hi hj hij
  obtain ⟨d, rfl⟩ : ∃ d, j = i + 1 + d := ⟨j - (i + 1), by omega⟩
  exact less i d hj
theorem num_range {r : Rig} (h : chkRig r = 0) {u : Unt} (hu : u ∈ r.units) : 1 ≤ u.num ∧ u.num ≤ 9999 := by
  obtain ⟨_, _, h3⟩ := chkRig_zero h
  obtain ⟨k, hk, rfl⟩ := List.getElem_of_mem hu
  exact (untF_zero (scanF_zero _ _ h3 k hk)).1
end Go.Proofs.YtabalicembhjmaaDoor
