/- The plain laws of settings that running effects change, and what the walk of Apply keeps. No walk in it. A map from keys to levels. (printed by wip/gen/gen_defaults.py) The level functions of effect.Settings and effect.Apply; levels behind some settings. (printed by wip/gen/gen_aptop.py) slices.IndexFunc at profiles over effect.defaults$1. (printed by wip/gen/gen_defaults.py) -/
import Derived.Test.YtopmdeefcjdadaaT43M18
import Derived.Test.YtopmdeefcjdadaaT43M04
import Derived.Test.YtopmdeefcjdadaaT43M10
import Derived.Test.YtopmdeefcjdadaaT43M05

namespace Go.Proofs.Ytopmdeefcjdadaa
open Go.RowKit
set_option linter.unusedVariables false
set_option linter.unusedSimpArgs false

theorem isK_self (s : Stg) : isK s.k s = true := by simp [isK]
theorem isK_iff {k : Int × ByteArray} {s : Stg} : isK k s = true ↔ s.k = k := by simp [isK]
theorem putS_len (l : List Stg) (s : Stg) : l.length ≤ (putS l s).length := by
  unfold putS
  split <;> simp
theorem putS_mem {l : List Stg} {s y : Stg} (h : y ∈ l) (hk : y.k ≠ s.k) : y ∈ putS l s := by
  unfold putS
  split
  · rw [List.mem_map]
    refine ⟨y, h, ?_⟩
    rw [if_neg]
    simpa [isK] using hk
  · simp [h]
theorem foldl_putS_len : ∀ (m l : List Stg), l.length ≤ (m.foldl putS l).length
  | [], l => Nat.le_refl _
  | s :: m, l => Nat.le_trans (putS_len l s) (foldl_putS_len m _)
theorem foldl_putS_mem {y : Stg} : ∀ (m l : List Stg), y ∈ l → (∀ s ∈ m, y.k ≠ s.k) → y ∈ m.foldl putS l
  | [], l, h, _ => h
  | s :: m, l, h, hm => foldl_putS_mem m _ (putS_mem h (hm s (by simp))) (fun x hx => hm x (by simp [hx]))
theorem runSets_key {x : Run} {t : Int} {lev : Int × ByteArray → Int} {s : Stg} (h : s ∈ runSets x t lev) : s.k ∈ x.keys := by
  unfold runSets at h
  split at h
  · cases h
  · unfold setsR at h
    rw [List.mem_mapIdx] at h
    obtain ⟨i, hi, rfl⟩ := h
    exact List.getElem_mem hi
theorem applyL_len (r : Rig) (t : Int) : ∀ (xs : List Run) (l : List Stg), l.length ≤ (applyL r xs l t).length
  | [], l => Nat.le_refl _
  | x :: xs, l => Nat.le_trans (foldl_putS_len _ _) (applyL_len r t xs _)
theorem applyL_mem (r : Rig) (t : Int) {y : Stg} : ∀ (xs : List Run) (l : List Stg), y ∈ l → (∀ x ∈ xs, y.k ∉ x.keys) → y ∈ applyL r xs l t
  | [], l, h, _ => h
  | x :: xs, l, h, hx => applyL_mem r t xs _ (foldl_putS_mem _ _ h (fun s hs e => hx x (by simp) (by rw [e]; exact runSets_key hs))) (fun z hz => hx z (by simp [hz]))
theorem aplF_none {r : Rig} {xs : List Run} {base : List Stg} {t : Int} (h : aplF r xs base t = 0) : aplF r [] base t = 0 := by
  unfold aplF at *
  have h0 : fi2 (chkRig r) (whenW (decide (100 < xs.length)) 2) = 0 := by
    by_cases c : fi2 (chkRig r) (whenW (decide (100 < xs.length)) 2) = 0
    · exact c
    · rw [if_pos c] at h; exact absurd h c
  rw [if_neg (by simpa using h0)] at h
  have h1 : chkRig r = 0 := by
    unfold fi2 at h0
    by_cases c : chkRig r = 0
    · exact c
    · rw [if_neg c] at h0; exact h0
  have h2 : fi2 (chkRig r) (whenW (decide (100 < ([] : List Run).length)) 2) = 0 := by rw [h1]; rfl
  rw [if_neg (by simpa using h2), if_neg (by simp [runsF])]
  by_cases c : runsF r xs = 0
  · rwa [if_neg (by simpa using c)] at h
  · rw [if_pos c] at h; exact absurd h c
theorem aplF_zero {r : Rig} {xs : List Run} {base : List Stg} {t : Int} (h : aplF r xs base t = 0) : chkRig r = 0 ∧ xs.length ≤ 100 ∧ runsF r xs = 0 ∧ chkStgs r base = 0 ∧ 0 ≤ t ∧ t ≤ 36000000 := by
  unfold aplF at h
  by_cases c : fi2 (chkRig r) (whenW (decide (100 < xs.length)) 2) = 0
  · rw [if_neg (by simpa using c)] at h
    by_cases d : runsF r xs = 0
    · rw [if_neg (by simpa using d)] at h
      unfold fi2 at c
      by_cases e : chkRig r = 0
      · rw [if_pos e] at c
        unfold whenW at c
        by_cases f : 100 < xs.length
        · simp [f] at c
        · unfold fi2 at h
          by_cases g : chkStgs r base = 0
          · rw [if_pos g] at h
            unfold whenW at h
            cases i : inR t 0 36000000
            · simp [i] at h
            · exact ⟨e, by omega, d, g, (inR_iff _ _ _).1 i⟩
          · rw [if_neg g] at h; exact absurd h g
      · rw [if_neg e] at c; exact absurd c e
    · rw [if_pos d] at h; exact absurd h d
  · rw [if_pos c] at h; exact absurd h c

/-! ### what is there, behind a setting put -/
theorem find_map_put (k : Int × ByteArray) (s : Stg) : ∀ l : List Stg, (l.map (fun y => if isK s.k y then s else y)).find? (isK k) = if s.k = k then (if l.any (isK k) then some s else none) else l.find? (isK k)
  | [] => by simp
  | a :: l => by
    have ih := find_map_put k s l
    by_cases c : s.k = k
    · rw [if_pos c] at ih ⊢
      subst c
      by_cases d : isK s.k a = true
      · simp [d, isK_self]
      · simp only [List.map_cons, List.find?_cons, d, Bool.false_eq_true, if_false, ih, List.any_cons, Bool.false_or]
    · rw [if_neg c] at ih ⊢
      by_cases d : isK s.k a = true
      · have e : isK k a = false := by
          rw [isK_iff] at d
          simp only [isK, decide_eq_false_iff_not]
          rw [d]
          exact c
        have e2 : isK k s = false := by simpa [isK] using c
        simp [d, e, e2, ih]
      · simp only [List.map_cons, List.find?_cons, d, Bool.false_eq_true, if_false, ih]
theorem levO_put (r : Rig) (l : List Stg) (s : Stg) (k : Int × ByteArray) : levO r (putS l s) k = if s.k = k then some s.lv else levO r l k := by
  unfold levO putS
  by_cases c : l.any (isK s.k) = true
  · rw [if_pos c, ← List.map_reverse, find_map_put]
    by_cases d : s.k = k
    · subst d
      rw [if_pos rfl, if_pos rfl]
      have : l.reverse.any (isK s.k) = true := by rw [List.any_reverse]; exact c
      rw [if_pos this]
    · rw [if_neg d, if_neg d]
  · rw [if_neg c, List.reverse_append]
    simp only [List.reverse_cons, List.reverse_nil, List.nil_append, List.singleton_append, List.find?_cons]
    by_cases d : s.k = k
    · subst d
      simp [isK_self]
    · have : isK k s = false := by simpa [isK] using d
      rw [this, if_neg d]
/-- where a key stands -/
def atO (l : List Stg) (k : Int × ByteArray) : Option Nat := if l.any (isK k) then some (l.findIdx (isK k)) else none
theorem atO_lt {l : List Stg} {k : Int × ByteArray} {i : Nat} (h : atO l k = some i) : ∃ hi : i < l.length, (l[i]'hi).k = k := by
  unfold atO at h
  by_cases c : l.any (isK k) = true
  · rw [if_pos c] at h
    cases h
    have hi : l.findIdx (isK k) < l.length := by
      rw [List.findIdx_lt_length]
      simpa [List.any_eq_true] using c
    exact ⟨hi, isK_iff.1 (List.findIdx_getElem (w := hi))⟩
  · rw [if_neg c] at h; cases h
def KeysOnce (l : List Stg) : Prop := (l.map Stg.k).Nodup
theorem putS_at {l : List Stg} (hl : KeysOnce l) {s : Stg} {i : Nat} (h : atO l s.k = some i) : putS l s = l.set i s := by
  obtain ⟨hi, hk⟩ := atO_lt h
  have c : l.any (isK s.k) = true := by
    unfold atO at h
    by_cases c : l.any (isK s.k) = true
    · exact c
    · rw [if_neg c] at h; cases h
  unfold putS
  rw [if_pos c]
  apply List.ext_getElem (by simp)
  intro j h1 h2
  simp only [List.length_map] at h1
  rw [List.getElem_map, List.getElem_set]
  by_cases e : i = j
  · subst e
    rw [if_pos rfl, if_pos (isK_iff.2 hk)]
  · rw [if_neg e, if_neg]
    intro hc
    rw [isK_iff] at hc
    have hc2 : l[j].k = l[i].k := hc.trans hk.symm
    have hn := List.pairwise_iff_getElem.1 hl
    rcases Nat.lt_or_gt_of_ne e with e | e
    · exact hn i j (by simpa using hi) (by simpa using h1) e (by rw [List.getElem_map, List.getElem_map]; exact hc2.symm)
    · exact hn j i (by simpa using h1) (by simpa using hi) e (by rw [List.getElem_map, List.getElem_map]; exact hc2)
theorem putS_new {l : List Stg} {s : Stg} (h : atO l s.k = none) : putS l s = l ++ [s] := by
  have c : ¬ l.any (isK s.k) = true := by
    intro c
    unfold atO at h
    rw [if_pos c] at h
    cases h
  unfold putS
  rw [if_neg c]
theorem keysOnce_put {l : List Stg} (hl : KeysOnce l) (s : Stg) : KeysOnce (putS l s) := by
  cases h : atO l s.k with
  | some i =>
    rw [putS_at hl h]
    obtain ⟨hi, hk⟩ := atO_lt h
    unfold KeysOnce at *
    rw [List.map_set, ← hk]
    have : (l.map Stg.k).set i l[i].k = l.map Stg.k := by
      apply List.ext_getElem (by simp)
      intro j h1 h2
      rw [List.getElem_set]
      by_cases e : i = j
      · subst e; simp
      · rw [if_neg e]
    rwa [this]
  | none =>
    rw [putS_new h]
    unfold KeysOnce at *
    rw [List.map_append, List.nodup_append]
    refine ⟨hl, by simp, ?_⟩
    intro a ha b hb e
    simp at hb
    subst hb e
    obtain ⟨y, hy, hk⟩ := List.mem_map.1 ha
    have c : l.any (isK s.k) = true := List.any_eq_true.2 ⟨y, hy, isK_iff.2 hk⟩
    unfold atO at h
    rw [if_pos c] at h
    cases h
theorem findIdx_at {l : List Stg} (hl : KeysOnce l) {k : Int × ByteArray} {i : Nat} (hi : i < l.length) (hk : l[i].k = k) : atO l k = some i := by
  have c : l.any (isK k) = true := List.any_eq_true.2 ⟨_, List.getElem_mem hi, isK_iff.2 hk⟩
  obtain ⟨j, hj⟩ : ∃ j, atO l k = some j := by unfold atO; rw [if_pos c]; exact ⟨_, rfl⟩
  obtain ⟨hj1, hj2⟩ := atO_lt hj
  rw [hj]
  have hn := List.pairwise_iff_getElem.1 hl
  by_cases e : i = j
  · rw [e]
  · rcases Nat.lt_or_gt_of_ne e with e | e
    · exact absurd (by rw [List.getElem_map, List.getElem_map]; exact hk.trans hj2.symm) (hn i j (by simpa using hi) (by simpa using hj1) e)
    · exact absurd (by rw [List.getElem_map, List.getElem_map]; exact hj2.trans hk.symm) (hn j i (by simpa using hj1) (by simpa using hi) e)
theorem atO_none {l : List Stg} {k : Int × ByteArray} : atO l k = none ↔ ∀ y ∈ l, y.k ≠ k := by
  unfold atO
  by_cases c : l.any (isK k) = true
  · rw [if_pos c]
    obtain ⟨y, hy, h⟩ := List.any_eq_true.1 c
    exact ⟨fun h => (by cases h), fun h2 => absurd (isK_iff.1 h) (h2 y hy)⟩
  · rw [if_neg c]
    exact ⟨fun _ y hy e => c (List.any_eq_true.2 ⟨y, hy, isK_iff.2 e⟩), fun _ => rfl⟩
theorem atO_put {l : List Stg} (hl : KeysOnce l) (s : Stg) (k : Int × ByteArray) : atO (putS l s) k = if s.k = k then some ((atO l s.k).getD l.length) else atO l k := by
  have hO := keysOnce_put hl s
  cases h : atO l s.k with
  | some i =>
    obtain ⟨hi, hk⟩ := atO_lt h
    rw [putS_at hl h] at hO ⊢
    by_cases c : s.k = k
    · rw [if_pos c]
      exact findIdx_at hO (i := i) (by simpa using hi) (by simpa using c)
    · rw [if_neg c]
      cases g : atO l k with
      | some j =>
        obtain ⟨hj, hk2⟩ := atO_lt g
        have hne : i ≠ j := by
          intro e
          subst e
          exact c (hk.symm.trans hk2)
        exact findIdx_at hO (i := j) (by simpa using hj) (by rw [List.getElem_set_ne hne]; exact hk2)
      | none =>
        rw [atO_none] at g ⊢
        intro y hy
        rcases List.mem_or_eq_of_mem_set hy with hy | rfl
        · exact g y hy
        · exact c
  | none =>
    rw [putS_new h] at hO ⊢
    by_cases c : s.k = k
    · rw [if_pos c]
      exact findIdx_at hO (i := l.length) (by simp) (by simpa using c)
    · rw [if_neg c]
      cases g : atO l k with
      | some j =>
        obtain ⟨hj, hk2⟩ := atO_lt g
        exact findIdx_at hO (i := j) (by simp; omega) (by rw [List.getElem_append_left hj]; exact hk2)
      | none =>
        rw [atO_none] at g ⊢
        intro y hy
        rcases List.mem_append.1 hy with hy | hy
        · exact g y hy
        · simp at hy
          subst hy
          exact c
/-- right settings have each key once -/
theorem keysOnce_of {r : Rig} {l : List Stg} (h : chkStgs r l = 0) : KeysOnce l := by
  unfold KeysOnce
  rw [List.Nodup, List.pairwise_map, List.pairwise_iff_getElem]
  intro i j hi hj hij e
  have h1 := scanF_zero _ _ h j hj
  unfold stgF at h1
  split at h1
  · cases h1
  · split at h1
    · cases h1
    · split at h1
      · cases h1
      · rename_i c
        apply c
        rw [List.any_eq_true]
        refine ⟨l[i], ?_, isK_iff.2 e⟩
        rw [List.mem_take_iff_getElem]
        exact ⟨i, by omega, rfl⟩
theorem stg_right {r : Rig} {l : List Stg} (h : chkStgs r l = 0) {s : Stg} (hs : s ∈ l) : (dfO r s.k).isSome ∧ 0 ≤ s.lv ∧ s.lv ≤ 65535 := by
  obtain ⟨j, hj, rfl⟩ := List.getElem_of_mem hs
  have h1 := scanF_zero _ _ h j hj
  unfold stgF at h1
  split at h1
  · cases h1
  · rename_i c
    split at h1
    · cases h1
    · rename_i d
      refine ⟨?_, ?_⟩
      · unfold dfO
        have : l[j].k = (l[j].unit, l[j].par) := rfl
        rw [this]
        cases f : findO r l[j].unit l[j].par.data.toList with
        | none => simp [f] at c
        | some p => rfl
      · have : inR l[j].lv 0 65535 = true := by simpa using d
        exact (inR_iff _ _ _).1 this
theorem dfO_right {r : Rig} (h : chkRig r = 0) {k : Int × ByteArray} {d : Int} (hd : dfO r k = some d) : 0 ≤ d ∧ d ≤ 65535 := by
  unfold dfO findO at hd
  cases hu : r.units.find? (isNo k.1) with
  | none => rw [hu] at hd; cases hd
  | some u =>
    rw [hu] at hd
    simp only at hd
    have hm := List.mem_of_find?_eq_some hu
    obtain ⟨h1, h2, h3⟩ := chkRig_zero h
    obtain ⟨j, hj, rfl⟩ := List.getElem_of_mem hm
    obtain ⟨_, _, ⟨p, h4, h5⟩, _⟩ := untF_zero (scanF_zero _ _ h3 j hj)
    have h6 := chkPrf_zero (chkLib_prf h1 (profOf_some h4).1)
    unfold parsOf at hd
    rw [h4] at hd
    simp only [Option.map_some, Option.getD_some] at hd
    cases hp : parOf p.pars k.2.data.toList with
    | none => rw [hp] at hd; cases hd
    | some q =>
      rw [hp] at hd
      simp at hd
      subst hd
      have hq : q ∈ p.pars := by unfold parOf at hp; exact List.mem_of_find?_eq_some hp
      obtain ⟨i, hi, rfl⟩ := List.getElem_of_mem hq
      exact (parBad_false (parF_zero (scanF_zero _ _ h6.2.2.2.2 i hi)).2.2.2.1).2.2
/-- levels that are there are levels -/
def LevsOk (r : Rig) (l : List Stg) : Prop := ∀ s ∈ l, 0 ≤ s.lv ∧ s.lv ≤ 65535
theorem levO_right {r : Rig} (h : chkRig r = 0) {l : List Stg} (hl : LevsOk r l) {k : Int × ByteArray} {v : Int} (hv : levO r l k = some v) : 0 ≤ v ∧ v ≤ 65535 := by
  unfold levO at hv
  cases hf : l.reverse.find? (isK k) with
  | some s =>
    rw [hf] at hv
    simp at hv
    subst hv
    exact hl s (List.mem_reverse.1 (List.mem_of_find?_eq_some hf))
  | none =>
    rw [hf] at hv
    exact dfO_right h hv
theorem levV_range {r : Rig} (h : chkRig r = 0) {l : List Stg} (hl : LevsOk r l) (k : Int × ByteArray) : 0 ≤ levV r l k ∧ levV r l k ≤ 65535 := by
  unfold levV
  cases hv : levO r l k with
  | none => simp
  | some v => exact levO_right h hl hv
theorem levsOk_put {r : Rig} {l : List Stg} (hl : LevsOk r l) {s : Stg} (h : 0 ≤ s.lv ∧ s.lv ≤ 65535) : LevsOk r (putS l s) := by
  intro y hy
  unfold putS at hy
  split at hy
  · obtain ⟨z, hz, rfl⟩ := List.mem_map.1 hy
    split
    · exact h
    · exact hl z hz
  · rcases List.mem_append.1 hy with hy | hy
    · exact hl y hy
    · simp at hy; subst hy; exact h
theorem levO_isSome {r : Rig} (l : List Stg) {k : Int × ByteArray} (h : (dfO r k).isSome) : (levO r l k).isSome := by
  unfold levO
  split
  · rfl
  · exact h
theorem runSets_lv {x : Run} {t : Int} {lev : Int × ByteArray → Int} {s : Stg} (h : s ∈ runSets x t lev) : 0 ≤ s.lv ∧ s.lv ≤ 65535 := by
  unfold runSets at h
  split at h
  · cases h
  · unfold setsR at h
    rw [List.mem_mapIdx] at h
    obtain ⟨i, hi, rfl⟩ := h
    exact clampL_range _
/-! ### no more settings than a rig has keys -/
theorem nodup_le {α : Type} : ∀ (l m : List α), l.Nodup → (∀ x ∈ l, x ∈ m) → l.length ≤ m.length
  | [], m, _, _ => Nat.zero_le _
  | a :: l, m, h, hm => by
    obtain ⟨s, t, rfl⟩ := List.append_of_mem (hm a (by simp))
    rw [List.nodup_cons] at h
    have := nodup_le l (s ++ t) h.2 (fun x hx => by
      have h1 := hm x (by simp [hx])
      have h2 : x ≠ a := fun e => h.1 (e ▸ hx)
      simp only [List.mem_append, List.mem_cons] at h1 ⊢
      rcases h1 with h1 | h1 | h1
      · exact .inl h1
      · exact absurd h1 h2
      · exact .inr h1)
    simp only [List.length_append, List.length_cons] at this ⊢
    omega
def allKeys (r : Rig) : List (Int × ByteArray) := r.units.flatMap fun u => (parsOf r.lib u).map fun p => (u.num, p.name)
theorem allKeys_mem {r : Rig} {k : Int × ByteArray} (h : (dfO r k).isSome) : k ∈ allKeys r := by
  unfold dfO findO at h
  cases hu : r.units.find? (isNo k.1) with
  | none => rw [hu] at h; cases h
  | some u =>
    rw [hu] at h
    simp only at h
    cases hp : parOf (parsOf r.lib u) k.2.data.toList with
    | none => rw [hp] at h; cases h
    | some p =>
      unfold allKeys
      rw [List.mem_flatMap]
      refine ⟨u, List.mem_of_find?_eq_some hu, List.mem_map.2 ⟨p, by unfold parOf at hp; exact List.mem_of_find?_eq_some hp, ?_⟩⟩
      have h1 : u.num = k.1 := by simpa [isNo] using List.find?_some hu
      have h2 : p.nm = k.2.data.toList := by unfold parOf at hp; simpa [hasPn] using List.find?_some hp
      have h3 : p.name = k.2 := ByteArray.ext (Array.ext' h2)
      rw [h1, h3]
theorem allKeys_few {r : Rig} (h : chkRig r = 0) : (allKeys r).length ≤ 16000 := by
  have h1 := flat_le (fun u => (parsOf r.lib u).map fun p => (u.num, p.name)) 40 r.units (fun u hu => by
    obtain ⟨p, hp, hl, _⟩ := par_right h hu
    simp [parsOf, hp]
    exact hl)
  have h2 := (chkRig_zero h).2.1
  unfold allKeys
  omega
theorem few_stgs {r : Rig} (h : chkRig r = 0) {l : List Stg} (hk : KeysOnce l) (hd : ∀ s ∈ l, (dfO r s.k).isSome) : l.length ≤ 16000 := by
  have h1 := nodup_le (l.map Stg.k) (allKeys r) hk (fun x hx => by
    obtain ⟨s, hs, rfl⟩ := List.mem_map.1 hx
    exact allKeys_mem (hd s hs))
  have := allKeys_few h
  rw [List.length_map] at h1
  omega
end Go.Proofs.Ytopmdeefcjdadaa

namespace Go.Proofs.Ytopmdeefcjdadaa
open Go.RowKit
set_option linter.unusedVariables false
set_option linter.unusedSimpArgs false

theorem zeroIntM_ (w : World) : (zeroValue 3).run Try.prog w = .ok (.int .i64 0) w := by kernel_rfl
def lvI (v : Int) : Value := .int .i64 v
/-- block mb is a map that has just the levels of g -/
def HasM (w : World) (mb m : Nat) (g : Int × ByteArray → Option Int) : Prop :=
  ∃ n f, n ≤ m ∧ MapM w Try.prog 47 mb n f ∧ ∀ k, KeyFit k → f (keyL k) = (g k).map lvI
theorem HasM.below {w w' : World} {mb m : Nat} {g : Int × ByteArray → Option Int} (h : HasM w mb m g) (hb : Below w.heap.size w w') : HasM w' mb m g := by
  obtain ⟨n, f, h1, h2, h3⟩ := h
  exact ⟨n, f, h1, h2.same (hb.block _ h2.lt), h3⟩
theorem HasM.same {w w' : World} {mb m : Nat} {g : Int × ByteArray → Option Int} (h : HasM w mb m g) (hb : w'.heap[mb]? = w.heap[mb]?) : HasM w' mb m g := by
  obtain ⟨n, f, h1, h2, h3⟩ := h
  exact ⟨n, f, h1, h2.same hb, h3⟩
theorem HasM.gro {w w' : World} {mb m b : Nat} {g : Int × ByteArray → Option Int} (h : HasM w mb m g) (hb : w.grownBy w' (some b)) (hne : mb ≠ b) : HasM w' mb m g := by
  obtain ⟨n, f, h1, h2, h3⟩ := h
  exact ⟨n, f, h1, h2.kept hb (by intro e; injection e with e; exact hne e), h3⟩
theorem HasM.alloc {w : World} {mb m : Nat} {g : Int × ByteArray → Option Int} (h : HasM w mb m g) (o : Obj) : HasM (w.alloc o) mb m g := h.below ((Below.refl _ _).alloc (Nat.le_refl _) o)
theorem HasM.more {w : World} {mb m m' : Nat} {g : Int × ByteArray → Option Int} (h : HasM w mb m g) (hm : m ≤ m') : HasM w mb m' g := by
  obtain ⟨n, f, h1, h⟩ := h
  exact ⟨n, f, Nat.le_trans h1 hm, h⟩
theorem HasM.lt {w : World} {mb m : Nat} {g : Int × ByteArray → Option Int} (h : HasM w mb m g) : mb < w.heap.size := by
  obtain ⟨n, f, h1, h2, _⟩ := h
  exact h2.lt
theorem HasM.cast {w : World} {mb m : Nat} {g g' : Int × ByteArray → Option Int} (h : HasM w mb m g) (hg : ∀ k, KeyFit k → g' k = g k) : HasM w mb m g' := by
  obtain ⟨n, f, h1, h2, h3⟩ := h
  exact ⟨n, f, h1, h2, fun k hk => by rw [h3 k hk, hg k hk]⟩
theorem hasM_made (w : World) : HasM (w.alloc (.map #[] 0)) w.heap.size 0 (fun _ => none) := ⟨0, _, Nat.le_refl _, mapM_made w _ _, fun k _ => rfl⟩
/-- 'v, ok := has[k]' and 'has[k]' -/
theorem HasM.look2 {w : World} {mb m : Nat} {g : Int × ByteArray → Option Int} (h : HasM w mb m g) {u : Int} {s : ByteArray} (hk : KeyFit (u, s)) {o : Option Int} (ho : g (u, s) = o) :
    (Instr.lookup 94 (.map (some mb)) (.agg #[.int .i64 u, .string s]) true).run Try.prog w = .ok (.tuple #[.int .i64 (o.getD 0), .bool o.isSome]) w := by
  obtain ⟨n, f, h1, h2, h3⟩ := h
  have := h2.look true keyed_ (t := 94) Try.underlying94 (zeroIntM_ _) (keyOf_key hk)
  rw [h3 _ hk, ho] at this
  cases o with
  | none => exact this
  | some v => exact this
theorem HasM.look1 {w : World} {mb m : Nat} {g : Int × ByteArray → Option Int} (h : HasM w mb m g) {u : Int} {s : ByteArray} (hk : KeyFit (u, s)) :
    (Instr.lookup 94 (.map (some mb)) (.agg #[.int .i64 u, .string s]) false).run Try.prog w = .ok (.int .i64 ((g (u, s)).getD 0)) w := by
  obtain ⟨n, f, h1, h2, h3⟩ := h
  have := h2.look false keyed_ (t := 94) Try.underlying94 (zeroIntM_ _) (keyOf_key hk)
  rw [h3 _ hk] at this
  cases hg : g (u, s) with
  | none => rw [hg] at this; exact this
  | some v => rw [hg] at this; exact this
def putG (g : Int × ByteArray → Option Int) (k : Int × ByteArray) (v : Int) : Int × ByteArray → Option Int := fun x => if k = x then some v else g x
/-- 'has[k] = v' -/
theorem HasM.put {w : World} {mb m : Nat} {g : Int × ByteArray → Option Int} (h : HasM w mb m g) {u : Int} {s : ByteArray} (hk : KeyFit (u, s)) (v : Int) (hm : m < maxLen) :
    ∃ w', (Instr.mapUpdate 94 (.map (some mb)) (.agg #[.int .i64 u, .string s]) (.int .i64 v)).run Try.prog w = .ok () w' ∧ HasM w' mb (m + 1) (putG g (u, s) v) ∧ w.grownBy w' (some mb) := by
  obtain ⟨n, f, h1, h2, h3⟩ := h
  obtain ⟨w', hr, hM, hg⟩ := h2.update keyed_ (t := 94) Try.underlying94 (by omega) (keyOf_key hk) (val := .int .i64 v)
  refine ⟨w', hr, ⟨n + 1, _, by omega, hM, fun k hk' => ?_⟩, hg⟩
  unfold putG
  by_cases c : (u, s) = k
  · subst c
    rw [putF_same (keyed_.key (keyOf_key hk)), if_pos rfl]
    rfl
  · rw [putF_other (fun e => c (keyL_inj hk' hk e).symm), if_neg c, h3 k hk']
/-! ### the defaults of the first units of a rig -/
def dfU (r : Rig) (k : Nat) (key : Int × ByteArray) : Option Int := dfO ⟨r.lib, r.units.take k⟩ key
theorem dfU_all (r : Rig) : dfU r r.units.length = dfO r := by
  funext key
  unfold dfU
  rw [List.take_length]
theorem dfU_none (r : Rig) (key : Int × ByteArray) : dfU r 0 key = none := by unfold dfU dfO findO; simp
/-- .. behind some parameters of the next one -/
def dfP (r : Rig) (k : Nat) (u : Unt) (ps : List Par) (j : Nat) (key : Int × ByteArray) : Option Int := if key.1 = u.num then (parOf (ps.take j) key.2.data.toList).map Par.dflt else dfU r k key
theorem dfP_start {r : Rig} (ha : AscU r.units) {k : Nat} (hk : k < r.units.length) (ps : List Par) (key : Int × ByteArray) : dfP r k r.units[k] ps 0 key = dfU r k key := by
  unfold dfP
  by_cases c : key.1 = r.units[k].num
  · rw [if_pos c]
    have : (r.units.take k).find? (isNo key.1) = none := by
      rw [List.find?_eq_none]
      intro u hu hn
      obtain ⟨j, hj, rfl⟩ := List.mem_take_iff_getElem.1 hu
      have h1 := ha j k (by omega) hk (by omega)
      have h2 : r.units[j].num = key.1 := by simpa [isNo] using hn
      omega
    unfold dfU dfO findO
    simp only [this]
    rfl
  · rw [if_neg c]
theorem dfP_end {r : Rig} (ha : AscU r.units) {k : Nat} (hk : k < r.units.length) {p : Prf} (hp : profOf r.lib r.units[k].nm = some p) (key : Int × ByteArray) : dfP r k r.units[k] p.pars p.pars.length key = dfU r (k + 1) key := by
  have hx : (r.units.take (k + 1)).find? (isNo key.1) = ((r.units.take k).find? (isNo key.1)).or (if isNo key.1 r.units[k] then some r.units[k] else none) := by
    rw [List.take_succ_eq_append_getElem hk, List.find?_append]
    congr 1
    cases h : isNo key.1 r.units[k] <;> simp [h]
  unfold dfP
  by_cases c : key.1 = r.units[k].num
  · rw [if_pos c, List.take_length]
    have h1 : (r.units.take k).find? (isNo key.1) = none := by
      rw [List.find?_eq_none]
      intro u hu hn
      obtain ⟨j, hj, rfl⟩ := List.mem_take_iff_getElem.1 hu
      have h1 := ha j k (by omega) hk (by omega)
      have h2 : r.units[j].num = key.1 := by simpa [isNo] using hn
      omega
    have h2 : isNo key.1 r.units[k] = true := by simp [isNo, c]
    unfold dfU dfO findO
    simp only [hx, h1, h2, if_true, Option.none_or]
    unfold parsOf
    rw [hp]
    rfl
  · rw [if_neg c]
    have h2 : isNo key.1 r.units[k] = false := by simp only [isNo, decide_eq_false_iff_not]; exact fun e => c e.symm
    unfold dfU dfO findO
    simp only [hx, h2, Bool.false_eq_true, if_false, Option.or_none]
theorem dfP_step {r : Rig} {k : Nat} {u : Unt} {ps : List Par} {j : Nat} (hj : j < ps.length) (hn : ps[j].nm ∉ (ps.take j).map Par.nm) (key : Int × ByteArray) :
    dfP r k u ps (j + 1) key = putG (dfP r k u ps j) (u.num, ps[j].name) ps[j].dflt key := by
  have hx : parOf (ps.take (j + 1)) key.2.data.toList = (parOf (ps.take j) key.2.data.toList).or (if hasPn key.2.data.toList ps[j] then some ps[j] else none) := by
    unfold parOf
    rw [List.take_succ_eq_append_getElem hj, List.find?_append]
    congr 1
    cases h : hasPn key.2.data.toList ps[j] <;> simp [h]
  unfold putG dfP
  by_cases c : (u.num, ps[j].name) = key
  · subst c
    simp only [if_true]
    have h1 : parOf (ps.take j) ps[j].name.data.toList = none := by
      unfold parOf
      rw [List.find?_eq_none]
      intro q hq he
      apply hn
      rw [List.mem_map]
      exact ⟨q, hq, by simpa [hasPn, Par.nm] using he⟩
    have h2 : hasPn ps[j].name.data.toList ps[j] = true := by simp [hasPn, Par.nm]
    simp only [hx, h1, h2, if_true, Option.none_or, Option.map_some]
  · rw [if_neg c]
    by_cases d : key.1 = u.num
    · rw [if_pos d, if_pos d]
      have h2 : hasPn key.2.data.toList ps[j] = false := by
        simp only [hasPn, decide_eq_false_iff_not]
        intro e
        apply c
        have e2 : ps[j].name = key.2 := ByteArray.ext (Array.ext' e)
        rw [← d, e2]
      rw [hx, h2]
      simp
    · rw [if_neg d, if_neg d]
end Go.Proofs.Ytopmdeefcjdadaa

namespace Go.Proofs.Ytopmdeefcjdadaa
open Go.RowKit
set_option linter.unusedVariables false
set_option linter.unusedSimpArgs false

theorem levO_nil (r : Rig) (key : Int × ByteArray) : levO r [] key = dfO r key := rfl
theorem levO_step (r : Rig) {l : List Stg} {k : Nat} (h : k < l.length) (key : Int × ByteArray) : levO r (l.take (k + 1)) key = putG (levO r (l.take k)) l[k].k l[k].lv key := by
  unfold levO putG
  rw [List.take_succ_eq_append_getElem h, List.reverse_append]
  simp only [List.reverse_cons, List.reverse_nil, List.nil_append, List.singleton_append, List.find?_cons]
  by_cases c : l[k].k = key
  · rw [isK_iff.2 c, if_pos c]
  · have : isK key l[k] = false := by simpa [isK] using c
    rw [this, if_neg c]
theorem setFn_call (args : Array Value) (W : World) : Sem.run Try.prog (callFunc 60 args) W = .ok (.enter 60 args) W := by simp [go_sem]
set_option maxHeartbeats 1000000 in
theorem setFn_any (u : Int) (s : ByteArray) (tb mb m : Nat) (g : Int × ByteArray → Option Int) (W : World) (hT : TBox W tb 94 #[.map (some mb)]) (hM : HasM W mb m g) (hk : KeyFit (u, s)) :
    Calls Try.prog 60 #[.agg #[.int .i64 u, .string s], .pointer (some ⟨tb, 0, none⟩)] W fun e w' => e = .returned (.int .i64 ((g (u, s)).getD 0)) ∧ Below W.heap.size W w' := by
  have q0 := hT.cell (i := 0) rfl
  have ql := hT.lt
  have hq := (hM.alloc (.cells #[.int .i64 u, .string s] 47)).look1 hk
  obtain ⟨v, hv⟩ : ∃ v, (g (u, s)).getD 0 = v := ⟨_, rfl⟩
  rw [hv] at hq ⊢
  clear hT hM hv
  go_enter Try.func60, Try.ntmps60
  go_wp2
  go_ret
  exact ⟨rfl, (Below.refl _ _).alloc (Nat.le_refl _) _⟩
theorem aplFn_call (args : Array Value) (W : World) : Sem.run Try.prog (callFunc 62 args) W = .ok (.enter 62 args) W := by simp [go_sem]
set_option maxHeartbeats 1000000 in
theorem aplFn_any (u : Int) (s : ByteArray) (tb mb m : Nat) (g : Int × ByteArray → Option Int) (W : World) (hT : TBox W tb 94 #[.map (some mb)]) (hM : HasM W mb m g) (hk : KeyFit (u, s)) :
    Calls Try.prog 62 #[.agg #[.int .i64 u, .string s], .pointer (some ⟨tb, 0, none⟩)] W fun e w' => e = .returned (.int .i64 ((g (u, s)).getD 0)) ∧ Below W.heap.size W w' := by
  have q0 := hT.cell (i := 0) rfl
  have ql := hT.lt
  have hq := (hM.alloc (.cells #[.int .i64 u, .string s] 47)).look1 hk
  obtain ⟨v, hv⟩ : ∃ v, (g (u, s)).getD 0 = v := ⟨_, rfl⟩
  rw [hv] at hq ⊢
  clear hT hM hv
  go_enter Try.func62, Try.ntmps62
  go_wp2
  go_ret
  exact ⟨rfl, (Below.refl _ _).alloc (Nat.le_refl _) _⟩
end Go.Proofs.Ytopmdeefcjdadaa

namespace Go.Proofs.Ytopmdeefcjdadaa
open Go.RowKit
set_option linter.unusedVariables false
set_option linter.unusedSimpArgs false
/-- the function of defaults: does a profile have the name in the second cell of block tb? -/
def dfFn (tb : Nat) : Value := .func (.func 97) #[] #[.pointer (some ⟨tb, 0, none⟩)]
set_option maxHeartbeats 400000 in
theorem dfFn_any (pn : ByteArray) (pz : Int) (po : Option Addr) (pl pc : Nat) (nm : ByteArray) (tb : Nat) (w : World) (ht : w.cell? ⟨tb, 1, none⟩ = some (.string nm)) (hb : tb < w.heap.size) :
    Calls Try.prog 97 #[.agg #[.string pn, .int .i64 pz, .slice po pl pc], .pointer (some ⟨tb, 0, none⟩)] w fun e w' => e = .returned (.bool (decide (pn.data.toList = nm.data.toList))) ∧ Below w.heap.size w w' := by
  by_cases hc : pn.data.toList = nm.data.toList
  · have h2 : (pn.toList == nm.toList) = true := by rw [Lib.toList_data, Lib.toList_data]; simpa using hc
    have HV := Lib.hid (show decide (pn.data.toList = nm.data.toList) = true by simpa using hc)
    clear hc
    go_enter Try.func97, Try.ntmps97
    go_wp2
    go_ret
    exact ⟨by rw [HV.out] <;> rfl, (Below.refl _ _).alloc (Nat.le_refl _) _⟩
  · have h2 : (pn.toList == nm.toList) = false := by rw [Lib.toList_data, Lib.toList_data]; simpa using hc
    have HV := Lib.hid (show decide (pn.data.toList = nm.data.toList) = false by simpa using hc)
    go_enter Try.func97, Try.ntmps97
    go_wp2
    go_ret
    exact ⟨by rw [HV.out] <;> rfl, (Below.refl _ _).alloc (Nat.le_refl _) _⟩
theorem dfFn_call (args : Array Value) (W : World) : Sem.run Try.prog (callFunc 97 args) W = .ok (.enter 97 args) W := by simp [go_sem]
set_option maxRecDepth 100000 in
set_option maxHeartbeats 4000000 in
theorem dfp_index (v : Value) (l : List Prf) (nm : ByteArray) (tb : Nat) (w : World) (h : PrfS w.heap.size w v l) (ht : w.cell? ⟨tb, 1, none⟩ = some (.string nm)) (hb : tb < w.heap.size) :
    Calls Try.prog 96 #[v, dfFn tb] w fun e w' => e = .returned (.int .i64 (idxF (hasNm nm.data.toList) l 0)) ∧ Below w.heap.size w w' := by
  have HG := Lib.hid (PrfS.get h)
  obtain ⟨lv, hlv, hcs, _⟩ := h
  obtain ⟨ao, cap, rfl, _⟩ := CellsS.shape hcs
  have hm := CellsS.len hcs
  rw [show lv.length = l.length by rw [← hlv]; simp] at *
  clear hcs hlv
  unfold maxLen at hm
  have CF := Lib.hid (fun (pn : ByteArray) (pz : Int) (po : Option Addr) (pl pc : Nat) W (hB : Below w.heap.size w W) => dfFn_any pn pz po pl pc nm tb W ((hB.cell (p := ⟨tb, 1, none⟩) hb).trans ht) (Nat.lt_of_lt_of_le hb hB.size))
  have hcf := dfFn_call
  have HC := Lib.hid (show idxF (hasNm nm.data.toList) l 0 = idxF (hasNm nm.data.toList) (l.drop 0) 0 by simp)
  generalize idxF (hasNm nm.data.toList) l 0 = RES at *
  clear ht
  unfold dfFn
  go_enter Try.func96, Try.ntmps96
  go_wp2_with fail
  go_loopw [8] (fun i wr => ∃ k : Nat, k ≤ l.length ∧ i = .int .i64 k ∧ Hid (RES = idxF (hasNm nm.data.toList) (l.drop k) k) ∧ Hid (Below w.heap.size w wr)) (fun i _ => l.length - (intOf i).toNat)
  case atStart => exact ⟨0, Nat.zero_le _, rfl, HC, Lib.hid (Below.refl _ _)⟩
  case round =>
    obtain ⟨k, hk, rfl, HR, HBW⟩ := hrel
    by_cases hlt : k < l.length
    · obtain ⟨b, off, cap', hsl, hbb, _, hc⟩ := HG.out (by omega)
      injection hsl with hs1 hs2 hs3
      subst hs1 hs3
      obtain ⟨pv, hpv, hcc⟩ := hc k hlt
      obtain ⟨d0, d1, d2⟩ := hcc wr HBW.out
      have hbr : b < wr.heap.size := by have := HBW.out.size; omega
      have HY := Lib.hid (idxF_yes (hasNm nm.data.toList) l k hlt)
      have HN := Lib.hid (idxF_no (hasNm nm.data.toList) l k hlt)
      have HT := Lib.hid (show hasNm nm.data.toList l[k] = decide (l[k].name.data.toList = nm.data.toList) from rfl)
      obtain ⟨lv, hlv, hcs, _⟩ := hpv
      obtain ⟨po, pcap, rfl, _⟩ := CellsS.shape hcs
      clear hc hcc hcs hlv
      generalize hasNm nm.data.toList l[k] = T at *
      generalize hrk : l[k] = rk at *
      clear hrk
      obtain ⟨pn, pz, pl⟩ := rk
      simp only at *
      have CX := Lib.hid (CF.out pn pz po lv.length pcap _ HBW.out)
      rw [← HT.out] at CX
      cases T
      · have HV := Lib.hid (HR.out.trans (HN.out rfl))
        go_wp2_with fail
        refine CX.out.mono ?_
        rintro e w1 ⟨rfl, hb1⟩
        have HB2 := Lib.hid (HBW.out.trans (hb1.mono HBW.out.size))
        clear hb1
        go_wp2_with fail
        go_roundw
        case rel => exact ⟨k + 1, by omega, by go_num, HV, HB2⟩
        case measure => simp [intOf]; omega
      · have HV := Lib.hid (HR.out.trans (HY.out rfl))
        go_wp2_with fail
        refine CX.out.mono ?_
        rintro e w1 ⟨rfl, hb1⟩
        have HB2 := Lib.hid (HBW.out.trans (hb1.mono HBW.out.size))
        clear hb1
        go_wp2_with fail
        go_ret
        exact ⟨by rw [HV.out] <;> rfl, HB2.out⟩
    · have HV := Lib.hid (show RES = -1 by rw [HR.out, idxF_end _ l k (by omega)])
      have hkk : k = l.length := by omega
      subst hkk
      go_wp2_with fail
      go_ret
      exact ⟨by rw [HV.out] <;> rfl, HBW.out⟩
end Go.Proofs.Ytopmdeefcjdadaa
