/- What a library's text says, by lines and words. No walk in it. -/
import Derived.Test.YtppbagllhmeenaaGreatDoorT68M13
import Derived.Test.YtppbagllhmeenaaGreatDoorT68M14
import Derived.Test.YtppbagllhmeenaaGreatDoorT68M17

namespace Go.Proofs.YtppbagllhmeenaaGreatDoor
open Go.RowKit
open Classical
set_option linter.unusedVariables false
set_option linter.unusedSimpArgs false

def sFine : ByteArray := ⟨#[102, 105, 110, 101]⟩
def sDflt : ByteArray := ⟨#[100, 101, 102, 97, 117, 108, 116]⟩
def sSnap : ByteArray := ⟨#[115, 110, 97, 112]⟩
def sAt : ByteArray := ⟨#[97, 116]⟩
def sProf : ByteArray := ⟨#[112, 114, 111, 102, 105, 108, 101]⟩
/-- the group of a word; 0: none -/
def grpW (a : ByteArray) : Int := if a = grpT 1 then 1 else if a = grpT 2 then 2 else if a = grpT 3 then 3 else if a = grpT 4 then 4 else 0
/-- a number but 0 -/
noncomputable def nzN (s : ByteArray) : Option Int := (nbW s).bind fun n => if n = 0 then none else some n
noncomputable def nzL (s : ByteArray) : Option Int := (lvW s).bind fun n => if n = 0 then none else some n
/-- what may stand behind a word -/
noncomputable def optW (k : ByteArray) (f : ByteArray → Option Int) (R : List ByteArray) : Option (Int × List ByteArray) := match R with
  | a :: b :: r => if a = k then (f b).map fun n => (n, r) else some (0, R)
  | _ => some (0, R)
def snapW (R : List ByteArray) : Option Bool := match R with
  | [] => some false
  | [a] => if a = sSnap then some true else none
  | _ => none
noncomputable def tailW (g : Int) (n : ByteArray) (t : Int) (R : List ByteArray) : Option Par :=
  (optW sFine nzN R).bind fun x => (optW sDflt nzL x.2).bind fun y => (snapW y.2).map fun z => ⟨n, g, t, x.1, y.1, z, []⟩
noncomputable def parW (L : List ByteArray) : Option Par := match L with
  | g :: n :: t :: s :: R => if rowB n.data.toList = true ∧ t = sAt ∧ grpW g ≠ 0 then (nbW s).bind fun k => tailW (grpW g) n k R else none
  | _ => none
noncomputable def rngW (L : List ByteArray) : Option Rng := match L with
  | [a, b, n] => if rowB n.data.toList = true then (lvW a).bind fun l => (lvW b).map fun h => ⟨l, h, n⟩ else none
  | _ => none
noncomputable def prfW (L : List ByteArray) : Option Prf := match L with
  | [a, n, s] => if a = sProf ∧ rowB n.data.toList = true then (nbW s).map fun k => ⟨n, k, []⟩ else none
  | _ => none
/-- the last element made another one -/
def onLast {α : Type} (f : α → Option α) (l : List α) : Option (List α) := match l.getLast? with
  | none => none
  | some x => (f x).map fun y => l.dropLast ++ [y]
theorem onLast_nil {α : Type} (f : α → Option α) : onLast f [] = none := rfl
theorem onLast_snoc {α : Type} (f : α → Option α) (l : List α) (x : α) : onLast f (l ++ [x]) = (f x).map fun y => l ++ [y] := by
  unfold onLast
  rw [List.getLast?_concat, List.dropLast_concat]
def addR (r : Rng) (x : Par) : Par := ⟨x.name, x.grp, x.sl, x.fine, x.dflt, x.snap, x.rngs ++ [r]⟩
def addP (x : Par) (p : Prf) : Prf := ⟨p.name, p.size, p.pars ++ [x]⟩
def addRP (r : Rng) (p : Prf) : Option Prf := (onLast (fun x => some (addR r x)) p.pars).map fun l => ⟨p.name, p.size, l⟩
def four (s : ByteArray) : Bool := Lib.hasPrefix s.data.toList [32, 32, 32, 32]
def two (s : ByteArray) : Bool := Lib.hasPrefix s.data.toList [32, 32]
def cutN (n : Nat) (s : ByteArray) : ByteArray := s.extract n s.size
/-- what a line adds to a library; none: it cannot stand there -/
noncomputable def addL (l : List Prf) (s : ByteArray) : Option (List Prf) :=
  if four s = true then (rngW (wordsB 32 (cutN 4 s))).bind fun r => onLast (addRP r) l
  else if two s = true then (parW (wordsB 32 (cutN 2 s))).bind fun x => onLast (fun p => some (addP x p)) l
  else (prfW (wordsB 32 s)).map fun p => l ++ [p]
/-- the number of the first wrong line (0: none), and the library behind the lines -/
noncomputable def rdGo (wh : Bool) : Nat → List ByteArray → List Prf → Int × List Prf
  | _, [], l => (0, l)
  | k, x :: r, l => if wh = false ∧ r = [] then ((k : Int) + 1, []) else match addL l x with
    | none => ((k : Int) + 1, [])
    | some m => rdGo wh (k + 1) r m
/-- the fault, the line, the library of a text -/
noncomputable def rdF (r : Int × List Prf) : Int × Int × List Prf :=
  if r.1 ≠ 0 then (9, r.1, []) else if chkLib r.2 = 0 then (0, 0, r.2) else (chkLib r.2, 0, [])
noncomputable def rdX (s : ByteArray) : Int × Int × List Prf := if 200000 < s.size then (2, 0, []) else rdF (rdGo (linesW s) 0 (linesL s) [])
theorem rdX_large {s : ByteArray} (h : 200000 < s.size) : rdX s = (2, 0, []) := if_pos h
theorem rdX_ok {s : ByteArray} (h : ¬ 200000 < s.size) : rdX s = rdF (rdGo (linesW s) 0 (linesL s) []) := if_neg h
theorem rdGo_end (wh : Bool) (L : List ByteArray) (l : List Prf) : rdF (rdGo wh L.length (L.drop L.length) l) = if chkLib l = 0 then (0, 0, l) else (chkLib l, 0, []) := by
  rw [List.drop_length]
  unfold rdGo rdF
  rw [if_neg (by simp)]
theorem drop_nil {L : List ByteArray} {k : Nat} : L.drop (k + 1) = [] ↔ L.length ≤ k + 1 := by rw [List.drop_eq_nil_iff]
theorem rdGo_last {wh : Bool} {L : List ByteArray} {k : Nat} {l : List Prf} (h : k < L.length) (h1 : wh = false) (h2 : k + 1 = L.length) : rdF (rdGo wh k (L.drop k) l) = (9, (k : Int) + 1, []) := by
  rw [List.drop_eq_getElem_cons h]
  unfold rdGo
  rw [if_pos ⟨h1, drop_nil.2 (by omega)⟩]
  unfold rdF
  rw [if_pos (by show ((k : Int) + 1) ≠ 0; omega)]
theorem rdGo_bad {wh : Bool} {L : List ByteArray} {k : Nat} {l : List Prf} (h : k < L.length) (h1 : addL l L[k] = none) : rdF (rdGo wh k (L.drop k) l) = (9, (k : Int) + 1, []) := by
  rw [List.drop_eq_getElem_cons h]
  unfold rdGo
  rw [h1]
  unfold rdF
  rw [ite_self, if_pos (by show ((k : Int) + 1) ≠ 0; omega)]
theorem rdGo_step {wh : Bool} {L : List ByteArray} {k : Nat} {l m : List Prf} (h : k < L.length) (h1 : ¬ (wh = false ∧ k + 1 = L.length)) (h2 : addL l L[k] = some m) : rdGo wh k (L.drop k) l = rdGo wh (k + 1) (L.drop (k + 1)) m := by
  rw [List.drop_eq_getElem_cons h]
  conv => lhs; unfold rdGo
  rw [if_neg (fun e => h1 ⟨e.1, by have := drop_nil.1 e.2; omega⟩), h2]

/-! ### what is read fits -/
def LibFit (k : Nat) (l : List Prf) : Prop := l.length ≤ k ∧ ∀ p ∈ l, PrfFit p ∧ p.pars.length ≤ k ∧ ∀ x ∈ p.pars, x.rngs.length ≤ k
theorem LibFit.nil : LibFit 0 [] := ⟨by simp, by simp⟩
theorem LibFit.more {k m : Nat} {l : List Prf} (h : LibFit k l) (hk : k ≤ m) : LibFit m l :=
  ⟨by have := h.1; omega, fun p hp => ⟨(h.2 p hp).1, by have := (h.2 p hp).2.1; omega, fun x hx => by have := (h.2 p hp).2.2 x hx; omega⟩⟩
theorem i64_small {n : Int} (h0 : 0 ≤ n) (h1 : n ≤ 1000000000) : I64 n := by unfold I64; omega
theorem nzN_range {s : ByteArray} {n : Int} (h : nzN s = some n) : 0 ≤ n ∧ n ≤ 1000000000 := by
  unfold nzN at h
  obtain ⟨m, h1, h2⟩ := Option.bind_eq_some_iff.1 h
  split at h2
  · cases h2
  · injection h2 with h2
    subst h2
    exact nbW_range h1
theorem nzL_range {s : ByteArray} {n : Int} (h : nzL s = some n) : 0 ≤ n ∧ n ≤ 65535 := by
  unfold nzL at h
  obtain ⟨m, h1, h2⟩ := Option.bind_eq_some_iff.1 h
  split at h2
  · cases h2
  · injection h2 with h2
    subst h2
    exact lv_range h1
theorem optW_range {k : ByteArray} {f : ByteArray → Option Int} (hf : ∀ s n, f s = some n → 0 ≤ n ∧ n ≤ 1000000000) {R : List ByteArray} {x : Int × List ByteArray} (h : optW k f R = some x) : 0 ≤ x.1 ∧ x.1 ≤ 1000000000 := by
  unfold optW at h
  split at h
  · split at h
    · obtain ⟨n, h1, h2⟩ := Option.map_eq_some_iff.1 h
      subst h2
      exact hf _ _ h1
    · injection h with h; subst h; exact ⟨Int.le_refl 0, by show (0 : Int) ≤ 1000000000; omega⟩
  · injection h with h; subst h; exact ⟨Int.le_refl 0, by show (0 : Int) ≤ 1000000000; omega⟩
theorem grpW_range (a : ByteArray) : 0 ≤ grpW a ∧ grpW a ≤ 4 := by
  unfold grpW
  repeat' split
  all_goals decide
theorem tailW_fit {g : Int} {n : ByteArray} {t : Int} {R : List ByteArray} {x : Par} (hg : 0 ≤ g ∧ g ≤ 4) (ht : 0 ≤ t ∧ t ≤ 1000000000) (hn : n.size ≤ maxLen) (h : tailW g n t R = some x) : ParFit x ∧ x.rngs = [] := by
  unfold tailW at h
  obtain ⟨a, h1, h⟩ := Option.bind_eq_some_iff.1 h
  obtain ⟨b, h2, h⟩ := Option.bind_eq_some_iff.1 h
  obtain ⟨c, h3, h⟩ := Option.map_eq_some_iff.1 h
  subst h
  obtain ⟨a1, a2⟩ := optW_range (fun s n h => nzN_range h) h1
  obtain ⟨b1, b2⟩ := optW_range (fun s n h => by have := nzL_range h; omega) h2
  refine ⟨⟨i64_small hg.1 (by show g ≤ _; omega), i64_small ht.1 ht.2, i64_small a1 a2, i64_small b1 b2, hn, by simp⟩, rfl⟩
theorem parW_fit {L : List ByteArray} {x : Par} (hL : ∀ a ∈ L, a.size ≤ maxLen) (h : parW L = some x) : ParFit x ∧ x.rngs = [] := by
  unfold parW at h
  split at h
  · rename_i g n t s R
    split at h
    · obtain ⟨k, h1, h2⟩ := Option.bind_eq_some_iff.1 h
      exact tailW_fit (grpW_range g) (nbW_range h1) (hL n (by simp)) h2
    · cases h
  · cases h
theorem rngW_fit {L : List ByteArray} {r : Rng} (hL : ∀ a ∈ L, a.size ≤ maxLen) (h : rngW L = some r) : RngFit r := by
  unfold rngW at h
  split at h
  · rename_i a b n
    split at h
    · obtain ⟨k, h1, h⟩ := Option.bind_eq_some_iff.1 h
      obtain ⟨m, h2, h⟩ := Option.map_eq_some_iff.1 h
      subst h
      have := lv_range h1
      have := lv_range h2
      exact ⟨i64_small (by show 0 ≤ k; omega) (by show k ≤ _; omega), i64_small (by show 0 ≤ m; omega) (by show m ≤ _; omega), hL n (by simp)⟩
    · cases h
  · cases h
theorem prfW_fit {L : List ByteArray} {p : Prf} (hL : ∀ a ∈ L, a.size ≤ maxLen) (h : prfW L = some p) : PrfFit p ∧ p.pars = [] := by
  unfold prfW at h
  split at h
  · rename_i a n s
    split at h
    · obtain ⟨k, h1, h⟩ := Option.map_eq_some_iff.1 h
      subst h
      have := nbW_range h1
      exact ⟨⟨i64_small (by show 0 ≤ k; omega) (by show k ≤ _; omega), hL n (by simp), by simp⟩, rfl⟩
    · cases h
  · cases h
theorem snoc_cases {α : Type} (l : List α) : l = [] ∨ ∃ m x, l = m ++ [x] := by
  rcases List.eq_nil_or_concat l with h | ⟨m, x, h⟩
  · exact .inl h
  · exact .inr ⟨m, x, by rw [h, List.concat_eq_append]⟩
theorem fit_addR {k : Nat} {r : Rng} {p q : Prf} (hr : RngFit r) (hp : PrfFit p ∧ p.pars.length ≤ k ∧ ∀ x ∈ p.pars, x.rngs.length ≤ k) (h : addRP r p = some q) : PrfFit q ∧ q.pars.length ≤ k + 1 ∧ ∀ x ∈ q.pars, x.rngs.length ≤ k + 1 := by
  unfold addRP at h
  obtain ⟨l, h1, rfl⟩ := Option.map_eq_some_iff.1 h
  rcases snoc_cases p.pars with e | ⟨m, x, e⟩
  · rw [e, onLast_nil] at h1; cases h1
  rw [e, onLast_snoc] at h1
  injection h1 with h1
  subst h1
  obtain ⟨⟨a1, a2, a3⟩, a4, a5⟩ := hp
  rw [e] at a3 a4 a5
  have ax := a3 x (by simp)
  refine ⟨⟨a1, a2, ?_⟩, by simp at a4 ⊢; omega, ?_⟩
  · intro y hy
    rcases List.mem_append.1 hy with hy | hy
    · exact a3 y (by simp [hy])
    · obtain rfl := List.mem_singleton.1 hy
      obtain ⟨b1, b2, b3, b4, b5, b6⟩ := ax
      refine ⟨b1, b2, b3, b4, b5, fun z hz => ?_⟩
      rcases List.mem_append.1 hz with hz | hz
      · exact b6 z hz
      · obtain rfl := List.mem_singleton.1 hz
        exact hr
  · intro y hy
    rcases List.mem_append.1 hy with hy | hy
    · have := a5 y (by simp [hy]); omega
    · obtain rfl := List.mem_singleton.1 hy
      have := a5 x (by simp)
      simp [addR]
      omega
theorem LibFit.last {k : Nat} {l : List Prf} {p q : Prf} (h : LibFit k (l ++ [p])) (hq : PrfFit q ∧ q.pars.length ≤ k + 1 ∧ ∀ x ∈ q.pars, x.rngs.length ≤ k + 1) : LibFit (k + 1) (l ++ [q]) := by
  refine ⟨by have := h.1; simp at *; omega, fun y hy => ?_⟩
  rcases List.mem_append.1 hy with hy | hy
  · have := (h.more (Nat.le_succ k)).2 y (by simp [hy])
    exact this
  · obtain rfl := List.mem_singleton.1 hy
    exact hq
theorem cutN_size (n : Nat) (s : ByteArray) : (cutN n s).size ≤ s.size := by unfold cutN; simp
theorem addL_fit {k : Nat} {l m : List Prf} {s : ByteArray} (hs : s.size ≤ maxLen) (h : LibFit k l) (ha : addL l s = some m) : LibFit (k + 1) m := by
  have hw : ∀ t : ByteArray, t.size ≤ s.size → ∀ a ∈ wordsB 32 t, a.size ≤ maxLen := fun t ht a hta => by have := wordsB_size 32 t a hta; omega
  unfold addL at ha
  split at ha
  · obtain ⟨r, h1, h2⟩ := Option.bind_eq_some_iff.1 ha
    have hr := rngW_fit (hw _ (cutN_size 4 s)) h1
    rcases snoc_cases l with e | ⟨l0, p, e⟩
    · rw [e, onLast_nil] at h2; cases h2
    subst e
    rw [onLast_snoc] at h2
    obtain ⟨q, h3, rfl⟩ := Option.map_eq_some_iff.1 h2
    exact h.last (fit_addR hr (h.2 p (by simp)) h3)
  split at ha
  · obtain ⟨x, h1, h2⟩ := Option.bind_eq_some_iff.1 ha
    obtain ⟨hx, hx2⟩ := parW_fit (hw _ (cutN_size 2 s)) h1
    rcases snoc_cases l with e | ⟨l0, p, e⟩
    · rw [e, onLast_nil] at h2; cases h2
    subst e
    rw [onLast_snoc] at h2
    obtain ⟨q, h3, rfl⟩ := Option.map_eq_some_iff.1 h2
    injection h3 with h3
    subst h3
    obtain ⟨⟨a1, a2, a3⟩, a4, a5⟩ := h.2 p (by simp)
    refine h.last ⟨⟨a1, a2, fun y hy => ?_⟩, by simp [addP]; omega, fun y hy => ?_⟩
    · rcases List.mem_append.1 hy with hy | hy
      · exact a3 y hy
      · obtain rfl := List.mem_singleton.1 hy
        exact hx
    · rcases List.mem_append.1 hy with hy | hy
      · have := a5 y hy; omega
      · obtain rfl := List.mem_singleton.1 hy
        rw [hx2]
        simp
  · obtain ⟨p, h1, rfl⟩ := Option.map_eq_some_iff.1 ha
    obtain ⟨hp, hp2⟩ := prfW_fit (hw _ (Nat.le_refl _)) h1
    refine ⟨by have := h.1; simp; omega, fun y hy => ?_⟩
    rcases List.mem_append.1 hy with hy | hy
    · exact (h.more (Nat.le_succ k)).2 y hy
    · obtain rfl := List.mem_singleton.1 hy
      rw [hp2]
      exact ⟨hp, by simp, by simp⟩
end Go.Proofs.YtppbagllhmeenaaGreatDoor
