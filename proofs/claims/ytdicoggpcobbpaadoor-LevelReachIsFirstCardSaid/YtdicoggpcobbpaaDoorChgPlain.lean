/- The changes of a fade, in plain Lean: a search by halves finds the least time; the times of the changes; their levels. -/
import Derived.Test.YtdicoggpcobbpaaDoorRReach
namespace Go.Proofs.YtdicoggpcobbpaaDoor

/-- a search by halves finds the least place at which something holds that goes on to hold -/
theorem bs_least (P : Int → Bool) : ∀ (n : Nat) (lo hi : Int), (hi - lo).toNat ≤ n → lo ≤ hi → (∀ a b, lo ≤ a → a ≤ b → b ≤ hi → P a = true → P b = true) → P hi = true →
    lo ≤ bs P n lo hi ∧ bs P n lo hi ≤ hi ∧ P (bs P n lo hi) = true ∧ ∀ a, lo ≤ a → a < bs P n lo hi → P a = false := by
  intro n
  induction n with
  | zero =>
    intro lo hi hn hl hm hh
    have e : lo = hi := by omega
    subst e
    exact ⟨Int.le_refl _, Int.le_refl _, hh, fun a h1 h2 => by simp only [bs] at h2; omega⟩
  | succ n ih =>
    intro lo hi hn hl hm hh
    simp only [bs]
    by_cases h : lo < hi
    · rw [if_pos h]
      cases hp : P ((lo + hi) / 2)
      · rw [if_neg (by simp)]
        obtain ⟨a1, a2, a3, a4⟩ := ih ((lo + hi) / 2 + 1) hi (by omega) (by omega) (fun a b h1 h2 h3 h4 => hm a b (by omega) h2 h3 h4) hh
        refine ⟨by omega, a2, a3, fun a h1 h2 => ?_⟩
        by_cases hc : a ≤ (lo + hi) / 2
        · cases hq : P a
          · rfl
          · have := hm a ((lo + hi) / 2) h1 hc (by omega) hq
            rw [hp] at this; cases this
        · exact a4 a (by omega) h2
      · rw [if_pos rfl]
        obtain ⟨a1, a2, a3, a4⟩ := ih lo ((lo + hi) / 2) (by omega) (by omega) (fun a b h1 h2 h3 h4 => hm a b h1 h2 (by omega) h4) hp
        exact ⟨a1, by omega, a3, a4⟩
    · rw [if_neg h]
      have e : lo = hi := by omega
      subst e
      exact ⟨Int.le_refl _, Int.le_refl _, hh, fun a h1 h2 => by omega⟩
theorem bsV_least (P : Int → Bool) (lo hi : Int) (hl : lo ≤ hi) (hm : ∀ a b, lo ≤ a → a ≤ b → b ≤ hi → P a = true → P b = true) (hh : P hi = true) :
    lo ≤ bsV P lo hi ∧ bsV P lo hi ≤ hi ∧ P (bsV P lo hi) = true ∧ ∀ a, lo ≤ a → a < bsV P lo hi → P a = false :=
  bs_least P _ lo hi (Nat.le_refl _) hl hm hh

/-- .. and the same place is found from any right beginning, for any test that says the same -/
theorem bsV_same (P Q : Int → Bool) (lo lo' hi : Int) (h1 : lo ≤ lo') (h2 : lo' ≤ hi) (hm : ∀ a b, lo ≤ a → a ≤ b → b ≤ hi → P a = true → P b = true) (hh : P hi = true)
    (hf : ∀ a, lo ≤ a → a < lo' → P a = false) (he : ∀ a, lo' ≤ a → a ≤ hi → P a = Q a) : bsV P lo hi = bsV Q lo' hi := by
  obtain ⟨a1, a2, a3, a4⟩ := bsV_least P lo hi (by omega) hm hh
  obtain ⟨b1, b2, b3, b4⟩ := bsV_least Q lo' hi h2 (fun a b c1 c2 c3 c4 => by rw [← he b (by omega) c3]; exact hm a b (by omega) c2 c3 (by rw [he a c1 (by omega)]; exact c4)) (by rw [← he hi h2 (Int.le_refl _)]; exact hh)
  have hge : lo' ≤ bsV P lo hi := by
    by_cases h : lo' ≤ bsV P lo hi
    · exact h
    · have := hf (bsV P lo hi) a1 (by omega)
      rw [a3] at this; cases this
  by_cases h3 : bsV P lo hi < bsV Q lo' hi
  · have := b4 _ hge h3
    rw [← he _ hge a2, a3] at this; cases this
  · by_cases h4 : bsV Q lo' hi < bsV P lo hi
    · have := a4 _ (by omega) h4
      rw [he _ b1 b2, b3] at this; cases this
    · omega

def endT (f : Fd) : Int := f.start + f.delay + f.time
/-- the time of the next change -/
def nxt (f : Fd) (t : Int) : Int := bsV (fun u => decide (atV f u ≠ atV f t)) t (endT f)
/-- the level that the reference waits for -/
def nextL (f : Fd) (n : Int) : Int := if f.to < f.fr then n - 1 else n + 1
def tm (f : Fd) : Nat → Int
  | 0 => f.start
  | k + 1 => nxt f (tm f k)
def chg (f : Fd) (n : Nat) : List (Int × Int) := (List.range n).map fun k => (tm f k, atV f (tm f k))
/-- how many changes there are, of n more from the k-th on -/
def cnt (f : Fd) : Nat → Nat → Option Nat
  | 0, _ => none
  | n + 1, k => if atV f (tm f k) = f.to then some (k + 1) else cnt f n (k + 1)
theorem chg_len (f : Fd) (n : Nat) : (chg f n).length = n := by simp [chg]
theorem chg_get (f : Fd) (n k : Nat) (h : k < (chg f n).length) : (chg f n)[k] = (tm f k, atV f (tm f k)) := by simp [chg]
theorem chg_snoc (f : Fd) (n : Nat) : chg f (n + 1) = chg f n ++ [(tm f n, atV f (tm f n))] := by simp [chg, List.range_succ]

theorem at_endT (f : Fd) (t : Int) (h : endT f ≤ t) : atV f t = f.to := if_pos h
theorem not_end (f : Fd) (t : Int) (h : atV f t ≠ f.to) : t < endT f := by
  by_cases h1 : endT f ≤ t
  · exact absurd (at_endT f t h1) h
  · omega
theorem nxt_mono (f : Fd) (hf : RightF f) (t : Int) : ∀ a b, t ≤ a → a ≤ b → decide (atV f a ≠ atV f t) = true → decide (atV f b ≠ atV f t) = true := by
  intro a b h1 h2 h3
  have m1 := at_mono f hf t a h1
  have m2 := at_mono f hf a b h2
  simp at h3 ⊢
  by_cases h : f.fr ≤ f.to
  · have := m1.1 h; have := m2.1 h; omega
  · have := m1.2 (by omega); have := m2.2 (by omega); omega
theorem nxt_facts (f : Fd) (hf : RightF f) (t : Int) (hn : atV f t ≠ f.to) :
    t < nxt f t ∧ nxt f t ≤ endT f ∧ atV f (nxt f t) ≠ atV f t ∧ ∀ a, t ≤ a → a < nxt f t → atV f a = atV f t := by
  have he := not_end f t hn
  obtain ⟨a1, a2, a3, a4⟩ := bsV_least (fun u => decide (atV f u ≠ atV f t)) t (endT f) (by omega) (fun a b h1 h2 _ h4 => nxt_mono f hf t a b h1 h2 h4) (by
    simp; rw [at_endT f _ (Int.le_refl _)]; omega)
  have a3' : atV f (nxt f t) ≠ atV f t := of_decide_eq_true a3
  refine ⟨?_, a2, a3', fun a h1 h2 => Classical.byContradiction fun h => of_decide_eq_false (a4 a h1 h2) h⟩
  have : t ≠ nxt f t := fun e => a3' (by rw [← e])
  have : t ≤ nxt f t := a1
  omega
theorem nxt_ref (f : Fd) (hf : RightF f) (t : Int) (hn : atV f t ≠ f.to) : bsV (fun u => reachB f (atV f u) (nextL f (atV f t))) (t + 1) (endT f) = nxt f t := by
  have he := not_end f t hn
  symm
  refine bsV_same _ _ t (t + 1) (endT f) (by omega) (by omega) (fun a b h1 h2 _ h4 => nxt_mono f hf t a b h1 h2 h4) (by
    simp; rw [at_endT f _ (Int.le_refl _)]; omega) (fun a h1 h2 => by have e : a = t := by omega
                                                                      subst e; simp) (fun a h1 h2 => ?_)
  have m1 := at_mono f hf t a (by omega)
  have r1 := at_range f hf t
  unfold reachB nextL
  rcases Int.lt_trichotomy f.fr f.to with h | h | h
  · rw [if_pos h, if_neg (by omega)]
    have := m1.1 (by omega)
    show decide _ = decide _
    rw [Bool.eq_iff_iff, decide_eq_true_iff, decide_eq_true_iff]; omega
  · have := r1.1 (by omega)
    omega
  · rw [if_neg (by omega), if_pos h, if_pos h]
    have := m1.2 (by omega)
    show decide _ = decide _
    rw [Bool.eq_iff_iff, decide_eq_true_iff, decide_eq_true_iff]; omega

theorem tm_range (f : Fd) (hf : RightF f) (k : Nat) (h : ∀ j, j < k → atV f (tm f j) ≠ f.to) : f.start ≤ tm f k ∧ tm f k ≤ endT f := by
  induction k with
  | zero =>
    obtain ⟨_, _, b1, b2, b3, b4, _⟩ := hf
    unfold IsTm at b1 b2 b3 b4
    unfold endT tm
    omega
  | succ k ih =>
    have r := ih (fun j hj => h j (by omega))
    have := nxt_facts f hf (tm f k) (h k (by omega))
    show f.start ≤ nxt f (tm f k) ∧ nxt f (tm f k) ≤ endT f
    omega

theorem cnt_some (f : Fd) : ∀ (n k m : Nat), cnt f n k = some m → k < m ∧ m ≤ k + n ∧ atV f (tm f (m - 1)) = f.to ∧ ∀ j, k ≤ j → j + 1 < m → atV f (tm f j) ≠ f.to := by
  intro n
  induction n with
  | zero => intro k m h; cases h
  | succ n ih =>
    intro k m h
    simp only [cnt] at h
    by_cases hc : atV f (tm f k) = f.to
    · rw [if_pos hc] at h
      obtain rfl := Option.some.inj h
      exact ⟨by omega, by omega, by simpa using hc, fun j h1 h2 => by omega⟩
    · rw [if_neg hc] at h
      obtain ⟨a1, a2, a3, a4⟩ := ih _ _ h
      refine ⟨by omega, by omega, a3, fun j h1 h2 => ?_⟩
      by_cases e : j = k
      · subst e; exact hc
      · exact a4 j (by omega) h2

/-- what Changes returns -/
noncomputable def chgL (f : Fd) : List (Int × Int) := if checkF f ≠ 0 then [] else match cnt f 5000 0 with | some m => chg f m | none => []
noncomputable def chgE (f : Fd) (large : Int) : Int := if checkF f ≠ 0 then checkF f else match cnt f 5000 0 with | some _ => 0 | none => large

/-- the level of the last one of n changes up to a time -/
def lastL (f : Fd) (t : Int) : Nat → Int
  | 0 => -1
  | n + 1 => if tm f n ≤ t then atV f (tm f n) else lastL f t n
theorem lastL_at (f : Fd) (hf : RightF f) (t : Int) (ht : f.start ≤ t) : ∀ (n : Nat), (∀ j, j < n → atV f (tm f j) ≠ f.to) → lastL f t (n + 1) = if tm f n ≤ t then atV f (tm f n) else atV f t := by
  intro n
  induction n with
  | zero =>
    intro _
    show (if tm f 0 ≤ t then _ else lastL f t 0) = _
    rw [if_pos (show tm f 0 ≤ t from ht), if_pos (show tm f 0 ≤ t from ht)]
  | succ n ih =>
    intro h
    show (if tm f (n + 1) ≤ t then _ else lastL f t (n + 1)) = _
    by_cases h1 : tm f (n + 1) ≤ t
    · rw [if_pos h1, if_pos h1]
    · rw [if_neg h1, if_neg h1, ih (fun j hj => h j (by omega))]
      by_cases h2 : tm f n ≤ t
      · rw [if_pos h2]
        have := (nxt_facts f hf (tm f n) (h n (by omega))).2.2.2 t h2 (by show t < tm f (n + 1); omega)
        exact this.symm
      · rw [if_neg h2]
theorem lastL_end (f : Fd) (hf : RightF f) (t : Int) (ht : f.start ≤ t) (m : Nat) (hm : cnt f 5000 0 = some m) : lastL f t m = atV f t := by
  obtain ⟨a1, a2, a3, a4⟩ := cnt_some f _ _ _ hm
  obtain ⟨n, rfl⟩ : ∃ n, m = n + 1 := ⟨m - 1, by omega⟩
  rw [lastL_at f hf t ht n (fun j hj => a4 j (by omega) (by omega))]
  by_cases h : tm f n ≤ t
  · rw [if_pos h]
    have e : atV f (tm f n) = f.to := by simpa using a3
    rw [e]
    have m1 := at_mono f hf (tm f n) t h
    have r1 := at_range f hf t
    by_cases hc : f.fr ≤ f.to
    · have := m1.1 hc; have := r1.1 hc; omega
    · have := m1.2 (by omega); have := r1.2 (by omega); omega
  · rw [if_neg h]
end Go.Proofs.YtdicoggpcobbpaaDoor
