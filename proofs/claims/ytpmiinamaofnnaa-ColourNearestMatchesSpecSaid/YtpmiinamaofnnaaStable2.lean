/- Swaps, ranges swapped, rotations of a row told by places. No program in it. -/
import Derived.Test.YtpmiinamaofnnaaStable
namespace Go.Proofs.Ytpmiinamaofnnaa
set_option linter.unusedVariables false
set_option linter.unusedSimpArgs false
section
variable {α : Type}
def upd (D : Nat → α) (i : Nat) (y : α) : Nat → α := fun n => if n = i then y else D n
def swp2 (D : Nat → α) (i j : Nat) : Nat → α := upd (upd D i (D j)) j (D i)
/-- n elements from a on change places with those from b on -/
def swr (D : Nat → α) (a b n : Nat) : Nat → α := fun i => if a ≤ i ∧ i < a + n then D (b + (i - a)) else if b ≤ i ∧ i < b + n then D (a + (i - b)) else D i
theorem swr_zero (D : Nat → α) (a b : Nat) : swr D a b 0 = D := by
  funext i
  unfold swr
  rw [if_neg (by omega), if_neg (by omega)]
theorem swr_step (D : Nat → α) (a b k n : Nat) (h : a + n ≤ b) (hk : k < n) : swp2 (swr D a b k) (a + k) (b + k) = swr D a b (k + 1) := by
  funext i
  have e1 : swr D a b k (a + k) = D (a + k) := by unfold swr; rw [if_neg (by omega), if_neg (by omega)]
  have e2 : swr D a b k (b + k) = D (b + k) := by unfold swr; rw [if_neg (by omega), if_neg (by omega)]
  unfold swp2 upd
  rw [e1, e2]
  by_cases c1 : i = b + k
  · subst c1
    rw [if_pos rfl]
    unfold swr
    rw [if_neg (by omega), if_pos (by omega)]
    congr 1; omega
  by_cases c2 : i = a + k
  · subst c2
    rw [if_neg c1, if_pos rfl]
    unfold swr
    rw [if_pos (by omega)]
    congr 1; omega
  rw [if_neg c1, if_neg c2]
  unfold swr
  by_cases c3 : a ≤ i ∧ i < a + k
  · rw [if_pos c3, if_pos (by omega)]
  · rw [if_neg c3, if_neg (show ¬ (a ≤ i ∧ i < a + (k + 1)) by omega)]
    by_cases c4 : b ≤ i ∧ i < b + k
    · rw [if_pos c4, if_pos (by omega)]
    · rw [if_neg c4, if_neg (by omega)]
/-- a rotation whose first part is the longer one -/
theorem rot_more (E : Nat → α) {m i j : Nat} (hi : i ≤ m) (hj : j < i) : rot (swr E (m - i) m j) (m - (i - j)) m (m + j) = rot E (m - i) m (m + j) := by
  funext x
  unfold rot swr
  repeat' split
  all_goals first | rfl | (exfalso; omega) | (congr 1; omega)
/-- .. the shorter one -/
theorem rot_less (E : Nat → α) {m i j : Nat} (hi : i ≤ m) (hj : i < j) : rot (swr E (m - i) (m + j - i) i) (m - i) m (m + (j - i)) = rot E (m - i) m (m + j) := by
  funext x
  unfold rot swr
  by_cases c1 : x < m - i
  · rw [if_pos c1, if_pos c1, if_neg (by omega), if_neg (by omega)]
  rw [if_neg c1, if_neg c1]
  by_cases c2 : x < m - i + (m + (j - i) - m)
  · rw [if_pos c2, if_pos (show x < m - i + (m + j - m) by omega), if_neg (by omega)]
    by_cases c3 : m + j - i ≤ m + (x - (m - i)) ∧ m + (x - (m - i)) < m + j - i + i
    · omega
    · rw [if_neg c3]
  rw [if_neg c2]
  by_cases c3 : x < m + (j - i)
  · rw [if_pos c3, if_pos (show m - i ≤ m - i + (x - (m - i + (m + (j - i) - m))) ∧ m - i + (x - (m - i + (m + (j - i) - m))) < m - i + i by omega), if_pos (show x < m - i + (m + j - m) by omega)]
    congr 1; omega
  · rw [if_neg c3]
    by_cases c4 : x < m + j
    · rw [if_neg (show ¬ (m - i ≤ x ∧ x < m - i + i) by omega), if_pos (show m + j - i ≤ x ∧ x < m + j - i + i by omega), if_neg (show ¬ x < m - i + (m + j - m) by omega), if_pos c4]
      congr 1; omega
    · rw [if_neg (by omega), if_neg (by omega), if_neg (by omega), if_neg c4]
theorem rot_same (E : Nat → α) {m i : Nat} (hi : i ≤ m) : swr E (m - i) m i = rot E (m - i) m (m + i) := by
  funext x
  unfold rot swr
  by_cases c1 : x < m - i
  · rw [if_pos c1, if_neg (by omega), if_neg (by omega)]
  rw [if_neg c1]
  by_cases c2 : x < m - i + i
  · rw [if_pos (by omega), if_pos (by omega)]
  rw [if_neg (by omega), if_neg (show ¬ x < m - i + (m + i - m) by omega)]
  by_cases c3 : x < m + i
  · rw [if_pos (by omega), if_pos c3]
    congr 1; omega
  · rw [if_neg (by omega), if_neg c3]
/-- the first element on its way to the end, one place a step -/
theorem rot_up (D : Nat → α) {a k : Nat} (h : a ≤ k) : swp2 (rot D a (a + 1) (k + 1)) k (k + 1) = rot D a (a + 1) (k + 2) := by
  have e1 : rot D a (a + 1) (k + 1) k = D a := by
    have := rot_snd D (show a ≤ a + 1 by omega) (show a + 1 ≤ k + 1 by omega) (i := 0) (by omega)
    rwa [show a + (k + 1 - (a + 1)) + 0 = k by omega, Nat.add_zero] at this
  have e2 : rot D a (a + 1) (k + 1) (k + 1) = D (k + 1) := rot_out D (by omega) (by omega) (.inr (by omega))
  funext x
  unfold swp2 upd
  rw [e1, e2]
  by_cases c1 : x = k + 1
  · subst c1
    rw [if_pos rfl]
    have := rot_snd D (show a ≤ a + 1 by omega) (show a + 1 ≤ k + 2 by omega) (i := 0) (by omega)
    rw [show a + (k + 2 - (a + 1)) + 0 = k + 1 by omega, Nat.add_zero] at this
    exact this.symm
  by_cases c2 : x = k
  · subst c2
    rw [if_neg c1, if_pos rfl]
    have := rot_fst D (show a ≤ a + 1 by omega) (show a + 1 ≤ x + 2 by omega) (i := x - a) (by omega)
    rw [show a + (x - a) = x by omega, show a + 1 + (x - a) = x + 1 by omega] at this
    exact this.symm
  rw [if_neg c1, if_neg c2]
  by_cases c3 : x < a
  · rw [rot_out D (by omega) (by omega) (.inl c3), rot_out D (by omega) (by omega) (.inl c3)]
  by_cases c4 : x < k
  · have h1 := rot_fst D (show a ≤ a + 1 by omega) (show a + 1 ≤ k + 1 by omega) (i := x - a) (by omega)
    have h2 := rot_fst D (show a ≤ a + 1 by omega) (show a + 1 ≤ k + 2 by omega) (i := x - a) (by omega)
    rw [show a + (x - a) = x by omega] at h1 h2
    rw [h1, h2]
  · rw [rot_out D (by omega) (by omega) (.inr (by omega)), rot_out D (by omega) (by omega) (.inr (by omega))]
theorem rot_start (D : Nat → α) (a : Nat) : rot D a (a + 1) (a + 1) = D := funext (rot_none (.inr rfl) (by omega) (Nat.le_refl _))
/-- the last element on its way to the front -/
theorem rot_down (D : Nat → α) {k m : Nat} (h : k < m) : swp2 (rot D (k + 1) m (m + 1)) (k + 1) k = rot D k m (m + 1) := by
  have e1 : rot D (k + 1) m (m + 1) (k + 1) = D m := by
    have := rot_fst D (show k + 1 ≤ m by omega) (show m ≤ m + 1 by omega) (i := 0) (by omega)
    rwa [Nat.add_zero, Nat.add_zero] at this
  have e2 : rot D (k + 1) m (m + 1) k = D k := rot_out D (by omega) (by omega) (.inl (by omega))
  funext x
  unfold swp2 upd
  rw [e1, e2]
  by_cases c1 : x = k
  · subst c1
    rw [if_pos rfl]
    have := rot_fst D (show x ≤ m by omega) (show m ≤ m + 1 by omega) (i := 0) (by omega)
    rw [Nat.add_zero, Nat.add_zero] at this
    exact this.symm
  by_cases c2 : x = k + 1
  · subst c2
    rw [if_neg c1, if_pos rfl]
    have := rot_snd D (show k ≤ m by omega) (show m ≤ m + 1 by omega) (i := 0) (by omega)
    rw [show k + (m + 1 - m) + 0 = k + 1 by omega, Nat.add_zero] at this
    exact this.symm
  rw [if_neg c1, if_neg c2]
  by_cases c3 : x < k
  · rw [rot_out D (by omega) (by omega) (.inl (by omega)), rot_out D (by omega) (by omega) (.inl c3)]
  by_cases c4 : x < m + 1
  · have h1 := rot_snd D (show k + 1 ≤ m by omega) (show m ≤ m + 1 by omega) (i := x - (k + 2)) (by omega)
    have h2 := rot_snd D (show k ≤ m by omega) (show m ≤ m + 1 by omega) (i := x - (k + 1)) (by omega)
    rw [show k + 1 + (m + 1 - m) + (x - (k + 2)) = x by omega] at h1
    rw [show k + (m + 1 - m) + (x - (k + 1)) = x by omega] at h2
    rw [h1, h2]
    congr 1; omega
  · rw [rot_out D (by omega) (by omega) (.inr (by omega)), rot_out D (by omega) (by omega) (.inr (by omega))]
theorem rot_start2 (D : Nat → α) (m : Nat) : rot D m m (m + 1) = D := funext (rot_none (.inl rfl) (Nat.le_refl _) (by omega))
/-! ### one element put into a sorted stretch -/
variable {f : α → Int}
/-- the first one of [a, b), put behind those that are less -/
theorem put_first {D : Nat → α} {a i b : Nat} (h0 : a + 1 ≤ i) (h1 : i ≤ b) (hB : SrtOn f D (a + 1) b) (hlo : ∀ j, a + 1 ≤ j → j < i → f (D j) < f (D a)) (hhi : ∀ j, i ≤ j → j < b → f (D a) ≤ f (D j)) :
    Moved f D (rot D a (a + 1) i) a b ∧ SrtOn f (rot D a (a + 1) i) a b := by
  have hm : Moved f D (rot D a (a + 1) i) a b := (rot_moved (by omega) h0 (fun x y g1 g2 g3 g4 => by
    obtain rfl : x = a := by omega
    exact hlo y g3 g4)).wide (Nat.le_refl a) (by omega) h1
  refine ⟨hm, ?_⟩
  have v1 : ∀ x, a ≤ x → x + 1 < i → rot D a (a + 1) i x = D (x + 1) := fun x g1 g2 => by
    have := rot_fst D (show a ≤ a + 1 by omega) h0 (i := x - a) (by omega)
    rwa [show a + (x - a) = x by omega, show a + 1 + (x - a) = x + 1 by omega] at this
  have v2 : rot D a (a + 1) i (i - 1) = D a := by
    have := rot_snd D (show a ≤ a + 1 by omega) h0 (i := 0) (by omega)
    rwa [show a + (i - (a + 1)) + 0 = i - 1 by omega, Nat.add_zero] at this
  have v3 : ∀ x, i ≤ x → rot D a (a + 1) i x = D x := fun x g => rot_out D (by omega) h0 (.inr g)
  intro x y g1 g2 g3
  by_cases c1 : x + 1 < i
  · rw [v1 x g1 c1]
    by_cases c2 : y + 1 < i
    · rw [v1 y (by omega) c2]; exact hB _ _ (by omega) (by omega) (by omega)
    by_cases c3 : y = i - 1
    · rw [c3, v2]; have := hlo (x + 1) (by omega) c1; omega
    · rw [v3 y (by omega)]; exact hB _ _ (by omega) (by omega) g3
  by_cases c2 : x = i - 1
  · rw [c2, v2]
    by_cases c3 : y = i - 1
    · rw [c3, v2]; exact Int.le_refl _
    · rw [v3 y (by omega)]; exact hhi y (by omega) g3
  · rw [v3 x (by omega), v3 y (by omega)]
    exact hB _ _ (by omega) g2 g3
/-- the last one of [a, m + 1), put ahead of those that are greater -/
theorem put_last {D : Nat → α} {a i m : Nat} (h0 : a ≤ i) (h1 : i ≤ m) (hA : SrtOn f D a m) (hlo : ∀ j, a ≤ j → j < i → f (D j) ≤ f (D m)) (hhi : ∀ j, i ≤ j → j < m → f (D m) < f (D j)) :
    Moved f D (rot D i m (m + 1)) a (m + 1) ∧ SrtOn f (rot D i m (m + 1)) a (m + 1) := by
  have hm : Moved f D (rot D i m (m + 1)) a (m + 1) := (rot_moved h1 (by omega) (fun x y g1 g2 g3 g4 => by
    obtain rfl : y = m := by omega
    exact hhi x g1 g2)).wide h0 (by omega) (Nat.le_refl _)
  refine ⟨hm, ?_⟩
  have v1 : ∀ x, x < i → rot D i m (m + 1) x = D x := fun x g => rot_out D h1 (by omega) (.inl g)
  have v2 : rot D i m (m + 1) i = D m := by
    have := rot_fst D h1 (show m ≤ m + 1 by omega) (i := 0) (by omega)
    rwa [Nat.add_zero, Nat.add_zero] at this
  have v3 : ∀ x, i < x → x < m + 1 → rot D i m (m + 1) x = D (x - 1) := fun x g1 g2 => by
    have := rot_snd D h1 (show m ≤ m + 1 by omega) (i := x - (i + 1)) (by omega)
    rw [show i + (m + 1 - m) + (x - (i + 1)) = x by omega] at this
    rw [this]
    congr 1; omega
  intro x y g1 g2 g3
  by_cases c1 : x < i
  · rw [v1 x c1]
    by_cases c2 : y < i
    · rw [v1 y c2]; exact hA _ _ g1 g2 (by omega)
    by_cases c3 : y = i
    · rw [c3, v2]; exact hlo x g1 c1
    · rw [v3 y (by omega) g3]; exact hA _ _ g1 (by omega) (by omega)
  by_cases c2 : x = i
  · rw [c2, v2]
    by_cases c3 : y = i
    · rw [c3, v2]; exact Int.le_refl _
    · rw [v3 y (by omega) g3]; have := hhi (y - 1) (by omega) (by omega); omega
  · rw [v3 x (by omega) (by omega), v3 y (by omega) g3]
    exact hA _ _ (by omega) (by omega) (by omega)
end
end Go.Proofs.Ytpmiinamaofnnaa
