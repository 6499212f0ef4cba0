/- A stable order by a key: lists, and stretches of a row. No program in it. -/
import Derived.Test.YtpmiinamaofnnaaCellRows
namespace Go.Proofs.Ytpmiinamaofnnaa
set_option linter.unusedVariables false
set_option linter.unusedSimpArgs false
section
variable {α : Type} (f : α → Int)

def Srt (l : List α) : Prop := l.Pairwise fun x y => f x ≤ f y
/-- each key's elements in the same order -/
def Eqv (l l' : List α) : Prop := ∀ v : Int, l'.filter (fun x => decide (f x = v)) = l.filter (fun x => decide (f x = v))
theorem Eqv.refl (l : List α) : Eqv f l l := fun _ => rfl
variable {f}
theorem Eqv.trans {a b c : List α} (h : Eqv f a b) (g : Eqv f b c) : Eqv f a c := fun v => (g v).trans (h v)
theorem Eqv.symm {a b : List α} (h : Eqv f a b) : Eqv f b a := fun v => (h v).symm
theorem Eqv.app {a b c d : List α} (h : Eqv f a b) (g : Eqv f c d) : Eqv f (a ++ c) (b ++ d) := fun v => by rw [List.filter_append, List.filter_append, h v, g v]
theorem Eqv.mem {a b : List α} (h : Eqv f a b) (x : α) : x ∈ b ↔ x ∈ a := by
  have key : ∀ l : List α, x ∈ l ↔ x ∈ l.filter (fun y => decide (f y = f x)) := fun l => by simp
  rw [key b, key a, h (f x)]
theorem filter_none {l : List α} {v : Int} (h : ∀ x ∈ l, f x ≠ v) : l.filter (fun x => decide (f x = v)) = [] := by
  rw [List.filter_eq_nil_iff]
  intro x hx
  simpa using h x hx
/-- two stretches change places, those behind being the lesser ones -/
theorem Eqv.swap {X Y : List α} (h : ∀ x ∈ X, ∀ y ∈ Y, f y < f x) : Eqv f (X ++ Y) (Y ++ X) := by
  intro v
  rw [List.filter_append, List.filter_append]
  by_cases hx : ∃ x ∈ X, f x = v
  · obtain ⟨x, hx, rfl⟩ := hx
    rw [filter_none (l := Y) (fun y hy => by have := h x hx y hy; omega)]
    simp
  · rw [filter_none (l := X) (fun x hx' e => hx ⟨x, hx', e⟩)]
    simp
theorem stable_unique : ∀ (l1 l2 : List α), Srt f l1 → Srt f l2 → Eqv f l1 l2 → l1 = l2
  | [], l2, _, _, h => by
    cases l2 with
    | nil => rfl
    | cons y t => have := (h.mem y).1 (by simp); simp at this
  | x :: t1, l2, h1, h2, h => by
    cases l2 with
    | nil => have := (h.mem x).2 (by simp); simp at this
    | cons y t2 =>
      obtain ⟨a1, b1⟩ := List.pairwise_cons.1 h1
      obtain ⟨a2, b2⟩ := List.pairwise_cons.1 h2
      have hxy : f x = f y := by
        have e1 : x ∈ y :: t2 := (h.mem x).2 (by simp)
        have e2 : y ∈ x :: t1 := (h.mem y).1 (by simp)
        have g1 : f y ≤ f x := by
          rcases List.mem_cons.1 e1 with rfl | e
          · exact Int.le_refl _
          · exact a2 x e
        have g2 : f x ≤ f y := by
          rcases List.mem_cons.1 e2 with rfl | e
          · exact Int.le_refl _
          · exact a1 y e
        omega
      have hv := h (f x)
      rw [List.filter_cons_of_pos (by simpa using hxy.symm), List.filter_cons_of_pos (by simp)] at hv
      injection hv with e1 e2
      subst e1
      rw [stable_unique t1 t2 b1 b2 (fun v => by
        have := h v
        by_cases hc : f y = v
        · rw [List.filter_cons_of_pos (by simpa using hc), List.filter_cons_of_pos (by simpa using hc)] at this
          injection this
        · rw [List.filter_cons_of_neg (by simpa using hc), List.filter_cons_of_neg (by simpa using hc)] at this
          exact this)]
/-! ### an element put in behind its equals -/
variable (f)
def insS (x : α) : List α → List α
  | [] => [x]
  | y :: t => if f x < f y then x :: y :: t else y :: insS x t
def stb (l : List α) : List α := l.foldl (fun a x => insS f x a) []
variable {f}
theorem insS_mem {x y : α} : ∀ {l : List α}, y ∈ insS f x l ↔ y = x ∨ y ∈ l
  | [] => by simp [insS]
  | z :: t => by
    unfold insS
    split
    · simp
    · simp only [List.mem_cons, insS_mem (l := t)]
      constructor
      · rintro (h | h | h)
        · exact .inr (.inl h)
        · exact .inl h
        · exact .inr (.inr h)
      · rintro (h | h | h)
        · exact .inr (.inl h)
        · exact .inl h
        · exact .inr (.inr h)
theorem insS_srt {x : α} : ∀ {l : List α}, Srt f l → Srt f (insS f x l)
  | [], _ => by simp [insS, Srt]
  | z :: t, h => by
    obtain ⟨a, b⟩ := List.pairwise_cons.1 h
    unfold insS
    split
    · rename_i hc
      refine List.pairwise_cons.2 ⟨fun y hy => ?_, h⟩
      rcases List.mem_cons.1 hy with rfl | hy
      · omega
      · have := a y hy; omega
    · rename_i hc
      refine List.pairwise_cons.2 ⟨fun y hy => ?_, insS_srt b⟩
      rcases insS_mem.1 hy with rfl | hy
      · omega
      · exact a y hy
theorem insS_eqv {x : α} : ∀ {l : List α}, Srt f l → Eqv f (l ++ [x]) (insS f x l)
  | [], _ => Eqv.refl f _
  | z :: t, h => by
    obtain ⟨a, b⟩ := List.pairwise_cons.1 h
    unfold insS
    split
    · rename_i hc
      exact Eqv.swap (X := z :: t) (Y := [x]) (fun u hu y hy => by
        obtain rfl := List.mem_singleton.1 hy
        rcases List.mem_cons.1 hu with rfl | hu
        · exact hc
        · have := a u hu; omega)
    · exact Eqv.app (a := [z]) (b := [z]) (Eqv.refl f _) (insS_eqv b)
theorem stb_ok (l : List α) : Srt f (stb f l) ∧ Eqv f l (stb f l) := by
  have key : ∀ (l acc pre : List α), Srt f acc → Eqv f pre acc → Srt f (l.foldl (fun a x => insS f x a) acc) ∧ Eqv f (pre ++ l) (l.foldl (fun a x => insS f x a) acc) := by
    intro l
    induction l with
    | nil => intro acc pre h1 h2; exact ⟨h1, by simpa using h2⟩
    | cons x t ih =>
      intro acc pre h1 h2
      have := ih (insS f x acc) (pre ++ [x]) (insS_srt h1) ((h2.app (Eqv.refl f [x])).trans (insS_eqv h1))
      simpa using this
  have := key l [] [] List.Pairwise.nil (Eqv.refl f _)
  simpa [stb] using this
theorem stb_of {l s : List α} (h1 : Srt f s) (h2 : Eqv f l s) : s = stb f l := stable_unique s (stb f l) h1 (stb_ok l).1 ((h2.symm).trans (stb_ok l).2)
theorem stb_len (l : List α) : (stb f l).length = l.length := by
  have i1 : ∀ (x : α) (l : List α), (insS f x l).length = l.length + 1 := by
    intro x l
    induction l with
    | nil => rfl
    | cons y t ih => unfold insS; split <;> simp [ih]
  have key : ∀ (l acc : List α), (l.foldl (fun a x => insS f x a) acc).length = acc.length + l.length := by
    intro l
    induction l with
    | nil => intro acc; rfl
    | cons x t ih => intro acc; rw [List.foldl_cons, ih, i1, List.length_cons]; omega
  have := key l []
  simpa [stb] using this
end

/-! ### stretches of a row told by places -/
section
variable {α : Type}
def sgm (D : Nat → α) (a b : Nat) : List α := (List.range' a (b - a)).map D
theorem sgm_len (D : Nat → α) (a b : Nat) : (sgm D a b).length = b - a := by simp [sgm]
theorem sgm_get (D : Nat → α) (a b i : Nat) (h : i < (sgm D a b).length) : (sgm D a b)[i] = D (a + i) := by simp [sgm]
theorem sgm_nil (D : Nat → α) (a b : Nat) (h : b ≤ a) : sgm D a b = [] := by unfold sgm; rw [show b - a = 0 by omega]; rfl
theorem sgm_app (D : Nat → α) {a c b : Nat} (h1 : a ≤ c) (h2 : c ≤ b) : sgm D a b = sgm D a c ++ sgm D c b := by
  unfold sgm
  rw [show b - a = (c - a) + (b - c) by omega, ← List.map_append]
  congr 1
  rw [List.range'_append_1 |>.symm]
  congr 2
  omega
theorem sgm_mem (D : Nat → α) {a b : Nat} {x : α} : x ∈ sgm D a b ↔ ∃ i, a ≤ i ∧ i < b ∧ D i = x := by
  unfold sgm
  simp only [List.mem_map, List.mem_range'_1]
  constructor
  · rintro ⟨i, h1, rfl⟩; exact ⟨i, h1.1, by omega, rfl⟩
  · rintro ⟨i, h1, h2, rfl⟩; exact ⟨i, ⟨h1, by omega⟩, rfl⟩
theorem sgm_congr {D E : Nat → α} {a b : Nat} (h : ∀ i, a ≤ i → i < b → E i = D i) : sgm E a b = sgm D a b := by
  unfold sgm
  apply List.map_congr_left
  intro i hi
  rw [List.mem_range'_1] at hi
  exact h i hi.1 (by omega)
theorem sgm_shift {D E : Nat → α} {a b c d : Nat} (hl : b - a = d - c) (h : ∀ i, i < b - a → E (a + i) = D (c + i)) : sgm E a b = sgm D c d := by
  apply List.ext_getElem
  · rw [sgm_len, sgm_len, hl]
  · intro i h1 h2
    rw [sgm_get, sgm_get]
    exact h i (by rw [sgm_len] at h1; exact h1)
variable (f : α → Int)
def SrtOn (D : Nat → α) (a b : Nat) : Prop := ∀ i j, a ≤ i → i ≤ j → j < b → f (D i) ≤ f (D j)
variable {f}
theorem SrtOn.sgm {D : Nat → α} {a b : Nat} (h : SrtOn f D a b) : Srt f (sgm D a b) := by
  unfold Srt
  rw [List.pairwise_iff_getElem]
  intro i j hi hj hij
  rw [sgm_get, sgm_get]
  rw [sgm_len] at hi hj
  exact h _ _ (by omega) (by omega) (by omega)
theorem SrtOn.of_seg {D : Nat → α} {a b : Nat} (h : Srt f (Go.Proofs.Ytpmiinamaofnnaa.sgm D a b)) : SrtOn f D a b := by
  intro i j h1 h2 h3
  by_cases e : i = j
  · subst e; exact Int.le_refl _
  unfold Srt at h
  rw [List.pairwise_iff_getElem] at h
  have := h (i - a) (j - a) (by rw [sgm_len]; omega) (by rw [sgm_len]; omega) (by omega)
  rw [sgm_get, sgm_get, show a + (i - a) = i by omega, show a + (j - a) = j by omega] at this
  exact this
theorem SrtOn.sub {D : Nat → α} {a b c d : Nat} (h : SrtOn f D a b) (h1 : a ≤ c) (h2 : d ≤ b) : SrtOn f D c d := fun i j g1 g2 g3 => h i j (by omega) g2 (by omega)
theorem SrtOn.congr {D E : Nat → α} {a b : Nat} (h : SrtOn f D a b) (he : ∀ i, a ≤ i → i < b → E i = D i) : SrtOn f E a b := fun i j g1 g2 g3 => by
  rw [he i g1 (by omega), he j (by omega) g3]
  exact h i j g1 g2 g3
/-- two sorted stretches, the first one's elements not above the second one's -/
theorem SrtOn.join {D : Nat → α} {a c b : Nat} (h1 : SrtOn f D a c) (h2 : SrtOn f D c b) (h : ∀ i j, a ≤ i → i < c → c ≤ j → j < b → f (D i) ≤ f (D j)) : SrtOn f D a b := by
  intro i j g1 g2 g3
  by_cases hi : i < c
  · by_cases hj : j < c
    · exact h1 i j g1 g2 hj
    · exact h i j g1 hi (by omega) g3
  · exact h2 i j (by omega) g2 g3
/-- what a part of the sort does to a row: the elements of [a, b) in another order, equals in the old one; all else as it was -/
structure Moved (f : α → Int) (D E : Nat → α) (a b : Nat) : Prop where
  out : ∀ i, i < a ∨ b ≤ i → E i = D i
  eqv : Eqv f (sgm D a b) (sgm E a b)
theorem Moved.refl (D : Nat → α) (a b : Nat) : Moved f D D a b := ⟨fun _ _ => rfl, Eqv.refl f _⟩
theorem Moved.trans {D E F : Nat → α} {a b : Nat} (h : Moved f D E a b) (g : Moved f E F a b) : Moved f D F a b := ⟨fun i hi => (g.out i hi).trans (h.out i hi), h.eqv.trans g.eqv⟩
theorem Moved.wide {D E : Nat → α} {a b c d : Nat} (h : Moved f D E c d) (h1 : a ≤ c) (h2 : c ≤ d) (h3 : d ≤ b) : Moved f D E a b := by
  refine ⟨fun i hi => h.out i (by omega), ?_⟩
  rw [sgm_app D h1 (show c ≤ b by omega), sgm_app D h2 h3, sgm_app E h1 (show c ≤ b by omega), sgm_app E h2 h3,
    sgm_congr (D := D) (E := E) (a := a) (b := c) (fun i _ hi => h.out i (.inl hi)), sgm_congr (D := D) (E := E) (a := d) (b := b) (fun i hi _ => h.out i (.inr hi))]
  exact (Eqv.refl f _).app (h.eqv.app (Eqv.refl f _))
theorem Moved.mem {D E : Nat → α} {a b : Nat} (h : Moved f D E a b) {i : Nat} (h1 : a ≤ i) (h2 : i < b) : ∃ j, a ≤ j ∧ j < b ∧ D j = E i := by
  have := (h.eqv.mem (E i)).1 (sgm_mem E |>.2 ⟨i, h1, h2, rfl⟩)
  exact (sgm_mem D).1 this
/-- two stretches change places -/
def rot (D : Nat → α) (a m b : Nat) : Nat → α := fun i => if i < a then D i else if i < a + (b - m) then D (m + (i - a)) else if i < b then D (a + (i - (a + (b - m)))) else D i
theorem rot_out (D : Nat → α) {a m b : Nat} (h1 : a ≤ m) (h2 : m ≤ b) {i : Nat} (h : i < a ∨ b ≤ i) : rot D a m b i = D i := by
  unfold rot
  rcases h with h | h
  · rw [if_pos h]
  · rw [if_neg (by omega), if_neg (by omega), if_neg (by omega)]
theorem rot_fst (D : Nat → α) {a m b : Nat} (h1 : a ≤ m) (h2 : m ≤ b) {i : Nat} (h : i < b - m) : rot D a m b (a + i) = D (m + i) := by
  unfold rot
  rw [if_neg (by omega), if_pos (by omega), show a + i - a = i by omega]
theorem rot_snd (D : Nat → α) {a m b : Nat} (h1 : a ≤ m) (h2 : m ≤ b) {i : Nat} (h : i < m - a) : rot D a m b (a + (b - m) + i) = D (a + i) := by
  unfold rot
  rw [if_neg (by omega), if_neg (by omega), if_pos (by omega), show a + (b - m) + i - (a + (b - m)) = i by omega]
theorem rot_sgm (D : Nat → α) {a m b : Nat} (h1 : a ≤ m) (h2 : m ≤ b) : sgm (rot D a m b) a b = sgm D m b ++ sgm D a m := by
  rw [sgm_app _ (show a ≤ a + (b - m) by omega) (show a + (b - m) ≤ b by omega)]
  congr 1
  · exact sgm_shift (by omega) (fun i hi => rot_fst D h1 h2 (by omega))
  · exact sgm_shift (by omega) (fun i hi => rot_snd D h1 h2 (by omega))
theorem rot_moved {D : Nat → α} {a m b : Nat} (h1 : a ≤ m) (h2 : m ≤ b) (h : ∀ i j, a ≤ i → i < m → m ≤ j → j < b → f (D j) < f (D i)) : Moved f D (rot D a m b) a b := by
  refine ⟨fun i hi => rot_out D h1 h2 hi, ?_⟩
  rw [rot_sgm D h1 h2, sgm_app D h1 h2]
  refine Eqv.swap ?_
  intro x hx y hy
  obtain ⟨i, g1, g2, rfl⟩ := (sgm_mem D).1 hx
  obtain ⟨j, g3, g4, rfl⟩ := (sgm_mem D).1 hy
  exact h i j g1 g2 g3 g4
theorem rot_none {D : Nat → α} {a m b : Nat} (h : m = a ∨ m = b) (h1 : a ≤ m) (h2 : m ≤ b) : ∀ i, rot D a m b i = D i := by
  intro i
  by_cases c1 : i < a
  · exact rot_out D h1 h2 (.inl c1)
  by_cases c2 : b ≤ i
  · exact rot_out D h1 h2 (.inr c2)
  rcases h with rfl | rfl
  · have := rot_fst D (Nat.le_refl m) h2 (i := i - m) (by omega)
    rwa [show m + (i - m) = i by omega] at this
  · have := rot_snd D h1 (Nat.le_refl m) (i := i - a) (by omega)
    rwa [show a + (m - m) + (i - a) = i by omega, show a + (i - a) = i by omega] at this
/-- the merge of two sorted stretches, by a rotation and two lesser merges -/
theorem merge_ok {D E F G : Nat → α} {a s m e b mid : Nat} (h1 : a ≤ s) (h2 : s ≤ m) (h3 : m ≤ e) (h4 : e ≤ b) (hm : mid = s + (e - m)) (hA : SrtOn f D a m) (hB : SrtOn f D m b)
    (hlo : ∀ i j, s ≤ i → i < m → m ≤ j → j < e → f (D j) < f (D i)) (hhi : ∀ i j, a ≤ i → i < s → e ≤ j → j < b → f (D i) ≤ f (D j))
    (hE : ∀ i, E i = rot D s m e i) (hF : Moved f E F a mid) (hFs : SrtOn f F a mid) (hG : Moved f F G mid b) (hGs : SrtOn f G mid b) : Moved f D G a b ∧ SrtOn f G a b := by
  obtain rfl : E = rot D s m e := funext hE
  have hDE : Moved f D (rot D s m e) a b := (rot_moved h2 h3 hlo).wide h1 (by omega) h4
  have hEF := hF.wide (Nat.le_refl a) (show a ≤ mid by omega) (show mid ≤ b by omega)
  have hFG := hG.wide (show a ≤ mid by omega) (show mid ≤ b by omega) (Nat.le_refl b)
  refine ⟨(hDE.trans hEF).trans hFG, SrtOn.join (c := mid) (hFs.congr fun i _ hi => hG.out i (.inl hi)) hGs ?_⟩
  intro i j g1 g2 g3 g4
  rw [hG.out i (.inl g2)]
  obtain ⟨i', p1, p2, e1⟩ := hF.mem g1 g2
  obtain ⟨j', p3, p4, e2⟩ := hG.mem g3 g4
  rw [← e1, ← e2, hF.out j' (.inr p3)]
  -- where these stood
  have left : ∃ u, (a ≤ u ∧ u < s ∨ m ≤ u ∧ u < e) ∧ rot D s m e i' = D u := by
    by_cases c : i' < s
    · exact ⟨i', .inl ⟨p1, c⟩, rot_out D h2 h3 (.inl c)⟩
    · refine ⟨m + (i' - s), .inr ⟨by omega, by omega⟩, ?_⟩
      have := rot_fst D h2 h3 (i := i' - s) (by omega)
      rwa [show s + (i' - s) = i' by omega] at this
  have right : ∃ u, (s ≤ u ∧ u < m ∨ e ≤ u ∧ u < b) ∧ rot D s m e j' = D u := by
    by_cases c : j' < e
    · refine ⟨s + (j' - mid), .inl ⟨by omega, by omega⟩, ?_⟩
      have := rot_snd D h2 h3 (i := j' - mid) (by omega)
      rwa [show s + (e - m) + (j' - mid) = j' by omega] at this
    · exact ⟨j', .inr ⟨by omega, p4⟩, rot_out D h2 h3 (.inr (by omega))⟩
  obtain ⟨u, hu, eu⟩ := left
  obtain ⟨v, hv, ev⟩ := right
  rw [eu, ev]
  rcases hu with hu | hu <;> rcases hv with hv | hv
  · exact hA u v hu.1 (by omega) hv.2
  · exact hhi u v hu.1 hu.2 hv.1 hv.2
  · have := hlo v u hv.1 hv.2 hu.1 hu.2; omega
  · exact hB u v hu.1 (by omega) hv.2
end
end Go.Proofs.Ytpmiinamaofnnaa
