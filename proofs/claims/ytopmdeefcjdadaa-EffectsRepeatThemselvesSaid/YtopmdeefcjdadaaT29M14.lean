/- Numbers of six words of 64 bits: what times, plus, minus, less, mul do to the words, and what the words are worth. No program in it. -/
import Derived.Test.YtopmdeefcjdadaaT29M05

namespace Go.Proofs.Ytopmdeefcjdadaa
set_option linter.unusedVariables false
set_option linter.unusedSimpArgs false

def W64 : Int := 18446744073709551616
theorem w64_pos : 0 < W64 := by unfold W64; decide
theorem split_W (x : Int) : loW x + W64 * hiW x = x := by unfold loW hiW W64; omega
theorem lo_range (x : Int) : 0 ≤ loW x ∧ loW x < W64 := by unfold loW W64; omega
theorem hi_nonneg {x : Int} (h : 0 ≤ x) : 0 ≤ hiW x := by unfold hiW; omega
theorem oneW_iff (x : Int) : OneW x ↔ 0 ≤ x ∧ x < W64 := Iff.rfl
/-- what words are worth, the lowest one first -/
def valH : List Int → Int
  | [] => 0
  | a :: l => a + W64 * valH l
def powW : Nat → Int
  | 0 => 1
  | n + 1 => W64 * powW n
theorem powW_pos : ∀ n, 0 < powW n
  | 0 => by decide
  | n + 1 => Int.mul_pos w64_pos (powW_pos n)
def Words (l : List Int) : Prop := ∀ x ∈ l, OneW x
theorem Words.head {x : Int} {l : List Int} (h : Words (x :: l)) : OneW x := h x (by simp)
theorem Words.tail {x : Int} {l : List Int} (h : Words (x :: l)) : Words l := fun y hy => h y (by simp [hy])
theorem words_cons {x : Int} {l : List Int} (h : OneW x) (k : Words l) : Words (x :: l) := fun y hy => by
  rcases List.mem_cons.1 hy with rfl | hy
  · exact h
  · exact k y hy
theorem valH_bound : ∀ l : List Int, Words l → 0 ≤ valH l ∧ valH l < powW l.length
  | [], _ => by simp [valH, powW]
  | x :: l, h => by
    obtain ⟨h1, h2⟩ := valH_bound l h.tail
    obtain ⟨x0, x1⟩ := (oneW_iff x).1 h.head
    simp only [valH, powW, List.length_cons]
    have a1 : 0 ≤ W64 * valH l := Int.mul_nonneg (Int.le_of_lt w64_pos) h1
    have a2 : W64 * (valH l + 1) ≤ W64 * powW l.length := Int.mul_le_mul_of_nonneg_left (by omega) (Int.le_of_lt w64_pos)
    rw [Int.mul_add, Int.mul_one] at a2
    omega
theorem le_of_W {a p : Int} (h : W64 * a < W64 * p) : a < p := Int.lt_of_mul_lt_mul_left h (Int.le_of_lt w64_pos)
/-! ### times -/
def timesL (n : Int) : List Int → Int → List Int
  | [], _ => []
  | x :: l, c => loW (x * n + c) :: timesL n l (hiW (x * n + c))
theorem timesL_len (n : Int) : ∀ l c, (timesL n l c).length = l.length
  | [], _ => rfl
  | x :: l, c => by simp [timesL, timesL_len n l]
theorem timesL_words (n : Int) : ∀ l c, Words (timesL n l c)
  | [], _ => by simp [timesL, Words]
  | x :: l, c => words_cons (lo_range _) (timesL_words n l _)
theorem timesL_val {n : Int} (hn : 0 ≤ n) : ∀ l c, 0 ≤ c → Words l → valH l * n + c < powW l.length → valH (timesL n l c) = valH l * n + c
  | [], c, hc, _, h => by simp [valH, powW, timesL] at *; omega
  | x :: l, c, hc, hw, h => by
    have hs : 0 ≤ x * n + c := Int.add_nonneg (Int.mul_nonneg hw.head.1 hn) hc
    have e : valH (x :: l) * n + c = loW (x * n + c) + W64 * (valH l * n + hiW (x * n + c)) := by
      have := split_W (x * n + c)
      simp only [valH]
      have e1 : (x + W64 * valH l) * n = x * n + W64 * (valH l * n) := by rw [Int.add_mul, Int.mul_assoc]
      rw [e1, Int.mul_add]
      omega
    rw [e] at h ⊢
    simp only [List.length_cons, powW] at h
    have := (lo_range (x * n + c)).1
    have h2 : valH l * n + hiW (x * n + c) < powW l.length := le_of_W (by omega)
    rw [timesL, valH, timesL_val hn l _ (hi_nonneg hs) hw.tail h2]
/-- a carry stays a word -/
theorem carry_word {x y c : Int} (hx : OneW x) (hy : OneW y) (hc : OneW c) : OneW (hiW (x * y + c)) := by
  rw [oneW_iff] at *
  have hp : 0 ≤ x * y := Int.mul_nonneg hx.1 hy.1
  refine ⟨hi_nonneg (by omega), ?_⟩
  have h1 : x * y ≤ (W64 - 1) * (W64 - 1) := Int.le_trans (Int.mul_le_mul_of_nonneg_right (by omega) hy.1) (Int.mul_le_mul_of_nonneg_left (by omega) (by omega))
  have h2 : (W64 - 1) * (W64 - 1) + (W64 - 1) = W64 * (W64 - 1) := by have := Int.sub_mul W64 1 (W64 - 1); omega
  have h3 := split_W (x * y + c)
  have h4 := (lo_range (x * y + c)).1
  have h5 : W64 * hiW (x * y + c) < W64 * W64 := by have h6 := Int.mul_sub W64 W64 1; have := w64_pos; omega
  exact le_of_W h5
theorem carry_word2 {o x y c : Int} (ho : OneW o) (hx : OneW x) (hy : OneW y) (hc : OneW c) : OneW (hiW (o + x * y + c)) := by
  rw [oneW_iff] at *
  have hp : 0 ≤ x * y := Int.mul_nonneg hx.1 hy.1
  refine ⟨hi_nonneg (by omega), ?_⟩
  have h1 : x * y ≤ (W64 - 1) * (W64 - 1) := Int.le_trans (Int.mul_le_mul_of_nonneg_right (by omega) hy.1) (Int.mul_le_mul_of_nonneg_left (by omega) (by omega))
  have h2 : (W64 - 1) + (W64 - 1) * (W64 - 1) + (W64 - 1) = W64 * W64 - 1 := by have := Int.sub_mul W64 1 (W64 - 1); have := Int.mul_sub W64 W64 1; omega
  have h3 := split_W (o + x * y + c)
  have h4 := (lo_range (o + x * y + c)).1
  exact le_of_W (by omega)
/-! ### plus and minus -/
def plusL : List Int → List Int → Int → List Int
  | x :: l, y :: m, c => loW (x + y + c) :: plusL l m (hiW (x + y + c))
  | _, _, _ => []
theorem plusL_words : ∀ l m c, Words (plusL l m c)
  | x :: l, y :: m, c => words_cons (lo_range _) (plusL_words l m _)
  | [], _, _ => by simp [plusL, Words]
  | _ :: _, [], _ => by simp [plusL, Words]
theorem plusL_len : ∀ l m c, l.length = m.length → (plusL l m c).length = l.length
  | x :: l, y :: m, c, h => by simp [plusL, plusL_len l m _ (by simpa using h)]
  | [], _, _, _ => by simp [plusL]
  | _ :: _, [], _, h => by simp at h
theorem plusL_val : ∀ l m c, l.length = m.length → 0 ≤ c → Words l → Words m → valH l + valH m + c < powW l.length → valH (plusL l m c) = valH l + valH m + c
  | [], [], c, _, hc, _, _, h => by simp [valH, powW, plusL] at *; omega
  | x :: l, y :: m, c, hlm, hc, hw, hv, h => by
    have hs : 0 ≤ x + y + c := by have := hw.head.1; have := hv.head.1; omega
    have e : valH (x :: l) + valH (y :: m) + c = loW (x + y + c) + W64 * (valH l + valH m + hiW (x + y + c)) := by
      have := split_W (x + y + c)
      simp only [valH]
      rw [Int.mul_add, Int.mul_add]
      omega
    rw [e] at h ⊢
    simp only [List.length_cons, powW] at h
    have := (lo_range (x + y + c)).1
    have h2 : valH l + valH m + hiW (x + y + c) < powW l.length := le_of_W (by omega)
    rw [plusL, valH, plusL_val l m _ (by simpa using hlm) (hi_nonneg hs) hw.tail hv.tail h2]
  | [], _ :: _, _, h, _, _, _, _ => by simp at h
  | _ :: _, [], _, h, _, _, _, _ => by simp at h
/-- the words of a difference; c: what is borrowed, 0 or 1 -/
def minusL : List Int → List Int → Int → List Int
  | x :: l, y :: m, c => loW (x - y - c) :: minusL l m (-hiW (x - y - c))
  | _, _, _ => []
theorem minusL_words : ∀ l m c, Words (minusL l m c)
  | x :: l, y :: m, c => words_cons (lo_range _) (minusL_words l m _)
  | [], _, _ => by simp [minusL, Words]
  | _ :: _, [], _ => by simp [minusL, Words]
theorem minusL_len : ∀ l m c, l.length = m.length → (minusL l m c).length = l.length
  | x :: l, y :: m, c, h => by simp [minusL, minusL_len l m _ (by simpa using h)]
  | [], _, _, _ => by simp [minusL]
  | _ :: _, [], _, h => by simp at h
theorem minusL_val : ∀ l m c, l.length = m.length → Words l → Words m → 0 ≤ valH l - valH m - c → valH l - valH m - c < powW l.length → valH (minusL l m c) = valH l - valH m - c
  | [], [], c, _, _, _, h, h' => by simp [valH, minusL, powW] at *; omega
  | x :: l, y :: m, c, hlm, hw, hv, h, h' => by
    have e : valH (x :: l) - valH (y :: m) - c = loW (x - y - c) + W64 * (valH l - valH m - -hiW (x - y - c)) := by
      have := split_W (x - y - c)
      simp only [valH]
      rw [Int.mul_sub, Int.mul_sub, Int.mul_neg]
      omega
    rw [e] at h h' ⊢
    simp only [List.length_cons, powW] at h'
    have := lo_range (x - y - c)
    have h2 : 0 ≤ valH l - valH m - -hiW (x - y - c) := by
      by_cases k : 0 ≤ valH l - valH m - -hiW (x - y - c)
      · exact k
      · have h3 : W64 * (valH l - valH m - -hiW (x - y - c)) ≤ W64 * (-1) := Int.mul_le_mul_of_nonneg_left (by omega) (Int.le_of_lt w64_pos)
        omega
    have h4 : valH l - valH m - -hiW (x - y - c) < powW l.length := le_of_W (by omega)
    rw [minusL, valH, minusL_val l m _ (by simpa using hlm) hw.tail hv.tail h2 h4]
  | [], _ :: _, _, h, _, _, _, _ => by simp at h
  | _ :: _, [], _, h, _, _, _, _ => by simp at h
/-! ### less -/
theorem less_head {x y : Int} {l m : List Int} (hx : OneW x) (hy : OneW y) (hl : Words l) (hm : Words m) : valH (x :: l) < valH (y :: m) ↔ valH l < valH m ∨ (valH l = valH m ∧ x < y) := by
  simp only [valH]
  obtain ⟨x0, x1⟩ := (oneW_iff x).1 hx
  obtain ⟨y0, y1⟩ := (oneW_iff y).1 hy
  constructor
  · intro h
    rcases Int.lt_trichotomy (valH l) (valH m) with c | c | c
    · exact .inl c
    · exact .inr ⟨c, by rw [c] at h; omega⟩
    · have := Int.mul_le_mul_of_nonneg_left (show valH m + 1 ≤ valH l by omega) (Int.le_of_lt w64_pos)
      rw [Int.mul_add, Int.mul_one] at this
      omega
  · rintro (c | ⟨c, h⟩)
    · have := Int.mul_le_mul_of_nonneg_left (show valH l + 1 ≤ valH m by omega) (Int.le_of_lt w64_pos)
      rw [Int.mul_add, Int.mul_one] at this
      omega
    · rw [c]; omega
theorem less_same {l m s : List Int} (hlm : l.length = m.length) : valH (l ++ s) < valH (m ++ s) ↔ valH l < valH m := by
  induction l generalizing m with
  | nil =>
    obtain rfl : m = [] := List.eq_nil_of_length_eq_zero (by simpa using hlm.symm)
    simp
  | cons x l ih =>
    match m, hlm with
    | y :: m, h =>
      have key : ∀ l m : List Int, l.length = m.length → valH (l ++ s) - valH (m ++ s) = valH l - valH m := by
        intro l
        induction l with
        | nil =>
          intro m h
          obtain rfl : m = [] := List.eq_nil_of_length_eq_zero (by simpa using h.symm)
          simp [valH]
        | cons x l ih =>
          intro m h
          match m, h with
          | y :: m, h =>
            have := ih m (by simpa using h)
            simp only [List.cons_append, valH]
            have e1 : W64 * valH (l ++ s) - W64 * valH (m ++ s) = W64 * valH l - W64 * valH m := by rw [← Int.mul_sub, ← Int.mul_sub, this]
            omega
      have := key (x :: l) (y :: m) h
      omega
/-- two rows that differ at a word, and not above it -/
theorem less_at {l m s : List Int} {x y : Int} (hlm : l.length = m.length) (hl : Words l) (hm : Words m) (hxy : x ≠ y) : (valH (l ++ x :: s) < valH (m ++ y :: s)) ↔ x < y := by
  have e1 : l ++ x :: s = (l ++ [x]) ++ s := by simp
  have e2 : m ++ y :: s = (m ++ [y]) ++ s := by simp
  rw [e1, e2, less_same (by simp [hlm])]
  clear e1 e2
  have key : ∀ l m : List Int, l.length = m.length → Words l → Words m → (valH (l ++ [x]) < valH (m ++ [y]) ↔ x < y) := by
    intro l
    induction l with
    | nil =>
      intro m h _ _
      obtain rfl : m = [] := List.eq_nil_of_length_eq_zero (by simpa using h.symm)
      simp [valH]
    | cons a l ih =>
      intro m h hl hm
      match m, h, hm with
      | b :: m, h, hm =>
        have := ih m (by simpa using h) hl.tail hm.tail
        obtain ⟨x0, x1⟩ := (oneW_iff a).1 hl.head
        obtain ⟨y0, y1⟩ := (oneW_iff b).1 hm.head
        simp only [List.cons_append, valH]
        rw [← this]
        constructor
        · intro hq
          by_cases c : valH (l ++ [x]) < valH (m ++ [y])
          · exact c
          · exfalso
            by_cases d : valH (l ++ [x]) = valH (m ++ [y])
            · have key2 : ∀ l m : List Int, l.length = m.length → Words l → Words m → valH (l ++ [x]) = valH (m ++ [y]) → x = y := by
                intro l
                induction l with
                | nil =>
                  intro m h _ _ e
                  obtain rfl : m = [] := List.eq_nil_of_length_eq_zero (by simpa using h.symm)
                  simpa [valH] using e
                | cons a l ih =>
                  intro m h hl hm e
                  match m, h, hm with
                  | b :: m, h, hm =>
                    obtain ⟨x0, x1⟩ := (oneW_iff a).1 hl.head
                    obtain ⟨y0, y1⟩ := (oneW_iff b).1 hm.head
                    simp only [List.cons_append, valH] at e
                    refine ih m (by simpa using h) hl.tail hm.tail ?_
                    rcases Int.lt_trichotomy (valH (l ++ [x])) (valH (m ++ [y])) with c | c | c
                    · have := Int.mul_le_mul_of_nonneg_left (show valH (l ++ [x]) + 1 ≤ valH (m ++ [y]) by omega) (Int.le_of_lt w64_pos)
                      rw [Int.mul_add, Int.mul_one] at this
                      omega
                    · exact c
                    · have := Int.mul_le_mul_of_nonneg_left (show valH (m ++ [y]) + 1 ≤ valH (l ++ [x]) by omega) (Int.le_of_lt w64_pos)
                      rw [Int.mul_add, Int.mul_one] at this
                      omega
              exact hxy (key2 l m (by simpa using h) hl.tail hm.tail d)
            · have := Int.mul_le_mul_of_nonneg_left (show valH (m ++ [y]) + 1 ≤ valH (l ++ [x]) by omega) (Int.le_of_lt w64_pos)
              rw [Int.mul_add, Int.mul_one] at this
              omega
        · intro c
          have := Int.mul_le_mul_of_nonneg_left (show valH (l ++ [x]) + 1 ≤ valH (m ++ [y]) by omega) (Int.le_of_lt w64_pos)
          rw [Int.mul_add, Int.mul_one] at this
          omega
  exact key l m hlm hl hm
/-! ### mul -/
/-- a row of a product on what stands there; what has no room is dropped -/
def rowL (y : Int) : List Int → List Int → Int → List Int
  | o :: os, x :: l, c => loW (o + x * y + c) :: rowL y os l (hiW (o + x * y + c))
  | os, _, _ => os
theorem rowL_words (y : Int) : ∀ os l c, Words os → Words (rowL y os l c)
  | o :: os, x :: l, c, h => words_cons (lo_range _) (rowL_words y os l _ h.tail)
  | [], _, _, h => by simp [rowL, Words]
  | _ :: _, [], _, h => by simpa [rowL] using h
theorem rowL_len (y : Int) : ∀ os l c, (rowL y os l c).length = os.length
  | o :: os, x :: l, c => by simp [rowL, rowL_len y os l]
  | [], _, _ => by simp [rowL]
  | _ :: _, [], _ => by simp [rowL]
theorem rowL_val {y : Int} (hy : 0 ≤ y) : ∀ os l c, os.length ≤ l.length → 0 ≤ c → Words os → Words l → valH os + valH l * y + c < powW os.length → valH (rowL y os l c) = valH os + valH l * y + c
  | [], l, c, _, hc, _, hl, h => by
    have := Int.mul_nonneg (valH_bound l hl).1 hy
    have e : valH (rowL y [] l c) = 0 := by cases l <;> simp [rowL, valH]
    rw [e]
    simp only [valH, powW, List.length_nil] at h ⊢
    omega
  | o :: os, x :: l, c, hlm, hc, hw, hv, h => by
    have hs : 0 ≤ o + x * y + c := by have := hw.head.1; have := Int.mul_nonneg hv.head.1 hy; omega
    have e : valH (o :: os) + valH (x :: l) * y + c = loW (o + x * y + c) + W64 * (valH os + valH l * y + hiW (o + x * y + c)) := by
      have := split_W (o + x * y + c)
      simp only [valH]
      have e1 : (x + W64 * valH l) * y = x * y + W64 * (valH l * y) := by rw [Int.add_mul, Int.mul_assoc]
      rw [e1, Int.mul_add, Int.mul_add]
      omega
    rw [e] at h ⊢
    simp only [List.length_cons, powW] at h
    have := (lo_range (o + x * y + c)).1
    have h2 : valH os + valH l * y + hiW (o + x * y + c) < powW os.length := le_of_W (by omega)
    rw [rowL, valH, rowL_val hy os l _ (by simpa using hlm) (hi_nonneg hs) hw.tail hv.tail h2]
  | _ :: _, [], _, h, _, _, _, _ => by simp at h
/-- the rows of a product, one behind the other, each one word further -/
def mulL (l : List Int) : List Int → List Int → List Int
  | [], out => out
  | y :: m, out => match rowL y out l 0 with
    | [] => []
    | o :: os => o :: mulL l m os
theorem mulL_words (l : List Int) : ∀ m out, Words out → Words (mulL l m out)
  | [], out, h => h
  | y :: m, out, h => by
    have h1 := rowL_words y out l 0 h
    unfold mulL
    cases hr : rowL y out l 0 with
    | nil => simp [Words]
    | cons o os =>
      rw [hr] at h1
      exact words_cons h1.head (mulL_words l m os h1.tail)
theorem mulL_len (l : List Int) : ∀ m out, (mulL l m out).length = out.length
  | [], out => rfl
  | y :: m, out => by
    have h1 := rowL_len y out l 0
    unfold mulL
    cases hr : rowL y out l 0 with
    | nil => rw [hr] at h1; simpa using h1
    | cons o os =>
      rw [hr] at h1
      simp only [List.length_cons, mulL_len l m os]
      simpa using h1
theorem mulL_val {l : List Int} (hl : Words l) : ∀ m out, out.length = m.length → m.length ≤ l.length → Words m → Words out → valH out + valH l * valH m < powW out.length → valH (mulL l m out) = valH out + valH l * valH m
  | [], out, h0, _, _, _, h => by
    obtain rfl : out = [] := List.eq_nil_of_length_eq_zero (by simpa using h0)
    simp [mulL, valH]
  | y :: m, out, h0, h1, hm, ho, h => by
    have hy := hm.head.1
    have a0 := (valH_bound l hl).1
    have a1 := (valH_bound m hm.tail).1
    have e : valH l * valH (y :: m) = valH l * y + W64 * (valH l * valH m) := by
      simp only [valH]
      rw [Int.mul_add, ← Int.mul_assoc, ← Int.mul_assoc, Int.mul_comm W64]
    have a2 : 0 ≤ valH l * valH m := Int.mul_nonneg a0 a1
    have a3 : 0 ≤ W64 * (valH l * valH m) := Int.mul_nonneg (Int.le_of_lt w64_pos) a2
    have hr := rowL_val hy out l 0 (by rw [h0]; exact h1) (Int.le_refl _) ho hl (by rw [e] at h; omega)
    have hrl := rowL_len y out l 0
    have hrw := rowL_words y out l 0 ho
    unfold mulL
    cases hc : rowL y out l 0 with
    | nil => rw [hc, h0] at hrl; simp at hrl
    | cons o os =>
      rw [hc] at hr hrl hrw
      rw [e]
      simp only [valH, Int.add_zero] at hr ⊢
      have hol : os.length = m.length := by simp at hrl h0; omega
      have hb : valH os + valH l * valH m < powW os.length := by
        rw [e] at h
        have e2 : powW out.length = W64 * powW os.length := by rw [← hrl]; rfl
        rw [e2] at h
        refine le_of_W ?_
        rw [Int.mul_add]
        have := hrw.head.1
        omega
      rw [mulL_val hl m os hol (by simp at h1; omega) hm.tail hrw.tail hb, Int.mul_add]
      omega
end Go.Proofs.Ytopmdeefcjdadaa
