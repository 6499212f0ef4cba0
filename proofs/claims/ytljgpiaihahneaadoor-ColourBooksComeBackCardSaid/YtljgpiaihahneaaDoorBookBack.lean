/- What BookText writes says the same book. No walk in it. -/
import Derived.Test.YtljgpiaihahneaaDoorBkPlain
import Derived.Test.YtljgpiaihahneaaDoorBkReadPlain
namespace Go.Proofs.YtljgpiaihahneaaDoor
open Go.RowKit Go.Lib
set_option linter.unusedVariables false
set_option linter.unusedSimpArgs false

/-- a line without its end -/
def lineC (x : Gel) : ByteArray := (((itT x.n ++ (⟨#[32]⟩ : ByteArray)) ++ colS x.r x.g x.b) ++ (⟨#[32]⟩ : ByteArray)) ++ x.name
theorem lineB_eq (x : Gel) : lineB x = lineC x ++ (⟨#[10]⟩ : ByteArray) := rfl
theorem app_list (a b : ByteArray) : (a ++ b).data.toList = a.data.toList ++ b.data.toList := by rw [ByteArray.data_append, Array.toList_append]
theorem itT_nat {n : Int} (h : 0 ≤ n) : (itT n).data.toList = decDigits n.toNat := by
  unfold itT Lib.itoa
  rw [if_neg (by omega)]
theorem itT_dig {n : Int} (h : 0 ≤ n) : ∀ c ∈ (itT n).data.toList, IsDig c := by
  rw [itT_nat h]
  exact dd_digits _
theorem itT_num {n : Int} (h1 : 1 ≤ n) (h2 : n ≤ 9999) : NumS (itT n) 9 ∧ valS (itT n) = n := by
  have hl := dd_len 3 n.toNat (by omega)
  have hs : (itT n).size = (decDigits n.toNat).length := by rw [size_eq, itT_nat (by omega)]
  have hN : NumS (itT n) 9 := by
    refine ⟨by omega, by omega, ?_, ?_⟩
    · intro i hi
      refine itT_dig (n := n) (by omega) _ ?_
      show (itT n).data[i] ∈ _
      rw [Array.mem_toList_iff]
      exact Array.getElem_mem _
    · right
      intro h
      obtain ⟨b, r, e, hb⟩ := dd_head n.toNat (by omega)
      have e3 : (itT n).data.toList = b :: r := by rw [itT_nat (by omega), e]
      have : (itT n).data.toList[0]? = some b := by rw [e3]; rfl
      rw [List.getElem?_eq_getElem (by rw [← size_eq]; exact h)] at this
      intro e4
      apply hb
      rw [← Option.some.inj this]
      rw [show (itT n).data.toList[0]'(by rw [← size_eq]; exact h) = (itT n)[0] by simp; rfl]
      exact e4
  refine ⟨hN, ?_⟩
  have h3 := hN.atoi
  rw [itT_nat (by omega), dd_atoi _ (by omega)] at h3
  have := Option.some.inj h3
  omega
theorem hd_ne {d : Nat} (h : d < 16) : hd d ≠ 32 ∧ hd d ≠ 10 := by
  have : d = 0 ∨ d = 1 ∨ d = 2 ∨ d = 3 ∨ d = 4 ∨ d = 5 ∨ d = 6 ∨ d = 7 ∨ d = 8 ∨ d = 9 ∨ d = 10 ∨ d = 11 ∨ d = 12 ∨ d = 13 ∨ d = 14 ∨ d = 15 := by omega
  rcases this with rfl | rfl | rfl | rfl | rfl | rfl | rfl | rfl | rfl | rfl | rfl | rfl | rfl | rfl | rfl | rfl <;> decide
theorem colT_ne (r g b : Nat) (hr : r ≤ 65535) (hg : g ≤ 65535) (hb : b ≤ 65535) : ∀ c ∈ (colT r g b).data.toList, c ≠ 32 ∧ c ≠ 10 := by
  intro c hc
  have h35 : (35 : UInt8) ≠ 32 ∧ (35 : UInt8) ≠ 10 := by decide
  unfold colT at hc
  split at hc
  · simp only [app_list, hx2, List.mem_append, List.mem_cons, List.not_mem_nil, or_false] at hc
    rcases hc with ((rfl | rfl | rfl) | rfl | rfl) | rfl | rfl
    · exact h35
    all_goals exact hd_ne (by omega)
  · simp only [app_list, hx4, List.mem_append, List.mem_cons, List.not_mem_nil, or_false] at hc
    rcases hc with ((rfl | rfl | rfl | rfl | rfl) | rfl | rfl | rfl | rfl) | rfl | rfl | rfl | rfl
    · exact h35
    all_goals exact hd_ne (by omega)
theorem name_ne {s : ByteArray} (h : TitleOk s) : ∀ c ∈ s.data.toList, c ≠ 10 := by
  intro c hc
  obtain ⟨i, hi, rfl⟩ := List.mem_iff_getElem.1 hc
  have hi' : i < s.size := by rw [size_eq]; exact hi
  have := h.pr i hi'
  rw [show s.data.toList[i] = s[i] by simp; rfl]
  intro e
  rw [e] at this
  exact absurd this (by decide)
/-- the line of a right gel says the gel -/
theorem line_gel {x : Gel} (h : GelOk x) : LineOk (lineC x) ∧ gelV (lineC x) = x ∧ (∀ c ∈ (lineC x).data.toList, c ≠ 10) := by
  obtain ⟨n, nm, r, g, b⟩ := x
  obtain ⟨⟨h1, h2⟩, hT, hC⟩ := h
  simp only at h1 h2 hT hC
  rcases chkC_cases r g b with ⟨_, ⟨r1, r2⟩, ⟨g1, g2⟩, b1, b2⟩ | hbad
  rotate_left
  · rw [hbad] at hC; cases hC
  obtain ⟨r, rfl⟩ := Int.eq_ofNat_of_zero_le r1
  obtain ⟨g, rfl⟩ := Int.eq_ofNat_of_zero_le g1
  obtain ⟨b, rfl⟩ := Int.eq_ofNat_of_zero_le b1
  have hcs : colS (r : Int) g b = colT r g b := if_pos hC
  have hne := colT_ne r g b (by omega) (by omega) (by omega)
  obtain ⟨hcol, p0, p1, p2⟩ := colT_ok r g b (by omega) (by omega) (by omega)
  obtain ⟨hnum, hval⟩ := itT_num h1 h2
  have hdg := itT_dig (n := n) (by omega)
  have e1 : (lineC ⟨n, nm, r, g, b⟩).data.toList = (itT n).data.toList ++ 32 :: ((colT r g b).data.toList ++ 32 :: nm.data.toList) := by
    unfold lineC
    simp only [app_list, hcs]
    simp
  have hd32 : ∀ c ∈ (itT n).data.toList, c ≠ 32 := fun c hc => dig_ne (hdg c hc) 32 (.inl (by decide))
  obtain ⟨c1, c2, c3⟩ := cut_at e1 hd32
  obtain ⟨d1, d2, d3⟩ := cut_at c3 (fun c hc => (hne c hc).1)
  have eA : cutA (lineC ⟨n, nm, r, g, b⟩) 32 = itT n := bytes_eq' c2
  have eB : cutA (cutB (lineC ⟨n, nm, r, g, b⟩) 32) 32 = colT r g b := bytes_eq' d2
  have eC : cutB (cutB (lineC ⟨n, nm, r, g, b⟩) 32) 32 = nm := bytes_eq' d3
  refine ⟨⟨by omega, by omega, by rw [eC]; exact hT.pos, by rw [eA]; exact hnum, by rw [eB]; exact hcol⟩, ?_, ?_⟩
  · unfold gelV
    rw [eA, eB, eC, p0, p1, p2, hval]
  · rw [e1]
    intro c hc
    simp only [List.mem_append, List.mem_cons] at hc
    rcases hc with hc | rfl | hc | rfl | hc
    · exact dig_ne (hdg c hc) 10 (.inl (by decide))
    · decide
    · exact (hne c hc).2
    · decide
    · exact name_ne hT c hc
/-- the lines of a book's text -/
theorem spl_book : ∀ (l : List (List UInt8)), (∀ x ∈ l, ∀ c ∈ x, c ≠ 10) → spl 10 (l.flatMap fun x => x ++ [10]) = l ++ [[]] := by
  intro l
  induction l with
  | nil => intro _; rfl
  | cons a t ih =>
    intro h
    have e : ((a :: t).flatMap fun x => x ++ [10]) = a ++ 10 :: (t.flatMap fun x => x ++ [10]) := by simp
    rw [e, spl_at (h a (by simp)), ih (fun x hx => h x (by simp [hx]))]
    rfl
theorem bookB_list (l : List Gel) : (bookB l).data.toList = (l.map fun x => (lineC x).data.toList).flatMap fun x => x ++ [10] := by
  have key : ∀ (l : List Gel) (acc : ByteArray), (l.foldl (fun s u => s ++ lineB u) acc).data.toList = acc.data.toList ++ ((l.map fun x => (lineC x).data.toList).flatMap fun x => x ++ [10]) := by
    intro l
    induction l with
    | nil => intro acc; simp
    | cons a t ih =>
      intro acc
      rw [List.foldl_cons, ih, app_list, lineB_eq, app_list]
      simp
  have := key l ⟨#[]⟩
  unfold bookB
  rw [this]
  simp
theorem map_inj_list {a b : List ByteArray} (h : a.map (·.data.toList) = b.map (·.data.toList)) : a = b := by
  induction a generalizing b with
  | nil =>
    cases b with
    | nil => rfl
    | cons y t => simp at h
  | cons x s ih =>
    cases b with
    | nil => simp at h
    | cons y t =>
      simp only [List.map_cons, List.cons.injEq] at h
      rw [bytes_eq' h.1, ih h.2]
theorem book_lines {l : List Gel} (h : ∀ x ∈ l, GelOk x) : linesL (bookB l) = l.map lineC ∧ linesW (bookB l) = true := by
  by_cases hl : l = []
  · subst hl
    exact ⟨rfl, rfl⟩
  have hs : ¬ (bookB l).size = 0 := by
    rw [size_eq, bookB_list]
    cases l with
    | nil => exact absurd rfl hl
    | cons a t => simp
  have hw : wordsB 10 (bookB l) = l.map lineC ++ [⟨#[]⟩] := by
    apply map_inj_list
    rw [wordsB_spl, bookB_list, spl_book _ (by
      intro x hx c hc
      obtain ⟨y, hy, rfl⟩ := List.mem_map.1 hx
      exact (line_gel (h y hy)).2.2 c hc)]
    simp
  unfold linesL linesW
  rw [if_neg hs, hw]
  have hlast : ((l.map lineC ++ [(⟨#[]⟩ : ByteArray)]).getLast?.map (·.size)) = some 0 := by rw [List.getLast?_concat]; rfl
  rw [hlast]
  refine ⟨?_, by simp⟩
  rw [if_pos rfl]
  exact List.dropLast_concat
theorem book_back {l : List Gel} (h : chkBook l = 0) (hf : ∀ x ∈ l, GelFit x) : rbN (bookB l) = 0 ∧ rbF (bookB l) = 0 ∧ rbL (bookB l) = l := by
  obtain ⟨h5, hok⟩ := chkBook_ok h
  obtain ⟨h1, h2⟩ := book_lines hok
  have hsz : ¬ 60000 < (bookB l).size := by
    have := bookB_le h hf l.length (Nat.le_refl _)
    rw [List.take_length] at this
    omega
  have hm : (l.map lineC).map gelV = l := by
    rw [List.map_map]
    conv => rhs; rw [← List.map_id l]
    apply List.map_congr_left
    intro x hx
    exact (line_gel (hok x hx)).2.1
  obtain ⟨g1, g2, g3⟩ := rb_good hsz (by
    intro j hj
    rw [h1] at hj ⊢
    rintro (⟨hj2, h3⟩ | ⟨h3, _⟩)
    · refine h3 ?_
      rw [List.getElem_map]
      exact (line_gel (hok _ (List.getElem_mem _))).1
    · rw [h2] at h3; cases h3)
  rw [h1, hm] at g2 g3
  rw [h, if_pos rfl] at g3
  exact ⟨g1, g2.trans h, g3⟩
end Go.Proofs.YtljgpiaihahneaaDoor
