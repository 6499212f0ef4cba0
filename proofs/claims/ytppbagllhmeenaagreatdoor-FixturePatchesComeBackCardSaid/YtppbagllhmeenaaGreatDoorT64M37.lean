/- What PatchText writes says the same rig; and what ReadPatch reads is written back as it was. No walk in it. (printed by wip/gen/gen_patchback.py) -/
import Derived.Test.YtppbagllhmeenaaGreatDoorT64M22
import Derived.Test.YtppbagllhmeenaaGreatDoorT64M29
import Derived.Test.YtppbagllhmeenaaGreatDoorT64M36

namespace Go.Proofs.YtppbagllhmeenaaGreatDoor
open Go.RowKit Go.Lib
set_option linter.unusedVariables false
set_option linter.unusedSimpArgs false

/-- a line without its end -/
def lineC (u : Unt) : ByteArray := (((((itT u.num ++ (⟨#[32]⟩ : ByteArray)) ++ u.prof) ++ (⟨#[32]⟩ : ByteArray)) ++ itT u.univ) ++ (⟨#[47]⟩ : ByteArray)) ++ itT u.addr
theorem lineB_eq (u : Unt) : lineB u = lineC u ++ (⟨#[10]⟩ : ByteArray) := rfl
theorem app_list (a b : ByteArray) : (a ++ b).data.toList = a.data.toList ++ b.data.toList := by rw [ByteArray.data_append, Array.toList_append]
theorem itT_nat {n : Int} (h : 0 ≤ n) : (itT n).data.toList = decDigits n.toNat := by
  unfold itT Lib.itoa
  rw [if_neg (by omega)]
theorem itT_dig {n : Int} (h : 0 ≤ n) : ∀ c ∈ (itT n).data.toList, IsDig c := by
  rw [itT_nat h]
  exact dd_digits _
theorem itT_num {n : Int} (h1 : 1 ≤ n) (h2 : n ≤ 9999) : NumS (itT n) 9 ∧ valS (itT n) = n := by
  have hl := dd_len 3 n.toNat (by omega)
  have hs : (itT n).size = (decDigits n.toNat).length := by rw [size_eq, itT_nat (by omega)]
  have hN : NumS (itT n) 9 := by
    refine ⟨by omega, by omega, ?_, ?_⟩
    · intro i hi
      refine itT_dig (n := n) (by omega) _ ?_
      show (itT n).data[i] ∈ _
      rw [Array.mem_toList_iff]
      exact Array.getElem_mem _
    · right
      intro h
      obtain ⟨b, r, e, hb⟩ := dd_head n.toNat (by omega)
      have e3 : (itT n).data.toList = b :: r := by rw [itT_nat (by omega), e]
      have : (itT n).data.toList[0]? = some b := by rw [e3]; rfl
      rw [List.getElem?_eq_getElem (by rw [← size_eq]; exact h)] at this
      intro e4
      apply hb
      rw [← Option.some.inj this]
      rw [show (itT n).data.toList[0]'(by rw [← size_eq]; exact h) = (itT n)[0] by simp; rfl]
      exact e4
  refine ⟨hN, ?_⟩
  have h3 := hN.atoi
  rw [itT_nat (by omega), dd_atoi _ (by omega)] at h3
  have := Option.some.inj h3
  omega
/-- the lines of a book's text -/
theorem spl_book : ∀ (l : List (List UInt8)), (∀ x ∈ l, ∀ c ∈ x, c ≠ 10) → spl 10 (l.flatMap fun x => x ++ [10]) = l ++ [[]] := by
  intro l
  induction l with
  | nil => intro _; rfl
  | cons a t ih =>
    intro h
    have e : ((a :: t).flatMap fun x => x ++ [10]) = a ++ 10 :: (t.flatMap fun x => x ++ [10]) := by simp
    rw [e, spl_at (h a (by simp)), ih (fun x hx => h x (by simp [hx]))]
    rfl
theorem map_inj_list {a b : List ByteArray} (h : a.map (·.data.toList) = b.map (·.data.toList)) : a = b := by
  induction a generalizing b with
  | nil =>
    cases b with
    | nil => rfl
    | cons y t => simp at h
  | cons x s ih =>
    cases b with
    | nil => simp at h
    | cons y t =>
      simp only [List.map_cons, List.cons.injEq] at h
      rw [bytes_eq' h.1, ih h.2]
/-- the third word of a line -/
def placeC (u : Unt) : ByteArray := (itT u.univ ++ (⟨#[47]⟩ : ByteArray)) ++ itT u.addr
theorem lineC_list (u : Unt) : (lineC u).data.toList = (itT u.num).data.toList ++ 32 :: (u.prof.data.toList ++ 32 :: (placeC u).data.toList) := by
  unfold lineC placeC
  simp only [app_list]
  simp
theorem placeC_list (u : Unt) : (placeC u).data.toList = (itT u.univ).data.toList ++ 47 :: (itT u.addr).data.toList := by
  unfold placeC
  simp only [app_list]
  simp
structure UntOk (u : Unt) : Prop where
  num : 1 ≤ u.num ∧ u.num ≤ 9999
  univ : 1 ≤ u.univ ∧ u.univ ≤ 64
  addr : 1 ≤ u.addr ∧ u.addr ≤ 512
  row : rowB u.prof.data.toList = true
theorem unt_ok {x : Rig} (h : chkRig x = 0) : ∀ u ∈ x.units, UntOk u := by
  intro u hu
  obtain ⟨h1, h2, h3⟩ := chkRig_zero h
  obtain ⟨k, hk, rfl⟩ := List.getElem_of_mem hu
  obtain ⟨n, _, ⟨p, h4, h5⟩, _⟩ := untF_zero (scanF_zero _ _ h3 k hk)
  obtain ⟨hm, hn⟩ := profOf_some h4
  have h6 := (chkPrf_zero (chkLib_prf h1 hm)).1
  rw [hn] at h6
  unfold nameB at h6
  simp only [Bool.and_eq_true] at h6
  exact ⟨n, (untBad_false h5).1, (untBad_false h5).2.1, h6.1.1.1⟩
theorem row_ne {l : List UInt8} (h : rowB l = true) : ∀ c ∈ l, c ≠ 32 ∧ c ≠ 10 := by
  intro c hc
  unfold rowB at h
  simp only [Bool.and_eq_true, List.all_eq_true] at h
  have h1 := h.1 c hc
  rcases okC_cases c.toNat c.toNat_lt with ⟨_, h2⟩ | ⟨h2, _⟩
  · refine ⟨?_, ?_⟩
    · rintro rfl
      rw [show (32 : UInt8).toNat = 32 from rfl] at h2
      omega
    · rintro rfl
      rw [show (10 : UInt8).toNat = 10 from rfl] at h2
      omega
  · rw [h2] at h1; cases h1
/-- the line of a right unit says the unit -/
theorem line_unt {u : Unt} (h : UntOk u) : LineU (lineC u) ∧ untV (lineC u) = u ∧ (∀ c ∈ (lineC u).data.toList, c ≠ 10) := by
  obtain ⟨n, p, m, a⟩ := u
  obtain ⟨⟨n1, n2⟩, ⟨m1, m2⟩, ⟨a1, a2⟩, hr⟩ := h
  simp only at n1 n2 m1 m2 a1 a2 hr
  obtain ⟨hn, vn⟩ := itT_num n1 n2
  obtain ⟨hm, vm⟩ := itT_num m1 (by omega)
  obtain ⟨ha, va⟩ := itT_num a1 (by omega)
  have dn := itT_dig (n := n) (by omega)
  have dm := itT_dig (n := m) (by omega)
  have da := itT_dig (n := a) (by omega)
  have d32 : ∀ {k : Int}, (∀ c ∈ (itT k).data.toList, IsDig c) → ∀ c ∈ (itT k).data.toList, c ≠ 32 ∧ c ≠ 10 ∧ c ≠ 47 := fun h c hc => ⟨dig_ne (h c hc) 32 (.inl (by decide)), dig_ne (h c hc) 10 (.inl (by decide)), dig_ne (h c hc) 47 (.inl (by decide))⟩
  have hp : ∀ c ∈ (placeC ⟨n, p, m, a⟩).data.toList, c ≠ 32 ∧ c ≠ 10 := by
    rw [placeC_list]
    intro c hc
    simp only [List.mem_append, List.mem_cons] at hc
    rcases hc with hc | rfl | hc
    · exact ⟨(d32 dm c hc).1, (d32 dm c hc).2.1⟩
    · decide
    · exact ⟨(d32 da c hc).1, (d32 da c hc).2.1⟩
  have hw : wordsB 32 (lineC ⟨n, p, m, a⟩) = [itT n, p, placeC ⟨n, p, m, a⟩] := by
    apply map_inj_list
    rw [wordsB_spl, lineC_list, spl_at (fun c hc => (d32 dn c hc).1), spl_at (fun c hc => (row_ne hr c hc).1), spl_out (fun c hc => (hp c hc).1)]
    rfl
  obtain ⟨e1, e2, e3⟩ := cut_at (placeC_list ⟨n, p, m, a⟩) (fun c hc => (d32 dm c hc).2.2)
  have eA : cutA (placeC ⟨n, p, m, a⟩) 47 = itT m := bytes_eq' e2
  have eB : cutB (placeC ⟨n, p, m, a⟩) 47 = itT a := bytes_eq' e3
  obtain ⟨k1, k2⟩ := line_three hw
  refine ⟨k1.2 ⟨hr, hn, by omega, by rw [eA]; exact hm, by rw [eB]; exact ha⟩, ?_, ?_⟩
  · rw [k2, eA, eB, vn, vm, va]
  · rw [lineC_list]
    intro c hc
    simp only [List.mem_append, List.mem_cons] at hc
    rcases hc with hc | rfl | hc | rfl | hc
    · exact (d32 dn c hc).2.1
    · decide
    · exact (row_ne hr c hc).2
    · decide
    · exact (hp c hc).2
/-- a line that says a unit is the line of the unit -/
theorem num_canon {s : ByteArray} (h : NumS s 9) : itT (valS s : Int) = s := by
  apply bytes_eq'
  rw [itT_nat (by omega), h.canon]
  simp
theorem line_same {s : ByteArray} (h : LineU s) : lineC (untV s) = s := by
  obtain ⟨a, b, c, hw⟩ := list3 (show (wordsB 32 s).length = 3 from h.len)
  obtain ⟨k1, k2⟩ := line_three hw
  obtain ⟨hr, hn, hc, hA, hB⟩ := k1.1 h
  have hj := join_spl 32 _ s.data.toList (Nat.le_refl _)
  rw [← wordsB_spl, hw] at hj
  have ec := (cut_back hc).1
  apply bytes_eq'
  rw [lineC_list, placeC_list, k2]
  simp only
  rw [num_canon hn, num_canon hA, num_canon hB, ← ec, ← hj]
  rfl
theorem patchB_list (l : List Unt) : (patchB l).data.toList = (l.map fun x => (lineC x).data.toList).flatMap fun x => x ++ [10] := by
  have key : ∀ (l : List Unt) (acc : ByteArray), (l.foldl (fun s u => s ++ lineB u) acc).data.toList = acc.data.toList ++ ((l.map fun x => (lineC x).data.toList).flatMap fun x => x ++ [10]) := by
    intro l
    induction l with
    | nil => intro acc; simp
    | cons a t ih =>
      intro acc
      rw [List.foldl_cons, ih, app_list, lineB_eq, app_list]
      simp
  have := key l ⟨#[]⟩
  unfold patchB
  rw [this]
  simp
theorem patch_lines {l : List Unt} (h : ∀ x ∈ l, UntOk x) : linesL (patchB l) = l.map lineC ∧ linesW (patchB l) = true := by
  by_cases hl : l = []
  · subst hl
    exact ⟨rfl, rfl⟩
  have hs : ¬ (patchB l).size = 0 := by
    rw [size_eq, patchB_list]
    cases l with
    | nil => exact absurd rfl hl
    | cons a t => simp
  have hw : wordsB 10 (patchB l) = l.map lineC ++ [⟨#[]⟩] := by
    apply map_inj_list
    rw [wordsB_spl, patchB_list, spl_book _ (by
      intro x hx c hc
      obtain ⟨y, hy, rfl⟩ := List.mem_map.1 hx
      exact (line_unt (h y hy)).2.2 c hc)]
    simp
  unfold linesL linesW
  rw [if_neg hs, hw]
  have hlast : ((l.map lineC ++ [(⟨#[]⟩ : ByteArray)]).getLast?.map (·.size)) = some 0 := by rw [List.getLast?_concat]; rfl
  rw [hlast]
  refine ⟨?_, by simp⟩
  rw [if_pos rfl]
  exact List.dropLast_concat
theorem patch_back {x : Rig} (h : chkRig x = 0) (hf : ∀ u ∈ x.units, UntFit u) : rpX x.lib (patchB x.units) = (0, 0, x) := by
  have hok := unt_ok h
  obtain ⟨h1, h2⟩ := patch_lines hok
  obtain ⟨hl0, h400, _⟩ := chkRig_zero h
  have hsz : ¬ 60000 < (patchB x.units).size := by
    have := patchB_le h hf x.units.length (Nat.le_refl _)
    rw [List.take_length] at this
    omega
  have hm : (x.units.map lineC).map untV = x.units := by
    rw [List.map_map]
    conv => rhs; rw [← List.map_id x.units]
    apply List.map_congr_left
    intro u hu
    exact (line_unt (hok u hu)).2.1
  have hr : rpR x.lib (patchB x.units) = x := by
    unfold rpR
    rw [h1, hm]
  rw [rp_good hl0 hsz (by
    intro j hj
    rw [h1] at hj ⊢
    rintro (⟨hj2, h3⟩ | ⟨h3, _⟩)
    · refine h3 ?_
      rw [List.getElem_map]
      exact (line_unt (hok _ (List.getElem_mem _))).1
    · rw [h2] at h3; cases h3), hr, if_pos h]
theorem joinW_end : ∀ (l : List (List UInt8)), joinW 10 (l ++ [[]]) = l.flatMap fun x => x ++ [10] := by
  intro l
  induction l with
  | nil => rfl
  | cons a t ih =>
    have : joinW 10 ((a :: t) ++ [[]]) = a ++ 10 :: joinW 10 (t ++ [[]]) := by
      cases t with
      | nil => rfl
      | cons b r => rfl
    rw [this, ih]
    simp
theorem lines_back {s : ByteArray} (h : linesW s = true) : s.data.toList = ((linesL s).map (·.data.toList)).flatMap fun x => x ++ [10] := by
  by_cases hs : s.size = 0
  · have e : s.data.toList = [] := by rw [size_eq] at hs; exact List.length_eq_zero_iff.1 hs
    unfold linesL
    rw [if_pos hs, e]
    rfl
  unfold linesW at h
  rw [decide_eq_false hs] at h
  have hg : ((wordsB 10 s).getLast?.map (·.size)) = some 0 := by simpa using h
  unfold linesL
  rw [if_neg hs, if_pos hg]
  obtain ⟨L0, x, hw⟩ := words_snoc s
  rw [hw, List.getLast?_concat] at hg
  have hx : x.data.toList = [] := by
    have : x.size = 0 := by simpa using hg
    rw [size_eq] at this
    exact List.length_eq_zero_iff.1 this
  have hj := join_spl 10 _ s.data.toList (Nat.le_refl _)
  rw [← wordsB_spl, hw] at hj
  rw [hw, List.dropLast_concat, ← joinW_end]
  rw [List.map_append, List.map_cons, List.map_nil, hx] at hj
  exact hj.symm
theorem lines_cut {s : ByteArray} (h : linesW s = false) : 1 ≤ (linesL s).length := by
  unfold linesW at h
  simp only [Bool.or_eq_false_iff, decide_eq_false_iff_not] at h
  unfold linesL
  rw [if_neg h.1, if_neg h.2]
  exact wordsB_pos 10 s
theorem rp_cases (lib : List Prf) (s : ByteArray) : (rpX lib s).1 ≠ 0 ∧ (rpX lib s).2.2 = noRigP ∨ rpX lib s = (0, 0, rpR lib s) ∧ s.size ≤ 60000 ∧ chkRig (rpR lib s) = 0 ∧ patchB (rpR lib s).units = s ∧ ∀ x ∈ linesL s, LineU x := by
  by_cases h1 : chkLib lib = 0
  rotate_left
  · rw [rp_lib h1]; exact .inl ⟨h1, rfl⟩
  by_cases h2 : 60000 < s.size
  · rw [rp_large h1 h2]; exact .inl ⟨by decide, rfl⟩
  by_cases h3 : ∀ j, j < (linesL s).length → ¬ BadU (linesW s) (linesL s) j
  · rw [rp_good h1 h2 h3]
    by_cases h4 : chkRig (rpR lib s) = 0
    · rw [if_pos h4]
      have hl : ∀ x ∈ linesL s, LineU x := by
        intro x hx
        obtain ⟨j, hj, rfl⟩ := List.mem_iff_getElem.1 hx
        exact Classical.not_not.1 fun h => h3 j hj (.inl ⟨hj, h⟩)
      refine .inr ⟨rfl, by omega, h4, ?_, hl⟩
      have hw : linesW s = true := by
        cases hw : linesW s
        · have hp := lines_cut hw
          exact absurd (.inr ⟨hw, by omega⟩) (h3 ((linesL s).length - 1) (by omega))
        · rfl
      apply bytes_eq'
      rw [patchB_list, lines_back hw]
      congr 1
      unfold rpR
      simp only
      rw [List.map_map]
      apply List.map_congr_left
      intro x hx
      show (lineC (untV x)).data.toList = x.data.toList
      rw [line_same (hl x hx)]
    · rw [if_neg h4]; exact .inl ⟨h4, rfl⟩
  · obtain ⟨k, hk, hb, hmin⟩ : ∃ k, k < (linesL s).length ∧ BadU (linesW s) (linesL s) k ∧ ∀ j, j < k → ¬ BadU (linesW s) (linesL s) j := by
      have hex : ∃ k, k < (linesL s).length ∧ BadU (linesW s) (linesL s) k := by
        apply Classical.byContradiction
        intro h
        exact h3 fun j hj hb => h ⟨j, hj, hb⟩
      obtain ⟨k, hk⟩ := hex
      induction k using Nat.strongRecOn with
      | _ k ih =>
        by_cases hm : ∀ j, j < k → ¬ BadU (linesW s) (linesL s) j
        · exact ⟨k, hk.1, hk.2, hm⟩
        · obtain ⟨j, hj⟩ : ∃ j, j < k ∧ BadU (linesW s) (linesL s) j := by
            apply Classical.byContradiction
            intro h
            exact hm fun j hj hb => h ⟨j, hj, hb⟩
          exact ih j hj.1 ⟨by omega, hj.2⟩
    rw [rp_bad h1 h2 hk hmin hb]
    exact .inl ⟨by show (9 : Int) ≠ 0; decide, rfl⟩
end Go.Proofs.YtppbagllhmeenaaGreatDoor
