/- What effect.Read makes of the words of an effect's text: the effect. Plain Lean. -/
import Derived.Test.YtopmdeefcjdadaaDoorT63M22
import Derived.Test.YtopmdeefcjdadaaDoorT63M37

namespace Go.Proofs.YtopmdeefcjdadaaDoor
open Go.Lib
open Classical
set_option linter.unusedVariables false
set_option linter.unusedSimpArgs false

theorem data_eq {s t : ByteArray} (h : s.data.toList = t.data.toList) : s = t := ByteArray.ext (Array.toList_inj.1 h)
theorem app_list (a b : ByteArray) : (a ++ b).data.toList = a.data.toList ++ b.data.toList := by
  rw [ByteArray.data_append, Array.toList_append]
theorem toList_of {s : ByteArray} {l : List UInt8} (h : s.data.toList = l) : s.toList = l := by rw [Lib.toList_data]; exact h
/-! ### a level that was written is read -/
theorem rd_fn {s : ByteArray} {v u : Int} (h : RdS 9 s v) (g : RdS 9 s u) : v = u := by
  rcases h with ⟨h1, _, _, rfl⟩ | ⟨h1, _, d, h2, _, rfl⟩ <;> rcases g with ⟨g1, _, _, rfl⟩ | ⟨g1, _, d', g2, _, rfl⟩
  · rfl
  · rw [h1] at g1; cases g1
  · rw [h1] at g1; cases g1
  · rw [dec_fn h2 g2]
theorem lvW_rd {s : ByteArray} {v : Int} (e1 : ¬ s.toList = [111, 117, 116]) (e2 : ¬ s.toList = [102, 117, 108, 108]) (h : RdS 9 s v) : lvW s = some v := by
  have hx : ∃ v, RdS 9 s v := ⟨v, h⟩
  unfold lvW
  rw [if_neg e1, if_neg e2, dif_pos hx, rd_fn hx.choose_spec h]
theorem lv_hash (n : Nat) (h1 : n ≤ 65535) : lvW ⟨(35 :: decDigits n).toArray⟩ = some (n : Int) := by
  have e : (⟨(35 :: decDigits n).toArray⟩ : ByteArray).data.toList = 35 :: decDigits n := rfl
  refine lvW_rd (by rw [toList_of e]; intro h; cases h) (by rw [toList_of e]; intro h; cases h) (.inl ⟨?_, ?_⟩)
  · unfold preB; rw [e]; simp [hasPrefix, List.isPrefixOf]
  have ht : (preT ⟨(35 :: decDigits n).toArray⟩).data.toList = decDigits n := by
    unfold preT
    rw [e]
    simp [trimPrefix, hasPrefix, List.isPrefixOf]
  obtain ⟨k1, k2⟩ := nums_dd _ n 8 ht (by omega)
  rw [k2]
  exact ⟨k1, h1, rfl⟩
theorem lv_pct (p : Nat) (n : Int) (h1 : p ≤ 100) (h : rnd ((p : Int) * 65535) 100 = n) : lvW ⟨(decDigits p ++ [37]).toArray⟩ = some n := by
  have e : (⟨(decDigits p ++ [37]).toArray⟩ : ByteArray).data.toList = decDigits p ++ [37] := by simp
  have hl : ∀ l : List UInt8, l.getLast? ≠ some 37 → ¬ (⟨(decDigits p ++ [37]).toArray⟩ : ByteArray).toList = l := by
    intro l hl he
    rw [toList_of e] at he
    rw [← he] at hl
    simp at hl
  have hp := (dd_len 8 p (by omega)).1
  refine lvW_rd (hl _ (by decide)) (hl _ (by decide)) (.inr ⟨?_, ?_, 100 * p, ?_, by omega, ?_⟩)
  · unfold preB
    rw [e]
    cases hd : decDigits p with
    | nil => rw [hd] at hp; simp at hp
    | cons b r =>
      have hb := dd_digits p b (by rw [hd]; simp)
      have hb2 : b ≠ 35 := dig_ne hb 35 (.inl (by decide))
      simp [hasPrefix, List.isPrefixOf]
      exact fun hh => hb2 hh.symm
  · unfold sufB
    rw [e]
    simp [hasSuffix, List.isSuffixOf, List.isPrefixOf]
  · have ht : (sufT ⟨(decDigits p ++ [37]).toArray⟩).data.toList = decDigits p := by
      unfold sufT
      rw [e]
      simp [trimSuffix, hasSuffix, List.isSuffixOf, List.isPrefixOf]
    obtain ⟨c1, c2, c3⟩ := cut_out (s := sufT ⟨(decDigits p ++ [37]).toArray⟩) (c := 46) (by
      rw [ht]
      exact fun x hx => dig_ne (dd_digits p x hx) 46 (.inl (by decide)))
    unfold DecS
    rw [c2]
    obtain ⟨k1, k2⟩ := nums_dd _ p 8 ht (by omega)
    rw [k2]
    exact ⟨k1, .inl ⟨c1, rfl⟩⟩
  · rw [← h]
    unfold rnd
    omega
theorem lv_show (n : Int) (h0 : 0 ≤ n) (h1 : n ≤ 65535) : lvW (showT n) = some n := by
  unfold showT
  by_cases c0 : n = 0
  · subst c0
    rw [if_pos rfl]
    unfold lvW
    rw [if_pos (toList_of rfl)]
  by_cases c1 : n = 65535
  · subst c1
    rw [if_neg (by decide), if_pos rfl]
    unfold lvW
    rw [if_neg (by rw [toList_of (l := [102, 117, 108, 108]) rfl]; decide), if_pos (toList_of rfl)]
  rw [if_neg c0, if_neg c1]
  by_cases c2 : rnd (rnd (100 * n) 65535 * 65535) 100 = n
  · rw [if_pos c2]
    obtain ⟨p1, p2⟩ := pct_nat (n := n) (by omega) (by omega)
    exact lv_pct _ n p2 (by rw [← p1]; exact c2)
  · rw [if_neg c2, lv_hash n.toNat (by omega)]
    congr 1
    omega
theorem showT_no (n : Int) (c : UInt8) (hc : c = 32 ∨ c = 58) : ∀ x ∈ (showT n).data.toList, x ≠ c := by
  have key : ∀ (l : List UInt8), (∀ x ∈ l, x ≠ 32 ∧ x ≠ 58) → ∀ x ∈ l, x ≠ c := by
    intro l h x hx
    rcases hc with rfl | rfl
    · exact (h x hx).1
    · exact (h x hx).2
  unfold showT
  split
  · exact key _ (by decide)
  split
  · exact key _ (by decide)
  split
  · refine key _ ?_
    intro x hx
    have hx : x ∈ decDigits (rnd (100 * n) 65535).toNat ++ [37] := by simpa using hx
    rcases List.mem_append.1 hx with h | h
    · exact ⟨dig_ne (dd_digits _ x h) 32 (.inl (by decide)), dig_ne (dd_digits _ x h) 58 (.inr (by decide))⟩
    · obtain rfl := List.mem_singleton.1 h
      decide
  · refine key _ ?_
    intro x hx
    have hx : x ∈ 35 :: decDigits n.toNat := by simpa using hx
    rcases List.mem_cons.1 hx with rfl | h
    · decide
    · exact ⟨dig_ne (dd_digits _ x h) 32 (.inl (by decide)), dig_ne (dd_digits _ x h) 58 (.inr (by decide))⟩
/-! ### a number that was written is read -/
theorem itT_list (n : Int) (h : 0 ≤ n) : (itT n).data.toList = decDigits n.toNat := by
  unfold itT itoa
  rw [if_neg (by omega)]
theorem itT_neg (n : Int) (h : n < 0) : (itT n).data.toList = 45 :: decDigits n.natAbs := by
  unfold itT itoa
  rw [if_pos h]
theorem itT_no (n : Int) (c : UInt8) (hc : c = 32 ∨ c = 58) : ∀ x ∈ (itT n).data.toList, x ≠ c := by
  intro x hx
  have hd : ∀ u : Nat, x ∈ decDigits u → x ≠ c := by
    intro u h
    rcases hc with rfl | rfl
    · exact dig_ne (dd_digits _ x h) 32 (.inl (by decide))
    · exact dig_ne (dd_digits _ x h) 58 (.inr (by decide))
  by_cases h : n < 0
  · rw [itT_neg n h] at hx
    rcases List.mem_cons.1 hx with rfl | h
    · rcases hc with rfl | rfl <;> decide
    · exact hd _ h
  · rw [itT_list n (by omega)] at hx
    exact hd _ hx
theorem nb_it (n : Int) (h0 : 0 ≤ n) (h1 : n < 1000000000) : nbW (itT n) = some n := by
  obtain ⟨k1, k2⟩ := nums_dd (itT n) n.toNat 8 (itT_list n h0) (by omega)
  unfold nbW
  rw [if_pos k1, k2]
  congr 1
  omega
theorem nb_digits (s : ByteArray) (u : Nat) (h : s.data.toList = decDigits u) (h1 : u < 1000000000) : nbW s = some (u : Int) := by
  obtain ⟨k1, k2⟩ := nums_dd s u 8 h (by omega)
  unfold nbW
  rw [if_pos k1, k2]
theorem sp_it (n : Int) (h0 : n ≠ 0) (h1 : -10000 ≤ n) (h2 : n ≤ 10000) : spW (itT n) = some n := by
  by_cases h : n < 0
  · have e := itT_neg n h
    have hb : dshB (itT n) = true := by unfold dshB; rw [e]; simp [hasPrefix, List.isPrefixOf]
    have ht : (dshT (itT n)).data.toList = decDigits n.natAbs := by
      unfold dshT
      rw [e]
      simp [trimPrefix, hasPrefix, List.isPrefixOf]
    unfold spW
    rw [nb_digits _ _ ht (by omega), hb]
    have h3 : ¬ ((n.natAbs : Nat) : Int) = 0 := by omega
    simp only [if_true]
    rw [if_neg h3]
    congr 1
    omega
  · have e := itT_list n (by omega)
    have hp := (dd_len 8 n.toNat (by omega)).1
    have hb : hasPrefix (decDigits n.toNat) [45] = false := by
      cases hd : decDigits n.toNat with
      | nil => rw [hd] at hp; simp at hp
      | cons b r =>
        have hb2 : b ≠ 45 := dig_ne (dd_digits n.toNat b (by rw [hd]; simp)) 45 (.inl (by decide))
        simp [hasPrefix, List.isPrefixOf]
        exact fun hh => hb2 hh.symm
    have hb1 : dshB (itT n) = false := by unfold dshB; rw [e]; exact hb
    have ht : (dshT (itT n)).data.toList = decDigits n.toNat := by
      unfold dshT
      rw [e]
      simp [trimPrefix, hb]
    unfold spW
    rw [nb_digits _ _ ht (by omega), hb1]
    have h3 : ¬ ((n.toNat : Nat) : Int) = 0 := by omega
    simp only [Bool.false_eq_true, if_false]
    rw [if_neg h3]
    congr 1
    omega
/-! ### steps -/
noncomputable def stT (s : Stp) : ByteArray := (((showT s.lv ++ (⟨#[58]⟩ : ByteArray)) ++ itT s.hold) ++ (⟨#[58]⟩ : ByteArray)) ++ itT s.fade
theorem stT_list (s : Stp) : (stT s).data.toList = joinW 58 [(showT s.lv).data.toList, (itT s.hold).data.toList, (itT s.fade).data.toList] := by
  unfold stT
  simp only [app_list, joinW]
  simp
theorem pieceE_list (s : Stp) : (pieceE s).data.toList = 32 :: (stT s).data.toList := by
  unfold pieceE stT
  simp only [app_list]
  simp
theorem stT_no (s : Stp) : ∀ x ∈ (stT s).data.toList, x ≠ 32 := by
  intro x hx
  unfold stT at hx
  simp only [app_list, List.mem_append] at hx
  rcases hx with (((h | h) | h) | h) | h
  · exact showT_no _ 32 (.inl rfl) x h
  · obtain rfl : x = 58 := by simpa using h
    decide
  · exact itT_no _ 32 (.inl rfl) x h
  · obtain rfl : x = 58 := by simpa using h
    decide
  · exact itT_no _ 32 (.inl rfl) x h
theorem stT_mem (s : Stp) : (58 : UInt8) ∈ (stT s).data.toList := by
  unfold stT
  simp only [app_list, List.mem_append]
  exact .inl (.inr (by simp))
theorem words_map {c : UInt8} {s : ByteArray} {l : List ByteArray} (hl : l ≠ []) (hn : ∀ x ∈ l, ∀ y ∈ x.data.toList, y ≠ c) (h : s.data.toList = joinW c (l.map (·.data.toList))) : wordsB c s = l := by
  have hw := wordsB_spl c s
  rw [h, spl_join c _ (by simpa using hl) (by
    intro x hx
    obtain ⟨y, hy, rfl⟩ := List.mem_map.1 hx
    exact hn y hy)] at hw
  exact (List.map_inj_right (fun x y e => data_eq e)).1 hw
theorem st_read (s : Stp) (h : stpB s = true) : stW (stT s) = some s := by
  obtain ⟨⟨a0, a1⟩, ⟨b0, b1⟩, c0, c1⟩ := stpB_le h
  unfold stW
  rw [words_map (c := 58) (l := [showT s.lv, itT s.hold, itT s.fade]) (by simp) (by
    intro x hx
    rcases List.mem_cons.1 hx with rfl | hx
    · exact showT_no _ 58 (.inr rfl)
    rcases List.mem_cons.1 hx with rfl | hx
    · exact itT_no _ 58 (.inr rfl)
    obtain rfl := List.mem_singleton.1 hx
    exact itT_no _ 58 (.inr rfl)) (stT_list s)]
  simp only
  rw [lv_show _ a0 a1, nb_it _ b0 (by omega), nb_it _ c0 (by omega)]
theorem prsL_map (l : List Stp) (h : l.all stpB = true) : prsL (l.map stT) = some l := by
  induction l with
  | nil => rfl
  | cons s r ih =>
    simp only [List.all_cons, Bool.and_eq_true] at h
    show (match stW (stT s) with
      | none => none
      | some x => (prsL (r.map stT)).map (x :: ·)) = _
    rw [st_read s h.1, ih h.2]
    rfl
/-! ### the words of an effect -/
noncomputable def wR (rel : Bool) (l : List Stp) : List ByteArray := (if rel = true then [relB] else []) ++ l.map stT
noncomputable def wB (back rel : Bool) (l : List Stp) : List ByteArray := (if back = true then [bckB] else []) ++ wR rel l
noncomputable def wS (spread : Int) (back rel : Bool) (l : List Stp) : List ByteArray := (if spread = 0 then [] else [sprB, itT spread]) ++ wB back rel l
noncomputable def wW (form width spread : Int) (back rel : Bool) (l : List Stp) : List ByteArray := (if form = 4 then [widB, itT width] else []) ++ wS spread back rel l
noncomputable def wC (form cycle width spread : Int) (back rel : Bool) (l : List Stp) : List ByteArray := (if form = 7 then [] else [cycB, itT cycle]) ++ wW form width spread back rel l
noncomputable def wsE (form : Nat) (low high cycle width spread : Int) (back rel : Bool) (l : List Stp) : List ByteArray := formT form :: froB :: showT low :: toB :: showT high :: wC form cycle width spread back rel l
theorem joinF (ws : List ByteArray) : ∀ a : ByteArray, joinW 32 ((a :: ws).map (·.data.toList)) = a.data.toList ++ ws.flatMap (fun w => 32 :: w.data.toList) := by
  induction ws with
  | nil => intro a; simp [joinW]
  | cons p t ih =>
    intro a
    show a.data.toList ++ 32 :: joinW 32 ((p :: t).map (·.data.toList)) = _
    rw [ih]
    simp
theorem strE_list (l : List Stp) : ∀ b : ByteArray, (strE b l).data.toList = b.data.toList ++ (l.map stT).flatMap (fun w => 32 :: w.data.toList) := by
  induction l with
  | nil => intro b; simp [strE]
  | cons p t ih =>
    intro b
    show (strE (b ++ pieceE p) t).data.toList = _
    rw [ih, app_list, pieceE_list]
    simp
theorem effT_list (form : Nat) (low high cycle width spread : Int) (back rel : Bool) (l : List Stp) : (effT form low high cycle width spread back rel l).data.toList = joinW 32 ((wsE form low high cycle width spread back rel l).map (·.data.toList)) := by
  unfold wsE
  rw [joinF]
  unfold effT
  rw [strE_list]
  unfold wC wW wS wB wR
  simp only [List.flatMap_cons, List.flatMap_append]
  rw [show ∀ X : List UInt8, (formT form).data.toList ++ (32 :: froB.data.toList ++ (32 :: (showT low).data.toList ++ (32 :: toB.data.toList ++ (32 :: (showT high).data.toList ++ X)))) = (t0 form low high).data.toList ++ X from fun X => by
    unfold t0 froB toB
    simp only [app_list]
    simp]
  generalize (l.map stT).flatMap (fun w => 32 :: w.data.toList) = Z
  have e1 : ∀ x : ByteArray, (tCyc form cycle x).data.toList = x.data.toList ++ (if (form : Int) = 7 then [] else [cycB, itT cycle]).flatMap (fun w => 32 :: w.data.toList) := by
    intro x
    unfold tCyc cycB
    split <;> simp [app_list]
  have e2 : ∀ x : ByteArray, (tWid form width x).data.toList = x.data.toList ++ (if (form : Int) = 4 then [widB, itT width] else []).flatMap (fun w => 32 :: w.data.toList) := by
    intro x
    unfold tWid widB
    split <;> simp [app_list]
  have e3 : ∀ x : ByteArray, (tSpr spread x).data.toList = x.data.toList ++ (if spread = 0 then [] else [sprB, itT spread]).flatMap (fun w => 32 :: w.data.toList) := by
    intro x
    unfold tSpr sprB
    split <;> simp [app_list]
  have e4 : ∀ x : ByteArray, (tBack back x).data.toList = x.data.toList ++ (if back = true then [bckB] else []).flatMap (fun w => 32 :: w.data.toList) := by
    intro x
    unfold tBack bckB
    split <;> simp [app_list]
  have e5 : ∀ x : ByteArray, (tRel rel x).data.toList = x.data.toList ++ (if rel = true then [relB] else []).flatMap (fun w => 32 :: w.data.toList) := by
    intro x
    unfold tRel relB
    split <;> simp [app_list]
  rw [e5, e4, e3, e2, e1]
  simp only [List.append_assoc]
theorem no_of {b : ByteArray} (h : ∀ x ∈ b.data.toList, x ≠ 32) : ∀ x ∈ b.data.toList, x ≠ 32 := h
theorem formT_no (k : Nat) : ∀ x ∈ (formT k).data.toList, x ≠ 32 := by
  unfold formT
  repeat' split
  all_goals decide
theorem wsE_no (form : Nat) (low high cycle width spread : Int) (back rel : Bool) (l : List Stp) : ∀ b ∈ wsE form low high cycle width spread back rel l, ∀ x ∈ b.data.toList, x ≠ 32 := by
  intro b hb
  have hs : ∀ n, ∀ x ∈ (itT n).data.toList, x ≠ 32 := fun n => itT_no n 32 (.inl rfl)
  have hv : ∀ n, ∀ x ∈ (showT n).data.toList, x ≠ 32 := fun n => showT_no n 32 (.inl rfl)
  unfold wsE at hb
  rcases List.mem_cons.1 hb with rfl | hb
  · exact formT_no _
  rcases List.mem_cons.1 hb with rfl | hb
  · decide
  rcases List.mem_cons.1 hb with rfl | hb
  · exact hv _
  rcases List.mem_cons.1 hb with rfl | hb
  · decide
  rcases List.mem_cons.1 hb with rfl | hb
  · exact hv _
  unfold wC at hb
  rcases List.mem_append.1 hb with hb | hb
  · split at hb
    · cases hb
    · rcases List.mem_cons.1 hb with rfl | hb
      · decide
      · obtain rfl := List.mem_singleton.1 hb
        exact hs _
  unfold wW at hb
  rcases List.mem_append.1 hb with hb | hb
  · split at hb
    · rcases List.mem_cons.1 hb with rfl | hb
      · decide
      · obtain rfl := List.mem_singleton.1 hb
        exact hs _
    · cases hb
  unfold wS at hb
  rcases List.mem_append.1 hb with hb | hb
  · split at hb
    · cases hb
    · rcases List.mem_cons.1 hb with rfl | hb
      · decide
      · obtain rfl := List.mem_singleton.1 hb
        exact hs _
  unfold wB at hb
  rcases List.mem_append.1 hb with hb | hb
  · split at hb
    · obtain rfl := List.mem_singleton.1 hb
      decide
    · cases hb
  unfold wR at hb
  rcases List.mem_append.1 hb with hb | hb
  · split at hb
    · obtain rfl := List.mem_singleton.1 hb
      decide
    · cases hb
  obtain ⟨s, _, rfl⟩ := List.mem_map.1 hb
  exact stT_no s
/-! ### reading them -/
theorem st_ne (s : Stp) {b : ByteArray} (h : (58 : UInt8) ∉ b.data.toList) : stT s ≠ b := fun e => h (e ▸ stT_mem s)
theorem rT (form low high cycle width spread : Int) (back rel : Bool) (l : List Stp) (hl : l.all stpB = true) (h7 : form ≠ 7 → l = []) : prsT form low high cycle width spread back rel (l.map stT) = some ⟨form, low, high, cycle, width, spread, back, rel, l⟩ := by
  unfold prsT
  by_cases c : form = 7
  · rw [if_pos c, prsL_map l hl]
    rfl
  · rw [if_neg c, h7 c]
    simp
theorem rR (form low high cycle width spread : Int) (back rel : Bool) (l : List Stp) (hl : l.all stpB = true) (h7 : form ≠ 7 → l = []) : prsR form low high cycle width spread back (wR rel l) = some ⟨form, low, high, cycle, width, spread, back, rel, l⟩ := by
  have hT := fun rel => rT form low high cycle width spread back rel l hl h7
  unfold wR
  cases rel with
  | true =>
    rw [if_pos rfl]
    show (if relB = relB then prsT form low high cycle width spread back true (l.map stT) else prsT form low high cycle width spread back false (relB :: l.map stT)) = _
    rw [if_pos rfl]
    exact hT true
  | false =>
    rw [if_neg (by simp), List.nil_append]
    have hf := hT false
    cases l with
    | nil => exact hf
    | cons s r =>
      show (if stT s = relB then prsT form low high cycle width spread back true (r.map stT) else prsT form low high cycle width spread back false ((s :: r).map stT)) = _
      rw [if_neg (st_ne s (by decide))]
      exact hf
theorem wR_head (rel : Bool) (l : List Stp) {b : ByteArray} (h1 : (58 : UInt8) ∉ b.data.toList) (h2 : relB ≠ b) : ∀ a R, wR rel l = a :: R → a ≠ b := by
  intro a R h
  unfold wR at h
  cases rel with
  | true => rw [if_pos rfl] at h; exact (List.cons.inj h).1 ▸ h2
  | false =>
    rw [if_neg (by simp), List.nil_append] at h
    cases l with
    | nil => cases h
    | cons s r => exact (List.cons.inj h).1 ▸ st_ne s h1
theorem rB (form low high cycle width spread : Int) (back rel : Bool) (l : List Stp) (hl : l.all stpB = true) (h7 : form ≠ 7 → l = []) : prsB form low high cycle width spread (wB back rel l) = some ⟨form, low, high, cycle, width, spread, back, rel, l⟩ := by
  have hR := fun back => rR form low high cycle width spread back rel l hl h7
  unfold wB
  cases back with
  | true =>
    rw [if_pos rfl]
    show (if bckB = bckB then prsR form low high cycle width spread true (wR rel l) else prsR form low high cycle width spread false (bckB :: wR rel l)) = _
    rw [if_pos rfl]
    exact hR true
  | false =>
    rw [if_neg (by simp), List.nil_append]
    have hf := hR false
    have hh := wR_head rel l (b := bckB) (by decide) (by decide)
    generalize wR rel l = R at *
    cases R with
    | nil => exact hf
    | cons a r =>
      show (if a = bckB then prsR form low high cycle width spread true r else prsR form low high cycle width spread false (a :: r)) = _
      rw [if_neg (hh a r rfl)]
      exact hf
theorem wB_head (back rel : Bool) (l : List Stp) {b : ByteArray} (h1 : (58 : UInt8) ∉ b.data.toList) (h2 : relB ≠ b) (h3 : bckB ≠ b) : ∀ a R, wB back rel l = a :: R → a ≠ b := by
  intro a R h
  unfold wB at h
  cases back with
  | true => rw [if_pos rfl] at h; exact (List.cons.inj h).1 ▸ h3
  | false =>
    rw [if_neg (by simp), List.nil_append] at h
    exact wR_head rel l h1 h2 a R h
theorem rS (form low high cycle width spread : Int) (back rel : Bool) (l : List Stp) (hs : -10000 ≤ spread ∧ spread ≤ 10000) (hl : l.all stpB = true) (h7 : form ≠ 7 → l = []) : prsS form low high cycle width (wS spread back rel l) = some ⟨form, low, high, cycle, width, spread, back, rel, l⟩ := by
  have hB := rB form low high cycle width spread back rel l hl h7
  unfold wS
  by_cases c : spread = 0
  · rw [if_pos c, List.nil_append]
    have hh := wB_head back rel l (b := sprB) (by decide) (by decide) (by decide)
    rw [c] at hB ⊢
    generalize wB back rel l = R at *
    cases R with
    | nil => exact hB
    | cons a r =>
      cases r with
      | nil => exact hB
      | cons b r =>
        show (if a = sprB then (match spW b with
          | none => none
          | some n => prsB form low high cycle width n r) else prsB form low high cycle width 0 (a :: b :: r)) = _
        rw [if_neg (hh a _ rfl)]
        exact hB
  · rw [if_neg c]
    show (if sprB = sprB then (match spW (itT spread) with
      | none => none
      | some n => prsB form low high cycle width n (wB back rel l)) else prsB form low high cycle width 0 (sprB :: itT spread :: wB back rel l)) = _
    rw [if_pos rfl, sp_it spread c hs.1 hs.2]
    exact hB
theorem kv_it (w : ByteArray) (n : Int) (R : List ByteArray) (h0 : 0 ≤ n) (h1 : n < 1000000000) : kvW w (w :: itT n :: R) = some (n, R) := by
  show (if w = w then (nbW (itT n)).map (fun n => (n, R)) else none) = _
  rw [if_pos rfl, nb_it n h0 h1]
  rfl
theorem rC (form low high cycle width spread : Int) (back rel : Bool) (l : List Stp) (hc : 0 ≤ cycle ∧ cycle ≤ 3600000) (hw : 0 ≤ width ∧ width ≤ 1000) (hs : -10000 ≤ spread ∧ spread ≤ 10000) (hl : l.all stpB = true) (h7 : form ≠ 7 → l = []) (hc7 : form = 7 → cycle = 0) (hw4 : form ≠ 4 → width = 0) : prsC form low high (wC form cycle width spread back rel l) = some ⟨form, low, high, cycle, width, spread, back, rel, l⟩ := by
  have hS := rS form low high cycle width spread back rel l hs hl h7
  unfold prsC wC wW
  by_cases c7 : form = 7
  · have c4 : ¬ form = 4 := by omega
    have k1 := hc7 c7
    have k2 := hw4 c4
    subst k1 k2
    rw [if_pos c7, if_pos c7, if_neg c4, List.nil_append, List.nil_append]
    exact hS
  · rw [if_neg c7, if_neg c7]
    by_cases c4 : form = 4
    · rw [if_pos c4]
      show (match kvW cycB (cycB :: itT cycle :: widB :: itT width :: wS spread back rel l) with
        | none => none
        | some (n, R1) => if form = 4 then (match kvW widB R1 with
          | none => none
          | some (m, R2) => prsS form low high n m R2) else prsS form low high n 0 R1) = _
      rw [kv_it _ _ _ hc.1 (by omega)]
      simp only
      rw [if_pos c4, kv_it _ _ _ hw.1 (by omega)]
      exact hS
    · have k2 := hw4 c4
      subst k2
      rw [if_neg c4, List.nil_append]
      show (match kvW cycB (cycB :: itT cycle :: wS spread back rel l) with
        | none => none
        | some (n, R1) => if form = 4 then (match kvW widB R1 with
          | none => none
          | some (m, R2) => prsS form low high n m R2) else prsS form low high n 0 R1) = _
      rw [kv_it _ _ _ hc.1 (by omega)]
      simp only
      rw [if_neg c4]
      exact hS
theorem fmI_form (k : Nat) (h1 : 1 ≤ k) (h7 : k ≤ 7) : fmI (formT k) 7 = k := by
  have hk : k = 1 ∨ k = 2 ∨ k = 3 ∨ k = 4 ∨ k = 5 ∨ k = 6 ∨ k = 7 := by omega
  rcases hk with rfl | rfl | rfl | rfl | rfl | rfl | rfl <;> decide
theorem chk_width {form low high cycle width spread : Int} {l : List Stp} (h : chkF form low high cycle width spread l = 0) : form ≠ 4 → width = 0 := by
  intro h4
  have f4 : (form == 4) = false := by simpa using h4
  apply Classical.byContradiction
  intro hw
  have w0 : (width == 0) = false := by simpa using hw
  simp only [chkF, chkB, f4, w0, Bool.not_false, Bool.true_and, Bool.true_or, if_true] at h
  split at h <;> omega
/-- what is written is read -/
theorem effT_read (form : Nat) (low high cycle width spread : Int) (back rel : Bool) (l : List Stp) (h : chkF form low high cycle width spread l = 0) : prsE (wordsB 32 (effT form low high cycle width spread back rel l)) = some ⟨form, low, high, cycle, width, spread, back, rel, l⟩ := by
  obtain ⟨f0, l0, h0, lh, c0, w0, s0, ll, la, n7, c7⟩ := chk_zero h
  have w4 := chk_width h
  rw [words_map (c := 32) (l := wsE form low high cycle width spread back rel l) (by unfold wsE; simp) (wsE_no form low high cycle width spread back rel l) (effT_list form low high cycle width spread back rel l)]
  show (if fmI (formT form) 7 = 0 ∨ froB ≠ froB ∨ toB ≠ toB then none else match lvW (showT low), lvW (showT high) with
    | some lo, some hi => prsC (fmI (formT form) 7) lo hi (wC form cycle width spread back rel l)
    | _, _ => none) = _
  rw [fmI_form form (by omega) (by omega), if_neg (by simp; omega), lv_show low l0.1 l0.2, lv_show high h0.1 h0.2]
  exact rC form low high cycle width spread back rel l c0 w0 s0 la (fun h => List.length_eq_zero_iff.1 (n7 h)) c7 w4
end Go.Proofs.YtopmdeefcjdadaaDoor
