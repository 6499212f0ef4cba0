/- A level that was written is read; so is a number. Plain Lean. (lines of XEfBack, without the effect) word.Lines at any text. -/
import Derived.Test.YtppbagllhmeenaaGreatDoorT68M12
import Derived.Test.YtppbagllhmeenaaGreatDoorT68M11

namespace Go.Proofs.YtppbagllhmeenaaGreatDoor
open Go.Lib
open Classical
set_option linter.unusedVariables false
set_option linter.unusedSimpArgs false

theorem data_eq {s t : ByteArray} (h : s.data.toList = t.data.toList) : s = t := ByteArray.ext (Array.toList_inj.1 h)
theorem app_list (a b : ByteArray) : (a ++ b).data.toList = a.data.toList ++ b.data.toList := by
  rw [ByteArray.data_append, Array.toList_append]
theorem toList_of {s : ByteArray} {l : List UInt8} (h : s.data.toList = l) : s.toList = l := by rw [Lib.toList_data]; exact h
/-! ### a level that was written is read -/
theorem rd_fn {s : ByteArray} {v u : Int} (h : RdS 9 s v) (g : RdS 9 s u) : v = u := by
  rcases h with ⟨h1, _, _, rfl⟩ | ⟨h1, _, d, h2, _, rfl⟩ <;> rcases g with ⟨g1, _, _, rfl⟩ | ⟨g1, _, d', g2, _, rfl⟩
  · rfl
  · rw [h1] at g1; cases g1
  · rw [h1] at g1; cases g1
  · rw [dec_fn h2 g2]
theorem lvW_rd {s : ByteArray} {v : Int} (e1 : ¬ s.toList = [111, 117, 116]) (e2 : ¬ s.toList = [102, 117, 108, 108]) (h : RdS 9 s v) : lvW s = some v := by
  have hx : ∃ v, RdS 9 s v := ⟨v, h⟩
  unfold lvW
  rw [if_neg e1, if_neg e2, dif_pos hx, rd_fn hx.choose_spec h]
theorem lv_hash (n : Nat) (h1 : n ≤ 65535) : lvW ⟨(35 :: decDigits n).toArray⟩ = some (n : Int) := by
  have e : (⟨(35 :: decDigits n).toArray⟩ : ByteArray).data.toList = 35 :: decDigits n := rfl
  refine lvW_rd (by rw [toList_of e]; intro h; cases h) (by rw [toList_of e]; intro h; cases h) (.inl ⟨?_, ?_⟩)
  · unfold preB; rw [e]; simp [hasPrefix, List.isPrefixOf]
  have ht : (preT ⟨(35 :: decDigits n).toArray⟩).data.toList = decDigits n := by
    unfold preT
    rw [e]
    simp [trimPrefix, hasPrefix, List.isPrefixOf]
  obtain ⟨k1, k2⟩ := nums_dd _ n 8 ht (by omega)
  rw [k2]
  exact ⟨k1, h1, rfl⟩
theorem lv_pct (p : Nat) (n : Int) (h1 : p ≤ 100) (h : rnd ((p : Int) * 65535) 100 = n) : lvW ⟨(decDigits p ++ [37]).toArray⟩ = some n := by
  have e : (⟨(decDigits p ++ [37]).toArray⟩ : ByteArray).data.toList = decDigits p ++ [37] := by simp
  have hl : ∀ l : List UInt8, l.getLast? ≠ some 37 → ¬ (⟨(decDigits p ++ [37]).toArray⟩ : ByteArray).toList = l := by
    intro l hl he
    rw [toList_of e] at he
    rw [← he] at hl
    simp at hl
  have hp := (dd_len 8 p (by omega)).1
  refine lvW_rd (hl _ (by decide)) (hl _ (by decide)) (.inr ⟨?_, ?_, 100 * p, ?_, by omega, ?_⟩)
  · unfold preB
    rw [e]
    cases hd : decDigits p with
    | nil => rw [hd] at hp; simp at hp
    | cons b r =>
      have hb := dd_digits p b (by rw [hd]; simp)
      have hb2 : b ≠ 35 := dig_ne hb 35 (.inl (by decide))
      simp [hasPrefix, List.isPrefixOf]
      exact fun hh => hb2 hh.symm
  · unfold sufB
    rw [e]
    simp [hasSuffix, List.isSuffixOf, List.isPrefixOf]
  · have ht : (sufT ⟨(decDigits p ++ [37]).toArray⟩).data.toList = decDigits p := by
      unfold sufT
      rw [e]
      simp [trimSuffix, hasSuffix, List.isSuffixOf, List.isPrefixOf]
    obtain ⟨c1, c2, c3⟩ := cut_out (s := sufT ⟨(decDigits p ++ [37]).toArray⟩) (c := 46) (by
      rw [ht]
      exact fun x hx => dig_ne (dd_digits p x hx) 46 (.inl (by decide)))
    unfold DecS
    rw [c2]
    obtain ⟨k1, k2⟩ := nums_dd _ p 8 ht (by omega)
    rw [k2]
    exact ⟨k1, .inl ⟨c1, rfl⟩⟩
  · rw [← h]
    unfold rnd
    omega
theorem lv_show (n : Int) (h0 : 0 ≤ n) (h1 : n ≤ 65535) : lvW (showT n) = some n := by
  unfold showT
  by_cases c0 : n = 0
  · subst c0
    rw [if_pos rfl]
    unfold lvW
    rw [if_pos (toList_of rfl)]
  by_cases c1 : n = 65535
  · subst c1
    rw [if_neg (by decide), if_pos rfl]
    unfold lvW
    rw [if_neg (by rw [toList_of (l := [102, 117, 108, 108]) rfl]; decide), if_pos (toList_of rfl)]
  rw [if_neg c0, if_neg c1]
  by_cases c2 : rnd (rnd (100 * n) 65535 * 65535) 100 = n
  · rw [if_pos c2]
    obtain ⟨p1, p2⟩ := pct_nat (n := n) (by omega) (by omega)
    exact lv_pct _ n p2 (by rw [← p1]; exact c2)
  · rw [if_neg c2, lv_hash n.toNat (by omega)]
    congr 1
    omega
theorem showT_no (n : Int) (c : UInt8) (hc : c = 32 ∨ c = 58) : ∀ x ∈ (showT n).data.toList, x ≠ c := by
  have key : ∀ (l : List UInt8), (∀ x ∈ l, x ≠ 32 ∧ x ≠ 58) → ∀ x ∈ l, x ≠ c := by
    intro l h x hx
    rcases hc with rfl | rfl
    · exact (h x hx).1
    · exact (h x hx).2
  unfold showT
  split
  · exact key _ (by decide)
  split
  · exact key _ (by decide)
  split
  · refine key _ ?_
    intro x hx
    have hx : x ∈ decDigits (rnd (100 * n) 65535).toNat ++ [37] := by simpa using hx
    rcases List.mem_append.1 hx with h | h
    · exact ⟨dig_ne (dd_digits _ x h) 32 (.inl (by decide)), dig_ne (dd_digits _ x h) 58 (.inr (by decide))⟩
    · obtain rfl := List.mem_singleton.1 h
      decide
  · refine key _ ?_
    intro x hx
    have hx : x ∈ 35 :: decDigits n.toNat := by simpa using hx
    rcases List.mem_cons.1 hx with rfl | h
    · decide
    · exact ⟨dig_ne (dd_digits _ x h) 32 (.inl (by decide)), dig_ne (dd_digits _ x h) 58 (.inr (by decide))⟩
/-! ### a number that was written is read -/
theorem itT_list (n : Int) (h : 0 ≤ n) : (itT n).data.toList = decDigits n.toNat := by
  unfold itT itoa
  rw [if_neg (by omega)]
theorem itT_neg (n : Int) (h : n < 0) : (itT n).data.toList = 45 :: decDigits n.natAbs := by
  unfold itT itoa
  rw [if_pos h]
theorem itT_no (n : Int) (c : UInt8) (hc : c = 32 ∨ c = 58) : ∀ x ∈ (itT n).data.toList, x ≠ c := by
  intro x hx
  have hd : ∀ u : Nat, x ∈ decDigits u → x ≠ c := by
    intro u h
    rcases hc with rfl | rfl
    · exact dig_ne (dd_digits _ x h) 32 (.inl (by decide))
    · exact dig_ne (dd_digits _ x h) 58 (.inr (by decide))
  by_cases h : n < 0
  · rw [itT_neg n h] at hx
    rcases List.mem_cons.1 hx with rfl | h
    · rcases hc with rfl | rfl <;> decide
    · exact hd _ h
  · rw [itT_list n (by omega)] at hx
    exact hd _ hx
theorem nb_it (n : Int) (h0 : 0 ≤ n) (h1 : n < 1000000000) : nbW (itT n) = some n := by
  obtain ⟨k1, k2⟩ := nums_dd (itT n) n.toNat 8 (itT_list n h0) (by omega)
  unfold nbW
  rw [if_pos k1, k2]
  congr 1
  omega
theorem nb_digits (s : ByteArray) (u : Nat) (h : s.data.toList = decDigits u) (h1 : u < 1000000000) : nbW s = some (u : Int) := by
  obtain ⟨k1, k2⟩ := nums_dd s u 8 h (by omega)
  unfold nbW
  rw [if_pos k1, k2]

theorem lv_range {s : ByteArray} {v : Int} (h : lvW s = some v) : 0 ≤ v ∧ v ≤ 65535 := by
  unfold lvW at h
  split at h
  · injection h with h; omega
  split at h
  · injection h with h; omega
  split at h
  · rename_i hx
    injection h with h
    have := hx.choose_spec
    rw [h] at this
    rcases this with ⟨_, _, h1, rfl⟩ | ⟨_, _, d, h1, h2, rfl⟩
    · omega
    · have := dec_range (by omega) h1
      unfold rnd
      omega
  · cases h
end Go.Proofs.YtppbagllhmeenaaGreatDoor

namespace Go.Proofs.YtppbagllhmeenaaGreatDoor
open Go.RowKit
set_option linter.unusedVariables false
set_option linter.unusedSimpArgs false

/-- the lines of a text; whether the last one has its end -/
def linesL (s : ByteArray) : List ByteArray :=
  if s.size = 0 then [] else if ((wordsB 10 s).getLast?.map (·.size)) = some 0 then (wordsB 10 s).dropLast else wordsB 10 s
def linesW (s : ByteArray) : Bool := decide (s.size = 0) || decide (((wordsB 10 s).getLast?.map (·.size)) = some 0)
theorem words_snoc (s : ByteArray) : ∃ L0 x, wordsB 10 s = L0 ++ [x] := by
  have h := wordsB_pos 10 s
  exact ⟨(wordsB 10 s).dropLast, (wordsB 10 s).getLast (by intro e; rw [e] at h; simp at h), (List.dropLast_concat_getLast _).symm⟩
/-- what Lines hands back -/
def LinesPost (w : World) (s : ByteArray) (e : Ending) (w' : World) : Prop :=
  ∃ ao cap, e = .returned (.tuple #[.slice ao (linesL s).length cap, .bool (linesW s)]) ∧ (linesL s ≠ [] → ao = some ⟨w.heap.size, 0, none⟩ ∧ w.heap.size < w'.heap.size ∧ RowS w' w.heap.size 0 (linesL s)) ∧ Below w.heap.size w w'
theorem linesL_le (s : ByteArray) : (linesL s).length ≤ s.size + 1 := by
  have := wordsB_le 10 s
  unfold linesL
  split
  · simp
  · split
    · rw [List.length_dropLast]; omega
    · exact this
theorem linesL_size (s : ByteArray) : ∀ x ∈ linesL s, x.size ≤ s.size := by
  intro x hx
  unfold linesL at hx
  split at hx
  · simp at hx
  · split at hx
    · exact wordsB_size 10 s x (List.dropLast_subset _ hx)
    · exact wordsB_size 10 s x hx

set_option maxHeartbeats 4000000 in
theorem lines_any (s : ByteArray) (w : World) (hT : TextW w) (hs : s.size < 4294967281) :
    Calls Tryz.prog 18 #[.string s] w (LinesPost w s) := by
  by_cases h0 : s.size = 0
  · have he : s = ⟨#[]⟩ := ByteArray.ext (by apply Array.ext <;> simp_all)
    subst he
    clear hs
    go_enter Tryz.func18, Tryz.ntmps18
    go_wp2
    go_ret2
    exact ⟨none, 0, rfl, fun h => absurd rfl h, Below.refl _ _⟩
  · have CS := Lib.hid (split_any 10 s w hT hs)
    have hl := bytes_some (s := s) (by omega)
    have hl2 := bytes_some' (s := s) (by omega)
    have HLL := Lib.hid (show linesL s = if ((wordsB 10 s).getLast?.map (·.size)) = some 0 then (wordsB 10 s).dropLast else wordsB 10 s from if_neg h0)
    have HLW := Lib.hid (show linesW s = decide (((wordsB 10 s).getLast?.map (·.size)) = some 0) by unfold linesW; rw [decide_eq_false h0]; rfl)
    have hle := wordsB_le 10 s
    obtain ⟨L0, x, hL⟩ := words_snoc s
    have HPOST := Lib.hid (show ∀ e w', (∃ ao cap, e = .returned (.tuple #[.slice ao (linesL s).length cap, .bool (linesW s)]) ∧ (linesL s ≠ [] → ao = some ⟨w.heap.size, 0, none⟩ ∧ w.heap.size < w'.heap.size ∧ RowS w' w.heap.size 0 (linesL s)) ∧ Below w.heap.size w w') → LinesPost w s e w' from fun e w' h => h)
    rw [hL] at CS HLL HLW hle
    have hlast : (L0 ++ [x]).getLast? = some x := by simp
    have hdl : (L0 ++ [x]).dropLast = L0 := by simp
    rw [hlast, hdl] at HLL
    rw [hlast] at HLW
    simp only [Option.map_some, Option.some.injEq] at HLL HLW
    have hlen : (L0 ++ [x]).length = L0.length + 1 := by simp
    generalize linesL s = LL at *
    generalize linesW s = LW at *
    generalize LinesPost w s = PO at *
    clear hT hL h0 hlast hdl
    go_enter Tryz.func18, Tryz.ntmps18
    go_wp2_with fail
    refine CS.out.mono ?_
    rintro e w1 ⟨rfl, hrow, hb, hlt⟩
    rw [hlen]
    have hc := hrow L0.length (by rw [hlen]; omega)
    rw [show (L0 ++ [x])[L0.length]'(by rw [hlen]; omega) = x by simp, Nat.zero_add] at hc
    have HR := Lib.hid hrow
    have HB := Lib.hid hb
    clear hrow hb
    have hsub : ((L0.length + 1 : Nat) : Int) - 1 = L0.length := by omega
    by_cases hx : x.size = 0
    · have he : x = ⟨#[]⟩ := ByteArray.ext (by apply Array.ext <;> simp_all)
      have HV1 := Lib.hid (show LL = L0 by rw [HLL.out, if_pos hx])
      have HV2 := Lib.hid (show LW = true by rw [HLW.out, decide_eq_true hx])
      subst he
      clear hx HLL HLW
      go_wp2_with fail
      refine HPOST.out _ _ ⟨_, _, by rw [HV1.out, HV2.out]; rfl, fun h => ⟨rfl, hlt, ?_⟩, HB.out⟩
      rw [HV1.out]
      intro j hj
      have := HR.out j (by rw [hlen]; omega)
      rwa [show (L0 ++ [(⟨#[]⟩ : ByteArray)])[j]'(by rw [hlen]; omega) = L0[j] from List.getElem_append_left hj] at this
    · have hx1 := bytes_some (s := x) (by omega)
      have hx2 := bytes_some' (s := x) (by omega)
      have HV1 := Lib.hid (show LL = L0 ++ [x] by rw [HLL.out, if_neg hx])
      have HV2 := Lib.hid (show LW = false by rw [HLW.out, decide_eq_false hx])
      clear hx HLL HLW
      go_wp2_with fail
      refine HPOST.out _ _ ⟨some ⟨w.heap.size, 0, none⟩, L0.length + 1, by rw [HV1.out, HV2.out, hlen]; rfl, fun h => ⟨rfl, hlt, ?_⟩, HB.out⟩
      rw [HV1.out]
      exact HR.out
end Go.Proofs.YtppbagllhmeenaaGreatDoor
