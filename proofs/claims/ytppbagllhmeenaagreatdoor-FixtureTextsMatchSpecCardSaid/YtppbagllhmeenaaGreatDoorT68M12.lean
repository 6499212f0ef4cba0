/- level.Read and word.Number at any text, as functions of the text. (lines of XEfPrs, without the effect) fixture.show of both sides, the groups' words. (printed by wip/gen/gen_fshow.py) A numeral without a needless 0 is the decimal numeral of its value; thousandths; texts of times: plain Lean. strconv.Itoa over XText's world. -/
import Derived.Test.YtppbagllhmeenaaGreatDoorT68M10
import Derived.Test.YtppbagllhmeenaaGreatDoorT68M09
import Derived.Test.YtppbagllhmeenaaGreatDoorT68M11
import Derived.Test.YtppbagllhmeenaaGreatDoorT68M05
import Derived.Test.YtppbagllhmeenaaGreatDoorT68M03
import Derived.Lib.AppendIntMem
import Derived.Lib.ItoaLen

namespace Go.Proofs.YtppbagllhmeenaaGreatDoor
open Go.RowKit
set_option linter.unusedVariables false
set_option linter.unusedSimpArgs false

noncomputable def lvW (s : ByteArray) : Option Int := by
  classical exact if s.toList = [111, 117, 116] then some 0 else if s.toList = [102, 117, 108, 108] then some 65535 else if h : ∃ v, RdS 9 s v then some h.choose else none
noncomputable def nbW (s : ByteArray) : Option Int := by
  classical exact if NumS s 9 then some (valS s : Int) else none
theorem ba_of_list {s : ByteArray} {l : List UInt8} (h : s.toList = l) : s = ⟨l.toArray⟩ := by
  rw [Lib.toList_data] at h
  exact ByteArray.ext (by rw [← h])
theorem lread_any (s : ByteArray) (w : World) (hn : s.size ≤ 9223372036854775807) :
    Calls Tryz.prog 62 #[.string s] w fun e w' => e = .returned (.tuple #[.int .i64 ((lvW s).getD 0), .int .i64 (if (lvW s).isSome then 0 else 9)]) ∧ Below w.heap.size w w' := by
  by_cases e1 : s.toList = [111, 117, 116]
  · have e0 : lvW s = some 0 := by unfold lvW; rw [if_pos e1]
    rw [e0, ba_of_list e1]
    refine (read_out w).mono ?_
    rintro e w' ⟨rfl, rfl⟩
    exact ⟨rfl, Below.refl _ _⟩
  by_cases e2 : s.toList = [102, 117, 108, 108]
  · have e0 : lvW s = some 65535 := by unfold lvW; rw [if_neg e1, if_pos e2]
    rw [e0, ba_of_list e2]
    refine (read_full w).mono ?_
    rintro e w' ⟨rfl, rfl⟩
    exact ⟨rfl, Below.refl _ _⟩
  by_cases h : ∃ v, RdS 9 s v
  · have e0 : lvW s = some h.choose := by unfold lvW; rw [if_neg e1, if_neg e2, dif_pos h]
    rw [e0]
    exact read_good s h.choose w hn e1 e2 h.choose_spec
  · have e0 : lvW s = none := by unfold lvW; rw [if_neg e1, if_neg e2, dif_neg h]
    rw [e0]
    exact read_wrong s w hn e1 e2 h
theorem number_any (s : ByteArray) (w : World) (hn : s.size ≤ 9223372036854775807) :
    Calls Tryz.prog 21 #[.string s] w fun e w' => e = .returned (.tuple #[.int .i64 ((nbW s).getD 0), .bool (nbW s).isSome]) ∧ Below w.heap.size w w' := by
  by_cases h : NumS s 9
  · have e0 : nbW s = some (valS s : Int) := by unfold nbW; rw [if_pos h]
    rw [e0]
    exact number_yes s w h
  · have e0 : nbW s = none := by unfold nbW; rw [if_neg h]
    rw [e0]
    exact number_no s w hn h
theorem nbW_range {s : ByteArray} {n : Int} (h : nbW s = some n) : 0 ≤ n ∧ n ≤ 1000000000 := by
  unfold nbW at h
  split at h
  · rename_i hs
    injection h with h
    subst h
    have h1 : valS s < 10 ^ s.size := hs.lt
    have h2 : 10 ^ s.size ≤ 10 ^ 9 := Nat.pow_le_pow_right (by omega) hs.short
    have h3 : (10 : Nat) ^ 9 = 1000000000 := by decide
    omega
  · cases h

end Go.Proofs.YtppbagllhmeenaaGreatDoor

namespace Go.Proofs.YtppbagllhmeenaaGreatDoor
open Go.RowKit
set_option linter.unusedVariables false
set_option linter.unusedSimpArgs false
/-- the text of a level -/
noncomputable def showT (n : Int) : ByteArray :=
  if n = 0 then ⟨#[111, 117, 116]⟩ else if n = 65535 then ⟨#[102, 117, 108, 108]⟩
  else if rnd (rnd (100 * n) 65535 * 65535) 100 = n then ⟨(Lib.decDigits (rnd (100 * n) 65535).toNat ++ [37]).toArray⟩ else ⟨(35 :: Lib.decDigits n.toNat).toArray⟩
theorem ba_of {a : ByteArray} {l : List UInt8} (h : a.data.toList = l) : a = ⟨l.toArray⟩ := by
  obtain ⟨⟨x⟩⟩ := a
  simp at h
  subst h
  rfl
theorem pct_nat {n : Int} (h0 : 0 < n) (h1 : n < 65535) : rnd (100 * n) 65535 = ((rnd (100 * n) 65535).toNat : Int) ∧ (rnd (100 * n) 65535).toNat ≤ 100 := by
  have h2 : 0 ≤ rnd (100 * n) 65535 ∧ rnd (100 * n) 65535 ≤ 100 := by unfold rnd; omega
  omega
theorem showT_le (n : Int) (h0 : 0 ≤ n) (h1 : n ≤ 65535) : (showT n).size ≤ 6 := by
  unfold showT
  by_cases c0 : n = 0
  · rw [if_pos c0]; decide
  by_cases c1 : n = 65535
  · rw [if_neg c0, if_pos c1]; decide
  by_cases c2 : rnd (rnd (100 * n) 65535 * 65535) 100 = n
  · rw [if_neg c0, if_neg c1, if_pos c2, Lib.size_eq]
    have := (dd_len 2 (rnd (100 * n) 65535).toNat (by have := (pct_nat (n := n) (by omega) (by omega)).2; omega)).2
    simp
    omega
  · rw [if_neg c0, if_neg c1, if_neg c2, Lib.size_eq]
    have := (dd_len 4 n.toNat (by omega)).2
    simp
    omega

set_option maxHeartbeats 400000 in
theorem lshow_any (n : Int) (w : World) (hT : TextW w) (h0 : 0 ≤ n) (h1 : n ≤ 65535) :
    Calls Tryz.prog 60 #[.int .i64 n] w fun e w' => e = .returned (.tuple #[.string (showT n), .int .i64 0]) ∧ Below w.heap.size w w' := by
  unfold showT
  by_cases c0 : n = 0
  · subst c0
    rw [if_pos rfl]
    exact (show_out w).mono fun e w' h => ⟨h.1, by rw [← h.2]; exact Below.refl _ _⟩
  by_cases c1 : n = 65535
  · subst c1
    rw [if_neg (by decide), if_pos rfl]
    exact (show_full w).mono fun e w' h => ⟨h.1, by rw [← h.2]; exact Below.refl _ _⟩
  rw [if_neg c0, if_neg c1]
  by_cases c2 : rnd (rnd (100 * n) 65535 * 65535) 100 = n
  · rw [if_pos c2]
    obtain ⟨p1, _⟩ := pct_nat (n := n) (by omega) (by omega)
    refine (show_pct n (rnd (100 * n) 65535).toNat w (by omega) (by omega) p1 (by rw [← p1]; exact c2)).mono ?_
    rintro e w' ⟨⟨s, rfl, hs⟩, hb⟩
    exact ⟨by rw [ba_of hs], hb⟩
  · rw [if_neg c2]
    refine (show_hash n w hT (by omega) (by omega) c2).mono ?_
    rintro e w' ⟨⟨s, rfl, hs⟩, hb⟩
    exact ⟨by rw [ba_of hs], hb⟩
set_option maxHeartbeats 1000000 in
theorem fshow_any (n : Int) (w : World) (hT : TextW w) (h0 : 0 ≤ n) (h1 : n ≤ 65535) :
    Calls Tryz.prog 35 #[.int .i64 n] w fun e w' => e = .returned (.string (showT n)) ∧ Below w.heap.size w w' := by
  have H := Lib.hid (lshow_any n w hT h0 h1)
  generalize showT n = x at *
  clear hT h0 h1
  go_enter Tryz.func35, Tryz.ntmps35
  go_wp2_with fail
  refine H.out.mono ?_
  rintro e w1 ⟨rfl, hb⟩
  have HB := Lib.hid hb
  clear hb
  go_wp2
  go_ret
  exact ⟨rfl, HB.out⟩
/-- the word of a group -/
def grpT (k : Int) : ByteArray := if k = 1 then ⟨#[105, 110, 116, 101, 110, 115, 105, 116, 121]⟩ else if k = 2 then ⟨#[112, 111, 115, 105, 116, 105, 111, 110]⟩ else if k = 3 then ⟨#[99, 111, 108, 111, 117, 114]⟩ else ⟨#[98, 101, 97, 109]⟩
theorem grpT_le (k : Int) : (grpT k).size ≤ 9 := by
  unfold grpT
  repeat' split
  all_goals decide
set_option maxHeartbeats 1000000 in
theorem groupWord_any (k : Int) (w : World) (h1 : 1 ≤ k) (h7 : k ≤ 4) :
    Calls Tryz.prog 34 #[.int .i64 k] w fun e w' => e = .returned (.string (grpT k)) ∧ w = w' := by
  have hk : k = 1 ∨ k = 2 ∨ k = 3 ∨ k = 4 := by omega
  rcases hk with rfl | rfl | rfl | rfl
  all_goals
    go_enter Tryz.func34, Tryz.ntmps34
    go_wp2
    go_ret
    exact ⟨rfl, rfl⟩
set_option maxHeartbeats 1000000 in
theorem groups_any (w : World) :
    Calls Tryz.prog 94 #[] w fun e w' => e = .returned (.slice (some ⟨w.heap.size, 0, none⟩) 5 5) ∧ Below w.heap.size w w' ∧ (∀ k : Nat, 1 ≤ k → k ≤ 4 → w'.cell? ⟨w.heap.size, k, none⟩ = some (.string (grpT k))) ∧ w.heap.size < w'.heap.size := by
  go_enter Tryz.func94, Tryz.ntmps94
  go_wp2
  go_ret
  refine ⟨rfl, (Below.refl _ _).alloc (Nat.le_refl _) _, ?_, by simp⟩
  intro k h1 h4
  have hk : k = 1 ∨ k = 2 ∨ k = 3 ∨ k = 4 := by omega
  rcases hk with rfl | rfl | rfl | rfl <;> simp [go_sem, grpT]
end Go.Proofs.YtppbagllhmeenaaGreatDoor

namespace Go.Proofs.YtppbagllhmeenaaGreatDoor
open Go.Lib

theorem dig_eq {c : UInt8} (h : IsDig c) : UInt8.ofNat (48 + (c.toNat - 48)) = c := by
  unfold IsDig at h
  rw [show 48 + (c.toNat - 48) = c.toNat by omega]
  simp
theorem val_snoc (l : List UInt8) (c : UInt8) (h : ∀ b ∈ l, IsDig b) (hc : IsDig c) : valL (l ++ [c]) = valL l * 10 + (c.toNat - 48) := by
  obtain ⟨n, e, _, _⟩ := from_all l 0 h
  have hd : digitVal c = some (c.toNat - 48) := by
    unfold IsDig at hc
    unfold digitVal
    rw [if_pos hc]
  have e2 := from_snoc l 0 n c _ e hd
  unfold valL
  rw [e2, e]
  rfl
theorem canonL : ∀ (k : Nat) (l : List UInt8), l.length = k → l ≠ [] → (∀ b ∈ l, IsDig b) → (l.length ≤ 1 ∨ l.head? ≠ some 48) → decDigits (valL l) = l := by
  intro k
  induction k with
  | zero =>
    intro l hl h0
    exact absurd (List.length_eq_zero_iff.1 hl) h0
  | succ k ih =>
    intro l hl h0 hd hh
    have hs := List.dropLast_concat_getLast h0
    generalize hc : l.getLast h0 = c at hs
    generalize hm : l.dropLast = m at hs
    subst hs
    have hdm : ∀ b ∈ m, IsDig b := fun b hb => hd b (by simp [hb])
    have hdc : IsDig c := hd c (by simp)
    have hcd := hdc
    unfold IsDig at hcd
    rw [val_snoc m c hdm hdc]
    by_cases hm0 : m = []
    · subst hm0
      rw [show valL [] = 0 from rfl, dd_eq, if_pos (by omega)]
      rw [show 48 + (0 * 10 + (c.toNat - 48)) = 48 + (c.toNat - 48) by omega, dig_eq hdc]
      rfl
    · have hlen : 1 ≤ m.length := by
        rcases Nat.eq_zero_or_pos m.length with h | h
        · exact absurd (List.length_eq_zero_iff.1 h) hm0
        · exact h
      have hml : (m ++ [c]).length = m.length + 1 := by simp
      have hh2 : m.head? ≠ some 48 := by
        rcases hh with h | h
        · omega
        · cases m with
          | nil => exact absurd rfl hm0
          | cons a t => exact h
      have hv := (val_all m hm0 hdm).2.2 hh2
      have hp : 1 ≤ 10 ^ (m.length - 1) := Nat.one_le_pow _ _ (by omega)
      have i1 := ih m (by omega) hm0 hdm (.inr hh2)
      rw [dd_eq, if_neg (by omega), show (valL m * 10 + (c.toNat - 48)) / 10 = valL m by omega, i1, show (valL m * 10 + (c.toNat - 48)) % 10 = c.toNat - 48 by omega, dig_eq hdc]
theorem NumS.canon {s : ByteArray} {m : Nat} (h : NumS s m) : s.data.toList = decDigits (valS s) := by
  have hne : s.data.toList ≠ [] := by
    intro e
    have := h.pos
    rw [size_eq, e] at this
    exact absurd this (by decide)
  refine (canonL _ _ rfl hne (allDig_mem h.dig) ?_).symm
  rcases h.head with h1 | h1
  · exact .inl (by rw [← size_eq]; exact h1)
  · refine .inr (fun e => h1 h.pos ?_)
    have e2 : s.data[0]? = some 48 := by
      rw [← e, List.head?_eq_getElem?]
      simp
    rw [Array.getElem?_eq_getElem (show 0 < s.data.size from h.pos)] at e2
    exact Option.some.inj e2
theorem allDig_of {s : ByteArray} (h : ∀ b ∈ s.data.toList, IsDig b) : AllDig s := by
  intro i hi
  refine h _ ?_
  show s.data[i] ∈ _
  rw [Array.mem_toList_iff]
  exact Array.getElem_mem _
theorem head_of {s : ByteArray} {b : UInt8} {r : List UInt8} (e : s.data.toList = b :: r) (h : 0 < s.size) : s[0] = b := by
  show s.data[0]'h = b
  have e2 : s.data[0]? = some b := by
    rw [← Array.getElem?_toList, e]; rfl
  rw [Array.getElem?_eq_getElem (show 0 < s.data.size from h)] at e2
  exact Option.some.inj e2
theorem nums_dd (s : ByteArray) (p k : Nat) (e : s.data.toList = decDigits p) (h : p < 10 ^ (k + 1)) : NumS s (k + 1) ∧ valS s = p := by
  have hl := dd_len k p h
  refine ⟨⟨by rw [size_eq, e]; omega, by rw [size_eq, e]; omega, allDig_of (by rw [e]; exact dd_digits p), ?_⟩, by unfold valS valL; rw [e, dd_val]; rfl⟩
  by_cases hp : 1 ≤ p
  · obtain ⟨b, r, e2, hb⟩ := dd_head p hp
    exact .inr (fun h0 => by rw [head_of (e.trans e2) h0]; exact hb)
  · left
    rw [size_eq, e, show p = 0 by omega, dd_eq]
    exact Nat.le_refl _
end Go.Proofs.YtppbagllhmeenaaGreatDoor

namespace Go.Proofs.YtppbagllhmeenaaGreatDoor
open Go.RowKit
set_option linter.unusedVariables false
set_option linter.unusedSimpArgs false

/-- the numeral of a number -/
def itT (n : Int) : ByteArray := ⟨(Lib.itoa n).toArray⟩
theorem itT_le (n : Int) (h0 : -9223372036854775808 ≤ n) (h1 : n ≤ 9223372036854775807) : (itT n).size ≤ 21 := by
  have := Lib.itoa_length_le n h0 h1
  unfold itT
  rw [Lib.size_eq]
  simpa using this
theorem itoa_int (n : Int) (w : World) (h0 : -9223372036854775808 ≤ n) (h1 : n ≤ 9223372036854775807) (hT : TextW w) :
    Calls Tryz.prog 31 #[.int .i64 n] w fun e w' => e = .returned (.string (itT n)) ∧ Below w.heap.size w w' := by
  refine (Tryz.strconv_Itoa n h0 h1 w hT.pow).mono ?_
  rintro e w' ⟨rfl, k, os, rfl⟩
  exact ⟨rfl, Lib.below_grow _ w (Nat.le_refl _) k os⟩
end Go.Proofs.YtppbagllhmeenaaGreatDoor
