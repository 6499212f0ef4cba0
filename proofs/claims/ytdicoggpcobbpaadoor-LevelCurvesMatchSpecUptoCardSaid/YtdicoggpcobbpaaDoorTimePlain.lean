/- Texts of times in plain Lean: which texts are read, and that they are those that are written. -/
import Derived.Test.YtdicoggpcobbpaaDoorDec3
import Derived.Test.YtdicoggpcobbpaaDoorCutPlain
namespace Go.Proofs.YtdicoggpcobbpaaDoor
open Go.Lib
set_option linter.unusedSimpArgs false

/-- the three digits of thousandths -/
def th3 (r : Nat) : List UInt8 := [UInt8.ofNat (48 + r / 100), UInt8.ofNat (48 + r / 10 % 10), UInt8.ofNat (48 + r % 10)]
/-- what is written of thousandths -/
def thL (r : Nat) : List UInt8 := if r = 0 then [] else 46 :: trimRightB (th3 r) 48
/-- what is written of a time -/
def timeL (n : Nat) : List UInt8 :=
  if n / 1000 < 60 then decDigits (n / 1000) ++ thL (n % 1000)
  else decDigits (n / 1000 / 60) ++ 58 :: (UInt8.ofNat (48 + n / 1000 % 60 / 10) :: UInt8.ofNat (48 + n / 1000 % 60 % 10) :: thL (n % 1000))

theorem dig_ofNat (k : Nat) (h : k < 10) : IsDig (UInt8.ofNat (48 + k)) ∧ (UInt8.ofNat (48 + k)).toNat = 48 + k := by
  have := dig_of k h
  exact ⟨by unfold IsDig; omega, this⟩
theorem ofNat_zero (k : Nat) (h : k < 10) : (UInt8.ofNat (48 + k) = 48) ↔ k = 0 := by
  constructor
  · intro e
    have := congrArg UInt8.toNat e
    rw [dig_of k h] at this
    have : 48 + k = 48 := this
    omega
  · rintro rfl; rfl
theorem th3_dec (r : Nat) (h : r < 1000) : decDigits (1000 + r) = 49 :: th3 r := by
  rw [dd_eq, if_neg (by omega), dd_eq, if_neg (by omega), dd_eq, if_neg (by omega), dd_eq, if_pos (by omega)]
  unfold th3
  rw [show (1000 + r) / 10 / 10 / 10 = 1 by omega, show (1000 + r) / 10 / 10 % 10 = r / 100 by omega, show (1000 + r) / 10 % 10 = r / 10 % 10 by omega, show (1000 + r) % 10 = r % 10 by omega]
  rfl
theorem hundred_dec (r : Nat) (h : r < 100) : decDigits (100 + r) = [49, UInt8.ofNat (48 + r / 10), UInt8.ofNat (48 + r % 10)] := by
  rw [dd_eq, if_neg (by omega), dd_eq, if_neg (by omega), dd_eq, if_pos (by omega)]
  rw [show (100 + r) / 10 / 10 = 1 by omega, show (100 + r) / 10 % 10 = r / 10 by omega, show (100 + r) % 10 = r % 10 by omega]
  rfl
theorem trim3 (x y z : UInt8) : trimRightB [x, y, z] 48 = if z == 48 then (if y == 48 then (if x == 48 then [] else [x]) else [x, y]) else [x, y, z] := by
  unfold trimRightB
  simp only [List.reverse_cons, List.reverse_nil, List.nil_append, List.cons_append, List.dropWhile_cons]
  cases z == 48 <;> cases y == 48 <;> cases x == 48 <;> rfl
/-- thousandths without needless 0 behind -/
theorem th_cases (r : Nat) (h0 : 0 < r) (h : r < 1000) :
    (r % 10 ≠ 0 ∧ trimRightB (th3 r) 48 = th3 r) ∨
    (r % 10 = 0 ∧ r / 10 % 10 ≠ 0 ∧ trimRightB (th3 r) 48 = [UInt8.ofNat (48 + r / 100), UInt8.ofNat (48 + r / 10 % 10)]) ∨
    (r % 10 = 0 ∧ r / 10 % 10 = 0 ∧ r / 100 ≠ 0 ∧ trimRightB (th3 r) 48 = [UInt8.ofNat (48 + r / 100)]) := by
  have z1 := ofNat_zero (r % 10) (by omega)
  have z2 := ofNat_zero (r / 10 % 10) (by omega)
  have z3 := ofNat_zero (r / 100) (by omega)
  unfold th3
  rw [trim3]
  by_cases h1 : r % 10 = 0
  · have e1 : (UInt8.ofNat (48 + r % 10) == 48) = true := by rw [z1.2 h1]; rfl
    by_cases h2 : r / 10 % 10 = 0
    · have e2 : (UInt8.ofNat (48 + r / 10 % 10) == 48) = true := by rw [z2.2 h2]; rfl
      have h3 : r / 100 ≠ 0 := by omega
      have e3 : (UInt8.ofNat (48 + r / 100) == 48) = false := beq_eq_false_iff_ne.2 (fun e => h3 (z3.1 e))
      exact .inr (.inr ⟨h1, h2, h3, by rw [e1, e2, e3]; rfl⟩)
    · have e2 : (UInt8.ofNat (48 + r / 10 % 10) == 48) = false := beq_eq_false_iff_ne.2 (fun e => h2 (z2.1 e))
      exact .inr (.inl ⟨h1, h2, by rw [e1, e2]; rfl⟩)
  · have e1 : (UInt8.ofNat (48 + r % 10) == 48) = false := beq_eq_false_iff_ne.2 (fun e => h1 (z1.1 e))
    exact .inl ⟨h1, by rw [e1]; rfl⟩

theorem dg0_list {b : ByteArray} {l : List UInt8} (e : b.data.toList = l) (i : Nat) : dg0 b i = ((l[i]?).map fun c => (c.toNat : Int) - 48).getD 0 := by
  subst e
  by_cases h : i < b.size
  · rw [dg0_in b i h, Array.getElem?_toList, Array.getElem?_eq_getElem (show i < b.data.size from h)]
    rfl
  · rw [dg0_out b i h, Array.getElem?_toList, Array.getElem?_eq_none (show b.data.size ≤ i by have : b.data.size = b.size := rfl; omega)]
    rfl
theorem last_of {b : ByteArray} {l : List UInt8} {c : UInt8} (e : b.data.toList = l ++ [c]) (h : b.size - 1 < b.size) : b[b.size - 1] = c := by
  have hs : b.size = l.length + 1 := by rw [size_eq, e]; simp
  have e2 : b.data[b.size - 1]? = some c := by
    rw [← Array.getElem?_toList, e, hs]
    simp
  rw [Array.getElem?_eq_getElem (show b.size - 1 < b.data.size from h)] at e2
  exact Option.some.inj e2

/-- thousandths that are written are read -/
theorem rest_write (b : ByteArray) (r : Nat) (h0 : 0 < r) (h : r < 1000) (e : b.data.toList = trimRightB (th3 r) 48) : Rest3 b ∧ pad3 b = r := by
  have d1 := dig_ofNat (r / 100) (by omega)
  have d2 := dig_ofNat (r / 10 % 10) (by omega)
  have d3 := dig_ofNat (r % 10) (by omega)
  rcases th_cases r h0 h with ⟨h1, e2⟩ | ⟨h1, h2, e2⟩ | ⟨h1, h2, h3, e2⟩
  · rw [e2] at e
    have hz : UInt8.ofNat (48 + r % 10) ≠ 48 := fun x => h1 ((ofNat_zero _ (by omega)).1 x)
    have hs : b.size = 3 := by rw [size_eq, e]; rfl
    refine ⟨⟨by omega, by omega, allDig_of ?_, fun hh => ?_⟩, ?_⟩
    · rw [e]
      intro x hx
      simp only [th3, List.mem_cons, List.not_mem_nil, or_false] at hx
      rcases hx with rfl | rfl | rfl
      · exact d1.1
      · exact d2.1
      · exact d3.1
    · rw [last_of (l := [UInt8.ofNat (48 + r / 100), UInt8.ofNat (48 + r / 10 % 10)]) e hh]
      exact hz
    · unfold pad3
      rw [dg0_list e 0, dg0_list e 1, dg0_list e 2]
      simp only [th3, List.getElem?_cons_zero, List.getElem?_cons_succ, Option.map_some, Option.getD_some]
      rw [d1.2, d2.2, d3.2]
      omega
  · rw [e2] at e
    have hz : UInt8.ofNat (48 + r / 10 % 10) ≠ 48 := fun x => h2 ((ofNat_zero _ (by omega)).1 x)
    have hs : b.size = 2 := by rw [size_eq, e]; rfl
    refine ⟨⟨by omega, by omega, allDig_of ?_, fun hh => ?_⟩, ?_⟩
    · rw [e]
      intro x hx
      simp only [List.mem_cons, List.not_mem_nil, or_false] at hx
      rcases hx with rfl | rfl
      · exact d1.1
      · exact d2.1
    · rw [last_of (l := [UInt8.ofNat (48 + r / 100)]) e hh]
      exact hz
    · unfold pad3
      rw [dg0_list e 0, dg0_list e 1, dg0_list e 2]
      simp only [List.getElem?_cons_zero, List.getElem?_cons_succ, List.getElem?_nil, Option.map_some, Option.getD_some, Option.map_none, Option.getD_none]
      rw [d1.2, d2.2]
      omega
  · rw [e2] at e
    have hz : UInt8.ofNat (48 + r / 100) ≠ 48 := fun x => h3 ((ofNat_zero _ (by omega)).1 x)
    have hs : b.size = 1 := by rw [size_eq, e]; rfl
    refine ⟨⟨by omega, by omega, allDig_of ?_, fun hh => ?_⟩, ?_⟩
    · rw [e]
      intro x hx
      simp only [List.mem_cons, List.not_mem_nil, or_false] at hx
      subst hx
      exact d1.1
    · rw [last_of (l := []) e hh]
      exact hz
    · unfold pad3
      rw [dg0_list e 0, dg0_list e 1, dg0_list e 2]
      simp only [List.getElem?_cons_zero, List.getElem?_cons_succ, List.getElem?_nil, Option.map_some, Option.getD_some, Option.map_none, Option.getD_none]
      rw [d1.2]
      omega
theorem dig_back {c : UInt8} (h : IsDig c) : c = UInt8.ofNat (48 + (c.toNat - 48)) := (dig_eq h).symm
/-- what is read of thousandths is what is written of them -/
theorem rest_read (b : ByteArray) (h : Rest3 b) : ∃ r : Nat, pad3 b = r ∧ 0 < r ∧ r < 1000 ∧ b.data.toList = trimRightB (th3 r) 48 := by
  obtain ⟨h0, h3, hd, hl⟩ := h
  have hlast := hl (by omega)
  have hm := allDig_mem hd
  have hlen : b.data.toList.length = b.size := (size_eq b).symm
  generalize hL : b.data.toList = l at hm hlen
  match l, hlen, hm with
  | [x], hlen, hm =>
    have d1 := hm x (by simp)
    have e1 : b[b.size - 1] = x := last_of (l := []) hL (by omega)
    rw [e1] at hlast
    have e := dig_back d1
    unfold IsDig at d1
    have hx : x.toNat - 48 ≠ 0 := fun z => hlast (by rw [e, z]; rfl)
    refine ⟨100 * (x.toNat - 48), ?_, by omega, by omega, ?_⟩
    · unfold pad3
      rw [dg0_list hL 0, dg0_list hL 1, dg0_list hL 2]
      simp only [List.getElem?_cons_zero, List.getElem?_cons_succ, List.getElem?_nil, Option.map_some, Option.getD_some, Option.map_none, Option.getD_none]
      omega
    · rcases th_cases (100 * (x.toNat - 48)) (by omega) (by omega) with ⟨a, _⟩ | ⟨_, a, _⟩ | ⟨_, _, _, a⟩
      · omega
      · omega
      · rw [a, show 100 * (x.toNat - 48) / 100 = x.toNat - 48 by omega, ← e]
  | [x, y], hlen, hm =>
    have d1 := hm x (by simp)
    have d2 := hm y (by simp)
    have e1 : b[b.size - 1] = y := last_of (l := [x]) hL (by omega)
    rw [e1] at hlast
    have e := dig_back d1
    have e' := dig_back d2
    unfold IsDig at d1 d2
    have hx : y.toNat - 48 ≠ 0 := fun z => hlast (by rw [e', z]; rfl)
    refine ⟨100 * (x.toNat - 48) + 10 * (y.toNat - 48), ?_, by omega, by omega, ?_⟩
    · unfold pad3
      rw [dg0_list hL 0, dg0_list hL 1, dg0_list hL 2]
      simp only [List.getElem?_cons_zero, List.getElem?_cons_succ, List.getElem?_nil, Option.map_some, Option.getD_some, Option.map_none, Option.getD_none]
      omega
    · rcases th_cases (100 * (x.toNat - 48) + 10 * (y.toNat - 48)) (by omega) (by omega) with ⟨a, _⟩ | ⟨_, _, a⟩ | ⟨_, a, _, _⟩
      · omega
      · rw [a, show (100 * (x.toNat - 48) + 10 * (y.toNat - 48)) / 100 = x.toNat - 48 by omega, show (100 * (x.toNat - 48) + 10 * (y.toNat - 48)) / 10 % 10 = y.toNat - 48 by omega, ← e, ← e']
      · omega
  | [x, y, z], hlen, hm =>
    have d1 := hm x (by simp)
    have d2 := hm y (by simp)
    have d3 := hm z (by simp)
    have e1 : b[b.size - 1] = z := last_of (l := [x, y]) hL (by omega)
    rw [e1] at hlast
    have e := dig_back d1
    have e' := dig_back d2
    have e'' := dig_back d3
    unfold IsDig at d1 d2 d3
    have hx : z.toNat - 48 ≠ 0 := fun q => hlast (by rw [e'', q]; rfl)
    refine ⟨100 * (x.toNat - 48) + 10 * (y.toNat - 48) + (z.toNat - 48), ?_, by omega, by omega, ?_⟩
    · unfold pad3
      rw [dg0_list hL 0, dg0_list hL 1, dg0_list hL 2]
      simp only [List.getElem?_cons_zero, List.getElem?_cons_succ, List.getElem?_nil, Option.map_some, Option.getD_some, Option.map_none, Option.getD_none]
      omega
    · rcases th_cases (100 * (x.toNat - 48) + 10 * (y.toNat - 48) + (z.toNat - 48)) (by omega) (by omega) with ⟨_, a⟩ | ⟨a, _, _⟩ | ⟨a, _, _, _⟩
      · rw [a]
        unfold th3
        rw [show (100 * (x.toNat - 48) + 10 * (y.toNat - 48) + (z.toNat - 48)) / 100 = x.toNat - 48 by omega, show (100 * (x.toNat - 48) + 10 * (y.toNat - 48) + (z.toNat - 48)) / 10 % 10 = y.toNat - 48 by omega, show (100 * (x.toNat - 48) + 10 * (y.toNat - 48) + (z.toNat - 48)) % 10 = z.toNat - 48 by omega, ← e, ← e', ← e'']
      · omega
      · omega
  | [], hlen, _ => simp at hlen; omega
  | _ :: _ :: _ :: _ :: _, hlen, _ => simp at hlen; omega

theorem dd_ne46 (p : Nat) : ∀ x ∈ decDigits p, x ≠ 46 := fun x hx => dig_ne (dd_digits p x hx) 46 (.inl (by decide))
/-- the texts of thousandths, as they are written -/
theorem dec_write (s : ByteArray) (p r : Nat) (hp : p < 10 ^ 9) (hr : r < 1000) (e : s.data.toList = decDigits p ++ thL r) : DecT s (1000 * p + r) := by
  unfold thL at e
  by_cases h0 : r = 0
  · rw [if_pos h0, List.append_nil] at e
    obtain ⟨h1, h2, _⟩ := cut_out (s := s) (c := 46) (by rw [e]; exact dd_ne46 p)
    obtain ⟨h3, h4⟩ := nums_dd s p 8 e hp
    unfold DecT
    rw [h1, h2, h4]
    exact ⟨h3, .inl ⟨rfl, by omega⟩⟩
  · rw [if_neg h0] at e
    obtain ⟨h1, h2, h3⟩ := cut_at e (dd_ne46 p)
    obtain ⟨h4, h5⟩ := nums_dd _ p 8 h2 hp
    obtain ⟨h6, h7⟩ := rest_write _ r (by omega) hr h3
    unfold DecT
    rw [h5, h7, h1]
    exact ⟨h4, .inr ⟨by omega, h6, rfl⟩⟩
theorem dec_read (s : ByteArray) (v : Int) (h : DecT s v) : ∃ p r : Nat, p < 10 ^ 9 ∧ r < 1000 ∧ v = 1000 * p + r ∧ s.data.toList = decDigits p ++ thL r := by
  obtain ⟨h1, h2⟩ := h
  have hlt := Nat.lt_of_lt_of_le h1.lt (Nat.pow_le_pow_right (by decide) h1.short)
  rcases h2 with ⟨h2, rfl⟩ | ⟨h2, h3, rfl⟩
  · obtain ⟨_, h4⟩ := cut_back' (s := s) (c := 46) (by omega)
    refine ⟨valS (cutA s 46), 0, hlt, by omega, by omega, ?_⟩
    have := h1.canon
    rw [h4] at this ⊢
    simp [thL, this]
  · obtain ⟨h4, _⟩ := cut_back h2
    obtain ⟨r, e1, r0, r1, e2⟩ := rest_read _ h3
    refine ⟨valS (cutA s 46), r, hlt, r1, by rw [e1], ?_⟩
    rw [h4, e2, ← h1.canon]
    simp [thL, show ¬ r = 0 by omega]

/-- a text without the 0 ahead of it -/
def tpS (b : ByteArray) : ByteArray := ⟨(trimPrefix b.data.toList [48]).toArray⟩
theorem tpS_list (b : ByteArray) : (tpS b).data.toList = trimPrefix b.data.toList [48] := by simp [tpS]
theorem trim_zero (t : List UInt8) : trimPrefix (48 :: t) [48] = t := by simp [trimPrefix, hasPrefix]
theorem trim_keep (c : UInt8) (t : List UInt8) (h : c ≠ 48) : trimPrefix (c :: t) [48] = c :: t := by
  unfold trimPrefix hasPrefix
  rw [if_neg]
  intro e
  simp [List.isPrefixOf] at e
  exact h e.symm
/-- the text of seconds of two digits -/
theorem sec_write (b : ByteArray) (q r : Nat) (hq : q < 60) (hr : r < 1000) (e : b.data.toList = UInt8.ofNat (48 + q / 10) :: UInt8.ofNat (48 + q % 10) :: thL r) :
    (cutA b 46).size = 2 ∧ AllDig (cutA b 46) ∧ DecT (tpS b) (1000 * q + r) := by
  have d1 := dig_ofNat (q / 10) (by omega)
  have d2 := dig_ofNat (q % 10) (by omega)
  have hall : ∀ x ∈ [UInt8.ofNat (48 + q / 10), UInt8.ofNat (48 + q % 10)], IsDig x := by
    intro x hx
    simp only [List.mem_cons, List.not_mem_nil, or_false] at hx
    rcases hx with rfl | rfl
    · exact d1.1
    · exact d2.1
  have hne : ∀ x ∈ [UInt8.ofNat (48 + q / 10), UInt8.ofNat (48 + q % 10)], x ≠ 46 := fun x hx => dig_ne (hall x hx) 46 (.inl (by decide))
  have hA : (cutA b 46).data.toList = [UInt8.ofNat (48 + q / 10), UInt8.ofNat (48 + q % 10)] := by
    unfold thL at e
    by_cases h0 : r = 0
    · rw [if_pos h0] at e
      rw [(cut_out (s := b) (c := 46) (by rw [e]; exact hne)).2.1, e]
    · rw [if_neg h0] at e
      exact (cut_at (l1 := [UInt8.ofNat (48 + q / 10), UInt8.ofNat (48 + q % 10)]) e hne).2.1
  refine ⟨by rw [size_eq, hA]; rfl, allDig_of (by rw [hA]; exact hall), ?_⟩
  refine dec_write _ q r (by omega) hr ?_
  rw [tpS_list, e]
  by_cases hz : q / 10 = 0
  · rw [show UInt8.ofNat (48 + q / 10) = 48 from (ofNat_zero _ (by omega)).2 hz, trim_zero, dd_eq q, if_pos (by omega), show q % 10 = q by omega]
    rfl
  · rw [trim_keep _ _ (fun x => hz ((ofNat_zero _ (by omega)).1 x)), dd_eq q, if_neg (by omega), dd_eq (q / 10), if_pos (by omega)]
    rfl
theorem sec_read (b : ByteArray) (d : Int) (h2 : (cutA b 46).size = 2) (hd : AllDig (cutA b 46)) (h : DecT (tpS b) d) (h6 : d ≤ 59999) :
    (∃ q r : Nat, q < 60 ∧ r < 1000 ∧ d = 1000 * q + r ∧ b.data.toList = UInt8.ofNat (48 + q / 10) :: UInt8.ofNat (48 + q % 10) :: thL r) ∧ ((cutA b 46).data.toList = [48, 48] → tpS b = b.extract 1 b.size) ∧ 1 ≤ b.size ∧ (0 ≤ cutI b 46 → 0 < (cutB b 46).size) := by
  have hm := allDig_mem hd
  have hlen : (cutA b 46).data.toList.length = 2 := by rw [← size_eq]; exact h2
  generalize hL : (cutA b 46).data.toList = l at hm hlen
  match l, hlen, hm with
  | [x, y], _, hm =>
    have d1 := hm x (by simp)
    have d2 := hm y (by simp)
    obtain ⟨t, hb, ht⟩ : ∃ t, b.data.toList = x :: y :: t ∧ (t = [] ∧ ¬ 0 ≤ cutI b 46 ∨ 0 ≤ cutI b 46 ∧ t = 46 :: (cutB b 46).data.toList) := by
      by_cases hi : 0 ≤ cutI b 46
      · obtain ⟨e, _⟩ := cut_back hi
        rw [hL] at e
        exact ⟨_, e, .inr ⟨hi, rfl⟩⟩
      · obtain ⟨_, e⟩ := cut_back' hi
        rw [e] at hL
        exact ⟨[], hL, .inl ⟨rfl, hi⟩⟩
    have hsz : 1 ≤ b.size := by rw [size_eq, hb]; simp
    have e1 := dig_back d1
    have e2 := dig_back d2
    obtain ⟨p, r, _, hr, hv, hl⟩ := dec_read _ _ h
    rw [tpS_list, hb] at hl
    unfold IsDig at d1 d2
    have hp : p < 60 := by omega
    -- behind the digits there is what is written of the thousandths
    have key : p = 10 * (x.toNat - 48) + (y.toNat - 48) ∧ t = thL r := by
      have ht46 : ∀ c u, thL r = c :: u → c = 46 := by
        intro c u hc
        unfold thL at hc
        by_cases h0 : r = 0
        · rw [if_pos h0] at hc; cases hc
        · rw [if_neg h0] at hc; exact (List.cons.inj hc).1.symm
      have y46 : y ≠ 46 := by intro z; rw [z] at d2; revert d2; decide
      by_cases hx : x = 48
      · subst hx
        rw [trim_zero] at hl
        by_cases hp10 : p < 10
        · rw [dd_eq p, if_pos hp10] at hl
          obtain ⟨a, b'⟩ := List.cons.inj hl
          have := congrArg UInt8.toNat a
          rw [dig_of p hp10] at this
          exact ⟨by have : (48 : UInt8).toNat = 48 := rfl; omega, b'⟩
        · rw [dd_eq p, if_neg hp10, dd_eq (p / 10), if_pos (by omega)] at hl
          obtain ⟨a, b'⟩ := List.cons.inj hl
          rcases ht with ⟨ht, _⟩ | ⟨_, ht⟩
          · rw [ht] at b'; cases b'
          · rw [ht] at b'
            have := (List.cons.inj b').1
            have := congrArg UInt8.toNat this
            rw [dig_of (p % 10) (by omega)] at this
            have : (46 : UInt8).toNat = 46 := rfl
            omega
      · rw [trim_keep _ _ hx] at hl
        have hx0 : x.toNat - 48 ≠ 0 := fun z => hx (by rw [e1, z]; rfl)
        by_cases hp10 : p < 10
        · rw [dd_eq p, if_pos hp10] at hl
          obtain ⟨_, b'⟩ := List.cons.inj hl
          exact absurd (ht46 _ _ b'.symm) y46
        · rw [dd_eq p, if_neg hp10, dd_eq (p / 10), if_pos (by omega)] at hl
          obtain ⟨a, b'⟩ := List.cons.inj hl
          obtain ⟨a', b''⟩ := List.cons.inj b'
          have i1 := congrArg UInt8.toNat a
          have i2 := congrArg UInt8.toNat a'
          rw [dig_of (p / 10) (by omega)] at i1
          rw [dig_of (p % 10) (by omega)] at i2
          exact ⟨by omega, b''⟩
    obtain ⟨hp2, ht2⟩ := key
    refine ⟨⟨p, r, hp, hr, hv, ?_⟩, ?_, hsz, ?_⟩
    · rw [hb, ht2, show p / 10 = x.toNat - 48 by omega, show p % 10 = y.toNat - 48 by omega, ← e1, ← e2]
    · intro hz
      obtain ⟨rfl, h⟩ := List.cons.inj hz
      apply bytes_eq'
      rw [tpS_list, hb, trim_zero, ext_list, hb, List.drop_succ_cons, List.drop_zero, List.take_of_length_le]
      rw [size_eq, hb]; simp
    · intro hi
      rcases ht with ⟨_, h⟩ | ⟨_, ht⟩
      · exact absurd hi h
      · rw [ht2] at ht
        unfold thL at ht
        by_cases h0 : r = 0
        · rw [if_pos h0] at ht; cases ht
        · rw [if_neg h0] at ht
          have hc := (List.cons.inj ht).2
          rw [size_eq, ← hc]
          rcases th_cases r (by omega) hr with ⟨_, z⟩ | ⟨_, _, z⟩ | ⟨_, _, _, z⟩ <;> rw [z] <;> simp [th3]

/-- s is the text of the time n -/
def TimeS (s : ByteArray) (n : Int) : Prop :=
  (¬ 0 ≤ cutI s 58 ∧ DecT s n ∧ n ≤ 59999) ∨
  (0 ≤ cutI s 58 ∧ NumS (cutA s 58) 4 ∧ 1 ≤ valS (cutA s 58) ∧ (cutA (cutB s 58) 46).size = 2 ∧ AllDig (cutA (cutB s 58) 46) ∧
    ∃ d, DecT (tpS (cutB s 58)) d ∧ d ≤ 59999 ∧ n = d + valS (cutA s 58) * 60000 ∧ n ≤ 36000000)
theorem thL_ne58 (r : Nat) (hr : r < 1000) : ∀ x ∈ thL r, x ≠ 58 := by
  intro x hx
  unfold thL at hx
  by_cases h0 : r = 0
  · rw [if_pos h0] at hx; cases hx
  · rw [if_neg h0] at hx
    rcases List.mem_cons.1 hx with rfl | hx
    · decide
    · have hd : ∀ x ∈ th3 r, IsDig x := by
        intro x hx
        simp only [th3, List.mem_cons, List.not_mem_nil, or_false] at hx
        rcases hx with rfl | rfl | rfl
        · exact (dig_ofNat _ (by omega)).1
        · exact (dig_ofNat _ (by omega)).1
        · exact (dig_ofNat _ (by omega)).1
      have hm : x ∈ th3 r := by
        unfold trimRightB at hx
        rw [List.mem_reverse] at hx
        exact List.mem_reverse.1 ((List.dropWhile_suffix _).mem hx)
      exact dig_ne (hd x hm) 58 (.inr (by decide))
theorem dd_ne58 (p : Nat) : ∀ x ∈ decDigits p, x ≠ 58 := fun x hx => dig_ne (dd_digits p x hx) 58 (.inr (by decide))
theorem time_write (s : ByteArray) (n : Nat) (hn : n ≤ 36000000) (e : s.data.toList = timeL n) : TimeS s n := by
  unfold timeL at e
  by_cases h : n / 1000 < 60
  · rw [if_pos h] at e
    have hc := cut_out (s := s) (c := 58) (by
      rw [e]
      intro x hx
      rcases List.mem_append.1 hx with hx | hx
      · exact dd_ne58 _ x hx
      · exact thL_ne58 _ (by omega) x hx)
    have hd := dec_write s (n / 1000) (n % 1000) (by omega) (by omega) e
    refine .inl ⟨by omega, ?_, by omega⟩
    rwa [show (1000 * ((n / 1000 : Nat) : Int) + ((n % 1000 : Nat) : Int)) = n by omega] at hd
  · rw [if_neg h] at e
    obtain ⟨h1, h2, h3⟩ := cut_at e (dd_ne58 _)
    obtain ⟨h4, h5⟩ := nums_dd _ _ 3 h2 (by omega)
    obtain ⟨h6, h7, h8⟩ := sec_write _ (n / 1000 % 60) (n % 1000) (by omega) (by omega) h3
    refine .inr ⟨by omega, h4, by omega, h6, h7, _, h8, by omega, ?_, by omega⟩
    rw [h5]; omega
theorem time_read (s : ByteArray) (n : Int) (h : TimeS s n) : ∃ k : Nat, n = k ∧ k ≤ 36000000 ∧ s.data.toList = timeL k := by
  rcases h with ⟨h1, h2, h3⟩ | ⟨h1, h2, h3, h4, h5, d, h6, h7, rfl, h8⟩
  · obtain ⟨p, r, _, hr, rfl, e⟩ := dec_read _ _ h2
    refine ⟨1000 * p + r, by omega, by omega, ?_⟩
    unfold timeL
    rw [if_pos (by omega), e, show (1000 * p + r) / 1000 = p by omega, show (1000 * p + r) % 1000 = r by omega]
  · obtain ⟨⟨q, r, hq, hr, rfl, e⟩, _⟩ := sec_read _ _ h4 h5 h6 h7
    obtain ⟨e2, _⟩ := cut_back h1
    refine ⟨60000 * valS (cutA s 58) + (1000 * q + r), by omega, by omega, ?_⟩
    generalize hm : valS (cutA s 58) = m at *
    unfold timeL
    rw [if_neg (by omega), e2, e, h2.canon, hm, show (60000 * m + (1000 * q + r)) / 1000 / 60 = m by omega, show (60000 * m + (1000 * q + r)) / 1000 % 60 = q by omega, show (60000 * m + (1000 * q + r)) % 1000 = r by omega]
end Go.Proofs.YtdicoggpcobbpaaDoor
