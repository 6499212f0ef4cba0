/- Decimal numerals in plain Lean: their bytes are digits, they are short, they begin with no 0, and their value is the number. Digits, numbers and decimals: contracts at texts of digits alone. -/
import Derived.Lib.Atoi
import Derived.Lib.ItoaNum
import Derived.Lib.IndexMore
import Derived.Lib.IndexBytes
import Derived.Test.YtppbagllhmeenaaGreatDoorT68M03

namespace Go.Proofs.YtppbagllhmeenaaGreatDoor
open Go.Lib

def IsDig (b : UInt8) : Prop := 48 ≤ b.toNat ∧ b.toNat ≤ 57
theorem dig_of (k : Nat) (h : k < 10) : (UInt8.ofNat (48 + k)).toNat = 48 + k := by
  rw [UInt8.toNat_ofNat']
  omega
theorem dd_eq (u : Nat) : decDigits u = if u < 10 then [UInt8.ofNat (48 + u)] else decDigits (u / 10) ++ [UInt8.ofNat (48 + u % 10)] := by
  rw [decDigits]
  split <;> rfl
theorem dd_digits (u : Nat) : ∀ b ∈ decDigits u, IsDig b := by
  induction u using Nat.strongRecOn with
  | _ u ih =>
    intro b hb
    rw [dd_eq] at hb
    by_cases h : u < 10
    · rw [if_pos h] at hb
      rw [List.mem_singleton] at hb
      subst hb
      unfold IsDig
      rw [dig_of u h]
      omega
    · rw [if_neg h, List.mem_append] at hb
      rcases hb with hb | hb
      · exact ih (u / 10) (by omega) b hb
      · rw [List.mem_singleton] at hb
        subst hb
        unfold IsDig
        rw [dig_of (u % 10) (by omega)]
        omega
theorem dd_len (k : Nat) : ∀ u, u < 10 ^ (k + 1) → 1 ≤ (decDigits u).length ∧ (decDigits u).length ≤ k + 1 := by
  induction k with
  | zero =>
    intro u h
    rw [dd_eq, if_pos (by omega)]
    simp
  | succ k ih =>
    intro u h
    rw [dd_eq]
    by_cases h1 : u < 10
    · rw [if_pos h1]; simp
    · rw [if_neg h1]
      have e : 10 ^ (k + 1 + 1) = 10 ^ (k + 1) * 10 := Nat.pow_succ _ _
      have := ih (u / 10) (by omega)
      simp
      omega
theorem dd_head (u : Nat) (h1 : 1 ≤ u) : ∃ b r, decDigits u = b :: r ∧ b ≠ 48 := by
  induction u using Nat.strongRecOn with
  | _ u ih =>
    rw [dd_eq]
    by_cases h : u < 10
    · rw [if_pos h]
      refine ⟨_, [], rfl, fun e => ?_⟩
      have := congrArg UInt8.toNat e
      rw [dig_of u h] at this
      have : 48 + u = 48 := this
      omega
    · rw [if_neg h]
      obtain ⟨b, r, e, hb⟩ := ih (u / 10) (by omega) (by omega)
      rw [e]
      exact ⟨b, r ++ [_], rfl, hb⟩
theorem dd_dval (k : Nat) (h : k < 10) : digitVal (UInt8.ofNat (48 + k)) = some k := by
  unfold digitVal
  rw [dig_of k h, if_pos (by omega)]
  congr 1
  omega
theorem from_snoc (l : List UInt8) : ∀ acc n b d, decFrom acc l = some n → digitVal b = some d → decFrom acc (l ++ [b]) = some (n * 10 + d) := by
  induction l with
  | nil =>
    intro acc n b d h hd
    obtain rfl := Option.some.inj h
    simp [decFrom, hd]
  | cons a t ih =>
    intro acc n b d h hd
    simp only [List.cons_append, decFrom] at h ⊢
    cases ha : digitVal a with
    | none => rw [ha] at h; cases h
    | some x =>
      rw [ha] at h
      exact ih _ n b d h hd
theorem dd_val (u : Nat) : decFrom 0 (decDigits u) = some u := by
  induction u using Nat.strongRecOn with
  | _ u ih =>
    rw [dd_eq]
    by_cases h : u < 10
    · rw [if_pos h]
      simp only [decFrom, dd_dval u h]
      congr 1
      omega
    · rw [if_neg h, from_snoc _ 0 (u / 10) _ (u % 10) (ih (u / 10) (by omega)) (dd_dval _ (by omega))]
      congr 1
      omega
theorem dd_atoi (u : Nat) (h1 : 1 ≤ u) : atoi (decDigits u) = some (u : Int) := by
  obtain ⟨b, r, e, _⟩ := dd_head u h1
  have hd := dd_digits u b (by rw [e]; simp)
  have hv := dd_val u
  unfold IsDig at hd
  rw [e] at hv ⊢
  have n1 : (b == 45) = false := by
    rw [beq_eq_false_iff_ne]
    intro e1; subst e1; revert hd; decide
  have n2 : (b == 43) = false := by
    rw [beq_eq_false_iff_ne]
    intro e1; subst e1; revert hd; decide
  simp only [atoi, n1, n2, Bool.false_eq_true, if_false, decNat, List.isEmpty_cons]
  rw [hv]
  rfl
theorem byte_none (c : UInt8) : ∀ l : List UInt8, (∀ b ∈ l, b ≠ c) → indexByte l c = -1 := by
  intro l
  induction l with
  | nil => intro _; rfl
  | cons b t ih =>
    intro h
    have h1 : (b == c) = false := by rw [beq_eq_false_iff_ne]; exact h b (by simp)
    simp only [indexByte, h1, ih (fun x hx => h x (by simp [hx]))]
    rfl
theorem cut_none (c : UInt8) (l : List UInt8) (h : ∀ b ∈ l, b ≠ c) : cut l [c] = (l, [], false) := by
  unfold cut
  rw [index_one, byte_none c l h]
  rfl
theorem dig_ne {b : UInt8} (h : IsDig b) (c : UInt8) (hc : c.toNat < 48 ∨ 57 < c.toNat) : b ≠ c := by
  intro e
  subst e
  unfold IsDig at h
  omega
end Go.Proofs.YtppbagllhmeenaaGreatDoor

namespace Go.Proofs.YtppbagllhmeenaaGreatDoor
open Go.RowKit
set_option linter.unusedVariables false
set_option linter.unusedSimpArgs false

theorem bytes_some {s : ByteArray} (h : 0 < s.size) : ¬ s.toList = [] := by
  intro e
  rw [Lib.toList_data] at e
  have : s.data.size = 0 := by rw [← Array.length_toList, e]; rfl
  exact absurd h (by rw [show s.size = s.data.size from rfl, this]; decide)
theorem bytes_some' {s : ByteArray} (h : 0 < s.size) : s.toList.isEmpty = false := by
  have := bytes_some h
  cases hc : s.toList with
  | nil => exact absurd hc this
  | cons a t => rfl
def AllDig (s : ByteArray) : Prop := ∀ i (h : i < s.size), IsDig s[i]
theorem allDig_cut {s : ByteArray} (h : AllDig s) (k : Nat) : AllDig (s.extract 0 k) := by
  intro i hi
  have : (s.extract 0 k)[i] = s[i]'(by simp at hi; omega) := by simp [ByteArray.getElem_extract]
  rw [this]
  exact h i _

set_option maxHeartbeats 1000000 in
theorem trimR_all (g : Nat) (s : ByteArray) (w : World) (hn : s.size ≤ 100) (hd : AllDig s) (hc : ∀ c : Nat, 48 ≤ c → c ≤ 57 → w.cell? ⟨g, c, none⟩ = some (.bool true)) :
    Calls Tryz.prog 123 #[.string s, .pointer (some ⟨g, 0, none⟩)] w fun e w' => e = .returned (.string ⟨#[]⟩) ∧ w = w' := by
  have CC := Lib.hid (fun (c : Nat) (h1 : 48 ≤ c) (h2 : c ≤ 57) => contains_any g (c : Int) true w (by omega) (by omega) (hc c h1 h2))
  have HD := Lib.hid hd
  clear hc hd
  go_enter Tryz.func123, Tryz.ntmps123
  go_wp2_with fail
  go_loop [0] (fun x => ∃ t : ByteArray, x = .string t ∧ t.size ≤ 100 ∧ Hid (AllDig t)) (fun x => match x with | .string b => b.size | _ => 0)
  case atStart => exact ⟨s, rfl, hn, HD⟩
  case round =>
    obtain ⟨t, rfl, ht, HT⟩ := hrel
    clear hn HD
    by_cases h0 : 0 < t.size
    · have hd := HT.out (t.size - 1) (by omega)
      unfold IsDig at hd
      have HDD := Lib.hid hd
      have HCUT := Lib.hid (allDig_cut HT.out (t.size - 1))
      have HSZ := Lib.hid (show (t.extract 0 (t.size - 1)).size = t.size - 1 by simp)
      clear hd
      go_wp2_with fail
      refine (CC.out _ HDD.out.1 HDD.out.2).mono ?_
      rintro e w' ⟨rfl, rfl⟩
      go_wp2
      go_round
      case rel => exact ⟨_, rfl, by rw [HSZ.out]; omega, HCUT⟩
      case measure => show (t.extract 0 (t.size - 1)).size < t.size; rw [HSZ.out]; omega
    · have he : t = ⟨#[]⟩ := by
        have : t.size = 0 := by omega
        exact ByteArray.ext (by apply Array.ext <;> simp_all)
      subst he
      go_wp2
      go_ret
      exact ⟨rfl, rfl⟩

theorem ten_dig (c : Nat) (h1 : 48 ≤ c) (h2 : c ≤ 57) : (Lib.setCells ten)[c]? = some (.bool true) := by
  have h := Lib.setCells_at ten (UInt8.ofNat c)
  have e : (UInt8.ofNat c).toNat = c := by rw [UInt8.toNat_ofNat']; omega
  rw [e] at h
  rw [h]
  have : c = 48 ∨ c = 49 ∨ c = 50 ∨ c = 51 ∨ c = 52 ∨ c = 53 ∨ c = 54 ∨ c = 55 ∨ c = 56 ∨ c = 57 := by omega
  rcases this with rfl | rfl | rfl | rfl | rfl | rfl | rfl | rfl | rfl | rfl <;> rfl

set_option maxHeartbeats 4000000 in
set_option maxRecDepth 100000 in
theorem trim_all (s : ByteArray) (w : World) (h0 : 0 < s.size) (hn : s.size ≤ 100) (hd : AllDig s) :
    Calls Tryz.prog 100 #[.string s, .string ⟨#[48, 49, 50, 51, 52, 53, 54, 55, 56, 57]⟩] w fun e w' => e = .returned (.string ⟨#[]⟩) ∧ Below w.heap.size w w' := by
  have CM := Lib.hid (fun W => Tryz.strings_makeASCIISet hv99 ⟨#[48, 49, 50, 51, 52, 53, 54, 55, 56, 57]⟩ W (by decide) (by
    intro j b h
    have h2 : ten[j]? = some b := h
    have : b ∈ ten := List.mem_of_getElem? h2
    simp [ten] at this
    rcases this with rfl | rfl | rfl | rfl | rfl | rfl | rfl | rfl | rfl | rfl <;> decide))
  have HC := Lib.hid (fun (c : Nat) (h1 : 48 ≤ c) (h2 : c ≤ 57) => ten_dig c h1 h2)
  have HT : Hid ((⟨#[48, 49, 50, 51, 52, 53, 54, 55, 56, 57]⟩ : ByteArray).data.toList = ten) := rfl
  rw [HT.out] at CM
  have HSZ := Lib.hid (Lib.setCells_size ten)
  have HONE := Lib.hid (Lib.setCells_one ten)
  generalize Lib.setCells ten = cs at *
  have HD := Lib.hid hd
  have hne : s ≠ ⟨#[]⟩ := by intro e; subst e; exact absurd h0 (by decide)
  have hl := bytes_some h0
  have hl2 := bytes_some' h0
  clear hd hne
  go_enter Tryz.func100, Tryz.ntmps100
  go_wp2_with fail
  refine (CM.out _).mono ?_
  rintro e w1 ⟨rfl, rfl⟩
  have hv := hv99
  have hst : (storeCells ⟨w.heap.size + 1, 0, none⟩ cs.toList).run Tryz.prog ((w.alloc (.cells cs 132)).alloc (.cells (Array.replicate 256 (.bool false)) 132)) = .ok () ((w.alloc (.cells cs 132)).alloc (.cells cs 132)) := by
    have h := run_storeCells_new (P := Tryz.prog) (w.alloc (.cells cs 132)) 132 (Array.replicate 256 (.bool false)) cs (by rw [HSZ.out]; kernel_rfl) (by rw [HSZ.out]; simp) HONE.out
    simpa using h
  have hsz := HSZ.out
  go_upto_region 7 with fail
  have CR := Lib.hid (trimR_all (w.heap.size + 1) s ((w.alloc (.cells cs 132)).alloc (.cells cs 132)) hn HD.out (fun c h1 h2 => by
    have := World.cell?_alloc_new (w.alloc (.cells cs 132)) cs 132 c
    rw [HC.out c h1 h2] at this
    simpa using this))
  clear hst hv hsz
  go_wp2_with fail
  refine CR.out.mono ?_
  rintro e w' ⟨rfl, rfl⟩
  go_wp2_with fail
  refine (trimL_nil _ _).mono ?_
  rintro e w' ⟨rfl, rfl⟩
  go_wp2
  go_ret
  exact ⟨rfl, below2⟩

set_option maxHeartbeats 1000000 in
theorem digits_all (s : ByteArray) (w : World) (h0 : 0 < s.size) (hn : s.size ≤ 100) (hd : AllDig s) :
    Calls Tryz.prog 74 #[.string s] w fun e w' => e = .returned (.bool true) ∧ Below w.heap.size w w' := by
  have CT := Lib.hid (fun W => trim_all s W h0 hn hd)
  have hne : s ≠ ⟨#[]⟩ := by intro e; subst e; exact absurd h0 (by decide)
  have hl := bytes_some h0
  have hl2 := bytes_some' h0
  clear hd hne
  go_enter Tryz.func74, Tryz.ntmps74
  go_wp2_with fail
  refine (CT.out _).mono ?_
  rintro e w1 ⟨rfl, hb⟩
  have HB := Lib.hid hb
  clear hb
  go_wp2
  go_ret
  exact ⟨rfl, HB.out⟩

/-- a numeral: its digits, its value -/
structure Numeral (s : ByteArray) (n : Int) : Prop where
  pos : 0 < s.size
  short : s.size ≤ 9
  dig : AllDig s
  head : s.size ≤ 1 ∨ ∀ (h : 0 < s.size), s[0] ≠ 48
  val : Lib.atoi s.data.toList = some n

set_option maxHeartbeats 4000000 in
theorem numOf_all (s : ByteArray) (n : Int) (w : World) (h : Numeral s n) : Calls Tryz.prog 44 #[.string s, .int .i64 9] w fun e w' => e = .returned (.tuple #[.int .i64 n, .bool true]) ∧ Below w.heap.size w w' := by
  have CA := Lib.hid (fun W => Tryz.strconv_Atoi s n (by have := h.short; omega) h.val W)
  have CD := Lib.hid (fun W => digits_all s W h.pos (by have := h.short; omega) h.dig)
  obtain ⟨h0, h9, _, hh, _⟩ := h
  have h0' : 0 < s.size := h0
  rcases hh with h1 | h1
  · have h1' : s.size = 1 := by omega
    go_enter Tryz.func44, Tryz.ntmps44
    go_wp2_with fail
    refine (CD.out _).mono ?_
    rintro e w1 ⟨rfl, hb⟩
    have HB := Lib.hid hb
    clear hb
    go_wp2_with fail
    refine (CA.out _).mono ?_
    rintro e w2 ⟨rfl, t, rfl⟩
    have HB2 := Lib.hid (bt HB.out (Lib.bytesWorld_below w1 5 t))
    generalize Lib.bytesWorld w1 5 t = w2 at *
    go_wp2_with fail
    go_quiet (fail)
    go_wp2
    go_ret2
    exact ⟨rfl, below_drewN' HB2.out⟩
  · have hb0 := h1 h0
    have hb1 : (((s[0].toNat : Nat) : Int) == 48) = false := by
      have : s[0].toNat ≠ 48 := fun e => hb0 (by
        have : s[0] = UInt8.ofNat 48 := by rw [← e]; simp
        exact this)
      simp; omega
    clear h1 hb0
    go_enter Tryz.func44, Tryz.ntmps44
    go_wp2_with fail
    refine (CD.out _).mono ?_
    rintro e w1 ⟨rfl, hb⟩
    have HB := Lib.hid hb
    clear hb
    by_cases hs1 : 1 < s.size
    all_goals
      go_wp2_with fail
      refine (CA.out _).mono ?_
      rintro e w2 ⟨rfl, t, rfl⟩
      have HB2 := Lib.hid (bt HB.out (Lib.bytesWorld_below w1 5 t))
      generalize Lib.bytesWorld w1 5 t = w2 at *
      go_wp2_with fail
      go_quiet (fail)
      go_wp2
      go_ret2
      exact ⟨rfl, below_drewN' HB2.out⟩
set_option maxHeartbeats 1000000 in
theorem number_all (s : ByteArray) (n : Int) (w : World) (h : Numeral s n) : Calls Tryz.prog 21 #[.string s] w fun e w' => e = .returned (.tuple #[.int .i64 n, .bool true]) ∧ Below w.heap.size w w' := by
  have CN := Lib.hid (fun W => numOf_all s n W h)
  clear h
  go_enter Tryz.func21, Tryz.ntmps21
  go_wp2_with fail
  refine (CN.out _).mono ?_
  rintro e w1 ⟨rfl, hb⟩
  have HB := Lib.hid hb
  clear hb
  go_wp2
  go_ret2
  exact ⟨rfl, HB.out⟩

theorem allDig_mem {s : ByteArray} (h : AllDig s) : ∀ b ∈ s.data.toList, IsDig b := by
  intro b hb
  obtain ⟨i, hi, e⟩ := List.getElem_of_mem hb
  have hi' : i < s.size := by simpa using hi
  have := h i hi'
  rw [show s[i] = b by rw [← e]; simp; rfl] at this
  exact this

set_option maxHeartbeats 4000000 in
theorem decimal_2 (s : ByteArray) (n : Int) (w : World) (hw : TextW w) (h : Numeral s n) (n0 : 0 ≤ n) (n9 : n ≤ 999999999) : Calls Tryz.prog 87 #[.string s, .int .i64 2] w fun e w' => e = .returned (.tuple #[.int .i64 (100 * n), .bool true]) ∧ Below w.heap.size w w' := by
  have CN := Lib.hid (fun W => number_all s n W h)
  have CC := Lib.hid (show Calls Tryz.prog 45 #[.string s, .string ⟨#[46]⟩] w fun e w' => e = .returned (.tuple #[.string s, .string ⟨#[]⟩, .bool false]) ∧ Below w.heap.size w w' from by
    obtain ⟨m, hm⟩ := hw.len
    refine (Tryz.strings_Cut s ⟨#[46]⟩ m w (by have := h.short; omega) hm).mono ?_
    rintro e w' ⟨rfl, k, rfl⟩
    refine ⟨?_, below_drewN' (Below.refl _ _)⟩
    rw [show (⟨#[46]⟩ : ByteArray).data.toList = [46] from rfl, cut_none 46 s.data.toList (fun b hb => dig_ne (allDig_mem h.dig b hb) 46 (.inl (by decide)))])
  clear hw h
  go_enter Tryz.func87, Tryz.ntmps87
  go_wp2_with fail
  refine CC.out.mono ?_
  rintro e w1 ⟨rfl, hb1⟩
  have HB1 := Lib.hid hb1
  clear hb1
  go_wp2_with fail
  refine (CN.out _).mono ?_
  rintro e w2 ⟨rfl, hb2⟩
  have HB2 := Lib.hid (bt HB1.out hb2)
  clear hb2
  go_wp2_with fail
  go_loop [9, 48] (fun s9 s48 => (s48 = .int .i64 0 ∧ s9 = .int .i64 n) ∨ (s48 = .int .i64 1 ∧ s9 = .int .i64 (n * 10)) ∨ (s48 = .int .i64 2 ∧ s9 = .int .i64 (n * 10 * 10))) (fun _ s48 => 2 - (intOf s48).toNat)
  case atStart => exact .inl ⟨rfl, rfl⟩
  case round =>
    rcases hrel with ⟨rfl, rfl⟩ | ⟨rfl, rfl⟩ | ⟨rfl, rfl⟩
    · go_wp2
      go_round
      case rel => exact .inr (.inl ⟨rfl, rfl⟩)
      case measure => decide
    · go_wp2
      go_round
      case rel => exact .inr (.inr ⟨rfl, rfl⟩)
      case measure => decide
    · have HE := Lib.hid (show n * 10 * 10 = 100 * n by omega)
      go_wp2
      go_ret2
      exact ⟨by rw [← HE.out]; rfl, HB2.out⟩
end Go.Proofs.YtppbagllhmeenaaGreatDoor
