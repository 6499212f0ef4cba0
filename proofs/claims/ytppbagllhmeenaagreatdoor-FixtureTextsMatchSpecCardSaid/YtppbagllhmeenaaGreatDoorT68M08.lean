/- The reference's Decimal with two digits behind the full stop, at any text. -/
import Derived.Test.YtppbagllhmeenaaGreatDoorT68M07

namespace Go.Proofs.YtppbagllhmeenaaGreatDoor
open Go.RowKit
open Classical
set_option linter.unusedVariables false
set_option linter.unusedSimpArgs false

set_option maxHeartbeats 2000000 in
set_option maxRecDepth 100000 in
theorem rep_0 (w : World) : Calls Tryz.prog 138 #[.string ⟨#[48]⟩, .int .i64 0] w fun e w' => e = .returned (.string ⟨#[]⟩) ∧ Below w.heap.size w w' := by
  go_enter Tryz.func138, Tryz.ntmps138
  go_wp2
  go_ret
  exact ⟨rfl, Below.refl _ _⟩
set_option maxHeartbeats 2000000 in
set_option maxRecDepth 100000 in
theorem rep_1 (w : World) : Calls Tryz.prog 138 #[.string ⟨#[48]⟩, .int .i64 1] w fun e w' => e = .returned (.string ⟨#[48]⟩) ∧ Below w.heap.size w w' := by
  go_enter Tryz.func138, Tryz.ntmps138
  go_wp2
  go_ret
  exact ⟨rfl, Below.refl _ _⟩
set_option maxHeartbeats 2000000 in
set_option maxRecDepth 100000 in
theorem rep_2 (w : World) : Calls Tryz.prog 138 #[.string ⟨#[48]⟩, .int .i64 2] w fun e w' => e = .returned (.string ⟨#[48, 48]⟩) ∧ Below w.heap.size w w' := by
  have CM := Lib.hid (fun W => show Calls Tryz.prog 149 #[.int .u64 1, .int .u64 2] W fun e w' => e = .returned (.tuple #[.int .u64 0, .int .u64 2]) ∧ w' = W from Tryz.bits_Mul 1 2 (by decide) (by decide) W)
  have CP := Lib.hid (fun (s : ByteArray) (b : Bool) W (h : Lib.hasPrefix s.data.toList [48] = b) => show Calls Tryz.prog 36 #[.string s, .string ⟨#[48]⟩] W fun e w' => e = .returned (.bool b) ∧ w' = W from h ▸ Tryz.strings_HasPrefix s ⟨#[48]⟩ W)
  go_enter Tryz.func138, Tryz.ntmps138
  go_wp2_with fail
  refine (CM.out _).mono ?_
  rintro e w' ⟨rfl, rfl⟩
  go_wp2_with fail
  repeat
    first
      | refine (CP.out _ true _ (by decide +kernel)).mono ?_
      | refine (CP.out _ false _ (by decide +kernel)).mono ?_
    rintro e w' ⟨rfl, rfl⟩
    go_wp2_with fail
  go_ret
  exact ⟨rfl, Below.refl _ _⟩

-- WALKS
theorem ret_int {x y : Int} (h : x = y) : Ending.returned (.tuple #[.int .i64 x, .bool true]) = Ending.returned (.tuple #[.int .i64 y, .bool true]) := by rw [h]
theorem get_pad {b c : ByteArray} (i : Nat) (h : i < b.size) (h2 : i < (b ++ c).size) : (b ++ c)[i] = b[i] := by
  rw [ByteArray.getElem_append_left h]
theorem get_pad2 {b c : ByteArray} (i : Nat) (h : b.size ≤ i) (h2 : i < (b ++ c).size) : (b ++ c)[i] = c[i - b.size]'(by rw [ByteArray.size_append] at h2; omega) := by
  rw [ByteArray.getElem_append_right h]

set_option maxHeartbeats 4000000 in
set_option maxRecDepth 100000 in
theorem rdec_no (s a b : ByteArray) (i : Int) (w : World) (hn : s.size ≤ 9223372036854775807) (la : a.size ≤ s.size) (lb : b.size ≤ s.size) (cc : Calls Tryz.prog 45 #[.string s, .string ⟨#[46]⟩] w fun e w' => e = .returned (.tuple #[.string a, .string b, .bool (decide (0 ≤ i))]) ∧ Below w.heap.size w w') (h1 : ¬ NumS a 3) :
    Calls Tryz.prog 115 #[.string s, .int .i64 3, .int .i64 2] w fun e w' => e = .returned (.tuple #[.int .i64 0, .bool false]) ∧ Below w.heap.size w w' := by
  have CC := Lib.hid cc
  clear cc
  have CN := Lib.hid (fun W => rnumber_no a 3 W (by omega) (by omega) h1)
  clear h1 la
  go_enter Tryz.func115, Tryz.ntmps115
  go_wp2_with fail
  refine CC.out.mono ?_
  rintro e w1 ⟨rfl, hb1⟩
  have HB1 := Lib.hid hb1
  clear hb1
  go_wp2_with fail
  refine (CN.out _).mono ?_
  rintro e w2 ⟨rfl, hb2⟩
  have HB2 := Lib.hid (bt HB1.out hb2)
  clear hb2
  go_wp2
  go_ret2
  exact ⟨rfl, HB2.out⟩

set_option maxHeartbeats 4000000 in
set_option maxRecDepth 100000 in
theorem rdec_b0 (s a b : ByteArray) (i : Int) (w : World) (hn : s.size ≤ 9223372036854775807) (la : a.size ≤ s.size) (lb : b.size ≤ s.size) (cc : Calls Tryz.prog 45 #[.string s, .string ⟨#[46]⟩] w fun e w' => e = .returned (.tuple #[.string a, .string b, .bool (decide (0 ≤ i))]) ∧ Below w.heap.size w w') (h1 : NumS a 3) (h2 : 0 ≤ i) (h3 : b.size = 0) :
    Calls Tryz.prog 115 #[.string s, .int .i64 3, .int .i64 2] w fun e w' => e = .returned (.tuple #[.int .i64 0, .bool false]) ∧ Below w.heap.size w w' := by
  have CC := Lib.hid cc
  clear cc
  have n9 : valS a < 1000 := Nat.lt_of_lt_of_le h1.lt (show 10 ^ a.size ≤ 10 ^ 3 from Nat.pow_le_pow_right (by omega) h1.short)
  rw [decide_eq_true h2] at CC
  have CN := Lib.hid (fun W => rnumber_ok a 3 W (by omega) h1)
  clear h1 h2
  generalize valS a = n at *
  have hbe : b = ⟨#[]⟩ := nil_of (by omega)
  subst hbe
  clear h3
  go_enter Tryz.func115, Tryz.ntmps115
  go_wp2_with fail
  refine CC.out.mono ?_
  rintro e w1 ⟨rfl, hb1⟩
  have HB1 := Lib.hid hb1
  clear hb1
  go_wp2_with fail
  refine (CN.out _).mono ?_
  rintro e w2 ⟨rfl, hb2⟩
  have HB2 := Lib.hid (bt HB1.out hb2)
  clear hb2
  go_wp2
  go_ret2
  exact ⟨rfl, HB2.out⟩

set_option maxHeartbeats 4000000 in
set_option maxRecDepth 100000 in
theorem rdec_b3 (s a b : ByteArray) (i : Int) (w : World) (hn : s.size ≤ 9223372036854775807) (la : a.size ≤ s.size) (lb : b.size ≤ s.size) (cc : Calls Tryz.prog 45 #[.string s, .string ⟨#[46]⟩] w fun e w' => e = .returned (.tuple #[.string a, .string b, .bool (decide (0 ≤ i))]) ∧ Below w.heap.size w w') (h1 : NumS a 3) (h2 : 0 ≤ i) (h3 : 2 < b.size) :
    Calls Tryz.prog 115 #[.string s, .int .i64 3, .int .i64 2] w fun e w' => e = .returned (.tuple #[.int .i64 0, .bool false]) ∧ Below w.heap.size w w' := by
  have CC := Lib.hid cc
  clear cc
  have n9 : valS a < 1000 := Nat.lt_of_lt_of_le h1.lt (show 10 ^ a.size ≤ 10 ^ 3 from Nat.pow_le_pow_right (by omega) h1.short)
  rw [decide_eq_true h2] at CC
  have CN := Lib.hid (fun W => rnumber_ok a 3 W (by omega) h1)
  clear h1 h2
  generalize valS a = n at *
  have hl := bytes_some (show 0 < b.size by omega)
  have hl2 := bytes_some' (show 0 < b.size by omega)
  go_enter Tryz.func115, Tryz.ntmps115
  go_wp2_with fail
  refine CC.out.mono ?_
  rintro e w1 ⟨rfl, hb1⟩
  have HB1 := Lib.hid hb1
  clear hb1
  go_wp2_with fail
  refine (CN.out _).mono ?_
  rintro e w2 ⟨rfl, hb2⟩
  have HB2 := Lib.hid (bt HB1.out hb2)
  clear hb2
  go_wp2
  go_ret2
  exact ⟨rfl, HB2.out⟩

set_option maxHeartbeats 4000000 in
set_option maxRecDepth 100000 in
theorem rdec_b48 (s a b : ByteArray) (i : Int) (w : World) (hn : s.size ≤ 9223372036854775807) (la : a.size ≤ s.size) (lb : b.size ≤ s.size) (cc : Calls Tryz.prog 45 #[.string s, .string ⟨#[46]⟩] w fun e w' => e = .returned (.tuple #[.string a, .string b, .bool (decide (0 ≤ i))]) ∧ Below w.heap.size w w') (h1 : NumS a 3) (h2 : 0 ≤ i) (h3 : b.size ≤ 2) (h4 : ∃ h : 0 < b.size, b[b.size - 1] = 48) :
    Calls Tryz.prog 115 #[.string s, .int .i64 3, .int .i64 2] w fun e w' => e = .returned (.tuple #[.int .i64 0, .bool false]) ∧ Below w.heap.size w w' := by
  have CC := Lib.hid cc
  clear cc
  have n9 : valS a < 1000 := Nat.lt_of_lt_of_le h1.lt (show 10 ^ a.size ≤ 10 ^ 3 from Nat.pow_le_pow_right (by omega) h1.short)
  rw [decide_eq_true h2] at CC
  have CN := Lib.hid (fun W => rnumber_ok a 3 W (by omega) h1)
  clear h1 h2
  generalize valS a = n at *
  obtain ⟨h4, h5⟩ := h4
  have hl := bytes_some h4
  have hl2 := bytes_some' h4
  have hb2 : (((b[b.size - 1].toNat : Nat) : Int) == 48) = true := by rw [h5]; rfl
  clear h5
  go_enter Tryz.func115, Tryz.ntmps115
  go_wp2_with fail
  refine CC.out.mono ?_
  rintro e w1 ⟨rfl, hb1⟩
  have HB1 := Lib.hid hb1
  clear hb1
  go_wp2_with fail
  refine (CN.out _).mono ?_
  rintro e w2 ⟨rfl, hb2⟩
  have HB2 := Lib.hid (bt HB1.out hb2)
  clear hb2
  go_wp2
  go_ret2
  exact ⟨rfl, HB2.out⟩

set_option maxHeartbeats 4000000 in
set_option maxRecDepth 100000 in
theorem rdec_whole (s a b : ByteArray) (i : Int) (w : World) (hn : s.size ≤ 9223372036854775807) (la : a.size ≤ s.size) (lb : b.size ≤ s.size) (cc : Calls Tryz.prog 45 #[.string s, .string ⟨#[46]⟩] w fun e w' => e = .returned (.tuple #[.string a, .string b, .bool (decide (0 ≤ i))]) ∧ Below w.heap.size w w') (h1 : NumS a 3) (h2 : i = -1) (hbe : b = ⟨#[]⟩) :
    Calls Tryz.prog 115 #[.string s, .int .i64 3, .int .i64 2] w fun e w' => e = .returned (.tuple #[.int .i64 ((100 : Int) * (valS a : Int)), .bool true]) ∧ Below w.heap.size w w' := by
  have CC := Lib.hid cc
  clear cc
  have n9 : valS a < 1000 := Nat.lt_of_lt_of_le h1.lt (show 10 ^ a.size ≤ 10 ^ 3 from Nat.pow_le_pow_right (by omega) h1.short)
  have CN := Lib.hid (fun W => rnumber_ok a 3 W (by omega) h1)
  have CR := Lib.hid rep_2
  rw [hbe, h2] at CC
  clear h1 h2 hbe
  generalize valS a = n at *
  obtain ⟨r, HR⟩ : ∃ r, Hid ((((⟨#[]⟩ : ByteArray)) ++ (⟨#[48, 48]⟩ : ByteArray)) = r) := ⟨_, rfl⟩
  have hr : r.size = 2 := by rw [← HR.out, ByteArray.size_append]; rfl
  have x0 : (r[0].toNat : Int) = 48 := by have e := HR.out; subst e; rw [get_pad2 0 (Nat.zero_le _)]; rfl
  have x1 : (r[1].toNat : Int) = 48 := by have e := HR.out; subst e; rw [get_pad2 1 (Nat.zero_le _)]; rfl
  have HE := Lib.hid (show (r[0].toNat : Int) = 48 ∧ (r[1].toNat : Int) = 48 from ⟨x0, x1⟩)
  go_enter Tryz.func115, Tryz.ntmps115
  go_wp2_with fail
  refine CC.out.mono ?_
  rintro e w1 ⟨rfl, hb1⟩
  have HB1 := Lib.hid hb1
  clear hb1
  go_wp2_with fail
  refine (CN.out _).mono ?_
  rintro e w2 ⟨rfl, hb2⟩
  have HB2 := Lib.hid (bt HB1.out hb2)
  clear hb2
  go_wp2_with fail
  refine (CR.out _).mono ?_
  rintro e w3 ⟨rfl, hb3⟩
  have HB3 := Lib.hid (bt HB2.out hb3)
  clear hb3
  go_wp2_with fail
  rw [HR.out]
  go_loop [11, 58] (fun s11 s58 => (s58 = .int .i64 0 ∧ s11 = .int .i64 n) ∨ (s58 = .int .i64 1 ∧ s11 = .int .i64 ((10 : Int) * (n : Int) + ((r[0].toNat : Int) - 48))) ∨ (s58 = .int .i64 2 ∧ s11 = .int .i64 ((10 : Int) * ((10 : Int) * (n : Int) + ((r[0].toNat : Int) - 48)) + ((r[1].toNat : Int) - 48)))) (fun _ s58 => 2 - (intOf s58).toNat)
  case atStart => exact .inl ⟨rfl, rfl⟩
  case round =>
    rcases hrel with ⟨rfl, rfl⟩ | ⟨rfl, rfl⟩ | ⟨rfl, rfl⟩
    · go_wp2
      go_round
      case rel => first | exact .inr (.inl ⟨rfl, rfl⟩) | exact .inr (.inl ⟨rfl, by congr 1; omega⟩) | exact ⟨_, _, _, _, _, .inr (.inl ⟨rfl, rfl⟩), rfl, rfl, rfl, rfl, rfl⟩
      case measure => decide
    · go_wp2
      go_round
      case rel => first | exact .inr (.inr ⟨rfl, rfl⟩) | exact .inr (.inr ⟨rfl, by congr 1; omega⟩) | exact ⟨_, _, _, _, _, .inr (.inr ⟨rfl, rfl⟩), rfl, rfl, rfl, rfl, rfl⟩
      case measure => decide
    · go_wp2
      go_ret2
      exact ⟨ret_int (by have := HE.out; omega), HB3.out⟩

set_option maxHeartbeats 4000000 in
set_option maxRecDepth 100000 in
theorem rdec_1 (s a b : ByteArray) (i : Int) (w : World) (hn : s.size ≤ 9223372036854775807) (la : a.size ≤ s.size) (lb : b.size ≤ s.size) (cc : Calls Tryz.prog 45 #[.string s, .string ⟨#[46]⟩] w fun e w' => e = .returned (.tuple #[.string a, .string b, .bool (decide (0 ≤ i))]) ∧ Below w.heap.size w w') (h1 : NumS a 3) (h2 : 0 ≤ i) (hs : b.size = 1) (d0 : IsDig b[0]) (n1 : b[0] ≠ 48) :
    Calls Tryz.prog 115 #[.string s, .int .i64 3, .int .i64 2] w fun e w' => e = .returned (.tuple #[.int .i64 ((100 : Int) * (valS a : Int) + (10 : Int) * ((b[0].toNat : Int) - 48)), .bool true]) ∧ Below w.heap.size w w' := by
  have CC := Lib.hid cc
  clear cc
  have n9 : valS a < 1000 := Nat.lt_of_lt_of_le h1.lt (show 10 ^ a.size ≤ 10 ^ 3 from Nat.pow_le_pow_right (by omega) h1.short)
  rw [decide_eq_true h2] at CC
  have CN := Lib.hid (fun W => rnumber_ok a 3 W (by omega) h1)
  clear h1 h2
  generalize valS a = n at *
  have hl := bytes_some (show 0 < b.size by omega)
  have hl2 := bytes_some' (show 0 < b.size by omega)
  have hb2 : (((b[b.size - 1].toNat : Nat) : Int) == 48) = false := by
    have e : b[b.size - 1] = b[0] := by congr 1; omega
    rw [e]; exact byte_ne n1
  have hb3 : (((b[0].toNat : Nat) : Int) == 48) = false := byte_ne n1
  have CR := Lib.hid rep_1
  have HX := Lib.hid (dig_int d0)
  obtain ⟨r, HR⟩ : ∃ r, Hid ((b ++ (⟨#[48]⟩ : ByteArray)) = r) := ⟨_, rfl⟩
  have hr : r.size = 2 := by rw [← HR.out, ByteArray.size_append, hs]; rfl
  have x0 : r[0] = b[0] := by have e := HR.out; subst e; exact get_pad 0 (by omega) _
  have x1 : (r[1].toNat : Int) = 48 := by
    have e := HR.out
    subst e
    rw [get_pad2 1 (by omega)]
    have : ∀ (j : Nat) (h : j < (⟨#[48]⟩ : ByteArray).size), ((⟨#[48]⟩ : ByteArray)[j].toNat : Int) = 48 := fun j h => by
      have : j = 0 := by have : (⟨#[48]⟩ : ByteArray).size = 1 := rfl; omega
      subst this; rfl
    exact this _ _
  have HE := Lib.hid (show (r[0].toNat : Int) = (b[0].toNat : Int) ∧ (r[1].toNat : Int) = 48 from ⟨by rw [x0], x1⟩)
  have y1 : 48 ≤ (r[0].toNat : Int) := by rw [x0]; exact HX.out.1
  have y2 : (r[0].toNat : Int) ≤ 57 := by rw [x0]; exact HX.out.2
  clear d0 n1 x0 lb
  go_enter Tryz.func115, Tryz.ntmps115
  go_wp2_with fail
  refine CC.out.mono ?_
  rintro e w1 ⟨rfl, hb1⟩
  have HB1 := Lib.hid hb1
  clear hb1
  go_wp2_with fail
  refine (CN.out _).mono ?_
  rintro e w2 ⟨rfl, hb2⟩
  have HB2 := Lib.hid (bt HB1.out hb2)
  clear hb2
  go_wp2_with fail
  refine (CR.out _).mono ?_
  rintro e w3 ⟨rfl, hb3⟩
  have HB3 := Lib.hid (bt HB2.out hb3)
  clear hb3
  go_wp2_with fail
  rw [HR.out]
  go_loop [11, 58] (fun s11 s58 => (s58 = .int .i64 0 ∧ s11 = .int .i64 n) ∨ (s58 = .int .i64 1 ∧ s11 = .int .i64 ((10 : Int) * (n : Int) + ((r[0].toNat : Int) - 48))) ∨ (s58 = .int .i64 2 ∧ s11 = .int .i64 ((10 : Int) * ((10 : Int) * (n : Int) + ((r[0].toNat : Int) - 48)) + ((r[1].toNat : Int) - 48)))) (fun _ s58 => 2 - (intOf s58).toNat)
  case atStart => exact .inl ⟨rfl, rfl⟩
  case round =>
    rcases hrel with ⟨rfl, rfl⟩ | ⟨rfl, rfl⟩ | ⟨rfl, rfl⟩
    · go_wp2
      go_round
      case rel => first | exact .inr (.inl ⟨rfl, rfl⟩) | exact .inr (.inl ⟨rfl, by congr 1; omega⟩) | exact ⟨_, _, _, _, _, .inr (.inl ⟨rfl, rfl⟩), rfl, rfl, rfl, rfl, rfl⟩
      case measure => decide
    · go_wp2
      go_round
      case rel => first | exact .inr (.inr ⟨rfl, rfl⟩) | exact .inr (.inr ⟨rfl, by congr 1; omega⟩) | exact ⟨_, _, _, _, _, .inr (.inr ⟨rfl, rfl⟩), rfl, rfl, rfl, rfl, rfl⟩
      case measure => decide
    · go_wp2
      go_ret2
      exact ⟨ret_int (by have := HE.out; omega), HB3.out⟩

set_option maxHeartbeats 4000000 in
set_option maxRecDepth 100000 in
theorem rdec_2 (s a b : ByteArray) (i : Int) (w : World) (hn : s.size ≤ 9223372036854775807) (la : a.size ≤ s.size) (lb : b.size ≤ s.size) (cc : Calls Tryz.prog 45 #[.string s, .string ⟨#[46]⟩] w fun e w' => e = .returned (.tuple #[.string a, .string b, .bool (decide (0 ≤ i))]) ∧ Below w.heap.size w w') (h1 : NumS a 3) (h2 : 0 ≤ i) (hs : b.size = 2) (d0 : IsDig b[0]) (d1 : IsDig b[1]) (n1 : b[1] ≠ 48) :
    Calls Tryz.prog 115 #[.string s, .int .i64 3, .int .i64 2] w fun e w' => e = .returned (.tuple #[.int .i64 ((100 : Int) * (valS a : Int) + ((10 : Int) * ((b[0].toNat : Int) - 48) + ((b[1].toNat : Int) - 48))), .bool true]) ∧ Below w.heap.size w w' := by
  have CC := Lib.hid cc
  clear cc
  have n9 : valS a < 1000 := Nat.lt_of_lt_of_le h1.lt (show 10 ^ a.size ≤ 10 ^ 3 from Nat.pow_le_pow_right (by omega) h1.short)
  rw [decide_eq_true h2] at CC
  have CN := Lib.hid (fun W => rnumber_ok a 3 W (by omega) h1)
  clear h1 h2
  generalize valS a = n at *
  have hl := bytes_some (show 0 < b.size by omega)
  have hl2 := bytes_some' (show 0 < b.size by omega)
  have hb2 : (((b[b.size - 1].toNat : Nat) : Int) == 48) = false := by
    have e : b[b.size - 1] = b[1] := by congr 1; omega
    rw [e]; exact byte_ne n1
  have hb3 : (((b[1].toNat : Nat) : Int) == 48) = false := byte_ne n1
  have CR := Lib.hid rep_0
  have HX := Lib.hid (dig_int d0)
  have HY := Lib.hid (dig_int d1)
  obtain ⟨r, HR⟩ : ∃ r, Hid ((b ++ (⟨#[]⟩ : ByteArray)) = r) := ⟨_, rfl⟩
  have hr : r.size = 2 := by rw [← HR.out, ByteArray.size_append, hs]; rfl
  have x0 : r[0] = b[0] := by have e := HR.out; subst e; exact get_pad 0 (by omega) _
  have x1 : r[1] = b[1] := by have e := HR.out; subst e; exact get_pad 1 (by omega) _
  have HE := Lib.hid (show (r[0].toNat : Int) = (b[0].toNat : Int) ∧ (r[1].toNat : Int) = (b[1].toNat : Int) from ⟨by rw [x0], by rw [x1]⟩)
  have y1 : 48 ≤ (r[0].toNat : Int) := by rw [x0]; exact HX.out.1
  have y2 : (r[0].toNat : Int) ≤ 57 := by rw [x0]; exact HX.out.2
  have y3 : 48 ≤ (r[1].toNat : Int) := by rw [x1]; exact HY.out.1
  have y4 : (r[1].toNat : Int) ≤ 57 := by rw [x1]; exact HY.out.2
  clear d0 d1 n1 x0 x1 lb
  go_enter Tryz.func115, Tryz.ntmps115
  go_wp2_with fail
  refine CC.out.mono ?_
  rintro e w1 ⟨rfl, hb1⟩
  have HB1 := Lib.hid hb1
  clear hb1
  go_wp2_with fail
  refine (CN.out _).mono ?_
  rintro e w2 ⟨rfl, hb2⟩
  have HB2 := Lib.hid (bt HB1.out hb2)
  clear hb2
  go_wp2_with fail
  refine (CR.out _).mono ?_
  rintro e w3 ⟨rfl, hb3⟩
  have HB3 := Lib.hid (bt HB2.out hb3)
  clear hb3
  go_wp2_with fail
  rw [HR.out]
  go_loop [11, 58] (fun s11 s58 => (s58 = .int .i64 0 ∧ s11 = .int .i64 n) ∨ (s58 = .int .i64 1 ∧ s11 = .int .i64 ((10 : Int) * (n : Int) + ((r[0].toNat : Int) - 48))) ∨ (s58 = .int .i64 2 ∧ s11 = .int .i64 ((10 : Int) * ((10 : Int) * (n : Int) + ((r[0].toNat : Int) - 48)) + ((r[1].toNat : Int) - 48)))) (fun _ s58 => 2 - (intOf s58).toNat)
  case atStart => exact .inl ⟨rfl, rfl⟩
  case round =>
    rcases hrel with ⟨rfl, rfl⟩ | ⟨rfl, rfl⟩ | ⟨rfl, rfl⟩
    · go_wp2
      go_round
      case rel => first | exact .inr (.inl ⟨rfl, rfl⟩) | exact .inr (.inl ⟨rfl, by congr 1; omega⟩) | exact ⟨_, _, _, _, _, .inr (.inl ⟨rfl, rfl⟩), rfl, rfl, rfl, rfl, rfl⟩
      case measure => decide
    · go_wp2
      go_round
      case rel => first | exact .inr (.inr ⟨rfl, rfl⟩) | exact .inr (.inr ⟨rfl, by congr 1; omega⟩) | exact ⟨_, _, _, _, _, .inr (.inr ⟨rfl, rfl⟩), rfl, rfl, rfl, rfl, rfl⟩
      case measure => decide
    · go_wp2
      go_ret2
      exact ⟨ret_int (by have := HE.out; omega), HB3.out⟩

set_option maxHeartbeats 4000000 in
set_option maxRecDepth 100000 in
theorem rdec_n10l (s a b : ByteArray) (i : Int) (w : World) (hn : s.size ≤ 9223372036854775807) (la : a.size ≤ s.size) (lb : b.size ≤ s.size) (cc : Calls Tryz.prog 45 #[.string s, .string ⟨#[46]⟩] w fun e w' => e = .returned (.tuple #[.string a, .string b, .bool (decide (0 ≤ i))]) ∧ Below w.heap.size w w') (h1 : NumS a 3) (h2 : 0 ≤ i) (hs : b.size = 1) (d0 : (b[0].toNat : Int) < 48) (n1 : b[0] ≠ 48) :
    Calls Tryz.prog 115 #[.string s, .int .i64 3, .int .i64 2] w fun e w' => e = .returned (.tuple #[.int .i64 0, .bool false]) ∧ Below w.heap.size w w' := by
  have CC := Lib.hid cc
  clear cc
  have n9 : valS a < 1000 := Nat.lt_of_lt_of_le h1.lt (show 10 ^ a.size ≤ 10 ^ 3 from Nat.pow_le_pow_right (by omega) h1.short)
  rw [decide_eq_true h2] at CC
  have CN := Lib.hid (fun W => rnumber_ok a 3 W (by omega) h1)
  clear h1 h2
  generalize valS a = n at *
  have hl := bytes_some (show 0 < b.size by omega)
  have hl2 := bytes_some' (show 0 < b.size by omega)
  have hb2 : (((b[b.size - 1].toNat : Nat) : Int) == 48) = false := by
    have e : b[b.size - 1] = b[0] := by congr 1; omega
    rw [e]; exact byte_ne n1
  have hb3 : (((b[0].toNat : Nat) : Int) == 48) = false := byte_ne n1
  have CR := Lib.hid rep_1
  obtain ⟨r, HR⟩ : ∃ r, Hid ((b ++ (⟨#[48]⟩ : ByteArray)) = r) := ⟨_, rfl⟩
  have hr : r.size = 2 := by rw [← HR.out, ByteArray.size_append, hs]; rfl
  have x0 : r[0] = b[0] := by have e := HR.out; subst e; exact get_pad 0 (by omega) _
  have y1 : (r[0].toNat : Int) < 48 := by rw [x0]; exact d0
  clear d0 n1 x0 lb
  go_enter Tryz.func115, Tryz.ntmps115
  go_wp2_with fail
  refine CC.out.mono ?_
  rintro e w1 ⟨rfl, hb1⟩
  have HB1 := Lib.hid hb1
  clear hb1
  go_wp2_with fail
  refine (CN.out _).mono ?_
  rintro e w2 ⟨rfl, hb2⟩
  have HB2 := Lib.hid (bt HB1.out hb2)
  clear hb2
  go_wp2_with fail
  refine (CR.out _).mono ?_
  rintro e w3 ⟨rfl, hb3⟩
  have HB3 := Lib.hid (bt HB2.out hb3)
  clear hb3
  go_wp2_with fail
  rw [HR.out]
  go_loop [11, 58] (fun s11 s58 => s58 = .int .i64 0 ∧ s11 = .int .i64 n) (fun _ s58 => 2 - (intOf s58).toNat)
  case atStart => exact ⟨rfl, rfl⟩
  case round =>
    obtain ⟨rfl, rfl⟩ := hrel
    go_wp2
    go_ret2
    exact ⟨rfl, HB3.out⟩

set_option maxHeartbeats 4000000 in
set_option maxRecDepth 100000 in
theorem rdec_n20l (s a b : ByteArray) (i : Int) (w : World) (hn : s.size ≤ 9223372036854775807) (la : a.size ≤ s.size) (lb : b.size ≤ s.size) (cc : Calls Tryz.prog 45 #[.string s, .string ⟨#[46]⟩] w fun e w' => e = .returned (.tuple #[.string a, .string b, .bool (decide (0 ≤ i))]) ∧ Below w.heap.size w w') (h1 : NumS a 3) (h2 : 0 ≤ i) (hs : b.size = 2) (d0 : (b[0].toNat : Int) < 48) (n1 : b[1] ≠ 48) :
    Calls Tryz.prog 115 #[.string s, .int .i64 3, .int .i64 2] w fun e w' => e = .returned (.tuple #[.int .i64 0, .bool false]) ∧ Below w.heap.size w w' := by
  have CC := Lib.hid cc
  clear cc
  have n9 : valS a < 1000 := Nat.lt_of_lt_of_le h1.lt (show 10 ^ a.size ≤ 10 ^ 3 from Nat.pow_le_pow_right (by omega) h1.short)
  rw [decide_eq_true h2] at CC
  have CN := Lib.hid (fun W => rnumber_ok a 3 W (by omega) h1)
  clear h1 h2
  generalize valS a = n at *
  have hl := bytes_some (show 0 < b.size by omega)
  have hl2 := bytes_some' (show 0 < b.size by omega)
  have hb2 : (((b[b.size - 1].toNat : Nat) : Int) == 48) = false := by
    have e : b[b.size - 1] = b[1] := by congr 1; omega
    rw [e]; exact byte_ne n1
  have hb3 : (((b[1].toNat : Nat) : Int) == 48) = false := byte_ne n1
  have CR := Lib.hid rep_0
  obtain ⟨r, HR⟩ : ∃ r, Hid ((b ++ (⟨#[]⟩ : ByteArray)) = r) := ⟨_, rfl⟩
  have hr : r.size = 2 := by rw [← HR.out, ByteArray.size_append, hs]; rfl
  have x0 : r[0] = b[0] := by have e := HR.out; subst e; exact get_pad 0 (by omega) _
  have y1 : (r[0].toNat : Int) < 48 := by rw [x0]; exact d0
  clear d0 n1 x0 lb
  go_enter Tryz.func115, Tryz.ntmps115
  go_wp2_with fail
  refine CC.out.mono ?_
  rintro e w1 ⟨rfl, hb1⟩
  have HB1 := Lib.hid hb1
  clear hb1
  go_wp2_with fail
  refine (CN.out _).mono ?_
  rintro e w2 ⟨rfl, hb2⟩
  have HB2 := Lib.hid (bt HB1.out hb2)
  clear hb2
  go_wp2_with fail
  refine (CR.out _).mono ?_
  rintro e w3 ⟨rfl, hb3⟩
  have HB3 := Lib.hid (bt HB2.out hb3)
  clear hb3
  go_wp2_with fail
  rw [HR.out]
  go_loop [11, 58] (fun s11 s58 => s58 = .int .i64 0 ∧ s11 = .int .i64 n) (fun _ s58 => 2 - (intOf s58).toNat)
  case atStart => exact ⟨rfl, rfl⟩
  case round =>
    obtain ⟨rfl, rfl⟩ := hrel
    go_wp2
    go_ret2
    exact ⟨rfl, HB3.out⟩

set_option maxHeartbeats 4000000 in
set_option maxRecDepth 100000 in
theorem rdec_n21l (s a b : ByteArray) (i : Int) (w : World) (hn : s.size ≤ 9223372036854775807) (la : a.size ≤ s.size) (lb : b.size ≤ s.size) (cc : Calls Tryz.prog 45 #[.string s, .string ⟨#[46]⟩] w fun e w' => e = .returned (.tuple #[.string a, .string b, .bool (decide (0 ≤ i))]) ∧ Below w.heap.size w w') (h1 : NumS a 3) (h2 : 0 ≤ i) (hs : b.size = 2) (d0 : IsDig b[0]) (d1 : (b[1].toNat : Int) < 48) (n1 : b[1] ≠ 48) :
    Calls Tryz.prog 115 #[.string s, .int .i64 3, .int .i64 2] w fun e w' => e = .returned (.tuple #[.int .i64 0, .bool false]) ∧ Below w.heap.size w w' := by
  have CC := Lib.hid cc
  clear cc
  have n9 : valS a < 1000 := Nat.lt_of_lt_of_le h1.lt (show 10 ^ a.size ≤ 10 ^ 3 from Nat.pow_le_pow_right (by omega) h1.short)
  rw [decide_eq_true h2] at CC
  have CN := Lib.hid (fun W => rnumber_ok a 3 W (by omega) h1)
  clear h1 h2
  generalize valS a = n at *
  have hl := bytes_some (show 0 < b.size by omega)
  have hl2 := bytes_some' (show 0 < b.size by omega)
  have hb2 : (((b[b.size - 1].toNat : Nat) : Int) == 48) = false := by
    have e : b[b.size - 1] = b[1] := by congr 1; omega
    rw [e]; exact byte_ne n1
  have hb3 : (((b[1].toNat : Nat) : Int) == 48) = false := byte_ne n1
  have CR := Lib.hid rep_0
  have HX := Lib.hid (dig_int d0)
  obtain ⟨r, HR⟩ : ∃ r, Hid ((b ++ (⟨#[]⟩ : ByteArray)) = r) := ⟨_, rfl⟩
  have hr : r.size = 2 := by rw [← HR.out, ByteArray.size_append, hs]; rfl
  have x0 : r[0] = b[0] := by have e := HR.out; subst e; exact get_pad 0 (by omega) _
  have x1 : r[1] = b[1] := by have e := HR.out; subst e; exact get_pad 1 (by omega) _
  have y1 : 48 ≤ (r[0].toNat : Int) := by rw [x0]; exact HX.out.1
  have y2 : (r[0].toNat : Int) ≤ 57 := by rw [x0]; exact HX.out.2
  have y3 : (r[1].toNat : Int) < 48 := by rw [x1]; exact d1
  clear d0 d1 n1 x0 x1 lb
  go_enter Tryz.func115, Tryz.ntmps115
  go_wp2_with fail
  refine CC.out.mono ?_
  rintro e w1 ⟨rfl, hb1⟩
  have HB1 := Lib.hid hb1
  clear hb1
  go_wp2_with fail
  refine (CN.out _).mono ?_
  rintro e w2 ⟨rfl, hb2⟩
  have HB2 := Lib.hid (bt HB1.out hb2)
  clear hb2
  go_wp2_with fail
  refine (CR.out _).mono ?_
  rintro e w3 ⟨rfl, hb3⟩
  have HB3 := Lib.hid (bt HB2.out hb3)
  clear hb3
  go_wp2_with fail
  rw [HR.out]
  go_loop [11, 58] (fun s11 s58 => (s58 = .int .i64 0 ∧ s11 = .int .i64 n) ∨ (s58 = .int .i64 1 ∧ s11 = .int .i64 ((10 : Int) * (n : Int) + ((r[0].toNat : Int) - 48)))) (fun _ s58 => 2 - (intOf s58).toNat)
  case atStart => exact .inl ⟨rfl, rfl⟩
  case round =>
    rcases hrel with ⟨rfl, rfl⟩ | ⟨rfl, rfl⟩
    · go_wp2
      go_round
      case rel => first | exact .inr ⟨rfl, rfl⟩ | exact .inr ⟨rfl, by congr 1; omega⟩ | exact ⟨_, _, _, _, _, .inr ⟨rfl, rfl⟩, rfl, rfl, rfl, rfl, rfl⟩
      case measure => decide
    · go_wp2
      go_ret2
      exact ⟨rfl, HB3.out⟩

set_option maxHeartbeats 4000000 in
set_option maxRecDepth 100000 in
theorem rdec_n10h (s a b : ByteArray) (i : Int) (w : World) (hn : s.size ≤ 9223372036854775807) (la : a.size ≤ s.size) (lb : b.size ≤ s.size) (cc : Calls Tryz.prog 45 #[.string s, .string ⟨#[46]⟩] w fun e w' => e = .returned (.tuple #[.string a, .string b, .bool (decide (0 ≤ i))]) ∧ Below w.heap.size w w') (h1 : NumS a 3) (h2 : 0 ≤ i) (hs : b.size = 1) (d0 : 57 < (b[0].toNat : Int)) (n1 : b[0] ≠ 48) :
    Calls Tryz.prog 115 #[.string s, .int .i64 3, .int .i64 2] w fun e w' => e = .returned (.tuple #[.int .i64 0, .bool false]) ∧ Below w.heap.size w w' := by
  have CC := Lib.hid cc
  clear cc
  have n9 : valS a < 1000 := Nat.lt_of_lt_of_le h1.lt (show 10 ^ a.size ≤ 10 ^ 3 from Nat.pow_le_pow_right (by omega) h1.short)
  rw [decide_eq_true h2] at CC
  have CN := Lib.hid (fun W => rnumber_ok a 3 W (by omega) h1)
  clear h1 h2
  generalize valS a = n at *
  have hl := bytes_some (show 0 < b.size by omega)
  have hl2 := bytes_some' (show 0 < b.size by omega)
  have hb2 : (((b[b.size - 1].toNat : Nat) : Int) == 48) = false := by
    have e : b[b.size - 1] = b[0] := by congr 1; omega
    rw [e]; exact byte_ne n1
  have hb3 : (((b[0].toNat : Nat) : Int) == 48) = false := byte_ne n1
  have CR := Lib.hid rep_1
  obtain ⟨r, HR⟩ : ∃ r, Hid ((b ++ (⟨#[48]⟩ : ByteArray)) = r) := ⟨_, rfl⟩
  have hr : r.size = 2 := by rw [← HR.out, ByteArray.size_append, hs]; rfl
  have x0 : r[0] = b[0] := by have e := HR.out; subst e; exact get_pad 0 (by omega) _
  have y1 : 57 < (r[0].toNat : Int) := by rw [x0]; exact d0
  clear d0 n1 x0 lb
  go_enter Tryz.func115, Tryz.ntmps115
  go_wp2_with fail
  refine CC.out.mono ?_
  rintro e w1 ⟨rfl, hb1⟩
  have HB1 := Lib.hid hb1
  clear hb1
  go_wp2_with fail
  refine (CN.out _).mono ?_
  rintro e w2 ⟨rfl, hb2⟩
  have HB2 := Lib.hid (bt HB1.out hb2)
  clear hb2
  go_wp2_with fail
  refine (CR.out _).mono ?_
  rintro e w3 ⟨rfl, hb3⟩
  have HB3 := Lib.hid (bt HB2.out hb3)
  clear hb3
  go_wp2_with fail
  rw [HR.out]
  go_loop [11, 58] (fun s11 s58 => s58 = .int .i64 0 ∧ s11 = .int .i64 n) (fun _ s58 => 2 - (intOf s58).toNat)
  case atStart => exact ⟨rfl, rfl⟩
  case round =>
    obtain ⟨rfl, rfl⟩ := hrel
    go_wp2
    go_ret2
    exact ⟨rfl, HB3.out⟩

set_option maxHeartbeats 4000000 in
set_option maxRecDepth 100000 in
theorem rdec_n20h (s a b : ByteArray) (i : Int) (w : World) (hn : s.size ≤ 9223372036854775807) (la : a.size ≤ s.size) (lb : b.size ≤ s.size) (cc : Calls Tryz.prog 45 #[.string s, .string ⟨#[46]⟩] w fun e w' => e = .returned (.tuple #[.string a, .string b, .bool (decide (0 ≤ i))]) ∧ Below w.heap.size w w') (h1 : NumS a 3) (h2 : 0 ≤ i) (hs : b.size = 2) (d0 : 57 < (b[0].toNat : Int)) (n1 : b[1] ≠ 48) :
    Calls Tryz.prog 115 #[.string s, .int .i64 3, .int .i64 2] w fun e w' => e = .returned (.tuple #[.int .i64 0, .bool false]) ∧ Below w.heap.size w w' := by
  have CC := Lib.hid cc
  clear cc
  have n9 : valS a < 1000 := Nat.lt_of_lt_of_le h1.lt (show 10 ^ a.size ≤ 10 ^ 3 from Nat.pow_le_pow_right (by omega) h1.short)
  rw [decide_eq_true h2] at CC
  have CN := Lib.hid (fun W => rnumber_ok a 3 W (by omega) h1)
  clear h1 h2
  generalize valS a = n at *
  have hl := bytes_some (show 0 < b.size by omega)
  have hl2 := bytes_some' (show 0 < b.size by omega)
  have hb2 : (((b[b.size - 1].toNat : Nat) : Int) == 48) = false := by
    have e : b[b.size - 1] = b[1] := by congr 1; omega
    rw [e]; exact byte_ne n1
  have hb3 : (((b[1].toNat : Nat) : Int) == 48) = false := byte_ne n1
  have CR := Lib.hid rep_0
  obtain ⟨r, HR⟩ : ∃ r, Hid ((b ++ (⟨#[]⟩ : ByteArray)) = r) := ⟨_, rfl⟩
  have hr : r.size = 2 := by rw [← HR.out, ByteArray.size_append, hs]; rfl
  have x0 : r[0] = b[0] := by have e := HR.out; subst e; exact get_pad 0 (by omega) _
  have y1 : 57 < (r[0].toNat : Int) := by rw [x0]; exact d0
  clear d0 n1 x0 lb
  go_enter Tryz.func115, Tryz.ntmps115
  go_wp2_with fail
  refine CC.out.mono ?_
  rintro e w1 ⟨rfl, hb1⟩
  have HB1 := Lib.hid hb1
  clear hb1
  go_wp2_with fail
  refine (CN.out _).mono ?_
  rintro e w2 ⟨rfl, hb2⟩
  have HB2 := Lib.hid (bt HB1.out hb2)
  clear hb2
  go_wp2_with fail
  refine (CR.out _).mono ?_
  rintro e w3 ⟨rfl, hb3⟩
  have HB3 := Lib.hid (bt HB2.out hb3)
  clear hb3
  go_wp2_with fail
  rw [HR.out]
  go_loop [11, 58] (fun s11 s58 => s58 = .int .i64 0 ∧ s11 = .int .i64 n) (fun _ s58 => 2 - (intOf s58).toNat)
  case atStart => exact ⟨rfl, rfl⟩
  case round =>
    obtain ⟨rfl, rfl⟩ := hrel
    go_wp2
    go_ret2
    exact ⟨rfl, HB3.out⟩

set_option maxHeartbeats 4000000 in
set_option maxRecDepth 100000 in
theorem rdec_n21h (s a b : ByteArray) (i : Int) (w : World) (hn : s.size ≤ 9223372036854775807) (la : a.size ≤ s.size) (lb : b.size ≤ s.size) (cc : Calls Tryz.prog 45 #[.string s, .string ⟨#[46]⟩] w fun e w' => e = .returned (.tuple #[.string a, .string b, .bool (decide (0 ≤ i))]) ∧ Below w.heap.size w w') (h1 : NumS a 3) (h2 : 0 ≤ i) (hs : b.size = 2) (d0 : IsDig b[0]) (d1 : 57 < (b[1].toNat : Int)) (n1 : b[1] ≠ 48) :
    Calls Tryz.prog 115 #[.string s, .int .i64 3, .int .i64 2] w fun e w' => e = .returned (.tuple #[.int .i64 0, .bool false]) ∧ Below w.heap.size w w' := by
  have CC := Lib.hid cc
  clear cc
  have n9 : valS a < 1000 := Nat.lt_of_lt_of_le h1.lt (show 10 ^ a.size ≤ 10 ^ 3 from Nat.pow_le_pow_right (by omega) h1.short)
  rw [decide_eq_true h2] at CC
  have CN := Lib.hid (fun W => rnumber_ok a 3 W (by omega) h1)
  clear h1 h2
  generalize valS a = n at *
  have hl := bytes_some (show 0 < b.size by omega)
  have hl2 := bytes_some' (show 0 < b.size by omega)
  have hb2 : (((b[b.size - 1].toNat : Nat) : Int) == 48) = false := by
    have e : b[b.size - 1] = b[1] := by congr 1; omega
    rw [e]; exact byte_ne n1
  have hb3 : (((b[1].toNat : Nat) : Int) == 48) = false := byte_ne n1
  have CR := Lib.hid rep_0
  have HX := Lib.hid (dig_int d0)
  obtain ⟨r, HR⟩ : ∃ r, Hid ((b ++ (⟨#[]⟩ : ByteArray)) = r) := ⟨_, rfl⟩
  have hr : r.size = 2 := by rw [← HR.out, ByteArray.size_append, hs]; rfl
  have x0 : r[0] = b[0] := by have e := HR.out; subst e; exact get_pad 0 (by omega) _
  have x1 : r[1] = b[1] := by have e := HR.out; subst e; exact get_pad 1 (by omega) _
  have y1 : 48 ≤ (r[0].toNat : Int) := by rw [x0]; exact HX.out.1
  have y2 : (r[0].toNat : Int) ≤ 57 := by rw [x0]; exact HX.out.2
  have y3 : 57 < (r[1].toNat : Int) := by rw [x1]; exact d1
  clear d0 d1 n1 x0 x1 lb
  go_enter Tryz.func115, Tryz.ntmps115
  go_wp2_with fail
  refine CC.out.mono ?_
  rintro e w1 ⟨rfl, hb1⟩
  have HB1 := Lib.hid hb1
  clear hb1
  go_wp2_with fail
  refine (CN.out _).mono ?_
  rintro e w2 ⟨rfl, hb2⟩
  have HB2 := Lib.hid (bt HB1.out hb2)
  clear hb2
  go_wp2_with fail
  refine (CR.out _).mono ?_
  rintro e w3 ⟨rfl, hb3⟩
  have HB3 := Lib.hid (bt HB2.out hb3)
  clear hb3
  go_wp2_with fail
  rw [HR.out]
  go_loop [11, 58] (fun s11 s58 => (s58 = .int .i64 0 ∧ s11 = .int .i64 n) ∨ (s58 = .int .i64 1 ∧ s11 = .int .i64 ((10 : Int) * (n : Int) + ((r[0].toNat : Int) - 48)))) (fun _ s58 => 2 - (intOf s58).toNat)
  case atStart => exact .inl ⟨rfl, rfl⟩
  case round =>
    rcases hrel with ⟨rfl, rfl⟩ | ⟨rfl, rfl⟩
    · go_wp2
      go_round
      case rel => first | exact .inr ⟨rfl, rfl⟩ | exact .inr ⟨rfl, by congr 1; omega⟩ | exact ⟨_, _, _, _, _, .inr ⟨rfl, rfl⟩, rfl, rfl, rfl, rfl, rfl⟩
      case measure => decide
    · go_wp2
      go_ret2
      exact ⟨rfl, HB3.out⟩

end Go.Proofs.YtppbagllhmeenaaGreatDoor
