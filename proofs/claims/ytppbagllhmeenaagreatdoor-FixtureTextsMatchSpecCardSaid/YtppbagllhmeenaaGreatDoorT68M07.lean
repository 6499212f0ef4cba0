/- level.decimal with two digits behind the full stop, at any text. The reference's Number at any text. -/
import Derived.Test.YtppbagllhmeenaaGreatDoorT68M06

namespace Go.Proofs.YtppbagllhmeenaaGreatDoor
open Go.RowKit
open Classical
set_option linter.unusedVariables false
set_option linter.unusedSimpArgs false

theorem ret_intD {x y : Int} (h : x = y) : Ending.returned (.tuple #[.int .i64 x, .bool true]) = Ending.returned (.tuple #[.int .i64 y, .bool true]) := by rw [h]
theorem dig_int {b : UInt8} (h : IsDig b) : (48 : Int) ≤ (b.toNat : Int) ∧ (b.toNat : Int) ≤ 57 := by unfold IsDig at h; omega
theorem byte_ne {b c : UInt8} (h : b ≠ c) : (((b.toNat : Nat) : Int) == ((c.toNat : Nat) : Int)) = false := by
  have : b.toNat ≠ c.toNat := fun e => h (UInt8.toNat_inj.1 e)
  simp; omega

/-- the digits behind the full stop stand for hundredths -/
def Rest (b : ByteArray) (v : Int) : Prop :=
  (∃ h : b.size = 1, IsDig b[0] ∧ b[0] ≠ 48 ∧ v = 10 * ((b[0].toNat : Int) - 48)) ∨
  (∃ h : b.size = 2, IsDig b[0] ∧ IsDig b[1] ∧ b[1] ≠ 48 ∧ v = 10 * ((b[0].toNat : Int) - 48) + ((b[1].toNat : Int) - 48))
/-- s is a number of hundredths, its whole part of at most k digits -/
def DecS (k : Nat) (s : ByteArray) (v : Int) : Prop :=
  NumS (cutA s 46) k ∧ ((cutI s 46 = -1 ∧ v = 100 * valS (cutA s 46)) ∨ (0 ≤ cutI s 46 ∧ ∃ r, Rest (cutB s 46) r ∧ v = 100 * valS (cutA s 46) + r))
/-- what stands behind the full stop is wrong -/
def RestBad (b : ByteArray) : Prop := (¬ (0 < b.size ∧ AllDig b)) ∨ (0 < b.size ∧ AllDig b ∧ 2 < b.size) ∨ (AllDig b ∧ b.size ≤ 2 ∧ ∃ h : 0 < b.size, b[b.size - 1] = 48)

theorem rest_cases (b : ByteArray) : RestBad b ∨ ∃ r, Rest b r := by
  by_cases h1 : 0 < b.size ∧ AllDig b
  · obtain ⟨h0, hd⟩ := h1
    by_cases h2 : 2 < b.size
    · exact .inl (.inr (.inl ⟨h0, hd, h2⟩))
    · by_cases h3 : b[b.size - 1] = 48
      · exact .inl (.inr (.inr ⟨hd, by omega, h0, h3⟩))
      · right
        rcases (show b.size = 1 ∨ b.size = 2 by omega) with h | h
        · have e : b[b.size - 1] = b[0] := by congr 1; omega
          rw [e] at h3
          exact ⟨_, .inl ⟨h, hd 0 h0, h3, rfl⟩⟩
        · have e : b[b.size - 1] = b[1] := by congr 1; omega
          rw [e] at h3
          exact ⟨_, .inr ⟨h, hd 0 h0, hd 1 (by omega), h3, rfl⟩⟩
  · exact .inl (.inl h1)
theorem restBad_not {b : ByteArray} (h : RestBad b) : ¬ ∃ r, Rest b r := by
  rintro ⟨r, hr⟩
  rcases hr with ⟨e, d0, n0, _⟩ | ⟨e, d0, d1, n1, _⟩
  · have hd : AllDig b := fun i hi => by
      have : i = 0 := by omega
      subst this; exact d0
    rcases h with h | ⟨_, _, h⟩ | ⟨_, _, h0, h⟩
    · exact h ⟨by omega, hd⟩
    · omega
    · exact n0 (by rw [← h]; congr 1; omega)
  · have hd : AllDig b := fun i hi => by
      rcases (show i = 0 ∨ i = 1 by omega) with rfl | rfl
      · exact d0
      · exact d1
    rcases h with h | ⟨_, _, h⟩ | ⟨_, _, h0, h⟩
    · exact h ⟨by omega, hd⟩
    · omega
    · exact n1 (by rw [← h]; congr 1; omega)

set_option maxHeartbeats 4000000 in
theorem decimal_bad (s : ByteArray) (w : World) (hn : s.size ≤ 9223372036854775807) (h : ¬ ∃ v, DecS 9 s v) :
    Calls Tryz.prog 87 #[.string s, .int .i64 2] w fun e w' => e = .returned (.tuple #[.int .i64 0, .bool false]) ∧ Below w.heap.size w w' := by
  have CC := Lib.hid (cut_one s 46 w hn)
  have la := cutA_le s 46
  have lb := cutB_le s 46
  have hcase : ¬ NumS (cutA s 46) 9 ∨ (NumS (cutA s 46) 9 ∧ 0 ≤ cutI s 46 ∧ RestBad (cutB s 46)) := by
    by_cases h1 : NumS (cutA s 46) 9
    · right
      rcases cutI_lt s 46 with h2 | h2
      · by_cases h3 : 0 ≤ cutI s 46
        · refine ⟨h1, h3, ?_⟩
          rcases rest_cases (cutB s 46) with h4 | ⟨r, h4⟩
          · exact h4
          · exact absurd ⟨_, h1, .inr ⟨h3, r, h4, rfl⟩⟩ h
        · exact absurd ⟨_, h1, .inl ⟨by omega, rfl⟩⟩ h
      · exact absurd ⟨_, h1, .inl ⟨h2, rfl⟩⟩ h
    · exact .inl h1
  clear h
  generalize cutA s 46 = a at *
  generalize cutB s 46 = b at *
  generalize cutI s 46 = i at *
  rcases hcase with h1 | ⟨h1, h2, h3⟩
  · have CN := Lib.hid (fun W => number_no a W (by omega) h1)
    clear h1 la lb
    go_enter Tryz.func87, Tryz.ntmps87
    go_wp2_with fail
    refine CC.out.mono ?_
    rintro e w1 ⟨rfl, hb1⟩
    have HB1 := Lib.hid hb1
    clear hb1
    go_wp2_with fail
    refine (CN.out _).mono ?_
    rintro e w2 ⟨rfl, hb2⟩
    have HB2 := Lib.hid (bt HB1.out hb2)
    clear hb2
    go_wp2
    go_ret2
    exact ⟨rfl, HB2.out⟩
  · have CN := Lib.hid (fun W => number_yes a W h1)
    rw [decide_eq_true h2] at CC
    clear h1 la h2
    rcases h3 with h3 | ⟨h3, h4, h5⟩ | ⟨h3, h4, h5, h6⟩
    · have CD := Lib.hid (fun W => digits_no b W (by omega) h3)
      clear h3 lb
      go_enter Tryz.func87, Tryz.ntmps87
      go_wp2_with fail
      refine CC.out.mono ?_
      rintro e w1 ⟨rfl, hb1⟩
      have HB1 := Lib.hid hb1
      clear hb1
      go_wp2_with fail
      refine (CN.out _).mono ?_
      rintro e w2 ⟨rfl, hb2⟩
      have HB2 := Lib.hid (bt HB1.out hb2)
      clear hb2
      go_wp2_with fail
      refine (CD.out _).mono ?_
      rintro e w3 ⟨rfl, hb3⟩
      have HB3 := Lib.hid (bt HB2.out hb3)
      clear hb3
      go_wp2
      go_ret2
      exact ⟨rfl, HB3.out⟩
    · have CD := Lib.hid (fun W => digits_yes b W h3 (by omega) h4)
      clear h3 h4
      go_enter Tryz.func87, Tryz.ntmps87
      go_wp2_with fail
      refine CC.out.mono ?_
      rintro e w1 ⟨rfl, hb1⟩
      have HB1 := Lib.hid hb1
      clear hb1
      go_wp2_with fail
      refine (CN.out _).mono ?_
      rintro e w2 ⟨rfl, hb2⟩
      have HB2 := Lib.hid (bt HB1.out hb2)
      clear hb2
      go_wp2_with fail
      refine (CD.out _).mono ?_
      rintro e w3 ⟨rfl, hb3⟩
      have HB3 := Lib.hid (bt HB2.out hb3)
      clear hb3
      go_wp2
      go_ret2
      exact ⟨rfl, HB3.out⟩
    · have CD := Lib.hid (fun W => digits_yes b W h5 (by omega) h3)
      have hb1 : (((b[b.size - 1].toNat : Nat) : Int) == 48) = true := by rw [h6]; rfl
      clear h3 h6
      go_enter Tryz.func87, Tryz.ntmps87
      go_wp2_with fail
      refine CC.out.mono ?_
      rintro e w1 ⟨rfl, hb1⟩
      have HB1 := Lib.hid hb1
      clear hb1
      go_wp2_with fail
      refine (CN.out _).mono ?_
      rintro e w2 ⟨rfl, hb2⟩
      have HB2 := Lib.hid (bt HB1.out hb2)
      clear hb2
      go_wp2_with fail
      refine (CD.out _).mono ?_
      rintro e w3 ⟨rfl, hb3⟩
      have HB3 := Lib.hid (bt HB2.out hb3)
      clear hb3
      go_wp2
      go_ret2
      exact ⟨rfl, HB3.out⟩

set_option maxHeartbeats 4000000 in
theorem decimal_ok (s : ByteArray) (v : Int) (w : World) (hn : s.size ≤ 9223372036854775807) (h : DecS 9 s v) :
    Calls Tryz.prog 87 #[.string s, .int .i64 2] w fun e w' => e = .returned (.tuple #[.int .i64 v, .bool true]) ∧ Below w.heap.size w w' := by
  have CC := Lib.hid (cut_one s 46 w hn)
  have lb := cutB_le s 46
  have hb0 : cutI s 46 = -1 → cutB s 46 = ⟨#[]⟩ := fun e => by unfold cutB; rw [if_neg (by omega)]
  unfold DecS at h
  generalize cutA s 46 = a at *
  generalize cutB s 46 = b at *
  generalize cutI s 46 = i at *
  obtain ⟨h1, hcase⟩ := h
  have CN := Lib.hid (fun W => number_yes a W h1)
  have n9 : valS a < 1000000000 := Nat.lt_of_lt_of_le h1.lt (Nat.pow_le_pow_right (by decide) h1.short)
  clear h1
  generalize valS a = n at *
  rcases hcase with ⟨h2, rfl⟩ | ⟨h2, r, hr, rfl⟩
  · have hbe := hb0 h2
    subst hbe h2
    clear hb0 lb
    go_enter Tryz.func87, Tryz.ntmps87
    go_wp2_with fail
    refine CC.out.mono ?_
    rintro e w1 ⟨rfl, hb1⟩
    have HB1 := Lib.hid hb1
    clear hb1
    go_wp2_with fail
    refine (CN.out _).mono ?_
    rintro e w2 ⟨rfl, hb2⟩
    have HB2 := Lib.hid (bt HB1.out hb2)
    clear hb2
    go_wp2_with fail
    go_loop [9, 48] (fun s9 s48 => (s48 = .int .i64 0 ∧ s9 = .int .i64 n) ∨ (s48 = .int .i64 1 ∧ s9 = .int .i64 (n * 10)) ∨ (s48 = .int .i64 2 ∧ s9 = .int .i64 (n * 10 * 10))) (fun _ s48 => 2 - (intOf s48).toNat)
    case atStart => exact .inl ⟨rfl, rfl⟩
    case round =>
      rcases hrel with ⟨rfl, rfl⟩ | ⟨rfl, rfl⟩ | ⟨rfl, rfl⟩
      · go_wp2
        go_round
        case rel => exact .inr (.inl ⟨rfl, rfl⟩)
        case measure => decide
      · go_wp2
        go_round
        case rel => exact .inr (.inr ⟨rfl, rfl⟩)
        case measure => decide
      · have HE := Lib.hid (show (n : Int) * 10 * 10 = 100 * n by omega)
        go_wp2
        go_ret2
        exact ⟨by rw [← HE.out]; rfl, HB2.out⟩
  · rw [decide_eq_true h2] at CC
    clear hb0 h2
    rcases hr with ⟨hs, d0, n0, rfl⟩ | ⟨hs, d0, d1, n1, rfl⟩
    · have CD := Lib.hid (fun W => digits_yes b W (by omega) (by omega) (fun i hi => by
        have : i = 0 := by omega
        subst this; exact d0))
      have hb2 : (((b[b.size - 1].toNat : Nat) : Int) == 48) = false := by
        have e : b[b.size - 1] = b[0] := by congr 1; omega
        rw [e]; exact byte_ne n0
      have hb3 : (((b[0].toNat : Nat) : Int) == 48) = false := byte_ne n0
      obtain ⟨x1, x2⟩ := dig_int d0
      clear d0 n0 lb
      go_enter Tryz.func87, Tryz.ntmps87
      go_wp2_with fail
      refine CC.out.mono ?_
      rintro e w1 ⟨rfl, hb1⟩
      have HB1 := Lib.hid hb1
      clear hb1
      go_wp2_with fail
      refine (CN.out _).mono ?_
      rintro e w2 ⟨rfl, hb2⟩
      have HB2 := Lib.hid (bt HB1.out hb2)
      clear hb2
      go_wp2_with fail
      refine (CD.out _).mono ?_
      rintro e w3 ⟨rfl, hb3⟩
      have HB3 := Lib.hid (bt HB2.out hb3)
      clear hb3
      go_wp2_with fail
      go_loop [9, 48] (fun s9 s48 => (s48 = .int .i64 0 ∧ s9 = .int .i64 n) ∨ (s48 = .int .i64 1 ∧ s9 = .int .i64 (n * 10 + ((b[0].toNat : Int) - 48))) ∨ (s48 = .int .i64 2 ∧ s9 = .int .i64 ((n * 10 + ((b[0].toNat : Int) - 48)) * 10))) (fun _ s48 => 2 - (intOf s48).toNat)
      case atStart => exact .inl ⟨rfl, rfl⟩
      case round =>
        rcases hrel with ⟨rfl, rfl⟩ | ⟨rfl, rfl⟩ | ⟨rfl, rfl⟩
        · go_wp2
          go_round
          case rel => exact .inr (.inl ⟨rfl, rfl⟩)
          case measure => decide
        · go_wp2
          go_round
          case rel => exact .inr (.inr ⟨rfl, rfl⟩)
          case measure => decide
        · have HE := Lib.hid (show ((n : Int) * 10 + ((b[0].toNat : Int) - 48)) * 10 = 100 * n + 10 * ((b[0].toNat : Int) - 48) by omega)
          go_wp2
          go_ret2
          exact ⟨ret_intD (by omega), HB3.out⟩
    · have CD := Lib.hid (fun W => digits_yes b W (by omega) (by omega) (fun i hi => by
        rcases (show i = 0 ∨ i = 1 by omega) with rfl | rfl
        · exact d0
        · exact d1))
      have hb2 : (((b[b.size - 1].toNat : Nat) : Int) == 48) = false := by
        have e : b[b.size - 1] = b[1] := by congr 1; omega
        rw [e]; exact byte_ne n1
      have hb3 : (((b[1].toNat : Nat) : Int) == 48) = false := byte_ne n1
      obtain ⟨x1, x2⟩ := dig_int d0
      obtain ⟨y1, y2⟩ := dig_int d1
      clear d0 d1 n1 lb
      go_enter Tryz.func87, Tryz.ntmps87
      go_wp2_with fail
      refine CC.out.mono ?_
      rintro e w1 ⟨rfl, hb1⟩
      have HB1 := Lib.hid hb1
      clear hb1
      go_wp2_with fail
      refine (CN.out _).mono ?_
      rintro e w2 ⟨rfl, hb2⟩
      have HB2 := Lib.hid (bt HB1.out hb2)
      clear hb2
      go_wp2_with fail
      refine (CD.out _).mono ?_
      rintro e w3 ⟨rfl, hb3⟩
      have HB3 := Lib.hid (bt HB2.out hb3)
      clear hb3
      go_wp2_with fail
      go_loop [9, 48] (fun s9 s48 => (s48 = .int .i64 0 ∧ s9 = .int .i64 n) ∨ (s48 = .int .i64 1 ∧ s9 = .int .i64 (n * 10 + ((b[0].toNat : Int) - 48))) ∨ (s48 = .int .i64 2 ∧ s9 = .int .i64 ((n * 10 + ((b[0].toNat : Int) - 48)) * 10 + ((b[1].toNat : Int) - 48)))) (fun _ s48 => 2 - (intOf s48).toNat)
      case atStart => exact .inl ⟨rfl, rfl⟩
      case round =>
        rcases hrel with ⟨rfl, rfl⟩ | ⟨rfl, rfl⟩ | ⟨rfl, rfl⟩
        · go_wp2
          go_round
          case rel => exact .inr (.inl ⟨rfl, rfl⟩)
          case measure => decide
        · go_wp2
          go_round
          case rel => exact .inr (.inr ⟨rfl, rfl⟩)
          case measure => decide
        · have HE := Lib.hid (show ((n : Int) * 10 + ((b[0].toNat : Int) - 48)) * 10 + ((b[1].toNat : Int) - 48) = 100 * n + (10 * ((b[0].toNat : Int) - 48) + ((b[1].toNat : Int) - 48)) by omega)
          go_wp2
          go_ret2
          exact ⟨ret_intD (by omega), HB3.out⟩
end Go.Proofs.YtppbagllhmeenaaGreatDoor

namespace Go.Proofs.YtppbagllhmeenaaGreatDoor
open Go.RowKit
open Classical
set_option linter.unusedVariables false
set_option linter.unusedSimpArgs false

set_option maxHeartbeats 4000000 in
theorem rnumber_yes (s : ByteArray) (m : Nat) (w : World) (hm : m ≤ 18) (h : NumS s m) (h48 : ∀ h : 0 < s.size, s[0] ≠ 48) :
    Calls Tryz.prog 54 #[.string s, .int .i64 m] w fun e w' => e = .returned (.tuple #[.int .i64 (valS s), .bool true]) ∧ Below w.heap.size w w' := by
  have CA := Lib.hid (fun W => Tryz.strconv_Atoi s (valS s) (by have := h.short; omega) h.atoi W)
  have h0 := h.pos
  have hs := h.short
  have hl := bytes_some h0
  have hl2 := bytes_some' h0
  have hb1 : (((s[0].toNat : Nat) : Int) == 48) = false := byte_ne (h48 h0)
  have HD := Lib.hid h.dig
  generalize valS s = n at *
  clear h h48
  go_enter Tryz.func54, Tryz.ntmps54
  go_wp2_with fail
  go_loop [28] (fun x => ∃ k : Nat, x = .int .i64 k ∧ k ≤ s.size) (fun x => s.size - (intOf x).toNat)
  case atStart => exact ⟨0, rfl, Nat.zero_le _⟩
  case round =>
    obtain ⟨k, rfl, hk⟩ := hrel
    by_cases hk2 : k < s.size
    · have HX := Lib.hid (dig_int (HD.out k hk2))
      have x1 := HX.out.1
      have x2 := HX.out.2
      go_wp2
      go_round
      case rel => exact ⟨u4, u5, _, _, ⟨k + 1, rfl, by omega⟩, rfl, rfl, rfl, rfl⟩
      case measure => show s.size - ((k : Int) + 1).toNat < s.size - (k : Int).toNat; omega
    · go_wp2_with fail
      refine (CA.out _).mono ?_
      rintro e w2 ⟨rfl, t, rfl⟩
      have HB2 := Lib.hid (Lib.bytesWorld_below w 5 t)
      generalize Lib.bytesWorld w 5 t = w2 at *
      go_wp2
      go_ret2
      exact ⟨rfl, HB2.out⟩

theorem zero_list {s : ByteArray} (h1 : s.size = 1) (h : ∀ h : 0 < s.size, s[0] = 48) : s.toList = [48] := by
  rw [Lib.toList_data]
  have h1' : s.data.toList.length = 1 := by rw [← Lib.size_eq]; exact h1
  match hc : s.data.toList, h1' with
  | [a], _ =>
    have e : s.data = #[a] := by rw [← Array.toArray_toList (xs := s.data), hc]
    have e2 : s.data[0]? = some a := by rw [e]; rfl
    have h0 : 0 < s.size := by omega
    rw [Array.getElem?_eq_getElem (show 0 < s.data.size from h0)] at e2
    have := h h0
    rw [← Option.some.inj e2]
    exact congrArg (fun x => [x]) this

set_option maxHeartbeats 4000000 in
theorem rnumber_0 (s : ByteArray) (m : Nat) (w : World) (hm : m ≤ 18) (h : NumS s m) (h1 : s.size = 1) (h48 : ∀ h : 0 < s.size, s[0] = 48) :
    Calls Tryz.prog 54 #[.string s, .int .i64 m] w fun e w' => e = .returned (.tuple #[.int .i64 (valS s), .bool true]) ∧ Below w.heap.size w w' := by
  have CA := Lib.hid (fun W => Tryz.strconv_Atoi s (valS s) (by have := h.short; omega) h.atoi W)
  have h0 := h.pos
  have hs := h.short
  have hz := zero_list h1 h48
  have hz2 : (s.toList == [48]) = true := by simp [hz]
  have hl := bytes_some h0
  have hl2 := bytes_some' h0
  have hb1 : (((s[0].toNat : Nat) : Int) == 48) = true := by rw [h48 h0]; rfl
  have HD := Lib.hid h.dig
  generalize valS s = n at *
  clear h h48 hz
  go_enter Tryz.func54, Tryz.ntmps54
  go_wp2_with fail
  go_loop [28] (fun x => ∃ k : Nat, x = .int .i64 k ∧ k ≤ s.size) (fun x => s.size - (intOf x).toNat)
  case atStart => exact ⟨0, rfl, Nat.zero_le _⟩
  case round =>
    obtain ⟨k, rfl, hk⟩ := hrel
    by_cases hk2 : k < s.size
    · have HX := Lib.hid (dig_int (HD.out k hk2))
      have x1 := HX.out.1
      have x2 := HX.out.2
      go_wp2
      go_round
      case rel => first | exact ⟨k + 1, rfl, by omega⟩ | exact ⟨u4, u5, _, _, ⟨k + 1, rfl, by omega⟩, rfl, rfl, rfl, rfl⟩
      case measure => show s.size - ((k : Int) + 1).toNat < s.size - (k : Int).toNat; omega
    · go_wp2_with fail
      refine (CA.out _).mono ?_
      rintro e w2 ⟨rfl, t, rfl⟩
      have HB2 := Lib.hid (Lib.bytesWorld_below w 5 t)
      generalize Lib.bytesWorld w 5 t = w2 at *
      go_wp2
      go_ret2
      exact ⟨rfl, HB2.out⟩

theorem rnumber_ok (s : ByteArray) (m : Nat) (w : World) (hm : m ≤ 18) (h : NumS s m) :
    Calls Tryz.prog 54 #[.string s, .int .i64 m] w fun e w' => e = .returned (.tuple #[.int .i64 (valS s), .bool true]) ∧ Below w.heap.size w w' := by
  by_cases h48 : ∀ h : 0 < s.size, s[0] ≠ 48
  · exact rnumber_yes s m w hm h h48
  · have h1 : s.size = 1 := by
      rcases h.head with h1 | h1
      · exact Nat.le_antisymm h1 h.pos
      · exact absurd h1 h48
    exact rnumber_0 s m w hm h h1 (fun h0 => Classical.byContradiction fun hc => h48 fun _ => hc)

set_option maxHeartbeats 4000000 in
theorem rnumber_no (s : ByteArray) (m : Nat) (w : World) (hm : m ≤ 18) (hn : s.size ≤ 9223372036854775807) (h : ¬ NumS s m) :
    Calls Tryz.prog 54 #[.string s, .int .i64 m] w fun e w' => e = .returned (.tuple #[.int .i64 0, .bool false]) ∧ Below w.heap.size w w' := by
  by_cases h0 : 0 < s.size
  · have hl := bytes_some h0
    have hl2 := bytes_some' h0
    by_cases hs : s.size ≤ m
    · by_cases h48 : s[0] = 48
      · have hb1 : (((s[0].toNat : Nat) : Int) == 48) = true := by rw [h48]; rfl
        have h1 : ¬ s.size = 1 := fun h1 => h ⟨h0, hs, fun i hi => by
          have : i = 0 := by omega
          subst this
          rw [h48]; exact ⟨by decide, by decide⟩, .inl (by omega)⟩
        have hz : ¬ s.toList = [48] := fun e => h1 (by
          rw [Lib.toList_data] at e
          rw [Lib.size_eq, e]; rfl)
        have hz2 : (s.toList == [48]) = false := beq_eq_false_iff_ne.2 hz
        clear h h48
        go_enter Tryz.func54, Tryz.ntmps54
        go_wp2
        go_ret2
        exact ⟨rfl, Below.refl _ _⟩
      · have hb1 : (((s[0].toNat : Nat) : Int) == 48) = false := byte_ne h48
        have HN := Lib.hid (show ¬ AllDig s from fun hd => h ⟨h0, hs, hd, .inr fun _ => h48⟩)
        clear h h48
        go_enter Tryz.func54, Tryz.ntmps54
        go_wp2_with fail
        go_loop [28] (fun x => ∃ k : Nat, x = .int .i64 k ∧ k ≤ s.size ∧ Hid (∀ i (h : i < s.size), i < k → IsDig s[i])) (fun x => s.size - (intOf x).toNat)
        case atStart => exact ⟨0, rfl, Nat.zero_le _, fun i _ hi => absurd hi (Nat.not_lt_zero _)⟩
        case round =>
          obtain ⟨k, rfl, hk, HK⟩ := hrel
          by_cases hk2 : k < s.size
          · by_cases hd : IsDig s[k]
            · have HX := Lib.hid (dig_int hd)
              have x1 := HX.out.1
              have x2 := HX.out.2
              have HD := Lib.hid hd
              clear hd
              go_wp2
              go_round
              case rel => exact ⟨u4, u5, _, _, ⟨k + 1, rfl, by omega, fun i hi hik => by
                rcases Nat.lt_or_ge i k with h | h
                · exact HK.out i hi h
                · have : i = k := by omega
                  subst this; exact HD.out⟩, rfl, rfl, rfl, rfl⟩
              case measure => show s.size - ((k : Int) + 1).toNat < s.size - (k : Int).toNat; omega
            · by_cases hlo : (s[k].toNat : Int) < 48
              · clear hd
                go_wp2
                go_ret2
                exact ⟨rfl, Below.refl _ _⟩
              · have hhi : 57 < (s[k].toNat : Int) := by unfold IsDig at hd; omega
                clear hd
                go_wp2
                go_ret2
                exact ⟨rfl, Below.refl _ _⟩
          · exact absurd (fun i hi => HK.out i hi (by omega)) HN.out
    · clear h
      go_enter Tryz.func54, Tryz.ntmps54
      go_wp2
      go_ret2
      exact ⟨rfl, Below.refl _ _⟩
  · have he := nil_of h0
    subst he
    clear h
    go_enter Tryz.func54, Tryz.ntmps54
    go_wp2
    go_ret2
    exact ⟨rfl, Below.refl _ _⟩
end Go.Proofs.YtppbagllhmeenaaGreatDoor
