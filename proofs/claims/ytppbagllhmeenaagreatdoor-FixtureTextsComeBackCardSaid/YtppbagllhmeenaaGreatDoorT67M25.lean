/- level.decimal with two digits behind the full stop, at any text. -/
import Derived.Test.YtppbagllhmeenaaGreatDoorT67M24

namespace Go.Proofs.YtppbagllhmeenaaGreatDoor
open Go.RowKit
open Classical
set_option linter.unusedVariables false
set_option linter.unusedSimpArgs false

theorem ret_intD {x y : Int} (h : x = y) : Ending.returned (.tuple #[.int .i64 x, .bool true]) = Ending.returned (.tuple #[.int .i64 y, .bool true]) := by rw [h]
theorem dig_int {b : UInt8} (h : IsDig b) : (48 : Int) ≤ (b.toNat : Int) ∧ (b.toNat : Int) ≤ 57 := by unfold IsDig at h; omega
theorem byte_ne {b c : UInt8} (h : b ≠ c) : (((b.toNat : Nat) : Int) == ((c.toNat : Nat) : Int)) = false := by
  have : b.toNat ≠ c.toNat := fun e => h (UInt8.toNat_inj.1 e)
  simp; omega

/-- the digits behind the full stop stand for hundredths -/
def Rest (b : ByteArray) (v : Int) : Prop :=
  (∃ h : b.size = 1, IsDig b[0] ∧ b[0] ≠ 48 ∧ v = 10 * ((b[0].toNat : Int) - 48)) ∨
  (∃ h : b.size = 2, IsDig b[0] ∧ IsDig b[1] ∧ b[1] ≠ 48 ∧ v = 10 * ((b[0].toNat : Int) - 48) + ((b[1].toNat : Int) - 48))
/-- s is a number of hundredths, its whole part of at most k digits -/
def DecS (k : Nat) (s : ByteArray) (v : Int) : Prop :=
  NumS (cutA s 46) k ∧ ((cutI s 46 = -1 ∧ v = 100 * valS (cutA s 46)) ∨ (0 ≤ cutI s 46 ∧ ∃ r, Rest (cutB s 46) r ∧ v = 100 * valS (cutA s 46) + r))
/-- what stands behind the full stop is wrong -/
def RestBad (b : ByteArray) : Prop := (¬ (0 < b.size ∧ AllDig b)) ∨ (0 < b.size ∧ AllDig b ∧ 2 < b.size) ∨ (AllDig b ∧ b.size ≤ 2 ∧ ∃ h : 0 < b.size, b[b.size - 1] = 48)

theorem rest_cases (b : ByteArray) : RestBad b ∨ ∃ r, Rest b r := by
  by_cases h1 : 0 < b.size ∧ AllDig b
  · obtain ⟨h0, hd⟩ := h1
    by_cases h2 : 2 < b.size
    · exact .inl (.inr (.inl ⟨h0, hd, h2⟩))
    · by_cases h3 : b[b.size - 1] = 48
      · exact .inl (.inr (.inr ⟨hd, by omega, h0, h3⟩))
      · right
        rcases (show b.size = 1 ∨ b.size = 2 by omega) with h | h
        · have e : b[b.size - 1] = b[0] := by congr 1; omega
          rw [e] at h3
          exact ⟨_, .inl ⟨h, hd 0 h0, h3, rfl⟩⟩
        · have e : b[b.size - 1] = b[1] := by congr 1; omega
          rw [e] at h3
          exact ⟨_, .inr ⟨h, hd 0 h0, hd 1 (by omega), h3, rfl⟩⟩
  · exact .inl (.inl h1)
theorem restBad_not {b : ByteArray} (h : RestBad b) : ¬ ∃ r, Rest b r := by
  rintro ⟨r, hr⟩
  rcases hr with ⟨e, d0, n0, _⟩ | ⟨e, d0, d1, n1, _⟩
  · have hd : AllDig b := fun i hi => by
      have : i = 0 := by omega
      subst this; exact d0
    rcases h with h | ⟨_, _, h⟩ | ⟨_, _, h0, h⟩
    · exact h ⟨by omega, hd⟩
    · omega
    · exact n0 (by rw [← h]; congr 1; omega)
  · have hd : AllDig b := fun i hi => by
      rcases (show i = 0 ∨ i = 1 by omega) with rfl | rfl
      · exact d0
      · exact d1
    rcases h with h | ⟨_, _, h⟩ | ⟨_, _, h0, h⟩
    · exact h ⟨by omega, hd⟩
    · omega
    · exact n1 (by rw [← h]; congr 1; omega)

set_option maxHeartbeats 4000000 in
theorem decimal_bad (s : ByteArray) (w : World) (hn : s.size ≤ 9223372036854775807) (h : ¬ ∃ v, DecS 9 s v) :
    Calls Tryz.prog 87 #[.string s, .int .i64 2] w fun e w' => e = .returned (.tuple #[.int .i64 0, .bool false]) ∧ Below w.heap.size w w' := by
  have CC := Lib.hid (cut_one s 46 w hn)
  have la := cutA_le s 46
  have lb := cutB_le s 46
  have hcase : ¬ NumS (cutA s 46) 9 ∨ (NumS (cutA s 46) 9 ∧ 0 ≤ cutI s 46 ∧ RestBad (cutB s 46)) := by
    by_cases h1 : NumS (cutA s 46) 9
    · right
      rcases cutI_lt s 46 with h2 | h2
      · by_cases h3 : 0 ≤ cutI s 46
        · refine ⟨h1, h3, ?_⟩
          rcases rest_cases (cutB s 46) with h4 | ⟨r, h4⟩
          · exact h4
          · exact absurd ⟨_, h1, .inr ⟨h3, r, h4, rfl⟩⟩ h
        · exact absurd ⟨_, h1, .inl ⟨by omega, rfl⟩⟩ h
      · exact absurd ⟨_, h1, .inl ⟨h2, rfl⟩⟩ h
    · exact .inl h1
  clear h
  generalize cutA s 46 = a at *
  generalize cutB s 46 = b at *
  generalize cutI s 46 = i at *
  rcases hcase with h1 | ⟨h1, h2, h3⟩
  · have CN := Lib.hid (fun W => number_no a W (by omega) h1)
    clear h1 la lb
    go_enter Tryz.func87, Tryz.ntmps87
    go_wp2_with fail
    refine CC.out.mono ?_
    rintro e w1 ⟨rfl, hb1⟩
    have HB1 := Lib.hid hb1
    clear hb1
    go_wp2_with fail
    refine (CN.out _).mono ?_
    rintro e w2 ⟨rfl, hb2⟩
    have HB2 := Lib.hid (bt HB1.out hb2)
    clear hb2
    go_wp2
    go_ret2
    exact ⟨rfl, HB2.out⟩
  · have CN := Lib.hid (fun W => number_yes a W h1)
    rw [decide_eq_true h2] at CC
    clear h1 la h2
    rcases h3 with h3 | ⟨h3, h4, h5⟩ | ⟨h3, h4, h5, h6⟩
    · have CD := Lib.hid (fun W => digits_no b W (by omega) h3)
      clear h3 lb
      go_enter Tryz.func87, Tryz.ntmps87
      go_wp2_with fail
      refine CC.out.mono ?_
      rintro e w1 ⟨rfl, hb1⟩
      have HB1 := Lib.hid hb1
      clear hb1
      go_wp2_with fail
      refine (CN.out _).mono ?_
      rintro e w2 ⟨rfl, hb2⟩
      have HB2 := Lib.hid (bt HB1.out hb2)
      clear hb2
      go_wp2_with fail
      refine (CD.out _).mono ?_
      rintro e w3 ⟨rfl, hb3⟩
      have HB3 := Lib.hid (bt HB2.out hb3)
      clear hb3
      go_wp2
      go_ret2
      exact ⟨rfl, HB3.out⟩
    · have CD := Lib.hid (fun W => digits_yes b W h3 (by omega) h4)
      clear h3 h4
      go_enter Tryz.func87, Tryz.ntmps87
      go_wp2_with fail
      refine CC.out.mono ?_
      rintro e w1 ⟨rfl, hb1⟩
      have HB1 := Lib.hid hb1
      clear hb1
      go_wp2_with fail
      refine (CN.out _).mono ?_
      rintro e w2 ⟨rfl, hb2⟩
      have HB2 := Lib.hid (bt HB1.out hb2)
      clear hb2
      go_wp2_with fail
      refine (CD.out _).mono ?_
      rintro e w3 ⟨rfl, hb3⟩
      have HB3 := Lib.hid (bt HB2.out hb3)
      clear hb3
      go_wp2
      go_ret2
      exact ⟨rfl, HB3.out⟩
    · have CD := Lib.hid (fun W => digits_yes b W h5 (by omega) h3)
      have hb1 : (((b[b.size - 1].toNat : Nat) : Int) == 48) = true := by rw [h6]; rfl
      clear h3 h6
      go_enter Tryz.func87, Tryz.ntmps87
      go_wp2_with fail
      refine CC.out.mono ?_
      rintro e w1 ⟨rfl, hb1⟩
      have HB1 := Lib.hid hb1
      clear hb1
      go_wp2_with fail
      refine (CN.out _).mono ?_
      rintro e w2 ⟨rfl, hb2⟩
      have HB2 := Lib.hid (bt HB1.out hb2)
      clear hb2
      go_wp2_with fail
      refine (CD.out _).mono ?_
      rintro e w3 ⟨rfl, hb3⟩
      have HB3 := Lib.hid (bt HB2.out hb3)
      clear hb3
      go_wp2
      go_ret2
      exact ⟨rfl, HB3.out⟩

set_option maxHeartbeats 4000000 in
theorem decimal_ok (s : ByteArray) (v : Int) (w : World) (hn : s.size ≤ 9223372036854775807) (h : DecS 9 s v) :
    Calls Tryz.prog 87 #[.string s, .int .i64 2] w fun e w' => e = .returned (.tuple #[.int .i64 v, .bool true]) ∧ Below w.heap.size w w' := by
  have CC := Lib.hid (cut_one s 46 w hn)
  have lb := cutB_le s 46
  have hb0 : cutI s 46 = -1 → cutB s 46 = ⟨#[]⟩ := fun e => by unfold cutB; rw [if_neg (by omega)]
  unfold DecS at h
  generalize cutA s 46 = a at *
  generalize cutB s 46 = b at *
  generalize cutI s 46 = i at *
  obtain ⟨h1, hcase⟩ := h
  have CN := Lib.hid (fun W => number_yes a W h1)
  have n9 : valS a < 1000000000 := Nat.lt_of_lt_of_le h1.lt (Nat.pow_le_pow_right (by decide) h1.short)
  clear h1
  generalize valS a = n at *
  rcases hcase with ⟨h2, rfl⟩ | ⟨h2, r, hr, rfl⟩
  · have hbe := hb0 h2
    subst hbe h2
    clear hb0 lb
    go_enter Tryz.func87, Tryz.ntmps87
    go_wp2_with fail
    refine CC.out.mono ?_
    rintro e w1 ⟨rfl, hb1⟩
    have HB1 := Lib.hid hb1
    clear hb1
    go_wp2_with fail
    refine (CN.out _).mono ?_
    rintro e w2 ⟨rfl, hb2⟩
    have HB2 := Lib.hid (bt HB1.out hb2)
    clear hb2
    go_wp2_with fail
    go_loop [9, 48] (fun s9 s48 => (s48 = .int .i64 0 ∧ s9 = .int .i64 n) ∨ (s48 = .int .i64 1 ∧ s9 = .int .i64 (n * 10)) ∨ (s48 = .int .i64 2 ∧ s9 = .int .i64 (n * 10 * 10))) (fun _ s48 => 2 - (intOf s48).toNat)
    case atStart => exact .inl ⟨rfl, rfl⟩
    case round =>
      rcases hrel with ⟨rfl, rfl⟩ | ⟨rfl, rfl⟩ | ⟨rfl, rfl⟩
      · go_wp2
        go_round
        case rel => exact .inr (.inl ⟨rfl, rfl⟩)
        case measure => decide
      · go_wp2
        go_round
        case rel => exact .inr (.inr ⟨rfl, rfl⟩)
        case measure => decide
      · have HE := Lib.hid (show (n : Int) * 10 * 10 = 100 * n by omega)
        go_wp2
        go_ret2
        exact ⟨by rw [← HE.out]; rfl, HB2.out⟩
  · rw [decide_eq_true h2] at CC
    clear hb0 h2
    rcases hr with ⟨hs, d0, n0, rfl⟩ | ⟨hs, d0, d1, n1, rfl⟩
    · have CD := Lib.hid (fun W => digits_yes b W (by omega) (by omega) (fun i hi => by
        have : i = 0 := by omega
        subst this; exact d0))
      have hb2 : (((b[b.size - 1].toNat : Nat) : Int) == 48) = false := by
        have e : b[b.size - 1] = b[0] := by congr 1; omega
        rw [e]; exact byte_ne n0
      have hb3 : (((b[0].toNat : Nat) : Int) == 48) = false := byte_ne n0
      obtain ⟨x1, x2⟩ := dig_int d0
      clear d0 n0 lb
      go_enter Tryz.func87, Tryz.ntmps87
      go_wp2_with fail
      refine CC.out.mono ?_
      rintro e w1 ⟨rfl, hb1⟩
      have HB1 := Lib.hid hb1
      clear hb1
      go_wp2_with fail
      refine (CN.out _).mono ?_
      rintro e w2 ⟨rfl, hb2⟩
      have HB2 := Lib.hid (bt HB1.out hb2)
      clear hb2
      go_wp2_with fail
      refine (CD.out _).mono ?_
      rintro e w3 ⟨rfl, hb3⟩
      have HB3 := Lib.hid (bt HB2.out hb3)
      clear hb3
      go_wp2_with fail
      go_loop [9, 48] (fun s9 s48 => (s48 = .int .i64 0 ∧ s9 = .int .i64 n) ∨ (s48 = .int .i64 1 ∧ s9 = .int .i64 (n * 10 + ((b[0].toNat : Int) - 48))) ∨ (s48 = .int .i64 2 ∧ s9 = .int .i64 ((n * 10 + ((b[0].toNat : Int) - 48)) * 10))) (fun _ s48 => 2 - (intOf s48).toNat)
      case atStart => exact .inl ⟨rfl, rfl⟩
      case round =>
        rcases hrel with ⟨rfl, rfl⟩ | ⟨rfl, rfl⟩ | ⟨rfl, rfl⟩
        · go_wp2
          go_round
          case rel => exact .inr (.inl ⟨rfl, rfl⟩)
          case measure => decide
        · go_wp2
          go_round
          case rel => exact .inr (.inr ⟨rfl, rfl⟩)
          case measure => decide
        · have HE := Lib.hid (show ((n : Int) * 10 + ((b[0].toNat : Int) - 48)) * 10 = 100 * n + 10 * ((b[0].toNat : Int) - 48) by omega)
          go_wp2
          go_ret2
          exact ⟨ret_intD (by omega), HB3.out⟩
    · have CD := Lib.hid (fun W => digits_yes b W (by omega) (by omega) (fun i hi => by
        rcases (show i = 0 ∨ i = 1 by omega) with rfl | rfl
        · exact d0
        · exact d1))
      have hb2 : (((b[b.size - 1].toNat : Nat) : Int) == 48) = false := by
        have e : b[b.size - 1] = b[1] := by congr 1; omega
        rw [e]; exact byte_ne n1
      have hb3 : (((b[1].toNat : Nat) : Int) == 48) = false := byte_ne n1
      obtain ⟨x1, x2⟩ := dig_int d0
      obtain ⟨y1, y2⟩ := dig_int d1
      clear d0 d1 n1 lb
      go_enter Tryz.func87, Tryz.ntmps87
      go_wp2_with fail
      refine CC.out.mono ?_
      rintro e w1 ⟨rfl, hb1⟩
      have HB1 := Lib.hid hb1
      clear hb1
      go_wp2_with fail
      refine (CN.out _).mono ?_
      rintro e w2 ⟨rfl, hb2⟩
      have HB2 := Lib.hid (bt HB1.out hb2)
      clear hb2
      go_wp2_with fail
      refine (CD.out _).mono ?_
      rintro e w3 ⟨rfl, hb3⟩
      have HB3 := Lib.hid (bt HB2.out hb3)
      clear hb3
      go_wp2_with fail
      go_loop [9, 48] (fun s9 s48 => (s48 = .int .i64 0 ∧ s9 = .int .i64 n) ∨ (s48 = .int .i64 1 ∧ s9 = .int .i64 (n * 10 + ((b[0].toNat : Int) - 48))) ∨ (s48 = .int .i64 2 ∧ s9 = .int .i64 ((n * 10 + ((b[0].toNat : Int) - 48)) * 10 + ((b[1].toNat : Int) - 48)))) (fun _ s48 => 2 - (intOf s48).toNat)
      case atStart => exact .inl ⟨rfl, rfl⟩
      case round =>
        rcases hrel with ⟨rfl, rfl⟩ | ⟨rfl, rfl⟩ | ⟨rfl, rfl⟩
        · go_wp2
          go_round
          case rel => exact .inr (.inl ⟨rfl, rfl⟩)
          case measure => decide
        · go_wp2
          go_round
          case rel => exact .inr (.inr ⟨rfl, rfl⟩)
          case measure => decide
        · have HE := Lib.hid (show ((n : Int) * 10 + ((b[0].toNat : Int) - 48)) * 10 + ((b[1].toNat : Int) - 48) = 100 * n + (10 * ((b[0].toNat : Int) - 48) + ((b[1].toNat : Int) - 48)) by omega)
          go_wp2
          go_ret2
          exact ⟨ret_intD (by omega), HB3.out⟩
end Go.Proofs.YtppbagllhmeenaaGreatDoor
