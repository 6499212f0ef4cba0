/- level.decimal with three digits behind the full stop, at any text (printed by gen/gen_dec3.py). -/
import Derived.Test.YtdicoggpcobbpaaDoorNumCanon
import Derived.Test.YtdicoggpcobbpaaDoorDecimal
namespace Go.Proofs.YtdicoggpcobbpaaDoor
open Go.RowKit
open Classical
set_option linter.unusedVariables false
set_option linter.unusedSimpArgs false

/-- the digit at a place, 0 behind the end -/
def dg0 (b : ByteArray) (i : Nat) : Int := if h : i < b.size then (b[i].toNat : Int) - 48 else 0
theorem dg0_in (b : ByteArray) (i : Nat) (h : i < b.size) : dg0 b i = (b[i].toNat : Int) - 48 := by unfold dg0; rw [dif_pos h]
theorem dg0_out (b : ByteArray) (i : Nat) (h : ¬ i < b.size) : dg0 b i = 0 := by unfold dg0; rw [dif_neg h]
def padN (b : ByteArray) (n : Int) : Nat → Int
  | 0 => n
  | k + 1 => padN b n k * 10 + dg0 b k
theorem padN_succ (b : ByteArray) (n : Int) (k : Nat) : padN b n (k + 1) = padN b n k * 10 + dg0 b k := rfl
theorem padN_three (b : ByteArray) (n : Int) : padN b n 3 = 1000 * n + (100 * dg0 b 0 + 10 * dg0 b 1 + dg0 b 2) := by
  simp only [padN]; omega
theorem dg0_range {b : ByteArray} (h : AllDig b) (i : Nat) : 0 ≤ dg0 b i ∧ dg0 b i ≤ 9 := by
  by_cases hi : i < b.size
  · rw [dg0_in b i hi]
    have := dig_int (h i hi)
    omega
  · rw [dg0_out b i hi]
    omega
theorem padN_range (b : ByteArray) (n : Int) (h : AllDig b) (hn : 0 ≤ n ∧ n < 1000000000) (k : Nat) (hk : k ≤ 2) : 0 ≤ padN b n k ∧ padN b n k < 100000000000 := by
  have h0 := dg0_range h 0
  have h1 := dg0_range h 1
  rcases (show k = 0 ∨ k = 1 ∨ k = 2 by omega) with rfl | rfl | rfl <;> simp only [padN] <;> omega

/-- one to three digits, the last one no 0 -/
def Rest3 (b : ByteArray) : Prop := 0 < b.size ∧ b.size ≤ 3 ∧ AllDig b ∧ ∀ h : b.size - 1 < b.size, b[b.size - 1] ≠ 48
/-- their value in thousandths -/
def pad3 (b : ByteArray) : Int := 100 * dg0 b 0 + 10 * dg0 b 1 + dg0 b 2
/-- s is a number of thousandths -/
def DecT (s : ByteArray) (v : Int) : Prop :=
  NumS (cutA s 46) 9 ∧ ((cutI s 46 = -1 ∧ v = 1000 * valS (cutA s 46)) ∨ (0 ≤ cutI s 46 ∧ Rest3 (cutB s 46) ∧ v = 1000 * valS (cutA s 46) + pad3 (cutB s 46)))
theorem pad3_range {b : ByteArray} (h : AllDig b) : 0 ≤ pad3 b ∧ pad3 b ≤ 999 := by
  have h0 := dg0_range h 0
  have h1 := dg0_range h 1
  have h2 := dg0_range h 2
  unfold pad3
  omega

set_option maxHeartbeats 4000000 in
theorem decimal3_ok (s : ByteArray) (v : Int) (w : World) (hn : s.size ≤ 9223372036854775807) (h : DecT s v) :
    Calls Tryd.prog 41 #[.string s, .int .i64 3] w fun e w' => e = .returned (.tuple #[.int .i64 v, .bool true]) ∧ Below w.heap.size w w' := by
  have CC := Lib.hid (cut_one s 46 w hn)
  have lb := cutB_le s 46
  have hb0 : cutI s 46 = -1 → cutB s 46 = ⟨#[]⟩ := fun e => by unfold cutB; rw [if_neg (by omega)]
  unfold DecT at h
  generalize cutA s 46 = a at *
  generalize cutB s 46 = b at *
  generalize cutI s 46 = i at *
  obtain ⟨h1, hcase⟩ := h
  have CN := Lib.hid (fun W => number_yes a W h1)
  have n9 : valS a < 1000000000 := Nat.lt_of_lt_of_le h1.lt (Nat.pow_le_pow_right (by decide) h1.short)
  clear h1
  obtain ⟨n, hnn⟩ : ∃ n : Int, (valS a : Int) = n := ⟨_, rfl⟩
  have hn9 : 0 ≤ n ∧ n < 1000000000 := by omega
  rw [hnn] at CN hcase
  clear hnn n9
  rcases hcase with ⟨h2, rfl⟩ | ⟨h2, ⟨r0, r3, rd, rl⟩, rfl⟩
  · have hbe := hb0 h2
    subst hbe h2
    clear hb0 lb
    obtain ⟨b, hb⟩ : ∃ b : ByteArray, (⟨#[]⟩ : ByteArray) = b := ⟨_, rfl⟩
    rw [hb] at CC
    have hbs : b.size = 0 := by rw [← hb]; rfl
    have HP := Lib.hid (show AllDig b from fun i hi => by omega)
    have HA := HP
    have HZ := Lib.hid (show (100 * dg0 b 0 + 10 * dg0 b 1 + dg0 b 2 : Int) = 0 by rw [dg0_out b 0 (by omega), dg0_out b 1 (by omega), dg0_out b 2 (by omega)]; rfl)
    clear hb
    go_enter Tryd.func41, Tryd.ntmps41
    go_wp2_with fail
    refine CC.out.mono ?_
    rintro e w1 ⟨rfl, hb1⟩
    have HB1 := Lib.hid hb1
    clear hb1
    go_wp2_with fail
    refine (CN.out _).mono ?_
    rintro e w2 ⟨rfl, hb2⟩
    have HB2 := Lib.hid (bt HB1.out hb2)
    clear hb2
    go_wp2_with fail
    go_loop [9, 48] (fun s9 s48 => ∃ k : Nat, k ≤ 3 ∧ s48 = .int .i64 k ∧ s9 = .int .i64 (padN b n k)) (fun _ s48 => 3 - (intOf s48).toNat)
    case atStart => exact ⟨0, by omega, rfl, rfl⟩
    case round =>
      obtain ⟨k, hk, rfl, rfl⟩ := hrel
      by_cases hk3 : k < 3
      · have hx := padN_range b n HP.out hn9 k (by omega)
        have HS := Lib.hid (padN_succ b n k)
        by_cases hkb : k < b.size
        · omega
        · have HG := Lib.hid (dg0_out b k hkb)
          generalize padN b n k = x at *
          go_wp2
          go_round
          case rel => exact ⟨k + 1, by omega, rfl, by rw [HS.out, HG.out]; go_num⟩
          case measure => show 3 - ((k : Int) + 1).toNat < 3 - (k : Int).toNat; omega
      · have hk' : k = 3 := by omega
        subst hk'
        have HE := Lib.hid (padN_three b n)
        generalize padN b n 3 = x at *
        go_wp2
        go_ret2
        exact ⟨ret_intD (by have := HE.out; have := HZ.out; omega), HB2.out⟩
  · rw [decide_eq_true h2] at CC
    clear hb0 h2
    have HP := Lib.hid rd
    have HA := HP
    have CD := Lib.hid (fun W => digits_yes b W r0 (by omega) rd)
    have hb2 : (((b[b.size - 1].toNat : Nat) : Int) == 48) = false := byte_ne (rl (by omega))
    have HQ := Lib.hid (show pad3 b = 100 * dg0 b 0 + 10 * dg0 b 1 + dg0 b 2 from rfl)
    rw [HQ.out]
    clear rd rl lb HQ
    go_enter Tryd.func41, Tryd.ntmps41
    go_wp2_with fail
    refine CC.out.mono ?_
    rintro e w1 ⟨rfl, hb1⟩
    have HB1 := Lib.hid hb1
    clear hb1
    go_wp2_with fail
    refine (CN.out _).mono ?_
    rintro e w2 ⟨rfl, hb2⟩
    have HB2 := Lib.hid (bt HB1.out hb2)
    clear hb2
    go_wp2_with fail
    refine (CD.out _).mono ?_
    rintro e w3 ⟨rfl, hb3⟩
    have HB3 := Lib.hid (bt HB2.out hb3)
    clear hb3
    go_wp2_with fail
    go_loop [9, 48] (fun s9 s48 => ∃ k : Nat, k ≤ 3 ∧ s48 = .int .i64 k ∧ s9 = .int .i64 (padN b n k)) (fun _ s48 => 3 - (intOf s48).toNat)
    case atStart => exact ⟨0, by omega, rfl, rfl⟩
    case round =>
      obtain ⟨k, hk, rfl, rfl⟩ := hrel
      by_cases hk3 : k < 3
      · have hx := padN_range b n HP.out hn9 k (by omega)
        have HS := Lib.hid (padN_succ b n k)
        by_cases hkb : k < b.size
        · have HG := Lib.hid (dg0_in b k hkb)
          have hdd := dig_int (HA.out k hkb)
          obtain ⟨x1, x2⟩ := hdd
          generalize padN b n k = x at *
          go_wp2
          go_round
          case rel => exact ⟨k + 1, by omega, rfl, by rw [HS.out, HG.out]⟩
          case measure => show 3 - ((k : Int) + 1).toNat < 3 - (k : Int).toNat; omega
        · have HG := Lib.hid (dg0_out b k hkb)
          generalize padN b n k = x at *
          go_wp2
          go_round
          case rel => exact ⟨k + 1, by omega, rfl, by rw [HS.out, HG.out]; go_num⟩
          case measure => show 3 - ((k : Int) + 1).toNat < 3 - (k : Int).toNat; omega
      · have hk' : k = 3 := by omega
        subst hk'
        have HE := Lib.hid (padN_three b n)
        generalize padN b n 3 = x at *
        go_wp2
        go_ret2
        exact ⟨ret_intD HE.out, HB3.out⟩

theorem rest3_cases' (b : ByteArray) : ((¬ (0 < b.size ∧ AllDig b)) ∨ (0 < b.size ∧ AllDig b ∧ 3 < b.size) ∨ (AllDig b ∧ b.size ≤ 3 ∧ ∃ h : 0 < b.size, b[b.size - 1] = 48)) ∨ Rest3 b := by
  by_cases h1 : 0 < b.size ∧ AllDig b
  · obtain ⟨h0, hd⟩ := h1
    by_cases h2 : 3 < b.size
    · exact .inl (.inr (.inl ⟨h0, hd, h2⟩))
    · by_cases h3 : b[b.size - 1] = 48
      · exact .inl (.inr (.inr ⟨hd, by omega, h0, h3⟩))
      · exact .inr ⟨h0, by omega, hd, fun _ => h3⟩
  · exact .inl (.inl h1)

def RestBad3 (b : ByteArray) : Prop := (¬ (0 < b.size ∧ AllDig b)) ∨ (0 < b.size ∧ AllDig b ∧ 3 < b.size) ∨ (AllDig b ∧ b.size ≤ 3 ∧ ∃ h : 0 < b.size, b[b.size - 1] = 48)
theorem rest3_cases (b : ByteArray) : RestBad3 b ∨ Rest3 b := by
  unfold RestBad3
  exact rest3_cases' b

set_option maxHeartbeats 4000000 in
theorem decimal3_bad (s : ByteArray) (w : World) (hn : s.size ≤ 9223372036854775807) (h : ¬ ∃ v, DecT s v) :
    Calls Tryd.prog 41 #[.string s, .int .i64 3] w fun e w' => e = .returned (.tuple #[.int .i64 0, .bool false]) ∧ Below w.heap.size w w' := by
  have CC := Lib.hid (cut_one s 46 w hn)
  have la := cutA_le s 46
  have lb := cutB_le s 46
  have hcase : ¬ NumS (cutA s 46) 9 ∨ (NumS (cutA s 46) 9 ∧ 0 ≤ cutI s 46 ∧ RestBad3 (cutB s 46)) := by
    by_cases h1 : NumS (cutA s 46) 9
    · right
      rcases cutI_lt s 46 with h2 | h2
      · by_cases h3 : 0 ≤ cutI s 46
        · refine ⟨h1, h3, ?_⟩
          rcases rest3_cases (cutB s 46) with h4 | h4
          · exact h4
          · exact absurd ⟨_, h1, .inr ⟨h3, h4, rfl⟩⟩ h
        · exact absurd ⟨_, h1, .inl ⟨by omega, rfl⟩⟩ h
      · exact absurd ⟨_, h1, .inl ⟨h2, rfl⟩⟩ h
    · exact .inl h1
  clear h
  generalize cutA s 46 = a at *
  generalize cutB s 46 = b at *
  generalize cutI s 46 = i at *
  rcases hcase with h1 | ⟨h1, h2, h3⟩
  · have CN := Lib.hid (fun W => number_no a W (by omega) h1)
    clear h1 la lb
    go_enter Tryd.func41, Tryd.ntmps41
    go_wp2_with fail
    refine CC.out.mono ?_
    rintro e w1 ⟨rfl, hb1⟩
    have HB1 := Lib.hid hb1
    clear hb1
    go_wp2_with fail
    refine (CN.out _).mono ?_
    rintro e w2 ⟨rfl, hb2⟩
    have HB2 := Lib.hid (bt HB1.out hb2)
    clear hb2
    go_wp2
    go_ret2
    exact ⟨rfl, HB2.out⟩
  · have CN := Lib.hid (fun W => number_yes a W h1)
    rw [decide_eq_true h2] at CC
    clear h1 la h2
    rcases h3 with h3 | ⟨h3, h4, h5⟩ | ⟨h3, h4, h5, h6⟩
    · have CD := Lib.hid (fun W => digits_no b W (by omega) h3)
      clear h3 lb
      go_enter Tryd.func41, Tryd.ntmps41
      go_wp2_with fail
      refine CC.out.mono ?_
      rintro e w1 ⟨rfl, hb1⟩
      have HB1 := Lib.hid hb1
      clear hb1
      go_wp2_with fail
      refine (CN.out _).mono ?_
      rintro e w2 ⟨rfl, hb2⟩
      have HB2 := Lib.hid (bt HB1.out hb2)
      clear hb2
      go_wp2_with fail
      refine (CD.out _).mono ?_
      rintro e w3 ⟨rfl, hb3⟩
      have HB3 := Lib.hid (bt HB2.out hb3)
      clear hb3
      go_wp2
      go_ret2
      exact ⟨rfl, HB3.out⟩
    · have CD := Lib.hid (fun W => digits_yes b W h3 (by omega) h4)
      clear h3 h4
      go_enter Tryd.func41, Tryd.ntmps41
      go_wp2_with fail
      refine CC.out.mono ?_
      rintro e w1 ⟨rfl, hb1⟩
      have HB1 := Lib.hid hb1
      clear hb1
      go_wp2_with fail
      refine (CN.out _).mono ?_
      rintro e w2 ⟨rfl, hb2⟩
      have HB2 := Lib.hid (bt HB1.out hb2)
      clear hb2
      go_wp2_with fail
      refine (CD.out _).mono ?_
      rintro e w3 ⟨rfl, hb3⟩
      have HB3 := Lib.hid (bt HB2.out hb3)
      clear hb3
      go_wp2
      go_ret2
      exact ⟨rfl, HB3.out⟩
    · have CD := Lib.hid (fun W => digits_yes b W h5 (by omega) h3)
      have hb1 : (((b[b.size - 1].toNat : Nat) : Int) == 48) = true := by rw [h6]; rfl
      clear h3 h6
      go_enter Tryd.func41, Tryd.ntmps41
      go_wp2_with fail
      refine CC.out.mono ?_
      rintro e w1 ⟨rfl, hb1⟩
      have HB1 := Lib.hid hb1
      clear hb1
      go_wp2_with fail
      refine (CN.out _).mono ?_
      rintro e w2 ⟨rfl, hb2⟩
      have HB2 := Lib.hid (bt HB1.out hb2)
      clear hb2
      go_wp2_with fail
      refine (CD.out _).mono ?_
      rintro e w3 ⟨rfl, hb3⟩
      have HB3 := Lib.hid (bt HB2.out hb3)
      clear hb3
      go_wp2
      go_ret2
      exact ⟨rfl, HB3.out⟩

end Go.Proofs.YtdicoggpcobbpaaDoor
