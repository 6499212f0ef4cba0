/- The reference's hex: the value of a row of hex digits, or none. (printed by wip/gen/gen_colref.py) -/
import Derived.Test.YtljgpiaihahneaaGreatDoorT65M12
import Derived.Test.YtljgpiaihahneaaGreatDoorT65M13

namespace Go.Proofs.YtljgpiaihahneaaGreatDoor
open Go.RowKit
set_option linter.unusedVariables false
set_option linter.unusedSimpArgs false

def hex16 : List UInt8 := [48, 49, 50, 51, 52, 53, 54, 55, 56, 57, 97, 98, 99, 100, 101, 102]
def idx16 (n : Nat) : Int := if 48 ≤ n ∧ n ≤ 57 then ((n - 48 : Nat) : Int) else if 97 ≤ n ∧ n ≤ 102 then ((n - 87 : Nat) : Int) else -1
theorem idx16_all : ∀ n < 256, Lib.indexByte hex16 (UInt8.ofNat n) = idx16 n := by decide +kernel
theorem callIdx (c : UInt8) (W : World) : Calls Tryz.prog 88 #[.string ⟨#[48, 49, 50, 51, 52, 53, 54, 55, 56, 57, 97, 98, 99, 100, 101, 102]⟩, .int .u8 (c.toNat : Int)] W fun e w' => e = .returned (.int .i64 (idx16 c.toNat)) ∧ W = w' := by
  refine (Tryz.strings_IndexByte ⟨#[48, 49, 50, 51, 52, 53, 54, 55, 56, 57, 97, 98, 99, 100, 101, 102]⟩ (c.toNat : Int) W).mono ?_
  rintro e w' ⟨rfl, rfl⟩
  have h := idx16_all c.toNat c.toNat_lt
  have e : ((c.toNat : Int)).toNat.toUInt8 = UInt8.ofNat c.toNat := by simp
  refine ⟨?_, rfl⟩
  rw [← h, e]
  rfl

theorem allHex_take {s : ByteArray} {k : Nat} (h : k < s.size) (h1 : ∀ i (hi : i < k), IsHex (s[i]'(by omega))) (h2 : IsHex s[k]) : ∀ i (hi : i < k + 1), IsHex (s[i]'(by omega)) := by
  intro i hi
  by_cases e : i = k
  · subst e; exact h2
  · exact h1 i (by omega)

set_option maxHeartbeats 8000000 in
set_option maxRecDepth 100000 in
theorem rhex_any (s : ByteArray) (w : World) (h4 : s.size ≤ 4) :
    Calls Tryz.prog 65 #[.string s] w fun e w' => e = .returned (.tuple #[.int .i64 (if AllHex s then (hexS s : Int) else 0), .bool (decide (AllHex s))]) ∧ w = w' := by
  have hl : s.data.toList.length = s.size := by rw [Array.length_toList]; rfl
  have HYES := Lib.hid (fun (h : AllHex s) => show (if AllHex s then (hexS s : Int) else 0) = hexL (s.data.toList.take s.size) ∧ decide (AllHex s) = true from ⟨by rw [if_pos h, ← hl, List.take_length]; rfl, decide_eq_true h⟩)
  have HNO := Lib.hid (fun (h : ¬ AllHex s) => show (if AllHex s then (hexS s : Int) else 0) = 0 ∧ decide (AllHex s) = false from ⟨if_neg h, decide_eq_false h⟩)
  have HHX := Lib.hid (show (∀ i (hi : i < s.size), IsHex s[i]) → AllHex s from fun h => h)
  have HHN := Lib.hid (show AllHex s → ∀ i (hi : i < s.size), IsHex s[i] from fun h => h)
  generalize (if AllHex s then (hexS s : Int) else 0) = vv at *
  generalize decide (AllHex s) = bb at *
  generalize AllHex s = AA at *
  go_enter Tryz.func65, Tryz.ntmps65
  go_wp2_with fail
  go_loop [4, 9] (fun n i => ∃ k : Nat, ∃ hk : k ≤ s.size, i = .int .i64 k ∧ n = .int .i64 (hexL (s.data.toList.take k) : Nat) ∧ Hid (∀ j (hj : j < k), IsHex (s[j]'(by omega)))) (fun _ i => s.size - (intOf i).toNat)
  case atStart => exact ⟨0, Nat.zero_le _, rfl, rfl, Lib.hid (fun j hj => absurd hj (Nat.not_lt_zero j))⟩
  case round =>
    obtain ⟨k, hk, rfl, rfl, HK⟩ := hrel
    by_cases hlt : k < s.size
    · have hkl : k < s.data.toList.length := by omega
      have HT := Lib.hid (hexL_take s.data.toList k hkl)
      have HA := Lib.hid (fun (h2 : IsHex s[k]) => allHex_take hlt HK.out h2)
      have HF := Lib.hid (fun (h2 : ¬ IsHex s[k]) => (show ¬ AA from fun h => h2 (HHN.out h k hlt)))
      have hgl : s.data.toList[k] = s[k] := by simp; rfl
      have hb : hexL (s.data.toList.take k) < 4096 := by
        have : ∀ m ≤ k, hexL (s.data.toList.take m) < 16 ^ m := by
          intro m
          induction m with
          | zero => intro _; simp [hexL]
          | succ m ih =>
            intro hm
            have hml : m < s.data.toList.length := by omega
            rw [hexL_take _ m hml, Nat.pow_succ]
            have := ih (by omega)
            have hv := hexV_lt (HK.out m (by omega))
            have : s.data.toList[m] = s[m] := by simp; rfl
            rw [this]
            omega
        have h1 := this k (Nat.le_refl _)
        have : 16 ^ k ≤ 16 ^ 3 := Nat.pow_le_pow_right (by decide) (by omega)
        omega
      rw [hgl] at HT
      have CI := Lib.hid (fun W => callIdx s[k] W)
      have hc9 := s[k].toNat_lt
      by_cases hx : IsHex s[k]
      · have HA2 := Lib.hid (HA.out hx)
        have hv := hexV_lt hx
        have HV := Lib.hid (show hexV s[k] = if s[k].toNat ≤ 57 then s[k].toNat - 48 else if s[k].toNat ≤ 70 then s[k].toNat - 55 else s[k].toNat - 87 from rfl)
        unfold IsHex at hx
        generalize hexV s[k] = v at *
        obtain ⟨x, hxe⟩ : ∃ x, s[k].toNat = x := ⟨_, rfl⟩
        rw [hxe] at hx HV CI hc9
        generalize hexL (s.data.toList.take k) = n at *
        clear HA HF hgl
        by_cases hu : 65 ≤ x ∧ x ≤ 70
        · have hxx : x = v + 55 := by
            have a1 : ¬ x ≤ 57 := by omega
            have hv := HV.out
            simp only [a1, hu.2, if_false, if_true] at hv
            omega
          have hi : idx16 x = -1 := by
            unfold idx16
            rw [if_neg (by omega), if_neg (by omega)]
          rw [hi] at CI
          clear HV hi hx
          subst hxx
          go_wp2_with fail
          refine (CI.out _).mono ?_
          rintro e w' ⟨rfl, rfl⟩
          go_wp2
          go_round
          case rel => exact ⟨k + 1, by omega, by go_num, by rw [HT.out]; go_num, HA2⟩
          case measure => simp [intOf]; omega
        · have hi : idx16 x = v := by
            unfold idx16
            have hv := HV.out
            rcases Nat.lt_or_ge 57 x with a1 | a1
            · have b1 : ¬ x ≤ 57 := by omega
              have b2 : ¬ x ≤ 70 := by omega
              simp only [b1, b2, if_false] at hv
              rw [if_neg (by omega), if_pos (by omega)]
              omega
            · simp only [a1, if_true] at hv
              rw [if_pos (by omega)]
              omega
          rw [hi] at CI
          have hu' : ¬ ((65 : Int) ≤ x ∧ (x : Int) ≤ 70) := by omega
          clear HV hi hx hu
          go_wp2_with fail
          refine (CI.out _).mono ?_
          rintro e w' ⟨rfl, rfl⟩
          go_wp2
          all_goals
            go_round
            case rel => exact ⟨k + 1, by omega, by go_num, by rw [HT.out]; go_num, HA2⟩
            case measure => simp [intOf]; omega
      · have HN := Lib.hid (HNO.out (HF.out hx))
        unfold IsHex at hx
        obtain ⟨x, hxe⟩ : ∃ x, s[k].toNat = x := ⟨_, rfl⟩
        rw [hxe] at hx CI hc9
        have hi : idx16 x = -1 := by
          unfold idx16
          rw [if_neg (by omega), if_neg (by omega)]
        rw [hi] at CI
        have hu' : ¬ ((65 : Int) ≤ x ∧ (x : Int) ≤ 70) := by omega
        clear hi hx HA HF
        go_wp2_with fail
        refine (CI.out _).mono ?_
        rintro e w' ⟨rfl, rfl⟩
        go_wp2
        all_goals
          go_ret2
          exact ⟨by rw [HN.out.1, HN.out.2]; rfl, rfl⟩
    · have hkk : k = s.size := by omega
      subst hkk
      have HY := Lib.hid (HYES.out (HHX.out (fun i hi => HK.out i hi)))
      go_wp2
      go_ret2
      exact ⟨by rw [HY.out.1, HY.out.2]; rfl, rfl⟩
end Go.Proofs.YtljgpiaihahneaaGreatDoor
