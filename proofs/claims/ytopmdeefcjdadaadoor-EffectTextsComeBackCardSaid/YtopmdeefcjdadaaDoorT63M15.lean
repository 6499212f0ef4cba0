/- The reference's Show of levels. -/
import Derived.Test.YtopmdeefcjdadaaDoorT63M07
import Derived.Test.YtopmdeefcjdadaaDoorT63M14

namespace Go.Proofs.YtopmdeefcjdadaaDoor
open Go.RowKit
set_option linter.unusedVariables false
set_option linter.unusedSimpArgs false

theorem pct_only (n p : Int) (h0 : 0 < n) (h1 : n < 65535) (h : rnd (100 * p * 65535) 10000 = n) : rnd (100 * n) 65535 = p ∧ rnd (p * 65535) 100 = n := by
  have h2 := (rnd_iff (n := 100 * p * 65535) (d := 10000) (k := n) (by omega)).1 h
  exact ⟨(rnd_iff (by omega)).2 (by omega), (rnd_iff (by omega)).2 (by omega)⟩
theorem rnd_pct (m : Int) : (m * 65535 + 5000) / 10000 = rnd (m * 65535) 10000 := by unfold rnd; omega

set_option maxHeartbeats 1000000 in
theorem percent_any (m : Int) (w : World) (h0 : 0 ≤ m) (h1 : m ≤ 1000000000000) :
    Calls Tryd.prog 40 #[.int .i64 m] w fun e w' => e = .returned (.int .i64 (rnd (m * 65535) 10000)) ∧ w = w' := by
  have HE := Lib.hid (rnd_pct m)
  have HT := Lib.hid (show (m * 65535 + 5000).tdiv 10000 = (m * 65535 + 5000) / 10000 from Int.tdiv_eq_ediv_of_nonneg (by omega))
  go_enter Tryd.func40, Tryd.ntmps40
  go_wp2
  go_ret
  exact ⟨by rw [← HE.out, ← HT.out]; first | rfl | (rw [HT.out]; rfl), rfl⟩

set_option maxHeartbeats 1000000 in
theorem rshow_no (n : Int) (w : World) (h : n < 0 ∨ 65535 < n) :
    Calls Tryd.prog 31 #[.int .i64 n] w fun e w' => e = .returned (.tuple #[.string ⟨#[]⟩, .int .i64 1]) ∧ w = w' := by
  have CN := Lib.hid (fun W => rIsLevel_no n W h)
  clear h
  go_enter Tryd.func31, Tryd.ntmps31
  go_wp2_with fail
  refine (CN.out _).mono ?_
  rintro e w' ⟨rfl, rfl⟩
  go_wp2
  go_ret2
  exact ⟨rfl, rfl⟩
set_option maxHeartbeats 1000000 in
theorem rshow_out (w : World) :
    Calls Tryd.prog 31 #[.int .i64 0] w fun e w' => e = .returned (.tuple #[.string ⟨#[111, 117, 116]⟩, .int .i64 0]) ∧ w = w' := by
  go_enter Tryd.func31, Tryd.ntmps31
  go_wp2_with fail
  refine (rIsLevel_yes 0 _ ⟨by decide, by decide⟩).mono ?_
  rintro e w' ⟨rfl, rfl⟩
  go_wp2
  go_ret2
  exact ⟨rfl, rfl⟩
set_option maxHeartbeats 1000000 in
theorem rshow_full (w : World) :
    Calls Tryd.prog 31 #[.int .i64 65535] w fun e w' => e = .returned (.tuple #[.string ⟨#[102, 117, 108, 108]⟩, .int .i64 0]) ∧ w = w' := by
  go_enter Tryd.func31, Tryd.ntmps31
  go_wp2_with fail
  refine (rIsLevel_yes 65535 _ ⟨by decide, by decide⟩).mono ?_
  rintro e w' ⟨rfl, rfl⟩
  go_wp2
  go_ret2
  exact ⟨rfl, rfl⟩

set_option maxHeartbeats 4000000 in
theorem rshow_pct (n : Int) (p : Nat) (w : World) (h0 : 0 < n) (h1 : n < 65535) (hp : rnd (100 * n) 65535 = p) (h : rnd (p * 65535) 100 = n) :
    Calls Tryd.prog 31 #[.int .i64 n] w fun e w' => (∃ s : ByteArray, e = .returned (.tuple #[.string s, .int .i64 0]) ∧ s.data.toList = Lib.decDigits p ++ [37]) ∧ Below w.heap.size w w' := by
  have hq := pct_ok n p h0 h1 h hp
  have CL := Lib.hid (fun W => rIsLevel_yes n W ⟨by omega, by omega⟩)
  have CP := Lib.hid (fun (k : Nat) (hk : k ≤ 100) W => percent_any (100 * k) W (by omega) (by omega))
  have HY := Lib.hid (pct_back n p h)
  have HN := Lib.hid (fun (k : Nat) (hk : k ≠ p) (e : rnd (100 * (k : Int) * 65535) 10000 = n) => hk (by have := (pct_only n k h0 h1 e).1; omega))
  have CI := Lib.hid (fun W => show Calls Tryd.prog 15 #[.int .i64 p] W fun e w' => e = .returned (.string (numT p)) ∧ w' = W from Tryd.strconv_Itoa_small p (by omega) W)
  have hlen : (numT p).size ≤ 9 := (numT_numeral p (by omega) (by omega)).short
  have HL := Lib.hid (numT_list p)
  generalize numT p = t at *
  have b1 : (n == 0) = false := by simp; omega
  have b2 : (n == 65535) = false := by simp; omega
  obtain ⟨q1, q2⟩ := hq
  clear h hp
  go_enter Tryd.func31, Tryd.ntmps31
  go_wp2_with fail
  refine (CL.out _).mono ?_
  rintro e w' ⟨rfl, rfl⟩
  go_wp2_with fail
  go_loop [15] (fun x => ∃ k : Nat, x = .int .i64 k ∧ k ≤ p) (fun x => 101 - (intOf x).toNat)
  case atStart => exact ⟨0, rfl, by omega⟩
  case round =>
    obtain ⟨k, rfl, hk⟩ := hrel
    by_cases hkp : k = p
    · subst hkp
      have C := Lib.hid (fun W => CP.out k (by omega) W)
      rw [HY.out] at C
      go_wp2_with fail
      refine (C.out _).mono ?_
      rintro e w' ⟨rfl, rfl⟩
      go_wp2_with fail
      refine (CI.out _).mono ?_
      rintro e w' ⟨rfl, rfl⟩
      go_wp2
      go_ret2
      exact ⟨⟨_, rfl, by simp [HL.out]⟩, Below.refl _ _⟩
    · have C := Lib.hid (fun W => CP.out k (by omega) W)
      have hne := HN.out k hkp
      generalize rnd (100 * (k : Int) * 65535) 10000 = x at *
      have hxb : (x == n) = false := by simpa using hne
      go_wp2_with fail
      refine (C.out _).mono ?_
      rintro e w' ⟨rfl, rfl⟩
      clear hne
      go_wp2
      go_round
      case rel => first | exact ⟨k + 1, rfl, by omega⟩ | exact ⟨_, _, _, _, ⟨k + 1, rfl, by omega⟩, rfl, rfl, rfl, rfl⟩
      case measure => show 101 - ((k : Int) + 1).toNat < 101 - (k : Int).toNat; omega

set_option maxHeartbeats 4000000 in
theorem rshow_hash (n : Int) (w : World) (hT : TextW w) (h0 : 0 < n) (h1 : n < 65535) (h : rnd (rnd (100 * n) 65535 * 65535) 100 ≠ n) :
    Calls Tryd.prog 31 #[.int .i64 n] w fun e w' => (∃ s : ByteArray, e = .returned (.tuple #[.string s, .int .i64 0]) ∧ s.data.toList = 35 :: Lib.decDigits n.toNat) ∧ Below w.heap.size w w' := by
  have CL := Lib.hid (fun W => rIsLevel_yes n W ⟨by omega, by omega⟩)
  have CP := Lib.hid (fun (k : Nat) (hk : k ≤ 100) W => percent_any (100 * k) W (by omega) (by omega))
  have HN := Lib.hid (fun (k : Nat) (e : rnd (100 * (k : Int) * 65535) 10000 = n) => h (by have := pct_only n k h0 h1 e; rw [this.1]; exact this.2))
  have CI := Lib.hid (show Calls Tryd.prog 15 #[.int .i64 n] w fun e w' => e = .returned (.string (numT n.toNat)) ∧ Below w.heap.size w w' from by
    refine (Tryd.strconv_Itoa n (by omega) (by omega) w hT.pow).mono ?_
    rintro e w' ⟨rfl, k, os, rfl⟩
    refine ⟨?_, Lib.below_grow _ w (Nat.le_refl _) k os⟩
    rw [show Lib.itoa n = Lib.decDigits n.toNat by unfold Lib.itoa; rw [if_neg (by omega)]]
    rfl)
  have hlen : (numT n.toNat).size ≤ 9 := (numT_numeral n.toNat (by omega) (by omega)).short
  have HL := Lib.hid (numT_list n.toNat)
  generalize numT n.toNat = t at *
  have b1 : (n == 0) = false := by simp; omega
  have b2 : (n == 65535) = false := by simp; omega
  clear h hT
  go_enter Tryd.func31, Tryd.ntmps31
  go_wp2_with fail
  refine (CL.out _).mono ?_
  rintro e w' ⟨rfl, rfl⟩
  go_wp2_with fail
  go_loop [15] (fun x => ∃ k : Nat, x = .int .i64 k ∧ k ≤ 101) (fun x => 101 - (intOf x).toNat)
  case atStart => exact ⟨0, rfl, by omega⟩
  case round =>
    obtain ⟨k, rfl, hk⟩ := hrel
    by_cases hkp : k < 101
    · have C := Lib.hid (fun W => CP.out k (by omega) W)
      have hne := HN.out k
      generalize rnd (100 * (k : Int) * 65535) 10000 = x at *
      have hxb : (x == n) = false := by simpa using hne
      go_wp2_with fail
      refine (C.out _).mono ?_
      rintro e w' ⟨rfl, rfl⟩
      clear hne
      go_wp2
      go_round
      case rel => first | exact ⟨k + 1, rfl, by omega⟩ | exact ⟨_, _, _, _, ⟨k + 1, rfl, by omega⟩, rfl, rfl, rfl, rfl⟩
      case measure => show 101 - ((k : Int) + 1).toNat < 101 - (k : Int).toNat; omega
    · go_wp2_with fail
      refine CI.out.mono ?_
      rintro e w1 ⟨rfl, hb⟩
      have HB := Lib.hid hb
      clear hb
      go_wp2
      go_ret2
      exact ⟨⟨_, rfl, by simp [HL.out]⟩, HB.out⟩
end Go.Proofs.YtopmdeefcjdadaaDoor
