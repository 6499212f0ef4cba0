/- Texts of levels: Show and Read at the texts that Show writes. Texts of levels: Read at the texts that Show writes. The reference's Within and IsLevel (cut out of XRMix, for seats without fractions). The reference's Show of levels. -/
import Derived.Test.YtppbagllhmeenaaGreatDoorT68M04
import Derived.Test.YtppbagllhmeenaaGreatDoorT68M02
import Derived.Test.YtppbagllhmeenaaGreatDoorT68M01

namespace Go.Proofs.YtppbagllhmeenaaGreatDoor
open Go.RowKit
set_option linter.unusedVariables false
set_option linter.unusedSimpArgs false

def numT (u : Nat) : ByteArray := ⟨(Lib.decDigits u).toArray⟩
theorem numT_list (u : Nat) : (numT u).data.toList = Lib.decDigits u := by simp [numT]
theorem numT_size (u : Nat) : (numT u).size = (Lib.decDigits u).length := by rw [Lib.size_eq, numT_list]
theorem numT_numeral (u : Nat) (h1 : 1 ≤ u) (h2 : u ≤ 999999999) : Numeral (numT u) u := by
  have hl := dd_len 8 u (by omega)
  refine ⟨by rw [numT_size]; omega, by rw [numT_size]; omega, ?_, ?_, by rw [numT_list]; exact dd_atoi u h1⟩
  · intro i hi
    refine dd_digits u _ ?_
    rw [← numT_list u]
    show (numT u).data[i] ∈ _
    rw [Array.mem_toList_iff]
    exact Array.getElem_mem _
  · right
    intro h
    obtain ⟨b, r, e, hb⟩ := dd_head u h1
    show (numT u).data[0] ≠ 48
    have e2 : (numT u).data = (b :: r).toArray := by rw [← e]; rfl
    have : (numT u).data[0]? = some b := by rw [e2]; rfl
    rw [Array.getElem?_eq_getElem (by exact h)] at this
    rw [Option.some.inj this]
    exact hb

theorem pct_ok (n p : Int) (h0 : 0 < n) (h1 : n < 65535) (h : rnd (p * 65535) 100 = n) (hp : rnd (100 * n) 65535 = p) : 1 ≤ p ∧ p ≤ 99 := by
  have := (rnd_iff (n := p * 65535) (d := 100) (k := n) (by omega)).1 h
  have := (rnd_iff (n := 100 * n) (d := 65535) (k := p) (by omega)).1 hp
  omega
theorem pct_back (n p : Int) (h : rnd (p * 65535) 100 = n) : rnd (100 * p * 65535) 10000 = n := by
  rw [← h]
  exact rnd_congr (by omega) (by omega) (by omega)

set_option maxHeartbeats 1000000 in
theorem show_no (n : Int) (w : World) (h : n < 0 ∨ 65535 < n) :
    Calls Tryz.prog 60 #[.int .i64 n] w fun e w' => (∃ k, e = .returned (.tuple #[.string ⟨#[]⟩, .int .i64 k]) ∧ k ≠ 0) ∧ w = w' := by
  have CN := Lib.hid (fun W => isLevel_no n W h)
  clear h
  go_enter Tryz.func60, Tryz.ntmps60
  go_wp2_with fail
  refine (CN.out _).mono ?_
  rintro e w' ⟨rfl, rfl⟩
  go_wp2
  go_ret2
  exact ⟨⟨_, rfl, by decide⟩, rfl⟩
set_option maxHeartbeats 1000000 in
theorem show_out (w : World) :
    Calls Tryz.prog 60 #[.int .i64 0] w fun e w' => e = .returned (.tuple #[.string ⟨#[111, 117, 116]⟩, .int .i64 0]) ∧ w = w' := by
  go_enter Tryz.func60, Tryz.ntmps60
  go_wp2_with fail
  refine (isLevel_yes 0 _ ⟨by decide, by decide⟩).mono ?_
  rintro e w' ⟨rfl, rfl⟩
  go_wp2
  go_ret2
  exact ⟨rfl, rfl⟩
set_option maxHeartbeats 1000000 in
theorem show_full (w : World) :
    Calls Tryz.prog 60 #[.int .i64 65535] w fun e w' => e = .returned (.tuple #[.string ⟨#[102, 117, 108, 108]⟩, .int .i64 0]) ∧ w = w' := by
  go_enter Tryz.func60, Tryz.ntmps60
  go_wp2_with fail
  refine (isLevel_yes 65535 _ ⟨by decide, by decide⟩).mono ?_
  rintro e w' ⟨rfl, rfl⟩
  go_wp2
  go_ret2
  exact ⟨rfl, rfl⟩

set_option maxHeartbeats 2000000 in
theorem show_pct (n : Int) (p : Nat) (w : World) (h0 : 0 < n) (h1 : n < 65535) (hp : rnd (100 * n) 65535 = p) (h : rnd (p * 65535) 100 = n) :
    Calls Tryz.prog 60 #[.int .i64 n] w fun e w' => (∃ s : ByteArray, e = .returned (.tuple #[.string s, .int .i64 0]) ∧ s.data.toList = Lib.decDigits p ++ [37]) ∧ Below w.heap.size w w' := by
  have hq := pct_ok n p h0 h1 h hp
  have CL := Lib.hid (fun W => isLevel_yes n W ⟨by omega, by omega⟩)
  have C1 := Lib.hid (fun W => round_any (100 * n) 65535 W (by omega) (by omega) (by omega) (by omega))
  have C2 := Lib.hid (fun W => round_any (p * 65535) 100 W (by omega) (by omega) (by omega) (by omega))
  have CI := Lib.hid (fun W => show Calls Tryz.prog 31 #[.int .i64 p] W fun e w' => e = .returned (.string (numT p)) ∧ w' = W from Tryz.strconv_Itoa_small p (by omega) W)
  have hlen : (numT p).size ≤ 9 := (numT_numeral p (by omega) (by omega)).short
  have HN := Lib.hid (numT_list p)
  generalize numT p = t at *
  rw [hp] at C1
  rw [h] at C2
  have b1 : (n == 0) = false := by simp; omega
  have b2 : (n == 65535) = false := by simp; omega
  obtain ⟨q1, q2⟩ := hq
  clear h hp
  go_enter Tryz.func60, Tryz.ntmps60
  go_wp2_with fail
  refine (CL.out _).mono ?_
  rintro e w' ⟨rfl, rfl⟩
  go_wp2_with fail
  refine (C1.out _).mono ?_
  rintro e w' ⟨rfl, rfl⟩
  go_wp2_with fail
  refine (C2.out _).mono ?_
  rintro e w' ⟨rfl, rfl⟩
  go_wp2_with fail
  refine (CI.out _).mono ?_
  rintro e w' ⟨rfl, rfl⟩
  go_wp2
  go_ret2
  exact ⟨⟨_, rfl, by simp [HN.out]⟩, Below.refl _ _⟩

set_option maxHeartbeats 2000000 in
theorem show_hash (n : Int) (w : World) (hT : TextW w) (h0 : 0 < n) (h1 : n < 65535) (h : rnd (rnd (100 * n) 65535 * 65535) 100 ≠ n) :
    Calls Tryz.prog 60 #[.int .i64 n] w fun e w' => (∃ s : ByteArray, e = .returned (.tuple #[.string s, .int .i64 0]) ∧ s.data.toList = 35 :: Lib.decDigits n.toNat) ∧ Below w.heap.size w w' := by
  have hr := rnd_range 100 n 65535 (by omega) (by omega) (by omega) (by omega)
  have CL := Lib.hid (fun W => isLevel_yes n W ⟨by omega, by omega⟩)
  have C1 := Lib.hid (fun W => round_any (100 * n) 65535 W (by omega) (by omega) (by omega) (by omega))
  generalize rnd (100 * n) 65535 = p at *
  have C2 := Lib.hid (fun W => round_any (p * 65535) 100 W (by omega) (by omega) (by omega) (by omega))
  generalize rnd (p * 65535) 100 = r at *
  have CI := Lib.hid (show Calls Tryz.prog 31 #[.int .i64 n] w fun e w' => e = .returned (.string (numT n.toNat)) ∧ Below w.heap.size w w' from by
    refine (Tryz.strconv_Itoa n (by omega) (by omega) w hT.pow).mono ?_
    rintro e w' ⟨rfl, k, os, rfl⟩
    refine ⟨?_, Lib.below_grow _ w (Nat.le_refl _) k os⟩
    rw [show Lib.itoa n = Lib.decDigits n.toNat by unfold Lib.itoa; rw [if_neg (by omega)]]
    rfl)
  have b1 : (n == 0) = false := by simp; omega
  have b2 : (n == 65535) = false := by simp; omega
  have b3 : (r == n) = false := by simpa using h
  have hlen : (numT n.toNat).size ≤ 9 := (numT_numeral n.toNat (by omega) (by omega)).short
  have HN := Lib.hid (numT_list n.toNat)
  generalize numT n.toNat = t at *
  obtain ⟨q1, q2⟩ := hr
  clear h hT
  go_enter Tryz.func60, Tryz.ntmps60
  go_wp2_with fail
  refine (CL.out _).mono ?_
  rintro e w' ⟨rfl, rfl⟩
  go_wp2_with fail
  refine (C1.out _).mono ?_
  rintro e w' ⟨rfl, rfl⟩
  go_wp2_with fail
  refine (C2.out _).mono ?_
  rintro e w' ⟨rfl, rfl⟩
  go_wp2_with fail
  refine CI.out.mono ?_
  rintro e w1 ⟨rfl, hb⟩
  have HB := Lib.hid hb
  clear hb
  go_wp2
  go_ret2
  exact ⟨⟨_, rfl, by simp [HN.out]⟩, HB.out⟩
end Go.Proofs.YtppbagllhmeenaaGreatDoor

namespace Go.Proofs.YtppbagllhmeenaaGreatDoor
open Go.RowKit
set_option linter.unusedVariables false
set_option linter.unusedSimpArgs false

set_option maxHeartbeats 1000000 in
theorem read_out (w : World) :
    Calls Tryz.prog 62 #[.string ⟨#[111, 117, 116]⟩] w fun e w' => e = .returned (.tuple #[.int .i64 0, .int .i64 0]) ∧ w = w' := by
  go_enter Tryz.func62, Tryz.ntmps62
  go_wp2
  go_ret2
  exact ⟨rfl, rfl⟩
set_option maxHeartbeats 1000000 in
theorem read_full (w : World) :
    Calls Tryz.prog 62 #[.string ⟨#[102, 117, 108, 108]⟩] w fun e w' => e = .returned (.tuple #[.int .i64 65535, .int .i64 0]) ∧ w = w' := by
  go_enter Tryz.func62, Tryz.ntmps62
  go_wp2
  go_ret2
  exact ⟨rfl, rfl⟩

theorem bytes_eq {s t : ByteArray} (h : s.data.toList = t.data.toList) : s = t := by
  apply ByteArray.ext
  exact Array.toList_inj.1 h

set_option maxHeartbeats 2000000 in
theorem read_hash (s : ByteArray) (n : Nat) (w : World) (h0 : 1 ≤ n) (h1 : n ≤ 65535) (hs : s.data.toList = 35 :: Lib.decDigits n) :
    Calls Tryz.prog 62 #[.string s] w fun e w' => e = .returned (.tuple #[.int .i64 n, .int .i64 0]) ∧ Below w.heap.size w w' := by
  have CN := Lib.hid (fun W => number_all (numT n) n W (numT_numeral n (by omega) (by omega)))
  have CL := Lib.hid (fun W => isLevel_yes n W ⟨by omega, by omega⟩)
  have CP := Lib.hid (fun W => show Calls Tryz.prog 85 #[.string s, .string ⟨#[35]⟩] W fun e w' => e = .returned (.tuple #[.string (numT n), .bool true]) ∧ w' = W from by
    refine (Tryz.strings_CutPrefix s ⟨#[35]⟩ W).mono ?_
    rintro e w' ⟨rfl, rfl⟩
    have hp : Lib.hasPrefix s.data.toList [35] = true := by rw [hs]; rfl
    refine ⟨?_, rfl⟩
    rw [show (⟨#[35]⟩ : ByteArray).data.toList = [35] from rfl]
    unfold Lib.trimPrefix
    rw [hp, if_pos rfl, hs]
    rfl)
  have e1 : ¬ s.toList = [111, 117, 116] := by rw [Lib.toList_data, hs]; intro e; cases e
  have e2 : ¬ s.toList = [102, 117, 108, 108] := by rw [Lib.toList_data, hs]; intro e; cases e
  have f1 : (s.toList == [111, 117, 116]) = false := beq_eq_false_iff_ne.2 e1
  have f2 : (s.toList == [102, 117, 108, 108]) = false := beq_eq_false_iff_ne.2 e2
  generalize numT n = t at *
  clear hs
  go_enter Tryz.func62, Tryz.ntmps62
  go_wp2_with fail
  refine (CP.out _).mono ?_
  rintro e w' ⟨rfl, rfl⟩
  go_wp2_with fail
  refine (CN.out _).mono ?_
  rintro e w1 ⟨rfl, hb⟩
  have HB := Lib.hid hb
  clear hb
  go_wp2_with fail
  refine (CL.out _).mono ?_
  rintro e w' ⟨rfl, rfl⟩
  go_wp2
  go_ret2
  exact ⟨rfl, HB.out⟩

set_option maxHeartbeats 4000000 in
theorem read_pct (s : ByteArray) (p : Nat) (n : Int) (w : World) (hT : TextW w) (h0 : 1 ≤ p) (h1 : p ≤ 99) (hs : s.data.toList = Lib.decDigits p ++ [37]) (h : rnd ((p : Int) * 65535) 100 = n) :
    Calls Tryz.prog 62 #[.string s] w fun e w' => e = .returned (.tuple #[.int .i64 n, .int .i64 0]) ∧ Below w.heap.size w w' := by
  have CD := Lib.hid (decimal_2 (numT p) p w hT (numT_numeral p (by omega) (by omega)) (by omega) (by omega))
  obtain ⟨b, r, hd, _⟩ := dd_head p h0
  have hb := dd_digits p b (by rw [hd]; simp)
  have CR := Lib.hid (fun W => round_any (100 * p * 65535) 10000 W (by omega) (by omega) (by omega) (by omega))
  rw [pct_back n p h] at CR
  have CP := Lib.hid (fun W => show Calls Tryz.prog 85 #[.string s, .string ⟨#[35]⟩] W fun e w' => (∃ t, e = .returned (.tuple #[.string t, .bool false])) ∧ w' = W from by
    refine (Tryz.strings_CutPrefix s ⟨#[35]⟩ W).mono ?_
    rintro e w' ⟨rfl, rfl⟩
    have hp : Lib.hasPrefix s.data.toList [35] = false := by
      rw [hs, hd]
      have : (35 == b) = false := by rw [beq_eq_false_iff_ne]; exact fun e => dig_ne hb 35 (.inl (by decide)) e.symm
      show List.isPrefixOf [35] ((b :: r) ++ [37]) = false
      simp [List.isPrefixOf, this]
    exact ⟨⟨⟨(Lib.trimPrefix s.data.toList [35]).toArray⟩, by rw [show (⟨#[35]⟩ : ByteArray).data.toList = [35] from rfl, hp]⟩, rfl⟩)
  have CS := Lib.hid (fun W => show Calls Tryz.prog 86 #[.string s, .string ⟨#[37]⟩] W fun e w' => e = .returned (.tuple #[.string (numT p), .bool true]) ∧ w' = W from by
    refine (Tryz.strings_CutSuffix s ⟨#[37]⟩ W (by have := dd_len 8 p (by omega); rw [Lib.size_eq, hs]; simp; omega)).mono ?_
    rintro e w' ⟨rfl, rfl⟩
    have hp : Lib.hasSuffix s.data.toList [37] = true := by
      rw [hs]
      show List.isSuffixOf [37] _ = true
      rw [List.isSuffixOf_iff_suffix]
      exact ⟨_, rfl⟩
    refine ⟨?_, rfl⟩
    rw [show (⟨#[37]⟩ : ByteArray).data.toList = [37] from rfl]
    unfold Lib.trimSuffix
    rw [hp, if_pos rfl, hs]
    have : (Lib.decDigits p ++ [37]).take ((Lib.decDigits p ++ [37]).length - [(37 : UInt8)].length) = Lib.decDigits p := by simp
    rw [this]
    rfl)
  have e1 : ¬ s.toList = [111, 117, 116] := by
    rw [Lib.toList_data, hs]; intro e
    have := congrArg List.reverse e
    simp at this
  have e2 : ¬ s.toList = [102, 117, 108, 108] := by
    rw [Lib.toList_data, hs]; intro e
    have := congrArg List.reverse e
    simp at this
  have f1 : (s.toList == [111, 117, 116]) = false := beq_eq_false_iff_ne.2 e1
  have f2 : (s.toList == [102, 117, 108, 108]) = false := beq_eq_false_iff_ne.2 e2
  have b1 : ¬ (10000 < 100 * (p : Int)) := by omega
  generalize numT p = t at *
  clear hs hd hb h hT
  go_enter Tryz.func62, Tryz.ntmps62
  go_wp2_with fail
  refine (CP.out _).mono ?_
  rintro e w' ⟨⟨t2, rfl⟩, rfl⟩
  go_wp2_with fail
  refine (CS.out _).mono ?_
  rintro e w' ⟨rfl, rfl⟩
  go_wp2_with fail
  refine CD.out.mono ?_
  rintro e w1 ⟨rfl, hb⟩
  have HB := Lib.hid hb
  clear hb
  go_wp2_with fail
  refine (CR.out _).mono ?_
  rintro e w' ⟨rfl, rfl⟩
  go_wp2
  go_ret2
  exact ⟨rfl, HB.out⟩
end Go.Proofs.YtppbagllhmeenaaGreatDoor

namespace Go.Proofs.YtppbagllhmeenaaGreatDoor
open Go.RowKit
set_option linter.unusedVariables false
set_option linter.unusedSimpArgs false

theorem below_drewR {B n : Nat} {a w : World} (h : Below B a w) : Below B a (w.drewN n) := ⟨h.os, h.tape, h.output, h.size, h.block⟩

set_option maxHeartbeats 400000 in
theorem r1within_yes (n lo hi : Int) (w : World) (h : lo ≤ n ∧ n ≤ hi) :
    Calls Tryz.prog 56 #[.int .i64 n, .int .i64 lo, .int .i64 hi] w fun e w' => e = .returned (.bool true) ∧ w = w' := by
  obtain ⟨h1, h2⟩ := h
  have e2 : decide (n ≤ hi) = true := by simpa using h2
  go_enter Tryz.func56, Tryz.ntmps56
  go_wp2
  go_ret
  exact ⟨rfl, rfl⟩
set_option maxHeartbeats 400000 in
theorem r1within_no (n lo hi : Int) (w : World) (h : n < lo ∨ hi < n) :
    Calls Tryz.prog 56 #[.int .i64 n, .int .i64 lo, .int .i64 hi] w fun e w' => e = .returned (.bool false) ∧ w = w' := by
  by_cases h1 : lo ≤ n
  · have e2 : decide (n ≤ hi) = false := by simp; omega
    have h2 : hi < n := by omega
    clear h
    go_enter Tryz.func56, Tryz.ntmps56
    go_wp2
    go_ret
    exact ⟨rfl, rfl⟩
  · have h2 : n < lo := by omega
    clear h
    go_enter Tryz.func56, Tryz.ntmps56
    go_wp2
    go_ret
    exact ⟨rfl, rfl⟩
set_option maxHeartbeats 400000 in
theorem rIsLevel_yes (n : Int) (w : World) (h : 0 ≤ n ∧ n ≤ 65535) :
    Calls Tryz.prog 103 #[.int .i64 n] w fun e w' => e = .returned (.bool true) ∧ w = w' := by
  go_enter Tryz.func103, Tryz.ntmps103
  go_wp2_with (go_at_call 56; refine (r1within_yes _ _ _ _ h).mono ?_; rintro e w' ⟨rfl, rfl⟩)
  go_ret
  exact ⟨rfl, rfl⟩
set_option maxHeartbeats 400000 in
theorem rIsLevel_no (n : Int) (w : World) (h : n < 0 ∨ 65535 < n) :
    Calls Tryz.prog 103 #[.int .i64 n] w fun e w' => e = .returned (.bool false) ∧ w = w' := by
  go_enter Tryz.func103, Tryz.ntmps103
  go_wp2_with (go_at_call 56; refine (r1within_no _ _ _ _ h).mono ?_; rintro e w' ⟨rfl, rfl⟩)
  go_ret
  exact ⟨rfl, rfl⟩
end Go.Proofs.YtppbagllhmeenaaGreatDoor

namespace Go.Proofs.YtppbagllhmeenaaGreatDoor
open Go.RowKit
set_option linter.unusedVariables false
set_option linter.unusedSimpArgs false

theorem pct_only (n p : Int) (h0 : 0 < n) (h1 : n < 65535) (h : rnd (100 * p * 65535) 10000 = n) : rnd (100 * n) 65535 = p ∧ rnd (p * 65535) 100 = n := by
  have h2 := (rnd_iff (n := 100 * p * 65535) (d := 10000) (k := n) (by omega)).1 h
  exact ⟨(rnd_iff (by omega)).2 (by omega), (rnd_iff (by omega)).2 (by omega)⟩
theorem rnd_pct (m : Int) : (m * 65535 + 5000) / 10000 = rnd (m * 65535) 10000 := by unfold rnd; omega

set_option maxHeartbeats 1000000 in
theorem percent_any (m : Int) (w : World) (h0 : 0 ≤ m) (h1 : m ≤ 1000000000000) :
    Calls Tryz.prog 116 #[.int .i64 m] w fun e w' => e = .returned (.int .i64 (rnd (m * 65535) 10000)) ∧ w = w' := by
  have HE := Lib.hid (rnd_pct m)
  have HT := Lib.hid (show (m * 65535 + 5000).tdiv 10000 = (m * 65535 + 5000) / 10000 from Int.tdiv_eq_ediv_of_nonneg (by omega))
  go_enter Tryz.func116, Tryz.ntmps116
  go_wp2
  go_ret
  exact ⟨by rw [← HE.out, ← HT.out]; first | rfl | (rw [HT.out]; rfl), rfl⟩

end Go.Proofs.YtppbagllhmeenaaGreatDoor
