/- Texts of levels: Show and Read at the texts that Show writes. The reference's Within and IsLevel (cut out of XRMix, for seats without fractions). -/
import Derived.Test.YtabalicembhjmaaDoorT37M04
import Derived.Test.YtabalicembhjmaaDoorT37M03
import Derived.Test.YtabalicembhjmaaDoorT37M02

namespace Go.Proofs.YtabalicembhjmaaDoor
open Go.RowKit
set_option linter.unusedVariables false
set_option linter.unusedSimpArgs false

def numT (u : Nat) : ByteArray := ⟨(Lib.decDigits u).toArray⟩
theorem numT_list (u : Nat) : (numT u).data.toList = Lib.decDigits u := by simp [numT]
theorem numT_size (u : Nat) : (numT u).size = (Lib.decDigits u).length := by rw [Lib.size_eq, numT_list]
theorem numT_numeral (u : Nat) (h1 : 1 ≤ u) (h2 : u ≤ 999999999) : Numeral (numT u) u := by
  have hl := dd_len 8 u (by omega)
  refine ⟨by rw [numT_size]; omega, by rw [numT_size]; omega, ?_, ?_, by rw [numT_list]; exact dd_atoi u h1⟩
  · intro i hi
    refine dd_digits u _ ?_
    rw [← numT_list u]
    show (numT u).data[i] ∈ _
    rw [Array.mem_toList_iff]
    exact Array.getElem_mem _
  · right
    intro h
    obtain ⟨b, r, e, hb⟩ := dd_head u h1
    show (numT u).data[0] ≠ 48
    have e2 : (numT u).data = (b :: r).toArray := by rw [← e]; rfl
    have : (numT u).data[0]? = some b := by rw [e2]; rfl
    rw [Array.getElem?_eq_getElem (by exact h)] at this
    rw [Option.some.inj this]
    exact hb

theorem pct_ok (n p : Int) (h0 : 0 < n) (h1 : n < 65535) (h : rnd (p * 65535) 100 = n) (hp : rnd (100 * n) 65535 = p) : 1 ≤ p ∧ p ≤ 99 := by
  have := (rnd_iff (n := p * 65535) (d := 100) (k := n) (by omega)).1 h
  have := (rnd_iff (n := 100 * n) (d := 65535) (k := p) (by omega)).1 hp
  omega
theorem pct_back (n p : Int) (h : rnd (p * 65535) 100 = n) : rnd (100 * p * 65535) 10000 = n := by
  rw [← h]
  exact rnd_congr (by omega) (by omega) (by omega)

set_option maxHeartbeats 1000000 in
theorem show_no (n : Int) (w : World) (h : n < 0 ∨ 65535 < n) :
    Calls Tryd.prog 54 #[.int .i64 n] w fun e w' => (∃ k, e = .returned (.tuple #[.string ⟨#[]⟩, .int .i64 k]) ∧ k ≠ 0) ∧ w = w' := by
  have CN := Lib.hid (fun W => isLevel_no n W h)
  clear h
  go_enter Tryd.func54, Tryd.ntmps54
  go_wp2_with fail
  refine (CN.out _).mono ?_
  rintro e w' ⟨rfl, rfl⟩
  go_wp2
  go_ret2
  exact ⟨⟨_, rfl, by decide⟩, rfl⟩
set_option maxHeartbeats 1000000 in
theorem show_out (w : World) :
    Calls Tryd.prog 54 #[.int .i64 0] w fun e w' => e = .returned (.tuple #[.string ⟨#[111, 117, 116]⟩, .int .i64 0]) ∧ w = w' := by
  go_enter Tryd.func54, Tryd.ntmps54
  go_wp2_with fail
  refine (isLevel_yes 0 _ ⟨by decide, by decide⟩).mono ?_
  rintro e w' ⟨rfl, rfl⟩
  go_wp2
  go_ret2
  exact ⟨rfl, rfl⟩
set_option maxHeartbeats 1000000 in
theorem show_full (w : World) :
    Calls Tryd.prog 54 #[.int .i64 65535] w fun e w' => e = .returned (.tuple #[.string ⟨#[102, 117, 108, 108]⟩, .int .i64 0]) ∧ w = w' := by
  go_enter Tryd.func54, Tryd.ntmps54
  go_wp2_with fail
  refine (isLevel_yes 65535 _ ⟨by decide, by decide⟩).mono ?_
  rintro e w' ⟨rfl, rfl⟩
  go_wp2
  go_ret2
  exact ⟨rfl, rfl⟩

set_option maxHeartbeats 2000000 in
theorem show_pct (n : Int) (p : Nat) (w : World) (h0 : 0 < n) (h1 : n < 65535) (hp : rnd (100 * n) 65535 = p) (h : rnd (p * 65535) 100 = n) :
    Calls Tryd.prog 54 #[.int .i64 n] w fun e w' => (∃ s : ByteArray, e = .returned (.tuple #[.string s, .int .i64 0]) ∧ s.data.toList = Lib.decDigits p ++ [37]) ∧ Below w.heap.size w w' := by
  have hq := pct_ok n p h0 h1 h hp
  have CL := Lib.hid (fun W => isLevel_yes n W ⟨by omega, by omega⟩)
  have C1 := Lib.hid (fun W => round_any (100 * n) 65535 W (by omega) (by omega) (by omega) (by omega))
  have C2 := Lib.hid (fun W => round_any (p * 65535) 100 W (by omega) (by omega) (by omega) (by omega))
  have CI := Lib.hid (fun W => show Calls Tryd.prog 24 #[.int .i64 p] W fun e w' => e = .returned (.string (numT p)) ∧ w' = W from Tryd.strconv_Itoa_small p (by omega) W)
  have hlen : (numT p).size ≤ 9 := (numT_numeral p (by omega) (by omega)).short
  have HN := Lib.hid (numT_list p)
  generalize numT p = t at *
  rw [hp] at C1
  rw [h] at C2
  have b1 : (n == 0) = false := by simp; omega
  have b2 : (n == 65535) = false := by simp; omega
  obtain ⟨q1, q2⟩ := hq
  clear h hp
  go_enter Tryd.func54, Tryd.ntmps54
  go_wp2_with fail
  refine (CL.out _).mono ?_
  rintro e w' ⟨rfl, rfl⟩
  go_wp2_with fail
  refine (C1.out _).mono ?_
  rintro e w' ⟨rfl, rfl⟩
  go_wp2_with fail
  refine (C2.out _).mono ?_
  rintro e w' ⟨rfl, rfl⟩
  go_wp2_with fail
  refine (CI.out _).mono ?_
  rintro e w' ⟨rfl, rfl⟩
  go_wp2
  go_ret2
  exact ⟨⟨_, rfl, by simp [HN.out]⟩, Below.refl _ _⟩

set_option maxHeartbeats 2000000 in
theorem show_hash (n : Int) (w : World) (hT : TextW w) (h0 : 0 < n) (h1 : n < 65535) (h : rnd (rnd (100 * n) 65535 * 65535) 100 ≠ n) :
    Calls Tryd.prog 54 #[.int .i64 n] w fun e w' => (∃ s : ByteArray, e = .returned (.tuple #[.string s, .int .i64 0]) ∧ s.data.toList = 35 :: Lib.decDigits n.toNat) ∧ Below w.heap.size w w' := by
  have hr := rnd_range 100 n 65535 (by omega) (by omega) (by omega) (by omega)
  have CL := Lib.hid (fun W => isLevel_yes n W ⟨by omega, by omega⟩)
  have C1 := Lib.hid (fun W => round_any (100 * n) 65535 W (by omega) (by omega) (by omega) (by omega))
  generalize rnd (100 * n) 65535 = p at *
  have C2 := Lib.hid (fun W => round_any (p * 65535) 100 W (by omega) (by omega) (by omega) (by omega))
  generalize rnd (p * 65535) 100 = r at *
  have CI := Lib.hid (show Calls Tryd.prog 24 #[.int .i64 n] w fun e w' => e = .returned (.string (numT n.toNat)) ∧ Below w.heap.size w w' from by
    refine (Tryd.strconv_Itoa n (by omega) (by omega) w hT.pow).mono ?_
    rintro e w' ⟨rfl, k, os, rfl⟩
    refine ⟨?_, Lib.below_grow _ w (Nat.le_refl _) k os⟩
    rw [show Lib.itoa n = Lib.decDigits n.toNat by unfold Lib.itoa; rw [if_neg (by omega)]]
    rfl)
  have b1 : (n == 0) = false := by simp; omega
  have b2 : (n == 65535) = false := by simp; omega
  have b3 : (r == n) = false := by simpa using h
  have hlen : (numT n.toNat).size ≤ 9 := (numT_numeral n.toNat (by omega) (by omega)).short
  have HN := Lib.hid (numT_list n.toNat)
  generalize numT n.toNat = t at *
  obtain ⟨q1, q2⟩ := hr
  clear h hT
  go_enter Tryd.func54, Tryd.ntmps54
  go_wp2_with fail
  refine (CL.out _).mono ?_
  rintro e w' ⟨rfl, rfl⟩
  go_wp2_with fail
  refine (C1.out _).mono ?_
  rintro e w' ⟨rfl, rfl⟩
  go_wp2_with fail
  refine (C2.out _).mono ?_
  rintro e w' ⟨rfl, rfl⟩
  go_wp2_with fail
  refine CI.out.mono ?_
  rintro e w1 ⟨rfl, hb⟩
  have HB := Lib.hid hb
  clear hb
  go_wp2
  go_ret2
  exact ⟨⟨_, rfl, by simp [HN.out]⟩, HB.out⟩
end Go.Proofs.YtabalicembhjmaaDoor

namespace Go.Proofs.YtabalicembhjmaaDoor
open Go.RowKit
set_option linter.unusedVariables false
set_option linter.unusedSimpArgs false

theorem below_drewN {B n : Nat} {a w : World} (h : Below B a w) : Below B a (w.drewN n) := ⟨h.os, h.tape, h.output, h.size, h.block⟩

set_option maxHeartbeats 400000 in
theorem r1within_yes (n lo hi : Int) (w : World) (h : lo ≤ n ∧ n ≤ hi) :
    Calls Tryd.prog 39 #[.int .i64 n, .int .i64 lo, .int .i64 hi] w fun e w' => e = .returned (.bool true) ∧ w = w' := by
  obtain ⟨h1, h2⟩ := h
  have e2 : decide (n ≤ hi) = true := by simpa using h2
  go_enter Tryd.func39, Tryd.ntmps39
  go_wp2
  go_ret
  exact ⟨rfl, rfl⟩
set_option maxHeartbeats 400000 in
theorem r1within_no (n lo hi : Int) (w : World) (h : n < lo ∨ hi < n) :
    Calls Tryd.prog 39 #[.int .i64 n, .int .i64 lo, .int .i64 hi] w fun e w' => e = .returned (.bool false) ∧ w = w' := by
  by_cases h1 : lo ≤ n
  · have e2 : decide (n ≤ hi) = false := by simp; omega
    have h2 : hi < n := by omega
    clear h
    go_enter Tryd.func39, Tryd.ntmps39
    go_wp2
    go_ret
    exact ⟨rfl, rfl⟩
  · have h2 : n < lo := by omega
    clear h
    go_enter Tryd.func39, Tryd.ntmps39
    go_wp2
    go_ret
    exact ⟨rfl, rfl⟩
set_option maxHeartbeats 400000 in
theorem rIsLevel_yes (n : Int) (w : World) (h : 0 ≤ n ∧ n ≤ 65535) :
    Calls Tryd.prog 61 #[.int .i64 n] w fun e w' => e = .returned (.bool true) ∧ w = w' := by
  go_enter Tryd.func61, Tryd.ntmps61
  go_wp2_with (go_at_call 39; refine (r1within_yes _ _ _ _ h).mono ?_; rintro e w' ⟨rfl, rfl⟩)
  go_ret
  exact ⟨rfl, rfl⟩
set_option maxHeartbeats 400000 in
theorem rIsLevel_no (n : Int) (w : World) (h : n < 0 ∨ 65535 < n) :
    Calls Tryd.prog 61 #[.int .i64 n] w fun e w' => e = .returned (.bool false) ∧ w = w' := by
  go_enter Tryd.func61, Tryd.ntmps61
  go_wp2_with (go_at_call 39; refine (r1within_no _ _ _ _ h).mono ?_; rintro e w' ⟨rfl, rfl⟩)
  go_ret
  exact ⟨rfl, rfl⟩
end Go.Proofs.YtabalicembhjmaaDoor
