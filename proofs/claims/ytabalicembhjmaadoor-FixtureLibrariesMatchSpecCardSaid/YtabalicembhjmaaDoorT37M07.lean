/- fixture.show of both sides, the groups' words. (printed by wip/gen/gen_fshow.py) -/
import Derived.Test.YtabalicembhjmaaDoorT37M05
import Derived.Test.YtabalicembhjmaaDoorT37M06

namespace Go.Proofs.YtabalicembhjmaaDoor
open Go.RowKit
set_option linter.unusedVariables false
set_option linter.unusedSimpArgs false
/-- the text of a level -/
noncomputable def showT (n : Int) : ByteArray :=
  if n = 0 then ⟨#[111, 117, 116]⟩ else if n = 65535 then ⟨#[102, 117, 108, 108]⟩
  else if rnd (rnd (100 * n) 65535 * 65535) 100 = n then ⟨(Lib.decDigits (rnd (100 * n) 65535).toNat ++ [37]).toArray⟩ else ⟨(35 :: Lib.decDigits n.toNat).toArray⟩
theorem ba_of {a : ByteArray} {l : List UInt8} (h : a.data.toList = l) : a = ⟨l.toArray⟩ := by
  obtain ⟨⟨x⟩⟩ := a
  simp at h
  subst h
  rfl
theorem pct_nat {n : Int} (h0 : 0 < n) (h1 : n < 65535) : rnd (100 * n) 65535 = ((rnd (100 * n) 65535).toNat : Int) ∧ (rnd (100 * n) 65535).toNat ≤ 100 := by
  have h2 : 0 ≤ rnd (100 * n) 65535 ∧ rnd (100 * n) 65535 ≤ 100 := by unfold rnd; omega
  omega
theorem showT_le (n : Int) (h0 : 0 ≤ n) (h1 : n ≤ 65535) : (showT n).size ≤ 6 := by
  unfold showT
  by_cases c0 : n = 0
  · rw [if_pos c0]; decide
  by_cases c1 : n = 65535
  · rw [if_neg c0, if_pos c1]; decide
  by_cases c2 : rnd (rnd (100 * n) 65535 * 65535) 100 = n
  · rw [if_neg c0, if_neg c1, if_pos c2, Lib.size_eq]
    have := (dd_len 2 (rnd (100 * n) 65535).toNat (by have := (pct_nat (n := n) (by omega) (by omega)).2; omega)).2
    simp
    omega
  · rw [if_neg c0, if_neg c1, if_neg c2, Lib.size_eq]
    have := (dd_len 4 n.toNat (by omega)).2
    simp
    omega

set_option maxHeartbeats 400000 in
theorem lshow_any (n : Int) (w : World) (hT : TextW w) (h0 : 0 ≤ n) (h1 : n ≤ 65535) :
    Calls Tryd.prog 54 #[.int .i64 n] w fun e w' => e = .returned (.tuple #[.string (showT n), .int .i64 0]) ∧ Below w.heap.size w w' := by
  unfold showT
  by_cases c0 : n = 0
  · subst c0
    rw [if_pos rfl]
    exact (show_out w).mono fun e w' h => ⟨h.1, by rw [← h.2]; exact Below.refl _ _⟩
  by_cases c1 : n = 65535
  · subst c1
    rw [if_neg (by decide), if_pos rfl]
    exact (show_full w).mono fun e w' h => ⟨h.1, by rw [← h.2]; exact Below.refl _ _⟩
  rw [if_neg c0, if_neg c1]
  by_cases c2 : rnd (rnd (100 * n) 65535 * 65535) 100 = n
  · rw [if_pos c2]
    obtain ⟨p1, _⟩ := pct_nat (n := n) (by omega) (by omega)
    refine (show_pct n (rnd (100 * n) 65535).toNat w (by omega) (by omega) p1 (by rw [← p1]; exact c2)).mono ?_
    rintro e w' ⟨⟨s, rfl, hs⟩, hb⟩
    exact ⟨by rw [ba_of hs], hb⟩
  · rw [if_neg c2]
    refine (show_hash n w hT (by omega) (by omega) c2).mono ?_
    rintro e w' ⟨⟨s, rfl, hs⟩, hb⟩
    exact ⟨by rw [ba_of hs], hb⟩
set_option maxHeartbeats 400000 in
theorem rlshow_any (n : Int) (w : World) (hT : TextW w) (h0 : 0 ≤ n) (h1 : n ≤ 65535) :
    Calls Tryd.prog 72 #[.int .i64 n] w fun e w' => e = .returned (.tuple #[.string (showT n), .int .i64 0]) ∧ Below w.heap.size w w' := by
  unfold showT
  by_cases c0 : n = 0
  · subst c0
    rw [if_pos rfl]
    exact (rshow_out w).mono fun e w' h => ⟨h.1, by rw [← h.2]; exact Below.refl _ _⟩
  by_cases c1 : n = 65535
  · subst c1
    rw [if_neg (by decide), if_pos rfl]
    exact (rshow_full w).mono fun e w' h => ⟨h.1, by rw [← h.2]; exact Below.refl _ _⟩
  rw [if_neg c0, if_neg c1]
  by_cases c2 : rnd (rnd (100 * n) 65535 * 65535) 100 = n
  · rw [if_pos c2]
    obtain ⟨p1, _⟩ := pct_nat (n := n) (by omega) (by omega)
    refine (rshow_pct n (rnd (100 * n) 65535).toNat w (by omega) (by omega) p1 (by rw [← p1]; exact c2)).mono ?_
    rintro e w' ⟨⟨s, rfl, hs⟩, hb⟩
    exact ⟨by rw [ba_of hs], hb⟩
  · rw [if_neg c2]
    refine (rshow_hash n w hT (by omega) (by omega) c2).mono ?_
    rintro e w' ⟨⟨s, rfl, hs⟩, hb⟩
    exact ⟨by rw [ba_of hs], hb⟩

set_option maxHeartbeats 1000000 in
theorem fshow_any (n : Int) (w : World) (hT : TextW w) (h0 : 0 ≤ n) (h1 : n ≤ 65535) :
    Calls Tryd.prog 26 #[.int .i64 n] w fun e w' => e = .returned (.string (showT n)) ∧ Below w.heap.size w w' := by
  have H := Lib.hid (lshow_any n w hT h0 h1)
  generalize showT n = x at *
  clear hT h0 h1
  go_enter Tryd.func26, Tryd.ntmps26
  go_wp2_with fail
  refine H.out.mono ?_
  rintro e w1 ⟨rfl, hb⟩
  have HB := Lib.hid hb
  clear hb
  go_wp2
  go_ret
  exact ⟨rfl, HB.out⟩
set_option maxHeartbeats 1000000 in
theorem rfshow_any (n : Int) (w : World) (hT : TextW w) (h0 : 0 ≤ n) (h1 : n ≤ 65535) :
    Calls Tryd.prog 56 #[.int .i64 n] w fun e w' => e = .returned (.string (showT n)) ∧ Below w.heap.size w w' := by
  have H := Lib.hid (rlshow_any n w hT h0 h1)
  generalize showT n = x at *
  clear hT h0 h1
  go_enter Tryd.func56, Tryd.ntmps56
  go_wp2_with fail
  refine H.out.mono ?_
  rintro e w1 ⟨rfl, hb⟩
  have HB := Lib.hid hb
  clear hb
  go_wp2
  go_ret
  exact ⟨rfl, HB.out⟩

/-- the word of a group -/
def grpT (k : Int) : ByteArray := if k = 1 then ⟨#[105, 110, 116, 101, 110, 115, 105, 116, 121]⟩ else if k = 2 then ⟨#[112, 111, 115, 105, 116, 105, 111, 110]⟩ else if k = 3 then ⟨#[99, 111, 108, 111, 117, 114]⟩ else ⟨#[98, 101, 97, 109]⟩
theorem grpT_le (k : Int) : (grpT k).size ≤ 9 := by
  unfold grpT
  repeat' split
  all_goals decide
set_option maxHeartbeats 1000000 in
theorem groupWord_any (k : Int) (w : World) (h1 : 1 ≤ k) (h7 : k ≤ 4) :
    Calls Tryd.prog 25 #[.int .i64 k] w fun e w' => e = .returned (.string (grpT k)) ∧ w = w' := by
  have hk : k = 1 ∨ k = 2 ∨ k = 3 ∨ k = 4 := by omega
  rcases hk with rfl | rfl | rfl | rfl
  all_goals
    go_enter Tryd.func25, Tryd.ntmps25
    go_wp2
    go_ret
    exact ⟨rfl, rfl⟩
set_option maxHeartbeats 1000000 in
theorem groups_any (w : World) :
    Calls Tryd.prog 55 #[] w fun e w' => e = .returned (.slice (some ⟨w.heap.size, 0, none⟩) 5 5) ∧ Below w.heap.size w w' ∧ (∀ k : Nat, 1 ≤ k → k ≤ 4 → w'.cell? ⟨w.heap.size, k, none⟩ = some (.string (grpT k))) ∧ w.heap.size < w'.heap.size := by
  go_enter Tryd.func55, Tryd.ntmps55
  go_wp2
  go_ret
  refine ⟨rfl, (Below.refl _ _).alloc (Nat.le_refl _) _, ?_, by simp⟩
  intro k h1 h4
  have hk : k = 1 ∨ k = 2 ∨ k = 3 ∨ k = 4 := by omega
  rcases hk with rfl | rfl | rfl | rfl <;> simp [go_sem, grpT]
end Go.Proofs.YtabalicembhjmaaDoor
