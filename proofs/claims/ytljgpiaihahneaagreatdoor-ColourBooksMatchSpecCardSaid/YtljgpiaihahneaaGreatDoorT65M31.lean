/- The reference's Within and IsLevel (cut out of XRMix, for seats without fractions). The reference's Check of colours. (printed by wip/gen/gen_colref.py out of XTones) The reference's IsTitle at any text. -/
import Derived.Test.YtljgpiaihahneaaGreatDoorT65M04
import Derived.Test.YtljgpiaihahneaaGreatDoorT65M03
import Derived.Test.YtljgpiaihahneaaGreatDoorT65M09
import Derived.Test.YtljgpiaihahneaaGreatDoorT65M08

namespace Go.Proofs.YtljgpiaihahneaaGreatDoor
open Go.RowKit
set_option linter.unusedVariables false
set_option linter.unusedSimpArgs false

theorem below_drewR {B n : Nat} {a w : World} (h : Below B a w) : Below B a (w.drewN n) := ⟨h.os, h.tape, h.output, h.size, h.block⟩

set_option maxHeartbeats 400000 in
theorem r1within_yes (n lo hi : Int) (w : World) (h : lo ≤ n ∧ n ≤ hi) :
    Calls Tryz.prog 20 #[.int .i64 n, .int .i64 lo, .int .i64 hi] w fun e w' => e = .returned (.bool true) ∧ w = w' := by
  obtain ⟨h1, h2⟩ := h
  have e2 : decide (n ≤ hi) = true := by simpa using h2
  go_enter Tryz.func20, Tryz.ntmps20
  go_wp2
  go_ret
  exact ⟨rfl, rfl⟩
set_option maxHeartbeats 400000 in
theorem r1within_no (n lo hi : Int) (w : World) (h : n < lo ∨ hi < n) :
    Calls Tryz.prog 20 #[.int .i64 n, .int .i64 lo, .int .i64 hi] w fun e w' => e = .returned (.bool false) ∧ w = w' := by
  by_cases h1 : lo ≤ n
  · have e2 : decide (n ≤ hi) = false := by simp; omega
    have h2 : hi < n := by omega
    clear h
    go_enter Tryz.func20, Tryz.ntmps20
    go_wp2
    go_ret
    exact ⟨rfl, rfl⟩
  · have h2 : n < lo := by omega
    clear h
    go_enter Tryz.func20, Tryz.ntmps20
    go_wp2
    go_ret
    exact ⟨rfl, rfl⟩
set_option maxHeartbeats 400000 in
theorem rIsLevel_yes (n : Int) (w : World) (h : 0 ≤ n ∧ n ≤ 65535) :
    Calls Tryz.prog 36 #[.int .i64 n] w fun e w' => e = .returned (.bool true) ∧ w = w' := by
  go_enter Tryz.func36, Tryz.ntmps36
  go_wp2_with (go_at_call 20; refine (r1within_yes _ _ _ _ h).mono ?_; rintro e w' ⟨rfl, rfl⟩)
  go_ret
  exact ⟨rfl, rfl⟩
set_option maxHeartbeats 400000 in
theorem rIsLevel_no (n : Int) (w : World) (h : n < 0 ∨ 65535 < n) :
    Calls Tryz.prog 36 #[.int .i64 n] w fun e w' => e = .returned (.bool false) ∧ w = w' := by
  go_enter Tryz.func36, Tryz.ntmps36
  go_wp2_with (go_at_call 20; refine (r1within_no _ _ _ _ h).mono ?_; rintro e w' ⟨rfl, rfl⟩)
  go_ret
  exact ⟨rfl, rfl⟩
end Go.Proofs.YtljgpiaihahneaaGreatDoor

namespace Go.Proofs.YtljgpiaihahneaaGreatDoor
open Go.RowKit
set_option linter.unusedVariables false
set_option linter.unusedSimpArgs false
theorem rlev_yes (n : Int) (w : World) (h : LvOkC n) : Calls Tryz.prog 36 #[.int .i64 n] w fun e w' => e = .returned (.bool true) ∧ w = w' := rIsLevel_yes n w h
theorem rlev_no (n : Int) (w : World) (h : ¬ LvOkC n) : Calls Tryz.prog 36 #[.int .i64 n] w fun e w' => e = .returned (.bool false) ∧ w = w' := rIsLevel_no n w (by unfold LvOkC at h; omega)
theorem chk_yes {r g b : Int} (h : LvOkC r ∧ LvOkC g ∧ LvOkC b) : chkC r g b = 0 := if_pos h
theorem chk_no {r g b : Int} (h : ¬ (LvOkC r ∧ LvOkC g ∧ LvOkC b)) : chkC r g b = 1 := if_neg h
theorem pcheck_any (r g b : Int) (w : World) : Calls Tryz.prog 19 #[.agg #[.int .i64 r, .int .i64 g, .int .i64 b]] w fun e w' => e = .returned (.int .i64 (chkC r g b)) ∧ Below w.heap.size w w' :=
  (check_any r g b w).mono fun e w' h => ⟨h.1, by rw [h.2]; exact (Below.refl _ _).alloc (Nat.le_refl _) _⟩

set_option maxHeartbeats 1000000 in
theorem rcheck_any (r g b : Int) (w : World) : Calls Tryz.prog 22 #[.agg #[.int .i64 r, .int .i64 g, .int .i64 b]] w fun e w' => e = .returned (.int .i64 (chkC r g b)) ∧ Below w.heap.size w w' := by
  have hw : Below w.heap.size w (w.alloc (.cells #[.int .i64 r, .int .i64 g, .int .i64 b] 31)) := (Below.refl _ _).alloc (Nat.le_refl _) _
  by_cases hr : LvOkC r
  · by_cases hg : LvOkC g
    · by_cases hb : LvOkC b
      · have HF := Lib.hid (show chkC r g b = 0 from chk_yes (⟨hr, hg, hb⟩))
        have Hr := Lib.hid hr
        have Hg := Lib.hid hg
        have Hb := Lib.hid hb
        clear hr hg hb
        have HW := Lib.hid hw
        clear hw
        go_enter Tryz.func22, Tryz.ntmps22
        go_wp2_with fail
        refine (rlev_yes _ _ Hr.out).mono ?_
        rintro e w' ⟨rfl, rfl⟩
        go_wp2_with fail
        refine (rlev_yes _ _ Hg.out).mono ?_
        rintro e w' ⟨rfl, rfl⟩
        go_wp2_with fail
        refine (rlev_yes _ _ Hb.out).mono ?_
        rintro e w' ⟨rfl, rfl⟩
        go_wp2
        go_ret
        exact ⟨by rw [HF.out]; rfl, HW.out⟩
      · have HF := Lib.hid (show chkC r g b = 1 from chk_no (fun h => hb h.2.2))
        have Hr := Lib.hid hr
        have Hg := Lib.hid hg
        have Hb := Lib.hid hb
        clear hr hg hb
        have HW := Lib.hid hw
        clear hw
        go_enter Tryz.func22, Tryz.ntmps22
        go_wp2_with fail
        refine (rlev_yes _ _ Hr.out).mono ?_
        rintro e w' ⟨rfl, rfl⟩
        go_wp2_with fail
        refine (rlev_yes _ _ Hg.out).mono ?_
        rintro e w' ⟨rfl, rfl⟩
        go_wp2_with fail
        refine (rlev_no _ _ Hb.out).mono ?_
        rintro e w' ⟨rfl, rfl⟩
        go_wp2
        go_ret
        exact ⟨by rw [HF.out]; rfl, HW.out⟩
    · have HF := Lib.hid (show chkC r g b = 1 from chk_no (fun h => hg h.2.1))
      have Hr := Lib.hid hr
      have Hg := Lib.hid hg
      clear hr hg
      have HW := Lib.hid hw
      clear hw
      go_enter Tryz.func22, Tryz.ntmps22
      go_wp2_with fail
      refine (rlev_yes _ _ Hr.out).mono ?_
      rintro e w' ⟨rfl, rfl⟩
      go_wp2_with fail
      refine (rlev_no _ _ Hg.out).mono ?_
      rintro e w' ⟨rfl, rfl⟩
      go_wp2
      go_ret
      exact ⟨by rw [HF.out]; rfl, HW.out⟩
  · have HF := Lib.hid (show chkC r g b = 1 from chk_no (fun h => hr h.1))
    have Hr := Lib.hid hr
    clear hr
    have HW := Lib.hid hw
    clear hw
    go_enter Tryz.func22, Tryz.ntmps22
    go_wp2_with fail
    refine (rlev_no _ _ Hr.out).mono ?_
    rintro e w' ⟨rfl, rfl⟩
    go_wp2
    go_ret
    exact ⟨by rw [HF.out]; rfl, HW.out⟩

end Go.Proofs.YtljgpiaihahneaaGreatDoor

namespace Go.Proofs.YtljgpiaihahneaaGreatDoor
open Go.RowKit
set_option linter.unusedVariables false
set_option linter.unusedSimpArgs false

theorem rwithin_1 (n lo hi : Int) (w : World) : Calls Tryz.prog 20 #[.int .i64 n, .int .i64 lo, .int .i64 hi] w fun e w' => e = .returned (.bool (inB n lo hi)) ∧ w = w' := by
  by_cases h : lo ≤ n ∧ n ≤ hi
  · have : inB n lo hi = true := decide_eq_true h
    rw [this]; exact r1within_yes n lo hi w h
  · have : inB n lo hi = false := decide_eq_false h
    rw [this]; exact r1within_no n lo hi w (by omega)

set_option maxHeartbeats 4000000 in
theorem rtitle_any (s : ByteArray) (w : World) (hn : s.size ≤ 9223372036854775807) :
    Calls Tryz.prog 21 #[.string s] w fun e w' => e = .returned (.bool (titleB s)) ∧ w = w' := by
  by_cases h0 : 0 < s.size
  rotate_left
  · have HN := Lib.hid (title_no (s := s) (fun h => h0 h.pos))
    have he : s = ⟨#[]⟩ := by
      have : s.size = 0 := by omega
      exact ByteArray.ext (by apply Array.ext <;> simp_all)
    clear hn h0
    subst he
    go_enter Tryz.func21, Tryz.ntmps21
    go_wp2
    go_ret
    exact ⟨by rw [HN.out]; rfl, rfl⟩
  have hl := bytes_some h0
  have hl2 := bytes_some' h0
  have hz : ((s.size : Nat) : Int) - 1 = ((s.size - 1 : Nat) : Int) := by omega
  by_cases h60 : s.size ≤ 60
  rotate_left
  · have HN := Lib.hid (title_no (s := s) (fun h => h60 h.short))
    go_enter Tryz.func21, Tryz.ntmps21
    go_wp2
    all_goals
      go_ret
      exact ⟨by rw [HN.out]; rfl, rfl⟩
  by_cases hf : s[0] = 32
  · have HN := Lib.hid (title_no (s := s) (fun h => h.fst h0 hf))
    have hf2 : ((s[0].toNat : Nat) : Int) = 32 := by rw [hf]; rfl
    clear hf
    go_enter Tryz.func21, Tryz.ntmps21
    go_wp2
    all_goals
      go_ret
      exact ⟨by rw [HN.out]; rfl, rfl⟩
  have hf2 : ¬ ((s[0].toNat : Nat) : Int) = 32 := by
    have := byte_neT.1 hf
    have e : (32 : UInt8).toNat = 32 := rfl
    omega
  by_cases hg : s[s.size - 1] = 32
  · have HN := Lib.hid (title_no (s := s) (fun h => h.lst h0 hg))
    have hg2 : ((s[s.size - 1].toNat : Nat) : Int) = 32 := by rw [hg]; rfl
    clear hf hg
    go_enter Tryz.func21, Tryz.ntmps21
    go_wp2
    all_goals
      go_ret
      exact ⟨by rw [HN.out]; rfl, rfl⟩
  have hg2 : ¬ ((s[s.size - 1].toNat : Nat) : Int) = 32 := by
    have := byte_neT.1 hg
    have e : (32 : UInt8).toNat = 32 := rfl
    omega
  have HFG := Lib.hid (And.intro hf hg)
  have hf3 : (((s[0].toNat : Nat) : Int) == 32) = false := by simpa using hf2
  have hg3 : (((s[s.size - 1].toNat : Nat) : Int) == 32) = false := by simpa using hg2
  have h61 : ((60 : Int) < ((s.size : Nat) : Int)) = False := eq_false (by omega)
  clear hf hg
  go_enter Tryz.func21, Tryz.ntmps21
  go_wp2_with fail
  go_loop [26] (fun i => ∃ k : Nat, ∃ hk : k ≤ s.size, i = .int .i64 k ∧ Hid (∀ j (hj : j < k), IsPr (s[j]'(by omega)))) (fun i => s.size - (intOf i).toNat)
  case atStart => exact ⟨0, Nat.zero_le _, rfl, Lib.hid (fun j hj => absurd hj (Nat.not_lt_zero j))⟩
  case round =>
    obtain ⟨k, hk, rfl, HK⟩ := hrel
    by_cases hlt : k < s.size
    · by_cases hp : IsPr s[k]
      · have HK2 : Hid (∀ j (hj : j < k + 1), IsPr (s[j]'(by omega))) := fun j hj => by
          by_cases e : j = k
          · subst e; exact hp
          · exact HK.out j (by omega)
        unfold IsPr at hp
        have hp1 : ¬ ((s[k].toNat : Nat) : Int) < 32 := by omega
        have hp2 : ¬ (126 : Int) < ((s[k].toNat : Nat) : Int) := by omega
        clear hp
        go_wp2
        all_goals
          go_round
          case rel => exact ⟨k + 1, by omega, by go_num, HK2⟩
          case measure => simp [intOf]; omega
      · have HN := Lib.hid (title_no (s := s) (fun h => hp (h.pr k hlt)))
        unfold IsPr at hp
        have hp1 : ((s[k].toNat : Nat) : Int) < 32 ∨ (126 : Int) < ((s[k].toNat : Nat) : Int) := by omega
        clear hp
        go_wp2
        all_goals
          first
            | (exfalso; omega)
            | (go_ret; exact ⟨by rw [HN.out]; rfl, rfl⟩)
    · have hkk : k = s.size := by omega
      subst hkk
      have HY := Lib.hid (title_yes ⟨fun i hi => HK.out i hi, h0, h60, fun _ => HFG.out.1, fun _ => HFG.out.2⟩)
      go_wp2
      go_ret
      exact ⟨by rw [HY.out]; rfl, rfl⟩
end Go.Proofs.YtljgpiaihahneaaGreatDoor
