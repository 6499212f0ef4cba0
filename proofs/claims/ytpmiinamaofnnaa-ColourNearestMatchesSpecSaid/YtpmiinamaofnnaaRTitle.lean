/- The reference's IsTitle at any text. -/
import Derived.Test.YtpmiinamaofnnaaTitle
import Derived.Test.YtpmiinamaofnnaaRLevel
import Derived.Test.YtpmiinamaofnnaaColour
namespace Go.Proofs.Ytpmiinamaofnnaa
open Go.RowKit
set_option linter.unusedVariables false
set_option linter.unusedSimpArgs false

theorem rwithin_1 (n lo hi : Int) (w : World) : Calls Try.prog 27 #[.int .i64 n, .int .i64 lo, .int .i64 hi] w fun e w' => e = .returned (.bool (inB n lo hi)) ∧ w = w' := by
  by_cases h : lo ≤ n ∧ n ≤ hi
  · have : inB n lo hi = true := decide_eq_true h
    rw [this]; exact r1within_yes n lo hi w h
  · have : inB n lo hi = false := decide_eq_false h
    rw [this]; exact r1within_no n lo hi w (by omega)

set_option maxHeartbeats 4000000 in
theorem rtitle_any (s : ByteArray) (w : World) (hn : s.size ≤ 9223372036854775807) :
    Calls Try.prog 33 #[.string s] w fun e w' => e = .returned (.bool (titleB s)) ∧ w = w' := by
  by_cases h0 : 0 < s.size
  rotate_left
  · have HN := Lib.hid (title_no (s := s) (fun h => h0 h.pos))
    have he : s = ⟨#[]⟩ := by
      have : s.size = 0 := by omega
      exact ByteArray.ext (by apply Array.ext <;> simp_all)
    clear hn h0
    subst he
    go_enter Try.func33, Try.ntmps33
    go_wp2
    go_ret
    exact ⟨by rw [HN.out]; rfl, rfl⟩
  have hl := bytes_some h0
  have hl2 := bytes_some' h0
  have hz : ((s.size : Nat) : Int) - 1 = ((s.size - 1 : Nat) : Int) := by omega
  by_cases h60 : s.size ≤ 60
  rotate_left
  · have HN := Lib.hid (title_no (s := s) (fun h => h60 h.short))
    go_enter Try.func33, Try.ntmps33
    go_wp2
    all_goals
      go_ret
      exact ⟨by rw [HN.out]; rfl, rfl⟩
  by_cases hf : s[0] = 32
  · have HN := Lib.hid (title_no (s := s) (fun h => h.fst h0 hf))
    have hf2 : ((s[0].toNat : Nat) : Int) = 32 := by rw [hf]; rfl
    clear hf
    go_enter Try.func33, Try.ntmps33
    go_wp2
    all_goals
      go_ret
      exact ⟨by rw [HN.out]; rfl, rfl⟩
  have hf2 : ¬ ((s[0].toNat : Nat) : Int) = 32 := by
    have := byte_neT.1 hf
    have e : (32 : UInt8).toNat = 32 := rfl
    omega
  by_cases hg : s[s.size - 1] = 32
  · have HN := Lib.hid (title_no (s := s) (fun h => h.lst h0 hg))
    have hg2 : ((s[s.size - 1].toNat : Nat) : Int) = 32 := by rw [hg]; rfl
    clear hf hg
    go_enter Try.func33, Try.ntmps33
    go_wp2
    all_goals
      go_ret
      exact ⟨by rw [HN.out]; rfl, rfl⟩
  have hg2 : ¬ ((s[s.size - 1].toNat : Nat) : Int) = 32 := by
    have := byte_neT.1 hg
    have e : (32 : UInt8).toNat = 32 := rfl
    omega
  have HFG := Lib.hid (And.intro hf hg)
  have hf3 : (((s[0].toNat : Nat) : Int) == 32) = false := by simpa using hf2
  have hg3 : (((s[s.size - 1].toNat : Nat) : Int) == 32) = false := by simpa using hg2
  have h61 : ((60 : Int) < ((s.size : Nat) : Int)) = False := eq_false (by omega)
  clear hf hg
  go_enter Try.func33, Try.ntmps33
  go_wp2_with fail
  go_loop [26] (fun i => ∃ k : Nat, ∃ hk : k ≤ s.size, i = .int .i64 k ∧ Hid (∀ j (hj : j < k), IsPr (s[j]'(by omega)))) (fun i => s.size - (intOf i).toNat)
  case atStart => exact ⟨0, Nat.zero_le _, rfl, Lib.hid (fun j hj => absurd hj (Nat.not_lt_zero j))⟩
  case round =>
    obtain ⟨k, hk, rfl, HK⟩ := hrel
    by_cases hlt : k < s.size
    · by_cases hp : IsPr s[k]
      · have HK2 : Hid (∀ j (hj : j < k + 1), IsPr (s[j]'(by omega))) := fun j hj => by
          by_cases e : j = k
          · subst e; exact hp
          · exact HK.out j (by omega)
        unfold IsPr at hp
        have hp1 : ¬ ((s[k].toNat : Nat) : Int) < 32 := by omega
        have hp2 : ¬ (126 : Int) < ((s[k].toNat : Nat) : Int) := by omega
        clear hp
        go_wp2
        all_goals
          go_round
          case rel => exact ⟨k + 1, by omega, by go_num, HK2⟩
          case measure => simp [intOf]; omega
      · have HN := Lib.hid (title_no (s := s) (fun h => hp (h.pr k hlt)))
        unfold IsPr at hp
        have hp1 : ((s[k].toNat : Nat) : Int) < 32 ∨ (126 : Int) < ((s[k].toNat : Nat) : Int) := by omega
        clear hp
        go_wp2
        all_goals
          first
            | (exfalso; omega)
            | (go_ret; exact ⟨by rw [HN.out]; rfl, rfl⟩)
    · have hkk : k = s.size := by omega
      subst hkk
      have HY := Lib.hid (title_yes ⟨fun i hi => HK.out i hi, h0, h60, fun _ => HFG.out.1, fun _ => HFG.out.2⟩)
      go_wp2
      go_ret
      exact ⟨by rw [HY.out]; rfl, rfl⟩
end Go.Proofs.Ytpmiinamaofnnaa
