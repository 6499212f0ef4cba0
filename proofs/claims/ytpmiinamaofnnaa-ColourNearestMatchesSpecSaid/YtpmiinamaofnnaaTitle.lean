/- word.Title at any text. -/
import Derived.Test.YtpmiinamaofnnaaBSome
namespace Go.Proofs.Ytpmiinamaofnnaa
open Go.RowKit
set_option linter.unusedVariables false
set_option linter.unusedSimpArgs false

def IsPr (c : UInt8) : Prop := 32 ≤ c.toNat ∧ c.toNat ≤ 126
instance (c : UInt8) : Decidable (IsPr c) := by unfold IsPr; infer_instance
/-- a title -/
structure TitleOk (s : ByteArray) : Prop where
  pr : ∀ i (h : i < s.size), IsPr s[i]
  pos : 0 < s.size
  short : s.size ≤ 60
  fst : ∀ h : 0 < s.size, s[0] ≠ 32
  lst : ∀ h : 0 < s.size, s[s.size - 1] ≠ 32
instance (s : ByteArray) : Decidable (TitleOk s) :=
  decidable_of_iff ((∀ i (h : i < s.size), IsPr s[i]) ∧ 0 < s.size ∧ s.size ≤ 60 ∧ (∀ h : 0 < s.size, s[0] ≠ 32) ∧ (∀ h : 0 < s.size, s[s.size - 1] ≠ 32))
    ⟨fun ⟨a, b, c, d, e⟩ => ⟨a, b, c, d, e⟩, fun h => ⟨h.pr, h.pos, h.short, h.fst, h.lst⟩⟩
def titleB (s : ByteArray) : Bool := decide (TitleOk s)
theorem title_no {s : ByteArray} (h : ¬ TitleOk s) : titleB s = false := decide_eq_false h
theorem title_yes {s : ByteArray} (h : TitleOk s) : titleB s = true := decide_eq_true h
theorem byte_neT {c d : UInt8} : c ≠ d ↔ c.toNat ≠ d.toNat := by
  constructor
  · intro h e
    apply h
    have h1 : c = UInt8.ofNat c.toNat := by simp
    have h2 : d = UInt8.ofNat d.toNat := by simp
    rw [h1, h2, e]
  · intro h e
    exact h (by rw [e])

set_option maxHeartbeats 4000000 in
theorem title_any (s : ByteArray) (w : World) (hn : s.size ≤ 9223372036854775807) :
    Calls Try.prog 29 #[.string s] w fun e w' => e = .returned (.bool (titleB s)) ∧ w = w' := by
  go_enter Try.func29, Try.ntmps29
  go_wp2_with fail
  go_loop [6] (fun i => ∃ k : Nat, ∃ hk : k ≤ s.size, i = .int .i64 k ∧ Hid (∀ j (hj : j < k), IsPr (s[j]'(by omega)))) (fun i => s.size - (intOf i).toNat)
  case atStart => exact ⟨0, Nat.zero_le _, rfl, Lib.hid (fun j hj => absurd hj (Nat.not_lt_zero j))⟩
  case round =>
    obtain ⟨k, hk, rfl, HK⟩ := hrel
    by_cases hlt : k < s.size
    · by_cases hp : IsPr s[k]
      · have HK2 : Hid (∀ j (hj : j < k + 1), IsPr (s[j]'(by omega))) := fun j hj => by
          by_cases e : j = k
          · subst e; exact hp
          · exact HK.out j (by omega)
        unfold IsPr at hp
        have hp1 : ¬ ((s[k].toNat : Nat) : Int) < 32 := by omega
        have hp2 : ¬ (126 : Int) < ((s[k].toNat : Nat) : Int) := by omega
        clear hp
        go_wp2
        all_goals
          go_round
          case rel => exact ⟨k + 1, by omega, by go_num, HK2⟩
          case measure => simp [intOf]; omega
      · have HN := Lib.hid (title_no (s := s) (fun h => hp (h.pr k hlt)))
        unfold IsPr at hp
        have hp1 : ((s[k].toNat : Nat) : Int) < 32 ∨ (126 : Int) < ((s[k].toNat : Nat) : Int) := by omega
        clear hp
        go_wp2
        all_goals
          first
            | (exfalso; omega)
            | (go_ret; exact ⟨by rw [HN.out]; rfl, rfl⟩)
    · have hkk : k = s.size := by omega
      subst hkk
      by_cases h0 : 0 < s.size
      · have hl := bytes_some h0
        have hl2 := bytes_some' h0
        by_cases h60 : s.size ≤ 60
        · by_cases hf : s[0] = 32
          · have HN := Lib.hid (title_no (s := s) (fun h => h.fst h0 hf))
            have hf2 : ((s[0].toNat : Nat) : Int) = 32 := by rw [hf]; rfl
            clear hf
            go_wp2
            go_ret
            exact ⟨by rw [HN.out]; simp [hl2], rfl⟩
          · have hf2 : ¬ ((s[0].toNat : Nat) : Int) = 32 := by
              have := byte_neT.1 hf
              have e : (32 : UInt8).toNat = 32 := rfl
              omega
            by_cases hg : s[s.size - 1] = 32
            · have HN := Lib.hid (title_no (s := s) (fun h => h.lst h0 hg))
              have hg2 : ((s[s.size - 1].toNat : Nat) : Int) = 32 := by rw [hg]; rfl
              clear hf hg
              go_wp2
              all_goals
                go_ret
                exact ⟨by rw [HN.out]; simp [hl2, hf2, hg2], rfl⟩
            · have HY := Lib.hid (title_yes ⟨fun i hi => HK.out i hi, h0, h60, fun _ => hf, fun _ => hg⟩)
              have hg2 : ¬ ((s[s.size - 1].toNat : Nat) : Int) = 32 := by
                have := byte_neT.1 hg
                have e : (32 : UInt8).toNat = 32 := rfl
                omega
              clear hf hg
              go_wp2
              all_goals
                go_ret
                exact ⟨by rw [HY.out]; simp [hl2, hf2, hg2], rfl⟩
        · have HN := Lib.hid (title_no (s := s) (fun h => h60 h.short))
          go_wp2
          all_goals
            go_ret
            exact ⟨by rw [HN.out]; simp [hl2], rfl⟩
      · have HN := Lib.hid (title_no (s := s) (fun h => h0 h.pos))
        have he : s = ⟨#[]⟩ := by
          have : s.size = 0 := by omega
          exact ByteArray.ext (by apply Array.ext <;> simp_all)
        clear hlt hk HK hn
        subst he
        go_wp2
        all_goals
          go_ret
          exact ⟨by rw [HN.out]; rfl, rfl⟩
end Go.Proofs.Ytpmiinamaofnnaa
