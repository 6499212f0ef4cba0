/- The reference's Number at any text. -/
import Derived.Test.YtppbagllhmeenaaGreatDoorT67M25

namespace Go.Proofs.YtppbagllhmeenaaGreatDoor
open Go.RowKit
open Classical
set_option linter.unusedVariables false
set_option linter.unusedSimpArgs false

set_option maxHeartbeats 4000000 in
theorem rnumber_yes (s : ByteArray) (m : Nat) (w : World) (hm : m ≤ 18) (h : NumS s m) (h48 : ∀ h : 0 < s.size, s[0] ≠ 48) :
    Calls Tryz.prog 54 #[.string s, .int .i64 m] w fun e w' => e = .returned (.tuple #[.int .i64 (valS s), .bool true]) ∧ Below w.heap.size w w' := by
  have CA := Lib.hid (fun W => Tryz.strconv_Atoi s (valS s) (by have := h.short; omega) h.atoi W)
  have h0 := h.pos
  have hs := h.short
  have hl := bytes_some h0
  have hl2 := bytes_some' h0
  have hb1 : (((s[0].toNat : Nat) : Int) == 48) = false := byte_ne (h48 h0)
  have HD := Lib.hid h.dig
  generalize valS s = n at *
  clear h h48
  go_enter Tryz.func54, Tryz.ntmps54
  go_wp2_with fail
  go_loop [28] (fun x => ∃ k : Nat, x = .int .i64 k ∧ k ≤ s.size) (fun x => s.size - (intOf x).toNat)
  case atStart => exact ⟨0, rfl, Nat.zero_le _⟩
  case round =>
    obtain ⟨k, rfl, hk⟩ := hrel
    by_cases hk2 : k < s.size
    · have HX := Lib.hid (dig_int (HD.out k hk2))
      have x1 := HX.out.1
      have x2 := HX.out.2
      go_wp2
      go_round
      case rel => exact ⟨u4, u5, _, _, ⟨k + 1, rfl, by omega⟩, rfl, rfl, rfl, rfl⟩
      case measure => show s.size - ((k : Int) + 1).toNat < s.size - (k : Int).toNat; omega
    · go_wp2_with fail
      refine (CA.out _).mono ?_
      rintro e w2 ⟨rfl, t, rfl⟩
      have HB2 := Lib.hid (Lib.bytesWorld_below w 5 t)
      generalize Lib.bytesWorld w 5 t = w2 at *
      go_wp2
      go_ret2
      exact ⟨rfl, HB2.out⟩

theorem zero_list {s : ByteArray} (h1 : s.size = 1) (h : ∀ h : 0 < s.size, s[0] = 48) : s.toList = [48] := by
  rw [Lib.toList_data]
  have h1' : s.data.toList.length = 1 := by rw [← Lib.size_eq]; exact h1
  match hc : s.data.toList, h1' with
  | [a], _ =>
    have e : s.data = #[a] := by rw [← Array.toArray_toList (xs := s.data), hc]
    have e2 : s.data[0]? = some a := by rw [e]; rfl
    have h0 : 0 < s.size := by omega
    rw [Array.getElem?_eq_getElem (show 0 < s.data.size from h0)] at e2
    have := h h0
    rw [← Option.some.inj e2]
    exact congrArg (fun x => [x]) this

set_option maxHeartbeats 4000000 in
theorem rnumber_0 (s : ByteArray) (m : Nat) (w : World) (hm : m ≤ 18) (h : NumS s m) (h1 : s.size = 1) (h48 : ∀ h : 0 < s.size, s[0] = 48) :
    Calls Tryz.prog 54 #[.string s, .int .i64 m] w fun e w' => e = .returned (.tuple #[.int .i64 (valS s), .bool true]) ∧ Below w.heap.size w w' := by
  have CA := Lib.hid (fun W => Tryz.strconv_Atoi s (valS s) (by have := h.short; omega) h.atoi W)
  have h0 := h.pos
  have hs := h.short
  have hz := zero_list h1 h48
  have hz2 : (s.toList == [48]) = true := by simp [hz]
  have hl := bytes_some h0
  have hl2 := bytes_some' h0
  have hb1 : (((s[0].toNat : Nat) : Int) == 48) = true := by rw [h48 h0]; rfl
  have HD := Lib.hid h.dig
  generalize valS s = n at *
  clear h h48 hz
  go_enter Tryz.func54, Tryz.ntmps54
  go_wp2_with fail
  go_loop [28] (fun x => ∃ k : Nat, x = .int .i64 k ∧ k ≤ s.size) (fun x => s.size - (intOf x).toNat)
  case atStart => exact ⟨0, rfl, Nat.zero_le _⟩
  case round =>
    obtain ⟨k, rfl, hk⟩ := hrel
    by_cases hk2 : k < s.size
    · have HX := Lib.hid (dig_int (HD.out k hk2))
      have x1 := HX.out.1
      have x2 := HX.out.2
      go_wp2
      go_round
      case rel => first | exact ⟨k + 1, rfl, by omega⟩ | exact ⟨u4, u5, _, _, ⟨k + 1, rfl, by omega⟩, rfl, rfl, rfl, rfl⟩
      case measure => show s.size - ((k : Int) + 1).toNat < s.size - (k : Int).toNat; omega
    · go_wp2_with fail
      refine (CA.out _).mono ?_
      rintro e w2 ⟨rfl, t, rfl⟩
      have HB2 := Lib.hid (Lib.bytesWorld_below w 5 t)
      generalize Lib.bytesWorld w 5 t = w2 at *
      go_wp2
      go_ret2
      exact ⟨rfl, HB2.out⟩

theorem rnumber_ok (s : ByteArray) (m : Nat) (w : World) (hm : m ≤ 18) (h : NumS s m) :
    Calls Tryz.prog 54 #[.string s, .int .i64 m] w fun e w' => e = .returned (.tuple #[.int .i64 (valS s), .bool true]) ∧ Below w.heap.size w w' := by
  by_cases h48 : ∀ h : 0 < s.size, s[0] ≠ 48
  · exact rnumber_yes s m w hm h h48
  · have h1 : s.size = 1 := by
      rcases h.head with h1 | h1
      · exact Nat.le_antisymm h1 h.pos
      · exact absurd h1 h48
    exact rnumber_0 s m w hm h h1 (fun h0 => Classical.byContradiction fun hc => h48 fun _ => hc)

set_option maxHeartbeats 4000000 in
theorem rnumber_no (s : ByteArray) (m : Nat) (w : World) (hm : m ≤ 18) (hn : s.size ≤ 9223372036854775807) (h : ¬ NumS s m) :
    Calls Tryz.prog 54 #[.string s, .int .i64 m] w fun e w' => e = .returned (.tuple #[.int .i64 0, .bool false]) ∧ Below w.heap.size w w' := by
  by_cases h0 : 0 < s.size
  · have hl := bytes_some h0
    have hl2 := bytes_some' h0
    by_cases hs : s.size ≤ m
    · by_cases h48 : s[0] = 48
      · have hb1 : (((s[0].toNat : Nat) : Int) == 48) = true := by rw [h48]; rfl
        have h1 : ¬ s.size = 1 := fun h1 => h ⟨h0, hs, fun i hi => by
          have : i = 0 := by omega
          subst this
          rw [h48]; exact ⟨by decide, by decide⟩, .inl (by omega)⟩
        have hz : ¬ s.toList = [48] := fun e => h1 (by
          rw [Lib.toList_data] at e
          rw [Lib.size_eq, e]; rfl)
        have hz2 : (s.toList == [48]) = false := beq_eq_false_iff_ne.2 hz
        clear h h48
        go_enter Tryz.func54, Tryz.ntmps54
        go_wp2
        go_ret2
        exact ⟨rfl, Below.refl _ _⟩
      · have hb1 : (((s[0].toNat : Nat) : Int) == 48) = false := byte_ne h48
        have HN := Lib.hid (show ¬ AllDig s from fun hd => h ⟨h0, hs, hd, .inr fun _ => h48⟩)
        clear h h48
        go_enter Tryz.func54, Tryz.ntmps54
        go_wp2_with fail
        go_loop [28] (fun x => ∃ k : Nat, x = .int .i64 k ∧ k ≤ s.size ∧ Hid (∀ i (h : i < s.size), i < k → IsDig s[i])) (fun x => s.size - (intOf x).toNat)
        case atStart => exact ⟨0, rfl, Nat.zero_le _, fun i _ hi => absurd hi (Nat.not_lt_zero _)⟩
        case round =>
          obtain ⟨k, rfl, hk, HK⟩ := hrel
          by_cases hk2 : k < s.size
          · by_cases hd : IsDig s[k]
            · have HX := Lib.hid (dig_int hd)
              have x1 := HX.out.1
              have x2 := HX.out.2
              have HD := Lib.hid hd
              clear hd
              go_wp2
              go_round
              case rel => exact ⟨u4, u5, _, _, ⟨k + 1, rfl, by omega, fun i hi hik => by
                rcases Nat.lt_or_ge i k with h | h
                · exact HK.out i hi h
                · have : i = k := by omega
                  subst this; exact HD.out⟩, rfl, rfl, rfl, rfl⟩
              case measure => show s.size - ((k : Int) + 1).toNat < s.size - (k : Int).toNat; omega
            · by_cases hlo : (s[k].toNat : Int) < 48
              · clear hd
                go_wp2
                go_ret2
                exact ⟨rfl, Below.refl _ _⟩
              · have hhi : 57 < (s[k].toNat : Int) := by unfold IsDig at hd; omega
                clear hd
                go_wp2
                go_ret2
                exact ⟨rfl, Below.refl _ _⟩
          · exact absurd (fun i hi => HK.out i hi (by omega)) HN.out
    · clear h
      go_enter Tryz.func54, Tryz.ntmps54
      go_wp2
      go_ret2
      exact ⟨rfl, Below.refl _ _⟩
  · have he := nil_of h0
    subst he
    clear h
    go_enter Tryz.func54, Tryz.ntmps54
    go_wp2
    go_ret2
    exact ⟨rfl, Below.refl _ _⟩
end Go.Proofs.YtppbagllhmeenaaGreatDoor
