/- level.decimal with two digits behind the full stop, at any text. The reference's Number at any text. -/
import Derived.Test.YtljgpiaihahneaaGreatDoorT65M24

namespace Go.Proofs.YtljgpiaihahneaaGreatDoor
open Go.RowKit
open Classical
set_option linter.unusedVariables false
set_option linter.unusedSimpArgs false

theorem ret_intD {x y : Int} (h : x = y) : Ending.returned (.tuple #[.int .i64 x, .bool true]) = Ending.returned (.tuple #[.int .i64 y, .bool true]) := by rw [h]
theorem dig_int {b : UInt8} (h : IsDig b) : (48 : Int) ≤ (b.toNat : Int) ∧ (b.toNat : Int) ≤ 57 := by unfold IsDig at h; omega
theorem byte_ne {b c : UInt8} (h : b ≠ c) : (((b.toNat : Nat) : Int) == ((c.toNat : Nat) : Int)) = false := by
  have : b.toNat ≠ c.toNat := fun e => h (UInt8.toNat_inj.1 e)
  simp; omega

/-- the digits behind the full stop stand for hundredths -/
def Rest (b : ByteArray) (v : Int) : Prop :=
  (∃ h : b.size = 1, IsDig b[0] ∧ b[0] ≠ 48 ∧ v = 10 * ((b[0].toNat : Int) - 48)) ∨
  (∃ h : b.size = 2, IsDig b[0] ∧ IsDig b[1] ∧ b[1] ≠ 48 ∧ v = 10 * ((b[0].toNat : Int) - 48) + ((b[1].toNat : Int) - 48))
/-- s is a number of hundredths, its whole part of at most k digits -/
def DecS (k : Nat) (s : ByteArray) (v : Int) : Prop :=
  NumS (cutA s 46) k ∧ ((cutI s 46 = -1 ∧ v = 100 * valS (cutA s 46)) ∨ (0 ≤ cutI s 46 ∧ ∃ r, Rest (cutB s 46) r ∧ v = 100 * valS (cutA s 46) + r))
/-- what stands behind the full stop is wrong -/
def RestBad (b : ByteArray) : Prop := (¬ (0 < b.size ∧ AllDig b)) ∨ (0 < b.size ∧ AllDig b ∧ 2 < b.size) ∨ (AllDig b ∧ b.size ≤ 2 ∧ ∃ h : 0 < b.size, b[b.size - 1] = 48)

theorem rest_cases (b : ByteArray) : RestBad b ∨ ∃ r, Rest b r := by
  by_cases h1 : 0 < b.size ∧ AllDig b
  · obtain ⟨h0, hd⟩ := h1
    by_cases h2 : 2 < b.size
    · exact .inl (.inr (.inl ⟨h0, hd, h2⟩))
    · by_cases h3 : b[b.size - 1] = 48
      · exact .inl (.inr (.inr ⟨hd, by omega, h0, h3⟩))
      · right
        rcases (show b.size = 1 ∨ b.size = 2 by omega) with h | h
        · have e : b[b.size - 1] = b[0] := by congr 1; omega
          rw [e] at h3
          exact ⟨_, .inl ⟨h, hd 0 h0, h3, rfl⟩⟩
        · have e : b[b.size - 1] = b[1] := by congr 1; omega
          rw [e] at h3
          exact ⟨_, .inr ⟨h, hd 0 h0, hd 1 (by omega), h3, rfl⟩⟩
  · exact .inl (.inl h1)
theorem restBad_not {b : ByteArray} (h : RestBad b) : ¬ ∃ r, Rest b r := by
  rintro ⟨r, hr⟩
  rcases hr with ⟨e, d0, n0, _⟩ | ⟨e, d0, d1, n1, _⟩
  · have hd : AllDig b := fun i hi => by
      have : i = 0 := by omega
      subst this; exact d0
    rcases h with h | ⟨_, _, h⟩ | ⟨_, _, h0, h⟩
    · exact h ⟨by omega, hd⟩
    · omega
    · exact n0 (by rw [← h]; congr 1; omega)
  · have hd : AllDig b := fun i hi => by
      rcases (show i = 0 ∨ i = 1 by omega) with rfl | rfl
      · exact d0
      · exact d1
    rcases h with h | ⟨_, _, h⟩ | ⟨_, _, h0, h⟩
    · exact h ⟨by omega, hd⟩
    · omega
    · exact n1 (by rw [← h]; congr 1; omega)

end Go.Proofs.YtljgpiaihahneaaGreatDoor

namespace Go.Proofs.YtljgpiaihahneaaGreatDoor
open Go.RowKit
open Classical
set_option linter.unusedVariables false
set_option linter.unusedSimpArgs false

set_option maxHeartbeats 4000000 in
theorem rnumber_yes (s : ByteArray) (m : Nat) (w : World) (hm : m ≤ 18) (h : NumS s m) (h48 : ∀ h : 0 < s.size, s[0] ≠ 48) :
    Calls Tryz.prog 44 #[.string s, .int .i64 m] w fun e w' => e = .returned (.tuple #[.int .i64 (valS s), .bool true]) ∧ Below w.heap.size w w' := by
  have CA := Lib.hid (fun W => Tryz.strconv_Atoi s (valS s) (by have := h.short; omega) h.atoi W)
  have h0 := h.pos
  have hs := h.short
  have hl := bytes_some h0
  have hl2 := bytes_some' h0
  have hb1 : (((s[0].toNat : Nat) : Int) == 48) = false := byte_ne (h48 h0)
  have HD := Lib.hid h.dig
  generalize valS s = n at *
  clear h h48
  go_enter Tryz.func44, Tryz.ntmps44
  go_wp2_with fail
  go_loop [28] (fun x => ∃ k : Nat, x = .int .i64 k ∧ k ≤ s.size) (fun x => s.size - (intOf x).toNat)
  case atStart => exact ⟨0, rfl, Nat.zero_le _⟩
  case round =>
    obtain ⟨k, rfl, hk⟩ := hrel
    by_cases hk2 : k < s.size
    · have HX := Lib.hid (dig_int (HD.out k hk2))
      have x1 := HX.out.1
      have x2 := HX.out.2
      go_wp2
      go_round
      case rel => exact ⟨u4, u5, _, _, ⟨k + 1, rfl, by omega⟩, rfl, rfl, rfl, rfl⟩
      case measure => show s.size - ((k : Int) + 1).toNat < s.size - (k : Int).toNat; omega
    · go_wp2_with fail
      refine (CA.out _).mono ?_
      rintro e w2 ⟨rfl, t, rfl⟩
      have HB2 := Lib.hid (Lib.bytesWorld_below w 5 t)
      generalize Lib.bytesWorld w 5 t = w2 at *
      go_wp2
      go_ret2
      exact ⟨rfl, HB2.out⟩

theorem zero_list {s : ByteArray} (h1 : s.size = 1) (h : ∀ h : 0 < s.size, s[0] = 48) : s.toList = [48] := by
  rw [Lib.toList_data]
  have h1' : s.data.toList.length = 1 := by rw [← Lib.size_eq]; exact h1
  match hc : s.data.toList, h1' with
  | [a], _ =>
    have e : s.data = #[a] := by rw [← Array.toArray_toList (xs := s.data), hc]
    have e2 : s.data[0]? = some a := by rw [e]; rfl
    have h0 : 0 < s.size := by omega
    rw [Array.getElem?_eq_getElem (show 0 < s.data.size from h0)] at e2
    have := h h0
    rw [← Option.some.inj e2]
    exact congrArg (fun x => [x]) this

set_option maxHeartbeats 4000000 in
theorem rnumber_0 (s : ByteArray) (m : Nat) (w : World) (hm : m ≤ 18) (h : NumS s m) (h1 : s.size = 1) (h48 : ∀ h : 0 < s.size, s[0] = 48) :
    Calls Tryz.prog 44 #[.string s, .int .i64 m] w fun e w' => e = .returned (.tuple #[.int .i64 (valS s), .bool true]) ∧ Below w.heap.size w w' := by
  have CA := Lib.hid (fun W => Tryz.strconv_Atoi s (valS s) (by have := h.short; omega) h.atoi W)
  have h0 := h.pos
  have hs := h.short
  have hz := zero_list h1 h48
  have hz2 : (s.toList == [48]) = true := by simp [hz]
  have hl := bytes_some h0
  have hl2 := bytes_some' h0
  have hb1 : (((s[0].toNat : Nat) : Int) == 48) = true := by rw [h48 h0]; rfl
  have HD := Lib.hid h.dig
  generalize valS s = n at *
  clear h h48 hz
  go_enter Tryz.func44, Tryz.ntmps44
  go_wp2_with fail
  go_loop [28] (fun x => ∃ k : Nat, x = .int .i64 k ∧ k ≤ s.size) (fun x => s.size - (intOf x).toNat)
  case atStart => exact ⟨0, rfl, Nat.zero_le _⟩
  case round =>
    obtain ⟨k, rfl, hk⟩ := hrel
    by_cases hk2 : k < s.size
    · have HX := Lib.hid (dig_int (HD.out k hk2))
      have x1 := HX.out.1
      have x2 := HX.out.2
      go_wp2
      go_round
      case rel => first | exact ⟨k + 1, rfl, by omega⟩ | exact ⟨u4, u5, _, _, ⟨k + 1, rfl, by omega⟩, rfl, rfl, rfl, rfl⟩
      case measure => show s.size - ((k : Int) + 1).toNat < s.size - (k : Int).toNat; omega
    · go_wp2_with fail
      refine (CA.out _).mono ?_
      rintro e w2 ⟨rfl, t, rfl⟩
      have HB2 := Lib.hid (Lib.bytesWorld_below w 5 t)
      generalize Lib.bytesWorld w 5 t = w2 at *
      go_wp2
      go_ret2
      exact ⟨rfl, HB2.out⟩

theorem rnumber_ok (s : ByteArray) (m : Nat) (w : World) (hm : m ≤ 18) (h : NumS s m) :
    Calls Tryz.prog 44 #[.string s, .int .i64 m] w fun e w' => e = .returned (.tuple #[.int .i64 (valS s), .bool true]) ∧ Below w.heap.size w w' := by
  by_cases h48 : ∀ h : 0 < s.size, s[0] ≠ 48
  · exact rnumber_yes s m w hm h h48
  · have h1 : s.size = 1 := by
      rcases h.head with h1 | h1
      · exact Nat.le_antisymm h1 h.pos
      · exact absurd h1 h48
    exact rnumber_0 s m w hm h h1 (fun h0 => Classical.byContradiction fun hc => h48 fun _ => hc)

set_option maxHeartbeats 4000000 in
theorem rnumber_no (s : ByteArray) (m : Nat) (w : World) (hm : m ≤ 18) (hn : s.size ≤ 9223372036854775807) (h : ¬ NumS s m) :
    Calls Tryz.prog 44 #[.string s, .int .i64 m] w fun e w' => e = .returned (.tuple #[.int .i64 0, .bool false]) ∧ Below w.heap.size w w' := by
  by_cases h0 : 0 < s.size
  · have hl := bytes_some h0
    have hl2 := bytes_some' h0
    by_cases hs : s.size ≤ m
    · by_cases h48 : s[0] = 48
      · have hb1 : (((s[0].toNat : Nat) : Int) == 48) = true := by rw [h48]; rfl
        have h1 : ¬ s.size = 1 := fun h1 => h ⟨h0, hs, fun i hi => by
          have : i = 0 := by omega
          subst this
          rw [h48]; exact ⟨by decide, by decide⟩, .inl (by omega)⟩
        have hz : ¬ s.toList = [48] := fun e => h1 (by
          rw [Lib.toList_data] at e
          rw [Lib.size_eq, e]; rfl)
        have hz2 : (s.toList == [48]) = false := beq_eq_false_iff_ne.2 hz
        clear h h48
        go_enter Tryz.func44, Tryz.ntmps44
        go_wp2
        go_ret2
        exact ⟨rfl, Below.refl _ _⟩
      · have hb1 : (((s[0].toNat : Nat) : Int) == 48) = false := byte_ne h48
        have HN := Lib.hid (show ¬ AllDig s from fun hd => h ⟨h0, hs, hd, .inr fun _ => h48⟩)
        clear h h48
        go_enter Tryz.func44, Tryz.ntmps44
        go_wp2_with fail
        go_loop [28] (fun x => ∃ k : Nat, x = .int .i64 k ∧ k ≤ s.size ∧ Hid (∀ i (h : i < s.size), i < k → IsDig s[i])) (fun x => s.size - (intOf x).toNat)
        case atStart => exact ⟨0, rfl, Nat.zero_le _, fun i _ hi => absurd hi (Nat.not_lt_zero _)⟩
        case round =>
          obtain ⟨k, rfl, hk, HK⟩ := hrel
          by_cases hk2 : k < s.size
          · by_cases hd : IsDig s[k]
            · have HX := Lib.hid (dig_int hd)
              have x1 := HX.out.1
              have x2 := HX.out.2
              have HD := Lib.hid hd
              clear hd
              go_wp2
              go_round
              case rel => exact ⟨u4, u5, _, _, ⟨k + 1, rfl, by omega, fun i hi hik => by
                rcases Nat.lt_or_ge i k with h | h
                · exact HK.out i hi h
                · have : i = k := by omega
                  subst this; exact HD.out⟩, rfl, rfl, rfl, rfl⟩
              case measure => show s.size - ((k : Int) + 1).toNat < s.size - (k : Int).toNat; omega
            · by_cases hlo : (s[k].toNat : Int) < 48
              · clear hd
                go_wp2
                go_ret2
                exact ⟨rfl, Below.refl _ _⟩
              · have hhi : 57 < (s[k].toNat : Int) := by unfold IsDig at hd; omega
                clear hd
                go_wp2
                go_ret2
                exact ⟨rfl, Below.refl _ _⟩
          · exact absurd (fun i hi => HK.out i hi (by omega)) HN.out
    · clear h
      go_enter Tryz.func44, Tryz.ntmps44
      go_wp2
      go_ret2
      exact ⟨rfl, Below.refl _ _⟩
  · have he := nil_of h0
    subst he
    clear h
    go_enter Tryz.func44, Tryz.ntmps44
    go_wp2
    go_ret2
    exact ⟨rfl, Below.refl _ _⟩
end Go.Proofs.YtljgpiaihahneaaGreatDoor
