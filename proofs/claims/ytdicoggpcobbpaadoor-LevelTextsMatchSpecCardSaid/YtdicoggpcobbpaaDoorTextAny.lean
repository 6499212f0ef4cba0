/- Trim, Digits, NumberOf, Cut at one mark: contracts at texts of any kind. -/
import Derived.Test.YtdicoggpcobbpaaDoorNumPlain
namespace Go.Proofs.YtdicoggpcobbpaaDoor
open Go.RowKit
set_option linter.unusedVariables false
set_option linter.unusedSimpArgs false

theorem ten_no {c : UInt8} (h : ¬ IsDig c) : ten.contains c = false := by
  cases e : ten.contains c with
  | false => rfl
  | true => exact absurd ((ten_iff c).1 e) h
theorem nil_of {t : ByteArray} (h : ¬ 0 < t.size) : t = ⟨#[]⟩ := by
  have : t.size = 0 := by omega
  exact ByteArray.ext (by apply Array.ext <;> simp_all)
theorem nodig_pos {t : ByteArray} (h : ¬ AllDig t) : 0 < t.size := by
  rcases Nat.eq_zero_or_pos t.size with h0 | h0
  · exact absurd (fun i hi => by omega) h
  · exact h0

set_option maxHeartbeats 1000000 in
theorem trimR_any (g : Nat) (s : ByteArray) (w : World) (hn : s.size ≤ 9223372036854775807) (hc : ∀ c : UInt8, w.cell? ⟨g, c.toNat, none⟩ = some (.bool (ten.contains c))) :
    Calls Tryd.prog 88 #[.string s, .pointer (some ⟨g, 0, none⟩)] w fun e w' => (∃ t : ByteArray, e = .returned (.string t) ∧ t.size ≤ s.size ∧ ((t = ⟨#[]⟩ ∧ AllDig s) ∨ (¬ AllDig t ∧ ¬ AllDig s))) ∧ w = w' := by
  have CC := Lib.hid (fun (c : UInt8) => contains_any g (c.toNat : Int) (ten.contains c) w (by omega) (by have := UInt8.toNat_lt c; omega) (hc c))
  clear hc
  go_enter Tryd.func88, Tryd.ntmps88
  go_wp2_with fail
  go_loop [0] (fun x => ∃ t : ByteArray, x = .string t ∧ t.size ≤ 9223372036854775807 ∧ Hid (t.size ≤ s.size ∧ (AllDig t ↔ AllDig s))) (fun x => match x with | .string b => b.size | _ => 0)
  case atStart => exact ⟨s, rfl, hn, Nat.le_refl _, Iff.rfl⟩
  case round =>
    obtain ⟨t, rfl, ht, HT⟩ := hrel
    clear hn
    by_cases h0 : 0 < t.size
    · by_cases hd : IsDig (t[t.size - 1])
      · have HCUT := Lib.hid (allDig_iff_cut h0 hd)
        have HSZ := Lib.hid (show (t.extract 0 (t.size - 1)).size = t.size - 1 by simp)
        have CT := Lib.hid (CC.out t[t.size - 1])
        rw [(ten_iff _).2 hd] at CT
        clear hd
        go_wp2_with fail
        refine CT.out.mono ?_
        rintro e w' ⟨rfl, rfl⟩
        go_wp2
        go_round
        case rel => exact ⟨_, rfl, by rw [HSZ.out]; omega, by rw [HSZ.out]; have := HT.out.1; omega, HCUT.out.trans HT.out.2⟩
        case measure => show (t.extract 0 (t.size - 1)).size < t.size; rw [HSZ.out]; omega
      · have CT := Lib.hid (CC.out t[t.size - 1])
        rw [ten_no hd] at CT
        have HN := Lib.hid (show ¬ AllDig t from fun h => hd (h _ _))
        clear hd
        go_wp2_with fail
        refine CT.out.mono ?_
        rintro e w' ⟨rfl, rfl⟩
        go_wp2
        go_ret
        exact ⟨⟨_, rfl, HT.out.1, .inr ⟨HN.out, fun h => HN.out (HT.out.2.2 h)⟩⟩, rfl⟩
    · have he := nil_of h0
      subst he
      have HA := Lib.hid (HT.out.2.1 (fun i hi => absurd hi (by show ¬ i < 0; omega)))
      go_wp2
      go_ret
      exact ⟨⟨_, rfl, Nat.zero_le _, .inl ⟨rfl, HA.out⟩⟩, rfl⟩

set_option maxHeartbeats 1000000 in
theorem trimL_any (g : Nat) (s : ByteArray) (w : World) (hn : s.size ≤ 9223372036854775807) (hd : ¬ AllDig s) (hc : ∀ c : UInt8, w.cell? ⟨g, c.toNat, none⟩ = some (.bool (ten.contains c))) :
    Calls Tryd.prog 94 #[.string s, .pointer (some ⟨g, 0, none⟩)] w fun e w' => (∃ t : ByteArray, e = .returned (.string t) ∧ 0 < t.size) ∧ w = w' := by
  have CC := Lib.hid (fun (c : UInt8) => contains_any g (c.toNat : Int) (ten.contains c) w (by omega) (by have := UInt8.toNat_lt c; omega) (hc c))
  have HD := Lib.hid hd
  clear hc hd
  go_enter Tryd.func94, Tryd.ntmps94
  go_wp2_with fail
  go_loop [0] (fun x => ∃ t : ByteArray, x = .string t ∧ t.size ≤ 9223372036854775807 ∧ Hid (¬ AllDig t)) (fun x => match x with | .string b => b.size | _ => 0)
  case atStart => exact ⟨s, rfl, hn, HD⟩
  case round =>
    obtain ⟨t, rfl, ht, HT⟩ := hrel
    clear hn HD
    have h0 := nodig_pos HT.out
    by_cases hd : IsDig (t[0])
    · have HCUT := Lib.hid (allDig_iff_tail h0 hd)
      have HSZ := Lib.hid (show (t.extract 1 t.size).size = t.size - 1 by simp)
      have CT := Lib.hid (CC.out t[0])
      rw [(ten_iff _).2 hd] at CT
      clear hd
      go_wp2_with fail
      refine CT.out.mono ?_
      rintro e w' ⟨rfl, rfl⟩
      go_wp2
      go_round
      case rel => exact ⟨_, rfl, by rw [HSZ.out]; omega, fun h => HT.out (HCUT.out.1 h)⟩
      case measure => show (t.extract 1 t.size).size < t.size; rw [HSZ.out]; omega
    · have CT := Lib.hid (CC.out t[0])
      rw [ten_no hd] at CT
      clear hd
      go_wp2_with fail
      refine CT.out.mono ?_
      rintro e w' ⟨rfl, rfl⟩
      go_wp2
      go_ret
      exact ⟨⟨_, rfl, h0⟩, rfl⟩

/-- what stands ahead of the first mark, what behind it, whether there is one -/
def cutI (s : ByteArray) (c : UInt8) : Int := Lib.indexByte s.data.toList c
def cutA (s : ByteArray) (c : UInt8) : ByteArray := if 0 ≤ cutI s c then s.extract 0 (cutI s c).toNat else s
def cutB (s : ByteArray) (c : UInt8) : ByteArray := if 0 ≤ cutI s c then s.extract ((cutI s c).toNat + 1) s.size else ⟨#[]⟩
theorem cutI_lt (s : ByteArray) (c : UInt8) : -1 ≤ cutI s c ∧ cutI s c < s.size ∨ cutI s c = -1 := by
  have h := Lib.indexByte_piece s 0 s.size c
  have e : s.extract 0 s.size = s := by
    apply ByteArray.ext
    apply Array.toList_inj.1
    rw [← Lib.toList_data, Lib.extract_toList]
    simp only [List.drop_zero, Nat.sub_zero]
    exact List.take_of_length_le (by rw [← Lib.size_eq]; exact Nat.le_refl _)
  rw [e] at h
  unfold cutI
  rcases h with h | ⟨o, h, h2⟩ <;> omega
theorem cutA_le (s : ByteArray) (c : UInt8) : (cutA s c).size ≤ s.size := by
  unfold cutA
  split
  · simp; omega
  · exact Nat.le_refl _
theorem cutB_le (s : ByteArray) (c : UInt8) : (cutB s c).size ≤ s.size := by
  unfold cutB
  split
  · simp
  · exact Nat.zero_le _

set_option maxHeartbeats 2000000 in
theorem lite_cut (s : ByteArray) (c : UInt8) (w : World) (hn : s.size ≤ 9223372036854775807) :
    Calls Tryd.prog 74 #[.string s, .string ⟨#[c]⟩] w fun e w' => e = .returned (.tuple #[.string (cutA s c), .string (cutB s c), .bool (decide (0 ≤ cutI s c))]) ∧ ∃ n, w' = w.drewN n := by
  have CI := Lib.hid (fun W => show Calls Tryd.prog 90 #[.string s, .string ⟨#[c]⟩] W fun e w' => e = .returned (.int .i64 (cutI s c)) ∧ w' = W from Tryd.stringslite_Index_one s c W)
  have hl := cutI_lt s c
  have HA := Lib.hid (show cutA s c = if 0 ≤ cutI s c then s.extract 0 (cutI s c).toNat else s from rfl)
  have HB := Lib.hid (show cutB s c = if 0 ≤ cutI s c then s.extract ((cutI s c).toNat + 1) s.size else ⟨#[]⟩ from rfl)
  generalize cutA s c = a at *
  generalize cutB s c = b at *
  generalize cutI s c = i at *
  by_cases h0 : 0 ≤ i
  · obtain ⟨k, rfl⟩ := Int.eq_ofNat_of_zero_le h0
    have hk : k < s.size := by omega
    have HA2 : a = s.extract 0 k := by rw [HA.out, if_pos h0]; rfl
    have HB2 : b = s.extract (k + 1) s.size := by rw [HB.out, if_pos h0]; rfl
    subst HA2 HB2
    have hd : decide ((0 : Int) ≤ (k : Int)) = true := by simp
    rw [hd]
    have c1 : (0 : Int) ≤ (k : Int) := by omega
    have c2 : (k : Int) ≤ (s.size : Int) := by omega
    have c3 : (0 : Int) ≤ (k : Int) + 1 := by omega
    have c4 : (k : Int) + 1 ≤ (s.size : Int) := by omega
    clear hl HA HB
    go_enter Tryd.func74, Tryd.ntmps74
    go_wp2_with fail
    refine (CI.out _).mono ?_
    rintro e w' ⟨rfl, rfl⟩
    go_wp2_with fail
    go_region_o
    go_wp2
    go_ret3
    exact ⟨rfl, 1, rfl⟩
  · have hi : i = -1 := by omega
    subst hi
    have HA2 : a = s := by rw [HA.out]; rfl
    have HB2 : b = ⟨#[]⟩ := by rw [HB.out]; rfl
    subst HA2 HB2
    clear hl h0 HA HB
    go_enter Tryd.func74, Tryd.ntmps74
    go_wp2_with fail
    refine (CI.out _).mono ?_
    rintro e w' ⟨rfl, rfl⟩
    go_wp2
    go_ret3
    exact ⟨rfl, 0, rfl⟩

set_option maxHeartbeats 2000000 in
theorem cut_one (s : ByteArray) (c : UInt8) (w : World) (hn : s.size ≤ 9223372036854775807) :
    Calls Tryd.prog 44 #[.string s, .string ⟨#[c]⟩] w fun e w' => e = .returned (.tuple #[.string (cutA s c), .string (cutB s c), .bool (decide (0 ≤ cutI s c))]) ∧ Below w.heap.size w w' := by
  have CI := Lib.hid (fun W => lite_cut s c W hn)
  generalize cutA s c = a at *
  generalize cutB s c = b at *
  generalize cutI s c = i at *
  go_enter Tryd.func44, Tryd.ntmps44
  go_wp2_with fail
  refine (CI.out _).mono ?_
  rintro e w' ⟨rfl, n, rfl⟩
  go_wp2
  go_ret3
  exact ⟨rfl, below_drewN' (Below.refl _ _)⟩
end Go.Proofs.YtdicoggpcobbpaaDoor
