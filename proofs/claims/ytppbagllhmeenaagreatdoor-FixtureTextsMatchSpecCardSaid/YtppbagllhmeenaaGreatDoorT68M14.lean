/- Names: word.Row, word.Name and IsWord, IsName of the reference. -/
import Derived.Test.YtppbagllhmeenaaGreatDoorProg
import Derived.WalkKit
import Derived.WalkSpells
import Derived.WalkLawsBesides
import Derived.Lib.Hide

namespace Go.Proofs.YtppbagllhmeenaaGreatDoor
open Go.RowKit
set_option linter.unusedVariables false
set_option linter.unusedSimpArgs false

/-- a byte of a name -/
def okC (x : Nat) : Bool := decide (97 ≤ x ∧ x ≤ 122) || decide (48 ≤ x ∧ x ≤ 57) || decide (x = 45)
def rowB (l : List UInt8) : Bool := l.all (fun c => okC c.toNat) && !l.isEmpty
def nameB (l : List UInt8) : Bool := rowB l && decide (l.length ≤ 20) && decide (97 ≤ (l.getD 0 0).toNat) && decide ((l.getD 0 0).toNat ≤ 122)

theorem okC_cases (x : Nat) (hx : x < 256) : (okC x = true ∧ ((97 ≤ x ∧ x ≤ 122) ∨ (48 ≤ x ∧ x ≤ 57) ∨ x = 45)) ∨ (okC x = false ∧ (122 < x ∨ (57 < x ∧ x < 97) ∨ (45 < x ∧ x < 48) ∨ x < 45)) := by
  unfold okC
  by_cases h1 : 97 ≤ x ∧ x ≤ 122
  · exact .inl ⟨by simp [h1], .inl h1⟩
  · by_cases h2 : 48 ≤ x ∧ x ≤ 57
    · exact .inl ⟨by simp [h2], .inr (.inl h2)⟩
    · by_cases h3 : x = 45
      · exact .inl ⟨by simp [h3], .inr (.inr h3)⟩
      · exact .inr ⟨by simp [h1, h2, h3], by omega⟩

theorem all_take (s : List UInt8) (k : Nat) (h : k < s.length) : (s.take (k + 1)).all (fun c => okC c.toNat) = ((s.take k).all (fun c => okC c.toNat) && okC s[k].toNat) := by
  rw [List.take_succ_eq_append_getElem h, List.all_append]; simp
theorem all_of_bad (s : List UInt8) (k : Nat) (h : k < s.length) (hb : okC s[k].toNat = false) : s.all (fun c => okC c.toNat) = false := by
  rw [List.all_eq_false]
  exact ⟨s[k], List.getElem_mem h, by simp [hb]⟩

set_option maxHeartbeats 2000000 in
theorem row_any (s : ByteArray) (w : World) (hs : s.size ≤ maxLen) :
    Calls Tryz.prog 20 #[.string s] w fun e w' => e = .returned (.bool (rowB s.data.toList)) ∧ w = w' := by
  unfold maxLen at hs
  go_enter Tryz.func20, Tryz.ntmps20
  go_wp2
  go_loop [7] (fun i => ∃ k : Nat, k ≤ s.size ∧ i = .int .i64 k ∧ Hid ((s.data.toList.take k).all (fun c => okC c.toNat) = true)) (fun i => s.size - (intOf i).toNat)
  case atStart => exact ⟨0, Nat.zero_le _, rfl, Lib.hid (by simp)⟩
  case round =>
    obtain ⟨k, hk, rfl, hA⟩ := hrel
    by_cases hlt : k < s.size
    · have hkl : k < s.data.toList.length := by simpa using hlt
      have hT := Lib.hid (all_take s.data.toList k hkl)
      have hBad := all_of_bad s.data.toList k hkl
      have hb : s[k].toNat < 256 := s[k].toNat_lt
      have he : s.data.toList[k] = s[k] := rfl
      rw [he] at hT hBad
      have hcs := okC_cases s[k].toNat hb
      have HBad := Lib.hid hBad
      clear hBad he
      rcases hcs with ⟨h1, h2⟩ | ⟨h1, h2⟩
      · have HO := Lib.hid h1
        clear h1
        rcases h2 with h2 | h2 | h2
        · have d : ((s[k].toNat : Int) == 45) = false := by rw [beq_eq_false_iff_ne]; omega
          obtain ⟨h3, h4⟩ := h2
          go_wp2
          go_round
          case rel => exact ⟨k + 1, by omega, by go_num, Lib.hid (by rw [hT.out, hA.out, HO.out]; rfl)⟩
          case measure => simp [intOf]; omega
        · have d : ((s[k].toNat : Int) == 45) = false := by rw [beq_eq_false_iff_ne]; omega
          obtain ⟨h3, h4⟩ := h2
          go_wp2
          go_round
          case rel => exact ⟨k + 1, by omega, by go_num, Lib.hid (by rw [hT.out, hA.out, HO.out]; rfl)⟩
          case measure => simp [intOf]; omega
        · have d : ((s[k].toNat : Int) == 45) = true := by rw [beq_iff_eq]; omega
          have h3 : s[k].toNat ≤ 45 := by omega
          clear h2
          go_wp2
          go_round
          case rel => exact ⟨k + 1, by omega, by go_num, Lib.hid (by rw [hT.out, hA.out, HO.out]; rfl)⟩
          case measure => simp [intOf]; omega
      · have HO := Lib.hid (show rowB s.data.toList = false by unfold rowB; rw [HBad.out h1]; rfl)
        clear h1 HBad
        have d : ((s[k].toNat : Int) == 45) = false := by rw [beq_eq_false_iff_ne]; omega
        rcases h2 with h2 | h2 | h2 | h2
        · have d2 : decide ((s[k].toNat : Int) ≤ 122) = false := by simp; omega
          have d3 : decide ((s[k].toNat : Int) ≤ 57) = false := by simp; omega
          go_wp2
          go_ret
          exact ⟨by rw [HO.out]; rfl, rfl⟩
        · obtain ⟨h3, h4⟩ := h2
          have d3 : decide ((s[k].toNat : Int) ≤ 57) = false := by simp; omega
          go_wp2
          go_ret
          exact ⟨by rw [HO.out]; rfl, rfl⟩
        · obtain ⟨h3, h4⟩ := h2
          go_wp2
          go_ret
          exact ⟨by rw [HO.out]; rfl, rfl⟩
        · go_wp2
          go_ret
          exact ⟨by rw [HO.out]; rfl, rfl⟩
    · have hkk : k = s.size := by omega
      have HR := Lib.hid (show rowB s.data.toList = !s.data.toList.isEmpty by
        have h2 := hA.out
        rw [List.take_of_length_le (by simp; omega)] at h2
        unfold rowB; rw [h2]; rfl)
      clear hkk
      go_wp2
      go_ret
      exact ⟨by rw [HR.out, ← ByteArray.toList_eq]; rfl, rfl⟩
set_option maxHeartbeats 2000000 in
theorem isWord_any (s : ByteArray) (w : World) (hs : s.size ≤ maxLen) :
    Calls Tryz.prog 53 #[.string s] w fun e w' => e = .returned (.bool (rowB s.data.toList)) ∧ w = w' := by
  unfold maxLen at hs
  go_enter Tryz.func53, Tryz.ntmps53
  go_wp2
  go_loop [7] (fun i => ∃ k : Nat, k ≤ s.size ∧ i = .int .i64 k ∧ Hid ((s.data.toList.take k).all (fun c => okC c.toNat) = true)) (fun i => s.size - (intOf i).toNat)
  case atStart => exact ⟨0, Nat.zero_le _, rfl, Lib.hid (by simp)⟩
  case round =>
    obtain ⟨k, hk, rfl, hA⟩ := hrel
    by_cases hlt : k < s.size
    · have hkl : k < s.data.toList.length := by simpa using hlt
      have hT := Lib.hid (all_take s.data.toList k hkl)
      have hBad := all_of_bad s.data.toList k hkl
      have hb : s[k].toNat < 256 := s[k].toNat_lt
      have he : s.data.toList[k] = s[k] := rfl
      rw [he] at hT hBad
      have hcs := okC_cases s[k].toNat hb
      have HBad := Lib.hid hBad
      clear hBad he
      rcases hcs with ⟨h1, h2⟩ | ⟨h1, h2⟩
      · have HO := Lib.hid h1
        clear h1
        rcases h2 with h2 | h2 | h2
        · have d : ((s[k].toNat : Int) != 45) = true := by rw [bne_iff_ne]; omega
          obtain ⟨h3, h4⟩ := h2
          go_wp2
          go_round
          case rel => exact ⟨k + 1, by omega, by go_num, Lib.hid (by rw [hT.out, hA.out, HO.out]; rfl)⟩
          case measure => simp [intOf]; omega
        · have d : ((s[k].toNat : Int) != 45) = true := by rw [bne_iff_ne]; omega
          obtain ⟨h3, h4⟩ := h2
          go_wp2
          go_round
          case rel => exact ⟨k + 1, by omega, by go_num, Lib.hid (by rw [hT.out, hA.out, HO.out]; rfl)⟩
          case measure => simp [intOf]; omega
        · have d : ((s[k].toNat : Int) != 45) = false := by rw [bne_eq_false_iff_eq]; omega
          have h3 : s[k].toNat ≤ 45 := by omega
          clear h2
          go_wp2
          go_round
          case rel => exact ⟨k + 1, by omega, by go_num, Lib.hid (by rw [hT.out, hA.out, HO.out]; rfl)⟩
          case measure => simp [intOf]; omega
      · have HO := Lib.hid (show rowB s.data.toList = false by unfold rowB; rw [HBad.out h1]; rfl)
        clear h1 HBad
        have d : ((s[k].toNat : Int) != 45) = true := by rw [bne_iff_ne]; omega
        rcases h2 with h2 | h2 | h2 | h2
        · have d2 : decide ((s[k].toNat : Int) ≤ 122) = false := by simp; omega
          have d3 : decide ((s[k].toNat : Int) ≤ 57) = false := by simp; omega
          go_wp2
          all_goals first
            | (exfalso; omega)
            | (go_ret; exact ⟨by rw [HO.out]; rfl, rfl⟩)
        · obtain ⟨h3, h4⟩ := h2
          have d3 : decide ((s[k].toNat : Int) ≤ 57) = false := by simp; omega
          go_wp2
          all_goals first
            | (exfalso; omega)
            | (go_ret; exact ⟨by rw [HO.out]; rfl, rfl⟩)
        · obtain ⟨h3, h4⟩ := h2
          go_wp2
          all_goals first
            | (exfalso; omega)
            | (go_ret; exact ⟨by rw [HO.out]; rfl, rfl⟩)
        · go_wp2
          all_goals first
            | (exfalso; omega)
            | (go_ret; exact ⟨by rw [HO.out]; rfl, rfl⟩)
    · have hkk : k = s.size := by omega
      have HR := Lib.hid (show rowB s.data.toList = !s.data.toList.isEmpty by
        have h2 := hA.out
        rw [List.take_of_length_le (by simp; omega)] at h2
        unfold rowB; rw [h2]; rfl)
      clear hkk
      go_wp2
      go_ret
      exact ⟨by rw [HR.out, ← ByteArray.toList_eq]; rfl, rfl⟩

set_option maxHeartbeats 1000000 in
theorem name_any (s : ByteArray) (w : World) (hs : s.size ≤ maxLen) :
    Calls Tryz.prog 68 #[.string s] w fun e w' => e = .returned (.bool (nameB s.data.toList)) ∧ w = w' := by
  have RW := Lib.hid (row_any s w hs)
  have hz : s.data.toList.length = s.size := by simp
  unfold maxLen at hs
  by_cases hr : rowB s.data.toList = true
  · rw [hr] at RW
    have hne : s.data.toList ≠ [] := by
      intro h; rw [h] at hr; simp [rowB] at hr
    have h0 : 0 < s.size := by have := List.length_pos_iff.2 hne; omega
    have he : (s.data.toList.getD 0 0) = s[0] := by
      rw [List.getD_eq_getElem?_getD, List.getElem?_eq_getElem (by omega)]; rfl
    have HN := Lib.hid (show nameB s.data.toList = (decide (s.size ≤ 20) && decide (97 ≤ s[0].toNat) && decide (s[0].toNat ≤ 122)) by unfold nameB; rw [hr, he, hz]; rfl)
    clear hr hne he hz
    have hb : s[0].toNat < 256 := s[0].toNat_lt
    generalize hx : s[0].toNat = x at *
    by_cases h20 : s.size ≤ 20
    · by_cases h97 : 97 ≤ x
      · have d1 : decide ((s.size : Int) ≤ 20) = true := by simp; omega
        have d2 : decide ((97 : Int) ≤ (x : Int)) = true := by simp; omega
        have HN2 := Lib.hid (show nameB s.data.toList = decide ((x : Int) ≤ 122) by
          rw [HN.out, decide_eq_true h20, decide_eq_true h97]
          simp
          omega)
        have HXX := Lib.hid hx
        go_enter Tryz.func68, Tryz.ntmps68
        go_wp2_with fail
        refine RW.out.mono ?_; rintro e w' ⟨rfl, rfl⟩
        go_wp2
        go_ret
        exact ⟨by rw [HN2.out]; rfl, rfl⟩
      · have d1 : decide ((s.size : Int) ≤ 20) = true := by simp; omega
        have d2 : decide ((97 : Int) ≤ (x : Int)) = false := by simp; omega
        have HN2 := Lib.hid (show nameB s.data.toList = false by rw [HN.out, decide_eq_false h97]; simp)
        clear h97
        go_enter Tryz.func68, Tryz.ntmps68
        go_wp2_with fail
        refine RW.out.mono ?_; rintro e w' ⟨rfl, rfl⟩
        go_wp2
        go_ret
        exact ⟨by rw [HN2.out]; rfl, rfl⟩
    · have d1 : decide ((s.size : Int) ≤ 20) = false := by simp; omega
      have HN2 := Lib.hid (show nameB s.data.toList = false by rw [HN.out, decide_eq_false h20]; simp)
      clear h20
      go_enter Tryz.func68, Tryz.ntmps68
      go_wp2_with fail
      refine RW.out.mono ?_; rintro e w' ⟨rfl, rfl⟩
      go_wp2
      go_ret
      exact ⟨by rw [HN2.out]; rfl, rfl⟩
  · have hr' : rowB s.data.toList = false := by simpa using hr
    rw [hr'] at RW
    have HN := Lib.hid (show nameB s.data.toList = false by unfold nameB; rw [hr']; rfl)
    clear hr hr'
    go_enter Tryz.func68, Tryz.ntmps68
    go_wp2_with fail
    refine RW.out.mono ?_; rintro e w' ⟨rfl, rfl⟩
    go_wp2
    go_ret
    exact ⟨by rw [HN.out]; rfl, rfl⟩

set_option maxHeartbeats 1000000 in
theorem isName_any (s : ByteArray) (w : World) (hs : s.size ≤ maxLen) :
    Calls Tryz.prog 79 #[.string s] w fun e w' => e = .returned (.bool (nameB s.data.toList)) ∧ w = w' := by
  have RW := Lib.hid (isWord_any s w hs)
  have hz : s.data.toList.length = s.size := by simp
  unfold maxLen at hs
  by_cases hr : rowB s.data.toList = true
  · rw [hr] at RW
    have hne : s.data.toList ≠ [] := by
      intro h; rw [h] at hr; simp [rowB] at hr
    have h0 : 0 < s.size := by have := List.length_pos_iff.2 hne; omega
    have he : (s.data.toList.getD 0 0) = s[0] := by
      rw [List.getD_eq_getElem?_getD, List.getElem?_eq_getElem (by omega)]; rfl
    have HN := Lib.hid (show nameB s.data.toList = (decide (s.size ≤ 20) && decide (97 ≤ s[0].toNat) && decide (s[0].toNat ≤ 122)) by unfold nameB; rw [hr, he, hz]; rfl)
    clear hr hne he hz
    have hb : s[0].toNat < 256 := s[0].toNat_lt
    generalize hx : s[0].toNat = x at *
    by_cases h20 : s.size ≤ 20
    · by_cases h97 : 97 ≤ x
      · have d1 : decide ((s.size : Int) ≤ 20) = true := by simp; omega
        have d2 : decide ((97 : Int) ≤ (x : Int)) = true := by simp; omega
        have HN2 := Lib.hid (show nameB s.data.toList = decide ((x : Int) ≤ 122) by
          rw [HN.out, decide_eq_true h20, decide_eq_true h97]
          simp
          omega)
        have HXX := Lib.hid hx
        go_enter Tryz.func79, Tryz.ntmps79
        go_wp2_with fail
        refine RW.out.mono ?_; rintro e w' ⟨rfl, rfl⟩
        go_wp2
        go_ret
        exact ⟨by rw [HN2.out]; rfl, rfl⟩
      · have d1 : decide ((s.size : Int) ≤ 20) = true := by simp; omega
        have d2 : decide ((97 : Int) ≤ (x : Int)) = false := by simp; omega
        have HN2 := Lib.hid (show nameB s.data.toList = false by rw [HN.out, decide_eq_false h97]; simp)
        clear h97
        go_enter Tryz.func79, Tryz.ntmps79
        go_wp2_with fail
        refine RW.out.mono ?_; rintro e w' ⟨rfl, rfl⟩
        go_wp2
        go_ret
        exact ⟨by rw [HN2.out]; rfl, rfl⟩
    · have d1 : decide ((s.size : Int) ≤ 20) = false := by simp; omega
      have HN2 := Lib.hid (show nameB s.data.toList = false by rw [HN.out, decide_eq_false h20]; simp)
      clear h20
      go_enter Tryz.func79, Tryz.ntmps79
      go_wp2_with fail
      refine RW.out.mono ?_; rintro e w' ⟨rfl, rfl⟩
      go_wp2
      go_ret
      exact ⟨by rw [HN2.out]; rfl, rfl⟩
  · have hr' : rowB s.data.toList = false := by simpa using hr
    rw [hr'] at RW
    have HN := Lib.hid (show nameB s.data.toList = false by unfold nameB; rw [hr']; rfl)
    clear hr hr'
    go_enter Tryz.func79, Tryz.ntmps79
    go_wp2_with fail
    refine RW.out.mono ?_; rintro e w' ⟨rfl, rfl⟩
    go_wp2
    go_ret
    exact ⟨by rw [HN.out]; rfl, rfl⟩
end Go.Proofs.YtppbagllhmeenaaGreatDoor
