/- The reference's Read of colours: the same value. (printed by wip/gen/gen_colref.py) -/
import Derived.Test.YtljgpiaihahneaaGreatDoorT65M16
import Derived.Test.YtljgpiaihahneaaGreatDoorT65M39

namespace Go.Proofs.YtljgpiaihahneaaGreatDoor
open Go.RowKit
set_option linter.unusedVariables false
set_option linter.unusedSimpArgs false

theorem hex_parts {t : ByteArray} (a b c : Nat) (h1 : a ≤ b) (h2 : b ≤ c) (hc : t.size = c) : AllHex t ↔ AllHex (t.extract 0 a) ∧ AllHex (t.extract a b) ∧ AllHex (t.extract b c) := by
  constructor
  · intro h
    exact ⟨hex_cut h _ _, hex_cut h _ _, hex_cut h _ _⟩
  · rintro ⟨x, y, z⟩ i hi
    by_cases e1 : i < a
    · have hx : i < (t.extract 0 a).size := by simp; omega
      have := x i hx
      rwa [show (t.extract 0 a)[i] = t[i] by simp [ByteArray.getElem_extract]] at this
    · by_cases e2 : i < b
      · have hx : i - a < (t.extract a b).size := by simp; omega
        have := y (i - a) hx
        rwa [show (t.extract a b)[i - a] = t[i] by simp [ByteArray.getElem_extract, show a + (i - a) = i by omega]] at this
      · have hx : i - b < (t.extract b c).size := by simp; omega
        have := z (i - b) hx
        rwa [show (t.extract b c)[i - b] = t[i] by simp [ByteArray.getElem_extract, show b + (i - b) = i by omega]] at this

set_option maxHeartbeats 4000000 in
theorem rcread_bad (s : ByteArray) (w : World) (h : ¬ (hsB s = true ∧ ((hsT s).size = 6 ∨ (hsT s).size = 12))) :
    Calls Tryz.prog 45 #[.string s] w fun e w' => e = .returned (.tuple #[.agg #[.int .i64 0, .int .i64 0, .int .i64 0], .int .i64 9]) ∧ Below w.heap.size w w' := by
  have CP := Lib.hid (fun W => callHs s W)
  have h' := h
  clear h
  generalize hsT s = t at *
  by_cases hB : hsB s = true
  · have h6a : ¬ t.size = 6 := fun e => h' ⟨hB, .inl e⟩
    have h6b : ¬ t.size = 12 := fun e => h' ⟨hB, .inr e⟩
    have i6 : (((t.size : Nat) : Int) != 6) = true := by simp; omega
    have i12 : (((t.size : Nat) : Int) != 12) = true := by simp; omega
    rw [hB] at CP
    clear h' hB
    go_enter Tryz.func45, Tryz.ntmps45
    go_wp2_with fail
    refine (CP.out _).mono ?_
    rintro e w1 ⟨rfl, rfl⟩
    go_wp2
    exact bodyPost_ret (v := .tuple #[.agg #[.int .i64 0, .int .i64 0, .int .i64 0], .int .i64 9]) (by simp [results, Tryz.results45, go_sem, World.cell?_alloc_past]) rfl ⟨rfl, below1⟩
  · rw [show hsB s = false by simpa using hB] at CP
    clear h' hB
    go_enter Tryz.func45, Tryz.ntmps45
    go_wp2_with fail
    refine (CP.out _).mono ?_
    rintro e w1 ⟨rfl, rfl⟩
    go_wp2
    exact bodyPost_ret (v := .tuple #[.agg #[.int .i64 0, .int .i64 0, .int .i64 0], .int .i64 9]) (by simp [results, Tryz.results45, go_sem, World.cell?_alloc_past]) rfl ⟨rfl, below1⟩

set_option maxHeartbeats 8000000 in
set_option maxRecDepth 100000 in
theorem rcread_2 (s : ByteArray) (w : World) (hB : hsB s = true) (h6 : (hsT s).size = 6) :
    Calls Tryz.prog 45 #[.string s] w fun e w' => e = .returned (.tuple #[if AllHex (hsT s) then .agg #[.int .i64 (colP (hsT s) 0), .int .i64 (colP (hsT s) 1), .int .i64 (colP (hsT s) 2)] else .agg #[.int .i64 0, .int .i64 0, .int .i64 0], .int .i64 (if AllHex (hsT s) then 0 else 9)]) ∧ Below w.heap.size w w' := by
  have CP := Lib.hid (fun W => callHs s W)
  rw [hB] at CP
  clear hB
  generalize hsT s = t at *
  have HI := Lib.hid (hex_parts 2 4 6 (by decide) (by decide) h6)
  have C0 := Lib.hid (fun W => rhex_any (t.extract 0 2) W (by simp; omega))
  have z0 : (t.extract 0 2).size = 2 := by simp; omega
  have b0 : (if AllHex (t.extract 0 2) then (hexS (t.extract 0 2) : Int) else 0) < 256 ∧ 0 ≤ (if AllHex (t.extract 0 2) then (hexS (t.extract 0 2) : Int) else 0) := by
    split
    · rename_i hh
      have := hexS_lt hh 2 z0
      omega
    · decide
  have V0 : Hid (AllHex (t.extract 0 2) → (colP t 0 : Int) = 257 * (if AllHex (t.extract 0 2) then (hexS (t.extract 0 2) : Int) else 0)) := fun hh => by
    rw [if_pos hh, show colP t 0 = hexS (t.extract 0 2) * 257 from if_pos h6]
    omega
  have D0 : Hid (decide (AllHex (t.extract 0 2)) = true ↔ AllHex (t.extract 0 2)) := decide_eq_true_iff
  generalize (if AllHex (t.extract 0 2) then (hexS (t.extract 0 2) : Int) else 0) = v0 at *
  generalize decide (AllHex (t.extract 0 2)) = d0 at *
  generalize AllHex (t.extract 0 2) = A0 at *
  clear z0
  obtain ⟨b0a, b0b⟩ := b0
  have g0 : IntKind.i64.wrap (257 * v0) = 257 * v0 := IntWalk.i64_in _ (by omega)
  have C1 := Lib.hid (fun W => rhex_any (t.extract 2 4) W (by simp; omega))
  have z1 : (t.extract 2 4).size = 2 := by simp; omega
  have b1 : (if AllHex (t.extract 2 4) then (hexS (t.extract 2 4) : Int) else 0) < 256 ∧ 0 ≤ (if AllHex (t.extract 2 4) then (hexS (t.extract 2 4) : Int) else 0) := by
    split
    · rename_i hh
      have := hexS_lt hh 2 z1
      omega
    · decide
  have V1 : Hid (AllHex (t.extract 2 4) → (colP t 1 : Int) = 257 * (if AllHex (t.extract 2 4) then (hexS (t.extract 2 4) : Int) else 0)) := fun hh => by
    rw [if_pos hh, show colP t 1 = hexS (t.extract 2 4) * 257 from if_pos h6]
    omega
  have D1 : Hid (decide (AllHex (t.extract 2 4)) = true ↔ AllHex (t.extract 2 4)) := decide_eq_true_iff
  generalize (if AllHex (t.extract 2 4) then (hexS (t.extract 2 4) : Int) else 0) = v1 at *
  generalize decide (AllHex (t.extract 2 4)) = d1 at *
  generalize AllHex (t.extract 2 4) = A1 at *
  clear z1
  obtain ⟨b1a, b1b⟩ := b1
  have g1 : IntKind.i64.wrap (257 * v1) = 257 * v1 := IntWalk.i64_in _ (by omega)
  have C2 := Lib.hid (fun W => rhex_any (t.extract 4 6) W (by simp; omega))
  have z2 : (t.extract 4 6).size = 2 := by simp; omega
  have b2 : (if AllHex (t.extract 4 6) then (hexS (t.extract 4 6) : Int) else 0) < 256 ∧ 0 ≤ (if AllHex (t.extract 4 6) then (hexS (t.extract 4 6) : Int) else 0) := by
    split
    · rename_i hh
      have := hexS_lt hh 2 z2
      omega
    · decide
  have V2 : Hid (AllHex (t.extract 4 6) → (colP t 2 : Int) = 257 * (if AllHex (t.extract 4 6) then (hexS (t.extract 4 6) : Int) else 0)) := fun hh => by
    rw [if_pos hh, show colP t 2 = hexS (t.extract 4 6) * 257 from if_pos h6]
    omega
  have D2 : Hid (decide (AllHex (t.extract 4 6)) = true ↔ AllHex (t.extract 4 6)) := decide_eq_true_iff
  generalize (if AllHex (t.extract 4 6) then (hexS (t.extract 4 6) : Int) else 0) = v2 at *
  generalize decide (AllHex (t.extract 4 6)) = d2 at *
  generalize AllHex (t.extract 4 6) = A2 at *
  clear z2
  obtain ⟨b2a, b2b⟩ := b2
  have g2 : IntKind.i64.wrap (257 * v2) = 257 * v2 := IntWalk.i64_in _ (by omega)
  cases d0 <;> cases d1 <;> cases d2
  case true.true.true =>
    have HA : AllHex t := HI.out.2 ⟨D0.out.1 rfl, D1.out.1 rfl, D2.out.1 rfl⟩
    rw [if_pos HA, if_pos HA, V0.out (D0.out.1 rfl), V1.out (D1.out.1 rfl), V2.out (D2.out.1 rfl)]
    clear HI D0 D1 D2 V0 V1 V2 HA
    go_enter Tryz.func45, Tryz.ntmps45
    go_wp2_with fail
    refine (CP.out _).mono ?_
    rintro e w1 ⟨rfl, rfl⟩
    go_wp2_with fail
    refine (C0.out _).mono ?_
    rintro e w1 ⟨rfl, rfl⟩
    go_wp2_with fail
    refine (C1.out _).mono ?_
    rintro e w1 ⟨rfl, rfl⟩
    go_wp2_with fail
    refine (C2.out _).mono ?_
    rintro e w1 ⟨rfl, rfl⟩
    go_wp2
    exact bodyPost_ret (v := .tuple #[.agg #[.int .i64 (257 * v0), .int .i64 (257 * v1), .int .i64 (257 * v2)], .int .i64 0]) (by simp [results, Tryz.results45, go_sem, World.cell?_alloc_past]) rfl ⟨rfl, below1⟩
  all_goals
    have HA : ¬ AllHex t := fun h => by
      obtain ⟨p0, p1, p2⟩ := HI.out.1 h
      have q0 := D0.out.2 p0
      have q1 := D1.out.2 p1
      have q2 := D2.out.2 p2
      first | exact absurd q0 (by decide) | exact absurd q1 (by decide) | exact absurd q2 (by decide)
    rw [if_neg HA, if_neg HA]
    clear HI D0 D1 D2 V0 V1 V2 HA
    go_enter Tryz.func45, Tryz.ntmps45
    go_wp2_with fail
    refine (CP.out _).mono ?_
    rintro e w1 ⟨rfl, rfl⟩
    go_wp2_with fail
    refine (C0.out _).mono ?_
    rintro e w1 ⟨rfl, rfl⟩
    go_wp2_with fail
    refine (C1.out _).mono ?_
    rintro e w1 ⟨rfl, rfl⟩
    go_wp2_with fail
    refine (C2.out _).mono ?_
    rintro e w1 ⟨rfl, rfl⟩
    go_wp2
    exact bodyPost_ret (v := .tuple #[.agg #[.int .i64 0, .int .i64 0, .int .i64 0], .int .i64 9]) (by simp [results, Tryz.results45, go_sem, World.cell?_alloc_past]) rfl ⟨rfl, below1⟩

set_option maxHeartbeats 8000000 in
set_option maxRecDepth 100000 in
theorem rcread_4 (s : ByteArray) (w : World) (hB : hsB s = true) (h6 : (hsT s).size = 12) :
    Calls Tryz.prog 45 #[.string s] w fun e w' => e = .returned (.tuple #[if AllHex (hsT s) then .agg #[.int .i64 (colP (hsT s) 0), .int .i64 (colP (hsT s) 1), .int .i64 (colP (hsT s) 2)] else .agg #[.int .i64 0, .int .i64 0, .int .i64 0], .int .i64 (if AllHex (hsT s) then 0 else 9)]) ∧ Below w.heap.size w w' := by
  have CP := Lib.hid (fun W => callHs s W)
  rw [hB] at CP
  clear hB
  generalize hsT s = t at *
  have HI := Lib.hid (hex_parts 4 8 12 (by decide) (by decide) h6)
  have C0 := Lib.hid (fun W => rhex_any (t.extract 0 4) W (by simp; omega))
  have z0 : (t.extract 0 4).size = 4 := by simp; omega
  have b0 : (if AllHex (t.extract 0 4) then (hexS (t.extract 0 4) : Int) else 0) < 65536 ∧ 0 ≤ (if AllHex (t.extract 0 4) then (hexS (t.extract 0 4) : Int) else 0) := by
    split
    · rename_i hh
      have := hexS_lt hh 4 z0
      omega
    · decide
  have V0 : Hid (AllHex (t.extract 0 4) → (colP t 0 : Int) = (if AllHex (t.extract 0 4) then (hexS (t.extract 0 4) : Int) else 0)) := fun hh => by
    rw [if_pos hh, show colP t 0 = hexS (t.extract 0 4) from if_neg (by omega)]
  have D0 : Hid (decide (AllHex (t.extract 0 4)) = true ↔ AllHex (t.extract 0 4)) := decide_eq_true_iff
  generalize (if AllHex (t.extract 0 4) then (hexS (t.extract 0 4) : Int) else 0) = v0 at *
  generalize decide (AllHex (t.extract 0 4)) = d0 at *
  generalize AllHex (t.extract 0 4) = A0 at *
  clear z0
  obtain ⟨b0a, b0b⟩ := b0
  have C1 := Lib.hid (fun W => rhex_any (t.extract 4 8) W (by simp; omega))
  have z1 : (t.extract 4 8).size = 4 := by simp; omega
  have b1 : (if AllHex (t.extract 4 8) then (hexS (t.extract 4 8) : Int) else 0) < 65536 ∧ 0 ≤ (if AllHex (t.extract 4 8) then (hexS (t.extract 4 8) : Int) else 0) := by
    split
    · rename_i hh
      have := hexS_lt hh 4 z1
      omega
    · decide
  have V1 : Hid (AllHex (t.extract 4 8) → (colP t 1 : Int) = (if AllHex (t.extract 4 8) then (hexS (t.extract 4 8) : Int) else 0)) := fun hh => by
    rw [if_pos hh, show colP t 1 = hexS (t.extract 4 8) from if_neg (by omega)]
  have D1 : Hid (decide (AllHex (t.extract 4 8)) = true ↔ AllHex (t.extract 4 8)) := decide_eq_true_iff
  generalize (if AllHex (t.extract 4 8) then (hexS (t.extract 4 8) : Int) else 0) = v1 at *
  generalize decide (AllHex (t.extract 4 8)) = d1 at *
  generalize AllHex (t.extract 4 8) = A1 at *
  clear z1
  obtain ⟨b1a, b1b⟩ := b1
  have C2 := Lib.hid (fun W => rhex_any (t.extract 8 12) W (by simp; omega))
  have z2 : (t.extract 8 12).size = 4 := by simp; omega
  have b2 : (if AllHex (t.extract 8 12) then (hexS (t.extract 8 12) : Int) else 0) < 65536 ∧ 0 ≤ (if AllHex (t.extract 8 12) then (hexS (t.extract 8 12) : Int) else 0) := by
    split
    · rename_i hh
      have := hexS_lt hh 4 z2
      omega
    · decide
  have V2 : Hid (AllHex (t.extract 8 12) → (colP t 2 : Int) = (if AllHex (t.extract 8 12) then (hexS (t.extract 8 12) : Int) else 0)) := fun hh => by
    rw [if_pos hh, show colP t 2 = hexS (t.extract 8 12) from if_neg (by omega)]
  have D2 : Hid (decide (AllHex (t.extract 8 12)) = true ↔ AllHex (t.extract 8 12)) := decide_eq_true_iff
  generalize (if AllHex (t.extract 8 12) then (hexS (t.extract 8 12) : Int) else 0) = v2 at *
  generalize decide (AllHex (t.extract 8 12)) = d2 at *
  generalize AllHex (t.extract 8 12) = A2 at *
  clear z2
  obtain ⟨b2a, b2b⟩ := b2
  cases d0 <;> cases d1 <;> cases d2
  case true.true.true =>
    have HA : AllHex t := HI.out.2 ⟨D0.out.1 rfl, D1.out.1 rfl, D2.out.1 rfl⟩
    rw [if_pos HA, if_pos HA, V0.out (D0.out.1 rfl), V1.out (D1.out.1 rfl), V2.out (D2.out.1 rfl)]
    clear HI D0 D1 D2 V0 V1 V2 HA
    go_enter Tryz.func45, Tryz.ntmps45
    go_wp2_with fail
    refine (CP.out _).mono ?_
    rintro e w1 ⟨rfl, rfl⟩
    go_wp2_with fail
    refine (C0.out _).mono ?_
    rintro e w1 ⟨rfl, rfl⟩
    go_wp2_with fail
    refine (C1.out _).mono ?_
    rintro e w1 ⟨rfl, rfl⟩
    go_wp2_with fail
    refine (C2.out _).mono ?_
    rintro e w1 ⟨rfl, rfl⟩
    go_wp2
    exact bodyPost_ret (v := .tuple #[.agg #[.int .i64 (v0), .int .i64 (v1), .int .i64 (v2)], .int .i64 0]) (by simp [results, Tryz.results45, go_sem, World.cell?_alloc_past]) rfl ⟨rfl, below1⟩
  all_goals
    have HA : ¬ AllHex t := fun h => by
      obtain ⟨p0, p1, p2⟩ := HI.out.1 h
      have q0 := D0.out.2 p0
      have q1 := D1.out.2 p1
      have q2 := D2.out.2 p2
      first | exact absurd q0 (by decide) | exact absurd q1 (by decide) | exact absurd q2 (by decide)
    rw [if_neg HA, if_neg HA]
    clear HI D0 D1 D2 V0 V1 V2 HA
    go_enter Tryz.func45, Tryz.ntmps45
    go_wp2_with fail
    refine (CP.out _).mono ?_
    rintro e w1 ⟨rfl, rfl⟩
    go_wp2_with fail
    refine (C0.out _).mono ?_
    rintro e w1 ⟨rfl, rfl⟩
    go_wp2_with fail
    refine (C1.out _).mono ?_
    rintro e w1 ⟨rfl, rfl⟩
    go_wp2_with fail
    refine (C2.out _).mono ?_
    rintro e w1 ⟨rfl, rfl⟩
    go_wp2
    exact bodyPost_ret (v := .tuple #[.agg #[.int .i64 0, .int .i64 0, .int .i64 0], .int .i64 9]) (by simp [results, Tryz.results45, go_sem, World.cell?_alloc_past]) rfl ⟨rfl, below1⟩

theorem rcread_any (s : ByteArray) (w : World) :
    Calls Tryz.prog 45 #[.string s] w fun e w' => e = .returned (.tuple #[colRd s, .int .i64 (colRf s)]) ∧ Below w.heap.size w w' := by
  by_cases h : hsB s = true ∧ ((hsT s).size = 6 ∨ (hsT s).size = 12)
  · have e1 : colRd s = if AllHex (hsT s) then .agg #[.int .i64 (colP (hsT s) 0), .int .i64 (colP (hsT s) 1), .int .i64 (colP (hsT s) 2)] else .agg #[.int .i64 0, .int .i64 0, .int .i64 0] := by
      unfold colRd
      by_cases hx : AllHex (hsT s)
      · rw [if_pos ⟨h.1, h.2, hx⟩, if_pos hx]
      · rw [if_neg (fun q => hx q.2.2), if_neg hx]
    have e2 : colRf s = if AllHex (hsT s) then 0 else 9 := by
      unfold colRf
      by_cases hx : AllHex (hsT s)
      · rw [if_pos ⟨h.1, h.2, hx⟩, if_pos hx]
      · rw [if_neg (fun q => hx q.2.2), if_neg hx]
    rw [e1, e2]
    rcases h with ⟨hB, h6 | h6⟩
    · exact rcread_2 s w hB h6
    · exact rcread_4 s w hB h6
  · unfold colRd colRf
    rw [if_neg (fun q => h ⟨q.1, q.2.1⟩), if_neg (fun q => h ⟨q.1, q.2.1⟩)]
    exact rcread_bad s w h
end Go.Proofs.YtljgpiaihahneaaGreatDoor
