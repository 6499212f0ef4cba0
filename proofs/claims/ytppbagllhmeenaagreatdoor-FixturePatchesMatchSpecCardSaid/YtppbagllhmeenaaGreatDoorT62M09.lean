/- word.Lines at any text. word.Pair at a mark of one byte, at any text. -/
import Derived.Test.YtppbagllhmeenaaGreatDoorT62M08

namespace Go.Proofs.YtppbagllhmeenaaGreatDoor
open Go.RowKit
set_option linter.unusedVariables false
set_option linter.unusedSimpArgs false

/-- the lines of a text; whether the last one has its end -/
def linesL (s : ByteArray) : List ByteArray :=
  if s.size = 0 then [] else if ((wordsB 10 s).getLast?.map (·.size)) = some 0 then (wordsB 10 s).dropLast else wordsB 10 s
def linesW (s : ByteArray) : Bool := decide (s.size = 0) || decide (((wordsB 10 s).getLast?.map (·.size)) = some 0)
theorem words_snoc (s : ByteArray) : ∃ L0 x, wordsB 10 s = L0 ++ [x] := by
  have h := wordsB_pos 10 s
  exact ⟨(wordsB 10 s).dropLast, (wordsB 10 s).getLast (by intro e; rw [e] at h; simp at h), (List.dropLast_concat_getLast _).symm⟩
/-- what Lines hands back -/
def LinesPost (w : World) (s : ByteArray) (e : Ending) (w' : World) : Prop :=
  ∃ ao cap, e = .returned (.tuple #[.slice ao (linesL s).length cap, .bool (linesW s)]) ∧ (linesL s ≠ [] → ao = some ⟨w.heap.size, 0, none⟩ ∧ w.heap.size < w'.heap.size ∧ RowS w' w.heap.size 0 (linesL s)) ∧ Below w.heap.size w w'
theorem linesL_le (s : ByteArray) : (linesL s).length ≤ s.size + 1 := by
  have := wordsB_le 10 s
  unfold linesL
  split
  · simp
  · split
    · rw [List.length_dropLast]; omega
    · exact this
theorem linesL_size (s : ByteArray) : ∀ x ∈ linesL s, x.size ≤ s.size := by
  intro x hx
  unfold linesL at hx
  split at hx
  · simp at hx
  · split at hx
    · exact wordsB_size 10 s x (List.dropLast_subset _ hx)
    · exact wordsB_size 10 s x hx

set_option maxHeartbeats 4000000 in
theorem lines_any (s : ByteArray) (w : World) (hT : TextW w) (hs : s.size < 4294967281) :
    Calls Tryz.prog 18 #[.string s] w (LinesPost w s) := by
  by_cases h0 : s.size = 0
  · have he : s = ⟨#[]⟩ := ByteArray.ext (by apply Array.ext <;> simp_all)
    subst he
    clear hs
    go_enter Tryz.func18, Tryz.ntmps18
    go_wp2
    go_ret2
    exact ⟨none, 0, rfl, fun h => absurd rfl h, Below.refl _ _⟩
  · have CS := Lib.hid (split_any 10 s w hT hs)
    have hl := bytes_some (s := s) (by omega)
    have hl2 := bytes_some' (s := s) (by omega)
    have HLL := Lib.hid (show linesL s = if ((wordsB 10 s).getLast?.map (·.size)) = some 0 then (wordsB 10 s).dropLast else wordsB 10 s from if_neg h0)
    have HLW := Lib.hid (show linesW s = decide (((wordsB 10 s).getLast?.map (·.size)) = some 0) by unfold linesW; rw [decide_eq_false h0]; rfl)
    have hle := wordsB_le 10 s
    obtain ⟨L0, x, hL⟩ := words_snoc s
    have HPOST := Lib.hid (show ∀ e w', (∃ ao cap, e = .returned (.tuple #[.slice ao (linesL s).length cap, .bool (linesW s)]) ∧ (linesL s ≠ [] → ao = some ⟨w.heap.size, 0, none⟩ ∧ w.heap.size < w'.heap.size ∧ RowS w' w.heap.size 0 (linesL s)) ∧ Below w.heap.size w w') → LinesPost w s e w' from fun e w' h => h)
    rw [hL] at CS HLL HLW hle
    have hlast : (L0 ++ [x]).getLast? = some x := by simp
    have hdl : (L0 ++ [x]).dropLast = L0 := by simp
    rw [hlast, hdl] at HLL
    rw [hlast] at HLW
    simp only [Option.map_some, Option.some.injEq] at HLL HLW
    have hlen : (L0 ++ [x]).length = L0.length + 1 := by simp
    generalize linesL s = LL at *
    generalize linesW s = LW at *
    generalize LinesPost w s = PO at *
    clear hT hL h0 hlast hdl
    go_enter Tryz.func18, Tryz.ntmps18
    go_wp2_with fail
    refine CS.out.mono ?_
    rintro e w1 ⟨rfl, hrow, hb, hlt⟩
    rw [hlen]
    have hc := hrow L0.length (by rw [hlen]; omega)
    rw [show (L0 ++ [x])[L0.length]'(by rw [hlen]; omega) = x by simp, Nat.zero_add] at hc
    have HR := Lib.hid hrow
    have HB := Lib.hid hb
    clear hrow hb
    have hsub : ((L0.length + 1 : Nat) : Int) - 1 = L0.length := by omega
    by_cases hx : x.size = 0
    · have he : x = ⟨#[]⟩ := ByteArray.ext (by apply Array.ext <;> simp_all)
      have HV1 := Lib.hid (show LL = L0 by rw [HLL.out, if_pos hx])
      have HV2 := Lib.hid (show LW = true by rw [HLW.out, decide_eq_true hx])
      subst he
      clear hx HLL HLW
      go_wp2_with fail
      refine HPOST.out _ _ ⟨_, _, by rw [HV1.out, HV2.out]; rfl, fun h => ⟨rfl, hlt, ?_⟩, HB.out⟩
      rw [HV1.out]
      intro j hj
      have := HR.out j (by rw [hlen]; omega)
      rwa [show (L0 ++ [(⟨#[]⟩ : ByteArray)])[j]'(by rw [hlen]; omega) = L0[j] from List.getElem_append_left hj] at this
    · have hx1 := bytes_some (s := x) (by omega)
      have hx2 := bytes_some' (s := x) (by omega)
      have HV1 := Lib.hid (show LL = L0 ++ [x] by rw [HLL.out, if_neg hx])
      have HV2 := Lib.hid (show LW = false by rw [HLW.out, decide_eq_false hx])
      clear hx HLL HLW
      go_wp2_with fail
      refine HPOST.out _ _ ⟨some ⟨w.heap.size, 0, none⟩, L0.length + 1, by rw [HV1.out, HV2.out, hlen]; rfl, fun h => ⟨rfl, hlt, ?_⟩, HB.out⟩
      rw [HV1.out]
      exact HR.out
end Go.Proofs.YtppbagllhmeenaaGreatDoor

namespace Go.Proofs.YtppbagllhmeenaaGreatDoor
open Go.RowKit
open Classical
set_option linter.unusedVariables false
set_option linter.unusedSimpArgs false

/-- two numbers with a mark between -/
def PairOk (c : UInt8) (x : ByteArray) : Prop := 0 ≤ cutI x c ∧ NumS (cutA x c) 9 ∧ NumS (cutB x c) 9
def pairV (c : UInt8) (x : ByteArray) : Int × Int := (valS (cutA x c), valS (cutB x c))
def PairNo (w : World) (e : Ending) (w' : World) : Prop := (∃ n m : Int, e = .returned (.tuple #[.int .i64 n, .int .i64 m, .bool false])) ∧ Below w.heap.size w w'
theorem num9 {s : ByteArray} (h : NumS s 9) : valS s < 1000000000 := Nat.lt_of_lt_of_le h.lt (Nat.pow_le_pow_right (by decide) h.short)

set_option maxHeartbeats 1000000 in
theorem pair_core (c : UInt8) (s : ByteArray) (w : World) (hn : s.size ≤ 9223372036854775807) (n m : Int) (x y : Bool)
    (hA : ∀ W, Calls Tryz.prog 21 #[.string (cutA s c)] W fun e w' => e = .returned (.tuple #[.int .i64 n, .bool x]) ∧ Below W.heap.size W w')
    (hB : ∀ W, Calls Tryz.prog 21 #[.string (cutB s c)] W fun e w' => e = .returned (.tuple #[.int .i64 m, .bool y]) ∧ Below W.heap.size W w') :
    Calls Tryz.prog 22 #[.string s, .string ⟨#[c]⟩] w fun e w' => e = .returned (.tuple #[.int .i64 n, .int .i64 m, .bool (decide (0 ≤ cutI s c) && x && y)]) ∧ Below w.heap.size w w' := by
  have CC := Lib.hid (cut_one s c w hn)
  have CA := Lib.hid hA
  have CB := Lib.hid hB
  generalize cutA s c = a at *
  generalize cutB s c = b at *
  generalize decide (0 ≤ cutI s c) = i at *
  clear hA hB
  cases i <;> cases x <;> cases y
  all_goals
    go_enter Tryz.func22, Tryz.ntmps22
    go_wp2_with fail
    refine CC.out.mono ?_
    rintro e w1 ⟨rfl, hb⟩
    have HB1 := Lib.hid hb
    clear hb
    go_wp2_with fail
    refine (CA.out _).mono ?_
    rintro e w2 ⟨rfl, hb⟩
    have HB2 := Lib.hid (bt HB1.out hb)
    clear hb
    go_wp2_with fail
    refine (CB.out _).mono ?_
    rintro e w3 ⟨rfl, hb⟩
    have HB3 := Lib.hid (bt HB2.out hb)
    clear hb
    go_wp2
    go_ret3
    exact ⟨rfl, HB3.out⟩
theorem pair_yes (c : UInt8) (s : ByteArray) (w : World) (hn : s.size ≤ 9223372036854775807) (h : PairOk c s) :
    Calls Tryz.prog 22 #[.string s, .string ⟨#[c]⟩] w fun e w' => e = .returned (.tuple #[.int .i64 (pairV c s).1, .int .i64 (pairV c s).2, .bool true]) ∧ Below w.heap.size w w' := by
  refine (pair_core c s w hn _ _ true true (fun W => number_yes _ W h.2.1) (fun W => number_yes _ W h.2.2)).mono ?_
  rintro e w' ⟨rfl, hb⟩
  rw [decide_eq_true h.1]
  exact ⟨rfl, hb⟩
theorem pair_no (c : UInt8) (s : ByteArray) (w : World) (hn : s.size ≤ 9223372036854775807) (h : ¬ PairOk c s) :
    Calls Tryz.prog 22 #[.string s, .string ⟨#[c]⟩] w (PairNo w) := by
  have la := cutA_le s c
  have lb := cutB_le s c
  have nine : ∀ t : ByteArray, t.size ≤ s.size → ∃ (n : Int) (x : Bool), (x = true ↔ NumS t 9) ∧ ∀ W, Calls Tryz.prog 21 #[.string t] W fun e w' => e = .returned (.tuple #[.int .i64 n, .bool x]) ∧ Below W.heap.size W w' := by
    intro t ht
    by_cases hN : NumS t 9
    · exact ⟨_, true, by simp [hN], fun W => number_yes t W hN⟩
    · exact ⟨_, false, by simp [hN], fun W => number_no t W (by omega) hN⟩
  obtain ⟨n, x, hx, hA⟩ := nine _ la
  obtain ⟨m, y, hy, hB⟩ := nine _ lb
  refine (pair_core c s w hn n m x y hA hB).mono ?_
  rintro e w' ⟨rfl, hb⟩
  refine ⟨⟨n, m, ?_⟩, hb⟩
  have : (decide (0 ≤ cutI s c) && x && y) = false := by
    cases e : (decide (0 ≤ cutI s c) && x && y) with
    | false => rfl
    | true =>
      simp only [Bool.and_eq_true, decide_eq_true_eq] at e
      exact absurd ⟨e.1.1, hx.1 e.1.2, hy.1 e.2⟩ h
  rw [this]
end Go.Proofs.YtppbagllhmeenaaGreatDoor
