/- word.Pair at a mark of one byte, at any text. -/
import Derived.Test.YtdicoggpcobbpaaDoorCutPlain
namespace Go.Proofs.YtdicoggpcobbpaaDoor
open Go.RowKit
open Classical
set_option linter.unusedVariables false
set_option linter.unusedSimpArgs false

/-- two numbers with a mark between -/
def PairOk (c : UInt8) (x : ByteArray) : Prop := 0 ≤ cutI x c ∧ NumS (cutA x c) 9 ∧ NumS (cutB x c) 9
def pairV (c : UInt8) (x : ByteArray) : Int × Int := (valS (cutA x c), valS (cutB x c))
def PairNo (w : World) (e : Ending) (w' : World) : Prop := (∃ n m : Int, e = .returned (.tuple #[.int .i64 n, .int .i64 m, .bool false])) ∧ Below w.heap.size w w'
theorem num9 {s : ByteArray} (h : NumS s 9) : valS s < 1000000000 := Nat.lt_of_lt_of_le h.lt (Nat.pow_le_pow_right (by decide) h.short)

set_option maxHeartbeats 1000000 in
theorem pair_core (c : UInt8) (s : ByteArray) (w : World) (hn : s.size ≤ 9223372036854775807) (n m : Int) (x y : Bool)
    (hA : ∀ W, Calls Tryd.prog 39 #[.string (cutA s c)] W fun e w' => e = .returned (.tuple #[.int .i64 n, .bool x]) ∧ Below W.heap.size W w')
    (hB : ∀ W, Calls Tryd.prog 39 #[.string (cutB s c)] W fun e w' => e = .returned (.tuple #[.int .i64 m, .bool y]) ∧ Below W.heap.size W w') :
    Calls Tryd.prog 51 #[.string s, .string ⟨#[c]⟩] w fun e w' => e = .returned (.tuple #[.int .i64 n, .int .i64 m, .bool (decide (0 ≤ cutI s c) && x && y)]) ∧ Below w.heap.size w w' := by
  have CC := Lib.hid (cut_one s c w hn)
  have CA := Lib.hid hA
  have CB := Lib.hid hB
  generalize cutA s c = a at *
  generalize cutB s c = b at *
  generalize decide (0 ≤ cutI s c) = i at *
  clear hA hB
  cases i <;> cases x <;> cases y
  all_goals
    go_enter Tryd.func51, Tryd.ntmps51
    go_wp2_with fail
    refine CC.out.mono ?_
    rintro e w1 ⟨rfl, hb⟩
    have HB1 := Lib.hid hb
    clear hb
    go_wp2_with fail
    refine (CA.out _).mono ?_
    rintro e w2 ⟨rfl, hb⟩
    have HB2 := Lib.hid (bt HB1.out hb)
    clear hb
    go_wp2_with fail
    refine (CB.out _).mono ?_
    rintro e w3 ⟨rfl, hb⟩
    have HB3 := Lib.hid (bt HB2.out hb)
    clear hb
    go_wp2
    go_ret3
    exact ⟨rfl, HB3.out⟩
theorem pair_yes (c : UInt8) (s : ByteArray) (w : World) (hn : s.size ≤ 9223372036854775807) (h : PairOk c s) :
    Calls Tryd.prog 51 #[.string s, .string ⟨#[c]⟩] w fun e w' => e = .returned (.tuple #[.int .i64 (pairV c s).1, .int .i64 (pairV c s).2, .bool true]) ∧ Below w.heap.size w w' := by
  refine (pair_core c s w hn _ _ true true (fun W => number_yes _ W h.2.1) (fun W => number_yes _ W h.2.2)).mono ?_
  rintro e w' ⟨rfl, hb⟩
  rw [decide_eq_true h.1]
  exact ⟨rfl, hb⟩
theorem pair_no (c : UInt8) (s : ByteArray) (w : World) (hn : s.size ≤ 9223372036854775807) (h : ¬ PairOk c s) :
    Calls Tryd.prog 51 #[.string s, .string ⟨#[c]⟩] w (PairNo w) := by
  have la := cutA_le s c
  have lb := cutB_le s c
  have nine : ∀ t : ByteArray, t.size ≤ s.size → ∃ (n : Int) (x : Bool), (x = true ↔ NumS t 9) ∧ ∀ W, Calls Tryd.prog 39 #[.string t] W fun e w' => e = .returned (.tuple #[.int .i64 n, .bool x]) ∧ Below W.heap.size W w' := by
    intro t ht
    by_cases hN : NumS t 9
    · exact ⟨_, true, by simp [hN], fun W => number_yes t W hN⟩
    · exact ⟨_, false, by simp [hN], fun W => number_no t W (by omega) hN⟩
  obtain ⟨n, x, hx, hA⟩ := nine _ la
  obtain ⟨m, y, hy, hB⟩ := nine _ lb
  refine (pair_core c s w hn n m x y hA hB).mono ?_
  rintro e w' ⟨rfl, hb⟩
  refine ⟨⟨n, m, ?_⟩, hb⟩
  have : (decide (0 ≤ cutI s c) && x && y) = false := by
    cases e : (decide (0 ≤ cutI s c) && x && y) with
    | false => rfl
    | true =>
      simp only [Bool.and_eq_true, decide_eq_true_eq] at e
      exact absurd ⟨e.1.1, hx.1 e.1.2, hy.1 e.2⟩ h
  rw [this]
end Go.Proofs.YtdicoggpcobbpaaDoor
