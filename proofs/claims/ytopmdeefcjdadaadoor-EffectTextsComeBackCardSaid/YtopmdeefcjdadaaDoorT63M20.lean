/- The reference's Number at any text. The reference's Decimal with two digits behind the full stop, at any text. Read of levels of both sides at any text (printed by gen/gen_readany.py). -/
import Derived.Test.YtopmdeefcjdadaaDoorT63M19
import Derived.Test.YtopmdeefcjdadaaDoorT63M15

namespace Go.Proofs.YtopmdeefcjdadaaDoor
open Go.RowKit
open Classical
set_option linter.unusedVariables false
set_option linter.unusedSimpArgs false

theorem zero_list {s : ByteArray} (h1 : s.size = 1) (h : ∀ h : 0 < s.size, s[0] = 48) : s.toList = [48] := by
  rw [Lib.toList_data]
  have h1' : s.data.toList.length = 1 := by rw [← Lib.size_eq]; exact h1
  match hc : s.data.toList, h1' with
  | [a], _ =>
    have e : s.data = #[a] := by rw [← Array.toArray_toList (xs := s.data), hc]
    have e2 : s.data[0]? = some a := by rw [e]; rfl
    have h0 : 0 < s.size := by omega
    rw [Array.getElem?_eq_getElem (show 0 < s.data.size from h0)] at e2
    have := h h0
    rw [← Option.some.inj e2]
    exact congrArg (fun x => [x]) this

end Go.Proofs.YtopmdeefcjdadaaDoor

namespace Go.Proofs.YtopmdeefcjdadaaDoor
open Go.RowKit
open Classical
set_option linter.unusedVariables false
set_option linter.unusedSimpArgs false

theorem ret_int {x y : Int} (h : x = y) : Ending.returned (.tuple #[.int .i64 x, .bool true]) = Ending.returned (.tuple #[.int .i64 y, .bool true]) := by rw [h]
theorem get_pad {b c : ByteArray} (i : Nat) (h : i < b.size) (h2 : i < (b ++ c).size) : (b ++ c)[i] = b[i] := by
  rw [ByteArray.getElem_append_left h]
theorem get_pad2 {b c : ByteArray} (i : Nat) (h : b.size ≤ i) (h2 : i < (b ++ c).size) : (b ++ c)[i] = c[i - b.size]'(by rw [ByteArray.size_append] at h2; omega) := by
  rw [ByteArray.getElem_append_right h]

end Go.Proofs.YtopmdeefcjdadaaDoor

namespace Go.Proofs.YtopmdeefcjdadaaDoor
open Go.RowKit
set_option linter.unusedVariables false
set_option linter.unusedSimpArgs false

def preT (s : ByteArray) : ByteArray := ⟨(Lib.trimPrefix s.data.toList [35]).toArray⟩
def preB (s : ByteArray) : Bool := Lib.hasPrefix s.data.toList [35]
def sufT (s : ByteArray) : ByteArray := ⟨(Lib.trimSuffix s.data.toList [37]).toArray⟩
def sufB (s : ByteArray) : Bool := Lib.hasSuffix s.data.toList [37]
theorem preT_le (s : ByteArray) : (preT s).size ≤ s.size := by
  rw [Lib.size_eq, Lib.size_eq s]
  simp only [preT, Lib.trimPrefix]
  split <;> simp
theorem sufT_le (s : ByteArray) : (sufT s).size ≤ s.size := by
  rw [Lib.size_eq, Lib.size_eq s]
  simp only [sufT, Lib.trimSuffix]
  split <;> simp
theorem callPre (s : ByteArray) (W : World) : Calls Tryd.prog 35 #[.string s, .string ⟨#[35]⟩] W fun e w' => e = .returned (.tuple #[.string (preT s), .bool (preB s)]) ∧ w' = W := Tryd.strings_CutPrefix s ⟨#[35]⟩ W
theorem callSuf (s : ByteArray) (W : World) (hn : s.size ≤ 9223372036854775807) : Calls Tryd.prog 41 #[.string s, .string ⟨#[37]⟩] W fun e w' => e = .returned (.tuple #[.string (sufT s), .bool (sufB s)]) ∧ w' = W := Tryd.strings_CutSuffix s ⟨#[37]⟩ W hn

/-- s, which is neither 'out' nor 'full', stands for the level v -/
def RdS (k : Nat) (s : ByteArray) (v : Int) : Prop :=
  (preB s = true ∧ NumS (preT s) 9 ∧ valS (preT s) ≤ 65535 ∧ v = valS (preT s)) ∨ (preB s = false ∧ sufB s = true ∧ ∃ d, DecS k (sufT s) d ∧ d ≤ 10000 ∧ v = rnd (d * 65535) 10000)
theorem rest_range {b : ByteArray} {r : Int} (h : Rest b r) : 0 ≤ r ∧ r ≤ 99 := by
  rcases h with ⟨_, d0, _, rfl⟩ | ⟨_, d0, d1, _, rfl⟩
  · have := dig_int d0; omega
  · have := dig_int d0; have := dig_int d1; omega
theorem dec_range {k : Nat} {s : ByteArray} {d : Int} (hk : k ≤ 9) (h : DecS k s d) : 0 ≤ d ∧ d ≤ 100000000099 := by
  obtain ⟨h1, hc⟩ := h
  have := Nat.lt_of_lt_of_le h1.lt (show 10 ^ (cutA s 46).size ≤ 10 ^ 9 from Nat.pow_le_pow_right (by omega) (Nat.le_trans h1.short hk))
  rcases hc with ⟨_, rfl⟩ | ⟨_, r, hr, rfl⟩
  · omega
  · have := rest_range hr; omega
theorem dec_fn {k j : Nat} {s : ByteArray} {d e : Int} (h : DecS k s d) (h' : DecS j s e) : d = e := by
  obtain ⟨_, hc⟩ := h
  obtain ⟨_, hc'⟩ := h'
  rcases hc with ⟨a, rfl⟩ | ⟨a, r, hr, rfl⟩ <;> rcases hc' with ⟨a', rfl⟩ | ⟨a', r', hr', rfl⟩
  · rfl
  · omega
  · omega
  · have : r = r' := by
      rcases hr with ⟨s1, _, _, rfl⟩ | ⟨s1, _, _, _, rfl⟩ <;> rcases hr' with ⟨s2, _, _, rfl⟩ | ⟨s2, _, _, _, rfl⟩
      · rfl
      · omega
      · omega
      · rfl
    rw [this]
theorem num_up {s : ByteArray} (h : NumS s 3) : NumS s 9 := ⟨h.pos, by have := h.short; omega, h.dig, h.head⟩
theorem num_down {s : ByteArray} (h : NumS s 9) (hv : valS s ≤ 100) : NumS s 3 := by
  refine ⟨h.pos, ?_, h.dig, h.head⟩
  rcases Nat.lt_or_ge 3 s.size with h3 | h3
  · have := h.ge (by omega)
    have e : 10 ^ 3 ≤ 10 ^ (s.size - 1) := Nat.pow_le_pow_right (by omega) (by omega)
    omega
  · exact h3
theorem rd_same (s : ByteArray) (v : Int) : RdS 9 s v ↔ RdS 3 s v := by
  unfold RdS
  constructor
  · rintro (h | ⟨h1, h2, d, ⟨h3, h4⟩, h5, rfl⟩)
    · exact .inl h
    · refine .inr ⟨h1, h2, d, ⟨num_down h3 ?_, h4⟩, h5, rfl⟩
      rcases h4 with ⟨_, rfl⟩ | ⟨_, r, hr, rfl⟩
      · omega
      · have := rest_range hr; omega
  · rintro (h | ⟨h1, h2, d, ⟨h3, h4⟩, h5, rfl⟩)
    · exact .inl h
    · exact .inr ⟨h1, h2, d, ⟨num_up h3, h4⟩, h5, rfl⟩

set_option maxHeartbeats 4000000 in
theorem read_good (s : ByteArray) (v : Int) (w : World) (hn : s.size ≤ 9223372036854775807) (e1 : ¬ s.toList = [111, 117, 116]) (e2 : ¬ s.toList = [102, 117, 108, 108]) (h : RdS 9 s v) :
    Calls Tryd.prog 32 #[.string s] w fun e w' => e = .returned (.tuple #[.int .i64 v, .int .i64 0]) ∧ Below w.heap.size w w' := by
  have f1 : (s.toList == [111, 117, 116]) = false := beq_eq_false_iff_ne.2 e1
  have f2 : (s.toList == [102, 117, 108, 108]) = false := beq_eq_false_iff_ne.2 e2
  have CP := Lib.hid (callPre s)
  have CS := Lib.hid (fun W => callSuf s W hn)
  have lp := preT_le s
  have ls := sufT_le s
  unfold RdS at h
  generalize preT s = t at *
  generalize preB s = pb at *
  generalize sufT s = u at *
  generalize sufB s = sb at *
  rcases h with ⟨rfl, h1, h2, rfl⟩ | ⟨rfl, rfl, d, h1, h2, rfl⟩
  · have CN := Lib.hid (fun W => number_yes t W h1)
    have CL := Lib.hid (fun W => isLevel_yes (valS t) W ⟨by omega, by omega⟩)
    generalize valS t = n at *
    clear h1 lp ls
    go_enter Tryd.func32, Tryd.ntmps32
    go_wp2_with fail
    refine (CP.out _).mono ?_
    rintro e w' ⟨rfl, rfl⟩
    go_wp2_with fail
    refine (CN.out _).mono ?_
    rintro e w1 ⟨rfl, hb⟩
    have HB := Lib.hid hb
    clear hb
    go_wp2_with fail
    refine (CL.out _).mono ?_
    rintro e w' ⟨rfl, rfl⟩
    go_wp2
    go_ret2
    exact ⟨rfl, HB.out⟩
  · have hr := dec_range (by omega) h1
    have CD := Lib.hid (fun W => decimal_ok u d W (by omega) h1)
    have CR := Lib.hid (fun W => round_any (d * 65535) 10000 W (by omega) (by omega) (by omega) (by omega))
    have b1 : ¬ (10000 < d) := by omega
    generalize rnd (d * 65535) 10000 = y at *
    obtain ⟨r1, r2⟩ := hr
    clear h1 lp ls
    go_enter Tryd.func32, Tryd.ntmps32
    go_wp2_with fail
    refine (CP.out _).mono ?_
    rintro e w' ⟨rfl, rfl⟩
    go_wp2_with fail
    refine (CS.out _).mono ?_
    rintro e w' ⟨rfl, rfl⟩
    go_wp2_with fail
    refine (CD.out _).mono ?_
    rintro e w1 ⟨rfl, hb⟩
    have HB := Lib.hid hb
    clear hb
    go_wp2_with fail
    refine (CR.out _).mono ?_
    rintro e w' ⟨rfl, rfl⟩
    go_wp2
    go_ret2
    exact ⟨rfl, HB.out⟩

set_option maxHeartbeats 4000000 in
theorem read_wrong (s : ByteArray) (w : World) (hn : s.size ≤ 9223372036854775807) (e1 : ¬ s.toList = [111, 117, 116]) (e2 : ¬ s.toList = [102, 117, 108, 108]) (h : ¬ ∃ v, RdS 9 s v) :
    Calls Tryd.prog 32 #[.string s] w fun e w' => e = .returned (.tuple #[.int .i64 0, .int .i64 9]) ∧ Below w.heap.size w w' := by
  have f1 : (s.toList == [111, 117, 116]) = false := beq_eq_false_iff_ne.2 e1
  have f2 : (s.toList == [102, 117, 108, 108]) = false := beq_eq_false_iff_ne.2 e2
  have CP := Lib.hid (callPre s)
  have CS := Lib.hid (fun W => callSuf s W hn)
  have lp := preT_le s
  have ls := sufT_le s
  unfold RdS at h
  generalize preT s = t at *
  generalize preB s = pb at *
  generalize sufT s = u at *
  generalize sufB s = sb at *
  cases pb
  · by_cases h1 : ∃ d, DecS 9 u d
    · obtain ⟨d, hd⟩ := h1
      have hr := dec_range (by omega) hd
      have CD := Lib.hid (fun W => show Calls Tryd.prog 42 #[.string u, .int .i64 2] W fun e w' => e = .returned (.tuple #[.int .i64 d, .bool true]) ∧ Below W.heap.size W w' from decimal_ok u d W (by omega) hd)
      obtain ⟨r1, r2⟩ := hr
      cases sb
      · clear h hd lp ls
        go_enter Tryd.func32, Tryd.ntmps32
        go_wp2_with fail
        refine (CP.out _).mono ?_
        rintro e w' ⟨rfl, rfl⟩
        go_wp2_with fail
        refine (CS.out _).mono ?_
        rintro e w' ⟨rfl, rfl⟩
        go_wp2_with fail
        refine (CD.out _).mono ?_
        rintro e w1 ⟨rfl, hb⟩
        have HB := Lib.hid hb
        clear hb
        go_wp2
        go_ret2
        exact ⟨rfl, HB.out⟩
      · have b1 : 10000 < d := by
          rcases Int.lt_or_le 10000 d with hb | hb
          · exact hb
          · exact absurd ⟨_, .inr ⟨rfl, rfl, d, hd, hb, rfl⟩⟩ h
        clear h hd lp ls
        go_enter Tryd.func32, Tryd.ntmps32
        go_wp2_with fail
        refine (CP.out _).mono ?_
        rintro e w' ⟨rfl, rfl⟩
        go_wp2_with fail
        refine (CS.out _).mono ?_
        rintro e w' ⟨rfl, rfl⟩
        go_wp2_with fail
        refine (CD.out _).mono ?_
        rintro e w1 ⟨rfl, hb⟩
        have HB := Lib.hid hb
        clear hb
        go_wp2
        go_ret2
        exact ⟨rfl, HB.out⟩
    · have CD := Lib.hid (fun W => decimal_bad u W (by omega) h1)
      clear h h1 lp ls
      cases sb
      all_goals
        go_enter Tryd.func32, Tryd.ntmps32
        go_wp2_with fail
        refine (CP.out _).mono ?_
        rintro e w' ⟨rfl, rfl⟩
        go_wp2_with fail
        refine (CS.out _).mono ?_
        rintro e w' ⟨rfl, rfl⟩
        go_wp2_with fail
        refine (CD.out _).mono ?_
        rintro e w1 ⟨rfl, hb⟩
        have HB := Lib.hid hb
        clear hb
        go_wp2
        go_ret2
        exact ⟨rfl, HB.out⟩
  · by_cases h1 : NumS t 9
    · have hv : 65535 < (valS t : Int) := by
        rcases Nat.lt_or_ge 65535 (valS t) with hv | hv
        · omega
        · exact absurd ⟨_, .inl ⟨rfl, h1, hv, rfl⟩⟩ h
      have CN := Lib.hid (fun W => number_yes t W h1)
      have CL := Lib.hid (fun W => isLevel_no (valS t) W (.inr hv))
      generalize valS t = n at *
      clear h h1 hv lp ls
      go_enter Tryd.func32, Tryd.ntmps32
      go_wp2_with fail
      refine (CP.out _).mono ?_
      rintro e w' ⟨rfl, rfl⟩
      go_wp2_with fail
      refine (CN.out _).mono ?_
      rintro e w1 ⟨rfl, hb⟩
      have HB := Lib.hid hb
      clear hb
      go_wp2_with fail
      refine (CL.out _).mono ?_
      rintro e w' ⟨rfl, rfl⟩
      go_wp2
      go_ret2
      exact ⟨rfl, HB.out⟩
    · have CN := Lib.hid (fun W => number_no t W (by omega) h1)
      clear h h1 lp ls
      go_enter Tryd.func32, Tryd.ntmps32
      go_wp2_with fail
      refine (CP.out _).mono ?_
      rintro e w' ⟨rfl, rfl⟩
      go_wp2_with fail
      refine (CN.out _).mono ?_
      rintro e w1 ⟨rfl, hb⟩
      have HB := Lib.hid hb
      clear hb
      go_wp2
      go_ret2
      exact ⟨rfl, HB.out⟩

end Go.Proofs.YtopmdeefcjdadaaDoor
