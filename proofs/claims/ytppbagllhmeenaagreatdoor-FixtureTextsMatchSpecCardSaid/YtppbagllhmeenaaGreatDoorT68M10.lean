/- Read of levels of both sides at any text (printed by gen/gen_readany.py). -/
import Derived.Test.YtppbagllhmeenaaGreatDoorT68M08
import Derived.Test.YtppbagllhmeenaaGreatDoorT68M09

namespace Go.Proofs.YtppbagllhmeenaaGreatDoor
open Go.RowKit
set_option linter.unusedVariables false
set_option linter.unusedSimpArgs false

theorem rdecimal_ok (s : ByteArray) (v : Int) (w : World) (hn : s.size ≤ 9223372036854775807) (h : DecS 3 s v) :
    Calls Tryz.prog 115 #[.string s, .int .i64 3, .int .i64 2] w fun e w' => e = .returned (.tuple #[.int .i64 v, .bool true]) ∧ Below w.heap.size w w' := by
  obtain ⟨h1, hc⟩ := h
  have cc := cut_one s 46 w hn
  have la := cutA_le s 46
  have lb := cutB_le s 46
  rcases hc with ⟨h2, rfl⟩ | ⟨h2, r, hr, rfl⟩
  · exact rdec_whole s _ _ _ w hn la lb cc h1 h2 (by unfold cutB; rw [if_neg (by omega)])
  · rcases hr with ⟨hs, d0, n0, rfl⟩ | ⟨hs, d0, d1, n1, rfl⟩
    · exact rdec_1 s _ _ _ w hn la lb cc h1 h2 hs d0 n0
    · exact rdec_2 s _ _ _ w hn la lb cc h1 h2 hs d0 d1 n1
theorem rdecimal_bad (s : ByteArray) (w : World) (hn : s.size ≤ 9223372036854775807) (h : ¬ ∃ v, DecS 3 s v) :
    Calls Tryz.prog 115 #[.string s, .int .i64 3, .int .i64 2] w fun e w' => e = .returned (.tuple #[.int .i64 0, .bool false]) ∧ Below w.heap.size w w' := by
  have cc := cut_one s 46 w hn
  have la := cutA_le s 46
  have lb := cutB_le s 46
  by_cases h1 : NumS (cutA s 46) 3
  · have h2 : 0 ≤ cutI s 46 := by
      rcases cutI_lt s 46 with h2 | h2
      · by_cases h3 : 0 ≤ cutI s 46
        · exact h3
        · exact absurd ⟨_, h1, .inl ⟨by omega, rfl⟩⟩ h
      · exact absurd ⟨_, h1, .inl ⟨h2, rfl⟩⟩ h
    have h3 : ¬ ∃ r, Rest (cutB s 46) r := fun ⟨r, hr⟩ => h ⟨_, h1, .inr ⟨h2, r, hr, rfl⟩⟩
    clear h
    generalize cutA s 46 = a at *
    generalize cutB s 46 = b at *
    generalize cutI s 46 = i at *
    by_cases e0 : b.size = 0
    · exact rdec_b0 s _ _ _ w hn la lb cc h1 h2 e0
    by_cases e3 : 2 < b.size
    · exact rdec_b3 s _ _ _ w hn la lb cc h1 h2 e3
    by_cases e48 : b[b.size - 1] = 48
    · exact rdec_b48 s _ _ _ w hn la lb cc h1 h2 (by omega) ⟨by omega, e48⟩
    rcases (show b.size = 1 ∨ b.size = 2 by omega) with hs | hs
    · have n1 : b[0] ≠ 48 := fun e => e48 (by rw [← e]; congr 1; omega)
      have hd : ¬ IsDig b[0] := fun d => h3 ⟨_, .inl ⟨hs, d, n1, rfl⟩⟩
      unfold IsDig at hd
      by_cases hlo : (b[0].toNat : Int) < 48
      · exact rdec_n10l s _ _ _ w hn la lb cc h1 h2 hs hlo n1
      · exact rdec_n10h s _ _ _ w hn la lb cc h1 h2 hs (by omega) n1
    · have n1 : b[1] ≠ 48 := fun e => e48 (by rw [← e]; congr 1; omega)
      by_cases hd : IsDig b[0]
      · have hd1 : ¬ IsDig b[1] := fun d => h3 ⟨_, .inr ⟨hs, hd, d, n1, rfl⟩⟩
        unfold IsDig at hd1
        by_cases hlo : (b[1].toNat : Int) < 48
        · exact rdec_n21l s _ _ _ w hn la lb cc h1 h2 hs hd hlo n1
        · exact rdec_n21h s _ _ _ w hn la lb cc h1 h2 hs hd (by omega) n1
      · unfold IsDig at hd
        by_cases hlo : (b[0].toNat : Int) < 48
        · exact rdec_n20l s _ _ _ w hn la lb cc h1 h2 hs hlo n1
        · exact rdec_n20h s _ _ _ w hn la lb cc h1 h2 hs (by omega) n1
  · exact rdec_no s _ _ _ w hn la lb cc h1

def preT (s : ByteArray) : ByteArray := ⟨(Lib.trimPrefix s.data.toList [35]).toArray⟩
def preB (s : ByteArray) : Bool := Lib.hasPrefix s.data.toList [35]
def sufT (s : ByteArray) : ByteArray := ⟨(Lib.trimSuffix s.data.toList [37]).toArray⟩
def sufB (s : ByteArray) : Bool := Lib.hasSuffix s.data.toList [37]
theorem preT_le (s : ByteArray) : (preT s).size ≤ s.size := by
  rw [Lib.size_eq, Lib.size_eq s]
  simp only [preT, Lib.trimPrefix]
  split <;> simp
theorem sufT_le (s : ByteArray) : (sufT s).size ≤ s.size := by
  rw [Lib.size_eq, Lib.size_eq s]
  simp only [sufT, Lib.trimSuffix]
  split <;> simp
theorem callPre (s : ByteArray) (W : World) : Calls Tryz.prog 85 #[.string s, .string ⟨#[35]⟩] W fun e w' => e = .returned (.tuple #[.string (preT s), .bool (preB s)]) ∧ w' = W := Tryz.strings_CutPrefix s ⟨#[35]⟩ W
theorem callSuf (s : ByteArray) (W : World) (hn : s.size ≤ 9223372036854775807) : Calls Tryz.prog 86 #[.string s, .string ⟨#[37]⟩] W fun e w' => e = .returned (.tuple #[.string (sufT s), .bool (sufB s)]) ∧ w' = W := Tryz.strings_CutSuffix s ⟨#[37]⟩ W hn

/-- s, which is neither 'out' nor 'full', stands for the level v -/
def RdS (k : Nat) (s : ByteArray) (v : Int) : Prop :=
  (preB s = true ∧ NumS (preT s) 9 ∧ valS (preT s) ≤ 65535 ∧ v = valS (preT s)) ∨ (preB s = false ∧ sufB s = true ∧ ∃ d, DecS k (sufT s) d ∧ d ≤ 10000 ∧ v = rnd (d * 65535) 10000)
theorem rest_range {b : ByteArray} {r : Int} (h : Rest b r) : 0 ≤ r ∧ r ≤ 99 := by
  rcases h with ⟨_, d0, _, rfl⟩ | ⟨_, d0, d1, _, rfl⟩
  · have := dig_int d0; omega
  · have := dig_int d0; have := dig_int d1; omega
theorem dec_range {k : Nat} {s : ByteArray} {d : Int} (hk : k ≤ 9) (h : DecS k s d) : 0 ≤ d ∧ d ≤ 100000000099 := by
  obtain ⟨h1, hc⟩ := h
  have := Nat.lt_of_lt_of_le h1.lt (show 10 ^ (cutA s 46).size ≤ 10 ^ 9 from Nat.pow_le_pow_right (by omega) (Nat.le_trans h1.short hk))
  rcases hc with ⟨_, rfl⟩ | ⟨_, r, hr, rfl⟩
  · omega
  · have := rest_range hr; omega
theorem dec_fn {k j : Nat} {s : ByteArray} {d e : Int} (h : DecS k s d) (h' : DecS j s e) : d = e := by
  obtain ⟨_, hc⟩ := h
  obtain ⟨_, hc'⟩ := h'
  rcases hc with ⟨a, rfl⟩ | ⟨a, r, hr, rfl⟩ <;> rcases hc' with ⟨a', rfl⟩ | ⟨a', r', hr', rfl⟩
  · rfl
  · omega
  · omega
  · have : r = r' := by
      rcases hr with ⟨s1, _, _, rfl⟩ | ⟨s1, _, _, _, rfl⟩ <;> rcases hr' with ⟨s2, _, _, rfl⟩ | ⟨s2, _, _, _, rfl⟩
      · rfl
      · omega
      · omega
      · rfl
    rw [this]
theorem num_up {s : ByteArray} (h : NumS s 3) : NumS s 9 := ⟨h.pos, by have := h.short; omega, h.dig, h.head⟩
theorem num_down {s : ByteArray} (h : NumS s 9) (hv : valS s ≤ 100) : NumS s 3 := by
  refine ⟨h.pos, ?_, h.dig, h.head⟩
  rcases Nat.lt_or_ge 3 s.size with h3 | h3
  · have := h.ge (by omega)
    have e : 10 ^ 3 ≤ 10 ^ (s.size - 1) := Nat.pow_le_pow_right (by omega) (by omega)
    omega
  · exact h3
theorem rd_same (s : ByteArray) (v : Int) : RdS 9 s v ↔ RdS 3 s v := by
  unfold RdS
  constructor
  · rintro (h | ⟨h1, h2, d, ⟨h3, h4⟩, h5, rfl⟩)
    · exact .inl h
    · refine .inr ⟨h1, h2, d, ⟨num_down h3 ?_, h4⟩, h5, rfl⟩
      rcases h4 with ⟨_, rfl⟩ | ⟨_, r, hr, rfl⟩
      · omega
      · have := rest_range hr; omega
  · rintro (h | ⟨h1, h2, d, ⟨h3, h4⟩, h5, rfl⟩)
    · exact .inl h
    · exact .inr ⟨h1, h2, d, ⟨num_up h3, h4⟩, h5, rfl⟩

set_option maxHeartbeats 4000000 in
theorem read_good (s : ByteArray) (v : Int) (w : World) (hn : s.size ≤ 9223372036854775807) (e1 : ¬ s.toList = [111, 117, 116]) (e2 : ¬ s.toList = [102, 117, 108, 108]) (h : RdS 9 s v) :
    Calls Tryz.prog 62 #[.string s] w fun e w' => e = .returned (.tuple #[.int .i64 v, .int .i64 0]) ∧ Below w.heap.size w w' := by
  have f1 : (s.toList == [111, 117, 116]) = false := beq_eq_false_iff_ne.2 e1
  have f2 : (s.toList == [102, 117, 108, 108]) = false := beq_eq_false_iff_ne.2 e2
  have CP := Lib.hid (callPre s)
  have CS := Lib.hid (fun W => callSuf s W hn)
  have lp := preT_le s
  have ls := sufT_le s
  unfold RdS at h
  generalize preT s = t at *
  generalize preB s = pb at *
  generalize sufT s = u at *
  generalize sufB s = sb at *
  rcases h with ⟨rfl, h1, h2, rfl⟩ | ⟨rfl, rfl, d, h1, h2, rfl⟩
  · have CN := Lib.hid (fun W => number_yes t W h1)
    have CL := Lib.hid (fun W => isLevel_yes (valS t) W ⟨by omega, by omega⟩)
    generalize valS t = n at *
    clear h1 lp ls
    go_enter Tryz.func62, Tryz.ntmps62
    go_wp2_with fail
    refine (CP.out _).mono ?_
    rintro e w' ⟨rfl, rfl⟩
    go_wp2_with fail
    refine (CN.out _).mono ?_
    rintro e w1 ⟨rfl, hb⟩
    have HB := Lib.hid hb
    clear hb
    go_wp2_with fail
    refine (CL.out _).mono ?_
    rintro e w' ⟨rfl, rfl⟩
    go_wp2
    go_ret2
    exact ⟨rfl, HB.out⟩
  · have hr := dec_range (by omega) h1
    have CD := Lib.hid (fun W => decimal_ok u d W (by omega) h1)
    have CR := Lib.hid (fun W => round_any (d * 65535) 10000 W (by omega) (by omega) (by omega) (by omega))
    have b1 : ¬ (10000 < d) := by omega
    generalize rnd (d * 65535) 10000 = y at *
    obtain ⟨r1, r2⟩ := hr
    clear h1 lp ls
    go_enter Tryz.func62, Tryz.ntmps62
    go_wp2_with fail
    refine (CP.out _).mono ?_
    rintro e w' ⟨rfl, rfl⟩
    go_wp2_with fail
    refine (CS.out _).mono ?_
    rintro e w' ⟨rfl, rfl⟩
    go_wp2_with fail
    refine (CD.out _).mono ?_
    rintro e w1 ⟨rfl, hb⟩
    have HB := Lib.hid hb
    clear hb
    go_wp2_with fail
    refine (CR.out _).mono ?_
    rintro e w' ⟨rfl, rfl⟩
    go_wp2
    go_ret2
    exact ⟨rfl, HB.out⟩

set_option maxHeartbeats 4000000 in
theorem read_wrong (s : ByteArray) (w : World) (hn : s.size ≤ 9223372036854775807) (e1 : ¬ s.toList = [111, 117, 116]) (e2 : ¬ s.toList = [102, 117, 108, 108]) (h : ¬ ∃ v, RdS 9 s v) :
    Calls Tryz.prog 62 #[.string s] w fun e w' => e = .returned (.tuple #[.int .i64 0, .int .i64 9]) ∧ Below w.heap.size w w' := by
  have f1 : (s.toList == [111, 117, 116]) = false := beq_eq_false_iff_ne.2 e1
  have f2 : (s.toList == [102, 117, 108, 108]) = false := beq_eq_false_iff_ne.2 e2
  have CP := Lib.hid (callPre s)
  have CS := Lib.hid (fun W => callSuf s W hn)
  have lp := preT_le s
  have ls := sufT_le s
  unfold RdS at h
  generalize preT s = t at *
  generalize preB s = pb at *
  generalize sufT s = u at *
  generalize sufB s = sb at *
  cases pb
  · by_cases h1 : ∃ d, DecS 9 u d
    · obtain ⟨d, hd⟩ := h1
      have hr := dec_range (by omega) hd
      have CD := Lib.hid (fun W => show Calls Tryz.prog 87 #[.string u, .int .i64 2] W fun e w' => e = .returned (.tuple #[.int .i64 d, .bool true]) ∧ Below W.heap.size W w' from decimal_ok u d W (by omega) hd)
      obtain ⟨r1, r2⟩ := hr
      cases sb
      · clear h hd lp ls
        go_enter Tryz.func62, Tryz.ntmps62
        go_wp2_with fail
        refine (CP.out _).mono ?_
        rintro e w' ⟨rfl, rfl⟩
        go_wp2_with fail
        refine (CS.out _).mono ?_
        rintro e w' ⟨rfl, rfl⟩
        go_wp2_with fail
        refine (CD.out _).mono ?_
        rintro e w1 ⟨rfl, hb⟩
        have HB := Lib.hid hb
        clear hb
        go_wp2
        go_ret2
        exact ⟨rfl, HB.out⟩
      · have b1 : 10000 < d := by
          rcases Int.lt_or_le 10000 d with hb | hb
          · exact hb
          · exact absurd ⟨_, .inr ⟨rfl, rfl, d, hd, hb, rfl⟩⟩ h
        clear h hd lp ls
        go_enter Tryz.func62, Tryz.ntmps62
        go_wp2_with fail
        refine (CP.out _).mono ?_
        rintro e w' ⟨rfl, rfl⟩
        go_wp2_with fail
        refine (CS.out _).mono ?_
        rintro e w' ⟨rfl, rfl⟩
        go_wp2_with fail
        refine (CD.out _).mono ?_
        rintro e w1 ⟨rfl, hb⟩
        have HB := Lib.hid hb
        clear hb
        go_wp2
        go_ret2
        exact ⟨rfl, HB.out⟩
    · have CD := Lib.hid (fun W => decimal_bad u W (by omega) h1)
      clear h h1 lp ls
      cases sb
      all_goals
        go_enter Tryz.func62, Tryz.ntmps62
        go_wp2_with fail
        refine (CP.out _).mono ?_
        rintro e w' ⟨rfl, rfl⟩
        go_wp2_with fail
        refine (CS.out _).mono ?_
        rintro e w' ⟨rfl, rfl⟩
        go_wp2_with fail
        refine (CD.out _).mono ?_
        rintro e w1 ⟨rfl, hb⟩
        have HB := Lib.hid hb
        clear hb
        go_wp2
        go_ret2
        exact ⟨rfl, HB.out⟩
  · by_cases h1 : NumS t 9
    · have hv : 65535 < (valS t : Int) := by
        rcases Nat.lt_or_ge 65535 (valS t) with hv | hv
        · omega
        · exact absurd ⟨_, .inl ⟨rfl, h1, hv, rfl⟩⟩ h
      have CN := Lib.hid (fun W => number_yes t W h1)
      have CL := Lib.hid (fun W => isLevel_no (valS t) W (.inr hv))
      generalize valS t = n at *
      clear h h1 hv lp ls
      go_enter Tryz.func62, Tryz.ntmps62
      go_wp2_with fail
      refine (CP.out _).mono ?_
      rintro e w' ⟨rfl, rfl⟩
      go_wp2_with fail
      refine (CN.out _).mono ?_
      rintro e w1 ⟨rfl, hb⟩
      have HB := Lib.hid hb
      clear hb
      go_wp2_with fail
      refine (CL.out _).mono ?_
      rintro e w' ⟨rfl, rfl⟩
      go_wp2
      go_ret2
      exact ⟨rfl, HB.out⟩
    · have CN := Lib.hid (fun W => number_no t W (by omega) h1)
      clear h h1 lp ls
      go_enter Tryz.func62, Tryz.ntmps62
      go_wp2_with fail
      refine (CP.out _).mono ?_
      rintro e w' ⟨rfl, rfl⟩
      go_wp2_with fail
      refine (CN.out _).mono ?_
      rintro e w1 ⟨rfl, hb⟩
      have HB := Lib.hid hb
      clear hb
      go_wp2
      go_ret2
      exact ⟨rfl, HB.out⟩

set_option maxHeartbeats 4000000 in
theorem rread_good (s : ByteArray) (v : Int) (w : World) (hn : s.size ≤ 9223372036854775807) (e1 : ¬ s.toList = [111, 117, 116]) (e2 : ¬ s.toList = [102, 117, 108, 108]) (h : RdS 3 s v) :
    Calls Tryz.prog 95 #[.string s] w fun e w' => e = .returned (.tuple #[.int .i64 v, .int .i64 0]) ∧ Below w.heap.size w w' := by
  have f1 : (s.toList == [111, 117, 116]) = false := beq_eq_false_iff_ne.2 e1
  have f2 : (s.toList == [102, 117, 108, 108]) = false := beq_eq_false_iff_ne.2 e2
  have CP := Lib.hid (callPre s)
  have CS := Lib.hid (fun W => callSuf s W hn)
  have lp := preT_le s
  have ls := sufT_le s
  unfold RdS at h
  generalize preT s = t at *
  generalize preB s = pb at *
  generalize sufT s = u at *
  generalize sufB s = sb at *
  rcases h with ⟨rfl, h1, h2, rfl⟩ | ⟨rfl, rfl, d, h1, h2, rfl⟩
  · have CN := Lib.hid (fun W => rnumber_ok t 9 W (by omega) h1)
    have CL := Lib.hid (fun W => rIsLevel_yes (valS t) W ⟨by omega, by omega⟩)
    generalize valS t = n at *
    clear h1 lp ls
    go_enter Tryz.func95, Tryz.ntmps95
    go_wp2_with fail
    refine (CP.out _).mono ?_
    rintro e w' ⟨rfl, rfl⟩
    go_wp2_with fail
    refine (CN.out _).mono ?_
    rintro e w1 ⟨rfl, hb⟩
    have HB := Lib.hid hb
    clear hb
    go_wp2_with fail
    refine (CL.out _).mono ?_
    rintro e w' ⟨rfl, rfl⟩
    go_wp2
    go_ret2
    exact ⟨rfl, HB.out⟩
  · have hr := dec_range (by omega) h1
    have CD := Lib.hid (fun W => rdecimal_ok u d W (by omega) h1)
    have CR := Lib.hid (fun W => percent_any d W (by omega) (by omega))
    have b1 : ¬ (10000 < d) := by omega
    generalize rnd (d * 65535) 10000 = y at *
    obtain ⟨r1, r2⟩ := hr
    clear h1 lp ls
    go_enter Tryz.func95, Tryz.ntmps95
    go_wp2_with fail
    refine (CP.out _).mono ?_
    rintro e w' ⟨rfl, rfl⟩
    go_wp2_with fail
    refine (CS.out _).mono ?_
    rintro e w' ⟨rfl, rfl⟩
    go_wp2_with fail
    refine (CD.out _).mono ?_
    rintro e w1 ⟨rfl, hb⟩
    have HB := Lib.hid hb
    clear hb
    go_wp2_with fail
    refine (CR.out _).mono ?_
    rintro e w' ⟨rfl, rfl⟩
    go_wp2
    go_ret2
    exact ⟨rfl, HB.out⟩

set_option maxHeartbeats 4000000 in
theorem rread_wrong (s : ByteArray) (w : World) (hn : s.size ≤ 9223372036854775807) (e1 : ¬ s.toList = [111, 117, 116]) (e2 : ¬ s.toList = [102, 117, 108, 108]) (h : ¬ ∃ v, RdS 3 s v) :
    Calls Tryz.prog 95 #[.string s] w fun e w' => e = .returned (.tuple #[.int .i64 0, .int .i64 9]) ∧ Below w.heap.size w w' := by
  have f1 : (s.toList == [111, 117, 116]) = false := beq_eq_false_iff_ne.2 e1
  have f2 : (s.toList == [102, 117, 108, 108]) = false := beq_eq_false_iff_ne.2 e2
  have CP := Lib.hid (callPre s)
  have CS := Lib.hid (fun W => callSuf s W hn)
  have lp := preT_le s
  have ls := sufT_le s
  unfold RdS at h
  generalize preT s = t at *
  generalize preB s = pb at *
  generalize sufT s = u at *
  generalize sufB s = sb at *
  cases pb
  · by_cases h1 : ∃ d, DecS 3 u d
    · obtain ⟨d, hd⟩ := h1
      have hr := dec_range (by omega) hd
      have CD := Lib.hid (fun W => show Calls Tryz.prog 115 #[.string u, .int .i64 3, .int .i64 2] W fun e w' => e = .returned (.tuple #[.int .i64 d, .bool true]) ∧ Below W.heap.size W w' from rdecimal_ok u d W (by omega) hd)
      obtain ⟨r1, r2⟩ := hr
      cases sb
      · clear h hd lp ls
        go_enter Tryz.func95, Tryz.ntmps95
        go_wp2_with fail
        refine (CP.out _).mono ?_
        rintro e w' ⟨rfl, rfl⟩
        go_wp2_with fail
        refine (CS.out _).mono ?_
        rintro e w' ⟨rfl, rfl⟩
        go_wp2_with fail
        refine (CD.out _).mono ?_
        rintro e w1 ⟨rfl, hb⟩
        have HB := Lib.hid hb
        clear hb
        go_wp2
        go_ret2
        exact ⟨rfl, HB.out⟩
      · have b1 : 10000 < d := by
          rcases Int.lt_or_le 10000 d with hb | hb
          · exact hb
          · exact absurd ⟨_, .inr ⟨rfl, rfl, d, hd, hb, rfl⟩⟩ h
        clear h hd lp ls
        go_enter Tryz.func95, Tryz.ntmps95
        go_wp2_with fail
        refine (CP.out _).mono ?_
        rintro e w' ⟨rfl, rfl⟩
        go_wp2_with fail
        refine (CS.out _).mono ?_
        rintro e w' ⟨rfl, rfl⟩
        go_wp2_with fail
        refine (CD.out _).mono ?_
        rintro e w1 ⟨rfl, hb⟩
        have HB := Lib.hid hb
        clear hb
        go_wp2
        go_ret2
        exact ⟨rfl, HB.out⟩
    · have CD := Lib.hid (fun W => rdecimal_bad u W (by omega) h1)
      clear h h1 lp ls
      cases sb
      all_goals
        go_enter Tryz.func95, Tryz.ntmps95
        go_wp2_with fail
        refine (CP.out _).mono ?_
        rintro e w' ⟨rfl, rfl⟩
        go_wp2_with fail
        refine (CS.out _).mono ?_
        rintro e w' ⟨rfl, rfl⟩
        go_wp2_with fail
        refine (CD.out _).mono ?_
        rintro e w1 ⟨rfl, hb⟩
        have HB := Lib.hid hb
        clear hb
        go_wp2
        go_ret2
        exact ⟨rfl, HB.out⟩
  · by_cases h1 : NumS t 9
    · have hv : 65535 < (valS t : Int) := by
        rcases Nat.lt_or_ge 65535 (valS t) with hv | hv
        · omega
        · exact absurd ⟨_, .inl ⟨rfl, h1, hv, rfl⟩⟩ h
      have CN := Lib.hid (fun W => rnumber_ok t 9 W (by omega) h1)
      have CL := Lib.hid (fun W => rIsLevel_no (valS t) W (.inr hv))
      generalize valS t = n at *
      clear h h1 hv lp ls
      go_enter Tryz.func95, Tryz.ntmps95
      go_wp2_with fail
      refine (CP.out _).mono ?_
      rintro e w' ⟨rfl, rfl⟩
      go_wp2_with fail
      refine (CN.out _).mono ?_
      rintro e w1 ⟨rfl, hb⟩
      have HB := Lib.hid hb
      clear hb
      go_wp2_with fail
      refine (CL.out _).mono ?_
      rintro e w' ⟨rfl, rfl⟩
      go_wp2
      go_ret2
      exact ⟨rfl, HB.out⟩
    · have CN := Lib.hid (fun W => rnumber_no t 9 W (by omega) (by omega) h1)
      clear h h1 lp ls
      go_enter Tryz.func95, Tryz.ntmps95
      go_wp2_with fail
      refine (CP.out _).mono ?_
      rintro e w' ⟨rfl, rfl⟩
      go_wp2_with fail
      refine (CN.out _).mono ?_
      rintro e w1 ⟨rfl, hb⟩
      have HB := Lib.hid hb
      clear hb
      go_wp2
      go_ret2
      exact ⟨rfl, HB.out⟩
end Go.Proofs.YtppbagllhmeenaaGreatDoor
