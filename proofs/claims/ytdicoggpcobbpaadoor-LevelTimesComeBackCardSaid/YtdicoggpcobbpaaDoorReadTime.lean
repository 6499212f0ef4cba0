/- level.ReadTime at any text, level.ShowTime at any time (printed by gen/gen_readtime.py). -/
import Derived.Test.YtdicoggpcobbpaaDoorTimePlain
import Derived.Test.YtdicoggpcobbpaaDoorLvTexts
namespace Go.Proofs.YtdicoggpcobbpaaDoor
open Go.RowKit
open Classical
set_option linter.unusedVariables false
set_option linter.unusedSimpArgs false

theorem dec_range3 {s : ByteArray} {v : Int} (h : DecT s v) : 0 ≤ v ∧ v < 1000000000000 := by
  obtain ⟨p, r, hp, hr, rfl, _⟩ := dec_read s v h
  have : (10 : Nat) ^ 9 = 1000000000 := rfl
  omega
theorem callTp (s : ByteArray) (W : World) : Calls Tryd.prog 47 #[.string s, .string ⟨#[48]⟩] W fun e w' => e = .returned (.string (tpS s)) ∧ w' = W := Tryd.strings_TrimPrefix s ⟨#[48]⟩ W
theorem callHas (s : ByteArray) (W : World) : Calls Tryd.prog 48 #[.string s, .string ⟨#[46]⟩] W fun e w' => e = .returned (.bool (decide (0 ≤ cutI s 46))) ∧ w' = W := Tryd.strings_Contains_one s 46 W
theorem callHas' (s : ByteArray) (j : Int) (h : cutI s 46 = j) (W : World) : Calls Tryd.prog 48 #[.string s, .string ⟨#[46]⟩] W fun e w' => e = .returned (.bool (decide (0 ≤ j))) ∧ w' = W := by subst h; exact callHas s W
theorem tpS_le (s : ByteArray) : (tpS s).size ≤ s.size := by
  rw [Lib.size_eq, Lib.size_eq s, tpS_list]
  simp only [Lib.trimPrefix]
  split <;> simp
set_option maxHeartbeats 4000000 in
set_option maxRecDepth 100000 in
theorem rt_1 (s : ByteArray) (w : World) (hn : s.size ≤ 9223372036854775807) (n : Int) (h0 : ¬ 0 ≤ cutI s 58) (h1 : DecT s n) (h2 : n ≤ 59999) :
    Calls Tryd.prog 15 #[.string s] w fun e w' => e = .returned (.tuple #[.int .i64 n, .int .i64 0]) ∧ Below w.heap.size w w' := by
  have CC := Lib.hid (cut_one s 58 w hn)
  have la := cutA_le s 58
  have lb := cutB_le s 58
  have CD := Lib.hid (fun W => decimal3_ok s n W hn h1)
  have hr := dec_range3 h1
  generalize cutA s 58 = a at *
  generalize cutB s 58 = b at *
  generalize cutI s 58 = i at *
  rw [decide_eq_false h0] at CC
  clear la lb h0
  clear h1
  go_enter Tryd.func15, Tryd.ntmps15
  go_wp2_with fail
  refine CC.out.mono ?_
  rintro e w1 ⟨rfl, hb1⟩
  have HB1 := Lib.hid hb1
  clear hb1
  go_wp2_with fail
  refine (CD.out _).mono ?_
  rintro e w2 ⟨rfl, hb2⟩
  have HB2 := Lib.hid (bt HB1.out hb2)
  clear hb2
  go_wp2
  go_ret2
  exact ⟨rfl, HB2.out⟩

set_option maxHeartbeats 4000000 in
set_option maxRecDepth 100000 in
theorem rt_1large (s : ByteArray) (w : World) (hn : s.size ≤ 9223372036854775807) (n : Int) (h0 : ¬ 0 ≤ cutI s 58) (h1 : DecT s n) (h2 : ¬ n ≤ 59999) :
    Calls Tryd.prog 15 #[.string s] w fun e w' => e = .returned (.tuple #[.int .i64 0, .int .i64 9]) ∧ Below w.heap.size w w' := by
  have CC := Lib.hid (cut_one s 58 w hn)
  have la := cutA_le s 58
  have lb := cutB_le s 58
  have CD := Lib.hid (fun W => decimal3_ok s n W hn h1)
  have hr := dec_range3 h1
  generalize cutA s 58 = a at *
  generalize cutB s 58 = b at *
  generalize cutI s 58 = i at *
  rw [decide_eq_false h0] at CC
  clear la lb h0
  clear h1
  go_enter Tryd.func15, Tryd.ntmps15
  go_wp2_with fail
  refine CC.out.mono ?_
  rintro e w1 ⟨rfl, hb1⟩
  have HB1 := Lib.hid hb1
  clear hb1
  go_wp2_with fail
  refine (CD.out _).mono ?_
  rintro e w2 ⟨rfl, hb2⟩
  have HB2 := Lib.hid (bt HB1.out hb2)
  clear hb2
  go_wp2
  go_ret2
  exact ⟨rfl, HB2.out⟩

set_option maxHeartbeats 4000000 in
set_option maxRecDepth 100000 in
theorem rt_1bad (s : ByteArray) (w : World) (hn : s.size ≤ 9223372036854775807) (h0 : ¬ 0 ≤ cutI s 58) (h1 : ¬ ∃ v, DecT s v) :
    Calls Tryd.prog 15 #[.string s] w fun e w' => e = .returned (.tuple #[.int .i64 0, .int .i64 9]) ∧ Below w.heap.size w w' := by
  have CC := Lib.hid (cut_one s 58 w hn)
  have la := cutA_le s 58
  have lb := cutB_le s 58
  have CD := Lib.hid (fun W => decimal3_bad s W hn h1)
  generalize cutA s 58 = a at *
  generalize cutB s 58 = b at *
  generalize cutI s 58 = i at *
  rw [decide_eq_false h0] at CC
  clear la lb h0
  clear h1
  go_enter Tryd.func15, Tryd.ntmps15
  go_wp2_with fail
  refine CC.out.mono ?_
  rintro e w1 ⟨rfl, hb1⟩
  have HB1 := Lib.hid hb1
  clear hb1
  go_wp2_with fail
  refine (CD.out _).mono ?_
  rintro e w2 ⟨rfl, hb2⟩
  have HB2 := Lib.hid (bt HB1.out hb2)
  clear hb2
  go_wp2
  go_ret2
  exact ⟨rfl, HB2.out⟩

set_option maxHeartbeats 4000000 in
set_option maxRecDepth 100000 in
theorem rt_2num (s : ByteArray) (w : World) (hn : s.size ≤ 9223372036854775807) (h0 : 0 ≤ cutI s 58) (hN : ¬ NumS (cutA s 58) 4) :
    Calls Tryd.prog 15 #[.string s] w fun e w' => e = .returned (.tuple #[.int .i64 0, .int .i64 9]) ∧ Below w.heap.size w w' := by
  have CC := Lib.hid (cut_one s 58 w hn)
  have la := cutA_le s 58
  have lb := cutB_le s 58
  generalize cutA s 58 = a at *
  generalize cutB s 58 = b at *
  generalize cutI s 58 = i at *
  have CN := Lib.hid (fun W => numOf_no a 4 W (by omega) (by omega) hN)
  have CK := Lib.hid (fun W => cut_one b 46 W (by omega))
  have lk := cutA_le b 46
  rw [decide_eq_true h0] at CC
  clear h0
  clear hN la
  go_enter Tryd.func15, Tryd.ntmps15
  go_wp2_with fail
  refine CC.out.mono ?_
  rintro e w1 ⟨rfl, hb1⟩
  have HB1 := Lib.hid hb1
  clear hb1
  go_wp2_with fail
  refine (CN.out _).mono ?_
  rintro e w2 ⟨rfl, hb2⟩
  have HB2 := Lib.hid (bt HB1.out hb2)
  clear hb2
  go_wp2_with fail
  refine (CK.out _).mono ?_
  rintro e w3 ⟨rfl, hb3⟩
  have HB3 := Lib.hid (bt HB2.out hb3)
  clear hb3
  go_wp2
  go_ret2
  exact ⟨rfl, HB3.out⟩

set_option maxHeartbeats 4000000 in
set_option maxRecDepth 100000 in
theorem rt_2zero (s : ByteArray) (w : World) (hn : s.size ≤ 9223372036854775807) (h0 : 0 ≤ cutI s 58) (hN : NumS (cutA s 58) 4) (hv : valS (cutA s 58) = 0) :
    Calls Tryd.prog 15 #[.string s] w fun e w' => e = .returned (.tuple #[.int .i64 0, .int .i64 9]) ∧ Below w.heap.size w w' := by
  have CC := Lib.hid (cut_one s 58 w hn)
  have la := cutA_le s 58
  have lb := cutB_le s 58
  generalize cutA s 58 = a at *
  generalize cutB s 58 = b at *
  generalize cutI s 58 = i at *
  have CN := Lib.hid (fun W => numOf_yes a 4 W (by omega) hN)
  rw [hv] at CN
  have CK := Lib.hid (fun W => cut_one b 46 W (by omega))
  have lk := cutA_le b 46
  rw [decide_eq_true h0] at CC
  clear h0
  clear hN hv la
  go_enter Tryd.func15, Tryd.ntmps15
  go_wp2_with fail
  refine CC.out.mono ?_
  rintro e w1 ⟨rfl, hb1⟩
  have HB1 := Lib.hid hb1
  clear hb1
  go_wp2_with fail
  refine (CN.out _).mono ?_
  rintro e w2 ⟨rfl, hb2⟩
  have HB2 := Lib.hid (bt HB1.out hb2)
  clear hb2
  go_wp2_with fail
  refine (CK.out _).mono ?_
  rintro e w3 ⟨rfl, hb3⟩
  have HB3 := Lib.hid (bt HB2.out hb3)
  clear hb3
  go_wp2
  go_ret2
  exact ⟨rfl, HB3.out⟩

set_option maxHeartbeats 4000000 in
set_option maxRecDepth 100000 in
theorem rt_2len (s : ByteArray) (w : World) (hn : s.size ≤ 9223372036854775807) (h0 : 0 ≤ cutI s 58) (hN : NumS (cutA s 58) 4) (hv : 1 ≤ valS (cutA s 58)) (hs : (cutA (cutB s 58) 46).size ≠ 2) :
    Calls Tryd.prog 15 #[.string s] w fun e w' => e = .returned (.tuple #[.int .i64 0, .int .i64 9]) ∧ Below w.heap.size w w' := by
  have CC := Lib.hid (cut_one s 58 w hn)
  have la := cutA_le s 58
  have lb := cutB_le s 58
  generalize cutA s 58 = a at *
  generalize cutB s 58 = b at *
  generalize cutI s 58 = i at *
  have CN := Lib.hid (fun W => numOf_yes a 4 W (by omega) hN)
  have CK := Lib.hid (fun W => cut_one b 46 W (by omega))
  have lk := cutA_le b 46
  rw [decide_eq_true h0] at CC
  clear h0
  generalize valS a = m at *
  have hm0 : ((m : Int) == 0) = false := by rw [beq_eq_false_iff_ne]; omega
  generalize cutA b 46 = x at *
  generalize cutB b 46 = y at *
  generalize cutI b 46 = j at *
  clear hN la
  go_enter Tryd.func15, Tryd.ntmps15
  go_wp2_with fail
  refine CC.out.mono ?_
  rintro e w1 ⟨rfl, hb1⟩
  have HB1 := Lib.hid hb1
  clear hb1
  go_wp2_with fail
  refine (CN.out _).mono ?_
  rintro e w2 ⟨rfl, hb2⟩
  have HB2 := Lib.hid (bt HB1.out hb2)
  clear hb2
  go_wp2_with fail
  refine (CK.out _).mono ?_
  rintro e w3 ⟨rfl, hb3⟩
  have HB3 := Lib.hid (bt HB2.out hb3)
  clear hb3
  go_wp2
  all_goals first
    | omega
    | (go_ret2; exact ⟨rfl, HB3.out⟩)

set_option maxHeartbeats 4000000 in
set_option maxRecDepth 100000 in
theorem rt_2dig (s : ByteArray) (w : World) (hn : s.size ≤ 9223372036854775807) (h0 : 0 ≤ cutI s 58) (hN : NumS (cutA s 58) 4) (hv : 1 ≤ valS (cutA s 58)) (hs : (cutA (cutB s 58) 46).size = 2) (hd : ¬ AllDig (cutA (cutB s 58) 46)) :
    Calls Tryd.prog 15 #[.string s] w fun e w' => e = .returned (.tuple #[.int .i64 0, .int .i64 9]) ∧ Below w.heap.size w w' := by
  have CC := Lib.hid (cut_one s 58 w hn)
  have la := cutA_le s 58
  have lb := cutB_le s 58
  generalize cutA s 58 = a at *
  generalize cutB s 58 = b at *
  generalize cutI s 58 = i at *
  have CN := Lib.hid (fun W => numOf_yes a 4 W (by omega) hN)
  have CK := Lib.hid (fun W => cut_one b 46 W (by omega))
  have lk := cutA_le b 46
  rw [decide_eq_true h0] at CC
  clear h0
  generalize valS a = m at *
  have hm0 : ((m : Int) == 0) = false := by rw [beq_eq_false_iff_ne]; omega
  generalize cutA b 46 = x at *
  generalize cutB b 46 = y at *
  generalize cutI b 46 = j at *
  have CX := Lib.hid (fun W => digits_no x W (by omega) (fun h => hd h.2))
  clear hN la hd
  go_enter Tryd.func15, Tryd.ntmps15
  go_wp2_with fail
  refine CC.out.mono ?_
  rintro e w1 ⟨rfl, hb1⟩
  have HB1 := Lib.hid hb1
  clear hb1
  go_wp2_with fail
  refine (CN.out _).mono ?_
  rintro e w2 ⟨rfl, hb2⟩
  have HB2 := Lib.hid (bt HB1.out hb2)
  clear hb2
  go_wp2_with fail
  refine (CK.out _).mono ?_
  rintro e w3 ⟨rfl, hb3⟩
  have HB3 := Lib.hid (bt HB2.out hb3)
  clear hb3
  go_wp2_with fail
  refine (CX.out _).mono ?_
  rintro e w4 ⟨rfl, hb4⟩
  have HB4 := Lib.hid (bt HB3.out hb4)
  clear hb4
  go_wp2
  go_ret2
  exact ⟨rfl, HB4.out⟩

set_option maxHeartbeats 4000000 in
set_option maxRecDepth 100000 in
theorem rt_2decz (s : ByteArray) (w : World) (hn : s.size ≤ 9223372036854775807) (h0 : 0 ≤ cutI s 58) (hN : NumS (cutA s 58) 4) (hv : 1 ≤ valS (cutA s 58)) (hs : (cutA (cutB s 58) 46).size = 2) (hd : AllDig (cutA (cutB s 58) 46)) (hz : (cutA (cutB s 58) 46).data.toList = [48, 48]) (ht : tpS (cutB s 58) = (cutB s 58).extract 1 (cutB s 58).size) (hb1 : 1 ≤ (cutB s 58).size) (hD : ¬ ∃ v, DecT (tpS (cutB s 58)) v) :
    Calls Tryd.prog 15 #[.string s] w fun e w' => e = .returned (.tuple #[.int .i64 0, .int .i64 9]) ∧ Below w.heap.size w w' := by
  have CC := Lib.hid (cut_one s 58 w hn)
  have la := cutA_le s 58
  have lb := cutB_le s 58
  generalize cutA s 58 = a at *
  generalize cutB s 58 = b at *
  generalize cutI s 58 = i at *
  have CN := Lib.hid (fun W => numOf_yes a 4 W (by omega) hN)
  have CK := Lib.hid (fun W => cut_one b 46 W (by omega))
  have lk := cutA_le b 46
  rw [decide_eq_true h0] at CC
  clear h0
  generalize valS a = m at *
  have hm0 : ((m : Int) == 0) = false := by rw [beq_eq_false_iff_ne]; omega
  generalize cutA b 46 = x at *
  generalize cutB b 46 = y at *
  generalize cutI b 46 = j at *
  have CX := Lib.hid (fun W => digits_yes x W (by omega) (by omega) hd)
  have CT := Lib.hid (fun W => callTp b W)
  have CD := Lib.hid (fun W => decimal3_bad (tpS b) W (by have := tpS_le b; omega) hD)
  have hz2 : (x.toList == [48, 48]) = true := by rw [Lib.toList_data, hz]; rfl
  have hz3 : x.toList = [48, 48] := by rw [Lib.toList_data, hz]
  clear hz
  have CD2 := CD
  rw [ht] at CD2
  generalize tpS b = t at *
  clear hN la hd hD ht
  go_enter Tryd.func15, Tryd.ntmps15
  go_wp2_with fail
  refine CC.out.mono ?_
  rintro e w1 ⟨rfl, hb1⟩
  have HB1 := Lib.hid hb1
  clear hb1
  go_wp2_with fail
  refine (CN.out _).mono ?_
  rintro e w2 ⟨rfl, hb2⟩
  have HB2 := Lib.hid (bt HB1.out hb2)
  clear hb2
  go_wp2_with fail
  refine (CK.out _).mono ?_
  rintro e w3 ⟨rfl, hb3⟩
  have HB3 := Lib.hid (bt HB2.out hb3)
  clear hb3
  go_wp2_with fail
  refine (CX.out _).mono ?_
  rintro e w4 ⟨rfl, hb4⟩
  have HB4 := Lib.hid (bt HB3.out hb4)
  clear hb4
  go_wp2_with fail
  refine (CT.out _).mono ?_
  rintro e w' ⟨rfl, rfl⟩
  go_wp2_with fail
  refine (CD.out _).mono ?_
  rintro e w5 ⟨rfl, hb5⟩
  have HB5 := Lib.hid (bt HB4.out hb5)
  clear hb5
  go_wp2_with fail
  refine (CD2.out _).mono ?_
  rintro e w6 ⟨rfl, hb6⟩
  have HB6 := Lib.hid (bt HB5.out hb6)
  clear hb6
  go_wp2
  go_ret2
  exact ⟨rfl, HB6.out⟩

set_option maxHeartbeats 4000000 in
set_option maxRecDepth 100000 in
theorem rt_2largez (s : ByteArray) (w : World) (hn : s.size ≤ 9223372036854775807) (d : Int) (h0 : 0 ≤ cutI s 58) (hN : NumS (cutA s 58) 4) (hv : 1 ≤ valS (cutA s 58)) (hs : (cutA (cutB s 58) 46).size = 2) (hd : AllDig (cutA (cutB s 58) 46)) (hz : (cutA (cutB s 58) 46).data.toList = [48, 48]) (ht : tpS (cutB s 58) = (cutB s 58).extract 1 (cutB s 58).size) (hb1 : 1 ≤ (cutB s 58).size) (hD : DecT (tpS (cutB s 58)) d) (h6 : ¬ d ≤ 59999) :
    Calls Tryd.prog 15 #[.string s] w fun e w' => e = .returned (.tuple #[.int .i64 0, .int .i64 9]) ∧ Below w.heap.size w w' := by
  have CC := Lib.hid (cut_one s 58 w hn)
  have la := cutA_le s 58
  have lb := cutB_le s 58
  have m9 : valS (cutA s 58) < 10000 := Nat.lt_of_lt_of_le hN.lt (show 10 ^ (cutA s 58).size ≤ 10 ^ 4 from Nat.pow_le_pow_right (by omega) hN.short)
  generalize cutA s 58 = a at *
  generalize cutB s 58 = b at *
  generalize cutI s 58 = i at *
  have CN := Lib.hid (fun W => numOf_yes a 4 W (by omega) hN)
  have CK := Lib.hid (fun W => cut_one b 46 W (by omega))
  have lk := cutA_le b 46
  rw [decide_eq_true h0] at CC
  clear h0
  generalize valS a = m at *
  have hm0 : ((m : Int) == 0) = false := by rw [beq_eq_false_iff_ne]; omega
  generalize cutA b 46 = x at *
  generalize cutB b 46 = y at *
  have hj : cutI b 46 = cutI b 46 := rfl
  generalize hjj : cutI b 46 = j at *
  clear hj
  have hj := hjj
  clear hjj
  have CX := Lib.hid (fun W => digits_yes x W (by omega) (by omega) hd)
  have CT := Lib.hid (fun W => callTp b W)
  have CD := Lib.hid (fun W => decimal3_ok (tpS b) d W (by have := tpS_le b; omega) hD)
  have hr := dec_range3 hD
  have hz2 : (x.toList == [48, 48]) = true := by rw [Lib.toList_data, hz]; rfl
  have hz3 : x.toList = [48, 48] := by rw [Lib.toList_data, hz]
  clear hz
  have CD2 := CD
  rw [ht] at CD2
  have CH := Lib.hid (fun W => callHas' b j hj W)
  generalize tpS b = t at *
  clear hN la hd hD hj ht
  go_enter Tryd.func15, Tryd.ntmps15
  go_wp2_with fail
  refine CC.out.mono ?_
  rintro e w1 ⟨rfl, hb1⟩
  have HB1 := Lib.hid hb1
  clear hb1
  go_wp2_with fail
  refine (CN.out _).mono ?_
  rintro e w2 ⟨rfl, hb2⟩
  have HB2 := Lib.hid (bt HB1.out hb2)
  clear hb2
  go_wp2_with fail
  refine (CK.out _).mono ?_
  rintro e w3 ⟨rfl, hb3⟩
  have HB3 := Lib.hid (bt HB2.out hb3)
  clear hb3
  go_wp2_with fail
  refine (CX.out _).mono ?_
  rintro e w4 ⟨rfl, hb4⟩
  have HB4 := Lib.hid (bt HB3.out hb4)
  clear hb4
  go_wp2_with fail
  refine (CT.out _).mono ?_
  rintro e w' ⟨rfl, rfl⟩
  go_wp2_with fail
  refine (CD.out _).mono ?_
  rintro e w5 ⟨rfl, hb5⟩
  have HB5 := Lib.hid (bt HB4.out hb5)
  clear hb5
  go_wp2_with fail
  refine (CD2.out _).mono ?_
  rintro e w6 ⟨rfl, hb6⟩
  have HB6 := Lib.hid (bt HB5.out hb6)
  clear hb6
  go_wp2
  go_ret2
  exact ⟨rfl, HB6.out⟩

set_option maxHeartbeats 4000000 in
set_option maxRecDepth 100000 in
theorem rt_2rangez (s : ByteArray) (w : World) (hn : s.size ≤ 9223372036854775807) (d : Int) (h0 : 0 ≤ cutI s 58) (hN : NumS (cutA s 58) 4) (hv : 1 ≤ valS (cutA s 58)) (hs : (cutA (cutB s 58) 46).size = 2) (hd : AllDig (cutA (cutB s 58) 46)) (hz : (cutA (cutB s 58) 46).data.toList = [48, 48]) (ht : tpS (cutB s 58) = (cutB s 58).extract 1 (cutB s 58).size) (hb1 : 1 ≤ (cutB s 58).size) (hD : DecT (tpS (cutB s 58)) d) (hq : 0 ≤ cutI (cutB s 58) 46 → 0 < (cutB (cutB s 58) 46).size) (h6 : d ≤ 59999) (h7 : ¬ d + valS (cutA s 58) * 60000 ≤ 36000000) :
    Calls Tryd.prog 15 #[.string s] w fun e w' => e = .returned (.tuple #[.int .i64 0, .int .i64 1]) ∧ Below w.heap.size w w' := by
  have CC := Lib.hid (cut_one s 58 w hn)
  have la := cutA_le s 58
  have lb := cutB_le s 58
  have m9 : valS (cutA s 58) < 10000 := Nat.lt_of_lt_of_le hN.lt (show 10 ^ (cutA s 58).size ≤ 10 ^ 4 from Nat.pow_le_pow_right (by omega) hN.short)
  generalize cutA s 58 = a at *
  generalize cutB s 58 = b at *
  generalize cutI s 58 = i at *
  have CN := Lib.hid (fun W => numOf_yes a 4 W (by omega) hN)
  have CK := Lib.hid (fun W => cut_one b 46 W (by omega))
  have lk := cutA_le b 46
  rw [decide_eq_true h0] at CC
  clear h0
  generalize valS a = m at *
  have hm0 : ((m : Int) == 0) = false := by rw [beq_eq_false_iff_ne]; omega
  generalize cutA b 46 = x at *
  generalize cutB b 46 = y at *
  have hj : cutI b 46 = cutI b 46 := rfl
  generalize hjj : cutI b 46 = j at *
  clear hj
  have hj := hjj
  clear hjj
  have CX := Lib.hid (fun W => digits_yes x W (by omega) (by omega) hd)
  have CT := Lib.hid (fun W => callTp b W)
  have CD := Lib.hid (fun W => decimal3_ok (tpS b) d W (by have := tpS_le b; omega) hD)
  have hr := dec_range3 hD
  have hz2 : (x.toList == [48, 48]) = true := by rw [Lib.toList_data, hz]; rfl
  have hz3 : x.toList = [48, 48] := by rw [Lib.toList_data, hz]
  clear hz
  have CD2 := CD
  rw [ht] at CD2
  have CH := Lib.hid (fun W => callHas' b j hj W)
  generalize tpS b = t at *
  clear hN la hd hD hj ht
  by_cases hy : 0 < y.size
  · have y1 := bytes_some hy
    have y2 := bytes_some' hy
    clear hq
    go_enter Tryd.func15, Tryd.ntmps15
    go_wp2_with fail
    refine CC.out.mono ?_
    rintro e w1 ⟨rfl, hb1⟩
    have HB1 := Lib.hid hb1
    clear hb1
    go_wp2_with fail
    refine (CN.out _).mono ?_
    rintro e w2 ⟨rfl, hb2⟩
    have HB2 := Lib.hid (bt HB1.out hb2)
    clear hb2
    go_wp2_with fail
    refine (CK.out _).mono ?_
    rintro e w3 ⟨rfl, hb3⟩
    have HB3 := Lib.hid (bt HB2.out hb3)
    clear hb3
    go_wp2_with fail
    refine (CX.out _).mono ?_
    rintro e w4 ⟨rfl, hb4⟩
    have HB4 := Lib.hid (bt HB3.out hb4)
    clear hb4
    go_wp2_with fail
    refine (CT.out _).mono ?_
    rintro e w' ⟨rfl, rfl⟩
    go_wp2_with fail
    refine (CD.out _).mono ?_
    rintro e w5 ⟨rfl, hb5⟩
    have HB5 := Lib.hid (bt HB4.out hb5)
    clear hb5
    go_wp2_with fail
    refine (CD2.out _).mono ?_
    rintro e w6 ⟨rfl, hb6⟩
    have HB6 := Lib.hid (bt HB5.out hb6)
    clear hb6
    go_wp2
    go_ret2
    exact ⟨rfl, HB6.out⟩
  · have hj0 : ¬ 0 ≤ j := fun h => hy (hq h)
    rw [decide_eq_false hj0] at CH
    have hye := nil_of hy
    subst hye
    clear hq
    go_enter Tryd.func15, Tryd.ntmps15
    go_wp2_with fail
    refine CC.out.mono ?_
    rintro e w1 ⟨rfl, hb1⟩
    have HB1 := Lib.hid hb1
    clear hb1
    go_wp2_with fail
    refine (CN.out _).mono ?_
    rintro e w2 ⟨rfl, hb2⟩
    have HB2 := Lib.hid (bt HB1.out hb2)
    clear hb2
    go_wp2_with fail
    refine (CK.out _).mono ?_
    rintro e w3 ⟨rfl, hb3⟩
    have HB3 := Lib.hid (bt HB2.out hb3)
    clear hb3
    go_wp2_with fail
    refine (CX.out _).mono ?_
    rintro e w4 ⟨rfl, hb4⟩
    have HB4 := Lib.hid (bt HB3.out hb4)
    clear hb4
    go_wp2_with fail
    refine (CT.out _).mono ?_
    rintro e w' ⟨rfl, rfl⟩
    go_wp2_with fail
    refine (CD.out _).mono ?_
    rintro e w5 ⟨rfl, hb5⟩
    have HB5 := Lib.hid (bt HB4.out hb5)
    clear hb5
    go_wp2_with fail
    refine (CD2.out _).mono ?_
    rintro e w6 ⟨rfl, hb6⟩
    have HB6 := Lib.hid (bt HB5.out hb6)
    clear hb6
    go_wp2_with fail
    refine (CH.out _).mono ?_
    rintro e w' ⟨rfl, rfl⟩
    go_wp2
    go_ret2
    exact ⟨rfl, HB6.out⟩

set_option maxHeartbeats 4000000 in
set_option maxRecDepth 100000 in
theorem rt_2okz (s : ByteArray) (w : World) (hn : s.size ≤ 9223372036854775807) (d : Int) (h0 : 0 ≤ cutI s 58) (hN : NumS (cutA s 58) 4) (hv : 1 ≤ valS (cutA s 58)) (hs : (cutA (cutB s 58) 46).size = 2) (hd : AllDig (cutA (cutB s 58) 46)) (hz : (cutA (cutB s 58) 46).data.toList = [48, 48]) (ht : tpS (cutB s 58) = (cutB s 58).extract 1 (cutB s 58).size) (hb1 : 1 ≤ (cutB s 58).size) (hD : DecT (tpS (cutB s 58)) d) (hq : 0 ≤ cutI (cutB s 58) 46 → 0 < (cutB (cutB s 58) 46).size) (h6 : d ≤ 59999) (h7 : d + valS (cutA s 58) * 60000 ≤ 36000000) :
    Calls Tryd.prog 15 #[.string s] w fun e w' => e = .returned (.tuple #[.int .i64 (d + valS (cutA s 58) * 60000), .int .i64 0]) ∧ Below w.heap.size w w' := by
  have CC := Lib.hid (cut_one s 58 w hn)
  have la := cutA_le s 58
  have lb := cutB_le s 58
  have m9 : valS (cutA s 58) < 10000 := Nat.lt_of_lt_of_le hN.lt (show 10 ^ (cutA s 58).size ≤ 10 ^ 4 from Nat.pow_le_pow_right (by omega) hN.short)
  generalize cutA s 58 = a at *
  generalize cutB s 58 = b at *
  generalize cutI s 58 = i at *
  have CN := Lib.hid (fun W => numOf_yes a 4 W (by omega) hN)
  have CK := Lib.hid (fun W => cut_one b 46 W (by omega))
  have lk := cutA_le b 46
  rw [decide_eq_true h0] at CC
  clear h0
  generalize valS a = m at *
  have hm0 : ((m : Int) == 0) = false := by rw [beq_eq_false_iff_ne]; omega
  generalize cutA b 46 = x at *
  generalize cutB b 46 = y at *
  have hj : cutI b 46 = cutI b 46 := rfl
  generalize hjj : cutI b 46 = j at *
  clear hj
  have hj := hjj
  clear hjj
  have CX := Lib.hid (fun W => digits_yes x W (by omega) (by omega) hd)
  have CT := Lib.hid (fun W => callTp b W)
  have CD := Lib.hid (fun W => decimal3_ok (tpS b) d W (by have := tpS_le b; omega) hD)
  have hr := dec_range3 hD
  have hz2 : (x.toList == [48, 48]) = true := by rw [Lib.toList_data, hz]; rfl
  have hz3 : x.toList = [48, 48] := by rw [Lib.toList_data, hz]
  clear hz
  have CD2 := CD
  rw [ht] at CD2
  have CH := Lib.hid (fun W => callHas' b j hj W)
  generalize tpS b = t at *
  clear hN la hd hD hj ht
  by_cases hy : 0 < y.size
  · have y1 := bytes_some hy
    have y2 := bytes_some' hy
    clear hq
    go_enter Tryd.func15, Tryd.ntmps15
    go_wp2_with fail
    refine CC.out.mono ?_
    rintro e w1 ⟨rfl, hb1⟩
    have HB1 := Lib.hid hb1
    clear hb1
    go_wp2_with fail
    refine (CN.out _).mono ?_
    rintro e w2 ⟨rfl, hb2⟩
    have HB2 := Lib.hid (bt HB1.out hb2)
    clear hb2
    go_wp2_with fail
    refine (CK.out _).mono ?_
    rintro e w3 ⟨rfl, hb3⟩
    have HB3 := Lib.hid (bt HB2.out hb3)
    clear hb3
    go_wp2_with fail
    refine (CX.out _).mono ?_
    rintro e w4 ⟨rfl, hb4⟩
    have HB4 := Lib.hid (bt HB3.out hb4)
    clear hb4
    go_wp2_with fail
    refine (CT.out _).mono ?_
    rintro e w' ⟨rfl, rfl⟩
    go_wp2_with fail
    refine (CD.out _).mono ?_
    rintro e w5 ⟨rfl, hb5⟩
    have HB5 := Lib.hid (bt HB4.out hb5)
    clear hb5
    go_wp2_with fail
    refine (CD2.out _).mono ?_
    rintro e w6 ⟨rfl, hb6⟩
    have HB6 := Lib.hid (bt HB5.out hb6)
    clear hb6
    go_wp2
    go_ret2
    exact ⟨rfl, HB6.out⟩
  · have hj0 : ¬ 0 ≤ j := fun h => hy (hq h)
    rw [decide_eq_false hj0] at CH
    have hye := nil_of hy
    subst hye
    clear hq
    go_enter Tryd.func15, Tryd.ntmps15
    go_wp2_with fail
    refine CC.out.mono ?_
    rintro e w1 ⟨rfl, hb1⟩
    have HB1 := Lib.hid hb1
    clear hb1
    go_wp2_with fail
    refine (CN.out _).mono ?_
    rintro e w2 ⟨rfl, hb2⟩
    have HB2 := Lib.hid (bt HB1.out hb2)
    clear hb2
    go_wp2_with fail
    refine (CK.out _).mono ?_
    rintro e w3 ⟨rfl, hb3⟩
    have HB3 := Lib.hid (bt HB2.out hb3)
    clear hb3
    go_wp2_with fail
    refine (CX.out _).mono ?_
    rintro e w4 ⟨rfl, hb4⟩
    have HB4 := Lib.hid (bt HB3.out hb4)
    clear hb4
    go_wp2_with fail
    refine (CT.out _).mono ?_
    rintro e w' ⟨rfl, rfl⟩
    go_wp2_with fail
    refine (CD.out _).mono ?_
    rintro e w5 ⟨rfl, hb5⟩
    have HB5 := Lib.hid (bt HB4.out hb5)
    clear hb5
    go_wp2_with fail
    refine (CD2.out _).mono ?_
    rintro e w6 ⟨rfl, hb6⟩
    have HB6 := Lib.hid (bt HB5.out hb6)
    clear hb6
    go_wp2_with fail
    refine (CH.out _).mono ?_
    rintro e w' ⟨rfl, rfl⟩
    go_wp2
    go_ret2
    exact ⟨rfl, HB6.out⟩

set_option maxHeartbeats 4000000 in
set_option maxRecDepth 100000 in
theorem rt_2decn (s : ByteArray) (w : World) (hn : s.size ≤ 9223372036854775807) (h0 : 0 ≤ cutI s 58) (hN : NumS (cutA s 58) 4) (hv : 1 ≤ valS (cutA s 58)) (hs : (cutA (cutB s 58) 46).size = 2) (hd : AllDig (cutA (cutB s 58) 46)) (hz : (cutA (cutB s 58) 46).data.toList ≠ [48, 48]) (hD : ¬ ∃ v, DecT (tpS (cutB s 58)) v) :
    Calls Tryd.prog 15 #[.string s] w fun e w' => e = .returned (.tuple #[.int .i64 0, .int .i64 9]) ∧ Below w.heap.size w w' := by
  have CC := Lib.hid (cut_one s 58 w hn)
  have la := cutA_le s 58
  have lb := cutB_le s 58
  generalize cutA s 58 = a at *
  generalize cutB s 58 = b at *
  generalize cutI s 58 = i at *
  have CN := Lib.hid (fun W => numOf_yes a 4 W (by omega) hN)
  have CK := Lib.hid (fun W => cut_one b 46 W (by omega))
  have lk := cutA_le b 46
  rw [decide_eq_true h0] at CC
  clear h0
  generalize valS a = m at *
  have hm0 : ((m : Int) == 0) = false := by rw [beq_eq_false_iff_ne]; omega
  generalize cutA b 46 = x at *
  generalize cutB b 46 = y at *
  generalize cutI b 46 = j at *
  have CX := Lib.hid (fun W => digits_yes x W (by omega) (by omega) hd)
  have CT := Lib.hid (fun W => callTp b W)
  have CD := Lib.hid (fun W => decimal3_bad (tpS b) W (by have := tpS_le b; omega) hD)
  have hz3 : ¬ x.toList = [48, 48] := by rw [Lib.toList_data]; exact hz
  have hz2 : (x.toList == [48, 48]) = false := beq_eq_false_iff_ne.2 hz3
  clear hz
  generalize tpS b = t at *
  clear hN la hd hD
  go_enter Tryd.func15, Tryd.ntmps15
  go_wp2_with fail
  refine CC.out.mono ?_
  rintro e w1 ⟨rfl, hb1⟩
  have HB1 := Lib.hid hb1
  clear hb1
  go_wp2_with fail
  refine (CN.out _).mono ?_
  rintro e w2 ⟨rfl, hb2⟩
  have HB2 := Lib.hid (bt HB1.out hb2)
  clear hb2
  go_wp2_with fail
  refine (CK.out _).mono ?_
  rintro e w3 ⟨rfl, hb3⟩
  have HB3 := Lib.hid (bt HB2.out hb3)
  clear hb3
  go_wp2_with fail
  refine (CX.out _).mono ?_
  rintro e w4 ⟨rfl, hb4⟩
  have HB4 := Lib.hid (bt HB3.out hb4)
  clear hb4
  go_wp2_with fail
  refine (CT.out _).mono ?_
  rintro e w' ⟨rfl, rfl⟩
  go_wp2_with fail
  refine (CD.out _).mono ?_
  rintro e w5 ⟨rfl, hb5⟩
  have HB5 := Lib.hid (bt HB4.out hb5)
  clear hb5
  go_wp2
  go_ret2
  exact ⟨rfl, HB5.out⟩

set_option maxHeartbeats 4000000 in
set_option maxRecDepth 100000 in
theorem rt_2largen (s : ByteArray) (w : World) (hn : s.size ≤ 9223372036854775807) (d : Int) (h0 : 0 ≤ cutI s 58) (hN : NumS (cutA s 58) 4) (hv : 1 ≤ valS (cutA s 58)) (hs : (cutA (cutB s 58) 46).size = 2) (hd : AllDig (cutA (cutB s 58) 46)) (hz : (cutA (cutB s 58) 46).data.toList ≠ [48, 48]) (hD : DecT (tpS (cutB s 58)) d) (h6 : ¬ d ≤ 59999) :
    Calls Tryd.prog 15 #[.string s] w fun e w' => e = .returned (.tuple #[.int .i64 0, .int .i64 9]) ∧ Below w.heap.size w w' := by
  have CC := Lib.hid (cut_one s 58 w hn)
  have la := cutA_le s 58
  have lb := cutB_le s 58
  have m9 : valS (cutA s 58) < 10000 := Nat.lt_of_lt_of_le hN.lt (show 10 ^ (cutA s 58).size ≤ 10 ^ 4 from Nat.pow_le_pow_right (by omega) hN.short)
  generalize cutA s 58 = a at *
  generalize cutB s 58 = b at *
  generalize cutI s 58 = i at *
  have CN := Lib.hid (fun W => numOf_yes a 4 W (by omega) hN)
  have CK := Lib.hid (fun W => cut_one b 46 W (by omega))
  have lk := cutA_le b 46
  rw [decide_eq_true h0] at CC
  clear h0
  generalize valS a = m at *
  have hm0 : ((m : Int) == 0) = false := by rw [beq_eq_false_iff_ne]; omega
  generalize cutA b 46 = x at *
  generalize cutB b 46 = y at *
  have hj : cutI b 46 = cutI b 46 := rfl
  generalize hjj : cutI b 46 = j at *
  clear hj
  have hj := hjj
  clear hjj
  have CX := Lib.hid (fun W => digits_yes x W (by omega) (by omega) hd)
  have CT := Lib.hid (fun W => callTp b W)
  have CD := Lib.hid (fun W => decimal3_ok (tpS b) d W (by have := tpS_le b; omega) hD)
  have hr := dec_range3 hD
  have hz3 : ¬ x.toList = [48, 48] := by rw [Lib.toList_data]; exact hz
  have hz2 : (x.toList == [48, 48]) = false := beq_eq_false_iff_ne.2 hz3
  clear hz
  have CH := Lib.hid (fun W => callHas' b j hj W)
  generalize tpS b = t at *
  clear hN la hd hD hj
  go_enter Tryd.func15, Tryd.ntmps15
  go_wp2_with fail
  refine CC.out.mono ?_
  rintro e w1 ⟨rfl, hb1⟩
  have HB1 := Lib.hid hb1
  clear hb1
  go_wp2_with fail
  refine (CN.out _).mono ?_
  rintro e w2 ⟨rfl, hb2⟩
  have HB2 := Lib.hid (bt HB1.out hb2)
  clear hb2
  go_wp2_with fail
  refine (CK.out _).mono ?_
  rintro e w3 ⟨rfl, hb3⟩
  have HB3 := Lib.hid (bt HB2.out hb3)
  clear hb3
  go_wp2_with fail
  refine (CX.out _).mono ?_
  rintro e w4 ⟨rfl, hb4⟩
  have HB4 := Lib.hid (bt HB3.out hb4)
  clear hb4
  go_wp2_with fail
  refine (CT.out _).mono ?_
  rintro e w' ⟨rfl, rfl⟩
  go_wp2_with fail
  refine (CD.out _).mono ?_
  rintro e w5 ⟨rfl, hb5⟩
  have HB5 := Lib.hid (bt HB4.out hb5)
  clear hb5
  go_wp2
  go_ret2
  exact ⟨rfl, HB5.out⟩

set_option maxHeartbeats 4000000 in
set_option maxRecDepth 100000 in
theorem rt_2rangen (s : ByteArray) (w : World) (hn : s.size ≤ 9223372036854775807) (d : Int) (h0 : 0 ≤ cutI s 58) (hN : NumS (cutA s 58) 4) (hv : 1 ≤ valS (cutA s 58)) (hs : (cutA (cutB s 58) 46).size = 2) (hd : AllDig (cutA (cutB s 58) 46)) (hz : (cutA (cutB s 58) 46).data.toList ≠ [48, 48]) (hD : DecT (tpS (cutB s 58)) d) (hq : 0 ≤ cutI (cutB s 58) 46 → 0 < (cutB (cutB s 58) 46).size) (h6 : d ≤ 59999) (h7 : ¬ d + valS (cutA s 58) * 60000 ≤ 36000000) :
    Calls Tryd.prog 15 #[.string s] w fun e w' => e = .returned (.tuple #[.int .i64 0, .int .i64 1]) ∧ Below w.heap.size w w' := by
  have CC := Lib.hid (cut_one s 58 w hn)
  have la := cutA_le s 58
  have lb := cutB_le s 58
  have m9 : valS (cutA s 58) < 10000 := Nat.lt_of_lt_of_le hN.lt (show 10 ^ (cutA s 58).size ≤ 10 ^ 4 from Nat.pow_le_pow_right (by omega) hN.short)
  generalize cutA s 58 = a at *
  generalize cutB s 58 = b at *
  generalize cutI s 58 = i at *
  have CN := Lib.hid (fun W => numOf_yes a 4 W (by omega) hN)
  have CK := Lib.hid (fun W => cut_one b 46 W (by omega))
  have lk := cutA_le b 46
  rw [decide_eq_true h0] at CC
  clear h0
  generalize valS a = m at *
  have hm0 : ((m : Int) == 0) = false := by rw [beq_eq_false_iff_ne]; omega
  generalize cutA b 46 = x at *
  generalize cutB b 46 = y at *
  have hj : cutI b 46 = cutI b 46 := rfl
  generalize hjj : cutI b 46 = j at *
  clear hj
  have hj := hjj
  clear hjj
  have CX := Lib.hid (fun W => digits_yes x W (by omega) (by omega) hd)
  have CT := Lib.hid (fun W => callTp b W)
  have CD := Lib.hid (fun W => decimal3_ok (tpS b) d W (by have := tpS_le b; omega) hD)
  have hr := dec_range3 hD
  have hz3 : ¬ x.toList = [48, 48] := by rw [Lib.toList_data]; exact hz
  have hz2 : (x.toList == [48, 48]) = false := beq_eq_false_iff_ne.2 hz3
  clear hz
  have CH := Lib.hid (fun W => callHas' b j hj W)
  generalize tpS b = t at *
  clear hN la hd hD hj
  by_cases hy : 0 < y.size
  · have y1 := bytes_some hy
    have y2 := bytes_some' hy
    clear hq
    go_enter Tryd.func15, Tryd.ntmps15
    go_wp2_with fail
    refine CC.out.mono ?_
    rintro e w1 ⟨rfl, hb1⟩
    have HB1 := Lib.hid hb1
    clear hb1
    go_wp2_with fail
    refine (CN.out _).mono ?_
    rintro e w2 ⟨rfl, hb2⟩
    have HB2 := Lib.hid (bt HB1.out hb2)
    clear hb2
    go_wp2_with fail
    refine (CK.out _).mono ?_
    rintro e w3 ⟨rfl, hb3⟩
    have HB3 := Lib.hid (bt HB2.out hb3)
    clear hb3
    go_wp2_with fail
    refine (CX.out _).mono ?_
    rintro e w4 ⟨rfl, hb4⟩
    have HB4 := Lib.hid (bt HB3.out hb4)
    clear hb4
    go_wp2_with fail
    refine (CT.out _).mono ?_
    rintro e w' ⟨rfl, rfl⟩
    go_wp2_with fail
    refine (CD.out _).mono ?_
    rintro e w5 ⟨rfl, hb5⟩
    have HB5 := Lib.hid (bt HB4.out hb5)
    clear hb5
    go_wp2
    go_ret2
    exact ⟨rfl, HB5.out⟩
  · have hj0 : ¬ 0 ≤ j := fun h => hy (hq h)
    rw [decide_eq_false hj0] at CH
    have hye := nil_of hy
    subst hye
    clear hq
    go_enter Tryd.func15, Tryd.ntmps15
    go_wp2_with fail
    refine CC.out.mono ?_
    rintro e w1 ⟨rfl, hb1⟩
    have HB1 := Lib.hid hb1
    clear hb1
    go_wp2_with fail
    refine (CN.out _).mono ?_
    rintro e w2 ⟨rfl, hb2⟩
    have HB2 := Lib.hid (bt HB1.out hb2)
    clear hb2
    go_wp2_with fail
    refine (CK.out _).mono ?_
    rintro e w3 ⟨rfl, hb3⟩
    have HB3 := Lib.hid (bt HB2.out hb3)
    clear hb3
    go_wp2_with fail
    refine (CX.out _).mono ?_
    rintro e w4 ⟨rfl, hb4⟩
    have HB4 := Lib.hid (bt HB3.out hb4)
    clear hb4
    go_wp2_with fail
    refine (CT.out _).mono ?_
    rintro e w' ⟨rfl, rfl⟩
    go_wp2_with fail
    refine (CD.out _).mono ?_
    rintro e w5 ⟨rfl, hb5⟩
    have HB5 := Lib.hid (bt HB4.out hb5)
    clear hb5
    go_wp2_with fail
    refine (CH.out _).mono ?_
    rintro e w' ⟨rfl, rfl⟩
    go_wp2
    go_ret2
    exact ⟨rfl, HB5.out⟩

set_option maxHeartbeats 4000000 in
set_option maxRecDepth 100000 in
theorem rt_2okn (s : ByteArray) (w : World) (hn : s.size ≤ 9223372036854775807) (d : Int) (h0 : 0 ≤ cutI s 58) (hN : NumS (cutA s 58) 4) (hv : 1 ≤ valS (cutA s 58)) (hs : (cutA (cutB s 58) 46).size = 2) (hd : AllDig (cutA (cutB s 58) 46)) (hz : (cutA (cutB s 58) 46).data.toList ≠ [48, 48]) (hD : DecT (tpS (cutB s 58)) d) (hq : 0 ≤ cutI (cutB s 58) 46 → 0 < (cutB (cutB s 58) 46).size) (h6 : d ≤ 59999) (h7 : d + valS (cutA s 58) * 60000 ≤ 36000000) :
    Calls Tryd.prog 15 #[.string s] w fun e w' => e = .returned (.tuple #[.int .i64 (d + valS (cutA s 58) * 60000), .int .i64 0]) ∧ Below w.heap.size w w' := by
  have CC := Lib.hid (cut_one s 58 w hn)
  have la := cutA_le s 58
  have lb := cutB_le s 58
  have m9 : valS (cutA s 58) < 10000 := Nat.lt_of_lt_of_le hN.lt (show 10 ^ (cutA s 58).size ≤ 10 ^ 4 from Nat.pow_le_pow_right (by omega) hN.short)
  generalize cutA s 58 = a at *
  generalize cutB s 58 = b at *
  generalize cutI s 58 = i at *
  have CN := Lib.hid (fun W => numOf_yes a 4 W (by omega) hN)
  have CK := Lib.hid (fun W => cut_one b 46 W (by omega))
  have lk := cutA_le b 46
  rw [decide_eq_true h0] at CC
  clear h0
  generalize valS a = m at *
  have hm0 : ((m : Int) == 0) = false := by rw [beq_eq_false_iff_ne]; omega
  generalize cutA b 46 = x at *
  generalize cutB b 46 = y at *
  have hj : cutI b 46 = cutI b 46 := rfl
  generalize hjj : cutI b 46 = j at *
  clear hj
  have hj := hjj
  clear hjj
  have CX := Lib.hid (fun W => digits_yes x W (by omega) (by omega) hd)
  have CT := Lib.hid (fun W => callTp b W)
  have CD := Lib.hid (fun W => decimal3_ok (tpS b) d W (by have := tpS_le b; omega) hD)
  have hr := dec_range3 hD
  have hz3 : ¬ x.toList = [48, 48] := by rw [Lib.toList_data]; exact hz
  have hz2 : (x.toList == [48, 48]) = false := beq_eq_false_iff_ne.2 hz3
  clear hz
  have CH := Lib.hid (fun W => callHas' b j hj W)
  generalize tpS b = t at *
  clear hN la hd hD hj
  by_cases hy : 0 < y.size
  · have y1 := bytes_some hy
    have y2 := bytes_some' hy
    clear hq
    go_enter Tryd.func15, Tryd.ntmps15
    go_wp2_with fail
    refine CC.out.mono ?_
    rintro e w1 ⟨rfl, hb1⟩
    have HB1 := Lib.hid hb1
    clear hb1
    go_wp2_with fail
    refine (CN.out _).mono ?_
    rintro e w2 ⟨rfl, hb2⟩
    have HB2 := Lib.hid (bt HB1.out hb2)
    clear hb2
    go_wp2_with fail
    refine (CK.out _).mono ?_
    rintro e w3 ⟨rfl, hb3⟩
    have HB3 := Lib.hid (bt HB2.out hb3)
    clear hb3
    go_wp2_with fail
    refine (CX.out _).mono ?_
    rintro e w4 ⟨rfl, hb4⟩
    have HB4 := Lib.hid (bt HB3.out hb4)
    clear hb4
    go_wp2_with fail
    refine (CT.out _).mono ?_
    rintro e w' ⟨rfl, rfl⟩
    go_wp2_with fail
    refine (CD.out _).mono ?_
    rintro e w5 ⟨rfl, hb5⟩
    have HB5 := Lib.hid (bt HB4.out hb5)
    clear hb5
    go_wp2
    go_ret2
    exact ⟨rfl, HB5.out⟩
  · have hj0 : ¬ 0 ≤ j := fun h => hy (hq h)
    rw [decide_eq_false hj0] at CH
    have hye := nil_of hy
    subst hye
    clear hq
    go_enter Tryd.func15, Tryd.ntmps15
    go_wp2_with fail
    refine CC.out.mono ?_
    rintro e w1 ⟨rfl, hb1⟩
    have HB1 := Lib.hid hb1
    clear hb1
    go_wp2_with fail
    refine (CN.out _).mono ?_
    rintro e w2 ⟨rfl, hb2⟩
    have HB2 := Lib.hid (bt HB1.out hb2)
    clear hb2
    go_wp2_with fail
    refine (CK.out _).mono ?_
    rintro e w3 ⟨rfl, hb3⟩
    have HB3 := Lib.hid (bt HB2.out hb3)
    clear hb3
    go_wp2_with fail
    refine (CX.out _).mono ?_
    rintro e w4 ⟨rfl, hb4⟩
    have HB4 := Lib.hid (bt HB3.out hb4)
    clear hb4
    go_wp2_with fail
    refine (CT.out _).mono ?_
    rintro e w' ⟨rfl, rfl⟩
    go_wp2_with fail
    refine (CD.out _).mono ?_
    rintro e w5 ⟨rfl, hb5⟩
    have HB5 := Lib.hid (bt HB4.out hb5)
    clear hb5
    go_wp2_with fail
    refine (CH.out _).mono ?_
    rintro e w' ⟨rfl, rfl⟩
    go_wp2
    go_ret2
    exact ⟨rfl, HB5.out⟩

theorem readTime_ok (s : ByteArray) (n : Int) (w : World) (hn : s.size ≤ 9223372036854775807) (h : TimeS s n) :
    Calls Tryd.prog 15 #[.string s] w fun e w' => e = .returned (.tuple #[.int .i64 n, .int .i64 0]) ∧ Below w.heap.size w w' := by
  rcases h with ⟨h1, h2, h3⟩ | ⟨h1, h2, h3, h4, h5, d, h6, h7, rfl, h8⟩
  · exact rt_1 s w hn n h1 h2 h3
  · obtain ⟨_, hz, hb, hq⟩ := sec_read _ _ h4 h5 h6 h7
    by_cases z : (cutA (cutB s 58) 46).data.toList = [48, 48]
    · exact rt_2okz s w hn d h1 h2 h3 h4 h5 z (hz z) hb h6 hq h7 h8
    · exact rt_2okn s w hn d h1 h2 h3 h4 h5 z h6 hq h7 h8
theorem sec_first (b : ByteArray) (z : (cutA b 46).data.toList = [48, 48]) : tpS b = b.extract 1 b.size ∧ 1 ≤ b.size := by
  obtain ⟨t, hb⟩ : ∃ t, b.data.toList = 48 :: 48 :: t := by
    by_cases hi : 0 ≤ cutI b 46
    · obtain ⟨e, _⟩ := cut_back hi
      rw [z] at e
      exact ⟨_, e⟩
    · obtain ⟨_, e⟩ := cut_back' hi
      rw [e] at z
      exact ⟨[], z⟩
  refine ⟨?_, by rw [Lib.size_eq, hb]; simp⟩
  apply bytes_eq'
  rw [tpS_list, hb, trim_zero, ext_list, hb, List.drop_succ_cons, List.drop_zero, List.take_of_length_le]
  rw [Lib.size_eq, hb]; simp
/-- what is no text of a time is not read -/
def Wrong (w : World) (e : Ending) (w' : World) : Prop := (∃ k : Int, e = .returned (.tuple #[.int .i64 0, .int .i64 k]) ∧ k ≠ 0) ∧ Below w.heap.size w w'
theorem readTime_bad (s : ByteArray) (w : World) (hn : s.size ≤ 9223372036854775807) (h : ¬ ∃ n, TimeS s n) :
    Calls Tryd.prog 15 #[.string s] w (Wrong w) := by
  have nine : ∀ {e w'}, e = Ending.returned (.tuple #[.int .i64 0, .int .i64 9]) ∧ Below w.heap.size w w' → Wrong w e w' := fun h => ⟨⟨9, h.1, by decide⟩, h.2⟩
  by_cases h1 : 0 ≤ cutI s 58
  · by_cases h2 : NumS (cutA s 58) 4
    · by_cases h3 : valS (cutA s 58) = 0
      · exact (rt_2zero s w hn h1 h2 h3).mono fun _ _ => nine
      · have h3' : 1 ≤ valS (cutA s 58) := by omega
        by_cases h4 : (cutA (cutB s 58) 46).size = 2
        · by_cases h5 : AllDig (cutA (cutB s 58) 46)
          · by_cases h6 : ∃ d, DecT (tpS (cutB s 58)) d
            · obtain ⟨d, h6⟩ := h6
              by_cases h7 : d ≤ 59999
              · obtain ⟨_, hz, hb, hq⟩ := sec_read _ _ h4 h5 h6 h7
                by_cases h8 : d + valS (cutA s 58) * 60000 ≤ 36000000
                · exact absurd ⟨_, .inr ⟨h1, h2, h3', h4, h5, d, h6, h7, rfl, h8⟩⟩ h
                · by_cases z : (cutA (cutB s 58) 46).data.toList = [48, 48]
                  · exact (rt_2rangez s w hn d h1 h2 h3' h4 h5 z (hz z) hb h6 hq h7 h8).mono fun _ _ h => ⟨⟨1, h.1, by decide⟩, h.2⟩
                  · exact (rt_2rangen s w hn d h1 h2 h3' h4 h5 z h6 hq h7 h8).mono fun _ _ h => ⟨⟨1, h.1, by decide⟩, h.2⟩
              · by_cases z : (cutA (cutB s 58) 46).data.toList = [48, 48]
                · obtain ⟨a, b⟩ := sec_first _ z
                  exact (rt_2largez s w hn d h1 h2 h3' h4 h5 z a b h6 h7).mono fun _ _ => nine
                · exact (rt_2largen s w hn d h1 h2 h3' h4 h5 z h6 h7).mono fun _ _ => nine
            · by_cases z : (cutA (cutB s 58) 46).data.toList = [48, 48]
              · obtain ⟨a, b⟩ := sec_first _ z
                exact (rt_2decz s w hn h1 h2 h3' h4 h5 z a b h6).mono fun _ _ => nine
              · exact (rt_2decn s w hn h1 h2 h3' h4 h5 z h6).mono fun _ _ => nine
          · exact (rt_2dig s w hn h1 h2 h3' h4 h5).mono fun _ _ => nine
        · exact (rt_2len s w hn h1 h2 h3' h4).mono fun _ _ => nine
    · exact (rt_2num s w hn h1 h2).mono fun _ _ => nine
  · by_cases h2 : ∃ v, DecT s v
    · obtain ⟨v, h2⟩ := h2
      by_cases h3 : v ≤ 59999
      · exact absurd ⟨v, .inl ⟨h1, h2, h3⟩⟩ h
      · exact (rt_1large s w hn v h1 h2 h3).mono fun _ _ => nine
    · exact (rt_1bad s w hn h1 h2).mono fun _ _ => nine
end Go.Proofs.YtdicoggpcobbpaaDoor
