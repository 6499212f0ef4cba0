/- The walk of cycloramalaw1.LevelTimesComeBack: for every input it returns true. -/
import Derived.Test.YtdicoggpcobbpaaDoorShowTime
import Derived.Test.YtdicoggpcobbpaaDoorReadTime
namespace Go.Proofs.YtdicoggpcobbpaaDoor.levelTimesComeBack
open Go.RowKit
set_option linter.unusedVariables false
set_option linter.unusedSimpArgs false

theorem timeT_le (n : Nat) (h : n ≤ 36000000) : (timeT n).size ≤ 20 := by
  have h1 := thT_size (n % 1000) (by omega)
  rw [Lib.size_eq, thT_list] at h1
  rw [Lib.size_eq, timeT_list]
  unfold timeL
  split
  · have := dd_len 1 (n / 1000) (by omega)
    simp only [List.length_append]
    omega
  · have := dd_len 2 (n / 1000 / 60) (by omega)
    simp only [List.length_append, List.length_cons]
    omega
/-- the first half: what ShowTime writes is read again, whatever n is -/
def First (n : Int) (t : ByteArray) (f : Int) (m g : Int) : Prop := (f = 0 ∧ g = 0 ∧ m = n) ∨ f = 1

set_option maxHeartbeats 4000000 in
theorem walk (n : Int) (s : ByteArray) (w : World) (_w0 : (Lit.int .i64 n).wf = true) (w1 : s.size ≤ maxLen) (hT : TextW w) :
    Calls Tryd.prog 4 #[.int .i64 n, .string s] w fun e w' => e = .returned (.bool true) ∧ Below w.heap.size w w' := by
  have hn : s.size ≤ 9223372036854775807 := w1
  have HT := Lib.hid hT
  clear _w0 w1 hT
  by_cases hl : 0 ≤ n ∧ n ≤ 36000000
  · obtain ⟨k, rfl⟩ := Int.eq_ofNat_of_zero_le hl.1
    have hk : k ≤ 36000000 := by have := hl.2; omega
    have CS := Lib.hid (showTime_ok k w HT.out hk)
    have CR := Lib.hid (fun W => readTime_ok (timeT k) k W (by have := timeT_le k hk; omega) (time_write _ k hk (timeT_list k)))
    generalize timeT k = t at *
    clear hl
    by_cases h : ∃ m, TimeS s m
    · obtain ⟨m, hm⟩ := h
      obtain ⟨j, rfl, hj, hs⟩ := time_read s m hm
      have CD := Lib.hid (fun W => readTime_ok s j W hn hm)
      have CW := Lib.hid (fun W (hb : Below w.heap.size w W) => showTime_ok j W (HT.out.below hb) hj)
      have HE := Lib.hid (show timeT j = s from bytes_eq' (by rw [timeT_list, hs]))
      clear hm hs
      rw [HE.out] at CW
      go_enter Tryd.func4, Tryd.ntmps4
      go_wp2_with fail
      refine CS.out.mono ?_
      rintro e w1 ⟨rfl, hb⟩
      have HB1 := Lib.hid hb
      clear hb
      go_wp2_with fail
      refine (CR.out _).mono ?_
      rintro e w2 ⟨rfl, hb⟩
      have HB2 := Lib.hid (bt HB1.out hb)
      clear hb
      go_wp2_with fail
      refine (CD.out _).mono ?_
      rintro e w3 ⟨rfl, hb⟩
      have HB3 := Lib.hid (bt HB2.out hb)
      clear hb
      go_wp2_with fail
      refine (CW.out _ HB3.out).mono ?_
      rintro e w4 ⟨rfl, hb⟩
      have HB4 := Lib.hid (bt HB3.out hb)
      clear hb
      go_wp2
      go_ret
      exact ⟨by first | rfl | (simp; done), HB4.out⟩
    · have CD := Lib.hid (fun W => readTime_bad s W hn h)
      clear h
      go_enter Tryd.func4, Tryd.ntmps4
      go_wp2_with fail
      refine CS.out.mono ?_
      rintro e w1 ⟨rfl, hb⟩
      have HB1 := Lib.hid hb
      clear hb
      go_wp2_with fail
      refine (CR.out _).mono ?_
      rintro e w2 ⟨rfl, hb⟩
      have HB2 := Lib.hid (bt HB1.out hb)
      clear hb
      go_wp2_with fail
      refine (CD.out _).mono ?_
      rintro e w3 ⟨⟨c, rfl, hc⟩, hb⟩
      have HB3 := Lib.hid (bt HB2.out hb)
      have hc' : (c != 0) = true := by simpa using hc
      clear hb hc
      go_wp2
      go_ret
      exact ⟨by first | rfl | (simp; done), HB3.out⟩
  · have CS := Lib.hid (fun W => showTime_no n W (by omega))
    clear hl
    by_cases h : ∃ m, TimeS s m
    · obtain ⟨m, hm⟩ := h
      obtain ⟨j, rfl, hj, hs⟩ := time_read s m hm
      have CD := Lib.hid (fun W => readTime_ok s j W hn hm)
      have CW := Lib.hid (fun W (hb : Below w.heap.size w W) => showTime_ok j W (HT.out.below hb) hj)
      have HE := Lib.hid (show timeT j = s from bytes_eq' (by rw [timeT_list, hs]))
      clear hm hs
      rw [HE.out] at CW
      go_enter Tryd.func4, Tryd.ntmps4
      go_wp2_with fail
      refine (CS.out _).mono ?_
      rintro e w' ⟨rfl, rfl⟩
      go_wp2_with fail
      refine (CD.out _).mono ?_
      rintro e w3 ⟨rfl, hb⟩
      have HB3 := Lib.hid hb
      clear hb
      go_wp2_with fail
      refine (CW.out _ HB3.out).mono ?_
      rintro e w4 ⟨rfl, hb⟩
      have HB4 := Lib.hid (bt HB3.out hb)
      clear hb
      go_wp2
      go_ret
      exact ⟨by first | rfl | (simp; done), HB4.out⟩
    · have CD := Lib.hid (fun W => readTime_bad s W hn h)
      clear h
      go_enter Tryd.func4, Tryd.ntmps4
      go_wp2_with fail
      refine (CS.out _).mono ?_
      rintro e w' ⟨rfl, rfl⟩
      go_wp2_with fail
      refine (CD.out _).mono ?_
      rintro e w3 ⟨⟨c, rfl, hc⟩, hb⟩
      have HB3 := Lib.hid hb
      have hc' : (c != 0) = true := by simpa using hc
      clear hb hc
      go_wp2
      go_ret
      exact ⟨by first | rfl | (simp; done), HB3.out⟩
end Go.Proofs.YtdicoggpcobbpaaDoor.levelTimesComeBack
