/- level.ShowTime at any time. -/
import Derived.Test.YtdicoggpcobbpaaDoorTimePlain
import Derived.Test.YtdicoggpcobbpaaDoorLvTexts
import Derived.Test.YtdicoggpcobbpaaDoorFadeFns
namespace Go.Proofs.YtdicoggpcobbpaaDoor
open Go.RowKit
set_option linter.unusedVariables false
set_option linter.unusedSimpArgs false

theorem itoa_nat (n : Nat) (w : World) (hn : n ≤ 999999999) (hT : TextW w) :
    Calls Tryd.prog 36 #[.int .i64 n] w fun e w' => e = .returned (.string (numT n)) ∧ Below w.heap.size w w' := by
  refine (Tryd.strconv_Itoa n (by omega) (by omega) w hT.pow).mono ?_
  rintro e w' ⟨rfl, k, os, rfl⟩
  refine ⟨?_, Lib.below_grow _ w (Nat.le_refl _) k os⟩
  rw [show Lib.itoa n = Lib.decDigits n by unfold Lib.itoa; rw [if_neg (by omega)]; rfl]
  rfl
theorem numT_len (n k : Nat) (h : n < 10 ^ (k + 1)) : 1 ≤ (numT n).size ∧ (numT n).size ≤ k + 1 := by rw [numT_size]; exact dd_len k n h
def thT (r : Nat) : ByteArray := ⟨(thL r).toArray⟩
theorem thT_list (r : Nat) : (thT r).data.toList = thL r := by simp [thT]
theorem thT_size (r : Nat) (h : r < 1000) : (thT r).size ≤ 4 := by
  rw [Lib.size_eq, thT_list]
  unfold thL
  split
  · simp
  · rcases th_cases r (by omega) h with ⟨_, z⟩ | ⟨_, _, z⟩ | ⟨_, _, _, z⟩ <;> rw [z] <;> simp [th3]
theorem append_list (s t : ByteArray) : (s ++ t).data.toList = s.data.toList ++ t.data.toList := by
  simp

set_option maxHeartbeats 2000000 in
theorem thousandths_any (r : Nat) (w : World) (hT : TextW w) (hr : r < 1000) :
    Calls Tryd.prog 43 #[.int .i64 r] w fun e w' => e = .returned (.string (thT r)) ∧ Below w.heap.size w w' := by
  by_cases h0 : r = 0
  · subst h0
    clear hT hr
    go_enter Tryd.func43, Tryd.ntmps43
    go_wp2
    go_ret
    exact ⟨rfl, Below.refl _ _⟩
  · have CI := Lib.hid (itoa_nat (1000 + r) w (by omega) hT)
    have hs := numT_len (1000 + r) 3 (by omega)
    have hs4 : (numT (1000 + r)).size = 4 := by rw [numT_size, th3_dec r hr]; rfl
    have he : (numT (1000 + r)).extract 1 4 = ⟨(th3 r).toArray⟩ := by
      apply bytes_eq'
      rw [ext_list, numT_list, th3_dec r hr]
      rfl
    have CT := Lib.hid (fun W => show Calls Tryd.prog 73 #[.string ⟨(th3 r).toArray⟩, .string ⟨#[48]⟩] W fun e w' => e = .returned (.string ⟨(Lib.trimRightB (th3 r) 48).toArray⟩) ∧ W = w' from by
      refine (Tryd.strings_TrimRight_one ⟨(th3 r).toArray⟩ 48 (by decide) W (by show (3 : Nat) ≤ _; omega)).mono ?_
      rintro e w' ⟨rfl, rfl⟩
      exact ⟨rfl, rfl⟩)
    rw [← he] at CT
    have HR := Lib.hid (show (⟨#[46]⟩ : ByteArray) ++ (⟨(Lib.trimRightB (th3 r) 48).toArray⟩ : ByteArray) = thT r from by
      apply bytes_eq'
      rw [append_list, thT_list]
      simp [thL, h0])
    have hz : (((r : Nat) : Int) == 0) = false := by rw [beq_eq_false_iff_ne]; omega
    have HL := Lib.hid (show (⟨(Lib.trimRightB (th3 r) 48).toArray⟩ : ByteArray).size ≤ 3 from by
      rw [Lib.size_eq]
      rcases th_cases r (by omega) hr with ⟨_, z⟩ | ⟨_, _, z⟩ | ⟨_, _, _, z⟩ <;> rw [z] <;> simp [th3])
    have hL := HL.out
    rw [show (((1000 + r : Nat)) : Int) = 1000 + (r : Int) by omega] at CI
    clear hT he HL
    generalize (⟨(Lib.trimRightB (th3 r) 48).toArray⟩ : ByteArray) = u at *
    generalize thT r = t at *
    generalize numT (1000 + r) = x at *
    go_enter Tryd.func43, Tryd.ntmps43
    go_wp2_with fail
    refine CI.out.mono ?_
    rintro e w1 ⟨rfl, hb⟩
    have HB := Lib.hid hb
    clear hb
    go_wp2_with fail
    refine (CT.out _).mono ?_
    rintro e w' ⟨rfl, rfl⟩
    go_wp2
    go_ret
    exact ⟨by rw [← HR.out]; rfl, HB.out⟩

def timeT (n : Nat) : ByteArray := ⟨(timeL n).toArray⟩
theorem timeT_list (n : Nat) : (timeT n).data.toList = timeL n := by simp [timeT]
set_option maxHeartbeats 4000000 in
theorem showTime_ok (n : Nat) (w : World) (hT : TextW w) (hn : n ≤ 36000000) :
    Calls Tryd.prog 14 #[.int .i64 n] w fun e w' => e = .returned (.tuple #[.string (timeT n), .int .i64 0]) ∧ Below w.heap.size w w' := by
  have CY := Lib.hid (fun W => isTime_yes n W ⟨by omega, by omega⟩)
  have CT := Lib.hid (thousandths_any (n % 1000) w hT (by omega))
  have ht := thT_size (n % 1000) (by omega)
  by_cases h : n / 1000 < 60
  · have CI := Lib.hid (fun W (hb : Below w.heap.size w W) => itoa_nat (n / 1000) W (by omega) (hT.below hb))
    have hl := numT_len (n / 1000) 1 (by omega)
    have HR := Lib.hid (show numT (n / 1000) ++ thT (n % 1000) = timeT n from by
      apply bytes_eq'
      rw [append_list, thT_list, numT_list, timeT_list]
      unfold timeL
      rw [if_pos h])
    have hd : ((n : Nat) : Int) / 1000 = ((n / 1000 : Nat) : Int) := by omega
    have hm : ((n : Nat) : Int) % 1000 = ((n % 1000 : Nat) : Int) := by omega
    generalize hp : n / 1000 = p at *
    generalize hr : n % 1000 = r at *
    have hp0 : (p : Int) < 60 := by omega
    generalize timeT n = t at *
    generalize thT r = y at *
    generalize numT p = x at *
    clear hT h hp hr
    go_enter Tryd.func14, Tryd.ntmps14
    go_wp2_with fail
    refine (CY.out _).mono ?_
    rintro e w' ⟨rfl, rfl⟩
    go_wp2_with fail
    refine CT.out.mono ?_
    rintro e w1 ⟨rfl, hb⟩
    have HB := Lib.hid hb
    clear hb
    go_wp2_with fail
    refine (CI.out _ HB.out).mono ?_
    rintro e w2 ⟨rfl, hb⟩
    have HB2 := Lib.hid (bt HB.out hb)
    clear hb
    go_wp2
    go_ret2
    exact ⟨by rw [← HR.out]; rfl, HB2.out⟩
  · have CI := Lib.hid (fun W (hb : Below w.heap.size w W) => itoa_nat (n / 1000 / 60) W (by omega) (hT.below hb))
    have CJ := Lib.hid (fun W (hb : Below w.heap.size w W) => itoa_nat (100 + n / 1000 % 60) W (by omega) (hT.below hb))
    have hl := numT_len (n / 1000 / 60) 2 (by omega)
    have hl2 : (numT (100 + n / 1000 % 60)).size = 3 := by rw [numT_size, hundred_dec _ (by omega)]; rfl
    have HR := Lib.hid (show ((numT (n / 1000 / 60) ++ (⟨#[58]⟩ : ByteArray)) ++ (numT (100 + n / 1000 % 60)).extract 1 3) ++ thT (n % 1000) = timeT n from by
      apply bytes_eq'
      rw [append_list, append_list, append_list, thT_list, numT_list, timeT_list, ext_list, numT_list, hundred_dec _ (by omega)]
      unfold timeL
      rw [if_neg h]
      simp)
    have hd : ((n : Nat) : Int) / 1000 = ((n / 1000 : Nat) : Int) := by omega
    have hm : ((n : Nat) : Int) % 1000 = ((n % 1000 : Nat) : Int) := by omega
    generalize hp : n / 1000 = p at *
    generalize hr : n % 1000 = r at *
    have hd2 : ((p : Nat) : Int) / 60 = ((p / 60 : Nat) : Int) := by omega
    have hm2 : ((p : Nat) : Int) % 60 = ((p % 60 : Nat) : Int) := by omega
    have hp0 : ¬ (p : Int) < 60 := by omega
    generalize hq : p / 60 = q at *
    generalize hu : p % 60 = u at *
    have hu0 : u < 60 := by omega
    have hc : (((100 + u : Nat)) : Int) = 100 + (u : Int) := by omega
    rw [hc] at CJ
    generalize timeT n = t at *
    generalize thT r = y at *
    generalize numT q = x at *
    generalize numT (100 + u) = z at *
    clear hT h hp hr hq hu hc
    go_enter Tryd.func14, Tryd.ntmps14
    go_wp2_with fail
    refine (CY.out _).mono ?_
    rintro e w' ⟨rfl, rfl⟩
    go_wp2_with fail
    refine CT.out.mono ?_
    rintro e w1 ⟨rfl, hb⟩
    have HB := Lib.hid hb
    clear hb
    go_wp2_with fail
    refine (CI.out _ HB.out).mono ?_
    rintro e w2 ⟨rfl, hb⟩
    have HB2 := Lib.hid (bt HB.out hb)
    clear hb
    go_wp2_with fail
    refine (CJ.out _ HB2.out).mono ?_
    rintro e w3 ⟨rfl, hb⟩
    have HB3 := Lib.hid (bt HB2.out hb)
    clear hb
    go_wp2
    go_ret2
    exact ⟨by rw [← HR.out]; rfl, HB3.out⟩
set_option maxHeartbeats 1000000 in
theorem showTime_no (n : Int) (w : World) (h : n < 0 ∨ 36000000 < n) :
    Calls Tryd.prog 14 #[.int .i64 n] w fun e w' => e = .returned (.tuple #[.string ⟨#[]⟩, .int .i64 1]) ∧ w = w' := by
  have CN := Lib.hid (fun W => isTime_no n W h)
  clear h
  go_enter Tryd.func14, Tryd.ntmps14
  go_wp2_with fail
  refine (CN.out _).mono ?_
  rintro e w' ⟨rfl, rfl⟩
  go_wp2
  go_ret2
  exact ⟨rfl, rfl⟩
end Go.Proofs.YtdicoggpcobbpaaDoor
