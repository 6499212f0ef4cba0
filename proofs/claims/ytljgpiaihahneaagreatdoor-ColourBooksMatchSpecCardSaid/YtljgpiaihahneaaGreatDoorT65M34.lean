/- The reference's digits: a number with so many hex digits. (printed by wip/gen/gen_colref.py) -/
import Derived.Test.YtljgpiaihahneaaGreatDoorT65M33
import Derived.Test.YtljgpiaihahneaaGreatDoorT65M04
import Derived.Test.YtljgpiaihahneaaGreatDoorShelf

namespace Go.Proofs.YtljgpiaihahneaaGreatDoor
open Go.RowKit
set_option linter.unusedVariables false
set_option linter.unusedSimpArgs false

set_option maxHeartbeats 2000000 in
theorem rdig2_1 (n : Nat) (w : World) (h0 : 0 ≤ n) (hn : n < 16) (hw : ColW w) :
    Calls Tryz.prog 33 #[.int .i64 n, .int .i64 2] w fun e w' => e = .returned (.string (hx2 n)) ∧ Below w.heap.size w w' := by
  have CF := Lib.hid (rfmt1 n w h0 hn hw)
  have HX := Lib.hid (show (⟨#[48]⟩ : ByteArray) ++ (⟨#[hd n]⟩ : ByteArray) = hx2 n by unfold hx2; rw [show n / 16 = 0 by omega, show n % 16 = n by omega]; rfl)
  have CR := Lib.hid (fun W => show Calls Tryz.prog 48 #[.string ⟨#[48]⟩, .int .i64 1] W fun e w' => e = .returned (.string ⟨#[48]⟩) ∧ Below W.heap.size W w' from (Tryz.strings_Repeat_one ⟨#[48]⟩ W).mono (fun e w' h => ⟨h.1.trans (by first | rfl | decide), by rw [h.2]; exact Below.refl _ _⟩))
  generalize hx2 n = r at *
  have hs : (⟨#[hd n]⟩ : ByteArray).size = 1 := rfl
  have hz : (⟨#[48]⟩ : ByteArray).size = 1 := rfl
  generalize (⟨#[hd n]⟩ : ByteArray) = t at *
  clear hw
  go_enter Tryz.func33, Tryz.ntmps33
  go_wp2_with fail
  refine CF.out.mono ?_
  rintro e w1 ⟨rfl, hb⟩
  have HB := Lib.hid hb
  clear hb
  go_wp2_with fail
  refine (CR.out _).mono ?_
  rintro e w2 ⟨rfl, hb⟩
  have HB2 := Lib.hid (bt HB.out hb)
  clear hb
  go_wp2
  go_ret
  exact ⟨by rw [← HX.out]; rfl, HB2.out⟩

set_option maxHeartbeats 2000000 in
theorem rdig2_2 (n : Nat) (w : World) (h0 : 16 ≤ n) (hn : n < 256) (hw : ColW w) :
    Calls Tryz.prog 33 #[.int .i64 n, .int .i64 2] w fun e w' => e = .returned (.string (hx2 n)) ∧ Below w.heap.size w w' := by
  have CF := Lib.hid (rfmt2 n w h0 hn hw)
  have HX := Lib.hid (show (⟨#[]⟩ : ByteArray) ++ (⟨#[hd (n / 16), hd (n % 16)]⟩ : ByteArray) = hx2 n by unfold hx2; rfl)
  have CR := Lib.hid (fun W => show Calls Tryz.prog 48 #[.string ⟨#[48]⟩, .int .i64 0] W fun e w' => e = .returned (.string ⟨#[]⟩) ∧ Below W.heap.size W w' from (Tryz.strings_Repeat_zero ⟨#[48]⟩ W).mono (fun e w' h => ⟨h.1.trans (by first | rfl | decide), by rw [h.2]; exact Below.refl _ _⟩))
  generalize hx2 n = r at *
  have hs : (⟨#[hd (n / 16), hd (n % 16)]⟩ : ByteArray).size = 2 := rfl
  have hz : (⟨#[]⟩ : ByteArray).size = 0 := rfl
  generalize (⟨#[hd (n / 16), hd (n % 16)]⟩ : ByteArray) = t at *
  generalize (⟨#[]⟩ : ByteArray) = z at *
  clear hw
  go_enter Tryz.func33, Tryz.ntmps33
  go_wp2_with fail
  refine CF.out.mono ?_
  rintro e w1 ⟨rfl, hb⟩
  have HB := Lib.hid hb
  clear hb
  go_wp2_with fail
  refine (CR.out _).mono ?_
  rintro e w2 ⟨rfl, hb⟩
  have HB2 := Lib.hid (bt HB.out hb)
  clear hb
  go_wp2
  go_ret
  exact ⟨by rw [← HX.out]; rfl, HB2.out⟩
theorem rdig2 (n : Nat) (w : World) (hn : n < 256) (hw : ColW w) :
    Calls Tryz.prog 33 #[.int .i64 n, .int .i64 2] w fun e w' => e = .returned (.string (hx2 n)) ∧ Below w.heap.size w w' := by
  by_cases c1 : n < 16
  · exact rdig2_1 n w (by omega) c1 hw
  exact rdig2_2 n w (by omega) hn hw

set_option maxHeartbeats 2000000 in
theorem rdig4_1 (n : Nat) (w : World) (h0 : 0 ≤ n) (hn : n < 16) (hw : ColW w) :
    Calls Tryz.prog 33 #[.int .i64 n, .int .i64 4] w fun e w' => e = .returned (.string (hx4 n)) ∧ Below w.heap.size w w' := by
  have CF := Lib.hid (rfmt1 n w h0 hn hw)
  have HX := Lib.hid (show (⟨#[48, 48, 48]⟩ : ByteArray) ++ (⟨#[hd n]⟩ : ByteArray) = hx4 n by unfold hx4; rw [show n / 4096 = 0 by omega, show n / 256 % 16 = 0 by omega, show n / 16 % 16 = 0 by omega, show n % 16 = n by omega]; rfl)
  have CR := Lib.hid (fun W => show Calls Tryz.prog 48 #[.string ⟨#[48]⟩, .int .i64 3] W fun e w' => e = .returned (.string ⟨#[48, 48, 48]⟩) ∧ Below W.heap.size W w' from (Tryz.strings_Repeat_main ⟨#[48]⟩ 3 W (by decide) (by decide) (by decide) (by decide)).mono (fun e w' h => ⟨h.1.trans (by first | rfl | decide), by exact h.2⟩))
  generalize hx4 n = r at *
  have hs : (⟨#[hd n]⟩ : ByteArray).size = 1 := rfl
  have hz : (⟨#[48, 48, 48]⟩ : ByteArray).size = 3 := rfl
  generalize (⟨#[hd n]⟩ : ByteArray) = t at *
  generalize (⟨#[48, 48, 48]⟩ : ByteArray) = z at *
  clear hw
  go_enter Tryz.func33, Tryz.ntmps33
  go_wp2_with fail
  refine CF.out.mono ?_
  rintro e w1 ⟨rfl, hb⟩
  have HB := Lib.hid hb
  clear hb
  go_wp2_with fail
  refine (CR.out _).mono ?_
  rintro e w2 ⟨rfl, hb⟩
  have HB2 := Lib.hid (bt HB.out hb)
  clear hb
  go_wp2
  go_ret
  exact ⟨by rw [← HX.out]; rfl, HB2.out⟩

set_option maxHeartbeats 2000000 in
theorem rdig4_2 (n : Nat) (w : World) (h0 : 16 ≤ n) (hn : n < 256) (hw : ColW w) :
    Calls Tryz.prog 33 #[.int .i64 n, .int .i64 4] w fun e w' => e = .returned (.string (hx4 n)) ∧ Below w.heap.size w w' := by
  have CF := Lib.hid (rfmt2 n w h0 hn hw)
  have HX := Lib.hid (show (⟨#[48, 48]⟩ : ByteArray) ++ (⟨#[hd (n / 16), hd (n % 16)]⟩ : ByteArray) = hx4 n by unfold hx4; rw [show n / 4096 = 0 by omega, show n / 256 % 16 = 0 by omega, show n / 16 % 16 = n / 16 by omega]; rfl)
  have CR := Lib.hid (fun W => show Calls Tryz.prog 48 #[.string ⟨#[48]⟩, .int .i64 2] W fun e w' => e = .returned (.string ⟨#[48, 48]⟩) ∧ Below W.heap.size W w' from (Tryz.strings_Repeat_main ⟨#[48]⟩ 2 W (by decide) (by decide) (by decide) (by decide)).mono (fun e w' h => ⟨h.1.trans (by first | rfl | decide), by exact h.2⟩))
  generalize hx4 n = r at *
  have hs : (⟨#[hd (n / 16), hd (n % 16)]⟩ : ByteArray).size = 2 := rfl
  have hz : (⟨#[48, 48]⟩ : ByteArray).size = 2 := rfl
  generalize (⟨#[hd (n / 16), hd (n % 16)]⟩ : ByteArray) = t at *
  generalize (⟨#[48, 48]⟩ : ByteArray) = z at *
  clear hw
  go_enter Tryz.func33, Tryz.ntmps33
  go_wp2_with fail
  refine CF.out.mono ?_
  rintro e w1 ⟨rfl, hb⟩
  have HB := Lib.hid hb
  clear hb
  go_wp2_with fail
  refine (CR.out _).mono ?_
  rintro e w2 ⟨rfl, hb⟩
  have HB2 := Lib.hid (bt HB.out hb)
  clear hb
  go_wp2
  go_ret
  exact ⟨by rw [← HX.out]; rfl, HB2.out⟩

set_option maxHeartbeats 2000000 in
theorem rdig4_3 (n : Nat) (w : World) (h0 : 256 ≤ n) (hn : n < 4096) (hw : ColW w) :
    Calls Tryz.prog 33 #[.int .i64 n, .int .i64 4] w fun e w' => e = .returned (.string (hx4 n)) ∧ Below w.heap.size w w' := by
  have CF := Lib.hid (rfmt3 n w h0 hn hw)
  have HX := Lib.hid (show (⟨#[48]⟩ : ByteArray) ++ (⟨#[hd (n / 256), hd (n / 16 % 16), hd (n % 16)]⟩ : ByteArray) = hx4 n by unfold hx4; rw [show n / 4096 = 0 by omega, show n / 256 % 16 = n / 256 by omega]; rfl)
  have CR := Lib.hid (fun W => show Calls Tryz.prog 48 #[.string ⟨#[48]⟩, .int .i64 1] W fun e w' => e = .returned (.string ⟨#[48]⟩) ∧ Below W.heap.size W w' from (Tryz.strings_Repeat_one ⟨#[48]⟩ W).mono (fun e w' h => ⟨h.1.trans (by first | rfl | decide), by rw [h.2]; exact Below.refl _ _⟩))
  generalize hx4 n = r at *
  have hs : (⟨#[hd (n / 256), hd (n / 16 % 16), hd (n % 16)]⟩ : ByteArray).size = 3 := rfl
  have hz : (⟨#[48]⟩ : ByteArray).size = 1 := rfl
  generalize (⟨#[hd (n / 256), hd (n / 16 % 16), hd (n % 16)]⟩ : ByteArray) = t at *
  clear hw
  go_enter Tryz.func33, Tryz.ntmps33
  go_wp2_with fail
  refine CF.out.mono ?_
  rintro e w1 ⟨rfl, hb⟩
  have HB := Lib.hid hb
  clear hb
  go_wp2_with fail
  refine (CR.out _).mono ?_
  rintro e w2 ⟨rfl, hb⟩
  have HB2 := Lib.hid (bt HB.out hb)
  clear hb
  go_wp2
  go_ret
  exact ⟨by rw [← HX.out]; rfl, HB2.out⟩

set_option maxHeartbeats 2000000 in
theorem rdig4_4 (n : Nat) (w : World) (h0 : 4096 ≤ n) (hn : n < 65536) (hw : ColW w) :
    Calls Tryz.prog 33 #[.int .i64 n, .int .i64 4] w fun e w' => e = .returned (.string (hx4 n)) ∧ Below w.heap.size w w' := by
  have CF := Lib.hid (rfmt4 n w h0 hn hw)
  have HX := Lib.hid (show (⟨#[]⟩ : ByteArray) ++ (⟨#[hd (n / 4096), hd (n / 256 % 16), hd (n / 16 % 16), hd (n % 16)]⟩ : ByteArray) = hx4 n by unfold hx4; rfl)
  have CR := Lib.hid (fun W => show Calls Tryz.prog 48 #[.string ⟨#[48]⟩, .int .i64 0] W fun e w' => e = .returned (.string ⟨#[]⟩) ∧ Below W.heap.size W w' from (Tryz.strings_Repeat_zero ⟨#[48]⟩ W).mono (fun e w' h => ⟨h.1.trans (by first | rfl | decide), by rw [h.2]; exact Below.refl _ _⟩))
  generalize hx4 n = r at *
  have hs : (⟨#[hd (n / 4096), hd (n / 256 % 16), hd (n / 16 % 16), hd (n % 16)]⟩ : ByteArray).size = 4 := rfl
  have hz : (⟨#[]⟩ : ByteArray).size = 0 := rfl
  generalize (⟨#[hd (n / 4096), hd (n / 256 % 16), hd (n / 16 % 16), hd (n % 16)]⟩ : ByteArray) = t at *
  generalize (⟨#[]⟩ : ByteArray) = z at *
  clear hw
  go_enter Tryz.func33, Tryz.ntmps33
  go_wp2_with fail
  refine CF.out.mono ?_
  rintro e w1 ⟨rfl, hb⟩
  have HB := Lib.hid hb
  clear hb
  go_wp2_with fail
  refine (CR.out _).mono ?_
  rintro e w2 ⟨rfl, hb⟩
  have HB2 := Lib.hid (bt HB.out hb)
  clear hb
  go_wp2
  go_ret
  exact ⟨by rw [← HX.out]; rfl, HB2.out⟩
theorem rdig4 (n : Nat) (w : World) (hn : n < 65536) (hw : ColW w) :
    Calls Tryz.prog 33 #[.int .i64 n, .int .i64 4] w fun e w' => e = .returned (.string (hx4 n)) ∧ Below w.heap.size w w' := by
  by_cases c1 : n < 16
  · exact rdig4_1 n w (by omega) c1 hw
  by_cases c2 : n < 256
  · exact rdig4_2 n w (by omega) c2 hw
  by_cases c3 : n < 4096
  · exact rdig4_3 n w (by omega) c3 hw
  exact rdig4_4 n w (by omega) hn hw
end Go.Proofs.YtljgpiaihahneaaGreatDoor
