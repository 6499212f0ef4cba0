/- The closure of colour.Show: so many hex digits of a number. -/
import Derived.Test.YtljgpiaihahneaaGreatDoorT65M11

namespace Go.Proofs.YtljgpiaihahneaaGreatDoor
open Go.RowKit
set_option linter.unusedVariables false
set_option linter.unusedSimpArgs false

/-- two, and four, hex digits of a number -/
def hx2 (n : Nat) : ByteArray := ⟨#[hd (n / 16), hd (n % 16)]⟩
def hx4 (n : Nat) : ByteArray := ⟨#[hd (n / 4096), hd (n / 256 % 16), hd (n / 16 % 16), hd (n % 16)]⟩
theorem bits3_n (n : Nat) (w : World) (hn : n < 256) (hw : ColW w) :
    Calls Tryz.prog 69 #[.slice none 0 0, .int .u64 (256 + (n : Int)), .int .i64 16, .bool false, .bool false] w fun e w' => e = .returned (.tuple #[.slice none 0 0, .string ⟨#[49, hd (n / 16), hd (n % 16)]⟩]) ∧ Below w.heap.size w w' := by
  have := bits3 (n / 16) (n % 16) w (by omega) (by omega) hw
  rw [show 16 * (16 + ((n / 16 : Nat) : Int)) + ((n % 16 : Nat) : Int) = 256 + (n : Int) by omega] at this
  exact this
theorem bits5_n (n : Nat) (w : World) (hn : n < 65536) (hw : ColW w) :
    Calls Tryz.prog 69 #[.slice none 0 0, .int .u64 (65536 + (n : Int)), .int .i64 16, .bool false, .bool false] w fun e w' => e = .returned (.tuple #[.slice none 0 0, .string ⟨#[49, hd (n / 4096), hd (n / 256 % 16), hd (n / 16 % 16), hd (n % 16)]⟩]) ∧ Below w.heap.size w w' := by
  have := bits5 (n / 4096) (n / 256 % 16) (n / 16 % 16) (n % 16) w (by omega) (by omega) (by omega) (by omega) hw
  rw [show 16 * (16 * (16 * (16 + ((n / 4096 : Nat) : Int)) + ((n / 256 % 16 : Nat) : Int)) + ((n / 16 % 16 : Nat) : Int)) + ((n % 16 : Nat) : Int) = 65536 + (n : Int) by omega] at this
  exact this

set_option maxHeartbeats 2000000 in
theorem fmt2 (n : Nat) (w : World) (hn : n < 256) (hw : ColW w) :
    Calls Tryz.prog 30 #[.int .i64 (256 + (n : Int)), .int .i64 16] w fun e w' => e = .returned (.string ⟨#[49, hd (n / 16), hd (n % 16)]⟩) ∧ Below w.heap.size w w' := by
  have CB := Lib.hid (bits3_n n w hn hw)
  generalize (⟨#[49, hd (n / 16), hd (n % 16)]⟩ : ByteArray) = t at *
  clear hw
  have CI : Hid (Calls Tryz.prog 46 #[.int .i64 (256 + (n : Int)), .int .i64 16] w fun e w' => e = .returned (.string t) ∧ Below w.heap.size w w') := by
    refine Lib.hid ?_
    go_enter Tryz.func46, Tryz.ntmps46
    go_wp2_with fail
    refine CB.out.mono ?_
    rintro e w1 ⟨rfl, hb⟩
    have HB := Lib.hid hb
    clear hb
    go_wp2
    go_ret
    exact ⟨rfl, HB.out⟩
  clear CB
  go_enter Tryz.func30, Tryz.ntmps30
  go_wp2_with fail
  refine CI.out.mono ?_
  rintro e w1 ⟨rfl, hb⟩
  have HB := Lib.hid hb
  clear hb
  go_wp2
  go_ret
  exact ⟨rfl, HB.out⟩
set_option maxHeartbeats 2000000 in
theorem hexFn2 (n : Nat) (w : World) (hn : n < 256) (hw : ColW w) :
    Calls Tryz.prog 29 #[.int .i64 n, .int .i64 2] w fun e w' => e = .returned (.string (hx2 n)) ∧ Below w.heap.size w w' := by
  have CF := Lib.hid (fmt2 n w hn hw)
  have HX := Lib.hid (show (⟨#[49, hd (n / 16), hd (n % 16)]⟩ : ByteArray).extract 1 3 = hx2 n from rfl)
  generalize hx2 n = r at *
  have HS := Lib.hid (show (⟨#[49, hd (n / 16), hd (n % 16)]⟩ : ByteArray).size = 3 from rfl)
  generalize (⟨#[49, hd (n / 16), hd (n % 16)]⟩ : ByteArray) = t at *
  have hs := HS.out
  clear hw
  go_enter Tryz.func29, Tryz.ntmps29
  go_wp2_with fail
  refine CF.out.mono ?_
  rintro e w1 ⟨rfl, hb⟩
  have HB := Lib.hid hb
  clear hb
  go_wp2
  go_ret
  exact ⟨by rw [← HX.out]; rfl, HB.out⟩

set_option maxHeartbeats 2000000 in
theorem fmt4 (n : Nat) (w : World) (hn : n < 65536) (hw : ColW w) :
    Calls Tryz.prog 30 #[.int .i64 (65536 + (n : Int)), .int .i64 16] w fun e w' => e = .returned (.string ⟨#[49, hd (n / 4096), hd (n / 256 % 16), hd (n / 16 % 16), hd (n % 16)]⟩) ∧ Below w.heap.size w w' := by
  have CB := Lib.hid (bits5_n n w hn hw)
  generalize (⟨#[49, hd (n / 4096), hd (n / 256 % 16), hd (n / 16 % 16), hd (n % 16)]⟩ : ByteArray) = t at *
  clear hw
  have CI : Hid (Calls Tryz.prog 46 #[.int .i64 (65536 + (n : Int)), .int .i64 16] w fun e w' => e = .returned (.string t) ∧ Below w.heap.size w w') := by
    refine Lib.hid ?_
    go_enter Tryz.func46, Tryz.ntmps46
    go_wp2_with fail
    refine CB.out.mono ?_
    rintro e w1 ⟨rfl, hb⟩
    have HB := Lib.hid hb
    clear hb
    go_wp2
    go_ret
    exact ⟨rfl, HB.out⟩
  clear CB
  go_enter Tryz.func30, Tryz.ntmps30
  go_wp2_with fail
  refine CI.out.mono ?_
  rintro e w1 ⟨rfl, hb⟩
  have HB := Lib.hid hb
  clear hb
  go_wp2
  go_ret
  exact ⟨rfl, HB.out⟩
set_option maxHeartbeats 2000000 in
theorem hexFn4 (n : Nat) (w : World) (hn : n < 65536) (hw : ColW w) :
    Calls Tryz.prog 29 #[.int .i64 n, .int .i64 4] w fun e w' => e = .returned (.string (hx4 n)) ∧ Below w.heap.size w w' := by
  have CF := Lib.hid (fmt4 n w hn hw)
  have HX := Lib.hid (show (⟨#[49, hd (n / 4096), hd (n / 256 % 16), hd (n / 16 % 16), hd (n % 16)]⟩ : ByteArray).extract 1 5 = hx4 n from rfl)
  generalize hx4 n = r at *
  have HS := Lib.hid (show (⟨#[49, hd (n / 4096), hd (n / 256 % 16), hd (n / 16 % 16), hd (n % 16)]⟩ : ByteArray).size = 5 from rfl)
  generalize (⟨#[49, hd (n / 4096), hd (n / 256 % 16), hd (n / 16 % 16), hd (n % 16)]⟩ : ByteArray) = t at *
  have hs := HS.out
  clear hw
  go_enter Tryz.func29, Tryz.ntmps29
  go_wp2_with fail
  refine CF.out.mono ?_
  rintro e w1 ⟨rfl, hb⟩
  have HB := Lib.hid hb
  clear hb
  go_wp2
  go_ret
  exact ⟨by rw [← HX.out]; rfl, HB.out⟩
end Go.Proofs.YtljgpiaihahneaaGreatDoor
