/- Texts: what a world must hold for them; digits and numbers of one digit. -/
import Derived.Test.YtppbagllhmeenaaGreatDoorShelf
import Derived.Test.YtppbagllhmeenaaGreatDoorT68M02
import Derived.Lib.LaidTab
import Derived.WalkSmall
import Derived.Deep.DeepCutAuto
import Derived.Deep.WholeRow
import Derived.Lib.AppendIntMem
import Derived.Lib.AtoiErrMem
import Derived.Deep.QuietTactic
import Derived.BigQuiet

namespace Go.Proofs.YtppbagllhmeenaaGreatDoor
open Go.RowKit
set_option linter.unusedVariables false
set_option linter.unusedSimpArgs false

theorem gPow : Tryz.prog.globalNamed "internal/strconv.uint64pow10" = some 1 := by kernel_rfl
/-- what a world must hold for texts -/
structure TextW (w : World) : Prop where
  len : ∃ m : Int, w.cell? ⟨0, 0, none⟩ = some (.int .i64 m)
  pow : Lib.TabIs Tryz.prog w "internal/strconv.uint64pow10" .u64 Lib.pow10Tab
  sz : 8 ≤ w.heap.size
theorem TextW.below {w W : World} (h : TextW w) (hb : Below w.heap.size w W) : TextW W :=
  ⟨by obtain ⟨m, hm⟩ := h.len; exact ⟨m, (hb.cell (show 0 < w.heap.size by have := h.sz; omega)).trans hm⟩,
   var?_below hb gPow (by have := h.sz; omega) h.pow, Nat.le_trans h.sz hb.size⟩

theorem below_drewN' {B n : Nat} {a w : World} (h : Below B a w) : Below B a (w.drewN n) := ⟨h.os, h.tape, h.output, h.size, h.block⟩
def ten : List UInt8 := [48, 49, 50, 51, 52, 53, 54, 55, 56, 57]
theorem hv99 : ∀ w, (zeroValue 132).run Tryz.prog w = .ok (.agg (Array.replicate 256 (.bool false))) w := fun w => by
  have : (zeroValue 132).run Tryz.prog = fun w => Result.ok (.agg (Array.replicate 256 (.bool false))) w := by kernel_rfl
  rw [this]

set_option maxHeartbeats 400000 in
theorem contains_any (g : Nat) (c : Int) (b : Bool) (w : World) (c0 : 0 ≤ c) (c9 : c < 256) (hc : w.cell? ⟨g, c.toNat, none⟩ = some (.bool b)) :
    Calls Tryz.prog 113 #[.pointer (some ⟨g, 0, none⟩), .int .u8 c] w fun e w' => e = .returned (.bool b) ∧ w = w' := by
  obtain ⟨n, rfl⟩ := Int.eq_ofNat_of_zero_le c0
  have hn : n < 256 := by omega
  have hc' : w.cell? ⟨g, n, none⟩ = some (.bool b) := hc
  clear hc
  go_enter Tryz.func113, Tryz.ntmps113
  go_wp2
  go_ret
  exact ⟨rfl, rfl⟩

set_option maxHeartbeats 1000000 in
theorem trimR_49 (g : Nat) (w : World) (hc : w.cell? ⟨g, 49, none⟩ = some (.bool true)) :
    Calls Tryz.prog 123 #[.string ⟨#[49]⟩, .pointer (some ⟨g, 0, none⟩)] w fun e w' => e = .returned (.string ⟨#[]⟩) ∧ w = w' := by
  have CC := Lib.hid (contains_any g 49 true w (by omega) (by omega) hc)
  clear hc
  go_enter Tryz.func123, Tryz.ntmps123
  go_wp2_with fail
  go_loop [0] (fun s => s = .string ⟨#[49]⟩ ∨ s = .string ⟨#[]⟩) (fun s => match s with | .string b => b.size | _ => 0)
  case atStart => exact .inl rfl
  case round =>
    rcases hrel with rfl | rfl
    · go_wp2_with fail
      refine CC.out.mono ?_
      rintro e w' ⟨rfl, rfl⟩
      go_wp2
      go_round
      case rel => exact .inr rfl
      case measure => decide
    · go_wp2
      go_ret
      exact ⟨rfl, rfl⟩

set_option maxHeartbeats 1000000 in
theorem trimR_53 (g : Nat) (w : World) (hc : w.cell? ⟨g, 53, none⟩ = some (.bool true)) :
    Calls Tryz.prog 123 #[.string ⟨#[53]⟩, .pointer (some ⟨g, 0, none⟩)] w fun e w' => e = .returned (.string ⟨#[]⟩) ∧ w = w' := by
  have CC := Lib.hid (contains_any g 53 true w (by omega) (by omega) hc)
  clear hc
  go_enter Tryz.func123, Tryz.ntmps123
  go_wp2_with fail
  go_loop [0] (fun s => s = .string ⟨#[53]⟩ ∨ s = .string ⟨#[]⟩) (fun s => match s with | .string b => b.size | _ => 0)
  case atStart => exact .inl rfl
  case round =>
    rcases hrel with rfl | rfl
    · go_wp2_with fail
      refine CC.out.mono ?_
      rintro e w' ⟨rfl, rfl⟩
      go_wp2
      go_round
      case rel => exact .inr rfl
      case measure => decide
    · go_wp2
      go_ret
      exact ⟨rfl, rfl⟩

set_option maxHeartbeats 1000000 in
theorem trimL_nil (g : Nat) (w : World) :
    Calls Tryz.prog 91 #[.string ⟨#[]⟩, .pointer (some ⟨g, 0, none⟩)] w fun e w' => e = .returned (.string ⟨#[]⟩) ∧ w = w' := by
  go_enter Tryz.func91, Tryz.ntmps91
  go_wp2_with fail
  refine wp_loop_rounds 1 ?_; rw [rounds_succ]
  go_wp2
  go_ret
  exact ⟨rfl, rfl⟩

set_option maxHeartbeats 4000000 in
set_option maxRecDepth 100000 in
theorem trim_49 (w : World) :
    Calls Tryz.prog 100 #[.string ⟨#[49]⟩, .string ⟨#[48, 49, 50, 51, 52, 53, 54, 55, 56, 57]⟩] w fun e w' => e = .returned (.string ⟨#[]⟩) ∧ Below w.heap.size w w' := by
  have CM := Lib.hid (fun W => Tryz.strings_makeASCIISet hv99 ⟨#[48, 49, 50, 51, 52, 53, 54, 55, 56, 57]⟩ W (by decide) (by
    intro j b h
    have h2 : ten[j]? = some b := h
    have : b ∈ ten := List.mem_of_getElem? h2
    simp [ten] at this
    rcases this with rfl | rfl | rfl | rfl | rfl | rfl | rfl | rfl | rfl | rfl <;> decide))
  have HC := Lib.hid (show (Lib.setCells ten)[49]? = some (.bool true) from Lib.setCells_at ten 49)
  have HT : Hid ((⟨#[48, 49, 50, 51, 52, 53, 54, 55, 56, 57]⟩ : ByteArray).data.toList = ten) := rfl
  rw [HT.out] at CM
  have HSZ := Lib.hid (Lib.setCells_size ten)
  have HONE := Lib.hid (Lib.setCells_one ten)
  generalize Lib.setCells ten = cs at *
  go_enter Tryz.func100, Tryz.ntmps100
  go_wp2_with fail
  refine (CM.out _).mono ?_
  rintro e w1 ⟨rfl, rfl⟩
  have hv := hv99
  have hst : (storeCells ⟨w.heap.size + 1, 0, none⟩ cs.toList).run Tryz.prog ((w.alloc (.cells cs 132)).alloc (.cells (Array.replicate 256 (.bool false)) 132)) = .ok () ((w.alloc (.cells cs 132)).alloc (.cells cs 132)) := by
    have h := run_storeCells_new (P := Tryz.prog) (w.alloc (.cells cs 132)) 132 (Array.replicate 256 (.bool false)) cs (by rw [HSZ.out]; kernel_rfl) (by rw [HSZ.out]; simp) HONE.out
    simpa using h
  have hsz := HSZ.out
  go_upto_region 7 with fail
  have hc : ((w.alloc (.cells cs 132)).alloc (.cells cs 132)).cell? ⟨w.heap.size + 1, 49, none⟩ = some (.bool true) := by
    have := World.cell?_alloc_new (w.alloc (.cells cs 132)) cs 132 49
    rw [HC.out] at this
    simpa using this
  have CR := Lib.hid (trimR_49 (w.heap.size + 1) _ hc)
  clear hc hst hv hsz
  go_wp2_with fail
  refine CR.out.mono ?_
  rintro e w' ⟨rfl, rfl⟩
  go_wp2_with fail
  refine (trimL_nil _ _).mono ?_
  rintro e w' ⟨rfl, rfl⟩
  go_wp2
  go_ret
  exact ⟨rfl, below2⟩

set_option maxHeartbeats 4000000 in
set_option maxRecDepth 100000 in
theorem trim_53 (w : World) :
    Calls Tryz.prog 100 #[.string ⟨#[53]⟩, .string ⟨#[48, 49, 50, 51, 52, 53, 54, 55, 56, 57]⟩] w fun e w' => e = .returned (.string ⟨#[]⟩) ∧ Below w.heap.size w w' := by
  have CM := Lib.hid (fun W => Tryz.strings_makeASCIISet hv99 ⟨#[48, 49, 50, 51, 52, 53, 54, 55, 56, 57]⟩ W (by decide) (by
    intro j b h
    have h2 : ten[j]? = some b := h
    have : b ∈ ten := List.mem_of_getElem? h2
    simp [ten] at this
    rcases this with rfl | rfl | rfl | rfl | rfl | rfl | rfl | rfl | rfl | rfl <;> decide))
  have HC := Lib.hid (show (Lib.setCells ten)[53]? = some (.bool true) from Lib.setCells_at ten 53)
  have HT : Hid ((⟨#[48, 49, 50, 51, 52, 53, 54, 55, 56, 57]⟩ : ByteArray).data.toList = ten) := rfl
  rw [HT.out] at CM
  have HSZ := Lib.hid (Lib.setCells_size ten)
  have HONE := Lib.hid (Lib.setCells_one ten)
  generalize Lib.setCells ten = cs at *
  go_enter Tryz.func100, Tryz.ntmps100
  go_wp2_with fail
  refine (CM.out _).mono ?_
  rintro e w1 ⟨rfl, rfl⟩
  have hv := hv99
  have hst : (storeCells ⟨w.heap.size + 1, 0, none⟩ cs.toList).run Tryz.prog ((w.alloc (.cells cs 132)).alloc (.cells (Array.replicate 256 (.bool false)) 132)) = .ok () ((w.alloc (.cells cs 132)).alloc (.cells cs 132)) := by
    have h := run_storeCells_new (P := Tryz.prog) (w.alloc (.cells cs 132)) 132 (Array.replicate 256 (.bool false)) cs (by rw [HSZ.out]; kernel_rfl) (by rw [HSZ.out]; simp) HONE.out
    simpa using h
  have hsz := HSZ.out
  go_upto_region 7 with fail
  have hc : ((w.alloc (.cells cs 132)).alloc (.cells cs 132)).cell? ⟨w.heap.size + 1, 53, none⟩ = some (.bool true) := by
    have := World.cell?_alloc_new (w.alloc (.cells cs 132)) cs 132 53
    rw [HC.out] at this
    simpa using this
  have CR := Lib.hid (trimR_53 (w.heap.size + 1) _ hc)
  clear hc hst hv hsz
  go_wp2_with fail
  refine CR.out.mono ?_
  rintro e w' ⟨rfl, rfl⟩
  go_wp2_with fail
  refine (trimL_nil _ _).mono ?_
  rintro e w' ⟨rfl, rfl⟩
  go_wp2
  go_ret
  exact ⟨rfl, below2⟩

set_option maxHeartbeats 1000000 in
theorem digits_49 (w : World) : Calls Tryz.prog 74 #[.string ⟨#[49]⟩] w fun e w' => e = .returned (.bool true) ∧ Below w.heap.size w w' := by
  go_enter Tryz.func74, Tryz.ntmps74
  go_wp2_with fail
  refine (trim_49 _).mono ?_
  rintro e w1 ⟨rfl, hb⟩
  have HB := Lib.hid hb
  clear hb
  go_wp2
  go_ret
  exact ⟨rfl, HB.out⟩

set_option maxHeartbeats 1000000 in
theorem digits_53 (w : World) : Calls Tryz.prog 74 #[.string ⟨#[53]⟩] w fun e w' => e = .returned (.bool true) ∧ Below w.heap.size w w' := by
  go_enter Tryz.func74, Tryz.ntmps74
  go_wp2_with fail
  refine (trim_53 _).mono ?_
  rintro e w1 ⟨rfl, hb⟩
  have HB := Lib.hid hb
  clear hb
  go_wp2
  go_ret
  exact ⟨rfl, HB.out⟩

set_option maxHeartbeats 2000000 in
theorem numOf_1 (w : World) : Calls Tryz.prog 44 #[.string ⟨#[49]⟩, .int .i64 9] w fun e w' => e = .returned (.tuple #[.int .i64 1, .bool true]) ∧ Below w.heap.size w w' := by
  have CA := Lib.hid (fun W => Tryz.strconv_Atoi ⟨#[49]⟩ 1 (by decide) (by decide) W)
  go_enter Tryz.func44, Tryz.ntmps44
  go_wp2_with fail
  refine (digits_49 _).mono ?_
  rintro e w1 ⟨rfl, hb⟩
  have HB := Lib.hid hb
  clear hb
  go_wp2_with fail
  refine (CA.out _).mono ?_
  rintro e w2 ⟨rfl, t, rfl⟩
  have HB2 := Lib.hid (bt HB.out (Lib.bytesWorld_below w1 5 t))
  generalize Lib.bytesWorld w1 5 t = w2 at *
  go_wp2_with fail
  go_quiet (fail)
  go_wp2
  go_ret2
  exact ⟨rfl, below_drewN' HB2.out⟩
set_option maxHeartbeats 1000000 in
theorem number_1 (w : World) : Calls Tryz.prog 21 #[.string ⟨#[49]⟩] w fun e w' => e = .returned (.tuple #[.int .i64 1, .bool true]) ∧ Below w.heap.size w w' := by
  go_enter Tryz.func21, Tryz.ntmps21
  go_wp2_with fail
  refine (numOf_1 _).mono ?_
  rintro e w1 ⟨rfl, hb⟩
  have HB := Lib.hid hb
  clear hb
  go_wp2
  go_ret2
  exact ⟨rfl, HB.out⟩

theorem cut_dot : Lib.cut [49, 46, 53] [46] = ([49], [53], true) := by decide
theorem cut_colon : Lib.cut [49, 46, 53] [58] = ([49, 46, 53], [], false) := by decide
theorem cutDot (w : World) (hw : TextW w) : Calls Tryz.prog 45 #[.string ⟨#[49, 46, 53]⟩, .string ⟨#[46]⟩] w fun e w' => e = .returned (.tuple #[.string ⟨#[49]⟩, .string ⟨#[53]⟩, .bool true]) ∧ Below w.heap.size w w' := by
  obtain ⟨m, hm⟩ := hw.len
  refine (Tryz.strings_Cut ⟨#[49, 46, 53]⟩ ⟨#[46]⟩ m w (by decide) hm).mono ?_
  rintro e w' ⟨rfl, n, rfl⟩
  refine ⟨?_, below_drewN' (Below.refl _ _)⟩
  rw [show (⟨#[49, 46, 53]⟩ : ByteArray).data.toList = [49, 46, 53] from rfl, show (⟨#[46]⟩ : ByteArray).data.toList = [46] from rfl, cut_dot]
theorem cutColon (w : World) (hw : TextW w) : Calls Tryz.prog 45 #[.string ⟨#[49, 46, 53]⟩, .string ⟨#[58]⟩] w fun e w' => e = .returned (.tuple #[.string ⟨#[49, 46, 53]⟩, .string ⟨#[]⟩, .bool false]) ∧ Below w.heap.size w w' := by
  obtain ⟨m, hm⟩ := hw.len
  refine (Tryz.strings_Cut ⟨#[49, 46, 53]⟩ ⟨#[58]⟩ m w (by decide) hm).mono ?_
  rintro e w' ⟨rfl, n, rfl⟩
  refine ⟨?_, below_drewN' (Below.refl _ _)⟩
  rw [show (⟨#[49, 46, 53]⟩ : ByteArray).data.toList = [49, 46, 53] from rfl, show (⟨#[58]⟩ : ByteArray).data.toList = [58] from rfl, cut_colon]

set_option maxHeartbeats 4000000 in
theorem decimal_15 (w : World) (hw : TextW w) : Calls Tryz.prog 87 #[.string ⟨#[49, 46, 53]⟩, .int .i64 3] w fun e w' => e = .returned (.tuple #[.int .i64 1500, .bool true]) ∧ Below w.heap.size w w' := by
  have CC := Lib.hid (cutDot w hw)
  clear hw
  go_enter Tryz.func87, Tryz.ntmps87
  go_wp2_with fail
  refine CC.out.mono ?_
  rintro e w1 ⟨rfl, hb1⟩
  have HB1 := Lib.hid hb1
  clear hb1
  go_wp2_with fail
  refine (number_1 _).mono ?_
  rintro e w2 ⟨rfl, hb2⟩
  have HB2 := Lib.hid (bt HB1.out hb2)
  clear hb2
  go_wp2_with fail
  refine (digits_53 _).mono ?_
  rintro e w3 ⟨rfl, hb3⟩
  have HB3 := Lib.hid (bt HB2.out hb3)
  clear hb3
  go_wp2_with fail
  go_loop [9, 48] (fun s9 s48 => (s48 = .int .i64 0 ∧ s9 = .int .i64 1) ∨ (s48 = .int .i64 1 ∧ s9 = .int .i64 15) ∨ (s48 = .int .i64 2 ∧ s9 = .int .i64 150) ∨ (s48 = .int .i64 3 ∧ s9 = .int .i64 1500)) (fun _ s48 => 3 - (intOf s48).toNat)
  case atStart => exact .inl ⟨rfl, rfl⟩
  case round =>
    rcases hrel with ⟨rfl, rfl⟩ | ⟨rfl, rfl⟩ | ⟨rfl, rfl⟩ | ⟨rfl, rfl⟩
    · go_wp2
      go_round
      case rel => exact .inr (.inl ⟨rfl, rfl⟩)
      case measure => decide
    · go_wp2
      go_round
      case rel => exact .inr (.inr (.inl ⟨rfl, rfl⟩))
      case measure => decide
    · go_wp2
      go_round
      case rel => exact .inr (.inr (.inr ⟨rfl, rfl⟩))
      case measure => decide
    · go_wp2
      go_ret2
      exact ⟨rfl, HB3.out⟩

end Go.Proofs.YtppbagllhmeenaaGreatDoor
