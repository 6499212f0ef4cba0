/- sameRig at alike rigs. (printed by wip/gen/gen_same.py) The box of a rig that is an argument. (printed by wip/gen/gen_placewalk.py) The walk of cycloramalaw2.FixturePatchesMatchSpec. (printed by wip/gen/gen_rpatch.py) -/
import Derived.Test.YtppbagllhmeenaaGreatDoorT62M43
import Derived.Test.YtppbagllhmeenaaGreatDoorT62M22
import Derived.Test.YtppbagllhmeenaaGreatDoorT62M19
import Derived.Test.YtppbagllhmeenaaGreatDoorT62M15
import Derived.Test.YtppbagllhmeenaaGreatDoorT62M32
import Derived.Test.YtppbagllhmeenaaGreatDoorT62M41

namespace Go.Proofs.YtppbagllhmeenaaGreatDoor
open Go.RowKit
set_option linter.unusedVariables false
set_option linter.unusedSimpArgs false

set_option maxRecDepth 100000 in
set_option maxHeartbeats 2000000 in
theorem sameRig_any (x : Rig) (lv uv lv2 uv2 : Value) (w : World) (h : RigAt w.heap.size w x lv uv) (h2 : RigAt w.heap.size w x lv2 uv2) :
    Calls Tryz.prog 9 #[rigV lv uv, rigV lv2 uv2] w fun e w' => e = .returned (.bool true) ∧ Below w.heap.size w w' := by
  have CL := Lib.hid (fun W (hb : Below w.heap.size w W) => sameLibrary_any lv lv2 x.lib W ((h.lib.below hb).more hb.size) ((h2.lib.below hb).more hb.size))
  have CU := Lib.hid (fun W (hb : Below w.heap.size w W) => units_equal uv uv2 x.units W ((h.units.below hb).more hb.size) ((h2.units.below hb).more hb.size))
  obtain ⟨ra, rb, rfl⟩ := prfS_shape h.lib
  obtain ⟨sa, sb, rfl⟩ := prfS_shape h2.lib
  obtain ⟨rc, rd, rfl, _⟩ := CellsS.shape h.units
  obtain ⟨sc, sd, rfl, _⟩ := CellsS.shape h2.units
  unfold rigV
  clear h h2
  have HB2 := Lib.hid (show Below w.heap.size w ((w.alloc (.cells #[.slice ra x.lib.length rb, .slice rc x.units.length rd] 25)).alloc (.cells #[.slice sa x.lib.length sb, .slice sc x.units.length sd] 25)) from ((Below.refl _ _).alloc (Nat.le_refl _) _).alloc (by simp) _)
  have CL1 := Lib.hid (CL.out _ HB2.out)
  clear CL
  go_enter Tryz.func9, Tryz.ntmps9
  go_wp2_with fail
  refine CL1.out.mono ?_
  rintro e w1 ⟨rfl, hb⟩
  have HB := Lib.hid (HB2.out.trans (hb.mono HB2.out.size))
  have CU1 := Lib.hid (CU.out _ HB.out)
  have c1 : w1.cell? ⟨w.heap.size, 1, none⟩ = some (.slice rc x.units.length rd) := (hb.cell (p := ⟨w.heap.size, 1, none⟩) (by simp; omega)).trans (by simp [go_sem, World.cell?_alloc_past])
  have d1 : w1.cell? ⟨w.heap.size + 1, 1, none⟩ = some (.slice sc x.units.length sd) := (hb.cell (p := ⟨w.heap.size + 1, 1, none⟩) (by simp)).trans (by simp [go_sem])
  clear hb CL1 CU
  go_wp2_with fail
  refine CU1.out.mono ?_
  rintro e w2 ⟨rfl, hb⟩
  have HC := Lib.hid (HB.out.trans (hb.mono HB.out.size))
  clear hb CU1
  go_wp2_with fail
  go_ret
  exact ⟨by simp, HC.out⟩
end Go.Proofs.YtppbagllhmeenaaGreatDoor

namespace Go.Proofs.YtppbagllhmeenaaGreatDoor
open Go.RowKit
set_option linter.unusedVariables false
set_option linter.unusedSimpArgs false
/-- the box of a rig's argument -/
def RBox (w : World) (lv uv : Value) (W : World) : Prop := Below (w.heap.size + 1) (w.alloc (.cells #[lv, uv] 25)) W
theorem RBox.start (w : World) (lv uv : Value) : RBox w lv uv (w.alloc (.cells #[lv, uv] 25)) := Below.refl _ _
theorem RBox.size {w W : World} {lv uv : Value} (h : RBox w lv uv W) : w.heap.size + 1 ≤ W.heap.size := by
  have := Below.size h
  simp at this
  omega
theorem RBox.bel {w W : World} {lv uv : Value} (h : RBox w lv uv W) : Below w.heap.size w W := ((Below.refl _ _).alloc (Nat.le_refl _) _).trans (Below.mono h (by omega))
theorem RBox.next {w W W1 : World} {lv uv : Value} (h : RBox w lv uv W) (hb : Below W.heap.size W W1) : RBox w lv uv W1 := Below.trans h (hb.mono h.size)
theorem RBox.par {w W : World} {lv uv : Value} (h : RBox w lv uv W) : TBox W w.heap.size 25 #[lv, uv] := (Below.block h w.heap.size (by omega)).trans (TBox.new w #[lv, uv] 25)
theorem RBox.set {w W : World} {lv uv : Value} (h : RBox w lv uv W) {b : Nat} (hb : w.heap.size + 1 ≤ b) (i : Nat) (u : Value) : RBox w lv uv (W.setCell ⟨b, i, none⟩ u) := Below.setCell h (p := ⟨b, i, none⟩) hb u
theorem rig_shape {B : Nat} {w : World} {x : Rig} {lv uv : Value} (h : RigAt B w x lv uv) : ∃ lo lcap uo ucap, lv = .slice lo x.lib.length lcap ∧ uv = .slice uo x.units.length ucap := by
  obtain ⟨uo, ucap, e1, _⟩ := CellsS.shape h.units
  obtain ⟨lo, lcap, e2⟩ := prfS_shape h.lib
  exact ⟨lo, lcap, uo, ucap, e2, e1⟩
end Go.Proofs.YtppbagllhmeenaaGreatDoor

namespace Go.Proofs.YtppbagllhmeenaaGreatDoor.fixturePatchesMatchSpec
open Go.RowKit
set_option linter.unusedVariables false
set_option linter.unusedSimpArgs false

set_option maxRecDepth 100000 in
set_option maxHeartbeats 16000000 in
theorem walk (a0 : Value) (s : ByteArray) (w : World) (w0 : ∃ l, PrfS w.heap.size w a0 l ∧ ∀ x ∈ l, PrfFit x) (w1 : s.size ≤ maxLen) (hT : TextW w) :
    Calls Tryz.prog 3 #[a0, .string s] w fun e w' => e = .returned (.bool true) ∧ Below w.heap.size w w' := by
  obtain ⟨l, hl, hf⟩ := w0
  have hs : s.size ≤ 9223372036854775807 := by unfold maxLen at w1; omega
  have C1 := Lib.hid (readPatch_any l a0 s w hT hs hl hf)
  have K2 := Lib.hid (fun W (hb : Below w.heap.size w W) => rreadPatch_any l a0 s W (hT.below hb) hs ((hl.below hb).more hb.size) hf)
  unfold RpPost at C1 K2
  generalize rpX l s = rp at *
  obtain ⟨f, ln, rr⟩ := rp
  simp only at C1 K2
  obtain ⟨ao, cap, rfl⟩ := prfS_shape hl
  clear hl hf hs w1 hT
  go_enter Tryz.func3, Tryz.ntmps3
  go_wp2_with fail
  refine C1.out.mono ?_
  rintro e w1 ⟨lv1, uv1, rfl, hr, hb⟩
  have HR1 := Lib.hid hr
  obtain ⟨la, lc, ua, uc, rfl, rfl⟩ := rig_shape hr
  try unfold rigV
  have HB1 := Lib.hid (hb.alloc hb.size (.cells #[.slice la rr.lib.length lc, .slice ua rr.units.length uc] 25))
  have HA1 := Lib.hid ((Below.refl w1.heap.size w1).alloc (Nat.le_refl _) (.cells #[.slice la rr.lib.length lc, .slice ua rr.units.length uc] 25))
  have T1 := Lib.hid (TBox.new w1 #[.slice la rr.lib.length lc, .slice ua rr.units.length uc] 25)
  have C2 := Lib.hid (K2.out _ HB1.out)
  clear hb hr C1 K2
  go_wp2_with fail
  refine C2.out.mono ?_
  rintro e w2 ⟨lv2, uv2, rfl, hr, hb⟩
  obtain ⟨lx, ly, ux, uy, rfl, rfl⟩ := rig_shape hr
  try unfold rigV
  have hA2 := (Below.refl w2.heap.size w2).alloc (Nat.le_refl _) (.cells #[.slice lx rr.lib.length ly, .slice ux rr.units.length uy] 25)
  have HB2 := Lib.hid (bt (bt HB1.out hb) hA2)
  have T2 := Lib.hid (TBox.new w2 #[.slice lx rr.lib.length ly, .slice ux rr.units.length uy] 25)
  have T12 := Lib.hid ((T1.out.below hb).below hA2)
  have hc1 := bt (HA1.out.trans (hb.mono HA1.out.size)) hA2
  have CS := Lib.hid (sameRig_any rr _ _ _ _ _ ((HR1.out.below hc1).more hc1.size) ((hr.below hA2).more hA2.size))
  unfold rigV at CS
  clear hb hr hc1 hA2 T1 HA1 HB1 HR1 C2
  go_upto_region 3 with fail
  have a0 := T12.out.cell (i := 0) rfl
  have a1 := T12.out.cell (i := 1) rfl
  have b0 := T2.out.cell (i := 0) rfl
  have b1 := T2.out.cell (i := 1) rfl
  have hz1 := T12.out.lt
  go_wp2_with fail
  refine CS.out.mono ?_
  rintro e w4 ⟨rfl, hb⟩
  have HB4 := Lib.hid (bt HB2.out hb)
  clear hb
  go_wp2
  go_ret
  exact ⟨rfl, HB4.out⟩
end Go.Proofs.YtppbagllhmeenaaGreatDoor.fixturePatchesMatchSpec
