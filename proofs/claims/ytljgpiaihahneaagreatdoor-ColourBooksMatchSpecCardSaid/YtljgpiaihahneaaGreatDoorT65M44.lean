/- slices.Equal at alike gels. The walk of cycloramalaw3.ColourBooksMatchSpec: for every input it returns true. (printed by wip/gen/gen_rbook.py) -/
import Derived.Test.YtljgpiaihahneaaGreatDoorT65M02
import Derived.Test.YtljgpiaihahneaaGreatDoorT65M07
import Derived.BigQuiet
import Derived.Deep.QuietTactic
import Derived.Test.YtljgpiaihahneaaGreatDoorT65M22
import Derived.Test.YtljgpiaihahneaaGreatDoorT65M30
import Derived.Test.YtljgpiaihahneaaGreatDoorT65M37
import Derived.Test.YtljgpiaihahneaaGreatDoorT65M43

namespace Go.Proofs.YtljgpiaihahneaaGreatDoor
open Go.RowKit
set_option linter.unusedVariables false
set_option linter.unusedSimpArgs false

set_option maxRecDepth 100000 in
set_option maxHeartbeats 4000000 in
theorem gels_equal (v u : Value) (l : List Gel) (w : World) (hv : GelS w.heap.size w v l) (hu : GelS w.heap.size w u l) :
    Calls Tryz.prog 10 #[v, u] w fun e w' => e = .returned (.bool true) ∧ Below w.heap.size w w' := by
  obtain ⟨ao, cap, rfl, hl, hx⟩ := hv.cells
  obtain ⟨bo, cap2, rfl, _, hy⟩ := hu.cells
  unfold maxLen at hl
  have HX := Lib.hid hx
  have HY := Lib.hid hy
  clear hv hu hx hy
  go_enter Tryz.func10, Tryz.ntmps10
  go_wp2
  go_loopw [13] (fun i wr => ∃ k : Nat, k ≤ l.length ∧ i = .int .i64 k ∧ ∃ n, wr = w.drewN n) (fun i _ => l.length - (intOf i).toNat)
  case atStart => exact ⟨0, Nat.zero_le _, rfl, 0, rfl⟩
  case round =>
    obtain ⟨k, hk, rfl, n, rfl⟩ := hrel
    by_cases hlt : k < l.length
    · have hne : l ≠ [] := by intro e; subst e; simp at hlt
      obtain ⟨b, off, e0, hbb, hc⟩ := HX.out hne
      subst e0
      obtain ⟨b', off', e0, hbb', hc'⟩ := HY.out hne
      subst e0
      obtain ⟨c0, c1, c2, c3, c4⟩ := hc k hlt
      obtain ⟨d0, d1, d2, d3, d4⟩ := hc' k hlt
      clear hc hc' HX HY hne
      generalize l[k].n = z0 at *
      generalize l[k].name = z1 at *
      generalize l[k].r = z2 at *
      generalize l[k].g = z3 at *
      generalize l[k].b = z4 at *
      go_wp2
      go_quiet (fail)
      go_wp2
      go_roundw
      case rel => exact ⟨k + 1, by omega, by go_num, _, rfl⟩
      case measure => simp [intOf]; omega
    · obtain rfl : k = l.length := by omega
      go_wp2
      go_ret
      exact ⟨rfl, below_drewN' (Below.refl _ _)⟩
end Go.Proofs.YtljgpiaihahneaaGreatDoor

namespace Go.Proofs.YtljgpiaihahneaaGreatDoor.colourBooksMatchSpec
open Go.RowKit
set_option linter.unusedVariables false
set_option linter.unusedSimpArgs false

set_option maxHeartbeats 8000000 in
set_option maxRecDepth 100000 in
theorem walk (a0 : Value) (s : ByteArray) (w : World) (w0 : ∃ l, GelS w.heap.size w a0 l ∧ ∀ x ∈ l, GelFit x) (w1 : s.size ≤ maxLen) (hT : TextW w ∧ ColW w) :
    Calls Tryz.prog 3 #[a0, .string s] w fun e w' => e = .returned (.bool true) ∧ Below w.heap.size w w' := by
  obtain ⟨l, hl, hf⟩ := w0
  obtain ⟨hT, hC⟩ := hT
  have hn : ∀ x ∈ l, x.name.size ≤ 9223372036854775807 := fun x hx => by have := (hf x hx).1; unfold maxLen at this; omega
  have hs : s.size ≤ 9223372036854775807 := by unfold maxLen at w1; omega
  have C1 := Lib.hid (bookText_any a0 l w hT hC hl hf)
  have C2 := Lib.hid (fun W (hb : Below w.heap.size w W) => rbookText_any a0 l W (hT.below hb) (hC.below hb) ((hl.below hb).more hb.size) hf)
  have C3 := Lib.hid (fun W (hb : Below w.heap.size w W) => chkBook_any a0 l W ((hl.below hb).more hb.size) hn)
  have C4 := Lib.hid (fun W (hb : Below w.heap.size w W) => rchkBook_any a0 l W ((hl.below hb).more hb.size) hn)
  have C5 := Lib.hid (fun W (hb : Below w.heap.size w W) => readBook_any s W (hT.below hb) hs)
  have C6 := Lib.hid (fun W (hb : Below w.heap.size w W) => rreadBook_any s W (hT.below hb) hs)
  unfold RbPost at C5 C6
  obtain ⟨ao, cap, rfl, _⟩ := hl
  generalize bookT l = t at *
  generalize chkBook l = f at *
  generalize rbN s = n at *
  generalize rbF s = q at *
  generalize rbL s = L at *
  clear hT hC hn hs hf w1
  go_enter Tryz.func3, Tryz.ntmps3
  go_wp2_with fail
  refine C1.out.mono ?_
  rintro e w1 ⟨rfl, hb⟩
  have HB1 := Lib.hid hb
  clear hb
  go_wp2_with fail
  refine (C2.out _ HB1.out).mono ?_
  rintro e w2 ⟨rfl, hb⟩
  have HB2 := Lib.hid (bt HB1.out hb)
  clear hb
  go_wp2_with fail
  refine (C3.out _ HB2.out).mono ?_
  rintro e w3 ⟨rfl, hb⟩
  have HB3 := Lib.hid (bt HB2.out hb)
  clear hb
  go_wp2_with fail
  refine (C4.out _ HB3.out).mono ?_
  rintro e w4 ⟨rfl, hb⟩
  have HB4 := Lib.hid (bt HB3.out hb)
  clear hb
  go_wp2_with fail
  refine (C5.out _ HB4.out).mono ?_
  rintro e w5 ⟨v5, rfl, hg5, hb⟩
  have HB5 := Lib.hid (bt HB4.out hb)
  have HG5 := Lib.hid hg5
  clear hb hg5
  go_wp2_with fail
  refine (C6.out _ HB5.out).mono ?_
  rintro e w6 ⟨v6, rfl, hg6, hb⟩
  have HB6 := Lib.hid (bt HB5.out hb)
  have CQ := Lib.hid (gels_equal v5 v6 L w6 ((HG5.out.below hb).more hb.size) hg6)
  clear hb hg6
  go_wp2_with fail
  refine CQ.out.mono ?_
  rintro e w7 ⟨rfl, hb⟩
  have HB7 := Lib.hid (bt HB6.out hb)
  clear hb
  go_wp2
  go_ret
  exact ⟨by simp, HB7.out⟩
end Go.Proofs.YtljgpiaihahneaaGreatDoor.colourBooksMatchSpec
