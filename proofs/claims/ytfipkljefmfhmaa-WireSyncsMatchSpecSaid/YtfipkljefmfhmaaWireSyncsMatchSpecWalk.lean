/- The walk of cycloramalaw9.WireSyncsMatchSpec: for any numbers and any bytes it returns true. -/
import Derived.Test.YtfipkljefmfhmaaBytesOpen
import Derived.Test.YtfipkljefmfhmaaREncSync
namespace Go.Proofs.Ytfipkljefmfhmaa.wireSyncsMatchSpec
open Go.RowKit
set_option linter.unusedVariables false
set_option linter.unusedSimpArgs false

set_option maxHeartbeats 4000000 in
set_option maxRecDepth 100000 in
theorem walk (a0 a1 : Int) (a2 : Value) (a3 a4 : Int) (w : World) (w0 : (Lit.int .i64 a0).wf = true) (w1 : (Lit.int .i64 a1).wf = true) (w2 : ∃ l, ByS w.heap.size w a2 l) (w3 : (Lit.int .i64 a3).wf = true) (w4 : (Lit.int .i64 a4).wf = true) :
    Calls Try.prog 4 #[.int .i64 a0, .int .i64 a1, a2, .int .i64 a3, .int .i64 a4] w fun e w' => e = .returned (.bool true) ∧ Below w.heap.size w w' := by
  obtain ⟨l, hl⟩ := w2
  clear w0 w1 w3 w4
  obtain ⟨ql, q1, q2⟩ := decS_like l
  have E1 := Lib.hid (encodeSync_any a0 a1)
  have E2 := Lib.hid (rEncodeSync_any a0 a1)
  have N1 := Lib.hid (Newer_any a3 a4)
  have N2 := Lib.hid (rNewer_any a3 a4)
  have D1 := Lib.hid (fun W h => decodeSync_any w.heap.size a2 l W h)
  have D2 := Lib.hid (fun W h => rdecodeSync_any w.heap.size a2 l W h)
  unfold DecSP at D1 D2
  rw [← ql, ← q1, ← q2] at D2
  have HL := Lib.hid hl
  have HC : chkS a0 a1 = 0 → Hid ((decSF true (encSL a0 a1) = 0 ∧ (decS1 true (encSL a0 a1) : Int) = a0 ∧ (decS2 true (encSL a0 a1) : Int) = a1)) := fun h => by
    obtain ⟨h1, h2⟩ := chkS_zero h
    have := dec_encS true a0.toNat a1.toNat (by omega) (by omega) (by omega) (by omega)
    refine Lib.hid ?_
    rw [show encSL a0 a1 = encS a0.toNat a1.toNat from if_pos h]
    exact ⟨this.1, by omega, by omega⟩
  have D3 := Lib.hid (fun B v W hB h => decodeSync_any B v (encSL a0 a1) W hB h)
  unfold DecSP at D3
  clear ql q1 q2 hl
  generalize decSF true l = f1 at *
  generalize decS1 true l = s1 at *
  generalize decS2 true l = g1 at *
  generalize newV a3 a4 = p at *
  generalize newF a3 a4 = j at *
  go_enter Try.func4, Try.ntmps4
  go_wp2_with fail
  refine (E1.out _).mono ?_
  rintro e w1 ⟨x, rfl, hx, hb1⟩
  have HX := Lib.hid hx
  have hs1 := hb1.size
  have HB1 := Lib.hid hb1
  clear hx hb1 E1
  go_wp2_with fail
  refine (E2.out _).mono ?_
  rintro e w2 ⟨y, rfl, hy, hb2⟩
  have HX2 := Lib.hid (HX.out.below hb2)
  have HY := Lib.hid hy
  have hs2 := hb2.size
  have HB2 := Lib.hid (HB1.out.trans (hb2.mono hs1))
  have HL2 := Lib.hid (HL.out.below HB2.out)
  clear hy hb2 E2 HX HL
  go_wp2_with fail
  refine (D1.out _ (by omega) HL2.out).mono ?_
  rintro e w3 ⟨rfl, hb3⟩
  have HX3 := Lib.hid (HX2.out.below (hb3.mono hs2))
  have HY3 := Lib.hid (HY.out.below hb3)
  have hs3 := hb3.size
  have HB3 := Lib.hid (HB2.out.trans (hb3.mono (by omega)))
  have HL3 := Lib.hid (HL2.out.below (hb3.mono (by omega)))
  clear hb3 D1 HX2 HY HL2
  go_wp2_with fail
  refine (D2.out _ (by omega) HL3.out).mono ?_
  rintro e w4 ⟨rfl, hb4⟩
  have HX4 := Lib.hid (HX3.out.below (hb4.mono (by omega)))
  have HY4 := Lib.hid (HY3.out.below (hb4.mono hs3))
  have hs4 := hb4.size
  have HB4 := Lib.hid (HB3.out.trans (hb4.mono (by omega)))
  clear hb4 D2 HX3 HY3 HL3
  go_wp2_with fail
  refine (N1.out _).mono ?_
  rintro e w5 ⟨rfl, rfl⟩
  go_wp2_with fail
  refine (N2.out _).mono ?_
  rintro e w5 ⟨rfl, rfl⟩
  have EQ := Lib.hid (bEqual_any w2.heap.size x y _ _ w4 (HX4.out.more hs2) HY4.out)
  rw [beq_self_eq_true] at EQ
  clear N1 N2
  go_wp2_with fail
  refine EQ.out.mono ?_
  rintro e w5 ⟨rfl, rfl⟩
  clear EQ
  have D4 := Lib.hid (D3.out w1.heap.size x w4 (by omega) HX4.out)
  clear D3
  by_cases hc : chkS a0 a1 = 0
  · obtain ⟨c1, c2, c3⟩ := (HC hc).out
    rw [c1, c2, c3] at D4
    rw [hc]
    clear HC c1 c2 c3
    go_wp2_with fail
    refine D4.out.mono ?_
    rintro e w6 ⟨rfl, hb6⟩
    have HB6 := Lib.hid (HB4.out.trans (hb6.mono (by omega)))
    clear hb6
    go_wp2
    go_ret
    exact ⟨rfl, HB6.out⟩
  · have d : (chkS a0 a1 != 0) = true := by rw [bne_iff_ne]; exact hc
    clear HC hc
    generalize chkS a0 a1 = f at *
    go_wp2_with fail
    refine D4.out.mono ?_
    rintro e w6 ⟨rfl, hb6⟩
    have HB6 := Lib.hid (HB4.out.trans (hb6.mono (by omega)))
    clear hb6
    go_wp2
    go_ret
    exact ⟨rfl, HB6.out⟩
end Go.Proofs.Ytfipkljefmfhmaa.wireSyncsMatchSpec
