/- sameParam at alike parameters. (printed by wip/gen/gen_same.py) A key as an argument. (printed by wip/gen/gen_rigswalk.py) -/
import Derived.Test.YtabalicembhjmaaDoorT39M28
import Derived.Test.YtabalicembhjmaaDoorT39M33
import Derived.Test.YtabalicembhjmaaDoorT39M07

namespace Go.Proofs.YtabalicembhjmaaDoor
open Go.RowKit
set_option linter.unusedVariables false
set_option linter.unusedSimpArgs false

set_option maxRecDepth 100000 in
set_option maxHeartbeats 2000000 in
theorem sameParam_any (x : Par) (v u : Value) (w : World) (hv : RngS w.heap.size w v x.rngs) (hu : RngS w.heap.size w u x.rngs) :
    Calls Tryd.prog 20 #[.agg #[.string x.name, .int .i64 x.grp, .int .i64 x.sl, .int .i64 x.fine, .int .i64 x.dflt, .bool x.snap, v], .agg #[.string x.name, .int .i64 x.grp, .int .i64 x.sl, .int .i64 x.fine, .int .i64 x.dflt, .bool x.snap, u]] w fun e w' => e = .returned (.bool true) ∧ Below w.heap.size w w' := by
  have CE := Lib.hid (fun W (hb : Below w.heap.size w W) => ranges_equal v u x.rngs W ((hv.below hb).more hb.size) ((hu.below hb).more hb.size))
  obtain ⟨xn, xg, xs, xf, xd, xb, xl⟩ := x
  simp only at *
  obtain ⟨vo, vcap, rfl⟩ := rngS_shape hv
  obtain ⟨uo, ucap, rfl⟩ := rngS_shape hu
  clear hv hu
  have hB2 : Below w.heap.size w ((w.alloc (.cells #[.string xn, .int .i64 xg, .int .i64 xs, .int .i64 xf, .int .i64 xd, .bool xb, .slice vo xl.length vcap] 46)).alloc (.cells #[.string xn, .int .i64 xg, .int .i64 xs, .int .i64 xf, .int .i64 xd, .bool xb, .slice uo xl.length ucap] 46)) := ((Below.refl _ _).alloc (Nat.le_refl _) _).alloc (by simp) _
  have CE1 := Lib.hid (CE.out _ hB2)
  have HB2 := Lib.hid hB2
  clear CE hB2
  go_enter Tryd.func20, Tryd.ntmps20
  go_wp2_with fail
  refine CE1.out.mono ?_
  rintro e w1 ⟨rfl, hb⟩
  have HB := Lib.hid (HB2.out.trans (hb.mono HB2.out.size))
  clear hb CE1
  go_wp2_with fail
  go_ret
  exact ⟨by simp, HB.out⟩
end Go.Proofs.YtabalicembhjmaaDoor

namespace Go.Proofs.YtabalicembhjmaaDoor
open Go.ChangeShapes Go.WideShapes Go.RowKit Go.Deep
set_option linter.unusedSimpArgs false
set_option linter.unusedVariables false

section
variable {H : Type} {enc : TypeId × Value → H} {w : World} {held : Bool}
def KeyW (w : World) (v : Value) : Prop := ∃ (n : Int) (nm : ByteArray), v = .agg #[.int .i64 n, .string nm] ∧ I64 n ∧ nm.size ≤ maxLen
set_option maxRecDepth 100000 in
theorem open_key {r : Reach} {b0 : Nat} {v : Value} {d : DataW H} {p : List MemPlace} (hv : Value.okWide Tryd.prog w r b0 38 v) (h : DataW.Trod enc Tryd.prog w 0 (fun _ => true) held 38 v d p) :
    ∃ a : Value, v = a ∧ KeyW w a := by
  obtain ⟨cs, n, rfl, hl, hf⟩ := open_struct1 Tryd.underlying38 (by kernel_rfl) (by kernel_rfl) hv h
  obtain ⟨u0, u1, rfl⟩ := list2 hl
  obtain ⟨x0, y0, q0, k0⟩ := hf 0 _ rfl
  obtain ⟨x1, y1, q1, k1⟩ := hf 1 _ rfl
  simp at q0 q1
  subst q0 q1
  obtain ⟨a0, rfl, w0⟩ := field_int Tryd.underlying3 k0
  obtain ⟨a1, rfl, w1⟩ := field_string Tryd.underlying9 k1
  exact ⟨_, rfl, a0, a1, rfl, i64_of_wf w0, w1⟩
end
end Go.Proofs.YtabalicembhjmaaDoor
