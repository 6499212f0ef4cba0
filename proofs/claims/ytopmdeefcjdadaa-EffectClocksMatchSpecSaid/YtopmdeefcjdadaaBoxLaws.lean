/- The store and the load of a running effect, each as one step. (printed by wip/gen/gen_boxlaws.py) -/
import Derived.Test.YtopmdeefcjdadaaClones
namespace Go.Proofs.Ytopmdeefcjdadaa
open Go.RowKit
set_option linter.unusedVariables false
set_option linter.unusedSimpArgs false

set_option maxRecDepth 100000 in
set_option maxHeartbeats 4000000 in
theorem wpList_store15 (w : World) {ops : Array Oper} {rest : List Oper} {o : Oper} {a : Act} {Q : Exit → Act → World → Prop} {c0 c1 c2 c3 c4 c5 c6 c7 c8 c9 c10 c11 c12 c13 c14 : Value} {i0 i1 i2 i3 i4 i5 i10 i12 i13 i14 : Int} {b6 b7 : Bool} {a8 a9 a11 : Option Addr} {n8 k8 n9 k9 n11 k11 : Nat}
    (hg : o.guard = none) (p x : Operand) (hop : o.op = Op.store 28 p x) (g : Nat) (hp : a.eval p = .pointer (some ⟨g, 0, none⟩)) (hx : a.eval x = .agg #[.int .i64 i0, .int .i64 i1, .int .i64 i2, .int .i64 i3, .int .i64 i4, .int .i64 i5, .bool b6, .bool b7, .slice a8 n8 k8, .slice a9 n9 k9, .int .i64 i10, .slice a11 n11 k11, .int .i64 i12, .int .i64 i13, .int .i64 i14]) (hb : Box15 w g c0 c1 c2 c3 c4 c5 c6 c7 c8 c9 c10 c11 c12 c13 c14)
    (hK : wpList Try.prog ops Q rest (a.put o.dst undef) (set15 w g (.int .i64 i0) (.int .i64 i1) (.int .i64 i2) (.int .i64 i3) (.int .i64 i4) (.int .i64 i5) (.bool b6) (.bool b7) (.slice a8 n8 k8) (.slice a9 n9 k9) (.int .i64 i10) (.slice a11 n11 k11) (.int .i64 i12) (.int .i64 i13) (.int .i64 i14))) : wpList Try.prog ops Q (o :: rest) a w := by
  refine wpList_plain hg fun K hK' => ?_
  obtain ⟨y0, y1, y2, y3, y4, y5, y6, y7, y8, y9, y10, y11, y12, y13, y14, z0, z1, z2, z3, z4, z5, z6, z7, z8, z9, z10, z11, z12, z13, z14⟩ := hb
  have h := hK' _ _ hK
  unfold Oper.wp
  simp only [execOp, hop, hp, hx]
  go_simp
  exact h
end Go.Proofs.Ytopmdeefcjdadaa
