/- The waves of effects as numbers. No walk in it. -/
import Derived.Test.YtopmdeefcjdadaaT29M24

namespace Go.Proofs.Ytopmdeefcjdadaa
open Go.RowKit
set_option linter.unusedVariables false
set_option linter.unusedSimpArgs false

def sqN (wd n d : Int) : Int := if n * 1000 < wd * d then 1 else 0
def chZ (i k : Int) : Int := IntKind.u64.wrap (IntKind.u64.wrap (wrap64 (wrap64 (wrap64 (1000003 * i) + k) + 20)) * 11400714819323198485)
def chX (z : Int) : Int := bits BinOp.xor IntKind.u64 z (z / 536870912)
/-- the way of chance, in 65536ths -/
def chN (i k : Int) : Int := IntKind.u64.wrap (13787848793156543929 * chX (chZ i k)) / 281474976710656
theorem chN_range (i k : Int) : 0 ≤ chN i k ∧ chN i k ≤ 65535 := by
  unfold chN
  generalize 13787848793156543929 * chX (chZ i k) = x
  rw [IntKind.wrap_u64]
  omega
theorem chN_raw (i k : Int) : wrap64 (IntKind.u64.wrap (13787848793156543929 * bits BinOp.xor IntKind.u64 (IntKind.u64.wrap (IntKind.u64.wrap (wrap64 (wrap64 (wrap64 (1000003 * i) + k) + 20)) * 11400714819323198485)) (IntKind.u64.wrap (IntKind.u64.wrap (wrap64 (wrap64 (wrap64 (1000003 * i) + k) + 20)) * 11400714819323198485) / 536870912)) / 281474976710656) = chN i k := by
  have h := chN_range i k
  exact IntWalk.wrap64_in (chN i k) (by omega)
end Go.Proofs.Ytopmdeefcjdadaa
