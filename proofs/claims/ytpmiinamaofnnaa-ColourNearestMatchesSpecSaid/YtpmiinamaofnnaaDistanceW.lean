/- colour.distance at any numbers. -/
import Derived.Test.YtpmiinamaofnnaaDistance
namespace Go.Proofs.Ytpmiinamaofnnaa
open Go.RowKit
set_option linter.unusedVariables false
set_option linter.unusedSimpArgs false

def sumW (x y z : Int) : Int := wrap64 (wrap64 (wrap64 (wrap64 (2 * x) * x) + wrap64 (wrap64 (4 * y) * y)) + wrap64 (wrap64 (3 * z) * z))
def distW (r g b r' g' b' : Int) : Int := sumW (wrap64 (r - r')) (wrap64 (g - g')) (wrap64 (b - b'))
theorem distW_in {r g b r' g' b' : Int} (h1 : LvOkC r) (h2 : LvOkC g) (h3 : LvOkC b) (h4 : LvOkC r') (h5 : LvOkC g') (h6 : LvOkC b') : distW r g b r' g' b' = distV r g b r' g' b' := by
  unfold LvOkC at h1 h2 h3 h4 h5 h6
  unfold distW
  rw [IntWalk.wrap64_in (r - r') (by omega), IntWalk.wrap64_in (g - g') (by omega), IntWalk.wrap64_in (b - b') (by omega)]
  unfold distV sumW
  have hp1 := sq_fits (k := 2) (x := r - r') (by omega) (by omega) (by omega) (by omega)
  have hq1 := sq_fits (k := 4) (x := g - g') (by omega) (by omega) (by omega) (by omega)
  have hs1 := sq_fits (k := 3) (x := b - b') (by omega) (by omega) (by omega) (by omega)
  rw [IntWalk.wrap64_in (2 * (r - r')) (by omega), IntWalk.wrap64_in (4 * (g - g')) (by omega), IntWalk.wrap64_in (3 * (b - b')) (by omega)]
  generalize 2 * (r - r') * (r - r') = p at *
  generalize 4 * (g - g') * (g - g') = q at *
  generalize 3 * (b - b') * (b - b') = s at *
  rw [IntWalk.wrap64_in p (by omega), IntWalk.wrap64_in q (by omega), IntWalk.wrap64_in s (by omega), IntWalk.wrap64_in (p + q) (by omega), IntWalk.wrap64_in (p + q + s) (by omega)]
set_option maxRecDepth 100000 in
set_option maxHeartbeats 4000000 in
theorem distance_w (r g b r' g' b' : Int) (w : World) :
    Calls Try.prog 20 #[.agg #[.int .i64 r, .int .i64 g, .int .i64 b], .agg #[.int .i64 r', .int .i64 g', .int .i64 b']] w fun e w' => e = .returned (.int .i64 (distW r g b r' g' b')) ∧ Below w.heap.size w w' := by
  go_enter Try.func20, Try.ntmps20
  go_upto_region 1 with fail
  go_cut [5, 6, 7] (fun s5 s6 s7 wx => s5 = .int .i64 (wrap64 (r - r')) ∧ s6 = .int .i64 (wrap64 (g - g')) ∧ s7 = .int .i64 (wrap64 (b - b')) ∧ Hid (Below w.heap.size w wx))
  case first =>
    go_region
    all_goals go_wp2_with fail
    all_goals go_meet
    all_goals exact ⟨rfl, rfl, rfl, Lib.hid (by repeat' first | exact Below.refl _ _ | apply Below.drew | refine Below.alloc ?_ (by simp <;> omega) _)⟩
  case rest =>
  obtain ⟨rfl, rfl, rfl, HBL⟩ := hcut
  have HD := Lib.hid (show distW r g b r' g' b' = sumW (wrap64 (r - r')) (wrap64 (g - g')) (wrap64 (b - b')) from rfl)
  generalize wrap64 (r - r') = x at *
  generalize wrap64 (g - g') = y at *
  generalize wrap64 (b - b') = z at *
  go_wp2_with fail
  go_ret
  exact ⟨by rw [HD.out]; rfl, HBL.out⟩
end Go.Proofs.Ytpmiinamaofnnaa
