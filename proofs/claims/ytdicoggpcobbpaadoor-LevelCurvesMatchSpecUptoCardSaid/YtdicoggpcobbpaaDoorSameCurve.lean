/- The law's sameCurve at alike curves. -/
import Derived.Test.YtdicoggpcobbpaaDoorPtsLib
namespace Go.Proofs.YtdicoggpcobbpaaDoor
open Go.RowKit
set_option linter.unusedVariables false
set_option linter.unusedSimpArgs false
theorem pts_shape {w : World} {v : Value} {ps : List (Int × Int)} (h : PtsV w v ps) : ∃ ao cap, v = .slice ao ps.length cap := by
  rcases h with ⟨h, ao, cap, rfl⟩ | ⟨_, _, b, off, cap, rfl, _⟩
  · exact ⟨ao, cap, by rw [h]; rfl⟩
  · exact ⟨_, cap, rfl⟩
theorem pts_len {W : World} {v : Value} {ps : List (Int × Int)} (h : PtsV W v ps) : ps.length ≤ 9223372036854775807 := by
  rcases h with ⟨rfl, _⟩ | ⟨_, hm, _⟩
  · simp
  · exact hm
set_option maxHeartbeats 1000000 in
theorem sameCurve_yes (k : Int) (p q : Value) (ps : List (Int × Int)) (w : World) (hp : PtsV w p ps) (hq : PtsV w q ps) :
    Calls Tryd.prog 18 #[.agg #[.int .i64 k, p], .agg #[.int .i64 k, q]] w fun e w' => e = .returned (.bool true) ∧ Below w.heap.size w w' := by
  have CE := Lib.hid (fun W (hW : Below w.heap.size w W) => ptsEqual p q ps W (ptsV_below hp hW) (ptsV_below hq hW) (pts_len hp))
  clear hp hq
  go_enter Tryd.func18, Tryd.ntmps18
  go_wp2_with fail
  refine (CE.out _ below2).mono ?_
  rintro e w1 ⟨rfl, hb⟩
  have HB := Lib.hid (bt below2 hb)
  clear hb
  go_wp2
  go_ret
  exact ⟨rfl, HB.out⟩
end Go.Proofs.YtdicoggpcobbpaaDoor
