/- Stop and the reference's Stop. -/
import Derived.Test.YtopmdeefcjdadaaStopB
import Derived.Test.YtopmdeefcjdadaaRStopA
import Derived.Test.YtopmdeefcjdadaaRStopB
namespace Go.Proofs.Ytopmdeefcjdadaa
theorem stop_any (x : Run) (t out : Int) (sv kv rv : Value) (w : World) (hx : RunAt w.heap.size w x sv kv rv) (hf : RunFit x) :
    Calls Try.prog 14 #[runV x sv kv rv, .int .i64 t, .int .i64 out] w (RunRes w (stopF x t out) (stopR x t out)) := by
  obtain ⟨⟨form, low, high, cycle, width, spread, back, rel, ls⟩, lk, start, lr, tin, tend, tout⟩ := x
  by_cases hE : stopF ⟨⟨form, low, high, cycle, width, spread, back, rel, ls⟩, lk, start, lr, tin, tend, tout⟩ t out = 0
  · exact stop_ok _ _ _ _ _ _ _ _ _ _ _ _ _ _ _ _ _ _ _ _ _ hx hf hE
  · exact stop_bad _ _ _ _ _ _ _ _ _ _ _ _ _ _ _ _ _ _ _ _ _ hx hf hE
theorem rstop_any (x : Run) (t out : Int) (sv kv rv : Value) (w : World) (hx : RunAt w.heap.size w x sv kv rv) (hf : RunFit x) :
    Calls Try.prog 15 #[runV x sv kv rv, .int .i64 t, .int .i64 out] w (RunRes w (stopF x t out) (stopR x t out)) := by
  obtain ⟨⟨form, low, high, cycle, width, spread, back, rel, ls⟩, lk, start, lr, tin, tend, tout⟩ := x
  by_cases hE : stopF ⟨⟨form, low, high, cycle, width, spread, back, rel, ls⟩, lk, start, lr, tin, tend, tout⟩ t out = 0
  · exact rstop_ok _ _ _ _ _ _ _ _ _ _ _ _ _ _ _ _ _ _ _ _ _ hx hf hE
  · exact rstop_bad _ _ _ _ _ _ _ _ _ _ _ _ _ _ _ _ _ _ _ _ _ hx hf hE
end Go.Proofs.Ytopmdeefcjdadaa
