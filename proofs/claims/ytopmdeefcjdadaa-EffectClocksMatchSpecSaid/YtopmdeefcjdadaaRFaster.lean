/- the reference's Faster. -/
import Derived.Test.YtopmdeefcjdadaaRFasterA
import Derived.Test.YtopmdeefcjdadaaRFasterB
import Derived.Test.YtopmdeefcjdadaaRFasterC
namespace Go.Proofs.Ytopmdeefcjdadaa
theorem rfaster_any (x : Run) (t p : Int) (sv kv rv : Value) (w : World) (hx : RunAt w.heap.size w x sv kv rv) (hf : RunFit x) :
    Calls Try.prog 12 #[runV x sv kv rv, .int .i64 t, .int .i64 p] w (RunRes w (fastE x t p) (fastR x t p)) := by
  obtain ⟨⟨form, low, high, cycle, width, spread, back, rel, ls⟩, lk, start, lr, tin, tend, tout⟩ := x
  by_cases hE : fastF ⟨⟨form, low, high, cycle, width, spread, back, rel, ls⟩, lk, start, lr, tin, tend, tout⟩ t p = 0
  · by_cases h50 : 50 < (fasterR lr t p).length
    · exact rfaster_large _ _ _ _ _ _ _ _ _ _ _ _ _ _ _ _ _ _ _ _ _ hx hf hE h50
    · exact rfaster_ok _ _ _ _ _ _ _ _ _ _ _ _ _ _ _ _ _ _ _ _ _ hx hf hE h50
  · exact rfaster_bad _ _ _ _ _ _ _ _ _ _ _ _ _ _ _ _ _ _ _ _ _ hx hf hE
end Go.Proofs.Ytopmdeefcjdadaa
