/- A curve as an argument, with what the reach of a call says of its points' number. -/
import Derived.Test.YtdicoggpcobbpaaDoorTurn
import Derived.SizedLaws
namespace Go.Proofs.YtdicoggpcobbpaaDoor
open Go.ChangeShapes Go.WideShapes Go.RowKit Go.Deep
set_option linter.unusedVariables false

section
variable {H : Type} {enc : TypeId × Value → H} {w : World} {held : Bool}

theorem bytesPoint : Tryd.prog.bytesOf 63 = 16 := by kernel_rfl
theorem pts_weight {fuel : Nat} {v : Value} {ps : List (Int × Int)} {x : DataW H × List MemPlace} (h : DataW.trod enc Tryd.prog w 0 (fun _ => true) held fuel 29 [v] = some x) (hp : PtsV w v ps)
    (hz : ∀ n ∈ x.1.weights Tryd.prog 29, n ≤ reachBytes) : ps.length ≤ 8796093022207 := by
  obtain ⟨ao, cap, rfl⟩ := pts_shape hp
  rcases open_slice Tryd.underlying29 h with ⟨e, _⟩ | ⟨a, len, cap', m, n, D, Pl, e, _, hl, hm, hmm, hx, _⟩
  · simp at e
    obtain ⟨_, h, _⟩ := e
    simp [h]
  · simp at e
    obtain ⟨_, e2, _⟩ := e
    have := hz ((((List.range len).map D).length + ((List.range (m - len)).map fun j => D (len + j)).length) * Tryd.prog.bytesOf 63) (by rw [hx]; simp [DataW.weights, Tryd.underlying29])
    rw [bytesPoint] at this
    simp only [List.length_map, List.length_range, reachBytes] at this
    omega

set_option maxRecDepth 100000 in
theorem open_curveS {r : Reach} {b0 : Nat} {v : Value} {d : DataW H} {p : List MemPlace} (hv : Value.okWide Tryd.prog w r b0 31 v) (h : DataW.Trod enc Tryd.prog w 0 (fun _ => true) held 31 v d p)
    (hz : ∀ n ∈ d.weights Tryd.prog 31, n ≤ reachBytes) :
    ∃ a : Value, v = a ∧ ∃ c, CvV w a c ∧ CvFit c ∧ c.pts.length ≤ 8796093022207 := by
  obtain ⟨_, rfl, c, hc, hfit⟩ := open_curve hv h
  refine ⟨_, rfl, c, hc, hfit, ?_⟩
  obtain ⟨q, rfl, hq⟩ := hc
  obtain ⟨fuel, hf⟩ := h
  obtain ⟨xs, n, _, hx, _, hl, hg⟩ := DataW.trod_struct Tryd.underlying31 hf
  have hl2 : xs.length = 2 := hl
  obtain ⟨y0, y1, rfl⟩ := list2 hl2
  have h1 := hg 1 _ rfl
  have c1 : Tryd.prog.cellsOf 29 = 1 := by kernel_rfl
  simp only [List.getElem_toArray, List.getElem_cons_zero, List.getElem_cons_succ] at h1
  rw [c1] at h1
  refine pts_weight (x := y1) h1 hq fun k hk => hz k ?_
  simp only [Prod.mk.injEq] at hx
  rw [hx.1]
  simp only [DataW.weights, Tryd.underlying31]
  simp [DataW.weightsEach]
  exact .inr hk
end
end Go.Proofs.YtdicoggpcobbpaaDoor
