/- The walk of cycloramalaw3.ColourNearestMatchesSpec: for any gels, colours and number it returns true. -/
import Derived.Test.YtpmiinamaofnnaaRNearest
import Derived.Test.YtpmiinamaofnnaaGelEq
import Derived.Test.YtpmiinamaofnnaaColOpens
namespace Go.Proofs.Ytpmiinamaofnnaa.colourNearestMatchesSpec
open Go.RowKit
set_option linter.unusedVariables false
set_option linter.unusedSimpArgs false

set_option maxRecDepth 100000 in
set_option maxHeartbeats 8000000 in
theorem walk (a0 a1 a2 : Value) (n : Int) (w : World) (w0 : ∃ l, GelS w.heap.size w a0 l ∧ ∀ x ∈ l, GelFit x) (w1 : TriV a1) (w2 : TriV a2) (w3 : (Lit.int .i64 n).wf = true) :
    Calls Try.prog 4 #[a0, a1, a2, .int .i64 n] w fun e w' => e = .returned (.bool true) ∧ Below w.heap.size w w' := by
  obtain ⟨l, hl, hfit⟩ := w0
  obtain ⟨r, g, b, rfl, _, _, _⟩ := w1
  obtain ⟨r', g', b', rfl, _, _, _⟩ := w2
  have hn : I64 n := i64_of_wf w3
  have NP := Lib.hid (fun W (hb : Below w.heap.size w W) => nearest_any a0 l r g b n W ((hl.below hb).more hb.size) hfit hn)
  have NR := Lib.hid (fun W (hb : Below w.heap.size w W) => rnearest_any a0 l r g b n W ((hl.below hb).more hb.size) hfit hn)
  have DP := Lib.hid (distTop_any r g b r' g' b')
  have DR := Lib.hid (rdistTop_any r g b r' g' b')
  generalize dstV r g b r' g' b' = dv at *
  generalize dstF r g b r' g' b' = df at *
  obtain ⟨ao, cap, rfl, _, _⟩ := hl.cells
  have KC := Lib.hid (show ∀ W, Below (w.heap.size + 2) ((w.alloc (.cells #[.int .i64 r, .int .i64 g, .int .i64 b] 24)).alloc (.cells #[.int .i64 r', .int .i64 g', .int .i64 b'] 24)) W → (Below w.heap.size w W ∧ w.heap.size + 1 < W.heap.size ∧ (W.cell? ⟨w.heap.size, 0, none⟩ = some (.int .i64 r) ∧ W.cell? ⟨w.heap.size, 1, none⟩ = some (.int .i64 g) ∧ W.cell? ⟨w.heap.size, 2, none⟩ = some (.int .i64 b) ∧ W.cell? ⟨w.heap.size + 1, 0, none⟩ = some (.int .i64 r') ∧ W.cell? ⟨w.heap.size + 1, 1, none⟩ = some (.int .i64 g') ∧ W.cell? ⟨w.heap.size + 1, 2, none⟩ = some (.int .i64 b'))) from fun W hW => by
    have hz := hW.size
    simp at hz
    refine ⟨(((Below.refl _ _).alloc (Nat.le_refl _) _).alloc (by simp) _).trans (hW.mono (by omega)), by omega, ?_, ?_, ?_, ?_, ?_, ?_⟩
    all_goals (rw [hW.cell (by show _ < _; dsimp only; omega)]; simp [go_sem, World.cell?_alloc_past]))
  have hb0 : Below (w.heap.size + 2) ((w.alloc (.cells #[.int .i64 r, .int .i64 g, .int .i64 b] 24)).alloc (.cells #[.int .i64 r', .int .i64 g', .int .i64 b'] 24)) ((w.alloc (.cells #[.int .i64 r, .int .i64 g, .int .i64 b] 24)).alloc (.cells #[.int .i64 r', .int .i64 g', .int .i64 b'] 24)) := Below.refl _ _
  clear hl hfit hn w3
  go_enter Try.func4, Try.ntmps4
  go_wp2_with fail
  refine (DP.out _).mono ?_
  rintro e w1 ⟨rfl, hb⟩
  have hb1 := hb0.trans (hb.mono (by simp))
  clear hb hb0
  obtain ⟨hB1, hz1, e0, e1, e2, e3, e4, e5⟩ := KC.out w1 hb1
  have hzz : w.heap.size < w1.heap.size := by omega
  have HB1 := Lib.hid hb1
  clear hb1 hB1
  go_wp2_with fail
  refine (DR.out _).mono ?_
  rintro e w2 ⟨rfl, hb⟩
  have hb2 := HB1.out.trans (hb.mono (by omega))
  clear hb HB1 e0 e1 e2 e3 e4 e5 hz1 hzz
  obtain ⟨hB2, hz2, e0, e1, e2, e3, e4, e5⟩ := KC.out w2 hb2
  have hzz : w.heap.size < w2.heap.size := by omega
  have HB2 := Lib.hid hb2
  have NP2 := Lib.hid (NP.out w2 hB2)
  clear hb2 hB2
  go_wp2_with fail
  refine NP2.out.mono ?_
  rintro e w3 ⟨hb, v1, rfl, hv1a, hv1b⟩
  have hb3 := HB2.out.trans (hb.mono (by omega))
  clear hb HB2 e0 e1 e2 e3 e4 e5 hz2 hzz NP2 NP
  obtain ⟨hB3, hz3, e0, e1, e2, e3, e4, e5⟩ := KC.out w3 hb3
  have hzz : w.heap.size < w3.heap.size := by omega
  have HB3 := Lib.hid hb3
  have NR2 := Lib.hid (NR.out w3 hB3)
  have HA1 := Lib.hid hv1a
  have HA2 := Lib.hid hv1b
  obtain ⟨va, na, ca, rfl⟩ : ∃ va na ca, v1 = .slice va na ca := by
    by_cases hE : nearF l r g b n = 0
    · obtain ⟨a, c, e, _⟩ := hv1b hE
      exact ⟨_, _, _, e⟩
    · exact ⟨_, _, _, hv1a hE⟩
  clear hb3 hB3 hv1a hv1b
  go_wp2_with fail
  refine NR2.out.mono ?_
  rintro e w4 ⟨hb, v2, rfl, hv2a, hv2b⟩
  have HB4 := Lib.hid ((KC.out w4 (HB3.out.trans (hb.mono (by omega)))).1)
  have HEQ := Lib.hid (show Calls Try.prog 10 #[.slice va na ca, v2] w4 fun e w' => e = .returned (.bool true) ∧ Below w4.heap.size w4 w' from by
    by_cases hE : nearF l r g b n = 0
    · exact gels_equal _ _ (nearL l r g b n) w4 (((HA2.out hE).below hb).more hb.size) (hv2b hE)
    · rw [HA1.out hE, hv2a hE]
      exact gels_equal _ _ [] w4 (GelS.nil _ _) (GelS.nil _ _))
  obtain ⟨vb, nb, cb, rfl⟩ : ∃ va na ca, v2 = .slice va na ca := by
    by_cases hE : nearF l r g b n = 0
    · obtain ⟨a, c, e, _⟩ := hv2b hE
      exact ⟨_, _, _, e⟩
    · exact ⟨_, _, _, hv2a hE⟩
  clear hb HB3 e0 e1 e2 e3 e4 e5 hz3 hzz NR2 NR hv2a hv2b HA1 HA2
  go_wp2_with fail
  refine HEQ.out.mono ?_
  rintro e w5 ⟨rfl, hb5⟩
  have HB5 := Lib.hid (HB4.out.trans (hb5.mono HB4.out.size))
  clear hb5 HEQ
  go_wp2_with fail
  go_ret
  exact ⟨by simp, HB5.out⟩
end Go.Proofs.Ytpmiinamaofnnaa.colourNearestMatchesSpec
