/- The walk of cycloramalaw1.LevelSpreadsMatchSpec: for every input it returns true. -/
import Derived.Test.YthoiamaomhggiaaSpread
namespace Go.Proofs.Ythoiamaomhggiaa.levelSpreadsMatchSpec
open Go.RowKit
set_option linter.unusedVariables false
set_option linter.unusedSimpArgs false

def HighP (h f : Int) (w : World) (e : Ending) (w' : World) : Prop := e = .returned (.tuple #[.int .i64 h, .int .i64 f]) ∧ w = w'
theorem high (B : Nat) (v : Value) (zs : List Int) (w : World) (hs : IntS B w v zs) : ∃ h f, Calls Try.prog 22 #[v] w (HighP h f w) ∧ Calls Try.prog 23 #[v] w (HighP h f w) := by
  rcases levels_cases zs with hr | ⟨j, hj, h1, h2⟩
  · exact ⟨_, _, highest_yes B v zs w hs hr, rhighest_yes B v zs w hs hr⟩
  · exact ⟨_, _, highest_no B v zs w hs j hj h1 h2, rhighest_no B v zs w hs j hj h1 h2⟩
/-- what Spread gives: a row of these numbers and a fault -/
def SpP (zs : List Int) (f : Int) (w : World) (e : Ending) (w' : World) : Prop := ∃ v, e = .returned (.tuple #[v, .int .i64 f]) ∧ IntS w'.heap.size w' v zs ∧ Below w.heap.size w w'
theorem spp_nil {f : Int} {w w' : World} {e : Ending} (h : NilP f w e w') : SpP [] f w e w' := ⟨_, h.1, (OwnI.nil w' 0).ints, h.2⟩
theorem spp_ints {zs : List Int} {w w' : World} {e : Ending} (h : IntsP zs w e w') : SpP zs 0 w e w' := by
  obtain ⟨v, he, ho, hb⟩ := h
  exact ⟨v, he, ho.ints, hb⟩
theorem spread (B : Nat) (v : Value) (zs : List Int) (n : Int) : ∃ l f, ∀ (w : World), B ≤ w.heap.size → IntS B w v zs → Calls Try.prog 24 #[v, .int .i64 n] w (SpP l f w) ∧ Calls Try.prog 25 #[v, .int .i64 n] w (SpP l f w) := by
  rcases sp_cases zs n with h | ⟨f, h⟩
  · obtain ⟨m, rfl⟩ : ∃ m : Nat, n = (m : Int) := ⟨n.toNat, by have := h.n0; omega⟩
    exact ⟨spL zs m m, 0, fun w hB hs => ⟨(spread_yes B v zs m w hB hs h).mono fun _ _ => spp_ints, (rspread_yes B v zs m w hB hs h).mono fun _ _ => spp_ints⟩⟩
  · obtain ⟨h1, h2⟩ := spF_no h
    exact ⟨[], f, fun w hB hs => ⟨(spread_no B v zs n f w hs h1 h2).mono fun _ _ => spp_nil, (rspread_no B v zs n f w hs h).mono fun _ _ => spp_nil⟩⟩

set_option maxHeartbeats 4000000 in
theorem walk (v : Value) (n : Int) (w : World) (h0 : ∃ zs, IntS w.heap.size w v zs) (_w1 : (Lit.int .i64 n).wf = true) :
    Calls Try.prog 6 #[v, .int .i64 n] w fun e w' => e = .returned (.bool true) ∧ Below w.heap.size w w' := by
  obtain ⟨zs, hs⟩ := h0
  obtain ⟨h, f, c1, c2⟩ := high _ v zs w hs
  obtain ⟨l, g, c3⟩ := spread w.heap.size v zs n
  have C1 := Lib.hid c1
  have C2 := Lib.hid c2
  have C3 := Lib.hid (fun (W : World) (hW : Below w.heap.size w W) => c3 W hW.size (hs.below hW))
  have HS := Lib.hid hs
  obtain ⟨ao, cap, rfl, _⟩ := hs
  clear c1 c2 c3
  go_enter Try.func6, Try.ntmps6
  go_wp2_with fail
  refine C1.out.mono ?_
  rintro e w1 ⟨rfl, rfl⟩
  go_wp2_with fail
  refine C2.out.mono ?_
  rintro e w1 ⟨rfl, rfl⟩
  go_wp2_with fail
  refine (C3.out w (Below.refl _ _)).1.mono ?_
  rintro e w2 ⟨v2, rfl, hi2, hb2⟩
  have HI2 := Lib.hid hi2
  have HB2 := Lib.hid hb2
  obtain ⟨ao2, cap2, rfl, _⟩ := hi2
  clear hb2
  go_wp2_with fail
  refine (C3.out w2 HB2.out).2.mono ?_
  rintro e w3 ⟨v3, rfl, hi3, hb3⟩
  have HI3 := Lib.hid hi3
  have HB3 := Lib.hid (HB2.out.trans (hb3.mono HB2.out.size))
  have HI23 := Lib.hid (HI2.out.below hb3)
  obtain ⟨ao3, cap3, rfl, _⟩ := hi3
  clear hb3
  go_wp2_with fail
  refine (equalI _ _ _ _ l w3 HI23.out HI3.out).mono ?_
  rintro e w4 ⟨rfl, n4, rfl⟩
  go_wp2
  go_ret
  exact ⟨by simp, below_drewN HB3.out⟩
end Go.Proofs.Ythoiamaomhggiaa.levelSpreadsMatchSpec
