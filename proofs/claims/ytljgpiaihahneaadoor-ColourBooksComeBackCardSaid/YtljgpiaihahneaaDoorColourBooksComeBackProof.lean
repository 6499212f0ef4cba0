/- For every input cycloramalaw3.ColourBooksComeBack returns true and leaves its arguments as they were. The row lists package-level variables that start as the program lays them; the card ties them. (Turned from the kit's page on laid rows; the walk lies in YtljgpiaihahneaaDoorColourBooksComeBackWalk.) -/
import Derived.Test.YtljgpiaihahneaaDoorCards
import Derived.Test.YtljgpiaihahneaaDoorTie
import Derived.WalkKit
import Derived.ProofKit
import Derived.OpenShut
import Derived.SizedLaws
import Derived.Deep.DeepHandedRow
import Derived.Deep.DeepWitnessRowRef
import Derived.Lib.LaidTab
import Derived.Stop.LaidErr
import Derived.Lay
import Derived.MakeChecks
import Derived.Test.YtljgpiaihahneaaDoorColourBooksComeBackWalk
namespace Go.Proofs.YtljgpiaihahneaaDoor.colourBooksComeBack
open Go.ChangeShapes Go.WideShapes Go.ChangeAt Go.RowKit
open Go.ChangeMaps (open_string shut_string)
set_option linter.unusedVariables false

theorem own : ownKnob Tryd.prog.godebug = none := by kernel_rfl
theorem laidOut : laidOutB Tryd.prog = true := by kernel_rfl
theorem gTab : Tryd.prog.globalNamed "internal/strconv.uint64pow10" = some ((Tryd.prog.globalNamed "internal/strconv.uint64pow10").getD 0) := by kernel_rfl
theorem nGlobals : 8 ≤ Tryd.prog.globals.size := by decide +kernel
theorem last : ((begin Tryd.prog (fun _ _ => 0) default).world.heap[7]?).bind Obj.row? |>.isSome := by kernel_rfl

/-- what the row's list and the world's shape give -/
theorem textW {W : World} (hL : laidMetH Tryd.prog Rows.colourBooksComeBackRow.laid W) (hsh : W.ShapedOpen Tryd.prog) : TextW W := by
  refine ⟨Go.Proofs.cell_of_shapedOpen_int (zero := #[.int .i64 0]) (t := 3) hsh (of_decide_eq_true (by kernel_rfl)) (by kernel_rfl) rfl (by kernel_rfl) (by kernel_rfl) Tryd.underlying3, ?_, ?_⟩
  · have h : laidMet Tryd.prog Rows.colourBooksComeBackRow.laid W := by rw [← Go.MakeChecks.laidMetH_plain Tryd.prog Rows.colourBooksComeBackRow.laid W (by kernel_rfl)]; exact hL
    have h2 : laidMet Tryd.prog (("internal/strconv.uint64pow10", Lib.tabData .u64 Lib.pow10Tab) :: Rows.colourBooksComeBackRow.laid.drop 3) W := by
      have h3 := h.tail.tail
      have e : (("internal/strconv.uint64pow10", Rows.laid_internal_strconv_uint64pow10) : String × DataW Unit) = ("internal/strconv.uint64pow10", Lib.tabData .u64 Lib.pow10Tab) := by kernel_rfl
      rw [← e]
      exact h3
    exact Lib.tabIs_of_head (Go.Proofs.YtljgpiaihahneaaDoor.gPow) (t := 110) (e := 46) (n := 20) (by kernel_rfl) Tryd.underlying110 Tryd.underlying46 (by kernel_rfl) (by kernel_rfl) h2
  · have h := last
    cases hz : ((begin Tryd.prog (fun _ _ => 0) default).world.heap[7]?).bind Obj.row? with
    | none => rw [hz] at h; cases h
    | some r =>
      obtain ⟨cs, hcs, _⟩ := hsh.1 7 r.1 r.2 (Nat.lt_of_lt_of_le (by decide) nGlobals) hz
      exact (Array.getElem?_eq_some_iff.1 hcs).1

theorem gTz : Tryd.prog.globalNamed "math/bits.deBruijn64tab" = some ((Tryd.prog.globalNamed "math/bits.deBruijn64tab").getD 0) := by kernel_rfl
theorem colW {W : World} (hL : laidMetH Tryd.prog Rows.colourBooksComeBackRow.laid W) (hsh : W.ShapedOpen Tryd.prog) : TextW W ∧ ColW W := by
  have hx := textW hL hsh
  refine ⟨hx, ?_, hx.sz⟩
  have h : laidMet Tryd.prog Rows.colourBooksComeBackRow.laid W := by rw [← Go.MakeChecks.laidMetH_plain Tryd.prog Rows.colourBooksComeBackRow.laid W (by kernel_rfl)]; exact hL
  have h2 : laidMet Tryd.prog (("math/bits.deBruijn64tab", Lib.tabData .u8 [0, 1, 56, 2, 57, 49, 28, 3, 61, 58, 42, 50, 38, 29, 17, 4, 62, 47, 59, 36, 45, 43, 51, 22, 53, 39, 33, 30, 24, 18, 12, 5, 63, 55, 48, 27, 60, 41, 37, 16, 46, 35, 44, 21, 52, 32, 23, 11, 54, 26, 40, 15, 34, 20, 31, 10, 25, 14, 19, 9, 13, 8, 7, 6]) :: Rows.colourBooksComeBackRow.laid.drop 2) W := by
    have h3 := h.tail
    have e : (("math/bits.deBruijn64tab", Rows.laid_math_bits_deBruijn64tab) : String × DataW Unit) = ("math/bits.deBruijn64tab", Lib.tabData .u8 [0, 1, 56, 2, 57, 49, 28, 3, 61, 58, 42, 50, 38, 29, 17, 4, 62, 47, 59, 36, 45, 43, 51, 22, 53, 39, 33, 30, 24, 18, 12, 5, 63, 55, 48, 27, 60, 41, 37, 16, 46, 35, 44, 21, 52, 32, 23, 11, 54, 26, 40, 15, 34, 20, 31, 10, 25, 14, 19, 9, 13, 8, 7, 6]) := by kernel_rfl
    rw [← e]
    exact h3
  have ht := Lib.tabIs_of_head gTz (t := 137) (e := 5) (n := 64) (by kernel_rfl) Tryd.underlying137 Tryd.underlying5 (by kernel_rfl) (by kernel_rfl) h2
  exact ht.cell gTz 15 (by decide)

set_option maxRecDepth 100000 in
theorem contract (H : Type) (enc : TypeId × Value → H) (W : World) (base : Nat) (args : Array Value) (ds gs : List (DataW H)) (before : List MemPlace)
    (hval0 : ∀ (j : Nat) t v, Tryd.f5.params[j]? = some t → args[j]? = some v → Value.okWide Tryd.prog W .any base t v)
    (hW : DataW.Whole enc Tryd.prog Tryd.f5.params.toList Rows.colourBooksComeBackSpec.vars false W args.toList ds gs before)
    (hsz0 : (DataW.weightsEach Tryd.prog (Tryd.f5.params.toList ++ Rows.colourBooksComeBackSpec.plain.varTypes Tryd.prog) (ds ++ gs)).all (· ≤ reachBytes) = true) (hT : TextW W ∧ ColW W) :
    Calls Tryd.prog 5 args W fun e W' => ∃ v, e = .returned v ∧ Rows.colourBooksComeBackSpec.post enc Tryd.prog Tryd.f5 false true false false W args v W' := by
  have hval : ∀ (j : Nat) t v, Tryd.f5.params[j]? = some t → args[j]? = some v → Value.okWide Tryd.prog W .any base t v := hval0
  have hW' := hW
  obtain ⟨p, q, hA0, hV, rfl, hfz, hnd⟩ := hW
  have hA : DataW.TrodAll enc Tryd.prog W 0 (fun _ => true) true Tryd.f5.params.toList args.toList ds p := hA0
  have hsz : (DataW.weightsEach Tryd.prog (Tryd.f5.params.toList ++ Rows.colourBooksComeBackSpec.plain.varTypes Tryd.prog) (ds ++ gs)).all (· ≤ reachBytes) = true := hsz0
  rw [Tryd.params5] at hA hval hsz
  obtain ⟨v0, vs0, d0, ds0, p0, q0, hargs, rfl, rfl, h0, r0⟩ := trodAll_cons hA
  obtain ⟨rfl, rfl, rfl⟩ := trodAll_nil r0
  obtain rfl : args = #[v0] := by cases args; simp_all
  obtain ⟨rfl, rfl⟩ := trodVars_none hV
  have k0 := h0
  have lt0 : ∀ x ∈ p0, x.block < W.heap.size := by obtain ⟨m, hm⟩ := k0; exact DataW.trod_lt m _ _ _ hm
  obtain ⟨_, rfl, w0⟩ := open_gels (hval 0 31 v0 rfl rfl) h0
  clear hA0 hval0
  refine (walk v0 W w0 hT).mono fun e W' ⟨he, bel⟩ => ?_
  subst he
  exact ⟨_, rfl, _, _, _, [], _, [], hW', trodAll_mk1 (shut_bool Tryd.underlying4 _), (trodAll_cons_mk (Below.trod laidOut (by kernel_rfl) (of_decide_eq_true (by kernel_rfl)) k0 bel lt0) trodAll_mk0), rfl, bel.frame _, fun h => by cases h⟩


/-- a world for the witness: the listed variables laid -/
theorem laid_met (os : Os) : laidMet Tryd.prog Rows.colourBooksComeBackRow.laid ((World.laidAll Tryd.prog os Rows.colourBooksComeBackRow.laid).forCall (fun _ _ => 0) ⟨#[], #[.slice none 0 0], []⟩).memory :=
  laidMet_laidAll _ (by kernel_rfl) (by kernel_rfl)
theorem reads (os : Os) {H : Type} (enc : TypeId × Value → H) : ∃ places, DataW.whole enc Tryd.prog ((World.laidAll Tryd.prog os Rows.colourBooksComeBackRow.laid).forCall (fun _ _ => 0) ⟨#[], #[.slice none 0 0], []⟩).memory Tryd.f5.params.toList Rows.colourBooksComeBackSpec.vars false (#[.slice none 0 0] : Array Value).toList 8 = some ([.nil], [], places) :=
  ⟨[], by kernel_rfl⟩

set_option maxRecDepth 100000 in
theorem lifted (os : Os) (started : os.Started) (H : Type) (enc : TypeId × Value → H) (F : Stop.Interp) :
    ReturnsInHanded {} Tryd.checked os 5 .any ((OpenSpec.ofChange Rows.colourBooksComeBackSpec).preRow enc Tryd.prog Tryd.f5 Rows.colourBooksComeBackRow.domain false Rows.colourBooksComeBackRow.laid) (((OpenSpec.ofChange Rows.colourBooksComeBackSpec).at F).post enc Tryd.prog Tryd.f5 false true false false) := by
  obtain ⟨places, hx⟩ := reads os enc
  refine returnsInHanded_of_row (C := Tryd.checked) (s := OpenSpec.ofChange Rows.colourBooksComeBackSpec) own started (by kernel_rfl) Tryd.func5
    (witness_row_atRef (enc := enc) (C := Tryd.checked) false (World.laidAll Tryd.prog os Rows.colourBooksComeBackRow.laid) #[.slice none 0 0] (World.laidAll_os _ _ _) (by kernel_rfl) (by kernel_rfl) (by kernel_rfl)
      (OpenSpec.preRow_of_cond 8 hx (by kernel_rfl) (fun k hk => by cases hk) (by kernel_rfl) (laid_met os))) ?_
  intro W base args ds gs before hval hW _ _ hsz hL hsh _
  exact contract H enc W base args ds gs before hval hW hsz (colW hL hsh)

theorem said : Rows.ColourBooksComeBackSaid :=
  OpenClaim.holds_of_cond 5 Tryd.f5 rfl rfl rfl rfl rfl rfl rfl ⟨rfl, rfl, rfl, rfl, rfl⟩ rfl rfl rfl rfl rfl (by kernel_rfl) Tryd.func5 (by kernel_rfl)
    (of_decide_eq_true (by kernel_rfl)) (by unfold Func.isWrapper; first | (rw [if_pos (by decide +kernel)]; kernel_rfl) | (rw [if_neg (by decide +kernel)]; exact ⟨rfl, rfl⟩))
    (fun os started H enc _ F => by rw [OpenClaim.pre_eq_preRow]; exact lifted os started H enc F)

theorem plain (f : FuncId) (fn : Func) (hf : Tryd.pinned.checked.prog.funcNamed "cyclorama/cycloramalaw3.ColourBooksComeBack" = some f) (hfn : Tryd.pinned.checked.prog.funcs[f]? = some fn) :
    true = Tryd.pinned.checked.prog.looks [] ∧ ∀ (j : Nat) t, fn.params[j]? = some t → Tryd.pinned.checked.prog.wantsStandIn t = false := by
  obtain rfl : f = 5 := Option.some.inj ((show Tryd.prog.funcNamed "cyclorama/cycloramalaw3.ColourBooksComeBack" = some 5 by kernel_rfl).symm.trans hf) |>.symm
  obtain rfl : fn = Tryd.f5 := (Option.some.inj (Tryd.func5.symm.trans hfn)).symm
  refine ⟨by kernel_rfl, fun j t ht => ?_⟩
  rw [Tryd.params5] at ht
  have hm := Array.mem_of_getElem? ht
  have hall : ([31] : List TypeId).all (fun x => !Tryd.prog.wantsStandIn x) = true := by kernel_rfl
  have := List.all_eq_true.1 hall t (by simpa using hm)
  exact (show Tryd.prog.wantsStandIn t = false by simpa using this)

theorem proved : Rows.ColourBooksComeBackCardSaid :=
  Claim7.holds_tied_plain_at .later [] _ _ _ _ said (fun _ h => by cases h) (by kernel_rfl) (fun _ h => by cases h) colourBooksComeBack_row_tie rfl ⟨rfl, rfl⟩ (by kernel_rfl) rfl plain (by kernel_rfl)
#print axioms proved
end Go.Proofs.YtljgpiaihahneaaDoor.colourBooksComeBack
