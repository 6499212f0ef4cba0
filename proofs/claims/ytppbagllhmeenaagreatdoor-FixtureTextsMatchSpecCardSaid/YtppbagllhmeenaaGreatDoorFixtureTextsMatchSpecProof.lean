/- For every input cycloramalaw2.FixtureTextsMatchSpec returns true and leaves its arguments as they were. The row lists package-level variables that start as the program lays them; the card ties them. (Turned from the kit's page on laid rows; the walk lies in YtppbagllhmeenaaGreatDoorFixtureTextsMatchSpecWalk.) -/
import Derived.Test.YtppbagllhmeenaaGreatDoorCards
import Derived.Test.YtppbagllhmeenaaGreatDoorTie
import Derived.WalkKit
import Derived.ProofKit
import Derived.OpenShut
import Derived.SizedLaws
import Derived.Deep.DeepHandedRow
import Derived.Deep.DeepWitnessRowRef
import Derived.Lib.LaidTab
import Derived.Stop.LaidErr
import Derived.Lay
import Derived.MakeChecks
import Derived.Test.YtppbagllhmeenaaGreatDoorT68M44
namespace Go.Proofs.YtppbagllhmeenaaGreatDoor.fixtureTextsMatchSpec
open Go.ChangeShapes Go.WideShapes Go.ChangeAt Go.RowKit
open Go.ChangeMaps (open_string shut_string)
set_option linter.unusedVariables false

theorem own : ownKnob Tryz.prog.godebug = none := by kernel_rfl
theorem laidOut : laidOutB Tryz.prog = true := by kernel_rfl
theorem gTab : Tryz.prog.globalNamed "internal/strconv.uint64pow10" = some ((Tryz.prog.globalNamed "internal/strconv.uint64pow10").getD 0) := by kernel_rfl
theorem nGlobals : 8 ≤ Tryz.prog.globals.size := by decide +kernel
theorem last : ((begin Tryz.prog (fun _ _ => 0) default).world.heap[7]?).bind Obj.row? |>.isSome := by kernel_rfl

/-- what the row's list and the world's shape give -/
theorem textW {W : World} (hL : laidMetH Tryz.prog Rows.fixtureTextsMatchSpecRow.laid W) (hsh : W.ShapedOpen Tryz.prog) : TextW W := by
  refine ⟨Tryz.laysM145.s1_3 W hsh, ?_, ?_⟩
  · have h : laidMet Tryz.prog Rows.fixtureTextsMatchSpecRow.laid W := by rw [← Go.MakeChecks.laidMetH_plain Tryz.prog Rows.fixtureTextsMatchSpecRow.laid W (by kernel_rfl)]; exact hL
    have h2 : laidMet Tryz.prog (("internal/strconv.uint64pow10", Lib.tabData .u64 Lib.pow10Tab) :: Rows.fixtureTextsMatchSpecRow.laid.drop 3) W := by
      have h3 := h.tail.tail
      have e : (("internal/strconv.uint64pow10", Rows.laid_internal_strconv_uint64pow10) : String × DataW Unit) = ("internal/strconv.uint64pow10", Lib.tabData .u64 Lib.pow10Tab) := by kernel_rfl
      rw [← e]
      exact h3
    exact Lib.tabIs_of_head (Go.Proofs.YtppbagllhmeenaaGreatDoor.gPow) (t := 166) (e := 148) (n := 20) (by kernel_rfl) Tryz.underlying166 Tryz.underlying148 (by kernel_rfl) (by kernel_rfl) h2
  · have h := last
    cases hz : ((begin Tryz.prog (fun _ _ => 0) default).world.heap[7]?).bind Obj.row? with
    | none => rw [hz] at h; cases h
    | some r =>
      obtain ⟨cs, hcs, _⟩ := hsh.1 7 r.1 r.2 (Nat.lt_of_lt_of_le (by decide) nGlobals) hz
      exact (Array.getElem?_eq_some_iff.1 hcs).1

set_option maxRecDepth 100000 in
theorem contract (H : Type) (enc : TypeId × Value → H) (W : World) (base : Nat) (args : Array Value) (ds gs : List (DataW H)) (before : List MemPlace)
    (hval0 : ∀ (j : Nat) t v, Tryz.f6.params[j]? = some t → args[j]? = some v → Value.okWide Tryz.prog W .any base t v)
    (hW : DataW.Whole enc Tryz.prog Tryz.f6.params.toList Rows.fixtureTextsMatchSpecSpec.vars false W args.toList ds gs before)
    (hsz0 : (DataW.weightsEach Tryz.prog (Tryz.f6.params.toList ++ Rows.fixtureTextsMatchSpecSpec.plain.varTypes Tryz.prog) (ds ++ gs)).all (· ≤ reachBytes) = true) (hT : TextW W) :
    Calls Tryz.prog 6 args W fun e W' => ∃ v, e = .returned v ∧ Rows.fixtureTextsMatchSpecSpec.post enc Tryz.prog Tryz.f6 false true false false W args v W' := by
  have hval : ∀ (j : Nat) t v, Tryz.f6.params[j]? = some t → args[j]? = some v → Value.okWide Tryz.prog W .any base t v := hval0
  have hW' := hW
  obtain ⟨p, q, hA0, hV, rfl, hfz, hnd⟩ := hW
  have hA : DataW.TrodAll enc Tryz.prog W 0 (fun _ => true) true Tryz.f6.params.toList args.toList ds p := hA0
  have hsz : (DataW.weightsEach Tryz.prog (Tryz.f6.params.toList ++ Rows.fixtureTextsMatchSpecSpec.plain.varTypes Tryz.prog) (ds ++ gs)).all (· ≤ reachBytes) = true := hsz0
  rw [Tryz.params6] at hA hval hsz
  obtain ⟨v0, vs0, d0, ds0, p0, q0, hargs, rfl, rfl, h0, r0⟩ := trodAll_cons hA
  obtain ⟨rfl, rfl, rfl⟩ := trodAll_nil r0
  obtain rfl : args = #[v0] := by cases args; simp_all
  obtain ⟨rfl, rfl⟩ := trodVars_none hV
  obtain ⟨a0, rfl, rfl, rfl, w0⟩ := open_string Tryz.underlying9 (hval 0 9 v0 rfl rfl) h0
  clear hA0 hval0
  refine (walk a0 W w0 hT).mono fun e W' ⟨he, bel⟩ => ?_
  subst he
  exact ⟨_, rfl, _, _, _, [], _, [], hW', trodAll_mk1 (shut_bool Tryz.underlying4 _), (trodAll_cons_mk (shut_string Tryz.underlying9 w0) trodAll_mk0), rfl, bel.frame _, fun h => by cases h⟩


/-- a world for the witness: the listed variables laid -/
theorem laid_met (os : Os) : laidMet Tryz.prog Rows.fixtureTextsMatchSpecRow.laid ((World.laidAll Tryz.prog os Rows.fixtureTextsMatchSpecRow.laid).forCall (fun _ _ => 0) ⟨#[], #[.string ByteArray.empty], []⟩).memory :=
  laidMet_laidAll _ (by kernel_rfl) (by kernel_rfl)
theorem reads (os : Os) {H : Type} (enc : TypeId × Value → H) : ∃ places, DataW.whole enc Tryz.prog ((World.laidAll Tryz.prog os Rows.fixtureTextsMatchSpecRow.laid).forCall (fun _ _ => 0) ⟨#[], #[.string ByteArray.empty], []⟩).memory Tryz.f6.params.toList Rows.fixtureTextsMatchSpecSpec.vars false (#[.string ByteArray.empty] : Array Value).toList 8 = some ([.lit (.string [])], [], places) :=
  ⟨[], by kernel_rfl⟩

set_option maxRecDepth 100000 in
theorem lifted (os : Os) (started : os.Started) (H : Type) (enc : TypeId × Value → H) (F : Stop.Interp) :
    ReturnsInHanded {} Tryz.checked os 6 .any ((OpenSpec.ofChange Rows.fixtureTextsMatchSpecSpec).preRow enc Tryz.prog Tryz.f6 Rows.fixtureTextsMatchSpecRow.domain false Rows.fixtureTextsMatchSpecRow.laid) (((OpenSpec.ofChange Rows.fixtureTextsMatchSpecSpec).at F).post enc Tryz.prog Tryz.f6 false true false false) := by
  obtain ⟨places, hx⟩ := reads os enc
  refine returnsInHanded_of_row (C := Tryz.checked) (s := OpenSpec.ofChange Rows.fixtureTextsMatchSpecSpec) own started (by kernel_rfl) Tryz.func6
    (witness_row_atRef (enc := enc) (C := Tryz.checked) false (World.laidAll Tryz.prog os Rows.fixtureTextsMatchSpecRow.laid) #[.string ByteArray.empty] (World.laidAll_os _ _ _) (by kernel_rfl) (by kernel_rfl) (by kernel_rfl)
      (OpenSpec.preRow_of_cond 8 hx (by kernel_rfl) (fun k hk => by cases hk) (by kernel_rfl) (laid_met os))) ?_
  intro W base args ds gs before hval hW _ _ hsz hL hsh _
  exact contract H enc W base args ds gs before hval hW hsz (textW hL hsh)

theorem said : Rows.FixtureTextsMatchSpecSaid :=
  OpenClaim.holds_of_cond 6 Tryz.f6 rfl rfl rfl rfl rfl rfl rfl ⟨rfl, rfl, rfl, rfl, rfl⟩ rfl rfl rfl rfl rfl (by kernel_rfl) Tryz.func6 (by kernel_rfl)
    (of_decide_eq_true (by kernel_rfl)) (by unfold Func.isWrapper; first | (rw [if_pos (by decide +kernel)]; kernel_rfl) | (rw [if_neg (by decide +kernel)]; exact ⟨rfl, rfl⟩))
    (fun os started H enc _ F => by rw [OpenClaim.pre_eq_preRow]; exact lifted os started H enc F)

theorem plain (f : FuncId) (fn : Func) (hf : Tryz.pinned.checked.prog.funcNamed "cyclorama/cycloramalaw2.FixtureTextsMatchSpec" = some f) (hfn : Tryz.pinned.checked.prog.funcs[f]? = some fn) :
    true = Tryz.pinned.checked.prog.looks [] ∧ ∀ (j : Nat) t, fn.params[j]? = some t → Tryz.pinned.checked.prog.wantsStandIn t = false := by
  obtain rfl : f = 6 := Option.some.inj ((show Tryz.prog.funcNamed "cyclorama/cycloramalaw2.FixtureTextsMatchSpec" = some 6 by kernel_rfl).symm.trans hf) |>.symm
  obtain rfl : fn = Tryz.f6 := (Option.some.inj (Tryz.func6.symm.trans hfn)).symm
  refine ⟨by kernel_rfl, fun j t ht => ?_⟩
  rw [Tryz.params6] at ht
  have hm := Array.mem_of_getElem? ht
  have hall : ([9] : List TypeId).all (fun x => !Tryz.prog.wantsStandIn x) = true := by kernel_rfl
  have := List.all_eq_true.1 hall t (by simpa using hm)
  exact (show Tryz.prog.wantsStandIn t = false by simpa using this)

theorem proved : Rows.FixtureTextsMatchSpecCardSaid :=
  Claim7.holds_tied_plain_at .later [] _ _ _ _ said (fun _ h => by cases h) (by kernel_rfl) (fun _ h => by cases h) fixtureTextsMatchSpec_row_tie rfl ⟨rfl, rfl⟩ (by kernel_rfl) rfl plain (by kernel_rfl)
#print axioms proved
end Go.Proofs.YtppbagllhmeenaaGreatDoor.fixtureTextsMatchSpec
