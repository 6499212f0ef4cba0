/-
  DERIVED. GIVEN WITH THE SEED: THE CARDS: each row of YtfidbdegggalmaaGreatDoorRows.lean that lists a variable, with what it lists TIED to the program's text (the seventh form; the later family's looks); each row that meets fmt, with fmt's text TOLD by the authors' own Lean function (tested against real Go, not proved from fmt's source: count such statements apart). THE CARD IS WHAT COUNTS. Prove the row's statement (the work); the ties are given (YtfidbdegggalmaaGreatDoorTie.lean); close each card by the builder's one call (the guide's Derived/Test/ToyasCard.lean, 'card_holds'). Laid BY PROGRAM, IN A SANDBOX (cutbox-door.mjs). By AI agents, Wed Nov 11 2026. No macro, syntax, notation, axiom, sorry.
-/
import Derived.Test.YtfidbdegggalmaaGreatDoorRows
import GoSem.ClaimSeven
namespace Go.Proofs.YtfidbdegggalmaaGreatDoor
namespace Rows

/-- THE TIED CARD OF 'cycloramalaw7.EffectTextsMatchSpec'. -/
def effectTextsMatchSpecCard : Claim7 := { stood := { row := effectTextsMatchSpecRow, standIns := [], harness := (true, "fad6b05eabdacbc6ac52ff4364c05cd2507375e34282ea046f6fbae7e938b478"), looks := true }, kinds := [], alts := [], laidByText := true, laidKinds := [.data, .data, .data, .data, .sentinel, .sentinel, .pinned], laidTests := true, laidLooks := .later }
def EffectTextsMatchSpecCardSaid : Prop := Claim7.holds Tryz.pinned (.plain (OpenSpec.ofChange effectTextsMatchSpecSpec)) effectTextsMatchSpecCard

/-- THE SECOND FORM's CARD OF 'cycloramalaw7.EffectTextsMatchSpec'. -/
def effectTextsMatchSpecUptoCard : Claim7 := { stood := { row := effectTextsMatchSpecUptoRow, standIns := [], harness := (true, "fad6b05eabdacbc6ac52ff4364c05cd2507375e34282ea046f6fbae7e938b478"), looks := true }, kinds := [], alts := [], laidByText := true, laidKinds := [.data, .data, .data, .data, .sentinel, .sentinel, .pinned], laidTests := true, laidLooks := .later }
def EffectTextsMatchSpecUptoCardSaid : Prop := Claim7.holds Tryz.pinned (.plain (OpenSpec.upto effectTextsMatchSpecSpec)) effectTextsMatchSpecUptoCard
end Rows
end Go.Proofs.YtfidbdegggalmaaGreatDoor
