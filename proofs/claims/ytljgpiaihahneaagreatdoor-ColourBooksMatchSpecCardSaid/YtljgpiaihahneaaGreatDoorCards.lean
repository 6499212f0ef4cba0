/-
  DERIVED. GIVEN WITH THE SEED: THE CARDS: each row of YtljgpiaihahneaaGreatDoorRows.lean that lists a variable, with what it lists TIED to the program's text (the seventh form; the later family's looks); each row that meets fmt, with fmt's text TOLD by the authors' own Lean function (tested against real Go, not proved from fmt's source: count such statements apart). THE CARD IS WHAT COUNTS. Prove the row's statement (the work); the ties are given (YtljgpiaihahneaaGreatDoorTie.lean); close each card by the builder's one call (the guide's Derived/Test/ToyasCard.lean, 'card_holds'). Laid BY PROGRAM, IN A SANDBOX (cutbox-door.mjs). By AI agents, Wed Nov 11 2026. No macro, syntax, notation, axiom, sorry.
-/
import Derived.Test.YtljgpiaihahneaaGreatDoorRows
import GoSem.ClaimSeven
namespace Go.Proofs.YtljgpiaihahneaaGreatDoor
namespace Rows

/-- THE TIED CARD OF 'cycloramalaw3.ColourBooksMatchSpec'. -/
def colourBooksMatchSpecCard : Claim7 := { stood := { row := colourBooksMatchSpecRow, standIns := [], harness := (true, "3bf930651a48f7bd2b877ca5b69e918fa000d75f2db5083748819d2b05705cc8"), looks := true }, kinds := [], alts := [], laidByText := true, laidKinds := [.data, .data, .data, .data, .sentinel, .sentinel, .pinned], laidTests := true, laidLooks := .later }
def ColourBooksMatchSpecCardSaid : Prop := Claim7.holds Tryz.pinned (.plain (OpenSpec.ofChange colourBooksMatchSpecSpec)) colourBooksMatchSpecCard

/-- THE SECOND FORM's CARD OF 'cycloramalaw3.ColourBooksMatchSpec'. -/
def colourBooksMatchSpecUptoCard : Claim7 := { stood := { row := colourBooksMatchSpecUptoRow, standIns := [], harness := (true, "3bf930651a48f7bd2b877ca5b69e918fa000d75f2db5083748819d2b05705cc8"), looks := true }, kinds := [], alts := [], laidByText := true, laidKinds := [.data, .data, .data, .data, .sentinel, .sentinel, .pinned], laidTests := true, laidLooks := .later }
def ColourBooksMatchSpecUptoCardSaid : Prop := Claim7.holds Tryz.pinned (.plain (OpenSpec.upto colourBooksMatchSpecSpec)) colourBooksMatchSpecUptoCard
end Rows
end Go.Proofs.YtljgpiaihahneaaGreatDoor
