/-
  DERIVED. GIVEN WITH THE SEED: THE CARDS: each row of YtljgpiaihahneaaDoorRows.lean that lists a variable, with what it lists TIED to the program's text (the seventh form; the later family's looks); each row that meets fmt, with fmt's text TOLD by the authors' own Lean function (tested against real Go, not proved from fmt's source: count such statements apart). THE CARD IS WHAT COUNTS. Prove the row's statement (the work); the ties are given (YtljgpiaihahneaaDoorTie.lean); close each card by the builder's one call (the guide's Derived/Test/ToyasCard.lean, 'card_holds'). Laid BY PROGRAM, IN A SANDBOX (cutbox-door.mjs). By AI agents, Wed Nov 11 2026. No macro, syntax, notation, axiom, sorry.
-/
import Derived.Test.YtljgpiaihahneaaDoorRows
import GoSem.ClaimSeven
namespace Go.Proofs.YtljgpiaihahneaaDoor
namespace Rows

/-- THE TIED CARD OF 'cycloramalaw3.ColourTextsComeBack'. -/
def colourTextsComeBackCard : Claim7 := { stood := { row := colourTextsComeBackRow, standIns := [], harness := (true, "67437c52c0c2c83c0d3671eefb34c65e233ba480958c54fb64a0f528bec48d19"), looks := true }, kinds := [], alts := [], laidByText := true, laidKinds := [.data, .data, .data, .data, .sentinel, .sentinel, .pinned], laidTests := true, laidLooks := .later }
def ColourTextsComeBackCardSaid : Prop := Claim7.holds Tryd.pinned (.plain (OpenSpec.ofChange colourTextsComeBackSpec)) colourTextsComeBackCard

/-- THE TIED CARD OF 'cycloramalaw3.ColourTextsMatchSpec'. -/
def colourTextsMatchSpecCard : Claim7 := { stood := { row := colourTextsMatchSpecRow, standIns := [], harness := (true, "67437c52c0c2c83c0d3671eefb34c65e233ba480958c54fb64a0f528bec48d19"), looks := true }, kinds := [], alts := [], laidByText := true, laidKinds := [.data, .data, .data, .data, .sentinel, .sentinel, .pinned], laidTests := true, laidLooks := .later }
def ColourTextsMatchSpecCardSaid : Prop := Claim7.holds Tryd.pinned (.plain (OpenSpec.ofChange colourTextsMatchSpecSpec)) colourTextsMatchSpecCard

/-- THE TIED CARD OF 'cycloramalaw3.ColourBooksComeBack'. -/
def colourBooksComeBackCard : Claim7 := { stood := { row := colourBooksComeBackRow, standIns := [], harness := (true, "67437c52c0c2c83c0d3671eefb34c65e233ba480958c54fb64a0f528bec48d19"), looks := true }, kinds := [], alts := [], laidByText := true, laidKinds := [.data, .data, .data, .data, .sentinel, .sentinel, .pinned], laidTests := true, laidLooks := .later }
def ColourBooksComeBackCardSaid : Prop := Claim7.holds Tryd.pinned (.plain (OpenSpec.ofChange colourBooksComeBackSpec)) colourBooksComeBackCard

/-- THE SECOND FORM's CARD OF 'cycloramalaw3.ColourTextsComeBack'. -/
def colourTextsComeBackUptoCard : Claim7 := { stood := { row := colourTextsComeBackUptoRow, standIns := [], harness := (true, "67437c52c0c2c83c0d3671eefb34c65e233ba480958c54fb64a0f528bec48d19"), looks := true }, kinds := [], alts := [], laidByText := true, laidKinds := [.data, .data, .data, .data, .sentinel, .sentinel, .pinned], laidTests := true, laidLooks := .later }
def ColourTextsComeBackUptoCardSaid : Prop := Claim7.holds Tryd.pinned (.plain (OpenSpec.upto colourTextsComeBackSpec)) colourTextsComeBackUptoCard

/-- THE SECOND FORM's CARD OF 'cycloramalaw3.ColourTextsMatchSpec'. -/
def colourTextsMatchSpecUptoCard : Claim7 := { stood := { row := colourTextsMatchSpecUptoRow, standIns := [], harness := (true, "67437c52c0c2c83c0d3671eefb34c65e233ba480958c54fb64a0f528bec48d19"), looks := true }, kinds := [], alts := [], laidByText := true, laidKinds := [.data, .data, .data, .data, .sentinel, .sentinel, .pinned], laidTests := true, laidLooks := .later }
def ColourTextsMatchSpecUptoCardSaid : Prop := Claim7.holds Tryd.pinned (.plain (OpenSpec.upto colourTextsMatchSpecSpec)) colourTextsMatchSpecUptoCard

/-- THE SECOND FORM's CARD OF 'cycloramalaw3.ColourBooksComeBack'. -/
def colourBooksComeBackUptoCard : Claim7 := { stood := { row := colourBooksComeBackUptoRow, standIns := [], harness := (true, "67437c52c0c2c83c0d3671eefb34c65e233ba480958c54fb64a0f528bec48d19"), looks := true }, kinds := [], alts := [], laidByText := true, laidKinds := [.data, .data, .data, .data, .sentinel, .sentinel, .pinned], laidTests := true, laidLooks := .later }
def ColourBooksComeBackUptoCardSaid : Prop := Claim7.holds Tryd.pinned (.plain (OpenSpec.upto colourBooksComeBackSpec)) colourBooksComeBackUptoCard
end Rows
end Go.Proofs.YtljgpiaihahneaaDoor
