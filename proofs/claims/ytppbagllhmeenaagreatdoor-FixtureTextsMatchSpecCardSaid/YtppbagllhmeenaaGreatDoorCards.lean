/-
  DERIVED. GIVEN WITH THE SEED: THE CARDS: each row of YtppbagllhmeenaaGreatDoorRows.lean that lists a variable, with what it lists TIED to the program's text (the seventh form; the later family's looks); each row that meets fmt, with fmt's text TOLD by the authors' own Lean function (tested against real Go, not proved from fmt's source: count such statements apart). THE CARD IS WHAT COUNTS. Prove the row's statement (the work); the ties are given (YtppbagllhmeenaaGreatDoorTie.lean); close each card by the builder's one call (the guide's Derived/Test/ToyasCard.lean, 'card_holds'). Laid BY PROGRAM, IN A SANDBOX (cutbox-door.mjs). By AI agents, Wed Nov 11 2026. No macro, syntax, notation, axiom, sorry.
-/
import Derived.Test.YtppbagllhmeenaaGreatDoorRows
import GoSem.ClaimSeven
namespace Go.Proofs.YtppbagllhmeenaaGreatDoor
namespace Rows

/-- THE TIED CARD OF 'cycloramalaw2.FixturePatchesMatchSpec'. -/
def fixturePatchesMatchSpecCard : Claim7 := { stood := { row := fixturePatchesMatchSpecRow, standIns := [], harness := (true, "bc103f30fd69352de4f9908df84cb79b3f12785c72cea4e722c1efb0e6c0d239"), looks := true }, kinds := [], alts := [], laidByText := true, laidKinds := [.data, .data, .data, .data, .sentinel, .sentinel, .pinned], laidTests := true, laidLooks := .later }
def FixturePatchesMatchSpecCardSaid : Prop := Claim7.holds Tryz.pinned (.plain (OpenSpec.ofChange fixturePatchesMatchSpecSpec)) fixturePatchesMatchSpecCard

/-- THE TIED CARD OF 'cycloramalaw2.FixturePatchesComeBack'. -/
def fixturePatchesComeBackCard : Claim7 := { stood := { row := fixturePatchesComeBackRow, standIns := [], harness := (true, "bc103f30fd69352de4f9908df84cb79b3f12785c72cea4e722c1efb0e6c0d239"), looks := true }, kinds := [], alts := [], laidByText := true, laidKinds := [.data, .data, .data, .data, .sentinel, .sentinel, .pinned], laidTests := true, laidLooks := .later }
def FixturePatchesComeBackCardSaid : Prop := Claim7.holds Tryz.pinned (.plain (OpenSpec.ofChange fixturePatchesComeBackSpec)) fixturePatchesComeBackCard

/-- THE TIED CARD OF 'cycloramalaw2.FixtureTextsComeBack'. -/
def fixtureTextsComeBackCard : Claim7 := { stood := { row := fixtureTextsComeBackRow, standIns := [], harness := (true, "bc103f30fd69352de4f9908df84cb79b3f12785c72cea4e722c1efb0e6c0d239"), looks := true }, kinds := [], alts := [], laidByText := true, laidKinds := [.data, .data, .data, .data, .sentinel, .sentinel, .pinned], laidTests := true, laidLooks := .later }
def FixtureTextsComeBackCardSaid : Prop := Claim7.holds Tryz.pinned (.plain (OpenSpec.ofChange fixtureTextsComeBackSpec)) fixtureTextsComeBackCard

/-- THE TIED CARD OF 'cycloramalaw2.FixtureTextsMatchSpec'. -/
def fixtureTextsMatchSpecCard : Claim7 := { stood := { row := fixtureTextsMatchSpecRow, standIns := [], harness := (true, "bc103f30fd69352de4f9908df84cb79b3f12785c72cea4e722c1efb0e6c0d239"), looks := true }, kinds := [], alts := [], laidByText := true, laidKinds := [.data, .data, .data, .data, .sentinel, .sentinel, .pinned], laidTests := true, laidLooks := .later }
def FixtureTextsMatchSpecCardSaid : Prop := Claim7.holds Tryz.pinned (.plain (OpenSpec.ofChange fixtureTextsMatchSpecSpec)) fixtureTextsMatchSpecCard

/-- THE SECOND FORM's CARD OF 'cycloramalaw2.FixturePatchesMatchSpec'. -/
def fixturePatchesMatchSpecUptoCard : Claim7 := { stood := { row := fixturePatchesMatchSpecUptoRow, standIns := [], harness := (true, "bc103f30fd69352de4f9908df84cb79b3f12785c72cea4e722c1efb0e6c0d239"), looks := true }, kinds := [], alts := [], laidByText := true, laidKinds := [.data, .data, .data, .data, .sentinel, .sentinel, .pinned], laidTests := true, laidLooks := .later }
def FixturePatchesMatchSpecUptoCardSaid : Prop := Claim7.holds Tryz.pinned (.plain (OpenSpec.upto fixturePatchesMatchSpecSpec)) fixturePatchesMatchSpecUptoCard

/-- THE SECOND FORM's CARD OF 'cycloramalaw2.FixturePatchesComeBack'. -/
def fixturePatchesComeBackUptoCard : Claim7 := { stood := { row := fixturePatchesComeBackUptoRow, standIns := [], harness := (true, "bc103f30fd69352de4f9908df84cb79b3f12785c72cea4e722c1efb0e6c0d239"), looks := true }, kinds := [], alts := [], laidByText := true, laidKinds := [.data, .data, .data, .data, .sentinel, .sentinel, .pinned], laidTests := true, laidLooks := .later }
def FixturePatchesComeBackUptoCardSaid : Prop := Claim7.holds Tryz.pinned (.plain (OpenSpec.upto fixturePatchesComeBackSpec)) fixturePatchesComeBackUptoCard

/-- THE SECOND FORM's CARD OF 'cycloramalaw2.FixtureTextsComeBack'. -/
def fixtureTextsComeBackUptoCard : Claim7 := { stood := { row := fixtureTextsComeBackUptoRow, standIns := [], harness := (true, "bc103f30fd69352de4f9908df84cb79b3f12785c72cea4e722c1efb0e6c0d239"), looks := true }, kinds := [], alts := [], laidByText := true, laidKinds := [.data, .data, .data, .data, .sentinel, .sentinel, .pinned], laidTests := true, laidLooks := .later }
def FixtureTextsComeBackUptoCardSaid : Prop := Claim7.holds Tryz.pinned (.plain (OpenSpec.upto fixtureTextsComeBackSpec)) fixtureTextsComeBackUptoCard

/-- THE SECOND FORM's CARD OF 'cycloramalaw2.FixtureTextsMatchSpec'. -/
def fixtureTextsMatchSpecUptoCard : Claim7 := { stood := { row := fixtureTextsMatchSpecUptoRow, standIns := [], harness := (true, "bc103f30fd69352de4f9908df84cb79b3f12785c72cea4e722c1efb0e6c0d239"), looks := true }, kinds := [], alts := [], laidByText := true, laidKinds := [.data, .data, .data, .data, .sentinel, .sentinel, .pinned], laidTests := true, laidLooks := .later }
def FixtureTextsMatchSpecUptoCardSaid : Prop := Claim7.holds Tryz.pinned (.plain (OpenSpec.upto fixtureTextsMatchSpecSpec)) fixtureTextsMatchSpecUptoCard
end Rows
end Go.Proofs.YtppbagllhmeenaaGreatDoor
