/-
  DERIVED. GIVEN WITH THE SEED: THE CARDS: each row of YtabalicembhjmaaDoorRows.lean that lists a variable, with what it lists TIED to the program's text (the seventh form; the later family's looks); each row that meets fmt, with fmt's text TOLD by the authors' own Lean function (tested against real Go, not proved from fmt's source: count such statements apart). THE CARD IS WHAT COUNTS. Prove the row's statement (the work); the ties are given (YtabalicembhjmaaDoorTie.lean); close each card by the builder's one call (the guide's Derived/Test/ToyasCard.lean, 'card_holds'). Laid BY PROGRAM, IN A SANDBOX (cutbox-door.mjs). By AI agents, Wed Nov 11 2026. No macro, syntax, notation, axiom, sorry.
-/
import Derived.Test.YtabalicembhjmaaDoorRows
import GoSem.ClaimSeven
namespace Go.Proofs.YtabalicembhjmaaDoor
namespace Rows

/-- THE TIED CARD OF 'cycloramalaw2.FixtureLibrariesMatchSpec'. -/
def fixtureLibrariesMatchSpecCard : Claim7 := { stood := { row := fixtureLibrariesMatchSpecRow, standIns := [], harness := (true, "a5ac0b2db185d0e7773dbb052ad8e018a7c71990cfec8a036565ca348835d27d"), looks := false }, kinds := [], alts := [], laidByText := true, laidKinds := [.data, .data, .data], laidTests := true, laidLooks := .later }
def FixtureLibrariesMatchSpecCardSaid : Prop := Claim7.holds Tryd.pinned (.plain (OpenSpec.ofChange fixtureLibrariesMatchSpecSpec)) fixtureLibrariesMatchSpecCard

/-- THE TIED CARD OF 'cycloramalaw2.FixtureRigsMatchSpec'. -/
def fixtureRigsMatchSpecCard : Claim7 := { stood := { row := fixtureRigsMatchSpecRow, standIns := [], harness := (true, "a5ac0b2db185d0e7773dbb052ad8e018a7c71990cfec8a036565ca348835d27d"), looks := false }, kinds := [], alts := [], laidByText := true, laidKinds := [.data, .data, .data], laidTests := true, laidLooks := .later }
def FixtureRigsMatchSpecCardSaid : Prop := Claim7.holds Tryd.pinned (.plain (OpenSpec.ofChange fixtureRigsMatchSpecSpec)) fixtureRigsMatchSpecCard

/-- THE SECOND FORM's CARD OF 'cycloramalaw2.FixtureLibrariesMatchSpec'. -/
def fixtureLibrariesMatchSpecUptoCard : Claim7 := { stood := { row := fixtureLibrariesMatchSpecUptoRow, standIns := [], harness := (true, "a5ac0b2db185d0e7773dbb052ad8e018a7c71990cfec8a036565ca348835d27d"), looks := false }, kinds := [], alts := [], laidByText := true, laidKinds := [.data, .data, .data], laidTests := true, laidLooks := .later }
def FixtureLibrariesMatchSpecUptoCardSaid : Prop := Claim7.holds Tryd.pinned (.plain (OpenSpec.upto fixtureLibrariesMatchSpecSpec)) fixtureLibrariesMatchSpecUptoCard

/-- THE SECOND FORM's CARD OF 'cycloramalaw2.FixtureRigsMatchSpec'. -/
def fixtureRigsMatchSpecUptoCard : Claim7 := { stood := { row := fixtureRigsMatchSpecUptoRow, standIns := [], harness := (true, "a5ac0b2db185d0e7773dbb052ad8e018a7c71990cfec8a036565ca348835d27d"), looks := false }, kinds := [], alts := [], laidByText := true, laidKinds := [.data, .data, .data], laidTests := true, laidLooks := .later }
def FixtureRigsMatchSpecUptoCardSaid : Prop := Claim7.holds Tryd.pinned (.plain (OpenSpec.upto fixtureRigsMatchSpecSpec)) fixtureRigsMatchSpecUptoCard
end Rows
end Go.Proofs.YtabalicembhjmaaDoor
