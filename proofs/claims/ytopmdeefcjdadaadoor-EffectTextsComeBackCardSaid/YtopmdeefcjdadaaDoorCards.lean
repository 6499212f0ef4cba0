/-
  DERIVED. GIVEN WITH THE SEED: THE CARDS: each row of YtopmdeefcjdadaaDoorRows.lean that lists a variable, with what it lists TIED to the program's text (the seventh form; the later family's looks); each row that meets fmt, with fmt's text TOLD by the authors' own Lean function (tested against real Go, not proved from fmt's source: count such statements apart). THE CARD IS WHAT COUNTS. Prove the row's statement (the work); the ties are given (YtopmdeefcjdadaaDoorTie.lean); close each card by the builder's one call (the guide's Derived/Test/ToyasCard.lean, 'card_holds'). Laid BY PROGRAM, IN A SANDBOX (cutbox-door.mjs). By AI agents, Wed Nov 11 2026. No macro, syntax, notation, axiom, sorry.
-/
import Derived.Test.YtopmdeefcjdadaaDoorRows
import GoSem.ClaimSeven
namespace Go.Proofs.YtopmdeefcjdadaaDoor
namespace Rows

/-- THE TIED CARD OF 'cycloramalaw7.EffectChecksMatchSpec'. -/
def effectChecksMatchSpecCard : Claim7 := { stood := { row := effectChecksMatchSpecRow, standIns := [], harness := (true, "18cd26c6c0aad006c963f31e38b5e8d6e21a318dd86e3c2d59b7160d5094bcd8"), looks := true }, kinds := [], alts := [], laidByText := true, laidKinds := [.data, .data, .data], laidTests := true, laidLooks := .later }
def EffectChecksMatchSpecCardSaid : Prop := Claim7.holds Tryd.pinned (.plain (OpenSpec.ofChange effectChecksMatchSpecSpec)) effectChecksMatchSpecCard

/-- THE TIED CARD OF 'cycloramalaw7.EffectTextsComeBack'. -/
def effectTextsComeBackCard : Claim7 := { stood := { row := effectTextsComeBackRow, standIns := [], harness := (true, "18cd26c6c0aad006c963f31e38b5e8d6e21a318dd86e3c2d59b7160d5094bcd8"), looks := true }, kinds := [], alts := [], laidByText := true, laidKinds := [.data, .data, .data, .data, .sentinel, .sentinel, .pinned], laidTests := true, laidLooks := .later }
def EffectTextsComeBackCardSaid : Prop := Claim7.holds Tryd.pinned (.plain (OpenSpec.ofChange effectTextsComeBackSpec)) effectTextsComeBackCard

/-- THE SECOND FORM's CARD OF 'cycloramalaw7.EffectChecksMatchSpec'. -/
def effectChecksMatchSpecUptoCard : Claim7 := { stood := { row := effectChecksMatchSpecUptoRow, standIns := [], harness := (true, "18cd26c6c0aad006c963f31e38b5e8d6e21a318dd86e3c2d59b7160d5094bcd8"), looks := true }, kinds := [], alts := [], laidByText := true, laidKinds := [.data, .data, .data], laidTests := true, laidLooks := .later }
def EffectChecksMatchSpecUptoCardSaid : Prop := Claim7.holds Tryd.pinned (.plain (OpenSpec.upto effectChecksMatchSpecSpec)) effectChecksMatchSpecUptoCard

/-- THE SECOND FORM's CARD OF 'cycloramalaw7.EffectTextsComeBack'. -/
def effectTextsComeBackUptoCard : Claim7 := { stood := { row := effectTextsComeBackUptoRow, standIns := [], harness := (true, "18cd26c6c0aad006c963f31e38b5e8d6e21a318dd86e3c2d59b7160d5094bcd8"), looks := true }, kinds := [], alts := [], laidByText := true, laidKinds := [.data, .data, .data, .data, .sentinel, .sentinel, .pinned], laidTests := true, laidLooks := .later }
def EffectTextsComeBackUptoCardSaid : Prop := Claim7.holds Tryd.pinned (.plain (OpenSpec.upto effectTextsComeBackSpec)) effectTextsComeBackUptoCard
end Rows
end Go.Proofs.YtopmdeefcjdadaaDoor
