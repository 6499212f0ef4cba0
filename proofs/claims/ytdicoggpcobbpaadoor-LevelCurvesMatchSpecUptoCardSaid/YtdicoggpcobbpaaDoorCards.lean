/-
  DERIVED. GIVEN WITH THE SEED: THE CARDS: each row of YtdicoggpcobbpaaDoorRows.lean that lists a variable, with what it lists TIED to the program's text (the seventh form; the later family's looks); each row that meets fmt, with fmt's text TOLD by the authors' own Lean function (tested against real Go, not proved from fmt's source: count such statements apart). THE CARD IS WHAT COUNTS. Prove the row's statement (the work); the ties are given (YtdicoggpcobbpaaDoorTie.lean); close each card by the builder's one call (the guide's Derived/Test/ToyasCard.lean, 'card_holds'). Laid BY PROGRAM, IN A SANDBOX (cutbox-door.mjs). By AI agents, Wed Nov 11 2026. No macro, syntax, notation, axiom, sorry.
-/
import Derived.Test.YtdicoggpcobbpaaDoorRows
import GoSem.ClaimSeven
namespace Go.Proofs.YtdicoggpcobbpaaDoor
namespace Rows

/-- THE TIED CARD OF 'cycloramalaw1.LevelTextsComeBack'. -/
def levelTextsComeBackCard : Claim7 := { stood := { row := levelTextsComeBackRow, standIns := [], harness := (true, "e36ee475d1c0605d00edd283738db3c1c2c127ebe2ce6c5376e9a41b3e150c7a"), looks := true }, kinds := [], alts := [], laidByText := true, laidKinds := [.data, .data, .data, .data, .sentinel, .sentinel, .pinned], laidTests := true, laidLooks := .later }
def LevelTextsComeBackCardSaid : Prop := Claim7.holds Tryd.pinned (.plain (OpenSpec.ofChange levelTextsComeBackSpec)) levelTextsComeBackCard

/-- THE TIED CARD OF 'cycloramalaw1.LevelTimesComeBack'. -/
def levelTimesComeBackCard : Claim7 := { stood := { row := levelTimesComeBackRow, standIns := [], harness := (true, "e36ee475d1c0605d00edd283738db3c1c2c127ebe2ce6c5376e9a41b3e150c7a"), looks := true }, kinds := [], alts := [], laidByText := true, laidKinds := [.data, .data, .data, .data, .sentinel, .sentinel, .pinned], laidTests := true, laidLooks := .later }
def LevelTimesComeBackCardSaid : Prop := Claim7.holds Tryd.pinned (.plain (OpenSpec.ofChange levelTimesComeBackSpec)) levelTimesComeBackCard

/-- THE TIED CARD OF 'cycloramalaw1.LevelCurvesComeBack'. -/
def levelCurvesComeBackCard : Claim7 := { stood := { row := levelCurvesComeBackRow, standIns := [], harness := (true, "e36ee475d1c0605d00edd283738db3c1c2c127ebe2ce6c5376e9a41b3e150c7a"), looks := true }, kinds := [], alts := [], laidByText := true, laidKinds := [.data, .data, .data, .data, .sentinel, .sentinel, .pinned], laidTests := true, laidLooks := .later }
def LevelCurvesComeBackCardSaid : Prop := Claim7.holds Tryd.pinned (.plain (OpenSpec.ofChange levelCurvesComeBackSpec)) levelCurvesComeBackCard

/-- THE TIED CARD OF 'cycloramalaw1.LevelCurvesMatchSpec'. -/
def levelCurvesMatchSpecCard : Claim7 := { stood := { row := levelCurvesMatchSpecRow, standIns := [], harness := (true, "e36ee475d1c0605d00edd283738db3c1c2c127ebe2ce6c5376e9a41b3e150c7a"), looks := true }, kinds := [], alts := [], laidByText := true, laidKinds := [.data, .data, .data, .data, .sentinel, .sentinel, .pinned], laidTests := true, laidLooks := .later }
def LevelCurvesMatchSpecCardSaid : Prop := Claim7.holds Tryd.pinned (.plain (OpenSpec.ofChange levelCurvesMatchSpecSpec)) levelCurvesMatchSpecCard

/-- THE TIED CARD OF 'cycloramalaw1.LevelTextsMatchSpec'. -/
def levelTextsMatchSpecCard : Claim7 := { stood := { row := levelTextsMatchSpecRow, standIns := [], harness := (true, "e36ee475d1c0605d00edd283738db3c1c2c127ebe2ce6c5376e9a41b3e150c7a"), looks := true }, kinds := [], alts := [], laidByText := true, laidKinds := [.data, .data, .data, .data, .sentinel, .sentinel, .pinned], laidTests := true, laidLooks := .later }
def LevelTextsMatchSpecCardSaid : Prop := Claim7.holds Tryd.pinned (.plain (OpenSpec.ofChange levelTextsMatchSpecSpec)) levelTextsMatchSpecCard

/-- THE TIED CARD OF 'cycloramalaw1.LevelTimesMatchSpec'. -/
def levelTimesMatchSpecCard : Claim7 := { stood := { row := levelTimesMatchSpecRow, standIns := [], harness := (true, "e36ee475d1c0605d00edd283738db3c1c2c127ebe2ce6c5376e9a41b3e150c7a"), looks := true }, kinds := [], alts := [], laidByText := true, laidKinds := [.data, .data, .data, .data, .sentinel, .sentinel, .pinned], laidTests := true, laidLooks := .later }
def LevelTimesMatchSpecCardSaid : Prop := Claim7.holds Tryd.pinned (.plain (OpenSpec.ofChange levelTimesMatchSpecSpec)) levelTimesMatchSpecCard

/-- THE TIED CARD OF 'cycloramalaw1.LevelTurnsGoOn'. -/
def levelTurnsGoOnCard : Claim7 := { stood := { row := levelTurnsGoOnRow, standIns := [], harness := (true, "e36ee475d1c0605d00edd283738db3c1c2c127ebe2ce6c5376e9a41b3e150c7a"), looks := true }, kinds := [], alts := [], laidByText := true, laidKinds := [.data, .data, .data, .data, .sentinel, .sentinel, .pinned], laidTests := true, laidLooks := .later }
def LevelTurnsGoOnCardSaid : Prop := Claim7.holds Tryd.pinned (.plain (OpenSpec.ofChange levelTurnsGoOnSpec)) levelTurnsGoOnCard

/-- THE TIED CARD OF 'cycloramalaw1.LevelReachIsFirst'. -/
def levelReachIsFirstCard : Claim7 := { stood := { row := levelReachIsFirstRow, standIns := [], harness := (true, "e36ee475d1c0605d00edd283738db3c1c2c127ebe2ce6c5376e9a41b3e150c7a"), looks := true }, kinds := [], alts := [], laidByText := true, laidKinds := [.data, .data, .data, .data, .sentinel, .sentinel, .pinned], laidTests := true, laidLooks := .later }
def LevelReachIsFirstCardSaid : Prop := Claim7.holds Tryd.pinned (.plain (OpenSpec.ofChange levelReachIsFirstSpec)) levelReachIsFirstCard

/-- THE SECOND FORM's CARD OF 'cycloramalaw1.LevelTextsComeBack'. -/
def levelTextsComeBackUptoCard : Claim7 := { stood := { row := levelTextsComeBackUptoRow, standIns := [], harness := (true, "e36ee475d1c0605d00edd283738db3c1c2c127ebe2ce6c5376e9a41b3e150c7a"), looks := true }, kinds := [], alts := [], laidByText := true, laidKinds := [.data, .data, .data, .data, .sentinel, .sentinel, .pinned], laidTests := true, laidLooks := .later }
def LevelTextsComeBackUptoCardSaid : Prop := Claim7.holds Tryd.pinned (.plain (OpenSpec.upto levelTextsComeBackSpec)) levelTextsComeBackUptoCard

/-- THE SECOND FORM's CARD OF 'cycloramalaw1.LevelTimesComeBack'. -/
def levelTimesComeBackUptoCard : Claim7 := { stood := { row := levelTimesComeBackUptoRow, standIns := [], harness := (true, "e36ee475d1c0605d00edd283738db3c1c2c127ebe2ce6c5376e9a41b3e150c7a"), looks := true }, kinds := [], alts := [], laidByText := true, laidKinds := [.data, .data, .data, .data, .sentinel, .sentinel, .pinned], laidTests := true, laidLooks := .later }
def LevelTimesComeBackUptoCardSaid : Prop := Claim7.holds Tryd.pinned (.plain (OpenSpec.upto levelTimesComeBackSpec)) levelTimesComeBackUptoCard

/-- THE SECOND FORM's CARD OF 'cycloramalaw1.LevelCurvesComeBack'. -/
def levelCurvesComeBackUptoCard : Claim7 := { stood := { row := levelCurvesComeBackUptoRow, standIns := [], harness := (true, "e36ee475d1c0605d00edd283738db3c1c2c127ebe2ce6c5376e9a41b3e150c7a"), looks := true }, kinds := [], alts := [], laidByText := true, laidKinds := [.data, .data, .data, .data, .sentinel, .sentinel, .pinned], laidTests := true, laidLooks := .later }
def LevelCurvesComeBackUptoCardSaid : Prop := Claim7.holds Tryd.pinned (.plain (OpenSpec.upto levelCurvesComeBackSpec)) levelCurvesComeBackUptoCard

/-- THE SECOND FORM's CARD OF 'cycloramalaw1.LevelCurvesMatchSpec'. -/
def levelCurvesMatchSpecUptoCard : Claim7 := { stood := { row := levelCurvesMatchSpecUptoRow, standIns := [], harness := (true, "e36ee475d1c0605d00edd283738db3c1c2c127ebe2ce6c5376e9a41b3e150c7a"), looks := true }, kinds := [], alts := [], laidByText := true, laidKinds := [.data, .data, .data, .data, .sentinel, .sentinel, .pinned], laidTests := true, laidLooks := .later }
def LevelCurvesMatchSpecUptoCardSaid : Prop := Claim7.holds Tryd.pinned (.plain (OpenSpec.upto levelCurvesMatchSpecSpec)) levelCurvesMatchSpecUptoCard

/-- THE SECOND FORM's CARD OF 'cycloramalaw1.LevelTextsMatchSpec'. -/
def levelTextsMatchSpecUptoCard : Claim7 := { stood := { row := levelTextsMatchSpecUptoRow, standIns := [], harness := (true, "e36ee475d1c0605d00edd283738db3c1c2c127ebe2ce6c5376e9a41b3e150c7a"), looks := true }, kinds := [], alts := [], laidByText := true, laidKinds := [.data, .data, .data, .data, .sentinel, .sentinel, .pinned], laidTests := true, laidLooks := .later }
def LevelTextsMatchSpecUptoCardSaid : Prop := Claim7.holds Tryd.pinned (.plain (OpenSpec.upto levelTextsMatchSpecSpec)) levelTextsMatchSpecUptoCard

/-- THE SECOND FORM's CARD OF 'cycloramalaw1.LevelTimesMatchSpec'. -/
def levelTimesMatchSpecUptoCard : Claim7 := { stood := { row := levelTimesMatchSpecUptoRow, standIns := [], harness := (true, "e36ee475d1c0605d00edd283738db3c1c2c127ebe2ce6c5376e9a41b3e150c7a"), looks := true }, kinds := [], alts := [], laidByText := true, laidKinds := [.data, .data, .data, .data, .sentinel, .sentinel, .pinned], laidTests := true, laidLooks := .later }
def LevelTimesMatchSpecUptoCardSaid : Prop := Claim7.holds Tryd.pinned (.plain (OpenSpec.upto levelTimesMatchSpecSpec)) levelTimesMatchSpecUptoCard

/-- THE SECOND FORM's CARD OF 'cycloramalaw1.LevelTurnsGoOn'. -/
def levelTurnsGoOnUptoCard : Claim7 := { stood := { row := levelTurnsGoOnUptoRow, standIns := [], harness := (true, "e36ee475d1c0605d00edd283738db3c1c2c127ebe2ce6c5376e9a41b3e150c7a"), looks := true }, kinds := [], alts := [], laidByText := true, laidKinds := [.data, .data, .data, .data, .sentinel, .sentinel, .pinned], laidTests := true, laidLooks := .later }
def LevelTurnsGoOnUptoCardSaid : Prop := Claim7.holds Tryd.pinned (.plain (OpenSpec.upto levelTurnsGoOnSpec)) levelTurnsGoOnUptoCard

/-- THE SECOND FORM's CARD OF 'cycloramalaw1.LevelReachIsFirst'. -/
def levelReachIsFirstUptoCard : Claim7 := { stood := { row := levelReachIsFirstUptoRow, standIns := [], harness := (true, "e36ee475d1c0605d00edd283738db3c1c2c127ebe2ce6c5376e9a41b3e150c7a"), looks := true }, kinds := [], alts := [], laidByText := true, laidKinds := [.data, .data, .data, .data, .sentinel, .sentinel, .pinned], laidTests := true, laidLooks := .later }
def LevelReachIsFirstUptoCardSaid : Prop := Claim7.holds Tryd.pinned (.plain (OpenSpec.upto levelReachIsFirstSpec)) levelReachIsFirstUptoCard
end Rows
end Go.Proofs.YtdicoggpcobbpaaDoor
