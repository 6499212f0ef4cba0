/-
  No cell of these rows narrows 'for every input' (looked for: loops, veiled, ifaces, maps, wideKeys, modest, calm, conditions, laid).
  DERIVED. THE GIVEN ROWS OF THIS SEAT. 11 by the template 'for every input the law returns true; each argument reads behind the call as it read before'; 0 by the template 'total and deterministic' (their statements: YthoiamaomhggiaaTotals.lean).
  GIVEN WITH THE SEED: the statements are not yours to turn. If you find one false, say at which input.
  Laid BY PROGRAM, IN A SANDBOX (cutbox-rows.mjs): the forced cells as the released guide's own fill.sh prints them over the translation e2ba603676a18ea3… (all of the seat's roots in one cut). By AI agents, Wed Nov 11 2026. No macro, syntax, notation, axiom, sorry.
-/
import Derived.Test.YthoiamaomhggiaaChecked
import GoSem.Claim
import GoSem.ClaimJoined
import GoSem.ClaimMapViews
import Derived.JoinedTies
import Derived.KernelRfl
namespace Go.Proofs.Ythoiamaomhggiaa
/- THE CELL 'sum', in the pinned program and in every row, IS THE sha256 OF THE DUMP (.gsa) THAT YthoiamaomhggiaaProg.lean LOADS. Nothing in Lean hashes anything: it is a label: what it is worth is what the hold of that sum in a sandbox is worth. -/
noncomputable def Try.pinned : Pinned := { name := "ythoiamaomhggiaa", sum := "e2ba603676a18ea3e7e40822e4e3a4785a042addf59b9b8c1660b5b45f25e7a2", checked := Try.checked }
namespace Rows
def none {H : Type} : Left H := { results := [], args := [] }

/-- 'cycloramalaw1.LevelOctetsComeBack': WHATEVER THE INPUT: true; the input reads as it did. -/
def levelOctetsComeBackSpec : ChangeSpec := { name := "levelOctetsComeBack", fn := fun _ => fun
  | [d] => { results := [.lit (.bool true)], args := [d] }
  | _ => none }
def levelOctetsComeBackRow : OpenClaim := { program := "ythoiamaomhggiaa", sum := "e2ba603676a18ea3e7e40822e4e3a4785a042addf59b9b8c1660b5b45f25e7a2", func := "cyclorama/cycloramalaw1.LevelOctetsComeBack", spec := "levelOctetsComeBack", apart := false }
def LevelOctetsComeBackSaid : Prop := levelOctetsComeBackRow.holds Try.pinned (OpenSpec.ofChange levelOctetsComeBackSpec)

/-- ITS FALSE NEIGHBOUR: 'it returns false'. Refute it at one input. -/
def levelOctetsComeBackWrong : ChangeSpec := { name := "levelOctetsComeBack", fn := fun _ => fun
  | [d] => { results := [.lit (.bool false)], args := [d] }
  | _ => none }
def LevelOctetsComeBackWrongFalsely : Prop := levelOctetsComeBackRow.holds Try.pinned (OpenSpec.ofChange levelOctetsComeBackWrong)

/-- 'cycloramalaw1.LevelScalesAreScales': WHATEVER THE INPUT: true; the input reads as it did. -/
def levelScalesAreScalesSpec : ChangeSpec := { name := "levelScalesAreScales", fn := fun _ => fun
  | [d1, d2, d3] => { results := [.lit (.bool true)], args := [d1, d2, d3] }
  | _ => none }
def levelScalesAreScalesRow : OpenClaim := { program := "ythoiamaomhggiaa", sum := "e2ba603676a18ea3e7e40822e4e3a4785a042addf59b9b8c1660b5b45f25e7a2", func := "cyclorama/cycloramalaw1.LevelScalesAreScales", spec := "levelScalesAreScales", apart := false }
def LevelScalesAreScalesSaid : Prop := levelScalesAreScalesRow.holds Try.pinned (OpenSpec.ofChange levelScalesAreScalesSpec)

/-- ITS FALSE NEIGHBOUR: 'it returns false'. Refute it at one input. -/
def levelScalesAreScalesWrong : ChangeSpec := { name := "levelScalesAreScales", fn := fun _ => fun
  | [d1, d2, d3] => { results := [.lit (.bool false)], args := [d1, d2, d3] }
  | _ => none }
def LevelScalesAreScalesWrongFalsely : Prop := levelScalesAreScalesRow.holds Try.pinned (OpenSpec.ofChange levelScalesAreScalesWrong)

/-- 'cycloramalaw1.LevelSumsMatchSpec': WHATEVER THE INPUT: true; the input reads as it did. -/
def levelSumsMatchSpecSpec : ChangeSpec := { name := "levelSumsMatchSpec", fn := fun _ => fun
  | [d1, d2, d3, d4, d5] => { results := [.lit (.bool true)], args := [d1, d2, d3, d4, d5] }
  | _ => none }
def levelSumsMatchSpecRow : OpenClaim := { program := "ythoiamaomhggiaa", sum := "e2ba603676a18ea3e7e40822e4e3a4785a042addf59b9b8c1660b5b45f25e7a2", func := "cyclorama/cycloramalaw1.LevelSumsMatchSpec", spec := "levelSumsMatchSpec", apart := false }
def LevelSumsMatchSpecSaid : Prop := levelSumsMatchSpecRow.holds Try.pinned (OpenSpec.ofChange levelSumsMatchSpecSpec)

/-- ITS FALSE NEIGHBOUR: 'it returns false'. Refute it at one input. -/
def levelSumsMatchSpecWrong : ChangeSpec := { name := "levelSumsMatchSpec", fn := fun _ => fun
  | [d1, d2, d3, d4, d5] => { results := [.lit (.bool false)], args := [d1, d2, d3, d4, d5] }
  | _ => none }
def LevelSumsMatchSpecWrongFalsely : Prop := levelSumsMatchSpecRow.holds Try.pinned (OpenSpec.ofChange levelSumsMatchSpecWrong)

/-- 'cycloramalaw1.LevelSpreadsMatchSpec': WHATEVER THE INPUT: true; the input reads as it did. -/
def levelSpreadsMatchSpecSpec : ChangeSpec := { name := "levelSpreadsMatchSpec", fn := fun _ => fun
  | [d1, d2] => { results := [.lit (.bool true)], args := [d1, d2] }
  | _ => none }
def levelSpreadsMatchSpecRow : OpenClaim := { program := "ythoiamaomhggiaa", sum := "e2ba603676a18ea3e7e40822e4e3a4785a042addf59b9b8c1660b5b45f25e7a2", func := "cyclorama/cycloramalaw1.LevelSpreadsMatchSpec", spec := "levelSpreadsMatchSpec", apart := false }
def LevelSpreadsMatchSpecSaid : Prop := levelSpreadsMatchSpecRow.holds Try.pinned (OpenSpec.ofChange levelSpreadsMatchSpecSpec)

/-- ITS FALSE NEIGHBOUR: 'it returns false'. Refute it at one input. -/
def levelSpreadsMatchSpecWrong : ChangeSpec := { name := "levelSpreadsMatchSpec", fn := fun _ => fun
  | [d1, d2] => { results := [.lit (.bool false)], args := [d1, d2] }
  | _ => none }
def LevelSpreadsMatchSpecWrongFalsely : Prop := levelSpreadsMatchSpecRow.holds Try.pinned (OpenSpec.ofChange levelSpreadsMatchSpecWrong)

/-- 'cycloramalaw1.LevelEasesMatchSpec': WHATEVER THE INPUT: true; the input reads as it did. -/
def levelEasesMatchSpecSpec : ChangeSpec := { name := "levelEasesMatchSpec", fn := fun _ => fun
  | [d1, d2, d3] => { results := [.lit (.bool true)], args := [d1, d2, d3] }
  | _ => none }
def levelEasesMatchSpecRow : OpenClaim := { program := "ythoiamaomhggiaa", sum := "e2ba603676a18ea3e7e40822e4e3a4785a042addf59b9b8c1660b5b45f25e7a2", func := "cyclorama/cycloramalaw1.LevelEasesMatchSpec", spec := "levelEasesMatchSpec", inPlace := ["math/bits.Add64"], apart := false }
def LevelEasesMatchSpecSaid : Prop := levelEasesMatchSpecRow.holds Try.pinned (OpenSpec.ofChange levelEasesMatchSpecSpec)

/-- ITS FALSE NEIGHBOUR: 'it returns false'. Refute it at one input. -/
def levelEasesMatchSpecWrong : ChangeSpec := { name := "levelEasesMatchSpec", fn := fun _ => fun
  | [d1, d2, d3] => { results := [.lit (.bool false)], args := [d1, d2, d3] }
  | _ => none }
def LevelEasesMatchSpecWrongFalsely : Prop := levelEasesMatchSpecRow.holds Try.pinned (OpenSpec.ofChange levelEasesMatchSpecWrong)

/-- 'cycloramalaw1.LevelInversesGoBack': WHATEVER THE INPUT: true; the input reads as it did. -/
def levelInversesGoBackSpec : ChangeSpec := { name := "levelInversesGoBack", fn := fun _ => fun
  | [d1, d2, d3] => { results := [.lit (.bool true)], args := [d1, d2, d3] }
  | _ => none }
def levelInversesGoBackRow : OpenClaim := { program := "ythoiamaomhggiaa", sum := "e2ba603676a18ea3e7e40822e4e3a4785a042addf59b9b8c1660b5b45f25e7a2", func := "cyclorama/cycloramalaw1.LevelInversesGoBack", spec := "levelInversesGoBack", inPlace := ["math/bits.Add64"], apart := false }
def LevelInversesGoBackSaid : Prop := levelInversesGoBackRow.holds Try.pinned (OpenSpec.ofChange levelInversesGoBackSpec)

/-- ITS FALSE NEIGHBOUR: 'it returns false'. Refute it at one input. -/
def levelInversesGoBackWrong : ChangeSpec := { name := "levelInversesGoBack", fn := fun _ => fun
  | [d1, d2, d3] => { results := [.lit (.bool false)], args := [d1, d2, d3] }
  | _ => none }
def LevelInversesGoBackWrongFalsely : Prop := levelInversesGoBackRow.holds Try.pinned (OpenSpec.ofChange levelInversesGoBackWrong)

/-- 'cycloramalaw1.LevelFadesGoOneWay': WHATEVER THE INPUT: true; the input reads as it did. -/
def levelFadesGoOneWaySpec : ChangeSpec := { name := "levelFadesGoOneWay", fn := fun _ => fun
  | [d1, d2, d3] => { results := [.lit (.bool true)], args := [d1, d2, d3] }
  | _ => none }
def levelFadesGoOneWayRow : OpenClaim := { program := "ythoiamaomhggiaa", sum := "e2ba603676a18ea3e7e40822e4e3a4785a042addf59b9b8c1660b5b45f25e7a2", func := "cyclorama/cycloramalaw1.LevelFadesGoOneWay", spec := "levelFadesGoOneWay", inPlace := ["math/bits.Add64"], apart := false }
def LevelFadesGoOneWaySaid : Prop := levelFadesGoOneWayRow.holds Try.pinned (OpenSpec.ofChange levelFadesGoOneWaySpec)

/-- ITS FALSE NEIGHBOUR: 'it returns false'. Refute it at one input. -/
def levelFadesGoOneWayWrong : ChangeSpec := { name := "levelFadesGoOneWay", fn := fun _ => fun
  | [d1, d2, d3] => { results := [.lit (.bool false)], args := [d1, d2, d3] }
  | _ => none }
def LevelFadesGoOneWayWrongFalsely : Prop := levelFadesGoOneWayRow.holds Try.pinned (OpenSpec.ofChange levelFadesGoOneWayWrong)

/-- 'cycloramalaw1.LevelTurnsMatchSpec': WHATEVER THE INPUT: true; the input reads as it did. -/
def levelTurnsMatchSpecSpec : ChangeSpec := { name := "levelTurnsMatchSpec", fn := fun _ => fun
  | [d1, d2, d3, d4, d5, d6] => { results := [.lit (.bool true)], args := [d1, d2, d3, d4, d5, d6] }
  | _ => none }
def levelTurnsMatchSpecRow : OpenClaim := { program := "ythoiamaomhggiaa", sum := "e2ba603676a18ea3e7e40822e4e3a4785a042addf59b9b8c1660b5b45f25e7a2", func := "cyclorama/cycloramalaw1.LevelTurnsMatchSpec", spec := "levelTurnsMatchSpec", inPlace := ["math/bits.Add64"], apart := false }
def LevelTurnsMatchSpecSaid : Prop := levelTurnsMatchSpecRow.holds Try.pinned (OpenSpec.ofChange levelTurnsMatchSpecSpec)

/-- ITS FALSE NEIGHBOUR: 'it returns false'. Refute it at one input. -/
def levelTurnsMatchSpecWrong : ChangeSpec := { name := "levelTurnsMatchSpec", fn := fun _ => fun
  | [d1, d2, d3, d4, d5, d6] => { results := [.lit (.bool false)], args := [d1, d2, d3, d4, d5, d6] }
  | _ => none }
def LevelTurnsMatchSpecWrongFalsely : Prop := levelTurnsMatchSpecRow.holds Try.pinned (OpenSpec.ofChange levelTurnsMatchSpecWrong)

/-- 'cycloramalaw1.LevelChangesMatchSpec': WHATEVER THE INPUT: true; the input reads as it did. -/
def levelChangesMatchSpecSpec : ChangeSpec := { name := "levelChangesMatchSpec", fn := fun _ => fun
  | [d] => { results := [.lit (.bool true)], args := [d] }
  | _ => none }
def levelChangesMatchSpecRow : OpenClaim := { program := "ythoiamaomhggiaa", sum := "e2ba603676a18ea3e7e40822e4e3a4785a042addf59b9b8c1660b5b45f25e7a2", func := "cyclorama/cycloramalaw1.LevelChangesMatchSpec", spec := "levelChangesMatchSpec", inPlace := ["math/bits.Add64"], unfollowed := true, recurses := true, apart := false }
def LevelChangesMatchSpecSaid : Prop := levelChangesMatchSpecRow.holds Try.pinned (OpenSpec.ofChange levelChangesMatchSpecSpec)

/-- ITS FALSE NEIGHBOUR: 'it returns false'. Refute it at one input. -/
def levelChangesMatchSpecWrong : ChangeSpec := { name := "levelChangesMatchSpec", fn := fun _ => fun
  | [d] => { results := [.lit (.bool false)], args := [d] }
  | _ => none }
def LevelChangesMatchSpecWrongFalsely : Prop := levelChangesMatchSpecRow.holds Try.pinned (OpenSpec.ofChange levelChangesMatchSpecWrong)

/-- 'cycloramalaw1.LevelChangesAreTheFade': WHATEVER THE INPUT: true; the input reads as it did. -/
def levelChangesAreTheFadeSpec : ChangeSpec := { name := "levelChangesAreTheFade", fn := fun _ => fun
  | [d1, d2] => { results := [.lit (.bool true)], args := [d1, d2] }
  | _ => none }
def levelChangesAreTheFadeRow : OpenClaim := { program := "ythoiamaomhggiaa", sum := "e2ba603676a18ea3e7e40822e4e3a4785a042addf59b9b8c1660b5b45f25e7a2", func := "cyclorama/cycloramalaw1.LevelChangesAreTheFade", spec := "levelChangesAreTheFade", inPlace := ["math/bits.Add64"], unfollowed := true, recurses := true, apart := false }
def LevelChangesAreTheFadeSaid : Prop := levelChangesAreTheFadeRow.holds Try.pinned (OpenSpec.ofChange levelChangesAreTheFadeSpec)

/-- ITS FALSE NEIGHBOUR: 'it returns false'. Refute it at one input. -/
def levelChangesAreTheFadeWrong : ChangeSpec := { name := "levelChangesAreTheFade", fn := fun _ => fun
  | [d1, d2] => { results := [.lit (.bool false)], args := [d1, d2] }
  | _ => none }
def LevelChangesAreTheFadeWrongFalsely : Prop := levelChangesAreTheFadeRow.holds Try.pinned (OpenSpec.ofChange levelChangesAreTheFadeWrong)

/-- 'cycloramalaw1.LevelFadesMatchSpec': WHATEVER THE INPUT: true; the input reads as it did. -/
def levelFadesMatchSpecSpec : ChangeSpec := { name := "levelFadesMatchSpec", fn := fun _ => fun
  | [d1, d2, d3] => { results := [.lit (.bool true)], args := [d1, d2, d3] }
  | _ => none }
def levelFadesMatchSpecRow : OpenClaim := { program := "ythoiamaomhggiaa", sum := "e2ba603676a18ea3e7e40822e4e3a4785a042addf59b9b8c1660b5b45f25e7a2", func := "cyclorama/cycloramalaw1.LevelFadesMatchSpec", spec := "levelFadesMatchSpec", inPlace := ["math/bits.Add64"], unfollowed := true, recurses := true, apart := false }
def LevelFadesMatchSpecSaid : Prop := levelFadesMatchSpecRow.holds Try.pinned (OpenSpec.ofChange levelFadesMatchSpecSpec)

/-- ITS FALSE NEIGHBOUR: 'it returns false'. Refute it at one input. -/
def levelFadesMatchSpecWrong : ChangeSpec := { name := "levelFadesMatchSpec", fn := fun _ => fun
  | [d1, d2, d3] => { results := [.lit (.bool false)], args := [d1, d2, d3] }
  | _ => none }
def LevelFadesMatchSpecWrongFalsely : Prop := levelFadesMatchSpecRow.holds Try.pinned (OpenSpec.ofChange levelFadesMatchSpecWrong)

/- THE SECOND FORM. 'bulk': how many values and letters a reading holds, each counted each time it is reached (what is shared counts as often as it is met; a slice's spare places count too). A statement '..UptoSaid' is the law's where the arguments, and the package variables that the reading takes, are together of bulk at most 1048576: NARROWER than '..Said'. Prove '..Said' where nothing that the law and all that it calls make is longer than what came in: it says more and counts as full. Else prove '..UptoSaid'. A law counts once. -/
mutual
def uptoBulk {H : Type} : DataW H → Nat
  | .lit (.string bytes) => bytes.length + 1
  | .lit _ => 1
  | .nil => 1
  | .ptr d => uptoBulk d + 1
  | .slice elems spare => uptoBulkAll elems + uptoBulkAll spare + 1
  | .agg parts => uptoBulkAll parts + 1
  | .iface _ d => uptoBulk d + 1
  | .map entries => uptoBulkEntries entries + 1
  | .held _ => 1
def uptoBulkAll {H : Type} : List (DataW H) → Nat
  | [] => 0
  | d :: r => uptoBulk d + uptoBulkAll r
def uptoBulkEntries {H : Type} : List (Lit × DataW H) → Nat
  | [] => 0
  | x :: r => uptoBulkEntry x + uptoBulkEntries r
def uptoBulkEntry {H : Type} : Lit × DataW H → Nat
  | (.string bytes, d) => bytes.length + uptoBulk d + 1
  | (_, d) => uptoBulk d + 1
 end
def uptoSmall : (H : Type) → List (DataW H) → Bool := fun _ ds => decide (uptoBulkAll ds ≤ 1048576)
def OpenSpec.upto (s : _root_.Go.ChangeSpec) : _root_.Go.OpenSpec := { _root_.Go.OpenSpec.ofChange s with cond := some uptoSmall }

/-- 'cycloramalaw1.LevelOctetsComeBack', WHERE WHAT IT READS IS OF BULK AT MOST 1048576: true; the input reads as it did. -/
def levelOctetsComeBackUptoRow : OpenClaim := { program := "ythoiamaomhggiaa", sum := "e2ba603676a18ea3e7e40822e4e3a4785a042addf59b9b8c1660b5b45f25e7a2", func := "cyclorama/cycloramalaw1.LevelOctetsComeBack", spec := "levelOctetsComeBack", apart := false, narrowed := true }
def LevelOctetsComeBackUptoSaid : Prop := levelOctetsComeBackUptoRow.holds Try.pinned (OpenSpec.upto levelOctetsComeBackSpec)

/-- 'cycloramalaw1.LevelScalesAreScales', WHERE WHAT IT READS IS OF BULK AT MOST 1048576: true; the input reads as it did. -/
def levelScalesAreScalesUptoRow : OpenClaim := { program := "ythoiamaomhggiaa", sum := "e2ba603676a18ea3e7e40822e4e3a4785a042addf59b9b8c1660b5b45f25e7a2", func := "cyclorama/cycloramalaw1.LevelScalesAreScales", spec := "levelScalesAreScales", apart := false, narrowed := true }
def LevelScalesAreScalesUptoSaid : Prop := levelScalesAreScalesUptoRow.holds Try.pinned (OpenSpec.upto levelScalesAreScalesSpec)

/-- 'cycloramalaw1.LevelSumsMatchSpec', WHERE WHAT IT READS IS OF BULK AT MOST 1048576: true; the input reads as it did. -/
def levelSumsMatchSpecUptoRow : OpenClaim := { program := "ythoiamaomhggiaa", sum := "e2ba603676a18ea3e7e40822e4e3a4785a042addf59b9b8c1660b5b45f25e7a2", func := "cyclorama/cycloramalaw1.LevelSumsMatchSpec", spec := "levelSumsMatchSpec", apart := false, narrowed := true }
def LevelSumsMatchSpecUptoSaid : Prop := levelSumsMatchSpecUptoRow.holds Try.pinned (OpenSpec.upto levelSumsMatchSpecSpec)

/-- 'cycloramalaw1.LevelSpreadsMatchSpec', WHERE WHAT IT READS IS OF BULK AT MOST 1048576: true; the input reads as it did. -/
def levelSpreadsMatchSpecUptoRow : OpenClaim := { program := "ythoiamaomhggiaa", sum := "e2ba603676a18ea3e7e40822e4e3a4785a042addf59b9b8c1660b5b45f25e7a2", func := "cyclorama/cycloramalaw1.LevelSpreadsMatchSpec", spec := "levelSpreadsMatchSpec", apart := false, narrowed := true }
def LevelSpreadsMatchSpecUptoSaid : Prop := levelSpreadsMatchSpecUptoRow.holds Try.pinned (OpenSpec.upto levelSpreadsMatchSpecSpec)

/-- 'cycloramalaw1.LevelEasesMatchSpec', WHERE WHAT IT READS IS OF BULK AT MOST 1048576: true; the input reads as it did. -/
def levelEasesMatchSpecUptoRow : OpenClaim := { program := "ythoiamaomhggiaa", sum := "e2ba603676a18ea3e7e40822e4e3a4785a042addf59b9b8c1660b5b45f25e7a2", func := "cyclorama/cycloramalaw1.LevelEasesMatchSpec", spec := "levelEasesMatchSpec", inPlace := ["math/bits.Add64"], apart := false, narrowed := true }
def LevelEasesMatchSpecUptoSaid : Prop := levelEasesMatchSpecUptoRow.holds Try.pinned (OpenSpec.upto levelEasesMatchSpecSpec)

/-- 'cycloramalaw1.LevelInversesGoBack', WHERE WHAT IT READS IS OF BULK AT MOST 1048576: true; the input reads as it did. -/
def levelInversesGoBackUptoRow : OpenClaim := { program := "ythoiamaomhggiaa", sum := "e2ba603676a18ea3e7e40822e4e3a4785a042addf59b9b8c1660b5b45f25e7a2", func := "cyclorama/cycloramalaw1.LevelInversesGoBack", spec := "levelInversesGoBack", inPlace := ["math/bits.Add64"], apart := false, narrowed := true }
def LevelInversesGoBackUptoSaid : Prop := levelInversesGoBackUptoRow.holds Try.pinned (OpenSpec.upto levelInversesGoBackSpec)

/-- 'cycloramalaw1.LevelFadesGoOneWay', WHERE WHAT IT READS IS OF BULK AT MOST 1048576: true; the input reads as it did. -/
def levelFadesGoOneWayUptoRow : OpenClaim := { program := "ythoiamaomhggiaa", sum := "e2ba603676a18ea3e7e40822e4e3a4785a042addf59b9b8c1660b5b45f25e7a2", func := "cyclorama/cycloramalaw1.LevelFadesGoOneWay", spec := "levelFadesGoOneWay", inPlace := ["math/bits.Add64"], apart := false, narrowed := true }
def LevelFadesGoOneWayUptoSaid : Prop := levelFadesGoOneWayUptoRow.holds Try.pinned (OpenSpec.upto levelFadesGoOneWaySpec)

/-- 'cycloramalaw1.LevelTurnsMatchSpec', WHERE WHAT IT READS IS OF BULK AT MOST 1048576: true; the input reads as it did. -/
def levelTurnsMatchSpecUptoRow : OpenClaim := { program := "ythoiamaomhggiaa", sum := "e2ba603676a18ea3e7e40822e4e3a4785a042addf59b9b8c1660b5b45f25e7a2", func := "cyclorama/cycloramalaw1.LevelTurnsMatchSpec", spec := "levelTurnsMatchSpec", inPlace := ["math/bits.Add64"], apart := false, narrowed := true }
def LevelTurnsMatchSpecUptoSaid : Prop := levelTurnsMatchSpecUptoRow.holds Try.pinned (OpenSpec.upto levelTurnsMatchSpecSpec)

/-- 'cycloramalaw1.LevelChangesMatchSpec', WHERE WHAT IT READS IS OF BULK AT MOST 1048576: true; the input reads as it did. -/
def levelChangesMatchSpecUptoRow : OpenClaim := { program := "ythoiamaomhggiaa", sum := "e2ba603676a18ea3e7e40822e4e3a4785a042addf59b9b8c1660b5b45f25e7a2", func := "cyclorama/cycloramalaw1.LevelChangesMatchSpec", spec := "levelChangesMatchSpec", inPlace := ["math/bits.Add64"], unfollowed := true, recurses := true, apart := false, narrowed := true }
def LevelChangesMatchSpecUptoSaid : Prop := levelChangesMatchSpecUptoRow.holds Try.pinned (OpenSpec.upto levelChangesMatchSpecSpec)

/-- 'cycloramalaw1.LevelChangesAreTheFade', WHERE WHAT IT READS IS OF BULK AT MOST 1048576: true; the input reads as it did. -/
def levelChangesAreTheFadeUptoRow : OpenClaim := { program := "ythoiamaomhggiaa", sum := "e2ba603676a18ea3e7e40822e4e3a4785a042addf59b9b8c1660b5b45f25e7a2", func := "cyclorama/cycloramalaw1.LevelChangesAreTheFade", spec := "levelChangesAreTheFade", inPlace := ["math/bits.Add64"], unfollowed := true, recurses := true, apart := false, narrowed := true }
def LevelChangesAreTheFadeUptoSaid : Prop := levelChangesAreTheFadeUptoRow.holds Try.pinned (OpenSpec.upto levelChangesAreTheFadeSpec)

/-- 'cycloramalaw1.LevelFadesMatchSpec', WHERE WHAT IT READS IS OF BULK AT MOST 1048576: true; the input reads as it did. -/
def levelFadesMatchSpecUptoRow : OpenClaim := { program := "ythoiamaomhggiaa", sum := "e2ba603676a18ea3e7e40822e4e3a4785a042addf59b9b8c1660b5b45f25e7a2", func := "cyclorama/cycloramalaw1.LevelFadesMatchSpec", spec := "levelFadesMatchSpec", inPlace := ["math/bits.Add64"], unfollowed := true, recurses := true, apart := false, narrowed := true }
def LevelFadesMatchSpecUptoSaid : Prop := levelFadesMatchSpecUptoRow.holds Try.pinned (OpenSpec.upto levelFadesMatchSpecSpec)

end Rows
end Go.Proofs.Ythoiamaomhggiaa
