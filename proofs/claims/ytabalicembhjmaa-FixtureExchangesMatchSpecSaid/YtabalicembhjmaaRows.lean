/-
  No cell of these rows narrows 'for every input' (looked for: loops, veiled, ifaces, maps, wideKeys, modest, calm, conditions, laid).
  DERIVED. THE GIVEN ROWS OF THIS SEAT. 7 by the template 'for every input the law returns true; each argument reads behind the call as it read before'; 0 by the template 'total and deterministic' (their statements: YtabalicembhjmaaTotals.lean).
  GIVEN WITH THE SEED: the statements are not yours to turn. If you find one false, say at which input.
  Laid BY PROGRAM, IN A SANDBOX (cutbox-rows.mjs): the forced cells as the released guide's own fill.sh prints them over the translation 5d299cc894a62034… (all of the seat's roots in one cut). By AI agents, Wed Nov 11 2026. No macro, syntax, notation, axiom, sorry.
-/
import Derived.Test.YtabalicembhjmaaChecked
import GoSem.Claim
import GoSem.ClaimJoined
import GoSem.ClaimMapViews
import Derived.JoinedTies
import Derived.KernelRfl
namespace Go.Proofs.Ytabalicembhjmaa
/- THE CELL 'sum', in the pinned program and in every row, IS THE sha256 OF THE DUMP (.gsa) THAT YtabalicembhjmaaProg.lean LOADS. Nothing in Lean hashes anything: it is a label: what it is worth is what the hold of that sum in a sandbox is worth. -/
noncomputable def Try.pinned : Pinned := { name := "ytabalicembhjmaa", sum := "5d299cc894a6203459ce3003ac5b3f62a14e4cef607ca6f611a2ba1dd55db871", checked := Try.checked }
namespace Rows
def none {H : Type} : Left H := { results := [], args := [] }

/-- 'cycloramalaw2.FixtureSettingsMatchSpec': WHATEVER THE INPUT: true; the input reads as it did. -/
def fixtureSettingsMatchSpecSpec : ChangeSpec := { name := "fixtureSettingsMatchSpec", fn := fun _ => fun
  | [d1, d2] => { results := [.lit (.bool true)], args := [d1, d2] }
  | _ => none }
def fixtureSettingsMatchSpecRow : OpenClaim := { program := "ytabalicembhjmaa", sum := "5d299cc894a6203459ce3003ac5b3f62a14e4cef607ca6f611a2ba1dd55db871", func := "cyclorama/cycloramalaw2.FixtureSettingsMatchSpec", spec := "fixtureSettingsMatchSpec", unfollowed := true, recurses := true, plainKeys := false, apart := false }
def FixtureSettingsMatchSpecSaid : Prop := fixtureSettingsMatchSpecRow.holds Try.pinned (OpenSpec.ofChange fixtureSettingsMatchSpecSpec)

/-- ITS FALSE NEIGHBOUR: 'it returns false'. Refute it at one input. -/
def fixtureSettingsMatchSpecWrong : ChangeSpec := { name := "fixtureSettingsMatchSpec", fn := fun _ => fun
  | [d1, d2] => { results := [.lit (.bool false)], args := [d1, d2] }
  | _ => none }
def FixtureSettingsMatchSpecWrongFalsely : Prop := fixtureSettingsMatchSpecRow.holds Try.pinned (OpenSpec.ofChange fixtureSettingsMatchSpecWrong)

/-- 'cycloramalaw2.FixtureFramesComeBack': WHATEVER THE INPUT: true; the input reads as it did. -/
def fixtureFramesComeBackSpec : ChangeSpec := { name := "fixtureFramesComeBack", fn := fun _ => fun
  | [d1, d2] => { results := [.lit (.bool true)], args := [d1, d2] }
  | _ => none }
def fixtureFramesComeBackRow : OpenClaim := { program := "ytabalicembhjmaa", sum := "5d299cc894a6203459ce3003ac5b3f62a14e4cef607ca6f611a2ba1dd55db871", func := "cyclorama/cycloramalaw2.FixtureFramesComeBack", spec := "fixtureFramesComeBack", unfollowed := true, recurses := true, plainKeys := false, apart := false }
def FixtureFramesComeBackSaid : Prop := fixtureFramesComeBackRow.holds Try.pinned (OpenSpec.ofChange fixtureFramesComeBackSpec)

/-- ITS FALSE NEIGHBOUR: 'it returns false'. Refute it at one input. -/
def fixtureFramesComeBackWrong : ChangeSpec := { name := "fixtureFramesComeBack", fn := fun _ => fun
  | [d1, d2] => { results := [.lit (.bool false)], args := [d1, d2] }
  | _ => none }
def FixtureFramesComeBackWrongFalsely : Prop := fixtureFramesComeBackRow.holds Try.pinned (OpenSpec.ofChange fixtureFramesComeBackWrong)

/-- 'cycloramalaw2.FixtureExchangesMatchSpec': WHATEVER THE INPUT: true; the input reads as it did. -/
def fixtureExchangesMatchSpecSpec : ChangeSpec := { name := "fixtureExchangesMatchSpec", fn := fun _ => fun
  | [d1, d2, d3, d4] => { results := [.lit (.bool true)], args := [d1, d2, d3, d4] }
  | _ => none }
def fixtureExchangesMatchSpecRow : OpenClaim := { program := "ytabalicembhjmaa", sum := "5d299cc894a6203459ce3003ac5b3f62a14e4cef607ca6f611a2ba1dd55db871", func := "cyclorama/cycloramalaw2.FixtureExchangesMatchSpec", spec := "fixtureExchangesMatchSpec", unfollowed := true, recurses := true, plainKeys := false, apart := false }
def FixtureExchangesMatchSpecSaid : Prop := fixtureExchangesMatchSpecRow.holds Try.pinned (OpenSpec.ofChange fixtureExchangesMatchSpecSpec)

/-- ITS FALSE NEIGHBOUR: 'it returns false'. Refute it at one input. -/
def fixtureExchangesMatchSpecWrong : ChangeSpec := { name := "fixtureExchangesMatchSpec", fn := fun _ => fun
  | [d1, d2, d3, d4] => { results := [.lit (.bool false)], args := [d1, d2, d3, d4] }
  | _ => none }
def FixtureExchangesMatchSpecWrongFalsely : Prop := fixtureExchangesMatchSpecRow.holds Try.pinned (OpenSpec.ofChange fixtureExchangesMatchSpecWrong)

/-- 'cycloramalaw2.FixtureExchangesAreRight': WHATEVER THE INPUT: true; the input reads as it did. -/
def fixtureExchangesAreRightSpec : ChangeSpec := { name := "fixtureExchangesAreRight", fn := fun _ => fun
  | [d1, d2, d3, d4] => { results := [.lit (.bool true)], args := [d1, d2, d3, d4] }
  | _ => none }
def fixtureExchangesAreRightRow : OpenClaim := { program := "ytabalicembhjmaa", sum := "5d299cc894a6203459ce3003ac5b3f62a14e4cef607ca6f611a2ba1dd55db871", func := "cyclorama/cycloramalaw2.FixtureExchangesAreRight", spec := "fixtureExchangesAreRight", unfollowed := true, recurses := true, plainKeys := false, apart := false }
def FixtureExchangesAreRightSaid : Prop := fixtureExchangesAreRightRow.holds Try.pinned (OpenSpec.ofChange fixtureExchangesAreRightSpec)

/-- ITS FALSE NEIGHBOUR: 'it returns false'. Refute it at one input. -/
def fixtureExchangesAreRightWrong : ChangeSpec := { name := "fixtureExchangesAreRight", fn := fun _ => fun
  | [d1, d2, d3, d4] => { results := [.lit (.bool false)], args := [d1, d2, d3, d4] }
  | _ => none }
def FixtureExchangesAreRightWrongFalsely : Prop := fixtureExchangesAreRightRow.holds Try.pinned (OpenSpec.ofChange fixtureExchangesAreRightWrong)

/-- 'cycloramalaw2.FixturePlacesAreTakenBack': WHATEVER THE INPUT: true; the input reads as it did. -/
def fixturePlacesAreTakenBackSpec : ChangeSpec := { name := "fixturePlacesAreTakenBack", fn := fun _ => fun
  | [d1, d2, d3] => { results := [.lit (.bool true)], args := [d1, d2, d3] }
  | _ => none }
def fixturePlacesAreTakenBackRow : OpenClaim := { program := "ytabalicembhjmaa", sum := "5d299cc894a6203459ce3003ac5b3f62a14e4cef607ca6f611a2ba1dd55db871", func := "cyclorama/cycloramalaw2.FixturePlacesAreTakenBack", spec := "fixturePlacesAreTakenBack", inPlace := ["slices.overlaps[cyclorama/api.Unit]"], unfollowed := true, recurses := true, plainKeys := false, apart := false }
def FixturePlacesAreTakenBackSaid : Prop := fixturePlacesAreTakenBackRow.holds Try.pinned (OpenSpec.ofChange fixturePlacesAreTakenBackSpec)

/-- ITS FALSE NEIGHBOUR: 'it returns false'. Refute it at one input. -/
def fixturePlacesAreTakenBackWrong : ChangeSpec := { name := "fixturePlacesAreTakenBack", fn := fun _ => fun
  | [d1, d2, d3] => { results := [.lit (.bool false)], args := [d1, d2, d3] }
  | _ => none }
def FixturePlacesAreTakenBackWrongFalsely : Prop := fixturePlacesAreTakenBackRow.holds Try.pinned (OpenSpec.ofChange fixturePlacesAreTakenBackWrong)

/-- 'cycloramalaw2.FixturePlacesMatchSpec': WHATEVER THE INPUT: true; the input reads as it did. -/
def fixturePlacesMatchSpecSpec : ChangeSpec := { name := "fixturePlacesMatchSpec", fn := fun _ => fun
  | [d1, d2, d3, d4] => { results := [.lit (.bool true)], args := [d1, d2, d3, d4] }
  | _ => none }
def fixturePlacesMatchSpecRow : OpenClaim := { program := "ytabalicembhjmaa", sum := "5d299cc894a6203459ce3003ac5b3f62a14e4cef607ca6f611a2ba1dd55db871", func := "cyclorama/cycloramalaw2.FixturePlacesMatchSpec", spec := "fixturePlacesMatchSpec", inPlace := ["slices.overlaps[cyclorama/api.Unit]"], unfollowed := true, recurses := true, plainKeys := false, apart := false }
def FixturePlacesMatchSpecSaid : Prop := fixturePlacesMatchSpecRow.holds Try.pinned (OpenSpec.ofChange fixturePlacesMatchSpecSpec)

/-- ITS FALSE NEIGHBOUR: 'it returns false'. Refute it at one input. -/
def fixturePlacesMatchSpecWrong : ChangeSpec := { name := "fixturePlacesMatchSpec", fn := fun _ => fun
  | [d1, d2, d3, d4] => { results := [.lit (.bool false)], args := [d1, d2, d3, d4] }
  | _ => none }
def FixturePlacesMatchSpecWrongFalsely : Prop := fixturePlacesMatchSpecRow.holds Try.pinned (OpenSpec.ofChange fixturePlacesMatchSpecWrong)

/-- 'cycloramalaw2.FixtureFramesMatchSpec': WHATEVER THE INPUT: true; the input reads as it did. -/
def fixtureFramesMatchSpecSpec : ChangeSpec := { name := "fixtureFramesMatchSpec", fn := fun _ => fun
  | [d1, d2] => { results := [.lit (.bool true)], args := [d1, d2] }
  | _ => none }
def fixtureFramesMatchSpecRow : OpenClaim := { program := "ytabalicembhjmaa", sum := "5d299cc894a6203459ce3003ac5b3f62a14e4cef607ca6f611a2ba1dd55db871", func := "cyclorama/cycloramalaw2.FixtureFramesMatchSpec", spec := "fixtureFramesMatchSpec", unfollowed := true, recurses := true, plainKeys := false, apart := false }
def FixtureFramesMatchSpecSaid : Prop := fixtureFramesMatchSpecRow.holds Try.pinned (OpenSpec.ofChange fixtureFramesMatchSpecSpec)

/-- ITS FALSE NEIGHBOUR: 'it returns false'. Refute it at one input. -/
def fixtureFramesMatchSpecWrong : ChangeSpec := { name := "fixtureFramesMatchSpec", fn := fun _ => fun
  | [d1, d2] => { results := [.lit (.bool false)], args := [d1, d2] }
  | _ => none }
def FixtureFramesMatchSpecWrongFalsely : Prop := fixtureFramesMatchSpecRow.holds Try.pinned (OpenSpec.ofChange fixtureFramesMatchSpecWrong)

/- THE SECOND FORM. 'bulk': how many values and letters a reading holds, each counted each time it is reached (what is shared counts as often as it is met; a slice's spare places count too). A statement '..UptoSaid' is the law's where the arguments, and the package variables that the reading takes, are together of bulk at most 1048576: NARROWER than '..Said'. Prove '..Said' where nothing that the law and all that it calls make is longer than what came in: it says more and counts as full. Else prove '..UptoSaid'. A law counts once. -/
mutual
def uptoBulk {H : Type} : DataW H → Nat
  | .lit (.string bytes) => bytes.length + 1
  | .lit _ => 1
  | .nil => 1
  | .ptr d => uptoBulk d + 1
  | .slice elems spare => uptoBulkAll elems + uptoBulkAll spare + 1
  | .agg parts => uptoBulkAll parts + 1
  | .iface _ d => uptoBulk d + 1
  | .map entries => uptoBulkEntries entries + 1
  | .held _ => 1
def uptoBulkAll {H : Type} : List (DataW H) → Nat
  | [] => 0
  | d :: r => uptoBulk d + uptoBulkAll r
def uptoBulkEntries {H : Type} : List (Lit × DataW H) → Nat
  | [] => 0
  | x :: r => uptoBulkEntry x + uptoBulkEntries r
def uptoBulkEntry {H : Type} : Lit × DataW H → Nat
  | (.string bytes, d) => bytes.length + uptoBulk d + 1
  | (_, d) => uptoBulk d + 1
 end
def uptoSmall : (H : Type) → List (DataW H) → Bool := fun _ ds => decide (uptoBulkAll ds ≤ 1048576)
def OpenSpec.upto (s : _root_.Go.ChangeSpec) : _root_.Go.OpenSpec := { _root_.Go.OpenSpec.ofChange s with cond := some uptoSmall }

/-- 'cycloramalaw2.FixtureSettingsMatchSpec', WHERE WHAT IT READS IS OF BULK AT MOST 1048576: true; the input reads as it did. -/
def fixtureSettingsMatchSpecUptoRow : OpenClaim := { program := "ytabalicembhjmaa", sum := "5d299cc894a6203459ce3003ac5b3f62a14e4cef607ca6f611a2ba1dd55db871", func := "cyclorama/cycloramalaw2.FixtureSettingsMatchSpec", spec := "fixtureSettingsMatchSpec", unfollowed := true, recurses := true, plainKeys := false, apart := false, narrowed := true }
def FixtureSettingsMatchSpecUptoSaid : Prop := fixtureSettingsMatchSpecUptoRow.holds Try.pinned (OpenSpec.upto fixtureSettingsMatchSpecSpec)

/-- 'cycloramalaw2.FixtureFramesComeBack', WHERE WHAT IT READS IS OF BULK AT MOST 1048576: true; the input reads as it did. -/
def fixtureFramesComeBackUptoRow : OpenClaim := { program := "ytabalicembhjmaa", sum := "5d299cc894a6203459ce3003ac5b3f62a14e4cef607ca6f611a2ba1dd55db871", func := "cyclorama/cycloramalaw2.FixtureFramesComeBack", spec := "fixtureFramesComeBack", unfollowed := true, recurses := true, plainKeys := false, apart := false, narrowed := true }
def FixtureFramesComeBackUptoSaid : Prop := fixtureFramesComeBackUptoRow.holds Try.pinned (OpenSpec.upto fixtureFramesComeBackSpec)

/-- 'cycloramalaw2.FixtureExchangesMatchSpec', WHERE WHAT IT READS IS OF BULK AT MOST 1048576: true; the input reads as it did. -/
def fixtureExchangesMatchSpecUptoRow : OpenClaim := { program := "ytabalicembhjmaa", sum := "5d299cc894a6203459ce3003ac5b3f62a14e4cef607ca6f611a2ba1dd55db871", func := "cyclorama/cycloramalaw2.FixtureExchangesMatchSpec", spec := "fixtureExchangesMatchSpec", unfollowed := true, recurses := true, plainKeys := false, apart := false, narrowed := true }
def FixtureExchangesMatchSpecUptoSaid : Prop := fixtureExchangesMatchSpecUptoRow.holds Try.pinned (OpenSpec.upto fixtureExchangesMatchSpecSpec)

/-- 'cycloramalaw2.FixtureExchangesAreRight', WHERE WHAT IT READS IS OF BULK AT MOST 1048576: true; the input reads as it did. -/
def fixtureExchangesAreRightUptoRow : OpenClaim := { program := "ytabalicembhjmaa", sum := "5d299cc894a6203459ce3003ac5b3f62a14e4cef607ca6f611a2ba1dd55db871", func := "cyclorama/cycloramalaw2.FixtureExchangesAreRight", spec := "fixtureExchangesAreRight", unfollowed := true, recurses := true, plainKeys := false, apart := false, narrowed := true }
def FixtureExchangesAreRightUptoSaid : Prop := fixtureExchangesAreRightUptoRow.holds Try.pinned (OpenSpec.upto fixtureExchangesAreRightSpec)

/-- 'cycloramalaw2.FixturePlacesAreTakenBack', WHERE WHAT IT READS IS OF BULK AT MOST 1048576: true; the input reads as it did. -/
def fixturePlacesAreTakenBackUptoRow : OpenClaim := { program := "ytabalicembhjmaa", sum := "5d299cc894a6203459ce3003ac5b3f62a14e4cef607ca6f611a2ba1dd55db871", func := "cyclorama/cycloramalaw2.FixturePlacesAreTakenBack", spec := "fixturePlacesAreTakenBack", inPlace := ["slices.overlaps[cyclorama/api.Unit]"], unfollowed := true, recurses := true, plainKeys := false, apart := false, narrowed := true }
def FixturePlacesAreTakenBackUptoSaid : Prop := fixturePlacesAreTakenBackUptoRow.holds Try.pinned (OpenSpec.upto fixturePlacesAreTakenBackSpec)

/-- 'cycloramalaw2.FixturePlacesMatchSpec', WHERE WHAT IT READS IS OF BULK AT MOST 1048576: true; the input reads as it did. -/
def fixturePlacesMatchSpecUptoRow : OpenClaim := { program := "ytabalicembhjmaa", sum := "5d299cc894a6203459ce3003ac5b3f62a14e4cef607ca6f611a2ba1dd55db871", func := "cyclorama/cycloramalaw2.FixturePlacesMatchSpec", spec := "fixturePlacesMatchSpec", inPlace := ["slices.overlaps[cyclorama/api.Unit]"], unfollowed := true, recurses := true, plainKeys := false, apart := false, narrowed := true }
def FixturePlacesMatchSpecUptoSaid : Prop := fixturePlacesMatchSpecUptoRow.holds Try.pinned (OpenSpec.upto fixturePlacesMatchSpecSpec)

/-- 'cycloramalaw2.FixtureFramesMatchSpec', WHERE WHAT IT READS IS OF BULK AT MOST 1048576: true; the input reads as it did. -/
def fixtureFramesMatchSpecUptoRow : OpenClaim := { program := "ytabalicembhjmaa", sum := "5d299cc894a6203459ce3003ac5b3f62a14e4cef607ca6f611a2ba1dd55db871", func := "cyclorama/cycloramalaw2.FixtureFramesMatchSpec", spec := "fixtureFramesMatchSpec", unfollowed := true, recurses := true, plainKeys := false, apart := false, narrowed := true }
def FixtureFramesMatchSpecUptoSaid : Prop := fixtureFramesMatchSpecUptoRow.holds Try.pinned (OpenSpec.upto fixtureFramesMatchSpecSpec)

end Rows
end Go.Proofs.Ytabalicembhjmaa
