/-
  No cell of these rows narrows 'for every input' (looked for: loops, veiled, ifaces, maps, wideKeys, modest, calm, conditions, laid).
  DERIVED. THE GIVEN ROWS OF THIS SEAT. 11 by the template 'for every input the law returns true; each argument reads behind the call as it read before'; 0 by the template 'total and deterministic' (their statements: YtfipkljefmfhmaaTotals.lean).
  GIVEN WITH THE SEED: the statements are not yours to turn. If you find one false, say at which input.
  Laid BY PROGRAM, IN A SANDBOX (cutbox-rows.mjs): the forced cells as the released guide's own fill.sh prints them over the translation 40bdff0d265186e5… (all of the seat's roots in one cut). By AI agents, Wed Nov 11 2026. No macro, syntax, notation, axiom, sorry.
-/
import Derived.Test.YtfipkljefmfhmaaChecked
import GoSem.Claim
import GoSem.ClaimJoined
import GoSem.ClaimMapViews
import Derived.JoinedTies
import Derived.KernelRfl
namespace Go.Proofs.Ytfipkljefmfhmaa
/- THE CELL 'sum', in the pinned program and in every row, IS THE sha256 OF THE DUMP (.gsa) THAT YtfipkljefmfhmaaProg.lean LOADS. Nothing in Lean hashes anything: it is a label: what it is worth is what the hold of that sum in a sandbox is worth. -/
noncomputable def Try.pinned : Pinned := { name := "ytfipkljefmfhmaa", sum := "40bdff0d265186e59f5580a24a094942fbf231d89c024b0403e571c99213cfc5", checked := Try.checked }
namespace Rows
def none {H : Type} : Left H := { results := [], args := [] }

/-- 'cycloramalaw9.WireSumsMatchSpec': WHATEVER THE INPUT: true; the input reads as it did. -/
def wireSumsMatchSpecSpec : ChangeSpec := { name := "wireSumsMatchSpec", fn := fun _ => fun
  | [d] => { results := [.lit (.bool true)], args := [d] }
  | _ => none }
def wireSumsMatchSpecRow : OpenClaim := { program := "ytfipkljefmfhmaa", sum := "40bdff0d265186e59f5580a24a094942fbf231d89c024b0403e571c99213cfc5", func := "cyclorama/cycloramalaw9.WireSumsMatchSpec", spec := "wireSumsMatchSpec", apart := false }
def WireSumsMatchSpecSaid : Prop := wireSumsMatchSpecRow.holds Try.pinned (OpenSpec.ofChange wireSumsMatchSpecSpec)

/-- ITS FALSE NEIGHBOUR: 'it returns false'. Refute it at one input. -/
def wireSumsMatchSpecWrong : ChangeSpec := { name := "wireSumsMatchSpec", fn := fun _ => fun
  | [d] => { results := [.lit (.bool false)], args := [d] }
  | _ => none }
def WireSumsMatchSpecWrongFalsely : Prop := wireSumsMatchSpecRow.holds Try.pinned (OpenSpec.ofChange wireSumsMatchSpecWrong)

/-- 'cycloramalaw9.WireSyncsMatchSpec': WHATEVER THE INPUT: true; the input reads as it did. -/
def wireSyncsMatchSpecSpec : ChangeSpec := { name := "wireSyncsMatchSpec", fn := fun _ => fun
  | [d1, d2, d3, d4, d5] => { results := [.lit (.bool true)], args := [d1, d2, d3, d4, d5] }
  | _ => none }
def wireSyncsMatchSpecRow : OpenClaim := { program := "ytfipkljefmfhmaa", sum := "40bdff0d265186e59f5580a24a094942fbf231d89c024b0403e571c99213cfc5", func := "cyclorama/cycloramalaw9.WireSyncsMatchSpec", spec := "wireSyncsMatchSpec", apart := false }
def WireSyncsMatchSpecSaid : Prop := wireSyncsMatchSpecRow.holds Try.pinned (OpenSpec.ofChange wireSyncsMatchSpecSpec)

/-- ITS FALSE NEIGHBOUR: 'it returns false'. Refute it at one input. -/
def wireSyncsMatchSpecWrong : ChangeSpec := { name := "wireSyncsMatchSpec", fn := fun _ => fun
  | [d1, d2, d3, d4, d5] => { results := [.lit (.bool false)], args := [d1, d2, d3, d4, d5] }
  | _ => none }
def WireSyncsMatchSpecWrongFalsely : Prop := wireSyncsMatchSpecRow.holds Try.pinned (OpenSpec.ofChange wireSyncsMatchSpecWrong)

/-- 'cycloramalaw9.WireBytesComeBack': WHATEVER THE INPUT: true; the input reads as it did. -/
def wireBytesComeBackSpec : ChangeSpec := { name := "wireBytesComeBack", fn := fun _ => fun
  | [d1, d2] => { results := [.lit (.bool true)], args := [d1, d2] }
  | _ => none }
def wireBytesComeBackRow : OpenClaim := { program := "ytfipkljefmfhmaa", sum := "40bdff0d265186e59f5580a24a094942fbf231d89c024b0403e571c99213cfc5", func := "cyclorama/cycloramalaw9.WireBytesComeBack", spec := "wireBytesComeBack", apart := false }
def WireBytesComeBackSaid : Prop := wireBytesComeBackRow.holds Try.pinned (OpenSpec.ofChange wireBytesComeBackSpec)

/-- ITS FALSE NEIGHBOUR: 'it returns false'. Refute it at one input. -/
def wireBytesComeBackWrong : ChangeSpec := { name := "wireBytesComeBack", fn := fun _ => fun
  | [d1, d2] => { results := [.lit (.bool false)], args := [d1, d2] }
  | _ => none }
def WireBytesComeBackWrongFalsely : Prop := wireBytesComeBackRow.holds Try.pinned (OpenSpec.ofChange wireBytesComeBackWrong)

/-- 'cycloramalaw9.WireErrorsAreFound': WHATEVER THE INPUT: true; the input reads as it did. -/
def wireErrorsAreFoundSpec : ChangeSpec := { name := "wireErrorsAreFound", fn := fun _ => fun
  | [d1, d2, d3, d4] => { results := [.lit (.bool true)], args := [d1, d2, d3, d4] }
  | _ => none }
def wireErrorsAreFoundRow : OpenClaim := { program := "ytfipkljefmfhmaa", sum := "40bdff0d265186e59f5580a24a094942fbf231d89c024b0403e571c99213cfc5", func := "cyclorama/cycloramalaw9.WireErrorsAreFound", spec := "wireErrorsAreFound", apart := false }
def WireErrorsAreFoundSaid : Prop := wireErrorsAreFoundRow.holds Try.pinned (OpenSpec.ofChange wireErrorsAreFoundSpec)

/-- ITS FALSE NEIGHBOUR: 'it returns false'. Refute it at one input. -/
def wireErrorsAreFoundWrong : ChangeSpec := { name := "wireErrorsAreFound", fn := fun _ => fun
  | [d1, d2, d3, d4] => { results := [.lit (.bool false)], args := [d1, d2, d3, d4] }
  | _ => none }
def WireErrorsAreFoundWrongFalsely : Prop := wireErrorsAreFoundRow.holds Try.pinned (OpenSpec.ofChange wireErrorsAreFoundWrong)

/-- 'cycloramalaw9.WireBytesMatchSpec': WHATEVER THE INPUT: true; the input reads as it did. -/
def wireBytesMatchSpecSpec : ChangeSpec := { name := "wireBytesMatchSpec", fn := fun _ => fun
  | [d1, d2] => { results := [.lit (.bool true)], args := [d1, d2] }
  | _ => none }
def wireBytesMatchSpecRow : OpenClaim := { program := "ytfipkljefmfhmaa", sum := "40bdff0d265186e59f5580a24a094942fbf231d89c024b0403e571c99213cfc5", func := "cyclorama/cycloramalaw9.WireBytesMatchSpec", spec := "wireBytesMatchSpec", apart := false }
def WireBytesMatchSpecSaid : Prop := wireBytesMatchSpecRow.holds Try.pinned (OpenSpec.ofChange wireBytesMatchSpecSpec)

/-- ITS FALSE NEIGHBOUR: 'it returns false'. Refute it at one input. -/
def wireBytesMatchSpecWrong : ChangeSpec := { name := "wireBytesMatchSpec", fn := fun _ => fun
  | [d1, d2] => { results := [.lit (.bool false)], args := [d1, d2] }
  | _ => none }
def WireBytesMatchSpecWrongFalsely : Prop := wireBytesMatchSpecRow.holds Try.pinned (OpenSpec.ofChange wireBytesMatchSpecWrong)

/-- 'cycloramalaw9.WireSendersMatchSpec': WHATEVER THE INPUT: true; the input reads as it did. -/
def wireSendersMatchSpecSpec : ChangeSpec := { name := "wireSendersMatchSpec", fn := fun _ => fun
  | [d1, d2, d3, d4, d5] => { results := [.lit (.bool true)], args := [d1, d2, d3, d4, d5] }
  | _ => none }
def wireSendersMatchSpecRow : OpenClaim := { program := "ytfipkljefmfhmaa", sum := "40bdff0d265186e59f5580a24a094942fbf231d89c024b0403e571c99213cfc5", func := "cyclorama/cycloramalaw9.WireSendersMatchSpec", spec := "wireSendersMatchSpec", unfollowed := true, recurses := true, apart := false }
def WireSendersMatchSpecSaid : Prop := wireSendersMatchSpecRow.holds Try.pinned (OpenSpec.ofChange wireSendersMatchSpecSpec)

/-- ITS FALSE NEIGHBOUR: 'it returns false'. Refute it at one input. -/
def wireSendersMatchSpecWrong : ChangeSpec := { name := "wireSendersMatchSpec", fn := fun _ => fun
  | [d1, d2, d3, d4, d5] => { results := [.lit (.bool false)], args := [d1, d2, d3, d4, d5] }
  | _ => none }
def WireSendersMatchSpecWrongFalsely : Prop := wireSendersMatchSpecRow.holds Try.pinned (OpenSpec.ofChange wireSendersMatchSpecWrong)

/-- 'cycloramalaw9.WireOwnersHaveTheirBytes': WHATEVER THE INPUT: true; the input reads as it did. -/
def wireOwnersHaveTheirBytesSpec : ChangeSpec := { name := "wireOwnersHaveTheirBytes", fn := fun _ => fun
  | [d1, d2, d3] => { results := [.lit (.bool true)], args := [d1, d2, d3] }
  | _ => none }
def wireOwnersHaveTheirBytesRow : OpenClaim := { program := "ytfipkljefmfhmaa", sum := "40bdff0d265186e59f5580a24a094942fbf231d89c024b0403e571c99213cfc5", func := "cyclorama/cycloramalaw9.WireOwnersHaveTheirBytes", spec := "wireOwnersHaveTheirBytes", unfollowed := true, recurses := true, apart := false }
def WireOwnersHaveTheirBytesSaid : Prop := wireOwnersHaveTheirBytesRow.holds Try.pinned (OpenSpec.ofChange wireOwnersHaveTheirBytesSpec)

/-- ITS FALSE NEIGHBOUR: 'it returns false'. Refute it at one input. -/
def wireOwnersHaveTheirBytesWrong : ChangeSpec := { name := "wireOwnersHaveTheirBytes", fn := fun _ => fun
  | [d1, d2, d3] => { results := [.lit (.bool false)], args := [d1, d2, d3] }
  | _ => none }
def WireOwnersHaveTheirBytesWrongFalsely : Prop := wireOwnersHaveTheirBytesRow.holds Try.pinned (OpenSpec.ofChange wireOwnersHaveTheirBytesWrong)

/-- 'cycloramalaw9.WireQuietIsHeard': WHATEVER THE INPUT: true; the input reads as it did. -/
def wireQuietIsHeardSpec : ChangeSpec := { name := "wireQuietIsHeard", fn := fun _ => fun
  | [d1, d2, d3, d4, d5, d6] => { results := [.lit (.bool true)], args := [d1, d2, d3, d4, d5, d6] }
  | _ => none }
def wireQuietIsHeardRow : OpenClaim := { program := "ytfipkljefmfhmaa", sum := "40bdff0d265186e59f5580a24a094942fbf231d89c024b0403e571c99213cfc5", func := "cyclorama/cycloramalaw9.WireQuietIsHeard", spec := "wireQuietIsHeard", unfollowed := true, recurses := true, apart := false }
def WireQuietIsHeardSaid : Prop := wireQuietIsHeardRow.holds Try.pinned (OpenSpec.ofChange wireQuietIsHeardSpec)

/-- ITS FALSE NEIGHBOUR: 'it returns false'. Refute it at one input. -/
def wireQuietIsHeardWrong : ChangeSpec := { name := "wireQuietIsHeard", fn := fun _ => fun
  | [d1, d2, d3, d4, d5, d6] => { results := [.lit (.bool false)], args := [d1, d2, d3, d4, d5, d6] }
  | _ => none }
def WireQuietIsHeardWrongFalsely : Prop := wireQuietIsHeardRow.holds Try.pinned (OpenSpec.ofChange wireQuietIsHeardWrong)

/-- 'cycloramalaw9.WireReceiversMatchSpec': WHATEVER THE INPUT: true; the input reads as it did. -/
def wireReceiversMatchSpecSpec : ChangeSpec := { name := "wireReceiversMatchSpec", fn := fun _ => fun
  | [d] => { results := [.lit (.bool true)], args := [d] }
  | _ => none }
def wireReceiversMatchSpecRow : OpenClaim := { program := "ytfipkljefmfhmaa", sum := "40bdff0d265186e59f5580a24a094942fbf231d89c024b0403e571c99213cfc5", func := "cyclorama/cycloramalaw9.WireReceiversMatchSpec", spec := "wireReceiversMatchSpec", inPlace := ["slices.overlaps[cyclorama/api.Source]"], unfollowed := true, recurses := true, apart := false }
def WireReceiversMatchSpecSaid : Prop := wireReceiversMatchSpecRow.holds Try.pinned (OpenSpec.ofChange wireReceiversMatchSpecSpec)

/-- ITS FALSE NEIGHBOUR: 'it returns false'. Refute it at one input. -/
def wireReceiversMatchSpecWrong : ChangeSpec := { name := "wireReceiversMatchSpec", fn := fun _ => fun
  | [d] => { results := [.lit (.bool false)], args := [d] }
  | _ => none }
def WireReceiversMatchSpecWrongFalsely : Prop := wireReceiversMatchSpecRow.holds Try.pinned (OpenSpec.ofChange wireReceiversMatchSpecWrong)

/-- 'cycloramalaw9.WireTwiceIsOnce': WHATEVER THE INPUT: true; the input reads as it did. -/
def wireTwiceIsOnceSpec : ChangeSpec := { name := "wireTwiceIsOnce", fn := fun _ => fun
  | [d1, d2] => { results := [.lit (.bool true)], args := [d1, d2] }
  | _ => none }
def wireTwiceIsOnceRow : OpenClaim := { program := "ytfipkljefmfhmaa", sum := "40bdff0d265186e59f5580a24a094942fbf231d89c024b0403e571c99213cfc5", func := "cyclorama/cycloramalaw9.WireTwiceIsOnce", spec := "wireTwiceIsOnce", inPlace := ["slices.overlaps[cyclorama/api.Source]"], unfollowed := true, recurses := true, apart := false }
def WireTwiceIsOnceSaid : Prop := wireTwiceIsOnceRow.holds Try.pinned (OpenSpec.ofChange wireTwiceIsOnceSpec)

/-- ITS FALSE NEIGHBOUR: 'it returns false'. Refute it at one input. -/
def wireTwiceIsOnceWrong : ChangeSpec := { name := "wireTwiceIsOnce", fn := fun _ => fun
  | [d1, d2] => { results := [.lit (.bool false)], args := [d1, d2] }
  | _ => none }
def WireTwiceIsOnceWrongFalsely : Prop := wireTwiceIsOnceRow.holds Try.pinned (OpenSpec.ofChange wireTwiceIsOnceWrong)

/-- 'cycloramalaw9.WireHeardMatchesSpec': WHATEVER THE INPUT: true; the input reads as it did. -/
def wireHeardMatchesSpecSpec : ChangeSpec := { name := "wireHeardMatchesSpec", fn := fun _ => fun
  | [d1, d2] => { results := [.lit (.bool true)], args := [d1, d2] }
  | _ => none }
def wireHeardMatchesSpecRow : OpenClaim := { program := "ytfipkljefmfhmaa", sum := "40bdff0d265186e59f5580a24a094942fbf231d89c024b0403e571c99213cfc5", func := "cyclorama/cycloramalaw9.WireHeardMatchesSpec", spec := "wireHeardMatchesSpec", inPlace := ["slices.overlaps[cyclorama/api.Sent]"], unfollowed := true, recurses := true, apart := false }
def WireHeardMatchesSpecSaid : Prop := wireHeardMatchesSpecRow.holds Try.pinned (OpenSpec.ofChange wireHeardMatchesSpecSpec)

/-- ITS FALSE NEIGHBOUR: 'it returns false'. Refute it at one input. -/
def wireHeardMatchesSpecWrong : ChangeSpec := { name := "wireHeardMatchesSpec", fn := fun _ => fun
  | [d1, d2] => { results := [.lit (.bool false)], args := [d1, d2] }
  | _ => none }
def WireHeardMatchesSpecWrongFalsely : Prop := wireHeardMatchesSpecRow.holds Try.pinned (OpenSpec.ofChange wireHeardMatchesSpecWrong)

/- THE SECOND FORM. 'bulk': how many values and letters a reading holds, each counted each time it is reached (what is shared counts as often as it is met; a slice's spare places count too). A statement '..UptoSaid' is the law's where the arguments, and the package variables that the reading takes, are together of bulk at most 1048576: NARROWER than '..Said'. Prove '..Said' where nothing that the law and all that it calls make is longer than what came in: it says more and counts as full. Else prove '..UptoSaid'. A law counts once. -/
mutual
def uptoBulk {H : Type} : DataW H → Nat
  | .lit (.string bytes) => bytes.length + 1
  | .lit _ => 1
  | .nil => 1
  | .ptr d => uptoBulk d + 1
  | .slice elems spare => uptoBulkAll elems + uptoBulkAll spare + 1
  | .agg parts => uptoBulkAll parts + 1
  | .iface _ d => uptoBulk d + 1
  | .map entries => uptoBulkEntries entries + 1
  | .held _ => 1
def uptoBulkAll {H : Type} : List (DataW H) → Nat
  | [] => 0
  | d :: r => uptoBulk d + uptoBulkAll r
def uptoBulkEntries {H : Type} : List (Lit × DataW H) → Nat
  | [] => 0
  | x :: r => uptoBulkEntry x + uptoBulkEntries r
def uptoBulkEntry {H : Type} : Lit × DataW H → Nat
  | (.string bytes, d) => bytes.length + uptoBulk d + 1
  | (_, d) => uptoBulk d + 1
 end
def uptoSmall : (H : Type) → List (DataW H) → Bool := fun _ ds => decide (uptoBulkAll ds ≤ 1048576)
def OpenSpec.upto (s : _root_.Go.ChangeSpec) : _root_.Go.OpenSpec := { _root_.Go.OpenSpec.ofChange s with cond := some uptoSmall }

/-- 'cycloramalaw9.WireSumsMatchSpec', WHERE WHAT IT READS IS OF BULK AT MOST 1048576: true; the input reads as it did. -/
def wireSumsMatchSpecUptoRow : OpenClaim := { program := "ytfipkljefmfhmaa", sum := "40bdff0d265186e59f5580a24a094942fbf231d89c024b0403e571c99213cfc5", func := "cyclorama/cycloramalaw9.WireSumsMatchSpec", spec := "wireSumsMatchSpec", apart := false, narrowed := true }
def WireSumsMatchSpecUptoSaid : Prop := wireSumsMatchSpecUptoRow.holds Try.pinned (OpenSpec.upto wireSumsMatchSpecSpec)

/-- 'cycloramalaw9.WireSyncsMatchSpec', WHERE WHAT IT READS IS OF BULK AT MOST 1048576: true; the input reads as it did. -/
def wireSyncsMatchSpecUptoRow : OpenClaim := { program := "ytfipkljefmfhmaa", sum := "40bdff0d265186e59f5580a24a094942fbf231d89c024b0403e571c99213cfc5", func := "cyclorama/cycloramalaw9.WireSyncsMatchSpec", spec := "wireSyncsMatchSpec", apart := false, narrowed := true }
def WireSyncsMatchSpecUptoSaid : Prop := wireSyncsMatchSpecUptoRow.holds Try.pinned (OpenSpec.upto wireSyncsMatchSpecSpec)

/-- 'cycloramalaw9.WireBytesComeBack', WHERE WHAT IT READS IS OF BULK AT MOST 1048576: true; the input reads as it did. -/
def wireBytesComeBackUptoRow : OpenClaim := { program := "ytfipkljefmfhmaa", sum := "40bdff0d265186e59f5580a24a094942fbf231d89c024b0403e571c99213cfc5", func := "cyclorama/cycloramalaw9.WireBytesComeBack", spec := "wireBytesComeBack", apart := false, narrowed := true }
def WireBytesComeBackUptoSaid : Prop := wireBytesComeBackUptoRow.holds Try.pinned (OpenSpec.upto wireBytesComeBackSpec)

/-- 'cycloramalaw9.WireErrorsAreFound', WHERE WHAT IT READS IS OF BULK AT MOST 1048576: true; the input reads as it did. -/
def wireErrorsAreFoundUptoRow : OpenClaim := { program := "ytfipkljefmfhmaa", sum := "40bdff0d265186e59f5580a24a094942fbf231d89c024b0403e571c99213cfc5", func := "cyclorama/cycloramalaw9.WireErrorsAreFound", spec := "wireErrorsAreFound", apart := false, narrowed := true }
def WireErrorsAreFoundUptoSaid : Prop := wireErrorsAreFoundUptoRow.holds Try.pinned (OpenSpec.upto wireErrorsAreFoundSpec)

/-- 'cycloramalaw9.WireBytesMatchSpec', WHERE WHAT IT READS IS OF BULK AT MOST 1048576: true; the input reads as it did. -/
def wireBytesMatchSpecUptoRow : OpenClaim := { program := "ytfipkljefmfhmaa", sum := "40bdff0d265186e59f5580a24a094942fbf231d89c024b0403e571c99213cfc5", func := "cyclorama/cycloramalaw9.WireBytesMatchSpec", spec := "wireBytesMatchSpec", apart := false, narrowed := true }
def WireBytesMatchSpecUptoSaid : Prop := wireBytesMatchSpecUptoRow.holds Try.pinned (OpenSpec.upto wireBytesMatchSpecSpec)

/-- 'cycloramalaw9.WireSendersMatchSpec', WHERE WHAT IT READS IS OF BULK AT MOST 1048576: true; the input reads as it did. -/
def wireSendersMatchSpecUptoRow : OpenClaim := { program := "ytfipkljefmfhmaa", sum := "40bdff0d265186e59f5580a24a094942fbf231d89c024b0403e571c99213cfc5", func := "cyclorama/cycloramalaw9.WireSendersMatchSpec", spec := "wireSendersMatchSpec", unfollowed := true, recurses := true, apart := false, narrowed := true }
def WireSendersMatchSpecUptoSaid : Prop := wireSendersMatchSpecUptoRow.holds Try.pinned (OpenSpec.upto wireSendersMatchSpecSpec)

/-- 'cycloramalaw9.WireOwnersHaveTheirBytes', WHERE WHAT IT READS IS OF BULK AT MOST 1048576: true; the input reads as it did. -/
def wireOwnersHaveTheirBytesUptoRow : OpenClaim := { program := "ytfipkljefmfhmaa", sum := "40bdff0d265186e59f5580a24a094942fbf231d89c024b0403e571c99213cfc5", func := "cyclorama/cycloramalaw9.WireOwnersHaveTheirBytes", spec := "wireOwnersHaveTheirBytes", unfollowed := true, recurses := true, apart := false, narrowed := true }
def WireOwnersHaveTheirBytesUptoSaid : Prop := wireOwnersHaveTheirBytesUptoRow.holds Try.pinned (OpenSpec.upto wireOwnersHaveTheirBytesSpec)

/-- 'cycloramalaw9.WireQuietIsHeard', WHERE WHAT IT READS IS OF BULK AT MOST 1048576: true; the input reads as it did. -/
def wireQuietIsHeardUptoRow : OpenClaim := { program := "ytfipkljefmfhmaa", sum := "40bdff0d265186e59f5580a24a094942fbf231d89c024b0403e571c99213cfc5", func := "cyclorama/cycloramalaw9.WireQuietIsHeard", spec := "wireQuietIsHeard", unfollowed := true, recurses := true, apart := false, narrowed := true }
def WireQuietIsHeardUptoSaid : Prop := wireQuietIsHeardUptoRow.holds Try.pinned (OpenSpec.upto wireQuietIsHeardSpec)

/-- 'cycloramalaw9.WireReceiversMatchSpec', WHERE WHAT IT READS IS OF BULK AT MOST 1048576: true; the input reads as it did. -/
def wireReceiversMatchSpecUptoRow : OpenClaim := { program := "ytfipkljefmfhmaa", sum := "40bdff0d265186e59f5580a24a094942fbf231d89c024b0403e571c99213cfc5", func := "cyclorama/cycloramalaw9.WireReceiversMatchSpec", spec := "wireReceiversMatchSpec", inPlace := ["slices.overlaps[cyclorama/api.Source]"], unfollowed := true, recurses := true, apart := false, narrowed := true }
def WireReceiversMatchSpecUptoSaid : Prop := wireReceiversMatchSpecUptoRow.holds Try.pinned (OpenSpec.upto wireReceiversMatchSpecSpec)

/-- 'cycloramalaw9.WireTwiceIsOnce', WHERE WHAT IT READS IS OF BULK AT MOST 1048576: true; the input reads as it did. -/
def wireTwiceIsOnceUptoRow : OpenClaim := { program := "ytfipkljefmfhmaa", sum := "40bdff0d265186e59f5580a24a094942fbf231d89c024b0403e571c99213cfc5", func := "cyclorama/cycloramalaw9.WireTwiceIsOnce", spec := "wireTwiceIsOnce", inPlace := ["slices.overlaps[cyclorama/api.Source]"], unfollowed := true, recurses := true, apart := false, narrowed := true }
def WireTwiceIsOnceUptoSaid : Prop := wireTwiceIsOnceUptoRow.holds Try.pinned (OpenSpec.upto wireTwiceIsOnceSpec)

/-- 'cycloramalaw9.WireHeardMatchesSpec', WHERE WHAT IT READS IS OF BULK AT MOST 1048576: true; the input reads as it did. -/
def wireHeardMatchesSpecUptoRow : OpenClaim := { program := "ytfipkljefmfhmaa", sum := "40bdff0d265186e59f5580a24a094942fbf231d89c024b0403e571c99213cfc5", func := "cyclorama/cycloramalaw9.WireHeardMatchesSpec", spec := "wireHeardMatchesSpec", inPlace := ["slices.overlaps[cyclorama/api.Sent]"], unfollowed := true, recurses := true, apart := false, narrowed := true }
def WireHeardMatchesSpecUptoSaid : Prop := wireHeardMatchesSpecUptoRow.holds Try.pinned (OpenSpec.upto wireHeardMatchesSpecSpec)

end Rows
end Go.Proofs.Ytfipkljefmfhmaa
