/-
  NARROWER THAN 'FOR EVERY INPUT', by the rows' own cells (each row's printed sentence says how): LevelTextsComeBack: laid · LevelTimesComeBack: laid · LevelCurvesComeBack: laid · LevelCurvesMatchSpec: laid · LevelTextsMatchSpec: laid · LevelTimesMatchSpec: laid · LevelTurnsGoOn: laid · LevelReachIsFirst: laid.
  DERIVED. THE GIVEN ROWS OF THIS SEAT. 8 by the template 'for every input the law returns true; each argument reads behind the call as it read before'; 0 by the template 'total and deterministic' (their statements: YtdicoggpcobbpaaDoorTotals.lean).
  GIVEN WITH THE SEED: the statements are not yours to turn. If you find one false, say at which input.
  Laid BY PROGRAM, IN A SANDBOX (cutbox-rows.mjs): the forced cells as the released guide's own fill.sh prints them over the translation a85bdac59cce45ed… (all of the seat's roots in one cut). By AI agents, Wed Nov 11 2026. No macro, syntax, notation, axiom, sorry.
-/
import Derived.Test.YtdicoggpcobbpaaDoorChecked
import GoSem.PinnedTables
import GoSem.Claim
import GoSem.ClaimJoined
import GoSem.ClaimMapViews
import Derived.JoinedTies
import Derived.KernelRfl
namespace Go.Proofs.YtdicoggpcobbpaaDoor
/- THE CELL 'sum', in the pinned program and in every row, IS THE sha256 OF THE DUMP (.gsa) THAT YtdicoggpcobbpaaDoorProg.lean LOADS. Nothing in Lean hashes anything: it is a label: what it is worth is what the hold of that sum in a sandbox is worth. -/
noncomputable def Tryd.pinned : Pinned := { name := "ytdicoggpcobbpaadoor", sum := "a85bdac59cce45eda8f17ceb0ea7052fe69f501ec6899695ada0f6e4b5478416", checked := Tryd.checked }
namespace Rows
def none {H : Type} : Left H := { results := [], args := [] }

/- WHAT THE LISTED PACKAGE-LEVEL VARIABLES READ AS WHEN THE CALL BEGINS. Each datum BY PROGRAM (the guide's laid-datum.mjs) off the statement by which the dump's own 'gosem.cut.vars' lays the variable. In a bare row this is a premise. The card (YtdicoggpcobbpaaDoorCards.lean) ties it to the program's text. -/
def laid_math_bits_deBruijn32tab {H : Type} : DataW H := .agg [.lit (.int .u8 0), .lit (.int .u8 1), .lit (.int .u8 28), .lit (.int .u8 2), .lit (.int .u8 29), .lit (.int .u8 14), .lit (.int .u8 24), .lit (.int .u8 3), .lit (.int .u8 30), .lit (.int .u8 22), .lit (.int .u8 20), .lit (.int .u8 15), .lit (.int .u8 25), .lit (.int .u8 17), .lit (.int .u8 4), .lit (.int .u8 8), .lit (.int .u8 31), .lit (.int .u8 27), .lit (.int .u8 13), .lit (.int .u8 23), .lit (.int .u8 21), .lit (.int .u8 19), .lit (.int .u8 16), .lit (.int .u8 7), .lit (.int .u8 26), .lit (.int .u8 12), .lit (.int .u8 18), .lit (.int .u8 6), .lit (.int .u8 11), .lit (.int .u8 5), .lit (.int .u8 10), .lit (.int .u8 9)]
def laid_math_bits_deBruijn64tab {H : Type} : DataW H := .agg [.lit (.int .u8 0), .lit (.int .u8 1), .lit (.int .u8 56), .lit (.int .u8 2), .lit (.int .u8 57), .lit (.int .u8 49), .lit (.int .u8 28), .lit (.int .u8 3), .lit (.int .u8 61), .lit (.int .u8 58), .lit (.int .u8 42), .lit (.int .u8 50), .lit (.int .u8 38), .lit (.int .u8 29), .lit (.int .u8 17), .lit (.int .u8 4), .lit (.int .u8 62), .lit (.int .u8 47), .lit (.int .u8 59), .lit (.int .u8 36), .lit (.int .u8 45), .lit (.int .u8 43), .lit (.int .u8 51), .lit (.int .u8 22), .lit (.int .u8 53), .lit (.int .u8 39), .lit (.int .u8 33), .lit (.int .u8 30), .lit (.int .u8 24), .lit (.int .u8 18), .lit (.int .u8 12), .lit (.int .u8 5), .lit (.int .u8 63), .lit (.int .u8 55), .lit (.int .u8 48), .lit (.int .u8 27), .lit (.int .u8 60), .lit (.int .u8 41), .lit (.int .u8 37), .lit (.int .u8 16), .lit (.int .u8 46), .lit (.int .u8 35), .lit (.int .u8 44), .lit (.int .u8 21), .lit (.int .u8 52), .lit (.int .u8 32), .lit (.int .u8 23), .lit (.int .u8 11), .lit (.int .u8 54), .lit (.int .u8 26), .lit (.int .u8 40), .lit (.int .u8 15), .lit (.int .u8 34), .lit (.int .u8 20), .lit (.int .u8 31), .lit (.int .u8 10), .lit (.int .u8 25), .lit (.int .u8 14), .lit (.int .u8 19), .lit (.int .u8 9), .lit (.int .u8 13), .lit (.int .u8 8), .lit (.int .u8 7), .lit (.int .u8 6)]
def laid_internal_strconv_uint64pow10 {H : Type} : DataW H := .agg [.lit (.int .u64 1), .lit (.int .u64 10), .lit (.int .u64 100), .lit (.int .u64 1000), .lit (.int .u64 10000), .lit (.int .u64 100000), .lit (.int .u64 1000000), .lit (.int .u64 10000000), .lit (.int .u64 100000000), .lit (.int .u64 1000000000), .lit (.int .u64 10000000000), .lit (.int .u64 100000000000), .lit (.int .u64 1000000000000), .lit (.int .u64 10000000000000), .lit (.int .u64 100000000000000), .lit (.int .u64 1000000000000000), .lit (.int .u64 10000000000000000), .lit (.int .u64 100000000000000000), .lit (.int .u64 1000000000000000000), .lit (.int .u64 10000000000000000000)]
def laid_unicode_utf8_acceptRanges {H : Type} : DataW H := .agg [.agg [.lit (.int .u8 128), .lit (.int .u8 191)], .agg [.lit (.int .u8 160), .lit (.int .u8 191)], .agg [.lit (.int .u8 128), .lit (.int .u8 159)], .agg [.lit (.int .u8 144), .lit (.int .u8 191)], .agg [.lit (.int .u8 128), .lit (.int .u8 143)], .agg [.lit (.int .u8 0), .lit (.int .u8 0)], .agg [.lit (.int .u8 0), .lit (.int .u8 0)], .agg [.lit (.int .u8 0), .lit (.int .u8 0)], .agg [.lit (.int .u8 0), .lit (.int .u8 0)], .agg [.lit (.int .u8 0), .lit (.int .u8 0)], .agg [.lit (.int .u8 0), .lit (.int .u8 0)], .agg [.lit (.int .u8 0), .lit (.int .u8 0)], .agg [.lit (.int .u8 0), .lit (.int .u8 0)], .agg [.lit (.int .u8 0), .lit (.int .u8 0)], .agg [.lit (.int .u8 0), .lit (.int .u8 0)], .agg [.lit (.int .u8 0), .lit (.int .u8 0)]]
def laid_strconv_ErrRange {H : Type} : DataW H := .iface "*errors.errorString" (.ptr (.agg [.lit (.string [118, 97, 108, 117, 101, 32, 111, 117, 116, 32, 111, 102, 32, 114, 97, 110, 103, 101])]))
def laid_strconv_ErrSyntax {H : Type} : DataW H := .iface "*errors.errorString" (.ptr (.agg [.lit (.string [105, 110, 118, 97, 108, 105, 100, 32, 115, 121, 110, 116, 97, 120])]))
/-- One of Go's own tables, pinned by name: the form's constant. -/
def laid_unicode_utf8_first : DataW Unit := Go.Pinned.utf8First

/-- 'cycloramalaw1.LevelTextsComeBack': WHATEVER THE INPUT: true; the input reads as it did. -/
def levelTextsComeBackSpec : ChangeSpec := { name := "levelTextsComeBack", fn := fun _ => fun
  | [d] => { results := [.lit (.bool true)], args := [d] }
  | _ => none }
def levelTextsComeBackRow : OpenClaim := { program := "ytdicoggpcobbpaadoor", sum := "a85bdac59cce45eda8f17ceb0ea7052fe69f501ec6899695ada0f6e4b5478416", func := "cyclorama/cycloramalaw1.LevelTextsComeBack", spec := "levelTextsComeBack", inPlace := ["internal/bytealg.IndexByteString", "internal/bytealg.IndexString"], named := ["internal/strconv.uint64pow10", "math/bits.deBruijn32tab", "math/bits.deBruijn64tab", "unicode/utf8.first", "unicode/utf8.acceptRanges", "strconv.ErrSyntax", "strconv.ErrRange", "internal/bytealg.MaxLen"], apart := false, laid := [("math/bits.deBruijn32tab", laid_math_bits_deBruijn32tab), ("math/bits.deBruijn64tab", laid_math_bits_deBruijn64tab), ("internal/strconv.uint64pow10", laid_internal_strconv_uint64pow10), ("unicode/utf8.acceptRanges", laid_unicode_utf8_acceptRanges), ("strconv.ErrRange", laid_strconv_ErrRange), ("strconv.ErrSyntax", laid_strconv_ErrSyntax), ("unicode/utf8.first", laid_unicode_utf8_first)] }
def LevelTextsComeBackSaid : Prop := levelTextsComeBackRow.holds Tryd.pinned (OpenSpec.ofChange levelTextsComeBackSpec)

/-- ITS FALSE NEIGHBOUR: 'it returns false'. Refute it at one input. -/
def levelTextsComeBackWrong : ChangeSpec := { name := "levelTextsComeBack", fn := fun _ => fun
  | [d] => { results := [.lit (.bool false)], args := [d] }
  | _ => none }
def LevelTextsComeBackWrongFalsely : Prop := levelTextsComeBackRow.holds Tryd.pinned (OpenSpec.ofChange levelTextsComeBackWrong)

/-- 'cycloramalaw1.LevelTimesComeBack': WHATEVER THE INPUT: true; the input reads as it did. -/
def levelTimesComeBackSpec : ChangeSpec := { name := "levelTimesComeBack", fn := fun _ => fun
  | [d1, d2] => { results := [.lit (.bool true)], args := [d1, d2] }
  | _ => none }
def levelTimesComeBackRow : OpenClaim := { program := "ytdicoggpcobbpaadoor", sum := "a85bdac59cce45eda8f17ceb0ea7052fe69f501ec6899695ada0f6e4b5478416", func := "cyclorama/cycloramalaw1.LevelTimesComeBack", spec := "levelTimesComeBack", inPlace := ["internal/bytealg.IndexByteString", "internal/bytealg.IndexString"], named := ["internal/strconv.uint64pow10", "math/bits.deBruijn32tab", "math/bits.deBruijn64tab", "unicode/utf8.first", "unicode/utf8.acceptRanges", "internal/bytealg.MaxLen", "strconv.ErrSyntax", "strconv.ErrRange"], apart := false, laid := [("math/bits.deBruijn32tab", laid_math_bits_deBruijn32tab), ("math/bits.deBruijn64tab", laid_math_bits_deBruijn64tab), ("internal/strconv.uint64pow10", laid_internal_strconv_uint64pow10), ("unicode/utf8.acceptRanges", laid_unicode_utf8_acceptRanges), ("strconv.ErrRange", laid_strconv_ErrRange), ("strconv.ErrSyntax", laid_strconv_ErrSyntax), ("unicode/utf8.first", laid_unicode_utf8_first)] }
def LevelTimesComeBackSaid : Prop := levelTimesComeBackRow.holds Tryd.pinned (OpenSpec.ofChange levelTimesComeBackSpec)

/-- ITS FALSE NEIGHBOUR: 'it returns false'. Refute it at one input. -/
def levelTimesComeBackWrong : ChangeSpec := { name := "levelTimesComeBack", fn := fun _ => fun
  | [d1, d2] => { results := [.lit (.bool false)], args := [d1, d2] }
  | _ => none }
def LevelTimesComeBackWrongFalsely : Prop := levelTimesComeBackRow.holds Tryd.pinned (OpenSpec.ofChange levelTimesComeBackWrong)

/-- 'cycloramalaw1.LevelCurvesComeBack': WHATEVER THE INPUT: true; the input reads as it did. -/
def levelCurvesComeBackSpec : ChangeSpec := { name := "levelCurvesComeBack", fn := fun _ => fun
  | [d1, d2] => { results := [.lit (.bool true)], args := [d1, d2] }
  | _ => none }
def levelCurvesComeBackRow : OpenClaim := { program := "ytdicoggpcobbpaadoor", sum := "a85bdac59cce45eda8f17ceb0ea7052fe69f501ec6899695ada0f6e4b5478416", func := "cyclorama/cycloramalaw1.LevelCurvesComeBack", spec := "levelCurvesComeBack", inPlace := ["internal/bytealg.CountString", "internal/bytealg.IndexByteString", "internal/bytealg.IndexString"], named := ["internal/strconv.uint64pow10", "math/bits.deBruijn32tab", "math/bits.deBruijn64tab", "unicode/utf8.first", "unicode/utf8.acceptRanges", "internal/bytealg.MaxLen", "strconv.ErrSyntax", "strconv.ErrRange"], apart := false, laid := [("math/bits.deBruijn32tab", laid_math_bits_deBruijn32tab), ("math/bits.deBruijn64tab", laid_math_bits_deBruijn64tab), ("internal/strconv.uint64pow10", laid_internal_strconv_uint64pow10), ("unicode/utf8.acceptRanges", laid_unicode_utf8_acceptRanges), ("strconv.ErrRange", laid_strconv_ErrRange), ("strconv.ErrSyntax", laid_strconv_ErrSyntax), ("unicode/utf8.first", laid_unicode_utf8_first)] }
def LevelCurvesComeBackSaid : Prop := levelCurvesComeBackRow.holds Tryd.pinned (OpenSpec.ofChange levelCurvesComeBackSpec)

/-- ITS FALSE NEIGHBOUR: 'it returns false'. Refute it at one input. -/
def levelCurvesComeBackWrong : ChangeSpec := { name := "levelCurvesComeBack", fn := fun _ => fun
  | [d1, d2] => { results := [.lit (.bool false)], args := [d1, d2] }
  | _ => none }
def LevelCurvesComeBackWrongFalsely : Prop := levelCurvesComeBackRow.holds Tryd.pinned (OpenSpec.ofChange levelCurvesComeBackWrong)

/-- 'cycloramalaw1.LevelCurvesMatchSpec': WHATEVER THE INPUT: true; the input reads as it did. -/
def levelCurvesMatchSpecSpec : ChangeSpec := { name := "levelCurvesMatchSpec", fn := fun _ => fun
  | [d1, d2] => { results := [.lit (.bool true)], args := [d1, d2] }
  | _ => none }
def levelCurvesMatchSpecRow : OpenClaim := { program := "ytdicoggpcobbpaadoor", sum := "a85bdac59cce45eda8f17ceb0ea7052fe69f501ec6899695ada0f6e4b5478416", func := "cyclorama/cycloramalaw1.LevelCurvesMatchSpec", spec := "levelCurvesMatchSpec", inPlace := ["internal/bytealg.CountString", "internal/bytealg.IndexByteString", "internal/bytealg.IndexString"], named := ["internal/strconv.uint64pow10", "math/bits.deBruijn32tab", "math/bits.deBruijn64tab", "unicode/utf8.first", "unicode/utf8.acceptRanges", "internal/bytealg.MaxLen", "strconv.ErrSyntax", "strconv.ErrRange"], apart := false, laid := [("math/bits.deBruijn32tab", laid_math_bits_deBruijn32tab), ("math/bits.deBruijn64tab", laid_math_bits_deBruijn64tab), ("internal/strconv.uint64pow10", laid_internal_strconv_uint64pow10), ("unicode/utf8.acceptRanges", laid_unicode_utf8_acceptRanges), ("strconv.ErrRange", laid_strconv_ErrRange), ("strconv.ErrSyntax", laid_strconv_ErrSyntax), ("unicode/utf8.first", laid_unicode_utf8_first)] }
def LevelCurvesMatchSpecSaid : Prop := levelCurvesMatchSpecRow.holds Tryd.pinned (OpenSpec.ofChange levelCurvesMatchSpecSpec)

/-- ITS FALSE NEIGHBOUR: 'it returns false'. Refute it at one input. -/
def levelCurvesMatchSpecWrong : ChangeSpec := { name := "levelCurvesMatchSpec", fn := fun _ => fun
  | [d1, d2] => { results := [.lit (.bool false)], args := [d1, d2] }
  | _ => none }
def LevelCurvesMatchSpecWrongFalsely : Prop := levelCurvesMatchSpecRow.holds Tryd.pinned (OpenSpec.ofChange levelCurvesMatchSpecWrong)

/-- 'cycloramalaw1.LevelTextsMatchSpec': WHATEVER THE INPUT: true; the input reads as it did. -/
def levelTextsMatchSpecSpec : ChangeSpec := { name := "levelTextsMatchSpec", fn := fun _ => fun
  | [d1, d2] => { results := [.lit (.bool true)], args := [d1, d2] }
  | _ => none }
def levelTextsMatchSpecRow : OpenClaim := { program := "ytdicoggpcobbpaadoor", sum := "a85bdac59cce45eda8f17ceb0ea7052fe69f501ec6899695ada0f6e4b5478416", func := "cyclorama/cycloramalaw1.LevelTextsMatchSpec", spec := "levelTextsMatchSpec", inPlace := ["internal/bytealg.IndexByteString", "internal/bytealg.IndexString", "internal/abi.NoEscape", "internal/bytealg.MakeNoZero"], named := ["internal/strconv.uint64pow10", "math/bits.deBruijn32tab", "math/bits.deBruijn64tab", "unicode/utf8.first", "unicode/utf8.acceptRanges", "strconv.ErrSyntax", "strconv.ErrRange", "internal/bytealg.MaxLen"], apart := false, laid := [("math/bits.deBruijn32tab", laid_math_bits_deBruijn32tab), ("math/bits.deBruijn64tab", laid_math_bits_deBruijn64tab), ("internal/strconv.uint64pow10", laid_internal_strconv_uint64pow10), ("unicode/utf8.acceptRanges", laid_unicode_utf8_acceptRanges), ("strconv.ErrRange", laid_strconv_ErrRange), ("strconv.ErrSyntax", laid_strconv_ErrSyntax), ("unicode/utf8.first", laid_unicode_utf8_first)] }
def LevelTextsMatchSpecSaid : Prop := levelTextsMatchSpecRow.holds Tryd.pinned (OpenSpec.ofChange levelTextsMatchSpecSpec)

/-- ITS FALSE NEIGHBOUR: 'it returns false'. Refute it at one input. -/
def levelTextsMatchSpecWrong : ChangeSpec := { name := "levelTextsMatchSpec", fn := fun _ => fun
  | [d1, d2] => { results := [.lit (.bool false)], args := [d1, d2] }
  | _ => none }
def LevelTextsMatchSpecWrongFalsely : Prop := levelTextsMatchSpecRow.holds Tryd.pinned (OpenSpec.ofChange levelTextsMatchSpecWrong)

/-- 'cycloramalaw1.LevelTimesMatchSpec': WHATEVER THE INPUT: true; the input reads as it did. -/
def levelTimesMatchSpecSpec : ChangeSpec := { name := "levelTimesMatchSpec", fn := fun _ => fun
  | [d1, d2] => { results := [.lit (.bool true)], args := [d1, d2] }
  | _ => none }
def levelTimesMatchSpecRow : OpenClaim := { program := "ytdicoggpcobbpaadoor", sum := "a85bdac59cce45eda8f17ceb0ea7052fe69f501ec6899695ada0f6e4b5478416", func := "cyclorama/cycloramalaw1.LevelTimesMatchSpec", spec := "levelTimesMatchSpec", inPlace := ["internal/bytealg.IndexByteString", "internal/bytealg.IndexString", "internal/abi.NoEscape", "internal/bytealg.MakeNoZero"], named := ["internal/strconv.uint64pow10", "math/bits.deBruijn32tab", "math/bits.deBruijn64tab", "unicode/utf8.first", "unicode/utf8.acceptRanges", "internal/bytealg.MaxLen", "strconv.ErrSyntax", "strconv.ErrRange"], apart := false, laid := [("math/bits.deBruijn32tab", laid_math_bits_deBruijn32tab), ("math/bits.deBruijn64tab", laid_math_bits_deBruijn64tab), ("internal/strconv.uint64pow10", laid_internal_strconv_uint64pow10), ("unicode/utf8.acceptRanges", laid_unicode_utf8_acceptRanges), ("strconv.ErrRange", laid_strconv_ErrRange), ("strconv.ErrSyntax", laid_strconv_ErrSyntax), ("unicode/utf8.first", laid_unicode_utf8_first)] }
def LevelTimesMatchSpecSaid : Prop := levelTimesMatchSpecRow.holds Tryd.pinned (OpenSpec.ofChange levelTimesMatchSpecSpec)

/-- ITS FALSE NEIGHBOUR: 'it returns false'. Refute it at one input. -/
def levelTimesMatchSpecWrong : ChangeSpec := { name := "levelTimesMatchSpec", fn := fun _ => fun
  | [d1, d2] => { results := [.lit (.bool false)], args := [d1, d2] }
  | _ => none }
def LevelTimesMatchSpecWrongFalsely : Prop := levelTimesMatchSpecRow.holds Tryd.pinned (OpenSpec.ofChange levelTimesMatchSpecWrong)

/-- 'cycloramalaw1.LevelTurnsGoOn': WHATEVER THE INPUT: true; the input reads as it did. -/
def levelTurnsGoOnSpec : ChangeSpec := { name := "levelTurnsGoOn", fn := fun _ => fun
  | [d1, d2, d3, d4, d5, d6] => { results := [.lit (.bool true)], args := [d1, d2, d3, d4, d5, d6] }
  | _ => none }
def levelTurnsGoOnRow : OpenClaim := { program := "ytdicoggpcobbpaadoor", sum := "a85bdac59cce45eda8f17ceb0ea7052fe69f501ec6899695ada0f6e4b5478416", func := "cyclorama/cycloramalaw1.LevelTurnsGoOn", spec := "levelTurnsGoOn", inPlace := ["math/bits.Add64", "internal/bytealg.IndexByteString", "internal/bytealg.IndexString"], named := ["internal/strconv.uint64pow10", "math/bits.deBruijn32tab", "math/bits.deBruijn64tab", "unicode/utf8.first", "unicode/utf8.acceptRanges", "internal/bytealg.MaxLen", "strconv.ErrSyntax", "strconv.ErrRange"], apart := false, laid := [("math/bits.deBruijn32tab", laid_math_bits_deBruijn32tab), ("math/bits.deBruijn64tab", laid_math_bits_deBruijn64tab), ("internal/strconv.uint64pow10", laid_internal_strconv_uint64pow10), ("unicode/utf8.acceptRanges", laid_unicode_utf8_acceptRanges), ("strconv.ErrRange", laid_strconv_ErrRange), ("strconv.ErrSyntax", laid_strconv_ErrSyntax), ("unicode/utf8.first", laid_unicode_utf8_first)] }
def LevelTurnsGoOnSaid : Prop := levelTurnsGoOnRow.holds Tryd.pinned (OpenSpec.ofChange levelTurnsGoOnSpec)

/-- ITS FALSE NEIGHBOUR: 'it returns false'. Refute it at one input. -/
def levelTurnsGoOnWrong : ChangeSpec := { name := "levelTurnsGoOn", fn := fun _ => fun
  | [d1, d2, d3, d4, d5, d6] => { results := [.lit (.bool false)], args := [d1, d2, d3, d4, d5, d6] }
  | _ => none }
def LevelTurnsGoOnWrongFalsely : Prop := levelTurnsGoOnRow.holds Tryd.pinned (OpenSpec.ofChange levelTurnsGoOnWrong)

/-- 'cycloramalaw1.LevelReachIsFirst': WHATEVER THE INPUT: true; the input reads as it did. -/
def levelReachIsFirstSpec : ChangeSpec := { name := "levelReachIsFirst", fn := fun _ => fun
  | [d1, d2] => { results := [.lit (.bool true)], args := [d1, d2] }
  | _ => none }
def levelReachIsFirstRow : OpenClaim := { program := "ytdicoggpcobbpaadoor", sum := "a85bdac59cce45eda8f17ceb0ea7052fe69f501ec6899695ada0f6e4b5478416", func := "cyclorama/cycloramalaw1.LevelReachIsFirst", spec := "levelReachIsFirst", inPlace := ["math/bits.Add64", "internal/bytealg.IndexByteString", "internal/bytealg.IndexString"], unfollowed := true, recurses := true, named := ["internal/strconv.uint64pow10", "math/bits.deBruijn32tab", "math/bits.deBruijn64tab", "unicode/utf8.first", "unicode/utf8.acceptRanges", "internal/bytealg.MaxLen", "strconv.ErrSyntax", "strconv.ErrRange"], apart := false, laid := [("math/bits.deBruijn32tab", laid_math_bits_deBruijn32tab), ("math/bits.deBruijn64tab", laid_math_bits_deBruijn64tab), ("internal/strconv.uint64pow10", laid_internal_strconv_uint64pow10), ("unicode/utf8.acceptRanges", laid_unicode_utf8_acceptRanges), ("strconv.ErrRange", laid_strconv_ErrRange), ("strconv.ErrSyntax", laid_strconv_ErrSyntax), ("unicode/utf8.first", laid_unicode_utf8_first)] }
def LevelReachIsFirstSaid : Prop := levelReachIsFirstRow.holds Tryd.pinned (OpenSpec.ofChange levelReachIsFirstSpec)

/-- ITS FALSE NEIGHBOUR: 'it returns false'. Refute it at one input. -/
def levelReachIsFirstWrong : ChangeSpec := { name := "levelReachIsFirst", fn := fun _ => fun
  | [d1, d2] => { results := [.lit (.bool false)], args := [d1, d2] }
  | _ => none }
def LevelReachIsFirstWrongFalsely : Prop := levelReachIsFirstRow.holds Tryd.pinned (OpenSpec.ofChange levelReachIsFirstWrong)

/- THE SECOND FORM. 'bulk': how many values and letters a reading holds, each counted each time it is reached (what is shared counts as often as it is met; a slice's spare places count too). A statement '..UptoSaid' is the law's where the arguments, and the package variables that the reading takes, are together of bulk at most 1048576: NARROWER than '..Said'. Prove '..Said' where nothing that the law and all that it calls make is longer than what came in: it says more and counts as full. Else prove '..UptoSaid'. A law counts once. -/
mutual
def uptoBulk {H : Type} : DataW H → Nat
  | .lit (.string bytes) => bytes.length + 1
  | .lit _ => 1
  | .nil => 1
  | .ptr d => uptoBulk d + 1
  | .slice elems spare => uptoBulkAll elems + uptoBulkAll spare + 1
  | .agg parts => uptoBulkAll parts + 1
  | .iface _ d => uptoBulk d + 1
  | .map entries => uptoBulkEntries entries + 1
  | .held _ => 1
def uptoBulkAll {H : Type} : List (DataW H) → Nat
  | [] => 0
  | d :: r => uptoBulk d + uptoBulkAll r
def uptoBulkEntries {H : Type} : List (Lit × DataW H) → Nat
  | [] => 0
  | x :: r => uptoBulkEntry x + uptoBulkEntries r
def uptoBulkEntry {H : Type} : Lit × DataW H → Nat
  | (.string bytes, d) => bytes.length + uptoBulk d + 1
  | (_, d) => uptoBulk d + 1
 end
def uptoSmall : (H : Type) → List (DataW H) → Bool := fun _ ds => decide (uptoBulkAll ds ≤ 1048576)
def OpenSpec.upto (s : _root_.Go.ChangeSpec) : _root_.Go.OpenSpec := { _root_.Go.OpenSpec.ofChange s with cond := some uptoSmall }

/-- 'cycloramalaw1.LevelTextsComeBack', WHERE WHAT IT READS IS OF BULK AT MOST 1048576: true; the input reads as it did. -/
def levelTextsComeBackUptoRow : OpenClaim := { program := "ytdicoggpcobbpaadoor", sum := "a85bdac59cce45eda8f17ceb0ea7052fe69f501ec6899695ada0f6e4b5478416", func := "cyclorama/cycloramalaw1.LevelTextsComeBack", spec := "levelTextsComeBack", inPlace := ["internal/bytealg.IndexByteString", "internal/bytealg.IndexString"], named := ["internal/strconv.uint64pow10", "math/bits.deBruijn32tab", "math/bits.deBruijn64tab", "unicode/utf8.first", "unicode/utf8.acceptRanges", "strconv.ErrSyntax", "strconv.ErrRange", "internal/bytealg.MaxLen"], apart := false, laid := [("math/bits.deBruijn32tab", laid_math_bits_deBruijn32tab), ("math/bits.deBruijn64tab", laid_math_bits_deBruijn64tab), ("internal/strconv.uint64pow10", laid_internal_strconv_uint64pow10), ("unicode/utf8.acceptRanges", laid_unicode_utf8_acceptRanges), ("strconv.ErrRange", laid_strconv_ErrRange), ("strconv.ErrSyntax", laid_strconv_ErrSyntax), ("unicode/utf8.first", laid_unicode_utf8_first)], narrowed := true }
def LevelTextsComeBackUptoSaid : Prop := levelTextsComeBackUptoRow.holds Tryd.pinned (OpenSpec.upto levelTextsComeBackSpec)

/-- 'cycloramalaw1.LevelTimesComeBack', WHERE WHAT IT READS IS OF BULK AT MOST 1048576: true; the input reads as it did. -/
def levelTimesComeBackUptoRow : OpenClaim := { program := "ytdicoggpcobbpaadoor", sum := "a85bdac59cce45eda8f17ceb0ea7052fe69f501ec6899695ada0f6e4b5478416", func := "cyclorama/cycloramalaw1.LevelTimesComeBack", spec := "levelTimesComeBack", inPlace := ["internal/bytealg.IndexByteString", "internal/bytealg.IndexString"], named := ["internal/strconv.uint64pow10", "math/bits.deBruijn32tab", "math/bits.deBruijn64tab", "unicode/utf8.first", "unicode/utf8.acceptRanges", "internal/bytealg.MaxLen", "strconv.ErrSyntax", "strconv.ErrRange"], apart := false, laid := [("math/bits.deBruijn32tab", laid_math_bits_deBruijn32tab), ("math/bits.deBruijn64tab", laid_math_bits_deBruijn64tab), ("internal/strconv.uint64pow10", laid_internal_strconv_uint64pow10), ("unicode/utf8.acceptRanges", laid_unicode_utf8_acceptRanges), ("strconv.ErrRange", laid_strconv_ErrRange), ("strconv.ErrSyntax", laid_strconv_ErrSyntax), ("unicode/utf8.first", laid_unicode_utf8_first)], narrowed := true }
def LevelTimesComeBackUptoSaid : Prop := levelTimesComeBackUptoRow.holds Tryd.pinned (OpenSpec.upto levelTimesComeBackSpec)

/-- 'cycloramalaw1.LevelCurvesComeBack', WHERE WHAT IT READS IS OF BULK AT MOST 1048576: true; the input reads as it did. -/
def levelCurvesComeBackUptoRow : OpenClaim := { program := "ytdicoggpcobbpaadoor", sum := "a85bdac59cce45eda8f17ceb0ea7052fe69f501ec6899695ada0f6e4b5478416", func := "cyclorama/cycloramalaw1.LevelCurvesComeBack", spec := "levelCurvesComeBack", inPlace := ["internal/bytealg.CountString", "internal/bytealg.IndexByteString", "internal/bytealg.IndexString"], named := ["internal/strconv.uint64pow10", "math/bits.deBruijn32tab", "math/bits.deBruijn64tab", "unicode/utf8.first", "unicode/utf8.acceptRanges", "internal/bytealg.MaxLen", "strconv.ErrSyntax", "strconv.ErrRange"], apart := false, laid := [("math/bits.deBruijn32tab", laid_math_bits_deBruijn32tab), ("math/bits.deBruijn64tab", laid_math_bits_deBruijn64tab), ("internal/strconv.uint64pow10", laid_internal_strconv_uint64pow10), ("unicode/utf8.acceptRanges", laid_unicode_utf8_acceptRanges), ("strconv.ErrRange", laid_strconv_ErrRange), ("strconv.ErrSyntax", laid_strconv_ErrSyntax), ("unicode/utf8.first", laid_unicode_utf8_first)], narrowed := true }
def LevelCurvesComeBackUptoSaid : Prop := levelCurvesComeBackUptoRow.holds Tryd.pinned (OpenSpec.upto levelCurvesComeBackSpec)

/-- 'cycloramalaw1.LevelCurvesMatchSpec', WHERE WHAT IT READS IS OF BULK AT MOST 1048576: true; the input reads as it did. -/
def levelCurvesMatchSpecUptoRow : OpenClaim := { program := "ytdicoggpcobbpaadoor", sum := "a85bdac59cce45eda8f17ceb0ea7052fe69f501ec6899695ada0f6e4b5478416", func := "cyclorama/cycloramalaw1.LevelCurvesMatchSpec", spec := "levelCurvesMatchSpec", inPlace := ["internal/bytealg.CountString", "internal/bytealg.IndexByteString", "internal/bytealg.IndexString"], named := ["internal/strconv.uint64pow10", "math/bits.deBruijn32tab", "math/bits.deBruijn64tab", "unicode/utf8.first", "unicode/utf8.acceptRanges", "internal/bytealg.MaxLen", "strconv.ErrSyntax", "strconv.ErrRange"], apart := false, laid := [("math/bits.deBruijn32tab", laid_math_bits_deBruijn32tab), ("math/bits.deBruijn64tab", laid_math_bits_deBruijn64tab), ("internal/strconv.uint64pow10", laid_internal_strconv_uint64pow10), ("unicode/utf8.acceptRanges", laid_unicode_utf8_acceptRanges), ("strconv.ErrRange", laid_strconv_ErrRange), ("strconv.ErrSyntax", laid_strconv_ErrSyntax), ("unicode/utf8.first", laid_unicode_utf8_first)], narrowed := true }
def LevelCurvesMatchSpecUptoSaid : Prop := levelCurvesMatchSpecUptoRow.holds Tryd.pinned (OpenSpec.upto levelCurvesMatchSpecSpec)

/-- 'cycloramalaw1.LevelTextsMatchSpec', WHERE WHAT IT READS IS OF BULK AT MOST 1048576: true; the input reads as it did. -/
def levelTextsMatchSpecUptoRow : OpenClaim := { program := "ytdicoggpcobbpaadoor", sum := "a85bdac59cce45eda8f17ceb0ea7052fe69f501ec6899695ada0f6e4b5478416", func := "cyclorama/cycloramalaw1.LevelTextsMatchSpec", spec := "levelTextsMatchSpec", inPlace := ["internal/bytealg.IndexByteString", "internal/bytealg.IndexString", "internal/abi.NoEscape", "internal/bytealg.MakeNoZero"], named := ["internal/strconv.uint64pow10", "math/bits.deBruijn32tab", "math/bits.deBruijn64tab", "unicode/utf8.first", "unicode/utf8.acceptRanges", "strconv.ErrSyntax", "strconv.ErrRange", "internal/bytealg.MaxLen"], apart := false, laid := [("math/bits.deBruijn32tab", laid_math_bits_deBruijn32tab), ("math/bits.deBruijn64tab", laid_math_bits_deBruijn64tab), ("internal/strconv.uint64pow10", laid_internal_strconv_uint64pow10), ("unicode/utf8.acceptRanges", laid_unicode_utf8_acceptRanges), ("strconv.ErrRange", laid_strconv_ErrRange), ("strconv.ErrSyntax", laid_strconv_ErrSyntax), ("unicode/utf8.first", laid_unicode_utf8_first)], narrowed := true }
def LevelTextsMatchSpecUptoSaid : Prop := levelTextsMatchSpecUptoRow.holds Tryd.pinned (OpenSpec.upto levelTextsMatchSpecSpec)

/-- 'cycloramalaw1.LevelTimesMatchSpec', WHERE WHAT IT READS IS OF BULK AT MOST 1048576: true; the input reads as it did. -/
def levelTimesMatchSpecUptoRow : OpenClaim := { program := "ytdicoggpcobbpaadoor", sum := "a85bdac59cce45eda8f17ceb0ea7052fe69f501ec6899695ada0f6e4b5478416", func := "cyclorama/cycloramalaw1.LevelTimesMatchSpec", spec := "levelTimesMatchSpec", inPlace := ["internal/bytealg.IndexByteString", "internal/bytealg.IndexString", "internal/abi.NoEscape", "internal/bytealg.MakeNoZero"], named := ["internal/strconv.uint64pow10", "math/bits.deBruijn32tab", "math/bits.deBruijn64tab", "unicode/utf8.first", "unicode/utf8.acceptRanges", "internal/bytealg.MaxLen", "strconv.ErrSyntax", "strconv.ErrRange"], apart := false, laid := [("math/bits.deBruijn32tab", laid_math_bits_deBruijn32tab), ("math/bits.deBruijn64tab", laid_math_bits_deBruijn64tab), ("internal/strconv.uint64pow10", laid_internal_strconv_uint64pow10), ("unicode/utf8.acceptRanges", laid_unicode_utf8_acceptRanges), ("strconv.ErrRange", laid_strconv_ErrRange), ("strconv.ErrSyntax", laid_strconv_ErrSyntax), ("unicode/utf8.first", laid_unicode_utf8_first)], narrowed := true }
def LevelTimesMatchSpecUptoSaid : Prop := levelTimesMatchSpecUptoRow.holds Tryd.pinned (OpenSpec.upto levelTimesMatchSpecSpec)

/-- 'cycloramalaw1.LevelTurnsGoOn', WHERE WHAT IT READS IS OF BULK AT MOST 1048576: true; the input reads as it did. -/
def levelTurnsGoOnUptoRow : OpenClaim := { program := "ytdicoggpcobbpaadoor", sum := "a85bdac59cce45eda8f17ceb0ea7052fe69f501ec6899695ada0f6e4b5478416", func := "cyclorama/cycloramalaw1.LevelTurnsGoOn", spec := "levelTurnsGoOn", inPlace := ["math/bits.Add64", "internal/bytealg.IndexByteString", "internal/bytealg.IndexString"], named := ["internal/strconv.uint64pow10", "math/bits.deBruijn32tab", "math/bits.deBruijn64tab", "unicode/utf8.first", "unicode/utf8.acceptRanges", "internal/bytealg.MaxLen", "strconv.ErrSyntax", "strconv.ErrRange"], apart := false, laid := [("math/bits.deBruijn32tab", laid_math_bits_deBruijn32tab), ("math/bits.deBruijn64tab", laid_math_bits_deBruijn64tab), ("internal/strconv.uint64pow10", laid_internal_strconv_uint64pow10), ("unicode/utf8.acceptRanges", laid_unicode_utf8_acceptRanges), ("strconv.ErrRange", laid_strconv_ErrRange), ("strconv.ErrSyntax", laid_strconv_ErrSyntax), ("unicode/utf8.first", laid_unicode_utf8_first)], narrowed := true }
def LevelTurnsGoOnUptoSaid : Prop := levelTurnsGoOnUptoRow.holds Tryd.pinned (OpenSpec.upto levelTurnsGoOnSpec)

/-- 'cycloramalaw1.LevelReachIsFirst', WHERE WHAT IT READS IS OF BULK AT MOST 1048576: true; the input reads as it did. -/
def levelReachIsFirstUptoRow : OpenClaim := { program := "ytdicoggpcobbpaadoor", sum := "a85bdac59cce45eda8f17ceb0ea7052fe69f501ec6899695ada0f6e4b5478416", func := "cyclorama/cycloramalaw1.LevelReachIsFirst", spec := "levelReachIsFirst", inPlace := ["math/bits.Add64", "internal/bytealg.IndexByteString", "internal/bytealg.IndexString"], unfollowed := true, recurses := true, named := ["internal/strconv.uint64pow10", "math/bits.deBruijn32tab", "math/bits.deBruijn64tab", "unicode/utf8.first", "unicode/utf8.acceptRanges", "internal/bytealg.MaxLen", "strconv.ErrSyntax", "strconv.ErrRange"], apart := false, laid := [("math/bits.deBruijn32tab", laid_math_bits_deBruijn32tab), ("math/bits.deBruijn64tab", laid_math_bits_deBruijn64tab), ("internal/strconv.uint64pow10", laid_internal_strconv_uint64pow10), ("unicode/utf8.acceptRanges", laid_unicode_utf8_acceptRanges), ("strconv.ErrRange", laid_strconv_ErrRange), ("strconv.ErrSyntax", laid_strconv_ErrSyntax), ("unicode/utf8.first", laid_unicode_utf8_first)], narrowed := true }
def LevelReachIsFirstUptoSaid : Prop := levelReachIsFirstUptoRow.holds Tryd.pinned (OpenSpec.upto levelReachIsFirstSpec)

end Rows
end Go.Proofs.YtdicoggpcobbpaaDoor
