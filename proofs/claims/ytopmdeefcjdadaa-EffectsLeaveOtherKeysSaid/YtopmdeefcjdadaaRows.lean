/-
  No cell of these rows narrows 'for every input' (looked for: loops, veiled, ifaces, maps, wideKeys, modest, calm, conditions, laid).
  DERIVED. THE GIVEN ROWS OF THIS SEAT. 6 by the template 'for every input the law returns true; each argument reads behind the call as it read before'; 0 by the template 'total and deterministic' (their statements: YtopmdeefcjdadaaTotals.lean).
  GIVEN WITH THE SEED: the statements are not yours to turn. If you find one false, say at which input.
  Laid BY PROGRAM, IN A SANDBOX (cutbox-rows.mjs): the forced cells as the released guide's own fill.sh prints them over the translation a7bb37496f479f20… (all of the seat's roots in one cut). By AI agents, Wed Nov 11 2026. No macro, syntax, notation, axiom, sorry.
-/
import Derived.Test.YtopmdeefcjdadaaChecked
import GoSem.Claim
import GoSem.ClaimJoined
import GoSem.ClaimMapViews
import Derived.JoinedTies
import Derived.KernelRfl
namespace Go.Proofs.Ytopmdeefcjdadaa
/- THE CELL 'sum', in the pinned program and in every row, IS THE sha256 OF THE DUMP (.gsa) THAT YtopmdeefcjdadaaProg.lean LOADS. Nothing in Lean hashes anything: it is a label: what it is worth is what the hold of that sum in a sandbox is worth. -/
noncomputable def Try.pinned : Pinned := { name := "ytopmdeefcjdadaa", sum := "a7bb37496f479f2026413edd2e88ca576c9b868eb9c3954e11602237791c8f67", checked := Try.checked }
namespace Rows
def none {H : Type} : Left H := { results := [], args := [] }

/-- 'cycloramalaw7.EffectsKeepTheirPast': WHATEVER THE INPUT: true; the input reads as it did. -/
def effectsKeepTheirPastSpec : ChangeSpec := { name := "effectsKeepTheirPast", fn := fun _ => fun
  | [d1, d2, d3, d4] => { results := [.lit (.bool true)], args := [d1, d2, d3, d4] }
  | _ => none }
def effectsKeepTheirPastRow : OpenClaim := { program := "ytopmdeefcjdadaa", sum := "a7bb37496f479f2026413edd2e88ca576c9b868eb9c3954e11602237791c8f67", func := "cyclorama/cycloramalaw7.EffectsKeepTheirPast", spec := "effectsKeepTheirPast", unfollowed := true, recurses := true, plainKeys := false, apart := false }
def EffectsKeepTheirPastSaid : Prop := effectsKeepTheirPastRow.holds Try.pinned (OpenSpec.ofChange effectsKeepTheirPastSpec)

/-- ITS FALSE NEIGHBOUR: 'it returns false'. Refute it at one input. -/
def effectsKeepTheirPastWrong : ChangeSpec := { name := "effectsKeepTheirPast", fn := fun _ => fun
  | [d1, d2, d3, d4] => { results := [.lit (.bool false)], args := [d1, d2, d3, d4] }
  | _ => none }
def EffectsKeepTheirPastWrongFalsely : Prop := effectsKeepTheirPastRow.holds Try.pinned (OpenSpec.ofChange effectsKeepTheirPastWrong)

/-- 'cycloramalaw7.EffectClocksMatchSpec': WHATEVER THE INPUT: true; the input reads as it did. -/
def effectClocksMatchSpecSpec : ChangeSpec := { name := "effectClocksMatchSpec", fn := fun _ => fun
  | [d1, d2, d3, d4] => { results := [.lit (.bool true)], args := [d1, d2, d3, d4] }
  | _ => none }
def effectClocksMatchSpecRow : OpenClaim := { program := "ytopmdeefcjdadaa", sum := "a7bb37496f479f2026413edd2e88ca576c9b868eb9c3954e11602237791c8f67", func := "cyclorama/cycloramalaw7.EffectClocksMatchSpec", spec := "effectClocksMatchSpec", unfollowed := true, recurses := true, plainKeys := false, apart := false }
def EffectClocksMatchSpecSaid : Prop := effectClocksMatchSpecRow.holds Try.pinned (OpenSpec.ofChange effectClocksMatchSpecSpec)

/-- ITS FALSE NEIGHBOUR: 'it returns false'. Refute it at one input. -/
def effectClocksMatchSpecWrong : ChangeSpec := { name := "effectClocksMatchSpec", fn := fun _ => fun
  | [d1, d2, d3, d4] => { results := [.lit (.bool false)], args := [d1, d2, d3, d4] }
  | _ => none }
def EffectClocksMatchSpecWrongFalsely : Prop := effectClocksMatchSpecRow.holds Try.pinned (OpenSpec.ofChange effectClocksMatchSpecWrong)

/-- 'cycloramalaw7.EffectWaysMatchSpec': WHATEVER THE INPUT: true; the input reads as it did. -/
def effectWaysMatchSpecSpec : ChangeSpec := { name := "effectWaysMatchSpec", fn := fun _ => fun
  | [d1, d2, d3, d4] => { results := [.lit (.bool true)], args := [d1, d2, d3, d4] }
  | _ => none }
def effectWaysMatchSpecRow : OpenClaim := { program := "ytopmdeefcjdadaa", sum := "a7bb37496f479f2026413edd2e88ca576c9b868eb9c3954e11602237791c8f67", func := "cyclorama/cycloramalaw7.EffectWaysMatchSpec", spec := "effectWaysMatchSpec", inPlace := ["math/bits.Add64"], unfollowed := true, recurses := true, plainKeys := false, apart := false }
def EffectWaysMatchSpecSaid : Prop := effectWaysMatchSpecRow.holds Try.pinned (OpenSpec.ofChange effectWaysMatchSpecSpec)

/-- ITS FALSE NEIGHBOUR: 'it returns false'. Refute it at one input. -/
def effectWaysMatchSpecWrong : ChangeSpec := { name := "effectWaysMatchSpec", fn := fun _ => fun
  | [d1, d2, d3, d4] => { results := [.lit (.bool false)], args := [d1, d2, d3, d4] }
  | _ => none }
def EffectWaysMatchSpecWrongFalsely : Prop := effectWaysMatchSpecRow.holds Try.pinned (OpenSpec.ofChange effectWaysMatchSpecWrong)

/-- 'cycloramalaw7.EffectsRepeatThemselves': WHATEVER THE INPUT: true; the input reads as it did. -/
def effectsRepeatThemselvesSpec : ChangeSpec := { name := "effectsRepeatThemselves", fn := fun _ => fun
  | [d1, d2, d3, d4] => { results := [.lit (.bool true)], args := [d1, d2, d3, d4] }
  | _ => none }
def effectsRepeatThemselvesRow : OpenClaim := { program := "ytopmdeefcjdadaa", sum := "a7bb37496f479f2026413edd2e88ca576c9b868eb9c3954e11602237791c8f67", func := "cyclorama/cycloramalaw7.EffectsRepeatThemselves", spec := "effectsRepeatThemselves", inPlace := ["math/bits.Add64"], unfollowed := true, recurses := true, plainKeys := false, apart := false }
def EffectsRepeatThemselvesSaid : Prop := effectsRepeatThemselvesRow.holds Try.pinned (OpenSpec.ofChange effectsRepeatThemselvesSpec)

/-- ITS FALSE NEIGHBOUR: 'it returns false'. Refute it at one input. -/
def effectsRepeatThemselvesWrong : ChangeSpec := { name := "effectsRepeatThemselves", fn := fun _ => fun
  | [d1, d2, d3, d4] => { results := [.lit (.bool false)], args := [d1, d2, d3, d4] }
  | _ => none }
def EffectsRepeatThemselvesWrongFalsely : Prop := effectsRepeatThemselvesRow.holds Try.pinned (OpenSpec.ofChange effectsRepeatThemselvesWrong)

/-- 'cycloramalaw7.EffectsStayWithin': WHATEVER THE INPUT: true; the input reads as it did. -/
def effectsStayWithinSpec : ChangeSpec := { name := "effectsStayWithin", fn := fun _ => fun
  | [d1, d2, d3] => { results := [.lit (.bool true)], args := [d1, d2, d3] }
  | _ => none }
def effectsStayWithinRow : OpenClaim := { program := "ytopmdeefcjdadaa", sum := "a7bb37496f479f2026413edd2e88ca576c9b868eb9c3954e11602237791c8f67", func := "cyclorama/cycloramalaw7.EffectsStayWithin", spec := "effectsStayWithin", inPlace := ["math/bits.Add64", "math/bits.Sub64"], unfollowed := true, recurses := true, plainKeys := false, apart := false }
def EffectsStayWithinSaid : Prop := effectsStayWithinRow.holds Try.pinned (OpenSpec.ofChange effectsStayWithinSpec)

/-- ITS FALSE NEIGHBOUR: 'it returns false'. Refute it at one input. -/
def effectsStayWithinWrong : ChangeSpec := { name := "effectsStayWithin", fn := fun _ => fun
  | [d1, d2, d3] => { results := [.lit (.bool false)], args := [d1, d2, d3] }
  | _ => none }
def EffectsStayWithinWrongFalsely : Prop := effectsStayWithinRow.holds Try.pinned (OpenSpec.ofChange effectsStayWithinWrong)

/-- 'cycloramalaw7.EffectsLeaveOtherKeys': WHATEVER THE INPUT: true; the input reads as it did. -/
def effectsLeaveOtherKeysSpec : ChangeSpec := { name := "effectsLeaveOtherKeys", fn := fun _ => fun
  | [d1, d2, d3, d4] => { results := [.lit (.bool true)], args := [d1, d2, d3, d4] }
  | _ => none }
def effectsLeaveOtherKeysRow : OpenClaim := { program := "ytopmdeefcjdadaa", sum := "a7bb37496f479f2026413edd2e88ca576c9b868eb9c3954e11602237791c8f67", func := "cyclorama/cycloramalaw7.EffectsLeaveOtherKeys", spec := "effectsLeaveOtherKeys", inPlace := ["math/bits.Add64", "math/bits.Sub64"], unfollowed := true, recurses := true, plainKeys := false, apart := false }
def EffectsLeaveOtherKeysSaid : Prop := effectsLeaveOtherKeysRow.holds Try.pinned (OpenSpec.ofChange effectsLeaveOtherKeysSpec)

/-- ITS FALSE NEIGHBOUR: 'it returns false'. Refute it at one input. -/
def effectsLeaveOtherKeysWrong : ChangeSpec := { name := "effectsLeaveOtherKeys", fn := fun _ => fun
  | [d1, d2, d3, d4] => { results := [.lit (.bool false)], args := [d1, d2, d3, d4] }
  | _ => none }
def EffectsLeaveOtherKeysWrongFalsely : Prop := effectsLeaveOtherKeysRow.holds Try.pinned (OpenSpec.ofChange effectsLeaveOtherKeysWrong)

/- THE SECOND FORM. 'bulk': how many values and letters a reading holds, each counted each time it is reached (what is shared counts as often as it is met; a slice's spare places count too). A statement '..UptoSaid' is the law's where the arguments, and the package variables that the reading takes, are together of bulk at most 1048576: NARROWER than '..Said'. Prove '..Said' where nothing that the law and all that it calls make is longer than what came in: it says more and counts as full. Else prove '..UptoSaid'. A law counts once. -/
mutual
def uptoBulk {H : Type} : DataW H → Nat
  | .lit (.string bytes) => bytes.length + 1
  | .lit _ => 1
  | .nil => 1
  | .ptr d => uptoBulk d + 1
  | .slice elems spare => uptoBulkAll elems + uptoBulkAll spare + 1
  | .agg parts => uptoBulkAll parts + 1
  | .iface _ d => uptoBulk d + 1
  | .map entries => uptoBulkEntries entries + 1
  | .held _ => 1
def uptoBulkAll {H : Type} : List (DataW H) → Nat
  | [] => 0
  | d :: r => uptoBulk d + uptoBulkAll r
def uptoBulkEntries {H : Type} : List (Lit × DataW H) → Nat
  | [] => 0
  | x :: r => uptoBulkEntry x + uptoBulkEntries r
def uptoBulkEntry {H : Type} : Lit × DataW H → Nat
  | (.string bytes, d) => bytes.length + uptoBulk d + 1
  | (_, d) => uptoBulk d + 1
 end
def uptoSmall : (H : Type) → List (DataW H) → Bool := fun _ ds => decide (uptoBulkAll ds ≤ 1048576)
def OpenSpec.upto (s : _root_.Go.ChangeSpec) : _root_.Go.OpenSpec := { _root_.Go.OpenSpec.ofChange s with cond := some uptoSmall }

/-- 'cycloramalaw7.EffectsKeepTheirPast', WHERE WHAT IT READS IS OF BULK AT MOST 1048576: true; the input reads as it did. -/
def effectsKeepTheirPastUptoRow : OpenClaim := { program := "ytopmdeefcjdadaa", sum := "a7bb37496f479f2026413edd2e88ca576c9b868eb9c3954e11602237791c8f67", func := "cyclorama/cycloramalaw7.EffectsKeepTheirPast", spec := "effectsKeepTheirPast", unfollowed := true, recurses := true, plainKeys := false, apart := false, narrowed := true }
def EffectsKeepTheirPastUptoSaid : Prop := effectsKeepTheirPastUptoRow.holds Try.pinned (OpenSpec.upto effectsKeepTheirPastSpec)

/-- 'cycloramalaw7.EffectClocksMatchSpec', WHERE WHAT IT READS IS OF BULK AT MOST 1048576: true; the input reads as it did. -/
def effectClocksMatchSpecUptoRow : OpenClaim := { program := "ytopmdeefcjdadaa", sum := "a7bb37496f479f2026413edd2e88ca576c9b868eb9c3954e11602237791c8f67", func := "cyclorama/cycloramalaw7.EffectClocksMatchSpec", spec := "effectClocksMatchSpec", unfollowed := true, recurses := true, plainKeys := false, apart := false, narrowed := true }
def EffectClocksMatchSpecUptoSaid : Prop := effectClocksMatchSpecUptoRow.holds Try.pinned (OpenSpec.upto effectClocksMatchSpecSpec)

/-- 'cycloramalaw7.EffectWaysMatchSpec', WHERE WHAT IT READS IS OF BULK AT MOST 1048576: true; the input reads as it did. -/
def effectWaysMatchSpecUptoRow : OpenClaim := { program := "ytopmdeefcjdadaa", sum := "a7bb37496f479f2026413edd2e88ca576c9b868eb9c3954e11602237791c8f67", func := "cyclorama/cycloramalaw7.EffectWaysMatchSpec", spec := "effectWaysMatchSpec", inPlace := ["math/bits.Add64"], unfollowed := true, recurses := true, plainKeys := false, apart := false, narrowed := true }
def EffectWaysMatchSpecUptoSaid : Prop := effectWaysMatchSpecUptoRow.holds Try.pinned (OpenSpec.upto effectWaysMatchSpecSpec)

/-- 'cycloramalaw7.EffectsRepeatThemselves', WHERE WHAT IT READS IS OF BULK AT MOST 1048576: true; the input reads as it did. -/
def effectsRepeatThemselvesUptoRow : OpenClaim := { program := "ytopmdeefcjdadaa", sum := "a7bb37496f479f2026413edd2e88ca576c9b868eb9c3954e11602237791c8f67", func := "cyclorama/cycloramalaw7.EffectsRepeatThemselves", spec := "effectsRepeatThemselves", inPlace := ["math/bits.Add64"], unfollowed := true, recurses := true, plainKeys := false, apart := false, narrowed := true }
def EffectsRepeatThemselvesUptoSaid : Prop := effectsRepeatThemselvesUptoRow.holds Try.pinned (OpenSpec.upto effectsRepeatThemselvesSpec)

/-- 'cycloramalaw7.EffectsStayWithin', WHERE WHAT IT READS IS OF BULK AT MOST 1048576: true; the input reads as it did. -/
def effectsStayWithinUptoRow : OpenClaim := { program := "ytopmdeefcjdadaa", sum := "a7bb37496f479f2026413edd2e88ca576c9b868eb9c3954e11602237791c8f67", func := "cyclorama/cycloramalaw7.EffectsStayWithin", spec := "effectsStayWithin", inPlace := ["math/bits.Add64", "math/bits.Sub64"], unfollowed := true, recurses := true, plainKeys := false, apart := false, narrowed := true }
def EffectsStayWithinUptoSaid : Prop := effectsStayWithinUptoRow.holds Try.pinned (OpenSpec.upto effectsStayWithinSpec)

/-- 'cycloramalaw7.EffectsLeaveOtherKeys', WHERE WHAT IT READS IS OF BULK AT MOST 1048576: true; the input reads as it did. -/
def effectsLeaveOtherKeysUptoRow : OpenClaim := { program := "ytopmdeefcjdadaa", sum := "a7bb37496f479f2026413edd2e88ca576c9b868eb9c3954e11602237791c8f67", func := "cyclorama/cycloramalaw7.EffectsLeaveOtherKeys", spec := "effectsLeaveOtherKeys", inPlace := ["math/bits.Add64", "math/bits.Sub64"], unfollowed := true, recurses := true, plainKeys := false, apart := false, narrowed := true }
def EffectsLeaveOtherKeysUptoSaid : Prop := effectsLeaveOtherKeysUptoRow.holds Try.pinned (OpenSpec.upto effectsLeaveOtherKeysSpec)

end Rows
end Go.Proofs.Ytopmdeefcjdadaa
