/-
  No cell of these rows narrows 'for every input' (looked for: loops, veiled, ifaces, maps, wideKeys, modest, calm, conditions, laid).
  DERIVED. THE GIVEN ROWS OF THIS SEAT. 9 by the template 'for every input the law returns true; each argument reads behind the call as it read before'; 0 by the template 'total and deterministic' (their statements: YtanpiidhcijfaaaTotals.lean).
  GIVEN WITH THE SEED: the statements are not yours to turn. If you find one false, say at which input.
  Laid BY PROGRAM, IN A SANDBOX (cutbox-rows.mjs): the forced cells as the released guide's own fill.sh prints them over the translation efe603bd8235b011… (all of the seat's roots in one cut). By AI agents, Wed Nov 11 2026. No macro, syntax, notation, axiom, sorry.
-/
import Derived.Test.YtanpiidhcijfaaaChecked
import GoSem.Claim
import GoSem.ClaimJoined
import GoSem.ClaimMapViews
import Derived.JoinedTies
import Derived.KernelRfl
namespace Go.Proofs.Ytanpiidhcijfaaa
/- THE CELL 'sum', in the pinned program and in every row, IS THE sha256 OF THE DUMP (.gsa) THAT YtanpiidhcijfaaaProg.lean LOADS. Nothing in Lean hashes anything: it is a label: what it is worth is what the hold of that sum in a sandbox is worth. -/
noncomputable def Try.pinned : Pinned := { name := "ytanpiidhcijfaaa", sum := "efe603bd8235b01118a05ce11fc0d610ef2acd21b188f04b1f08bc1971aff9e8", checked := Try.checked }
namespace Rows
def none {H : Type} : Left H := { results := [], args := [] }

/-- 'bitextlaw5.PatternParses': WHATEVER THE INPUT: true; the input reads as it did. -/
def patternParsesSpec : ChangeSpec := { name := "patternParses", fn := fun _ => fun
  | [d1, d2] => { results := [.lit (.bool true)], args := [d1, d2] }
  | _ => none }
def patternParsesRow : OpenClaim := { program := "ytanpiidhcijfaaa", sum := "efe603bd8235b01118a05ce11fc0d610ef2acd21b188f04b1f08bc1971aff9e8", func := "bitext/bitextlaw5.PatternParses", spec := "patternParses", inPlace := ["internal/bytealg.IndexByteString"], apart := false }
def PatternParsesSaid : Prop := patternParsesRow.holds Try.pinned (OpenSpec.ofChange patternParsesSpec)

/-- ITS FALSE NEIGHBOUR: 'it returns false'. Refute it at one input. -/
def patternParsesWrong : ChangeSpec := { name := "patternParses", fn := fun _ => fun
  | [d1, d2] => { results := [.lit (.bool false)], args := [d1, d2] }
  | _ => none }
def PatternParsesWrongFalsely : Prop := patternParsesRow.holds Try.pinned (OpenSpec.ofChange patternParsesWrong)

/-- 'bitextlaw5.PatternSets': WHATEVER THE INPUT: true; the input reads as it did. -/
def patternSetsSpec : ChangeSpec := { name := "patternSets", fn := fun _ => fun
  | [d1, d2] => { results := [.lit (.bool true)], args := [d1, d2] }
  | _ => none }
def patternSetsRow : OpenClaim := { program := "ytanpiidhcijfaaa", sum := "efe603bd8235b01118a05ce11fc0d610ef2acd21b188f04b1f08bc1971aff9e8", func := "bitext/bitextlaw5.PatternSets", spec := "patternSets", inPlace := ["internal/bytealg.IndexByteString"], apart := false }
def PatternSetsSaid : Prop := patternSetsRow.holds Try.pinned (OpenSpec.ofChange patternSetsSpec)

/-- ITS FALSE NEIGHBOUR: 'it returns false'. Refute it at one input. -/
def patternSetsWrong : ChangeSpec := { name := "patternSets", fn := fun _ => fun
  | [d1, d2] => { results := [.lit (.bool false)], args := [d1, d2] }
  | _ => none }
def PatternSetsWrongFalsely : Prop := patternSetsRow.holds Try.pinned (OpenSpec.ofChange patternSetsWrong)

/-- 'bitextlaw5.PatternRanges': WHATEVER THE INPUT: true; the input reads as it did. -/
def patternRangesSpec : ChangeSpec := { name := "patternRanges", fn := fun _ => fun
  | [d1, d2, d3, d4] => { results := [.lit (.bool true)], args := [d1, d2, d3, d4] }
  | _ => none }
def patternRangesRow : OpenClaim := { program := "ytanpiidhcijfaaa", sum := "efe603bd8235b01118a05ce11fc0d610ef2acd21b188f04b1f08bc1971aff9e8", func := "bitext/bitextlaw5.PatternRanges", spec := "patternRanges", inPlace := ["internal/bytealg.IndexByteString"], apart := false }
def PatternRangesSaid : Prop := patternRangesRow.holds Try.pinned (OpenSpec.ofChange patternRangesSpec)

/-- ITS FALSE NEIGHBOUR: 'it returns false'. Refute it at one input. -/
def patternRangesWrong : ChangeSpec := { name := "patternRanges", fn := fun _ => fun
  | [d1, d2, d3, d4] => { results := [.lit (.bool false)], args := [d1, d2, d3, d4] }
  | _ => none }
def PatternRangesWrongFalsely : Prop := patternRangesRow.holds Try.pinned (OpenSpec.ofChange patternRangesWrong)

/-- 'bitextlaw5.PatternLiterals': WHATEVER THE INPUT: true; the input reads as it did. -/
def patternLiteralsSpec : ChangeSpec := { name := "patternLiterals", fn := fun _ => fun
  | [d1, d2] => { results := [.lit (.bool true)], args := [d1, d2] }
  | _ => none }
def patternLiteralsRow : OpenClaim := { program := "ytanpiidhcijfaaa", sum := "efe603bd8235b01118a05ce11fc0d610ef2acd21b188f04b1f08bc1971aff9e8", func := "bitext/bitextlaw5.PatternLiterals", spec := "patternLiterals", inPlace := ["internal/bytealg.IndexByteString"], apart := false }
def PatternLiteralsSaid : Prop := patternLiteralsRow.holds Try.pinned (OpenSpec.ofChange patternLiteralsSpec)

/-- ITS FALSE NEIGHBOUR: 'it returns false'. Refute it at one input. -/
def patternLiteralsWrong : ChangeSpec := { name := "patternLiterals", fn := fun _ => fun
  | [d1, d2] => { results := [.lit (.bool false)], args := [d1, d2] }
  | _ => none }
def PatternLiteralsWrongFalsely : Prop := patternLiteralsRow.holds Try.pinned (OpenSpec.ofChange patternLiteralsWrong)

/-- 'bitextlaw5.PatternJoins': WHATEVER THE INPUT: true; the input reads as it did. -/
def patternJoinsSpec : ChangeSpec := { name := "patternJoins", fn := fun _ => fun
  | [d1, d2, d3] => { results := [.lit (.bool true)], args := [d1, d2, d3] }
  | _ => none }
def patternJoinsRow : OpenClaim := { program := "ytanpiidhcijfaaa", sum := "efe603bd8235b01118a05ce11fc0d610ef2acd21b188f04b1f08bc1971aff9e8", func := "bitext/bitextlaw5.PatternJoins", spec := "patternJoins", inPlace := ["internal/bytealg.IndexByteString"], apart := false }
def PatternJoinsSaid : Prop := patternJoinsRow.holds Try.pinned (OpenSpec.ofChange patternJoinsSpec)

/-- ITS FALSE NEIGHBOUR: 'it returns false'. Refute it at one input. -/
def patternJoinsWrong : ChangeSpec := { name := "patternJoins", fn := fun _ => fun
  | [d1, d2, d3] => { results := [.lit (.bool false)], args := [d1, d2, d3] }
  | _ => none }
def PatternJoinsWrongFalsely : Prop := patternJoinsRow.holds Try.pinned (OpenSpec.ofChange patternJoinsWrong)

/-- 'bitextlaw5.PatternLimits': WHATEVER THE INPUT: true; the input reads as it did. -/
def patternLimitsSpec : ChangeSpec := { name := "patternLimits", fn := fun _ => fun
  | [d] => { results := [.lit (.bool true)], args := [d] }
  | _ => none }
def patternLimitsRow : OpenClaim := { program := "ytanpiidhcijfaaa", sum := "efe603bd8235b01118a05ce11fc0d610ef2acd21b188f04b1f08bc1971aff9e8", func := "bitext/bitextlaw5.PatternLimits", spec := "patternLimits", inPlace := ["internal/bytealg.IndexByteString"], apart := false }
def PatternLimitsSaid : Prop := patternLimitsRow.holds Try.pinned (OpenSpec.ofChange patternLimitsSpec)

/-- ITS FALSE NEIGHBOUR: 'it returns false'. Refute it at one input. -/
def patternLimitsWrong : ChangeSpec := { name := "patternLimits", fn := fun _ => fun
  | [d] => { results := [.lit (.bool false)], args := [d] }
  | _ => none }
def PatternLimitsWrongFalsely : Prop := patternLimitsRow.holds Try.pinned (OpenSpec.ofChange patternLimitsWrong)

/-- 'bitextlaw5.PatternEnds': WHATEVER THE INPUT: true; the input reads as it did. -/
def patternEndsSpec : ChangeSpec := { name := "patternEnds", fn := fun _ => fun
  | [d1, d2] => { results := [.lit (.bool true)], args := [d1, d2] }
  | _ => none }
def patternEndsRow : OpenClaim := { program := "ytanpiidhcijfaaa", sum := "efe603bd8235b01118a05ce11fc0d610ef2acd21b188f04b1f08bc1971aff9e8", func := "bitext/bitextlaw5.PatternEnds", spec := "patternEnds", inPlace := ["internal/bytealg.IndexByteString"], apart := false }
def PatternEndsSaid : Prop := patternEndsRow.holds Try.pinned (OpenSpec.ofChange patternEndsSpec)

/-- ITS FALSE NEIGHBOUR: 'it returns false'. Refute it at one input. -/
def patternEndsWrong : ChangeSpec := { name := "patternEnds", fn := fun _ => fun
  | [d1, d2] => { results := [.lit (.bool false)], args := [d1, d2] }
  | _ => none }
def PatternEndsWrongFalsely : Prop := patternEndsRow.holds Try.pinned (OpenSpec.ofChange patternEndsWrong)

/-- 'bitextlaw5.PatternReverses': WHATEVER THE INPUT: true; the input reads as it did. -/
def patternReversesSpec : ChangeSpec := { name := "patternReverses", fn := fun _ => fun
  | [d1, d2] => { results := [.lit (.bool true)], args := [d1, d2] }
  | _ => none }
def patternReversesRow : OpenClaim := { program := "ytanpiidhcijfaaa", sum := "efe603bd8235b01118a05ce11fc0d610ef2acd21b188f04b1f08bc1971aff9e8", func := "bitext/bitextlaw5.PatternReverses", spec := "patternReverses", inPlace := ["internal/bytealg.IndexByteString"], apart := false }
def PatternReversesSaid : Prop := patternReversesRow.holds Try.pinned (OpenSpec.ofChange patternReversesSpec)

/-- ITS FALSE NEIGHBOUR: 'it returns false'. Refute it at one input. -/
def patternReversesWrong : ChangeSpec := { name := "patternReverses", fn := fun _ => fun
  | [d1, d2] => { results := [.lit (.bool false)], args := [d1, d2] }
  | _ => none }
def PatternReversesWrongFalsely : Prop := patternReversesRow.holds Try.pinned (OpenSpec.ofChange patternReversesWrong)

/-- 'bitextlaw5.PatternMatches': WHATEVER THE INPUT: true; the input reads as it did. -/
def patternMatchesSpec : ChangeSpec := { name := "patternMatches", fn := fun _ => fun
  | [d1, d2, d3, d4] => { results := [.lit (.bool true)], args := [d1, d2, d3, d4] }
  | _ => none }
def patternMatchesRow : OpenClaim := { program := "ytanpiidhcijfaaa", sum := "efe603bd8235b01118a05ce11fc0d610ef2acd21b188f04b1f08bc1971aff9e8", func := "bitext/bitextlaw5.PatternMatches", spec := "patternMatches", inPlace := ["internal/bytealg.IndexByteString"], apart := false }
def PatternMatchesSaid : Prop := patternMatchesRow.holds Try.pinned (OpenSpec.ofChange patternMatchesSpec)

/-- ITS FALSE NEIGHBOUR: 'it returns false'. Refute it at one input. -/
def patternMatchesWrong : ChangeSpec := { name := "patternMatches", fn := fun _ => fun
  | [d1, d2, d3, d4] => { results := [.lit (.bool false)], args := [d1, d2, d3, d4] }
  | _ => none }
def PatternMatchesWrongFalsely : Prop := patternMatchesRow.holds Try.pinned (OpenSpec.ofChange patternMatchesWrong)

/- THE SECOND FORM. 'bulk': how many values and letters a reading holds, each counted each time it is reached (what is shared counts as often as it is met; a slice's spare places count too). A statement '..UptoSaid' is the law's where the arguments, and the package variables that the reading takes, are together of bulk at most 1048576: NARROWER than '..Said'. Prove '..Said' where nothing that the law and all that it calls make is longer than what came in: it says more and counts as full. Else prove '..UptoSaid'. A law counts once. -/
mutual
def uptoBulk {H : Type} : DataW H → Nat
  | .lit (.string bytes) => bytes.length + 1
  | .lit _ => 1
  | .nil => 1
  | .ptr d => uptoBulk d + 1
  | .slice elems spare => uptoBulkAll elems + uptoBulkAll spare + 1
  | .agg parts => uptoBulkAll parts + 1
  | .iface _ d => uptoBulk d + 1
  | .map entries => uptoBulkEntries entries + 1
  | .held _ => 1
def uptoBulkAll {H : Type} : List (DataW H) → Nat
  | [] => 0
  | d :: r => uptoBulk d + uptoBulkAll r
def uptoBulkEntries {H : Type} : List (Lit × DataW H) → Nat
  | [] => 0
  | x :: r => uptoBulkEntry x + uptoBulkEntries r
def uptoBulkEntry {H : Type} : Lit × DataW H → Nat
  | (.string bytes, d) => bytes.length + uptoBulk d + 1
  | (_, d) => uptoBulk d + 1
 end
def uptoSmall : (H : Type) → List (DataW H) → Bool := fun _ ds => decide (uptoBulkAll ds ≤ 1048576)
def OpenSpec.upto (s : _root_.Go.ChangeSpec) : _root_.Go.OpenSpec := { _root_.Go.OpenSpec.ofChange s with cond := some uptoSmall }

/-- 'bitextlaw5.PatternParses', WHERE WHAT IT READS IS OF BULK AT MOST 1048576: true; the input reads as it did. -/
def patternParsesUptoRow : OpenClaim := { program := "ytanpiidhcijfaaa", sum := "efe603bd8235b01118a05ce11fc0d610ef2acd21b188f04b1f08bc1971aff9e8", func := "bitext/bitextlaw5.PatternParses", spec := "patternParses", inPlace := ["internal/bytealg.IndexByteString"], apart := false, narrowed := true }
def PatternParsesUptoSaid : Prop := patternParsesUptoRow.holds Try.pinned (OpenSpec.upto patternParsesSpec)

/-- 'bitextlaw5.PatternSets', WHERE WHAT IT READS IS OF BULK AT MOST 1048576: true; the input reads as it did. -/
def patternSetsUptoRow : OpenClaim := { program := "ytanpiidhcijfaaa", sum := "efe603bd8235b01118a05ce11fc0d610ef2acd21b188f04b1f08bc1971aff9e8", func := "bitext/bitextlaw5.PatternSets", spec := "patternSets", inPlace := ["internal/bytealg.IndexByteString"], apart := false, narrowed := true }
def PatternSetsUptoSaid : Prop := patternSetsUptoRow.holds Try.pinned (OpenSpec.upto patternSetsSpec)

/-- 'bitextlaw5.PatternRanges', WHERE WHAT IT READS IS OF BULK AT MOST 1048576: true; the input reads as it did. -/
def patternRangesUptoRow : OpenClaim := { program := "ytanpiidhcijfaaa", sum := "efe603bd8235b01118a05ce11fc0d610ef2acd21b188f04b1f08bc1971aff9e8", func := "bitext/bitextlaw5.PatternRanges", spec := "patternRanges", inPlace := ["internal/bytealg.IndexByteString"], apart := false, narrowed := true }
def PatternRangesUptoSaid : Prop := patternRangesUptoRow.holds Try.pinned (OpenSpec.upto patternRangesSpec)

/-- 'bitextlaw5.PatternLiterals', WHERE WHAT IT READS IS OF BULK AT MOST 1048576: true; the input reads as it did. -/
def patternLiteralsUptoRow : OpenClaim := { program := "ytanpiidhcijfaaa", sum := "efe603bd8235b01118a05ce11fc0d610ef2acd21b188f04b1f08bc1971aff9e8", func := "bitext/bitextlaw5.PatternLiterals", spec := "patternLiterals", inPlace := ["internal/bytealg.IndexByteString"], apart := false, narrowed := true }
def PatternLiteralsUptoSaid : Prop := patternLiteralsUptoRow.holds Try.pinned (OpenSpec.upto patternLiteralsSpec)

/-- 'bitextlaw5.PatternJoins', WHERE WHAT IT READS IS OF BULK AT MOST 1048576: true; the input reads as it did. -/
def patternJoinsUptoRow : OpenClaim := { program := "ytanpiidhcijfaaa", sum := "efe603bd8235b01118a05ce11fc0d610ef2acd21b188f04b1f08bc1971aff9e8", func := "bitext/bitextlaw5.PatternJoins", spec := "patternJoins", inPlace := ["internal/bytealg.IndexByteString"], apart := false, narrowed := true }
def PatternJoinsUptoSaid : Prop := patternJoinsUptoRow.holds Try.pinned (OpenSpec.upto patternJoinsSpec)

/-- 'bitextlaw5.PatternLimits', WHERE WHAT IT READS IS OF BULK AT MOST 1048576: true; the input reads as it did. -/
def patternLimitsUptoRow : OpenClaim := { program := "ytanpiidhcijfaaa", sum := "efe603bd8235b01118a05ce11fc0d610ef2acd21b188f04b1f08bc1971aff9e8", func := "bitext/bitextlaw5.PatternLimits", spec := "patternLimits", inPlace := ["internal/bytealg.IndexByteString"], apart := false, narrowed := true }
def PatternLimitsUptoSaid : Prop := patternLimitsUptoRow.holds Try.pinned (OpenSpec.upto patternLimitsSpec)

/-- 'bitextlaw5.PatternEnds', WHERE WHAT IT READS IS OF BULK AT MOST 1048576: true; the input reads as it did. -/
def patternEndsUptoRow : OpenClaim := { program := "ytanpiidhcijfaaa", sum := "efe603bd8235b01118a05ce11fc0d610ef2acd21b188f04b1f08bc1971aff9e8", func := "bitext/bitextlaw5.PatternEnds", spec := "patternEnds", inPlace := ["internal/bytealg.IndexByteString"], apart := false, narrowed := true }
def PatternEndsUptoSaid : Prop := patternEndsUptoRow.holds Try.pinned (OpenSpec.upto patternEndsSpec)

/-- 'bitextlaw5.PatternReverses', WHERE WHAT IT READS IS OF BULK AT MOST 1048576: true; the input reads as it did. -/
def patternReversesUptoRow : OpenClaim := { program := "ytanpiidhcijfaaa", sum := "efe603bd8235b01118a05ce11fc0d610ef2acd21b188f04b1f08bc1971aff9e8", func := "bitext/bitextlaw5.PatternReverses", spec := "patternReverses", inPlace := ["internal/bytealg.IndexByteString"], apart := false, narrowed := true }
def PatternReversesUptoSaid : Prop := patternReversesUptoRow.holds Try.pinned (OpenSpec.upto patternReversesSpec)

/-- 'bitextlaw5.PatternMatches', WHERE WHAT IT READS IS OF BULK AT MOST 1048576: true; the input reads as it did. -/
def patternMatchesUptoRow : OpenClaim := { program := "ytanpiidhcijfaaa", sum := "efe603bd8235b01118a05ce11fc0d610ef2acd21b188f04b1f08bc1971aff9e8", func := "bitext/bitextlaw5.PatternMatches", spec := "patternMatches", inPlace := ["internal/bytealg.IndexByteString"], apart := false, narrowed := true }
def PatternMatchesUptoSaid : Prop := patternMatchesUptoRow.holds Try.pinned (OpenSpec.upto patternMatchesSpec)

end Rows
end Go.Proofs.Ytanpiidhcijfaaa
