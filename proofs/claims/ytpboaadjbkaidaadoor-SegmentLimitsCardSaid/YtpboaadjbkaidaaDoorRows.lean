/-
  NARROWER THAN 'FOR EVERY INPUT', by the rows' own cells (each row's printed sentence says how): SegmentLong: laid · SegmentParses: laid · SegmentLimits: laid · SegmentValidates: laid · SegmentDecides: laid · SegmentFirst: laid · SegmentPlaces: laid · SegmentResolves: laid · SegmentCascades: laid · SegmentRanges: laid · SegmentCovers: laid.
  DERIVED. THE GIVEN ROWS OF THIS SEAT. 11 by the template 'for every input the law returns true; each argument reads behind the call as it read before'; 0 by the template 'total and deterministic' (their statements: YtpboaadjbkaidaaDoorTotals.lean).
  GIVEN WITH THE SEED: the statements are not yours to turn. If you find one false, say at which input.
  Laid BY PROGRAM, IN A SANDBOX (cutbox-rows.mjs): the forced cells as the released guide's own fill.sh prints them over the translation 8296371bf9deb3e9… (all of the seat's roots in one cut). By AI agents, Wed Nov 11 2026. No macro, syntax, notation, axiom, sorry.
-/
import Derived.Test.YtpboaadjbkaidaaDoorChecked
import GoSem.PinnedTables
import GoSem.Claim
import GoSem.ClaimJoined
import GoSem.ClaimMapViews
import Derived.JoinedTies
import Derived.KernelRfl
namespace Go.Proofs.YtpboaadjbkaidaaDoor
/- THE CELL 'sum', in the pinned program and in every row, IS THE sha256 OF THE DUMP (.gsa) THAT YtpboaadjbkaidaaDoorProg.lean LOADS. Nothing in Lean hashes anything: it is a label: what it is worth is what the hold of that sum in a sandbox is worth. -/
noncomputable def Tryd.pinned : Pinned := { name := "ytpboaadjbkaidaadoor", sum := "8296371bf9deb3e98bd1acccd636079d81b5ae5d4f4381d889ba607257e04930", checked := Tryd.checked }
namespace Rows
def none {H : Type} : Left H := { results := [], args := [] }

/- WHAT THE LISTED PACKAGE-LEVEL VARIABLES READ AS WHEN THE CALL BEGINS. Each datum BY PROGRAM (the guide's laid-datum.mjs) off the statement by which the dump's own 'gosem.cut.vars' lays the variable. In a bare row this is a premise. The card (YtpboaadjbkaidaaDoorCards.lean) ties it to the program's text. -/
def laid_unicode_utf8_acceptRanges {H : Type} : DataW H := .agg [.agg [.lit (.int .u8 128), .lit (.int .u8 191)], .agg [.lit (.int .u8 160), .lit (.int .u8 191)], .agg [.lit (.int .u8 128), .lit (.int .u8 159)], .agg [.lit (.int .u8 144), .lit (.int .u8 191)], .agg [.lit (.int .u8 128), .lit (.int .u8 143)], .agg [.lit (.int .u8 0), .lit (.int .u8 0)], .agg [.lit (.int .u8 0), .lit (.int .u8 0)], .agg [.lit (.int .u8 0), .lit (.int .u8 0)], .agg [.lit (.int .u8 0), .lit (.int .u8 0)], .agg [.lit (.int .u8 0), .lit (.int .u8 0)], .agg [.lit (.int .u8 0), .lit (.int .u8 0)], .agg [.lit (.int .u8 0), .lit (.int .u8 0)], .agg [.lit (.int .u8 0), .lit (.int .u8 0)], .agg [.lit (.int .u8 0), .lit (.int .u8 0)], .agg [.lit (.int .u8 0), .lit (.int .u8 0)], .agg [.lit (.int .u8 0), .lit (.int .u8 0)]]
/-- One of Go's own tables, pinned by name: the form's constant. -/
def laid_unicode_utf8_first : DataW Unit := Go.Pinned.utf8First

/-- 'bitextlaw6.SegmentLong': WHATEVER THE INPUT: true; the input reads as it did. -/
def segmentLongSpec : ChangeSpec := { name := "segmentLong", fn := fun _ => fun
  | [d] => { results := [.lit (.bool true)], args := [d] }
  | _ => none }
def segmentLongRow : OpenClaim := { program := "ytpboaadjbkaidaadoor", sum := "8296371bf9deb3e98bd1acccd636079d81b5ae5d4f4381d889ba607257e04930", func := "bitext/bitextlaw6.SegmentLong", spec := "segmentLong", inPlace := ["internal/bytealg.IndexByteString", "internal/bytealg.IndexString", "internal/bytealg.CountString"], named := ["internal/bytealg.MaxLen", "unicode/utf8.first", "unicode/utf8.acceptRanges"], apart := false, laid := [("unicode/utf8.acceptRanges", laid_unicode_utf8_acceptRanges), ("unicode/utf8.first", laid_unicode_utf8_first)] }
def SegmentLongSaid : Prop := segmentLongRow.holds Tryd.pinned (OpenSpec.ofChange segmentLongSpec)

/-- ITS FALSE NEIGHBOUR: 'it returns false'. Refute it at one input. -/
def segmentLongWrong : ChangeSpec := { name := "segmentLong", fn := fun _ => fun
  | [d] => { results := [.lit (.bool false)], args := [d] }
  | _ => none }
def SegmentLongWrongFalsely : Prop := segmentLongRow.holds Tryd.pinned (OpenSpec.ofChange segmentLongWrong)

/-- 'bitextlaw6.SegmentParses': WHATEVER THE INPUT: true; the input reads as it did. -/
def segmentParsesSpec : ChangeSpec := { name := "segmentParses", fn := fun _ => fun
  | [d1, d2] => { results := [.lit (.bool true)], args := [d1, d2] }
  | _ => none }
def segmentParsesRow : OpenClaim := { program := "ytpboaadjbkaidaadoor", sum := "8296371bf9deb3e98bd1acccd636079d81b5ae5d4f4381d889ba607257e04930", func := "bitext/bitextlaw6.SegmentParses", spec := "segmentParses", inPlace := ["internal/bytealg.IndexByteString", "internal/bytealg.IndexString", "internal/bytealg.CountString"], named := ["internal/bytealg.MaxLen", "unicode/utf8.first", "unicode/utf8.acceptRanges"], apart := false, laid := [("unicode/utf8.acceptRanges", laid_unicode_utf8_acceptRanges), ("unicode/utf8.first", laid_unicode_utf8_first)] }
def SegmentParsesSaid : Prop := segmentParsesRow.holds Tryd.pinned (OpenSpec.ofChange segmentParsesSpec)

/-- ITS FALSE NEIGHBOUR: 'it returns false'. Refute it at one input. -/
def segmentParsesWrong : ChangeSpec := { name := "segmentParses", fn := fun _ => fun
  | [d1, d2] => { results := [.lit (.bool false)], args := [d1, d2] }
  | _ => none }
def SegmentParsesWrongFalsely : Prop := segmentParsesRow.holds Tryd.pinned (OpenSpec.ofChange segmentParsesWrong)

/-- 'bitextlaw6.SegmentLimits': WHATEVER THE INPUT: true; the input reads as it did. -/
def segmentLimitsSpec : ChangeSpec := { name := "segmentLimits", fn := fun _ => fun
  | [d1, d2, d3] => { results := [.lit (.bool true)], args := [d1, d2, d3] }
  | _ => none }
def segmentLimitsRow : OpenClaim := { program := "ytpboaadjbkaidaadoor", sum := "8296371bf9deb3e98bd1acccd636079d81b5ae5d4f4381d889ba607257e04930", func := "bitext/bitextlaw6.SegmentLimits", spec := "segmentLimits", inPlace := ["internal/bytealg.IndexByteString", "internal/bytealg.IndexString", "internal/bytealg.CountString"], named := ["internal/bytealg.MaxLen", "unicode/utf8.first", "unicode/utf8.acceptRanges"], apart := false, laid := [("unicode/utf8.acceptRanges", laid_unicode_utf8_acceptRanges), ("unicode/utf8.first", laid_unicode_utf8_first)] }
def SegmentLimitsSaid : Prop := segmentLimitsRow.holds Tryd.pinned (OpenSpec.ofChange segmentLimitsSpec)

/-- ITS FALSE NEIGHBOUR: 'it returns false'. Refute it at one input. -/
def segmentLimitsWrong : ChangeSpec := { name := "segmentLimits", fn := fun _ => fun
  | [d1, d2, d3] => { results := [.lit (.bool false)], args := [d1, d2, d3] }
  | _ => none }
def SegmentLimitsWrongFalsely : Prop := segmentLimitsRow.holds Tryd.pinned (OpenSpec.ofChange segmentLimitsWrong)

/-- 'bitextlaw6.SegmentValidates': WHATEVER THE INPUT: true; the input reads as it did. -/
def segmentValidatesSpec : ChangeSpec := { name := "segmentValidates", fn := fun _ => fun
  | [d1, d2, d3] => { results := [.lit (.bool true)], args := [d1, d2, d3] }
  | _ => none }
def segmentValidatesRow : OpenClaim := { program := "ytpboaadjbkaidaadoor", sum := "8296371bf9deb3e98bd1acccd636079d81b5ae5d4f4381d889ba607257e04930", func := "bitext/bitextlaw6.SegmentValidates", spec := "segmentValidates", inPlace := ["internal/bytealg.IndexByteString", "internal/bytealg.IndexString", "internal/bytealg.CountString"], named := ["internal/bytealg.MaxLen", "unicode/utf8.first", "unicode/utf8.acceptRanges"], apart := false, laid := [("unicode/utf8.acceptRanges", laid_unicode_utf8_acceptRanges), ("unicode/utf8.first", laid_unicode_utf8_first)] }
def SegmentValidatesSaid : Prop := segmentValidatesRow.holds Tryd.pinned (OpenSpec.ofChange segmentValidatesSpec)

/-- ITS FALSE NEIGHBOUR: 'it returns false'. Refute it at one input. -/
def segmentValidatesWrong : ChangeSpec := { name := "segmentValidates", fn := fun _ => fun
  | [d1, d2, d3] => { results := [.lit (.bool false)], args := [d1, d2, d3] }
  | _ => none }
def SegmentValidatesWrongFalsely : Prop := segmentValidatesRow.holds Tryd.pinned (OpenSpec.ofChange segmentValidatesWrong)

/-- 'bitextlaw6.SegmentDecides': WHATEVER THE INPUT: true; the input reads as it did. -/
def segmentDecidesSpec : ChangeSpec := { name := "segmentDecides", fn := fun _ => fun
  | [d1, d2, d3, d4] => { results := [.lit (.bool true)], args := [d1, d2, d3, d4] }
  | _ => none }
def segmentDecidesRow : OpenClaim := { program := "ytpboaadjbkaidaadoor", sum := "8296371bf9deb3e98bd1acccd636079d81b5ae5d4f4381d889ba607257e04930", func := "bitext/bitextlaw6.SegmentDecides", spec := "segmentDecides", inPlace := ["internal/bytealg.IndexByteString", "internal/bytealg.IndexString", "internal/bytealg.CountString"], named := ["internal/bytealg.MaxLen", "unicode/utf8.first", "unicode/utf8.acceptRanges"], apart := false, laid := [("unicode/utf8.acceptRanges", laid_unicode_utf8_acceptRanges), ("unicode/utf8.first", laid_unicode_utf8_first)] }
def SegmentDecidesSaid : Prop := segmentDecidesRow.holds Tryd.pinned (OpenSpec.ofChange segmentDecidesSpec)

/-- ITS FALSE NEIGHBOUR: 'it returns false'. Refute it at one input. -/
def segmentDecidesWrong : ChangeSpec := { name := "segmentDecides", fn := fun _ => fun
  | [d1, d2, d3, d4] => { results := [.lit (.bool false)], args := [d1, d2, d3, d4] }
  | _ => none }
def SegmentDecidesWrongFalsely : Prop := segmentDecidesRow.holds Tryd.pinned (OpenSpec.ofChange segmentDecidesWrong)

/-- 'bitextlaw6.SegmentFirst': WHATEVER THE INPUT: true; the input reads as it did. -/
def segmentFirstSpec : ChangeSpec := { name := "segmentFirst", fn := fun _ => fun
  | [d1, d2, d3, d4] => { results := [.lit (.bool true)], args := [d1, d2, d3, d4] }
  | _ => none }
def segmentFirstRow : OpenClaim := { program := "ytpboaadjbkaidaadoor", sum := "8296371bf9deb3e98bd1acccd636079d81b5ae5d4f4381d889ba607257e04930", func := "bitext/bitextlaw6.SegmentFirst", spec := "segmentFirst", inPlace := ["internal/bytealg.IndexByteString", "internal/bytealg.IndexString", "internal/bytealg.CountString"], named := ["internal/bytealg.MaxLen", "unicode/utf8.first", "unicode/utf8.acceptRanges"], apart := false, laid := [("unicode/utf8.acceptRanges", laid_unicode_utf8_acceptRanges), ("unicode/utf8.first", laid_unicode_utf8_first)] }
def SegmentFirstSaid : Prop := segmentFirstRow.holds Tryd.pinned (OpenSpec.ofChange segmentFirstSpec)

/-- ITS FALSE NEIGHBOUR: 'it returns false'. Refute it at one input. -/
def segmentFirstWrong : ChangeSpec := { name := "segmentFirst", fn := fun _ => fun
  | [d1, d2, d3, d4] => { results := [.lit (.bool false)], args := [d1, d2, d3, d4] }
  | _ => none }
def SegmentFirstWrongFalsely : Prop := segmentFirstRow.holds Tryd.pinned (OpenSpec.ofChange segmentFirstWrong)

/-- 'bitextlaw6.SegmentPlaces': WHATEVER THE INPUT: true; the input reads as it did. -/
def segmentPlacesSpec : ChangeSpec := { name := "segmentPlaces", fn := fun _ => fun
  | [d1, d2, d3] => { results := [.lit (.bool true)], args := [d1, d2, d3] }
  | _ => none }
def segmentPlacesRow : OpenClaim := { program := "ytpboaadjbkaidaadoor", sum := "8296371bf9deb3e98bd1acccd636079d81b5ae5d4f4381d889ba607257e04930", func := "bitext/bitextlaw6.SegmentPlaces", spec := "segmentPlaces", inPlace := ["internal/bytealg.IndexByteString", "internal/bytealg.IndexString", "internal/bytealg.CountString"], named := ["internal/bytealg.MaxLen", "unicode/utf8.first", "unicode/utf8.acceptRanges"], apart := false, laid := [("unicode/utf8.acceptRanges", laid_unicode_utf8_acceptRanges), ("unicode/utf8.first", laid_unicode_utf8_first)] }
def SegmentPlacesSaid : Prop := segmentPlacesRow.holds Tryd.pinned (OpenSpec.ofChange segmentPlacesSpec)

/-- ITS FALSE NEIGHBOUR: 'it returns false'. Refute it at one input. -/
def segmentPlacesWrong : ChangeSpec := { name := "segmentPlaces", fn := fun _ => fun
  | [d1, d2, d3] => { results := [.lit (.bool false)], args := [d1, d2, d3] }
  | _ => none }
def SegmentPlacesWrongFalsely : Prop := segmentPlacesRow.holds Tryd.pinned (OpenSpec.ofChange segmentPlacesWrong)

/-- 'bitextlaw6.SegmentResolves': WHATEVER THE INPUT: true; the input reads as it did. -/
def segmentResolvesSpec : ChangeSpec := { name := "segmentResolves", fn := fun _ => fun
  | [d1, d2, d3, d4] => { results := [.lit (.bool true)], args := [d1, d2, d3, d4] }
  | _ => none }
def segmentResolvesRow : OpenClaim := { program := "ytpboaadjbkaidaadoor", sum := "8296371bf9deb3e98bd1acccd636079d81b5ae5d4f4381d889ba607257e04930", func := "bitext/bitextlaw6.SegmentResolves", spec := "segmentResolves", inPlace := ["internal/bytealg.IndexByteString", "internal/bytealg.IndexString", "internal/bytealg.CountString"], named := ["internal/bytealg.MaxLen", "unicode/utf8.first", "unicode/utf8.acceptRanges"], apart := false, laid := [("unicode/utf8.acceptRanges", laid_unicode_utf8_acceptRanges), ("unicode/utf8.first", laid_unicode_utf8_first)] }
def SegmentResolvesSaid : Prop := segmentResolvesRow.holds Tryd.pinned (OpenSpec.ofChange segmentResolvesSpec)

/-- ITS FALSE NEIGHBOUR: 'it returns false'. Refute it at one input. -/
def segmentResolvesWrong : ChangeSpec := { name := "segmentResolves", fn := fun _ => fun
  | [d1, d2, d3, d4] => { results := [.lit (.bool false)], args := [d1, d2, d3, d4] }
  | _ => none }
def SegmentResolvesWrongFalsely : Prop := segmentResolvesRow.holds Tryd.pinned (OpenSpec.ofChange segmentResolvesWrong)

/-- 'bitextlaw6.SegmentCascades': WHATEVER THE INPUT: true; the input reads as it did. -/
def segmentCascadesSpec : ChangeSpec := { name := "segmentCascades", fn := fun _ => fun
  | [d] => { results := [.lit (.bool true)], args := [d] }
  | _ => none }
def segmentCascadesRow : OpenClaim := { program := "ytpboaadjbkaidaadoor", sum := "8296371bf9deb3e98bd1acccd636079d81b5ae5d4f4381d889ba607257e04930", func := "bitext/bitextlaw6.SegmentCascades", spec := "segmentCascades", inPlace := ["internal/bytealg.IndexByteString", "internal/bytealg.IndexString", "internal/bytealg.CountString"], named := ["internal/bytealg.MaxLen", "unicode/utf8.first", "unicode/utf8.acceptRanges"], apart := false, laid := [("unicode/utf8.acceptRanges", laid_unicode_utf8_acceptRanges), ("unicode/utf8.first", laid_unicode_utf8_first)] }
def SegmentCascadesSaid : Prop := segmentCascadesRow.holds Tryd.pinned (OpenSpec.ofChange segmentCascadesSpec)

/-- ITS FALSE NEIGHBOUR: 'it returns false'. Refute it at one input. -/
def segmentCascadesWrong : ChangeSpec := { name := "segmentCascades", fn := fun _ => fun
  | [d] => { results := [.lit (.bool false)], args := [d] }
  | _ => none }
def SegmentCascadesWrongFalsely : Prop := segmentCascadesRow.holds Tryd.pinned (OpenSpec.ofChange segmentCascadesWrong)

/-- 'bitextlaw6.SegmentRanges': WHATEVER THE INPUT: true; the input reads as it did. -/
def segmentRangesSpec : ChangeSpec := { name := "segmentRanges", fn := fun _ => fun
  | [d1, d2, d3] => { results := [.lit (.bool true)], args := [d1, d2, d3] }
  | _ => none }
def segmentRangesRow : OpenClaim := { program := "ytpboaadjbkaidaadoor", sum := "8296371bf9deb3e98bd1acccd636079d81b5ae5d4f4381d889ba607257e04930", func := "bitext/bitextlaw6.SegmentRanges", spec := "segmentRanges", inPlace := ["internal/bytealg.IndexByteString", "internal/bytealg.IndexString", "internal/bytealg.CountString"], named := ["internal/bytealg.MaxLen", "unicode/utf8.first", "unicode/utf8.acceptRanges"], apart := false, laid := [("unicode/utf8.acceptRanges", laid_unicode_utf8_acceptRanges), ("unicode/utf8.first", laid_unicode_utf8_first)] }
def SegmentRangesSaid : Prop := segmentRangesRow.holds Tryd.pinned (OpenSpec.ofChange segmentRangesSpec)

/-- ITS FALSE NEIGHBOUR: 'it returns false'. Refute it at one input. -/
def segmentRangesWrong : ChangeSpec := { name := "segmentRanges", fn := fun _ => fun
  | [d1, d2, d3] => { results := [.lit (.bool false)], args := [d1, d2, d3] }
  | _ => none }
def SegmentRangesWrongFalsely : Prop := segmentRangesRow.holds Tryd.pinned (OpenSpec.ofChange segmentRangesWrong)

/-- 'bitextlaw6.SegmentCovers': WHATEVER THE INPUT: true; the input reads as it did. -/
def segmentCoversSpec : ChangeSpec := { name := "segmentCovers", fn := fun _ => fun
  | [d1, d2] => { results := [.lit (.bool true)], args := [d1, d2] }
  | _ => none }
def segmentCoversRow : OpenClaim := { program := "ytpboaadjbkaidaadoor", sum := "8296371bf9deb3e98bd1acccd636079d81b5ae5d4f4381d889ba607257e04930", func := "bitext/bitextlaw6.SegmentCovers", spec := "segmentCovers", inPlace := ["internal/bytealg.IndexByteString", "internal/bytealg.IndexString", "internal/bytealg.CountString"], named := ["internal/bytealg.MaxLen", "unicode/utf8.first", "unicode/utf8.acceptRanges"], apart := false, laid := [("unicode/utf8.acceptRanges", laid_unicode_utf8_acceptRanges), ("unicode/utf8.first", laid_unicode_utf8_first)] }
def SegmentCoversSaid : Prop := segmentCoversRow.holds Tryd.pinned (OpenSpec.ofChange segmentCoversSpec)

/-- ITS FALSE NEIGHBOUR: 'it returns false'. Refute it at one input. -/
def segmentCoversWrong : ChangeSpec := { name := "segmentCovers", fn := fun _ => fun
  | [d1, d2] => { results := [.lit (.bool false)], args := [d1, d2] }
  | _ => none }
def SegmentCoversWrongFalsely : Prop := segmentCoversRow.holds Tryd.pinned (OpenSpec.ofChange segmentCoversWrong)

/- THE SECOND FORM. 'bulk': how many values and letters a reading holds, each counted each time it is reached (what is shared counts as often as it is met; a slice's spare places count too). A statement '..UptoSaid' is the law's where the arguments, and the package variables that the reading takes, are together of bulk at most 1048576: NARROWER than '..Said'. Prove '..Said' where nothing that the law and all that it calls make is longer than what came in: it says more and counts as full. Else prove '..UptoSaid'. A law counts once. -/
mutual
def uptoBulk {H : Type} : DataW H → Nat
  | .lit (.string bytes) => bytes.length + 1
  | .lit _ => 1
  | .nil => 1
  | .ptr d => uptoBulk d + 1
  | .slice elems spare => uptoBulkAll elems + uptoBulkAll spare + 1
  | .agg parts => uptoBulkAll parts + 1
  | .iface _ d => uptoBulk d + 1
  | .map entries => uptoBulkEntries entries + 1
  | .held _ => 1
def uptoBulkAll {H : Type} : List (DataW H) → Nat
  | [] => 0
  | d :: r => uptoBulk d + uptoBulkAll r
def uptoBulkEntries {H : Type} : List (Lit × DataW H) → Nat
  | [] => 0
  | x :: r => uptoBulkEntry x + uptoBulkEntries r
def uptoBulkEntry {H : Type} : Lit × DataW H → Nat
  | (.string bytes, d) => bytes.length + uptoBulk d + 1
  | (_, d) => uptoBulk d + 1
 end
def uptoSmall : (H : Type) → List (DataW H) → Bool := fun _ ds => decide (uptoBulkAll ds ≤ 1048576)
def OpenSpec.upto (s : _root_.Go.ChangeSpec) : _root_.Go.OpenSpec := { _root_.Go.OpenSpec.ofChange s with cond := some uptoSmall }

/-- 'bitextlaw6.SegmentLong', WHERE WHAT IT READS IS OF BULK AT MOST 1048576: true; the input reads as it did. -/
def segmentLongUptoRow : OpenClaim := { program := "ytpboaadjbkaidaadoor", sum := "8296371bf9deb3e98bd1acccd636079d81b5ae5d4f4381d889ba607257e04930", func := "bitext/bitextlaw6.SegmentLong", spec := "segmentLong", inPlace := ["internal/bytealg.IndexByteString", "internal/bytealg.IndexString", "internal/bytealg.CountString"], named := ["internal/bytealg.MaxLen", "unicode/utf8.first", "unicode/utf8.acceptRanges"], apart := false, laid := [("unicode/utf8.acceptRanges", laid_unicode_utf8_acceptRanges), ("unicode/utf8.first", laid_unicode_utf8_first)], narrowed := true }
def SegmentLongUptoSaid : Prop := segmentLongUptoRow.holds Tryd.pinned (OpenSpec.upto segmentLongSpec)

/-- 'bitextlaw6.SegmentParses', WHERE WHAT IT READS IS OF BULK AT MOST 1048576: true; the input reads as it did. -/
def segmentParsesUptoRow : OpenClaim := { program := "ytpboaadjbkaidaadoor", sum := "8296371bf9deb3e98bd1acccd636079d81b5ae5d4f4381d889ba607257e04930", func := "bitext/bitextlaw6.SegmentParses", spec := "segmentParses", inPlace := ["internal/bytealg.IndexByteString", "internal/bytealg.IndexString", "internal/bytealg.CountString"], named := ["internal/bytealg.MaxLen", "unicode/utf8.first", "unicode/utf8.acceptRanges"], apart := false, laid := [("unicode/utf8.acceptRanges", laid_unicode_utf8_acceptRanges), ("unicode/utf8.first", laid_unicode_utf8_first)], narrowed := true }
def SegmentParsesUptoSaid : Prop := segmentParsesUptoRow.holds Tryd.pinned (OpenSpec.upto segmentParsesSpec)

/-- 'bitextlaw6.SegmentLimits', WHERE WHAT IT READS IS OF BULK AT MOST 1048576: true; the input reads as it did. -/
def segmentLimitsUptoRow : OpenClaim := { program := "ytpboaadjbkaidaadoor", sum := "8296371bf9deb3e98bd1acccd636079d81b5ae5d4f4381d889ba607257e04930", func := "bitext/bitextlaw6.SegmentLimits", spec := "segmentLimits", inPlace := ["internal/bytealg.IndexByteString", "internal/bytealg.IndexString", "internal/bytealg.CountString"], named := ["internal/bytealg.MaxLen", "unicode/utf8.first", "unicode/utf8.acceptRanges"], apart := false, laid := [("unicode/utf8.acceptRanges", laid_unicode_utf8_acceptRanges), ("unicode/utf8.first", laid_unicode_utf8_first)], narrowed := true }
def SegmentLimitsUptoSaid : Prop := segmentLimitsUptoRow.holds Tryd.pinned (OpenSpec.upto segmentLimitsSpec)

/-- 'bitextlaw6.SegmentValidates', WHERE WHAT IT READS IS OF BULK AT MOST 1048576: true; the input reads as it did. -/
def segmentValidatesUptoRow : OpenClaim := { program := "ytpboaadjbkaidaadoor", sum := "8296371bf9deb3e98bd1acccd636079d81b5ae5d4f4381d889ba607257e04930", func := "bitext/bitextlaw6.SegmentValidates", spec := "segmentValidates", inPlace := ["internal/bytealg.IndexByteString", "internal/bytealg.IndexString", "internal/bytealg.CountString"], named := ["internal/bytealg.MaxLen", "unicode/utf8.first", "unicode/utf8.acceptRanges"], apart := false, laid := [("unicode/utf8.acceptRanges", laid_unicode_utf8_acceptRanges), ("unicode/utf8.first", laid_unicode_utf8_first)], narrowed := true }
def SegmentValidatesUptoSaid : Prop := segmentValidatesUptoRow.holds Tryd.pinned (OpenSpec.upto segmentValidatesSpec)

/-- 'bitextlaw6.SegmentDecides', WHERE WHAT IT READS IS OF BULK AT MOST 1048576: true; the input reads as it did. -/
def segmentDecidesUptoRow : OpenClaim := { program := "ytpboaadjbkaidaadoor", sum := "8296371bf9deb3e98bd1acccd636079d81b5ae5d4f4381d889ba607257e04930", func := "bitext/bitextlaw6.SegmentDecides", spec := "segmentDecides", inPlace := ["internal/bytealg.IndexByteString", "internal/bytealg.IndexString", "internal/bytealg.CountString"], named := ["internal/bytealg.MaxLen", "unicode/utf8.first", "unicode/utf8.acceptRanges"], apart := false, laid := [("unicode/utf8.acceptRanges", laid_unicode_utf8_acceptRanges), ("unicode/utf8.first", laid_unicode_utf8_first)], narrowed := true }
def SegmentDecidesUptoSaid : Prop := segmentDecidesUptoRow.holds Tryd.pinned (OpenSpec.upto segmentDecidesSpec)

/-- 'bitextlaw6.SegmentFirst', WHERE WHAT IT READS IS OF BULK AT MOST 1048576: true; the input reads as it did. -/
def segmentFirstUptoRow : OpenClaim := { program := "ytpboaadjbkaidaadoor", sum := "8296371bf9deb3e98bd1acccd636079d81b5ae5d4f4381d889ba607257e04930", func := "bitext/bitextlaw6.SegmentFirst", spec := "segmentFirst", inPlace := ["internal/bytealg.IndexByteString", "internal/bytealg.IndexString", "internal/bytealg.CountString"], named := ["internal/bytealg.MaxLen", "unicode/utf8.first", "unicode/utf8.acceptRanges"], apart := false, laid := [("unicode/utf8.acceptRanges", laid_unicode_utf8_acceptRanges), ("unicode/utf8.first", laid_unicode_utf8_first)], narrowed := true }
def SegmentFirstUptoSaid : Prop := segmentFirstUptoRow.holds Tryd.pinned (OpenSpec.upto segmentFirstSpec)

/-- 'bitextlaw6.SegmentPlaces', WHERE WHAT IT READS IS OF BULK AT MOST 1048576: true; the input reads as it did. -/
def segmentPlacesUptoRow : OpenClaim := { program := "ytpboaadjbkaidaadoor", sum := "8296371bf9deb3e98bd1acccd636079d81b5ae5d4f4381d889ba607257e04930", func := "bitext/bitextlaw6.SegmentPlaces", spec := "segmentPlaces", inPlace := ["internal/bytealg.IndexByteString", "internal/bytealg.IndexString", "internal/bytealg.CountString"], named := ["internal/bytealg.MaxLen", "unicode/utf8.first", "unicode/utf8.acceptRanges"], apart := false, laid := [("unicode/utf8.acceptRanges", laid_unicode_utf8_acceptRanges), ("unicode/utf8.first", laid_unicode_utf8_first)], narrowed := true }
def SegmentPlacesUptoSaid : Prop := segmentPlacesUptoRow.holds Tryd.pinned (OpenSpec.upto segmentPlacesSpec)

/-- 'bitextlaw6.SegmentResolves', WHERE WHAT IT READS IS OF BULK AT MOST 1048576: true; the input reads as it did. -/
def segmentResolvesUptoRow : OpenClaim := { program := "ytpboaadjbkaidaadoor", sum := "8296371bf9deb3e98bd1acccd636079d81b5ae5d4f4381d889ba607257e04930", func := "bitext/bitextlaw6.SegmentResolves", spec := "segmentResolves", inPlace := ["internal/bytealg.IndexByteString", "internal/bytealg.IndexString", "internal/bytealg.CountString"], named := ["internal/bytealg.MaxLen", "unicode/utf8.first", "unicode/utf8.acceptRanges"], apart := false, laid := [("unicode/utf8.acceptRanges", laid_unicode_utf8_acceptRanges), ("unicode/utf8.first", laid_unicode_utf8_first)], narrowed := true }
def SegmentResolvesUptoSaid : Prop := segmentResolvesUptoRow.holds Tryd.pinned (OpenSpec.upto segmentResolvesSpec)

/-- 'bitextlaw6.SegmentCascades', WHERE WHAT IT READS IS OF BULK AT MOST 1048576: true; the input reads as it did. -/
def segmentCascadesUptoRow : OpenClaim := { program := "ytpboaadjbkaidaadoor", sum := "8296371bf9deb3e98bd1acccd636079d81b5ae5d4f4381d889ba607257e04930", func := "bitext/bitextlaw6.SegmentCascades", spec := "segmentCascades", inPlace := ["internal/bytealg.IndexByteString", "internal/bytealg.IndexString", "internal/bytealg.CountString"], named := ["internal/bytealg.MaxLen", "unicode/utf8.first", "unicode/utf8.acceptRanges"], apart := false, laid := [("unicode/utf8.acceptRanges", laid_unicode_utf8_acceptRanges), ("unicode/utf8.first", laid_unicode_utf8_first)], narrowed := true }
def SegmentCascadesUptoSaid : Prop := segmentCascadesUptoRow.holds Tryd.pinned (OpenSpec.upto segmentCascadesSpec)

/-- 'bitextlaw6.SegmentRanges', WHERE WHAT IT READS IS OF BULK AT MOST 1048576: true; the input reads as it did. -/
def segmentRangesUptoRow : OpenClaim := { program := "ytpboaadjbkaidaadoor", sum := "8296371bf9deb3e98bd1acccd636079d81b5ae5d4f4381d889ba607257e04930", func := "bitext/bitextlaw6.SegmentRanges", spec := "segmentRanges", inPlace := ["internal/bytealg.IndexByteString", "internal/bytealg.IndexString", "internal/bytealg.CountString"], named := ["internal/bytealg.MaxLen", "unicode/utf8.first", "unicode/utf8.acceptRanges"], apart := false, laid := [("unicode/utf8.acceptRanges", laid_unicode_utf8_acceptRanges), ("unicode/utf8.first", laid_unicode_utf8_first)], narrowed := true }
def SegmentRangesUptoSaid : Prop := segmentRangesUptoRow.holds Tryd.pinned (OpenSpec.upto segmentRangesSpec)

/-- 'bitextlaw6.SegmentCovers', WHERE WHAT IT READS IS OF BULK AT MOST 1048576: true; the input reads as it did. -/
def segmentCoversUptoRow : OpenClaim := { program := "ytpboaadjbkaidaadoor", sum := "8296371bf9deb3e98bd1acccd636079d81b5ae5d4f4381d889ba607257e04930", func := "bitext/bitextlaw6.SegmentCovers", spec := "segmentCovers", inPlace := ["internal/bytealg.IndexByteString", "internal/bytealg.IndexString", "internal/bytealg.CountString"], named := ["internal/bytealg.MaxLen", "unicode/utf8.first", "unicode/utf8.acceptRanges"], apart := false, laid := [("unicode/utf8.acceptRanges", laid_unicode_utf8_acceptRanges), ("unicode/utf8.first", laid_unicode_utf8_first)], narrowed := true }
def SegmentCoversUptoSaid : Prop := segmentCoversUptoRow.holds Tryd.pinned (OpenSpec.upto segmentCoversSpec)

end Rows
end Go.Proofs.YtpboaadjbkaidaaDoor
