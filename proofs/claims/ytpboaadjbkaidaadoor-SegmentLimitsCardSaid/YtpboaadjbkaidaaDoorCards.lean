/-
  DERIVED. GIVEN WITH THE SEED: THE CARDS: each row of YtpboaadjbkaidaaDoorRows.lean that lists a variable, with what it lists TIED to the program's text (the seventh form; the later family's looks); each row that meets fmt, with fmt's text TOLD by the authors' own Lean function (tested against real Go, not proved from fmt's source: count such statements apart). THE CARD IS WHAT COUNTS. Prove the row's statement (the work); the ties are given (YtpboaadjbkaidaaDoorTie.lean); close each card by the builder's one call (the guide's Derived/Test/ToyasCard.lean, 'card_holds'). Laid BY PROGRAM, IN A SANDBOX (cutbox-door.mjs). By AI agents, Wed Nov 11 2026. No macro, syntax, notation, axiom, sorry.
-/
import Derived.Test.YtpboaadjbkaidaaDoorRows
import GoSem.ClaimSeven
namespace Go.Proofs.YtpboaadjbkaidaaDoor
namespace Rows

/-- THE TIED CARD OF 'bitextlaw6.SegmentLong'. -/
def segmentLongCard : Claim7 := { stood := { row := segmentLongRow, standIns := [], harness := (true, "403dcef715a7ea879149cc9c7de26d003ed2db314c3c7ec87cedf5a0c580e345"), looks := false }, kinds := [], alts := [], laidByText := true, laidKinds := [.data, .pinned], laidTests := true, laidLooks := .later }
def SegmentLongCardSaid : Prop := Claim7.holds Tryd.pinned (.plain (OpenSpec.ofChange segmentLongSpec)) segmentLongCard

/-- THE TIED CARD OF 'bitextlaw6.SegmentParses'. -/
def segmentParsesCard : Claim7 := { stood := { row := segmentParsesRow, standIns := [], harness := (true, "403dcef715a7ea879149cc9c7de26d003ed2db314c3c7ec87cedf5a0c580e345"), looks := false }, kinds := [], alts := [], laidByText := true, laidKinds := [.data, .pinned], laidTests := true, laidLooks := .later }
def SegmentParsesCardSaid : Prop := Claim7.holds Tryd.pinned (.plain (OpenSpec.ofChange segmentParsesSpec)) segmentParsesCard

/-- THE TIED CARD OF 'bitextlaw6.SegmentLimits'. -/
def segmentLimitsCard : Claim7 := { stood := { row := segmentLimitsRow, standIns := [], harness := (true, "403dcef715a7ea879149cc9c7de26d003ed2db314c3c7ec87cedf5a0c580e345"), looks := false }, kinds := [], alts := [], laidByText := true, laidKinds := [.data, .pinned], laidTests := true, laidLooks := .later }
def SegmentLimitsCardSaid : Prop := Claim7.holds Tryd.pinned (.plain (OpenSpec.ofChange segmentLimitsSpec)) segmentLimitsCard

/-- THE TIED CARD OF 'bitextlaw6.SegmentValidates'. -/
def segmentValidatesCard : Claim7 := { stood := { row := segmentValidatesRow, standIns := [], harness := (true, "403dcef715a7ea879149cc9c7de26d003ed2db314c3c7ec87cedf5a0c580e345"), looks := false }, kinds := [], alts := [], laidByText := true, laidKinds := [.data, .pinned], laidTests := true, laidLooks := .later }
def SegmentValidatesCardSaid : Prop := Claim7.holds Tryd.pinned (.plain (OpenSpec.ofChange segmentValidatesSpec)) segmentValidatesCard

/-- THE TIED CARD OF 'bitextlaw6.SegmentDecides'. -/
def segmentDecidesCard : Claim7 := { stood := { row := segmentDecidesRow, standIns := [], harness := (true, "403dcef715a7ea879149cc9c7de26d003ed2db314c3c7ec87cedf5a0c580e345"), looks := false }, kinds := [], alts := [], laidByText := true, laidKinds := [.data, .pinned], laidTests := true, laidLooks := .later }
def SegmentDecidesCardSaid : Prop := Claim7.holds Tryd.pinned (.plain (OpenSpec.ofChange segmentDecidesSpec)) segmentDecidesCard

/-- THE TIED CARD OF 'bitextlaw6.SegmentFirst'. -/
def segmentFirstCard : Claim7 := { stood := { row := segmentFirstRow, standIns := [], harness := (true, "403dcef715a7ea879149cc9c7de26d003ed2db314c3c7ec87cedf5a0c580e345"), looks := false }, kinds := [], alts := [], laidByText := true, laidKinds := [.data, .pinned], laidTests := true, laidLooks := .later }
def SegmentFirstCardSaid : Prop := Claim7.holds Tryd.pinned (.plain (OpenSpec.ofChange segmentFirstSpec)) segmentFirstCard

/-- THE TIED CARD OF 'bitextlaw6.SegmentPlaces'. -/
def segmentPlacesCard : Claim7 := { stood := { row := segmentPlacesRow, standIns := [], harness := (true, "403dcef715a7ea879149cc9c7de26d003ed2db314c3c7ec87cedf5a0c580e345"), looks := false }, kinds := [], alts := [], laidByText := true, laidKinds := [.data, .pinned], laidTests := true, laidLooks := .later }
def SegmentPlacesCardSaid : Prop := Claim7.holds Tryd.pinned (.plain (OpenSpec.ofChange segmentPlacesSpec)) segmentPlacesCard

/-- THE TIED CARD OF 'bitextlaw6.SegmentResolves'. -/
def segmentResolvesCard : Claim7 := { stood := { row := segmentResolvesRow, standIns := [], harness := (true, "403dcef715a7ea879149cc9c7de26d003ed2db314c3c7ec87cedf5a0c580e345"), looks := false }, kinds := [], alts := [], laidByText := true, laidKinds := [.data, .pinned], laidTests := true, laidLooks := .later }
def SegmentResolvesCardSaid : Prop := Claim7.holds Tryd.pinned (.plain (OpenSpec.ofChange segmentResolvesSpec)) segmentResolvesCard

/-- THE TIED CARD OF 'bitextlaw6.SegmentCascades'. -/
def segmentCascadesCard : Claim7 := { stood := { row := segmentCascadesRow, standIns := [], harness := (true, "403dcef715a7ea879149cc9c7de26d003ed2db314c3c7ec87cedf5a0c580e345"), looks := false }, kinds := [], alts := [], laidByText := true, laidKinds := [.data, .pinned], laidTests := true, laidLooks := .later }
def SegmentCascadesCardSaid : Prop := Claim7.holds Tryd.pinned (.plain (OpenSpec.ofChange segmentCascadesSpec)) segmentCascadesCard

/-- THE TIED CARD OF 'bitextlaw6.SegmentRanges'. -/
def segmentRangesCard : Claim7 := { stood := { row := segmentRangesRow, standIns := [], harness := (true, "403dcef715a7ea879149cc9c7de26d003ed2db314c3c7ec87cedf5a0c580e345"), looks := false }, kinds := [], alts := [], laidByText := true, laidKinds := [.data, .pinned], laidTests := true, laidLooks := .later }
def SegmentRangesCardSaid : Prop := Claim7.holds Tryd.pinned (.plain (OpenSpec.ofChange segmentRangesSpec)) segmentRangesCard

/-- THE TIED CARD OF 'bitextlaw6.SegmentCovers'. -/
def segmentCoversCard : Claim7 := { stood := { row := segmentCoversRow, standIns := [], harness := (true, "403dcef715a7ea879149cc9c7de26d003ed2db314c3c7ec87cedf5a0c580e345"), looks := false }, kinds := [], alts := [], laidByText := true, laidKinds := [.data, .pinned], laidTests := true, laidLooks := .later }
def SegmentCoversCardSaid : Prop := Claim7.holds Tryd.pinned (.plain (OpenSpec.ofChange segmentCoversSpec)) segmentCoversCard

/-- THE SECOND FORM's CARD OF 'bitextlaw6.SegmentLong'. -/
def segmentLongUptoCard : Claim7 := { stood := { row := segmentLongUptoRow, standIns := [], harness := (true, "403dcef715a7ea879149cc9c7de26d003ed2db314c3c7ec87cedf5a0c580e345"), looks := false }, kinds := [], alts := [], laidByText := true, laidKinds := [.data, .pinned], laidTests := true, laidLooks := .later }
def SegmentLongUptoCardSaid : Prop := Claim7.holds Tryd.pinned (.plain (OpenSpec.upto segmentLongSpec)) segmentLongUptoCard

/-- THE SECOND FORM's CARD OF 'bitextlaw6.SegmentParses'. -/
def segmentParsesUptoCard : Claim7 := { stood := { row := segmentParsesUptoRow, standIns := [], harness := (true, "403dcef715a7ea879149cc9c7de26d003ed2db314c3c7ec87cedf5a0c580e345"), looks := false }, kinds := [], alts := [], laidByText := true, laidKinds := [.data, .pinned], laidTests := true, laidLooks := .later }
def SegmentParsesUptoCardSaid : Prop := Claim7.holds Tryd.pinned (.plain (OpenSpec.upto segmentParsesSpec)) segmentParsesUptoCard

/-- THE SECOND FORM's CARD OF 'bitextlaw6.SegmentLimits'. -/
def segmentLimitsUptoCard : Claim7 := { stood := { row := segmentLimitsUptoRow, standIns := [], harness := (true, "403dcef715a7ea879149cc9c7de26d003ed2db314c3c7ec87cedf5a0c580e345"), looks := false }, kinds := [], alts := [], laidByText := true, laidKinds := [.data, .pinned], laidTests := true, laidLooks := .later }
def SegmentLimitsUptoCardSaid : Prop := Claim7.holds Tryd.pinned (.plain (OpenSpec.upto segmentLimitsSpec)) segmentLimitsUptoCard

/-- THE SECOND FORM's CARD OF 'bitextlaw6.SegmentValidates'. -/
def segmentValidatesUptoCard : Claim7 := { stood := { row := segmentValidatesUptoRow, standIns := [], harness := (true, "403dcef715a7ea879149cc9c7de26d003ed2db314c3c7ec87cedf5a0c580e345"), looks := false }, kinds := [], alts := [], laidByText := true, laidKinds := [.data, .pinned], laidTests := true, laidLooks := .later }
def SegmentValidatesUptoCardSaid : Prop := Claim7.holds Tryd.pinned (.plain (OpenSpec.upto segmentValidatesSpec)) segmentValidatesUptoCard

/-- THE SECOND FORM's CARD OF 'bitextlaw6.SegmentDecides'. -/
def segmentDecidesUptoCard : Claim7 := { stood := { row := segmentDecidesUptoRow, standIns := [], harness := (true, "403dcef715a7ea879149cc9c7de26d003ed2db314c3c7ec87cedf5a0c580e345"), looks := false }, kinds := [], alts := [], laidByText := true, laidKinds := [.data, .pinned], laidTests := true, laidLooks := .later }
def SegmentDecidesUptoCardSaid : Prop := Claim7.holds Tryd.pinned (.plain (OpenSpec.upto segmentDecidesSpec)) segmentDecidesUptoCard

/-- THE SECOND FORM's CARD OF 'bitextlaw6.SegmentFirst'. -/
def segmentFirstUptoCard : Claim7 := { stood := { row := segmentFirstUptoRow, standIns := [], harness := (true, "403dcef715a7ea879149cc9c7de26d003ed2db314c3c7ec87cedf5a0c580e345"), looks := false }, kinds := [], alts := [], laidByText := true, laidKinds := [.data, .pinned], laidTests := true, laidLooks := .later }
def SegmentFirstUptoCardSaid : Prop := Claim7.holds Tryd.pinned (.plain (OpenSpec.upto segmentFirstSpec)) segmentFirstUptoCard

/-- THE SECOND FORM's CARD OF 'bitextlaw6.SegmentPlaces'. -/
def segmentPlacesUptoCard : Claim7 := { stood := { row := segmentPlacesUptoRow, standIns := [], harness := (true, "403dcef715a7ea879149cc9c7de26d003ed2db314c3c7ec87cedf5a0c580e345"), looks := false }, kinds := [], alts := [], laidByText := true, laidKinds := [.data, .pinned], laidTests := true, laidLooks := .later }
def SegmentPlacesUptoCardSaid : Prop := Claim7.holds Tryd.pinned (.plain (OpenSpec.upto segmentPlacesSpec)) segmentPlacesUptoCard

/-- THE SECOND FORM's CARD OF 'bitextlaw6.SegmentResolves'. -/
def segmentResolvesUptoCard : Claim7 := { stood := { row := segmentResolvesUptoRow, standIns := [], harness := (true, "403dcef715a7ea879149cc9c7de26d003ed2db314c3c7ec87cedf5a0c580e345"), looks := false }, kinds := [], alts := [], laidByText := true, laidKinds := [.data, .pinned], laidTests := true, laidLooks := .later }
def SegmentResolvesUptoCardSaid : Prop := Claim7.holds Tryd.pinned (.plain (OpenSpec.upto segmentResolvesSpec)) segmentResolvesUptoCard

/-- THE SECOND FORM's CARD OF 'bitextlaw6.SegmentCascades'. -/
def segmentCascadesUptoCard : Claim7 := { stood := { row := segmentCascadesUptoRow, standIns := [], harness := (true, "403dcef715a7ea879149cc9c7de26d003ed2db314c3c7ec87cedf5a0c580e345"), looks := false }, kinds := [], alts := [], laidByText := true, laidKinds := [.data, .pinned], laidTests := true, laidLooks := .later }
def SegmentCascadesUptoCardSaid : Prop := Claim7.holds Tryd.pinned (.plain (OpenSpec.upto segmentCascadesSpec)) segmentCascadesUptoCard

/-- THE SECOND FORM's CARD OF 'bitextlaw6.SegmentRanges'. -/
def segmentRangesUptoCard : Claim7 := { stood := { row := segmentRangesUptoRow, standIns := [], harness := (true, "403dcef715a7ea879149cc9c7de26d003ed2db314c3c7ec87cedf5a0c580e345"), looks := false }, kinds := [], alts := [], laidByText := true, laidKinds := [.data, .pinned], laidTests := true, laidLooks := .later }
def SegmentRangesUptoCardSaid : Prop := Claim7.holds Tryd.pinned (.plain (OpenSpec.upto segmentRangesSpec)) segmentRangesUptoCard

/-- THE SECOND FORM's CARD OF 'bitextlaw6.SegmentCovers'. -/
def segmentCoversUptoCard : Claim7 := { stood := { row := segmentCoversUptoRow, standIns := [], harness := (true, "403dcef715a7ea879149cc9c7de26d003ed2db314c3c7ec87cedf5a0c580e345"), looks := false }, kinds := [], alts := [], laidByText := true, laidKinds := [.data, .pinned], laidTests := true, laidLooks := .later }
def SegmentCoversUptoCardSaid : Prop := Claim7.holds Tryd.pinned (.plain (OpenSpec.upto segmentCoversSpec)) segmentCoversUptoCard
end Rows
end Go.Proofs.YtpboaadjbkaidaaDoor
