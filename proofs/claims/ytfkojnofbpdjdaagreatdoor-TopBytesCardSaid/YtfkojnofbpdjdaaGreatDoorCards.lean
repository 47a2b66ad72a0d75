/-
  DERIVED. GIVEN WITH THE SEED: THE CARDS: each row of YtfkojnofbpdjdaaGreatDoorRows.lean that lists a variable, with what it lists TIED to the program's text (the seventh form; the later family's looks); each row that meets fmt, with fmt's text TOLD by the authors' own Lean function (tested against real Go, not proved from fmt's source: count such statements apart). THE CARD IS WHAT COUNTS. Prove the row's statement (the work); the ties are given (YtfkojnofbpdjdaaGreatDoorTie.lean); close each card by the builder's one call (the guide's Derived/Test/ToyasCard.lean, 'card_holds'). Laid BY PROGRAM, IN A SANDBOX (cutbox-door.mjs). By AI agents, Wed Nov 11 2026. No macro, syntax, notation, axiom, sorry.
-/
import Derived.Test.YtfkojnofbpdjdaaGreatDoorRows
import GoSem.ClaimSeven
namespace Go.Proofs.YtfkojnofbpdjdaaGreatDoor
namespace Rows

/-- THE TIED CARD OF 'bitexttop.TopFormats'. -/
def topFormatsCard : Claim7 := { stood := { row := topFormatsRow, standIns := [], harness := (true, "18b6c51532f02788b6101f34405ab0cdbb84868285cfc91fe999b2419c5a9e22"), looks := true }, kinds := [], alts := [], laidByText := true, laidKinds := [.data, .data, .data, .data, .pinned], laidTests := true, laidLooks := .later }
def TopFormatsCardSaid : Prop := Claim7.holds Tryz.pinned (.plain (OpenSpec.ofChange topFormatsSpec)) topFormatsCard

/-- THE TIED CARD OF 'bitexttop.TopBytes'. -/
def topBytesCard : Claim7 := { stood := { row := topBytesRow, standIns := [], harness := (true, "18b6c51532f02788b6101f34405ab0cdbb84868285cfc91fe999b2419c5a9e22"), looks := true }, kinds := [], alts := [], laidByText := true, laidKinds := [.data, .data, .data, .data, .pinned], laidTests := true, laidLooks := .later }
def TopBytesCardSaid : Prop := Claim7.holds Tryz.pinned (.plain (OpenSpec.ofChange topBytesSpec)) topBytesCard

/-- THE TIED CARD OF 'bitexttop.TopKeeps'. -/
def topKeepsCard : Claim7 := { stood := { row := topKeepsRow, standIns := [], harness := (true, "18b6c51532f02788b6101f34405ab0cdbb84868285cfc91fe999b2419c5a9e22"), looks := true }, kinds := [], alts := [], laidByText := true, laidKinds := [.data, .data, .data, .data, .pinned], laidTests := true, laidLooks := .later }
def TopKeepsCardSaid : Prop := Claim7.holds Tryz.pinned (.plain (OpenSpec.ofChange topKeepsSpec)) topKeepsCard

/-- THE TIED CARD OF 'bitexttop.TopConverts'. -/
def topConvertsCard : Claim7 := { stood := { row := topConvertsRow, standIns := [], harness := (true, "18b6c51532f02788b6101f34405ab0cdbb84868285cfc91fe999b2419c5a9e22"), looks := true }, kinds := [], alts := [], laidByText := true, laidKinds := [.data, .data, .data, .data, .pinned], laidTests := true, laidLooks := .later }
def TopConvertsCardSaid : Prop := Claim7.holds Tryz.pinned (.plain (OpenSpec.ofChange topConvertsSpec)) topConvertsCard

/-- THE SECOND FORM's CARD OF 'bitexttop.TopFormats'. -/
def topFormatsUptoCard : Claim7 := { stood := { row := topFormatsUptoRow, standIns := [], harness := (true, "18b6c51532f02788b6101f34405ab0cdbb84868285cfc91fe999b2419c5a9e22"), looks := true }, kinds := [], alts := [], laidByText := true, laidKinds := [.data, .data, .data, .data, .pinned], laidTests := true, laidLooks := .later }
def TopFormatsUptoCardSaid : Prop := Claim7.holds Tryz.pinned (.plain (OpenSpec.upto topFormatsSpec)) topFormatsUptoCard

/-- THE SECOND FORM's CARD OF 'bitexttop.TopBytes'. -/
def topBytesUptoCard : Claim7 := { stood := { row := topBytesUptoRow, standIns := [], harness := (true, "18b6c51532f02788b6101f34405ab0cdbb84868285cfc91fe999b2419c5a9e22"), looks := true }, kinds := [], alts := [], laidByText := true, laidKinds := [.data, .data, .data, .data, .pinned], laidTests := true, laidLooks := .later }
def TopBytesUptoCardSaid : Prop := Claim7.holds Tryz.pinned (.plain (OpenSpec.upto topBytesSpec)) topBytesUptoCard

/-- THE SECOND FORM's CARD OF 'bitexttop.TopKeeps'. -/
def topKeepsUptoCard : Claim7 := { stood := { row := topKeepsUptoRow, standIns := [], harness := (true, "18b6c51532f02788b6101f34405ab0cdbb84868285cfc91fe999b2419c5a9e22"), looks := true }, kinds := [], alts := [], laidByText := true, laidKinds := [.data, .data, .data, .data, .pinned], laidTests := true, laidLooks := .later }
def TopKeepsUptoCardSaid : Prop := Claim7.holds Tryz.pinned (.plain (OpenSpec.upto topKeepsSpec)) topKeepsUptoCard

/-- THE SECOND FORM's CARD OF 'bitexttop.TopConverts'. -/
def topConvertsUptoCard : Claim7 := { stood := { row := topConvertsUptoRow, standIns := [], harness := (true, "18b6c51532f02788b6101f34405ab0cdbb84868285cfc91fe999b2419c5a9e22"), looks := true }, kinds := [], alts := [], laidByText := true, laidKinds := [.data, .data, .data, .data, .pinned], laidTests := true, laidLooks := .later }
def TopConvertsUptoCardSaid : Prop := Claim7.holds Tryz.pinned (.plain (OpenSpec.upto topConvertsSpec)) topConvertsUptoCard
end Rows
end Go.Proofs.YtfkojnofbpdjdaaGreatDoor
