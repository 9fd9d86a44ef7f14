/-
  DERIVED. GIVEN WITH THE SEED: THE CARDS: each row of YtdpbpkggbgfkgaaDoorRows.lean that lists a variable, with what it lists TIED to the program's text (the seventh form; the later family's looks); each row that meets fmt, with fmt's text TOLD by the authors' own Lean function (tested against real Go, not proved from fmt's source: count such statements apart). THE CARD IS WHAT COUNTS. Prove the row's statement (the work); the ties are given (YtdpbpkggbgfkgaaDoorTie.lean); close each card by the builder's one call (the guide's Derived/Test/ToyasCard.lean, 'card_holds'). Laid BY PROGRAM, IN A SANDBOX (cutbox-door.mjs). By AI agents, Wed Nov 11 2026. No macro, syntax, notation, axiom, sorry.
-/
import Derived.Test.YtdpbpkggbgfkgaaDoorRows
import GoSem.ClaimSeven
namespace Go.Proofs.YtdpbpkggbgfkgaaDoor
namespace Rows

/-- THE TIED CARD OF 'sextantlaw06.CodecDecodes'. -/
def codecDecodesCard : Claim7 := { stood := { row := codecDecodesRow, standIns := [], harness := (true, "95ab5c18c43cf1322f8881ea7546ef09f144898a4d344e2e36b58076bf0476aa"), looks := false }, kinds := [], alts := [], laidByText := true, laidKinds := [.data, .pinned], laidTests := true, laidLooks := .later }
def CodecDecodesCardSaid : Prop := Claim7.holds Tryd.pinned (.plain (OpenSpec.ofChange codecDecodesSpec)) codecDecodesCard

/-- THE TIED CARD OF 'sextantlaw20.PortsChars'. -/
def portsCharsCard : Claim7 := { stood := { row := portsCharsRow, standIns := [], harness := (true, "95ab5c18c43cf1322f8881ea7546ef09f144898a4d344e2e36b58076bf0476aa"), looks := false }, kinds := [], alts := [], laidByText := true, laidKinds := [.data, .pinned], laidTests := true, laidLooks := .later }
def PortsCharsCardSaid : Prop := Claim7.holds Tryd.pinned (.plain (OpenSpec.ofChange portsCharsSpec)) portsCharsCard

/-- THE TIED CARD OF 'sextantlaw06.CodecEncodes'. -/
def codecEncodesCard : Claim7 := { stood := { row := codecEncodesRow, standIns := [], harness := (true, "95ab5c18c43cf1322f8881ea7546ef09f144898a4d344e2e36b58076bf0476aa"), looks := false }, kinds := [], alts := [], laidByText := true, laidKinds := [.data, .pinned], laidTests := true, laidLooks := .later }
def CodecEncodesCardSaid : Prop := Claim7.holds Tryd.pinned (.plain (OpenSpec.ofChange codecEncodesSpec)) codecEncodesCard

/-- THE TIED CARD OF 'sextantlaw06.CodecBack'. -/
def codecBackCard : Claim7 := { stood := { row := codecBackRow, standIns := [], harness := (true, "95ab5c18c43cf1322f8881ea7546ef09f144898a4d344e2e36b58076bf0476aa"), looks := false }, kinds := [], alts := [], laidByText := true, laidKinds := [.data, .pinned], laidTests := true, laidLooks := .later }
def CodecBackCardSaid : Prop := Claim7.holds Tryd.pinned (.plain (OpenSpec.ofChange codecBackSpec)) codecBackCard

/-- THE TIED CARD OF 'sextantlaw06.CodecModes'. -/
def codecModesCard : Claim7 := { stood := { row := codecModesRow, standIns := [], harness := (true, "95ab5c18c43cf1322f8881ea7546ef09f144898a4d344e2e36b58076bf0476aa"), looks := false }, kinds := [], alts := [], laidByText := true, laidKinds := [.data, .pinned], laidTests := true, laidLooks := .later }
def CodecModesCardSaid : Prop := Claim7.holds Tryd.pinned (.plain (OpenSpec.ofChange codecModesSpec)) codecModesCard

/-- THE TIED CARD OF 'sextantlaw06.CodecPlaces'. -/
def codecPlacesCard : Claim7 := { stood := { row := codecPlacesRow, standIns := [], harness := (true, "95ab5c18c43cf1322f8881ea7546ef09f144898a4d344e2e36b58076bf0476aa"), looks := false }, kinds := [], alts := [], laidByText := true, laidKinds := [.data, .pinned], laidTests := true, laidLooks := .later }
def CodecPlacesCardSaid : Prop := Claim7.holds Tryd.pinned (.plain (OpenSpec.ofChange codecPlacesSpec)) codecPlacesCard

/-- THE TIED CARD OF 'sextantlaw06.CodecJoins'. -/
def codecJoinsCard : Claim7 := { stood := { row := codecJoinsRow, standIns := [], harness := (true, "95ab5c18c43cf1322f8881ea7546ef09f144898a4d344e2e36b58076bf0476aa"), looks := false }, kinds := [], alts := [], laidByText := true, laidKinds := [.data, .pinned], laidTests := true, laidLooks := .later }
def CodecJoinsCardSaid : Prop := Claim7.holds Tryd.pinned (.plain (OpenSpec.ofChange codecJoinsSpec)) codecJoinsCard

/-- THE TIED CARD OF 'sextantlaw20.PortsLines'. -/
def portsLinesCard : Claim7 := { stood := { row := portsLinesRow, standIns := [], harness := (true, "95ab5c18c43cf1322f8881ea7546ef09f144898a4d344e2e36b58076bf0476aa"), looks := false }, kinds := [], alts := [], laidByText := true, laidKinds := [.data, .pinned], laidTests := true, laidLooks := .later }
def PortsLinesCardSaid : Prop := Claim7.holds Tryd.pinned (.plain (OpenSpec.ofChange portsLinesSpec)) portsLinesCard

/-- THE SECOND FORM's CARD OF 'sextantlaw06.CodecDecodes'. -/
def codecDecodesUptoCard : Claim7 := { stood := { row := codecDecodesUptoRow, standIns := [], harness := (true, "95ab5c18c43cf1322f8881ea7546ef09f144898a4d344e2e36b58076bf0476aa"), looks := false }, kinds := [], alts := [], laidByText := true, laidKinds := [.data, .pinned], laidTests := true, laidLooks := .later }
def CodecDecodesUptoCardSaid : Prop := Claim7.holds Tryd.pinned (.plain (OpenSpec.upto codecDecodesSpec)) codecDecodesUptoCard

/-- THE SECOND FORM's CARD OF 'sextantlaw20.PortsChars'. -/
def portsCharsUptoCard : Claim7 := { stood := { row := portsCharsUptoRow, standIns := [], harness := (true, "95ab5c18c43cf1322f8881ea7546ef09f144898a4d344e2e36b58076bf0476aa"), looks := false }, kinds := [], alts := [], laidByText := true, laidKinds := [.data, .pinned], laidTests := true, laidLooks := .later }
def PortsCharsUptoCardSaid : Prop := Claim7.holds Tryd.pinned (.plain (OpenSpec.upto portsCharsSpec)) portsCharsUptoCard

/-- THE SECOND FORM's CARD OF 'sextantlaw06.CodecEncodes'. -/
def codecEncodesUptoCard : Claim7 := { stood := { row := codecEncodesUptoRow, standIns := [], harness := (true, "95ab5c18c43cf1322f8881ea7546ef09f144898a4d344e2e36b58076bf0476aa"), looks := false }, kinds := [], alts := [], laidByText := true, laidKinds := [.data, .pinned], laidTests := true, laidLooks := .later }
def CodecEncodesUptoCardSaid : Prop := Claim7.holds Tryd.pinned (.plain (OpenSpec.upto codecEncodesSpec)) codecEncodesUptoCard

/-- THE SECOND FORM's CARD OF 'sextantlaw06.CodecBack'. -/
def codecBackUptoCard : Claim7 := { stood := { row := codecBackUptoRow, standIns := [], harness := (true, "95ab5c18c43cf1322f8881ea7546ef09f144898a4d344e2e36b58076bf0476aa"), looks := false }, kinds := [], alts := [], laidByText := true, laidKinds := [.data, .pinned], laidTests := true, laidLooks := .later }
def CodecBackUptoCardSaid : Prop := Claim7.holds Tryd.pinned (.plain (OpenSpec.upto codecBackSpec)) codecBackUptoCard

/-- THE SECOND FORM's CARD OF 'sextantlaw06.CodecModes'. -/
def codecModesUptoCard : Claim7 := { stood := { row := codecModesUptoRow, standIns := [], harness := (true, "95ab5c18c43cf1322f8881ea7546ef09f144898a4d344e2e36b58076bf0476aa"), looks := false }, kinds := [], alts := [], laidByText := true, laidKinds := [.data, .pinned], laidTests := true, laidLooks := .later }
def CodecModesUptoCardSaid : Prop := Claim7.holds Tryd.pinned (.plain (OpenSpec.upto codecModesSpec)) codecModesUptoCard

/-- THE SECOND FORM's CARD OF 'sextantlaw06.CodecPlaces'. -/
def codecPlacesUptoCard : Claim7 := { stood := { row := codecPlacesUptoRow, standIns := [], harness := (true, "95ab5c18c43cf1322f8881ea7546ef09f144898a4d344e2e36b58076bf0476aa"), looks := false }, kinds := [], alts := [], laidByText := true, laidKinds := [.data, .pinned], laidTests := true, laidLooks := .later }
def CodecPlacesUptoCardSaid : Prop := Claim7.holds Tryd.pinned (.plain (OpenSpec.upto codecPlacesSpec)) codecPlacesUptoCard

/-- THE SECOND FORM's CARD OF 'sextantlaw06.CodecJoins'. -/
def codecJoinsUptoCard : Claim7 := { stood := { row := codecJoinsUptoRow, standIns := [], harness := (true, "95ab5c18c43cf1322f8881ea7546ef09f144898a4d344e2e36b58076bf0476aa"), looks := false }, kinds := [], alts := [], laidByText := true, laidKinds := [.data, .pinned], laidTests := true, laidLooks := .later }
def CodecJoinsUptoCardSaid : Prop := Claim7.holds Tryd.pinned (.plain (OpenSpec.upto codecJoinsSpec)) codecJoinsUptoCard

/-- THE SECOND FORM's CARD OF 'sextantlaw20.PortsLines'. -/
def portsLinesUptoCard : Claim7 := { stood := { row := portsLinesUptoRow, standIns := [], harness := (true, "95ab5c18c43cf1322f8881ea7546ef09f144898a4d344e2e36b58076bf0476aa"), looks := false }, kinds := [], alts := [], laidByText := true, laidKinds := [.data, .pinned], laidTests := true, laidLooks := .later }
def PortsLinesUptoCardSaid : Prop := Claim7.holds Tryd.pinned (.plain (OpenSpec.upto portsLinesSpec)) portsLinesUptoCard
end Rows
end Go.Proofs.YtdpbpkggbgfkgaaDoor
