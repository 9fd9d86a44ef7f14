/-
  DERIVED. GIVEN WITH THE SEED: THE CARDS: each row of YtikmebkfdpbidaaGreatDoorRows.lean that lists a variable, with what it lists TIED to the program's text (the seventh form; the later family's looks); each row that meets fmt, with fmt's text TOLD by the authors' own Lean function (tested against real Go, not proved from fmt's source: count such statements apart). THE CARD IS WHAT COUNTS. Prove the row's statement (the work); the ties are given (YtikmebkfdpbidaaGreatDoorTie.lean); close each card by the builder's one call (the guide's Derived/Test/ToyasCard.lean, 'card_holds'). Laid BY PROGRAM, IN A SANDBOX (cutbox-door.mjs). By AI agents, Wed Nov 11 2026. No macro, syntax, notation, axiom, sorry.
-/
import Derived.Test.YtikmebkfdpbidaaGreatDoorRows
import GoSem.ClaimSeven
namespace Go.Proofs.YtikmebkfdpbidaaGreatDoor
namespace Rows

/-- THE TIED CARD OF 'sextantlaw09.WriteTells'. -/
def writeTellsCard : Claim7 := { stood := { row := writeTellsRow, standIns := [], harness := (true, "142788dff1c99021502998ae9b89ee121c4ee4e0563a314912f5b6a101381482"), looks := false }, kinds := [], alts := [], laidByText := true, laidKinds := [.data, .data, .data, .data, .pinned], laidTests := true, laidLooks := .later }
def WriteTellsCardSaid : Prop := Claim7.holds Tryz.pinned (.plain (OpenSpec.ofChange writeTellsSpec)) writeTellsCard

/-- THE TIED CARD OF 'sextantlaw13.TableKinds'. -/
def tableKindsCard : Claim7 := { stood := { row := tableKindsRow, standIns := [], harness := (true, "142788dff1c99021502998ae9b89ee121c4ee4e0563a314912f5b6a101381482"), looks := false }, kinds := [], alts := [], laidByText := true, laidKinds := [.data, .data, .data, .data, .pinned], laidTests := true, laidLooks := .later }
def TableKindsCardSaid : Prop := Claim7.holds Tryz.pinned (.plain (OpenSpec.ofChange tableKindsSpec)) tableKindsCard

/-- THE TIED CARD OF 'sextantlaw16.CondParts'. -/
def condPartsCard : Claim7 := { stood := { row := condPartsRow, standIns := [], harness := (true, "142788dff1c99021502998ae9b89ee121c4ee4e0563a314912f5b6a101381482"), looks := false }, kinds := [], alts := [], laidByText := true, laidKinds := [.data, .data, .data, .data, .pinned], laidTests := true, laidLooks := .later }
def CondPartsCardSaid : Prop := Claim7.holds Tryz.pinned (.plain (OpenSpec.ofChange condPartsSpec)) condPartsCard

/-- THE TIED CARD OF 'sextantlaw16.CondFirst'. -/
def condFirstCard : Claim7 := { stood := { row := condFirstRow, standIns := [], harness := (true, "142788dff1c99021502998ae9b89ee121c4ee4e0563a314912f5b6a101381482"), looks := false }, kinds := [], alts := [], laidByText := true, laidKinds := [.data, .data, .data, .data, .pinned], laidTests := true, laidLooks := .later }
def CondFirstCardSaid : Prop := Claim7.holds Tryz.pinned (.plain (OpenSpec.ofChange condFirstSpec)) condFirstCard

/-- THE TIED CARD OF 'sextantlaw13.TableLast'. -/
def tableLastCard : Claim7 := { stood := { row := tableLastRow, standIns := [], harness := (true, "142788dff1c99021502998ae9b89ee121c4ee4e0563a314912f5b6a101381482"), looks := false }, kinds := [], alts := [], laidByText := true, laidKinds := [.data, .data, .data, .data, .pinned], laidTests := true, laidLooks := .later }
def TableLastCardSaid : Prop := Claim7.holds Tryz.pinned (.plain (OpenSpec.ofChange tableLastSpec)) tableLastCard

/-- THE TIED CARD OF 'sextantlaw13.TablePlays'. -/
def tablePlaysCard : Claim7 := { stood := { row := tablePlaysRow, standIns := [], harness := (true, "142788dff1c99021502998ae9b89ee121c4ee4e0563a314912f5b6a101381482"), looks := false }, kinds := [], alts := [], laidByText := true, laidKinds := [.data, .data, .data, .data, .pinned], laidTests := true, laidLooks := .later }
def TablePlaysCardSaid : Prop := Claim7.holds Tryz.pinned (.plain (OpenSpec.ofChange tablePlaysSpec)) tablePlaysCard

/-- THE SECOND FORM's CARD OF 'sextantlaw09.WriteTells'. -/
def writeTellsUptoCard : Claim7 := { stood := { row := writeTellsUptoRow, standIns := [], harness := (true, "142788dff1c99021502998ae9b89ee121c4ee4e0563a314912f5b6a101381482"), looks := false }, kinds := [], alts := [], laidByText := true, laidKinds := [.data, .data, .data, .data, .pinned], laidTests := true, laidLooks := .later }
def WriteTellsUptoCardSaid : Prop := Claim7.holds Tryz.pinned (.plain (OpenSpec.upto writeTellsSpec)) writeTellsUptoCard

/-- THE SECOND FORM's CARD OF 'sextantlaw13.TableKinds'. -/
def tableKindsUptoCard : Claim7 := { stood := { row := tableKindsUptoRow, standIns := [], harness := (true, "142788dff1c99021502998ae9b89ee121c4ee4e0563a314912f5b6a101381482"), looks := false }, kinds := [], alts := [], laidByText := true, laidKinds := [.data, .data, .data, .data, .pinned], laidTests := true, laidLooks := .later }
def TableKindsUptoCardSaid : Prop := Claim7.holds Tryz.pinned (.plain (OpenSpec.upto tableKindsSpec)) tableKindsUptoCard

/-- THE SECOND FORM's CARD OF 'sextantlaw16.CondParts'. -/
def condPartsUptoCard : Claim7 := { stood := { row := condPartsUptoRow, standIns := [], harness := (true, "142788dff1c99021502998ae9b89ee121c4ee4e0563a314912f5b6a101381482"), looks := false }, kinds := [], alts := [], laidByText := true, laidKinds := [.data, .data, .data, .data, .pinned], laidTests := true, laidLooks := .later }
def CondPartsUptoCardSaid : Prop := Claim7.holds Tryz.pinned (.plain (OpenSpec.upto condPartsSpec)) condPartsUptoCard

/-- THE SECOND FORM's CARD OF 'sextantlaw16.CondFirst'. -/
def condFirstUptoCard : Claim7 := { stood := { row := condFirstUptoRow, standIns := [], harness := (true, "142788dff1c99021502998ae9b89ee121c4ee4e0563a314912f5b6a101381482"), looks := false }, kinds := [], alts := [], laidByText := true, laidKinds := [.data, .data, .data, .data, .pinned], laidTests := true, laidLooks := .later }
def CondFirstUptoCardSaid : Prop := Claim7.holds Tryz.pinned (.plain (OpenSpec.upto condFirstSpec)) condFirstUptoCard

/-- THE SECOND FORM's CARD OF 'sextantlaw13.TableLast'. -/
def tableLastUptoCard : Claim7 := { stood := { row := tableLastUptoRow, standIns := [], harness := (true, "142788dff1c99021502998ae9b89ee121c4ee4e0563a314912f5b6a101381482"), looks := false }, kinds := [], alts := [], laidByText := true, laidKinds := [.data, .data, .data, .data, .pinned], laidTests := true, laidLooks := .later }
def TableLastUptoCardSaid : Prop := Claim7.holds Tryz.pinned (.plain (OpenSpec.upto tableLastSpec)) tableLastUptoCard

/-- THE SECOND FORM's CARD OF 'sextantlaw13.TablePlays'. -/
def tablePlaysUptoCard : Claim7 := { stood := { row := tablePlaysUptoRow, standIns := [], harness := (true, "142788dff1c99021502998ae9b89ee121c4ee4e0563a314912f5b6a101381482"), looks := false }, kinds := [], alts := [], laidByText := true, laidKinds := [.data, .data, .data, .data, .pinned], laidTests := true, laidLooks := .later }
def TablePlaysUptoCardSaid : Prop := Claim7.holds Tryz.pinned (.plain (OpenSpec.upto tablePlaysSpec)) tablePlaysUptoCard
end Rows
end Go.Proofs.YtikmebkfdpbidaaGreatDoor
