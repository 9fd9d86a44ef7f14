/-
  DERIVED. GIVEN WITH THE SEED: THE CARDS: each row of YthcdkhegdlbdiaaGreatDoorRows.lean that lists a variable, with what it lists TIED to the program's text (the seventh form; the later family's looks); each row that meets fmt, with fmt's text TOLD by the authors' own Lean function (tested against real Go, not proved from fmt's source: count such statements apart). THE CARD IS WHAT COUNTS. Prove the row's statement (the work); the ties are given (YthcdkhegdlbdiaaGreatDoorTie.lean); close each card by the builder's one call (the guide's Derived/Test/ToyasCard.lean, 'card_holds'). Laid BY PROGRAM, IN A SANDBOX (cutbox-door.mjs). By AI agents, Wed Nov 11 2026. No macro, syntax, notation, axiom, sorry.
-/
import Derived.Test.YthcdkhegdlbdiaaGreatDoorRows
import GoSem.ClaimSeven
namespace Go.Proofs.YthcdkhegdlbdiaaGreatDoor
namespace Rows

/-- THE TIED CARD OF 'sextantlaw16.CondTree'. -/
def condTreeCard : Claim7 := { stood := { row := condTreeRow, standIns := [], harness := (true, "65746a189916e5a25221bfb81288b5cff457ca547fcc287906a9193cca72b304"), looks := false }, kinds := [], alts := [], laidByText := true, laidKinds := [.data, .data, .data, .data, .pinned], laidTests := true, laidLooks := .later }
def CondTreeCardSaid : Prop := Claim7.holds Tryz.pinned (.plain (OpenSpec.ofChange condTreeSpec)) condTreeCard

/-- THE TIED CARD OF 'sextantlaw16.CondTypes'. -/
def condTypesCard : Claim7 := { stood := { row := condTypesRow, standIns := [], harness := (true, "65746a189916e5a25221bfb81288b5cff457ca547fcc287906a9193cca72b304"), looks := false }, kinds := [], alts := [], laidByText := true, laidKinds := [.data, .data, .data, .data, .pinned], laidTests := true, laidLooks := .later }
def CondTypesCardSaid : Prop := Claim7.holds Tryz.pinned (.plain (OpenSpec.ofChange condTypesSpec)) condTypesCard

/-- THE SECOND FORM's CARD OF 'sextantlaw16.CondTree'. -/
def condTreeUptoCard : Claim7 := { stood := { row := condTreeUptoRow, standIns := [], harness := (true, "65746a189916e5a25221bfb81288b5cff457ca547fcc287906a9193cca72b304"), looks := false }, kinds := [], alts := [], laidByText := true, laidKinds := [.data, .data, .data, .data, .pinned], laidTests := true, laidLooks := .later }
def CondTreeUptoCardSaid : Prop := Claim7.holds Tryz.pinned (.plain (OpenSpec.upto condTreeSpec)) condTreeUptoCard

/-- THE SECOND FORM's CARD OF 'sextantlaw16.CondTypes'. -/
def condTypesUptoCard : Claim7 := { stood := { row := condTypesUptoRow, standIns := [], harness := (true, "65746a189916e5a25221bfb81288b5cff457ca547fcc287906a9193cca72b304"), looks := false }, kinds := [], alts := [], laidByText := true, laidKinds := [.data, .data, .data, .data, .pinned], laidTests := true, laidLooks := .later }
def CondTypesUptoCardSaid : Prop := Claim7.holds Tryz.pinned (.plain (OpenSpec.upto condTypesSpec)) condTypesUptoCard
end Rows
end Go.Proofs.YthcdkhegdlbdiaaGreatDoor
