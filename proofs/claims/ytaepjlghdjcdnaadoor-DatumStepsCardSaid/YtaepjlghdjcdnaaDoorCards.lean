/-
  DERIVED. GIVEN WITH THE SEED: THE CARDS: each row of YtaepjlghdjcdnaaDoorRows.lean that lists a variable, with what it lists TIED to the program's text (the seventh form; the later family's looks); each row that meets fmt, with fmt's text TOLD by the authors' own Lean function (tested against real Go, not proved from fmt's source: count such statements apart). THE CARD IS WHAT COUNTS. Prove the row's statement (the work); the ties are given (YtaepjlghdjcdnaaDoorTie.lean); close each card by the builder's one call (the guide's Derived/Test/ToyasCard.lean, 'card_holds'). Laid BY PROGRAM, IN A SANDBOX (cutbox-door.mjs). By AI agents, Wed Nov 11 2026. No macro, syntax, notation, axiom, sorry.
-/
import Derived.Test.YtaepjlghdjcdnaaDoorRows
import GoSem.ClaimSeven
namespace Go.Proofs.YtaepjlghdjcdnaaDoor
namespace Rows

/-- THE TIED CARD OF 'sextantlaw08.DatumBlanks'. -/
def datumBlanksCard : Claim7 := { stood := { row := datumBlanksRow, standIns := [], harness := (true, "ca9c35a2c8e2b0b7bb4cb47fd51017b94d3a8bd929dfaae6001093358739a5a3"), looks := true }, kinds := [], alts := [], laidByText := true, laidKinds := [.data, .pinned], laidTests := true, laidLooks := .later }
def DatumBlanksCardSaid : Prop := Claim7.holds Tryd.pinned (.plain (OpenSpec.ofChange datumBlanksSpec)) datumBlanksCard

/-- THE TIED CARD OF 'sextantlaw08.DatumSteps'. -/
def datumStepsCard : Claim7 := { stood := { row := datumStepsRow, standIns := [], harness := (true, "ca9c35a2c8e2b0b7bb4cb47fd51017b94d3a8bd929dfaae6001093358739a5a3"), looks := true }, kinds := [], alts := [], laidByText := true, laidKinds := [.data, .pinned], laidTests := true, laidLooks := .later }
def DatumStepsCardSaid : Prop := Claim7.holds Tryd.pinned (.plain (OpenSpec.ofChange datumStepsSpec)) datumStepsCard

/-- THE SECOND FORM's CARD OF 'sextantlaw08.DatumBlanks'. -/
def datumBlanksUptoCard : Claim7 := { stood := { row := datumBlanksUptoRow, standIns := [], harness := (true, "ca9c35a2c8e2b0b7bb4cb47fd51017b94d3a8bd929dfaae6001093358739a5a3"), looks := true }, kinds := [], alts := [], laidByText := true, laidKinds := [.data, .pinned], laidTests := true, laidLooks := .later }
def DatumBlanksUptoCardSaid : Prop := Claim7.holds Tryd.pinned (.plain (OpenSpec.upto datumBlanksSpec)) datumBlanksUptoCard

/-- THE SECOND FORM's CARD OF 'sextantlaw08.DatumSteps'. -/
def datumStepsUptoCard : Claim7 := { stood := { row := datumStepsUptoRow, standIns := [], harness := (true, "ca9c35a2c8e2b0b7bb4cb47fd51017b94d3a8bd929dfaae6001093358739a5a3"), looks := true }, kinds := [], alts := [], laidByText := true, laidKinds := [.data, .pinned], laidTests := true, laidLooks := .later }
def DatumStepsUptoCardSaid : Prop := Claim7.holds Tryd.pinned (.plain (OpenSpec.upto datumStepsSpec)) datumStepsUptoCard
end Rows
end Go.Proofs.YtaepjlghdjcdnaaDoor
