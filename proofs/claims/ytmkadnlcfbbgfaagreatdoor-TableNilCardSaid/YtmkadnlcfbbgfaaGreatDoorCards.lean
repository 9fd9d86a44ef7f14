/-
  DERIVED. GIVEN WITH THE SEED: THE CARDS: each row of YtmkadnlcfbbgfaaGreatDoorRows.lean that lists a variable, with what it lists TIED to the program's text (the seventh form; the later family's looks); each row that meets fmt, with fmt's text TOLD by the authors' own Lean function (tested against real Go, not proved from fmt's source: count such statements apart). THE CARD IS WHAT COUNTS. Prove the row's statement (the work); the ties are given (YtmkadnlcfbbgfaaGreatDoorTie.lean); close each card by the builder's one call (the guide's Derived/Test/ToyasCard.lean, 'card_holds'). Laid BY PROGRAM, IN A SANDBOX (cutbox-door.mjs). By AI agents, Wed Nov 11 2026. No macro, syntax, notation, axiom, sorry.
-/
import Derived.Test.YtmkadnlcfbbgfaaGreatDoorRows
import GoSem.ClaimSeven
namespace Go.Proofs.YtmkadnlcfbbgfaaGreatDoor
namespace Rows

/-- THE TIED CARD OF 'sextantlaw13.TableNil'. -/
def tableNilCard : Claim7 := { stood := { row := tableNilRow, standIns := [], harness := (true, "997063c4e559bc4f3e10bda0489a05ba7c4c21f1282e1528e70ea63c0387ce2c"), looks := false }, kinds := [], alts := [], laidByText := true, laidKinds := [.data, .data, .data, .data, .pinned], laidTests := true, laidLooks := .later }
def TableNilCardSaid : Prop := Claim7.holds Tryz.pinned (.plain (OpenSpec.ofChange tableNilSpec)) tableNilCard

/-- THE SECOND FORM's CARD OF 'sextantlaw13.TableNil'. -/
def tableNilUptoCard : Claim7 := { stood := { row := tableNilUptoRow, standIns := [], harness := (true, "997063c4e559bc4f3e10bda0489a05ba7c4c21f1282e1528e70ea63c0387ce2c"), looks := false }, kinds := [], alts := [], laidByText := true, laidKinds := [.data, .data, .data, .data, .pinned], laidTests := true, laidLooks := .later }
def TableNilUptoCardSaid : Prop := Claim7.holds Tryz.pinned (.plain (OpenSpec.upto tableNilSpec)) tableNilUptoCard
end Rows
end Go.Proofs.YtmkadnlcfbbgfaaGreatDoor
