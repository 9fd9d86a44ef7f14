/-
  DERIVED. GIVEN WITH THE SEED: THE CARDS: each row of YtdjllmogejkimaaGreatDoorRows.lean that lists a variable, with what it lists TIED to the program's text (the seventh form; the later family's looks); each row that meets fmt, with fmt's text TOLD by the authors' own Lean function (tested against real Go, not proved from fmt's source: count such statements apart). THE CARD IS WHAT COUNTS. Prove the row's statement (the work); the ties are given (YtdjllmogejkimaaGreatDoorTie.lean); close each card by the builder's one call (the guide's Derived/Test/ToyasCard.lean, 'card_holds'). Laid BY PROGRAM, IN A SANDBOX (cutbox-door.mjs). By AI agents, Wed Nov 11 2026. No macro, syntax, notation, axiom, sorry.
-/
import Derived.Test.YtdjllmogejkimaaGreatDoorRows
import GoSem.ClaimSeven
namespace Go.Proofs.YtdjllmogejkimaaGreatDoor
namespace Rows

/-- THE TIED CARD OF 'sextantlaw13.TableLast'. -/
def tableLastCard : Claim7 := { stood := { row := tableLastRow, standIns := [], harness := (true, "51bbde45e4d2dd04c97acdae3908ddac9fc14e09ed2df92405c8e04561d906e5"), looks := false }, kinds := [], alts := [], laidByText := true, laidKinds := [.data, .data, .data, .data, .pinned], laidTests := true, laidLooks := .later }
def TableLastCardSaid : Prop := Claim7.holds Tryz.pinned (.plain (OpenSpec.ofChange tableLastSpec)) tableLastCard

/-- THE TIED CARD OF 'sextantlaw13.TablePlays'. -/
def tablePlaysCard : Claim7 := { stood := { row := tablePlaysRow, standIns := [], harness := (true, "51bbde45e4d2dd04c97acdae3908ddac9fc14e09ed2df92405c8e04561d906e5"), looks := false }, kinds := [], alts := [], laidByText := true, laidKinds := [.data, .data, .data, .data, .pinned], laidTests := true, laidLooks := .later }
def TablePlaysCardSaid : Prop := Claim7.holds Tryz.pinned (.plain (OpenSpec.ofChange tablePlaysSpec)) tablePlaysCard

/-- THE SECOND FORM's CARD OF 'sextantlaw13.TableLast'. -/
def tableLastUptoCard : Claim7 := { stood := { row := tableLastUptoRow, standIns := [], harness := (true, "51bbde45e4d2dd04c97acdae3908ddac9fc14e09ed2df92405c8e04561d906e5"), looks := false }, kinds := [], alts := [], laidByText := true, laidKinds := [.data, .data, .data, .data, .pinned], laidTests := true, laidLooks := .later }
def TableLastUptoCardSaid : Prop := Claim7.holds Tryz.pinned (.plain (OpenSpec.upto tableLastSpec)) tableLastUptoCard

/-- THE SECOND FORM's CARD OF 'sextantlaw13.TablePlays'. -/
def tablePlaysUptoCard : Claim7 := { stood := { row := tablePlaysUptoRow, standIns := [], harness := (true, "51bbde45e4d2dd04c97acdae3908ddac9fc14e09ed2df92405c8e04561d906e5"), looks := false }, kinds := [], alts := [], laidByText := true, laidKinds := [.data, .data, .data, .data, .pinned], laidTests := true, laidLooks := .later }
def TablePlaysUptoCardSaid : Prop := Claim7.holds Tryz.pinned (.plain (OpenSpec.upto tablePlaysSpec)) tablePlaysUptoCard
end Rows
end Go.Proofs.YtdjllmogejkimaaGreatDoor
