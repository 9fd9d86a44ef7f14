/-
  DERIVED. GIVEN WITH THE SEED: THE CARDS: each row of YtpjnamlcchjlcaaGreatDoorRows.lean that lists a variable, with what it lists TIED to the program's text (the seventh form; the later family's looks); each row that meets fmt, with fmt's text TOLD by the authors' own Lean function (tested against real Go, not proved from fmt's source: count such statements apart). THE CARD IS WHAT COUNTS. Prove the row's statement (the work); the ties are given (YtpjnamlcchjlcaaGreatDoorTie.lean); close each card by the builder's one call (the guide's Derived/Test/ToyasCard.lean, 'card_holds'). Laid BY PROGRAM, IN A SANDBOX (cutbox-door.mjs). By AI agents, Wed Nov 11 2026. No macro, syntax, notation, axiom, sorry.
-/
import Derived.Test.YtpjnamlcchjlcaaGreatDoorRows
import GoSem.ClaimSeven
namespace Go.Proofs.YtpjnamlcchjlcaaGreatDoor
namespace Rows

/-- THE TIED CARD OF 'sextantlaw20.PortsNil'. -/
def portsNilCard : Claim7 := { stood := { row := portsNilRow, standIns := [], harness := (true, "80c168e3ebc63276168ab69e52f455b879d66cfbd47961a7ada2d319a12436d2"), looks := true }, kinds := [], alts := [], laidByText := true, laidKinds := [.data, .pinned], laidTests := true, laidLooks := .later }
def PortsNilCardSaid : Prop := Claim7.holds Tryz.pinned (.plain (OpenSpec.ofChange portsNilSpec)) portsNilCard

/-- THE SECOND FORM's CARD OF 'sextantlaw20.PortsNil'. -/
def portsNilUptoCard : Claim7 := { stood := { row := portsNilUptoRow, standIns := [], harness := (true, "80c168e3ebc63276168ab69e52f455b879d66cfbd47961a7ada2d319a12436d2"), looks := true }, kinds := [], alts := [], laidByText := true, laidKinds := [.data, .pinned], laidTests := true, laidLooks := .later }
def PortsNilUptoCardSaid : Prop := Claim7.holds Tryz.pinned (.plain (OpenSpec.upto portsNilSpec)) portsNilUptoCard
end Rows
end Go.Proofs.YtpjnamlcchjlcaaGreatDoor
