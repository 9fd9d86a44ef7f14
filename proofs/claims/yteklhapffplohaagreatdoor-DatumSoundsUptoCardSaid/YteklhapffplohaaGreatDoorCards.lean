/-
  DERIVED. GIVEN WITH THE SEED: THE CARDS: each row of YteklhapffplohaaGreatDoorRows.lean that lists a variable, with what it lists TIED to the program's text (the seventh form; the later family's looks); each row that meets fmt, with fmt's text TOLD by the authors' own Lean function (tested against real Go, not proved from fmt's source: count such statements apart). THE CARD IS WHAT COUNTS. Prove the row's statement (the work); the ties are given (YteklhapffplohaaGreatDoorTie.lean); close each card by the builder's one call (the guide's Derived/Test/ToyasCard.lean, 'card_holds'). Laid BY PROGRAM, IN A SANDBOX (cutbox-door.mjs). By AI agents, Wed Nov 11 2026. No macro, syntax, notation, axiom, sorry.
-/
import Derived.Test.YteklhapffplohaaGreatDoorRows
import GoSem.ClaimSeven
namespace Go.Proofs.YteklhapffplohaaGreatDoor
namespace Rows

/-- THE TIED CARD OF 'sextantlaw08.DatumSounds'. -/
def datumSoundsCard : Claim7 := { stood := { row := datumSoundsRow, standIns := [], harness := (true, "149a65b6a80b396d79750f73ba0f29fc6c4463fca323d3ee3c9024c0ba6f5de5"), looks := true }, kinds := [], alts := [], laidByText := true, laidKinds := [.data, .pinned], laidTests := true, laidLooks := .later }
def DatumSoundsCardSaid : Prop := Claim7.holds Tryz.pinned (.plain (OpenSpec.ofChange datumSoundsSpec)) datumSoundsCard

/-- THE TIED CARD OF 'sextantlaw09.WriteOnce'. -/
def writeOnceCard : Claim7 := { stood := { row := writeOnceRow, standIns := [], harness := (true, "149a65b6a80b396d79750f73ba0f29fc6c4463fca323d3ee3c9024c0ba6f5de5"), looks := true }, kinds := [], alts := [], laidByText := true, laidKinds := [.data, .data, .data, .data, .pinned], laidTests := true, laidLooks := .later }
def WriteOnceCardSaid : Prop := Claim7.holds Tryz.pinned (.plain (OpenSpec.ofChange writeOnceSpec)) writeOnceCard

/-- THE SECOND FORM's CARD OF 'sextantlaw08.DatumSounds'. -/
def datumSoundsUptoCard : Claim7 := { stood := { row := datumSoundsUptoRow, standIns := [], harness := (true, "149a65b6a80b396d79750f73ba0f29fc6c4463fca323d3ee3c9024c0ba6f5de5"), looks := true }, kinds := [], alts := [], laidByText := true, laidKinds := [.data, .pinned], laidTests := true, laidLooks := .later }
def DatumSoundsUptoCardSaid : Prop := Claim7.holds Tryz.pinned (.plain (OpenSpec.upto datumSoundsSpec)) datumSoundsUptoCard

/-- THE SECOND FORM's CARD OF 'sextantlaw09.WriteOnce'. -/
def writeOnceUptoCard : Claim7 := { stood := { row := writeOnceUptoRow, standIns := [], harness := (true, "149a65b6a80b396d79750f73ba0f29fc6c4463fca323d3ee3c9024c0ba6f5de5"), looks := true }, kinds := [], alts := [], laidByText := true, laidKinds := [.data, .data, .data, .data, .pinned], laidTests := true, laidLooks := .later }
def WriteOnceUptoCardSaid : Prop := Claim7.holds Tryz.pinned (.plain (OpenSpec.upto writeOnceSpec)) writeOnceUptoCard
end Rows
end Go.Proofs.YteklhapffplohaaGreatDoor
