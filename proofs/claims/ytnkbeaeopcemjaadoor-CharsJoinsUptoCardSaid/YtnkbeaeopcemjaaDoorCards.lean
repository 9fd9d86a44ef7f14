/-
  DERIVED. GIVEN WITH THE SEED: THE CARDS: each row of YtnkbeaeopcemjaaDoorRows.lean that lists a variable, with what it lists TIED to the program's text (the seventh form; the later family's looks); each row that meets fmt, with fmt's text TOLD by the authors' own Lean function (tested against real Go, not proved from fmt's source: count such statements apart). THE CARD IS WHAT COUNTS. Prove the row's statement (the work); the ties are given (YtnkbeaeopcemjaaDoorTie.lean); close each card by the builder's one call (the guide's Derived/Test/ToyasCard.lean, 'card_holds'). Laid BY PROGRAM, IN A SANDBOX (cutbox-door.mjs). By AI agents, Wed Nov 11 2026. No macro, syntax, notation, axiom, sorry.
-/
import Derived.Test.YtnkbeaeopcemjaaDoorRows
import GoSem.ClaimSeven
namespace Go.Proofs.YtnkbeaeopcemjaaDoor
namespace Rows

/-- THE TIED CARD OF 'sextantlaw01.CharsTexts'. -/
def charsTextsCard : Claim7 := { stood := { row := charsTextsRow, standIns := [], harness := (true, "becf45c3809e9b8a4ec79a757b94a1de6b831ca2609f53559e1b95187d8f50e3"), looks := false }, kinds := [], alts := [], laidByText := true, laidKinds := [.data, .pinned], laidTests := true, laidLooks := .later }
def CharsTextsCardSaid : Prop := Claim7.holds Tryd.pinned (.plain (OpenSpec.ofChange charsTextsSpec)) charsTextsCard

/-- THE TIED CARD OF 'sextantlaw01.CharsJoins'. -/
def charsJoinsCard : Claim7 := { stood := { row := charsJoinsRow, standIns := [], harness := (true, "becf45c3809e9b8a4ec79a757b94a1de6b831ca2609f53559e1b95187d8f50e3"), looks := false }, kinds := [], alts := [], laidByText := true, laidKinds := [.data, .pinned], laidTests := true, laidLooks := .later }
def CharsJoinsCardSaid : Prop := Claim7.holds Tryd.pinned (.plain (OpenSpec.ofChange charsJoinsSpec)) charsJoinsCard

/-- THE SECOND FORM's CARD OF 'sextantlaw01.CharsTexts'. -/
def charsTextsUptoCard : Claim7 := { stood := { row := charsTextsUptoRow, standIns := [], harness := (true, "becf45c3809e9b8a4ec79a757b94a1de6b831ca2609f53559e1b95187d8f50e3"), looks := false }, kinds := [], alts := [], laidByText := true, laidKinds := [.data, .pinned], laidTests := true, laidLooks := .later }
def CharsTextsUptoCardSaid : Prop := Claim7.holds Tryd.pinned (.plain (OpenSpec.upto charsTextsSpec)) charsTextsUptoCard

/-- THE SECOND FORM's CARD OF 'sextantlaw01.CharsJoins'. -/
def charsJoinsUptoCard : Claim7 := { stood := { row := charsJoinsUptoRow, standIns := [], harness := (true, "becf45c3809e9b8a4ec79a757b94a1de6b831ca2609f53559e1b95187d8f50e3"), looks := false }, kinds := [], alts := [], laidByText := true, laidKinds := [.data, .pinned], laidTests := true, laidLooks := .later }
def CharsJoinsUptoCardSaid : Prop := Claim7.holds Tryd.pinned (.plain (OpenSpec.upto charsJoinsSpec)) charsJoinsUptoCard
end Rows
end Go.Proofs.YtnkbeaeopcemjaaDoor
