/-
  No cell of these rows narrows 'for every input' (looked for: loops, veiled, ifaces, maps, wideKeys, modest, calm, conditions, laid).
  DERIVED. THE GIVEN ROWS OF THIS SEAT. 3 by the template 'for every input the law returns true; each argument reads behind the call as it read before'; 0 by the template 'total and deterministic' (their statements: YtnkbeaeopcemjaaTotals.lean).
  GIVEN WITH THE SEED: the statements are not yours to turn. If you find one false, say at which input.
  Laid BY PROGRAM, IN A SANDBOX (cutbox-rows.mjs): the forced cells as the released guide's own fill.sh prints them over the translation 415c9d39a67c33d2… (all of the seat's roots in one cut). By AI agents, Wed Nov 11 2026. No macro, syntax, notation, axiom, sorry.
-/
import Derived.Test.YtnkbeaeopcemjaaChecked
import GoSem.Claim
import GoSem.ClaimJoined
import GoSem.ClaimMapViews
import Derived.JoinedTies
import Derived.KernelRfl
namespace Go.Proofs.Ytnkbeaeopcemjaa
/- THE CELL 'sum', in the pinned program and in every row, IS THE sha256 OF THE DUMP (.gsa) THAT YtnkbeaeopcemjaaProg.lean LOADS. Nothing in Lean hashes anything: it is a label: what it is worth is what the hold of that sum in a sandbox is worth. -/
noncomputable def Try.pinned : Pinned := { name := "ytnkbeaeopcemjaa", sum := "415c9d39a67c33d22a50454ba4deaeee6f10b81f9b52aad208d769d40d81e070", checked := Try.checked }
namespace Rows
def none {H : Type} : Left H := { results := [], args := [] }

/-- 'sextantlaw01.CharsPairs': WHATEVER THE INPUT: true; the input reads as it did. -/
def charsPairsSpec : ChangeSpec := { name := "charsPairs", fn := fun _ => fun
  | [d] => { results := [.lit (.bool true)], args := [d] }
  | _ => none }
def charsPairsRow : OpenClaim := { program := "ytnkbeaeopcemjaa", sum := "415c9d39a67c33d22a50454ba4deaeee6f10b81f9b52aad208d769d40d81e070", func := "sextant/sextantlaw01.CharsPairs", spec := "charsPairs", inPlace := ["internal/abi.NoEscape"], apart := false }
def CharsPairsSaid : Prop := charsPairsRow.holds Try.pinned (OpenSpec.ofChange charsPairsSpec)

/-- ITS FALSE NEIGHBOUR: 'it returns false'. Refute it at one input. -/
def charsPairsWrong : ChangeSpec := { name := "charsPairs", fn := fun _ => fun
  | [d] => { results := [.lit (.bool false)], args := [d] }
  | _ => none }
def CharsPairsWrongFalsely : Prop := charsPairsRow.holds Try.pinned (OpenSpec.ofChange charsPairsWrong)

/-- 'sextantlaw01.CharsFolds': WHATEVER THE INPUT: true; the input reads as it did. -/
def charsFoldsSpec : ChangeSpec := { name := "charsFolds", fn := fun _ => fun
  | [d] => { results := [.lit (.bool true)], args := [d] }
  | _ => none }
def charsFoldsRow : OpenClaim := { program := "ytnkbeaeopcemjaa", sum := "415c9d39a67c33d22a50454ba4deaeee6f10b81f9b52aad208d769d40d81e070", func := "sextant/sextantlaw01.CharsFolds", spec := "charsFolds", inPlace := ["internal/abi.NoEscape"], apart := false }
def CharsFoldsSaid : Prop := charsFoldsRow.holds Try.pinned (OpenSpec.ofChange charsFoldsSpec)

/-- ITS FALSE NEIGHBOUR: 'it returns false'. Refute it at one input. -/
def charsFoldsWrong : ChangeSpec := { name := "charsFolds", fn := fun _ => fun
  | [d] => { results := [.lit (.bool false)], args := [d] }
  | _ => none }
def CharsFoldsWrongFalsely : Prop := charsFoldsRow.holds Try.pinned (OpenSpec.ofChange charsFoldsWrong)

/-- 'sextantlaw01.CharsCases': WHATEVER THE INPUT: true; the input reads as it did. -/
def charsCasesSpec : ChangeSpec := { name := "charsCases", fn := fun _ => fun
  | [d] => { results := [.lit (.bool true)], args := [d] }
  | _ => none }
def charsCasesRow : OpenClaim := { program := "ytnkbeaeopcemjaa", sum := "415c9d39a67c33d22a50454ba4deaeee6f10b81f9b52aad208d769d40d81e070", func := "sextant/sextantlaw01.CharsCases", spec := "charsCases", inPlace := ["internal/abi.NoEscape"], apart := false }
def CharsCasesSaid : Prop := charsCasesRow.holds Try.pinned (OpenSpec.ofChange charsCasesSpec)

/-- ITS FALSE NEIGHBOUR: 'it returns false'. Refute it at one input. -/
def charsCasesWrong : ChangeSpec := { name := "charsCases", fn := fun _ => fun
  | [d] => { results := [.lit (.bool false)], args := [d] }
  | _ => none }
def CharsCasesWrongFalsely : Prop := charsCasesRow.holds Try.pinned (OpenSpec.ofChange charsCasesWrong)

/- THE SECOND FORM. 'bulk': how many values and letters a reading holds, each counted each time it is reached (what is shared counts as often as it is met; a slice's spare places count too). A statement '..UptoSaid' is the law's where the arguments, and the package variables that the reading takes, are together of bulk at most 1048576: NARROWER than '..Said'. Prove '..Said' where nothing that the law and all that it calls make is longer than what came in: it says more and counts as full. Else prove '..UptoSaid'. A law counts once. -/
mutual
def uptoBulk {H : Type} : DataW H → Nat
  | .lit (.string bytes) => bytes.length + 1
  | .lit _ => 1
  | .nil => 1
  | .ptr d => uptoBulk d + 1
  | .slice elems spare => uptoBulkAll elems + uptoBulkAll spare + 1
  | .agg parts => uptoBulkAll parts + 1
  | .iface _ d => uptoBulk d + 1
  | .map entries => uptoBulkEntries entries + 1
  | .held _ => 1
def uptoBulkAll {H : Type} : List (DataW H) → Nat
  | [] => 0
  | d :: r => uptoBulk d + uptoBulkAll r
def uptoBulkEntries {H : Type} : List (Lit × DataW H) → Nat
  | [] => 0
  | x :: r => uptoBulkEntry x + uptoBulkEntries r
def uptoBulkEntry {H : Type} : Lit × DataW H → Nat
  | (.string bytes, d) => bytes.length + uptoBulk d + 1
  | (_, d) => uptoBulk d + 1
 end
def uptoSmall : (H : Type) → List (DataW H) → Bool := fun _ ds => decide (uptoBulkAll ds ≤ 1048576)
def OpenSpec.upto (s : _root_.Go.ChangeSpec) : _root_.Go.OpenSpec := { _root_.Go.OpenSpec.ofChange s with cond := some uptoSmall }

/-- 'sextantlaw01.CharsPairs', WHERE WHAT IT READS IS OF BULK AT MOST 1048576: true; the input reads as it did. -/
def charsPairsUptoRow : OpenClaim := { program := "ytnkbeaeopcemjaa", sum := "415c9d39a67c33d22a50454ba4deaeee6f10b81f9b52aad208d769d40d81e070", func := "sextant/sextantlaw01.CharsPairs", spec := "charsPairs", inPlace := ["internal/abi.NoEscape"], apart := false, narrowed := true }
def CharsPairsUptoSaid : Prop := charsPairsUptoRow.holds Try.pinned (OpenSpec.upto charsPairsSpec)

/-- 'sextantlaw01.CharsFolds', WHERE WHAT IT READS IS OF BULK AT MOST 1048576: true; the input reads as it did. -/
def charsFoldsUptoRow : OpenClaim := { program := "ytnkbeaeopcemjaa", sum := "415c9d39a67c33d22a50454ba4deaeee6f10b81f9b52aad208d769d40d81e070", func := "sextant/sextantlaw01.CharsFolds", spec := "charsFolds", inPlace := ["internal/abi.NoEscape"], apart := false, narrowed := true }
def CharsFoldsUptoSaid : Prop := charsFoldsUptoRow.holds Try.pinned (OpenSpec.upto charsFoldsSpec)

/-- 'sextantlaw01.CharsCases', WHERE WHAT IT READS IS OF BULK AT MOST 1048576: true; the input reads as it did. -/
def charsCasesUptoRow : OpenClaim := { program := "ytnkbeaeopcemjaa", sum := "415c9d39a67c33d22a50454ba4deaeee6f10b81f9b52aad208d769d40d81e070", func := "sextant/sextantlaw01.CharsCases", spec := "charsCases", inPlace := ["internal/abi.NoEscape"], apart := false, narrowed := true }
def CharsCasesUptoSaid : Prop := charsCasesUptoRow.holds Try.pinned (OpenSpec.upto charsCasesSpec)

end Rows
end Go.Proofs.Ytnkbeaeopcemjaa
