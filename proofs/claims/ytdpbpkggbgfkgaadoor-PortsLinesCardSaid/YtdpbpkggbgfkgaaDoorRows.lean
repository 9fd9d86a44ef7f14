/-
  NARROWER THAN 'FOR EVERY INPUT', by the rows' own cells (each row's printed sentence says how): CodecDecodes: laid · PortsChars: laid · CodecEncodes: laid · CodecBack: laid · CodecModes: laid · CodecPlaces: laid · CodecJoins: laid · PortsLines: laid.
  DERIVED. THE GIVEN ROWS OF THIS SEAT. 8 by the template 'for every input the law returns true; each argument reads behind the call as it read before'; 0 by the template 'total and deterministic' (their statements: YtdpbpkggbgfkgaaDoorTotals.lean).
  GIVEN WITH THE SEED: the statements are not yours to turn. If you find one false, say at which input.
  Laid BY PROGRAM, IN A SANDBOX (cutbox-rows.mjs): the forced cells as the released guide's own fill.sh prints them over the translation 154cdf70b941825c… (all of the seat's roots in one cut). By AI agents, Wed Nov 11 2026. No macro, syntax, notation, axiom, sorry.
-/
import Derived.Test.YtdpbpkggbgfkgaaDoorChecked
import GoSem.PinnedTables
import GoSem.Claim
import GoSem.ClaimJoined
import GoSem.ClaimMapViews
import Derived.JoinedTies
import Derived.KernelRfl
namespace Go.Proofs.YtdpbpkggbgfkgaaDoor
/- THE CELL 'sum', in the pinned program and in every row, IS THE sha256 OF THE DUMP (.gsa) THAT YtdpbpkggbgfkgaaDoorProg.lean LOADS. Nothing in Lean hashes anything: it is a label: what it is worth is what the hold of that sum in a sandbox is worth. -/
noncomputable def Tryd.pinned : Pinned := { name := "ytdpbpkggbgfkgaadoor", sum := "154cdf70b941825c85590f99db9d6be34aba9aafc1a99e793914e69949f19ab5", checked := Tryd.checked }
namespace Rows
def none {H : Type} : Left H := { results := [], args := [] }

/- WHAT THE LISTED PACKAGE-LEVEL VARIABLES READ AS WHEN THE CALL BEGINS. Each datum BY PROGRAM (the guide's laid-datum.mjs) off the statement by which the dump's own 'gosem.cut.vars' lays the variable. In a bare row this is a premise. The card (YtdpbpkggbgfkgaaDoorCards.lean) ties it to the program's text. -/
def laid_unicode_utf8_acceptRanges {H : Type} : DataW H := .agg [.agg [.lit (.int .u8 128), .lit (.int .u8 191)], .agg [.lit (.int .u8 160), .lit (.int .u8 191)], .agg [.lit (.int .u8 128), .lit (.int .u8 159)], .agg [.lit (.int .u8 144), .lit (.int .u8 191)], .agg [.lit (.int .u8 128), .lit (.int .u8 143)], .agg [.lit (.int .u8 0), .lit (.int .u8 0)], .agg [.lit (.int .u8 0), .lit (.int .u8 0)], .agg [.lit (.int .u8 0), .lit (.int .u8 0)], .agg [.lit (.int .u8 0), .lit (.int .u8 0)], .agg [.lit (.int .u8 0), .lit (.int .u8 0)], .agg [.lit (.int .u8 0), .lit (.int .u8 0)], .agg [.lit (.int .u8 0), .lit (.int .u8 0)], .agg [.lit (.int .u8 0), .lit (.int .u8 0)], .agg [.lit (.int .u8 0), .lit (.int .u8 0)], .agg [.lit (.int .u8 0), .lit (.int .u8 0)], .agg [.lit (.int .u8 0), .lit (.int .u8 0)]]
/-- One of Go's own tables, pinned by name: the form's constant. -/
def laid_unicode_utf8_first : DataW Unit := Go.Pinned.utf8First

/-- 'sextantlaw06.CodecDecodes': WHATEVER THE INPUT: true; the input reads as it did. -/
def codecDecodesSpec : ChangeSpec := { name := "codecDecodes", fn := fun _ => fun
  | [d1, d2] => { results := [.lit (.bool true)], args := [d1, d2] }
  | _ => none }
def codecDecodesRow : OpenClaim := { program := "ytdpbpkggbgfkgaadoor", sum := "154cdf70b941825c85590f99db9d6be34aba9aafc1a99e793914e69949f19ab5", func := "sextant/sextantlaw06.CodecDecodes", spec := "codecDecodes", unfollowed := true, recurses := true, named := ["unicode/utf8.first", "unicode/utf8.acceptRanges"], apart := false, laid := [("unicode/utf8.acceptRanges", laid_unicode_utf8_acceptRanges), ("unicode/utf8.first", laid_unicode_utf8_first)] }
def CodecDecodesSaid : Prop := codecDecodesRow.holds Tryd.pinned (OpenSpec.ofChange codecDecodesSpec)

/-- ITS FALSE NEIGHBOUR: 'it returns false'. Refute it at one input. -/
def codecDecodesWrong : ChangeSpec := { name := "codecDecodes", fn := fun _ => fun
  | [d1, d2] => { results := [.lit (.bool false)], args := [d1, d2] }
  | _ => none }
def CodecDecodesWrongFalsely : Prop := codecDecodesRow.holds Tryd.pinned (OpenSpec.ofChange codecDecodesWrong)

/-- 'sextantlaw20.PortsChars': WHATEVER THE INPUT: true; the input reads as it did. -/
def portsCharsSpec : ChangeSpec := { name := "portsChars", fn := fun _ => fun
  | [d1, d2] => { results := [.lit (.bool true)], args := [d1, d2] }
  | _ => none }
def portsCharsRow : OpenClaim := { program := "ytdpbpkggbgfkgaadoor", sum := "154cdf70b941825c85590f99db9d6be34aba9aafc1a99e793914e69949f19ab5", func := "sextant/sextantlaw20.PortsChars", spec := "portsChars", unfollowed := true, recurses := true, named := ["unicode/utf8.first", "unicode/utf8.acceptRanges"], apart := false, laid := [("unicode/utf8.acceptRanges", laid_unicode_utf8_acceptRanges), ("unicode/utf8.first", laid_unicode_utf8_first)] }
def PortsCharsSaid : Prop := portsCharsRow.holds Tryd.pinned (OpenSpec.ofChange portsCharsSpec)

/-- ITS FALSE NEIGHBOUR: 'it returns false'. Refute it at one input. -/
def portsCharsWrong : ChangeSpec := { name := "portsChars", fn := fun _ => fun
  | [d1, d2] => { results := [.lit (.bool false)], args := [d1, d2] }
  | _ => none }
def PortsCharsWrongFalsely : Prop := portsCharsRow.holds Tryd.pinned (OpenSpec.ofChange portsCharsWrong)

/-- 'sextantlaw06.CodecEncodes': WHATEVER THE INPUT: true; the input reads as it did. -/
def codecEncodesSpec : ChangeSpec := { name := "codecEncodes", fn := fun _ => fun
  | [d1, d2] => { results := [.lit (.bool true)], args := [d1, d2] }
  | _ => none }
def codecEncodesRow : OpenClaim := { program := "ytdpbpkggbgfkgaadoor", sum := "154cdf70b941825c85590f99db9d6be34aba9aafc1a99e793914e69949f19ab5", func := "sextant/sextantlaw06.CodecEncodes", spec := "codecEncodes", unfollowed := true, recurses := true, named := ["unicode/utf8.first", "unicode/utf8.acceptRanges"], apart := false, laid := [("unicode/utf8.acceptRanges", laid_unicode_utf8_acceptRanges), ("unicode/utf8.first", laid_unicode_utf8_first)] }
def CodecEncodesSaid : Prop := codecEncodesRow.holds Tryd.pinned (OpenSpec.ofChange codecEncodesSpec)

/-- ITS FALSE NEIGHBOUR: 'it returns false'. Refute it at one input. -/
def codecEncodesWrong : ChangeSpec := { name := "codecEncodes", fn := fun _ => fun
  | [d1, d2] => { results := [.lit (.bool false)], args := [d1, d2] }
  | _ => none }
def CodecEncodesWrongFalsely : Prop := codecEncodesRow.holds Tryd.pinned (OpenSpec.ofChange codecEncodesWrong)

/-- 'sextantlaw06.CodecBack': WHATEVER THE INPUT: true; the input reads as it did. -/
def codecBackSpec : ChangeSpec := { name := "codecBack", fn := fun _ => fun
  | [d1, d2] => { results := [.lit (.bool true)], args := [d1, d2] }
  | _ => none }
def codecBackRow : OpenClaim := { program := "ytdpbpkggbgfkgaadoor", sum := "154cdf70b941825c85590f99db9d6be34aba9aafc1a99e793914e69949f19ab5", func := "sextant/sextantlaw06.CodecBack", spec := "codecBack", unfollowed := true, recurses := true, named := ["unicode/utf8.first", "unicode/utf8.acceptRanges"], apart := false, laid := [("unicode/utf8.acceptRanges", laid_unicode_utf8_acceptRanges), ("unicode/utf8.first", laid_unicode_utf8_first)] }
def CodecBackSaid : Prop := codecBackRow.holds Tryd.pinned (OpenSpec.ofChange codecBackSpec)

/-- ITS FALSE NEIGHBOUR: 'it returns false'. Refute it at one input. -/
def codecBackWrong : ChangeSpec := { name := "codecBack", fn := fun _ => fun
  | [d1, d2] => { results := [.lit (.bool false)], args := [d1, d2] }
  | _ => none }
def CodecBackWrongFalsely : Prop := codecBackRow.holds Tryd.pinned (OpenSpec.ofChange codecBackWrong)

/-- 'sextantlaw06.CodecModes': WHATEVER THE INPUT: true; the input reads as it did. -/
def codecModesSpec : ChangeSpec := { name := "codecModes", fn := fun _ => fun
  | [d1, d2, d3] => { results := [.lit (.bool true)], args := [d1, d2, d3] }
  | _ => none }
def codecModesRow : OpenClaim := { program := "ytdpbpkggbgfkgaadoor", sum := "154cdf70b941825c85590f99db9d6be34aba9aafc1a99e793914e69949f19ab5", func := "sextant/sextantlaw06.CodecModes", spec := "codecModes", unfollowed := true, recurses := true, named := ["unicode/utf8.first", "unicode/utf8.acceptRanges"], apart := false, laid := [("unicode/utf8.acceptRanges", laid_unicode_utf8_acceptRanges), ("unicode/utf8.first", laid_unicode_utf8_first)] }
def CodecModesSaid : Prop := codecModesRow.holds Tryd.pinned (OpenSpec.ofChange codecModesSpec)

/-- ITS FALSE NEIGHBOUR: 'it returns false'. Refute it at one input. -/
def codecModesWrong : ChangeSpec := { name := "codecModes", fn := fun _ => fun
  | [d1, d2, d3] => { results := [.lit (.bool false)], args := [d1, d2, d3] }
  | _ => none }
def CodecModesWrongFalsely : Prop := codecModesRow.holds Tryd.pinned (OpenSpec.ofChange codecModesWrong)

/-- 'sextantlaw06.CodecPlaces': WHATEVER THE INPUT: true; the input reads as it did. -/
def codecPlacesSpec : ChangeSpec := { name := "codecPlaces", fn := fun _ => fun
  | [d1, d2, d3] => { results := [.lit (.bool true)], args := [d1, d2, d3] }
  | _ => none }
def codecPlacesRow : OpenClaim := { program := "ytdpbpkggbgfkgaadoor", sum := "154cdf70b941825c85590f99db9d6be34aba9aafc1a99e793914e69949f19ab5", func := "sextant/sextantlaw06.CodecPlaces", spec := "codecPlaces", unfollowed := true, recurses := true, named := ["unicode/utf8.first", "unicode/utf8.acceptRanges"], apart := false, laid := [("unicode/utf8.acceptRanges", laid_unicode_utf8_acceptRanges), ("unicode/utf8.first", laid_unicode_utf8_first)] }
def CodecPlacesSaid : Prop := codecPlacesRow.holds Tryd.pinned (OpenSpec.ofChange codecPlacesSpec)

/-- ITS FALSE NEIGHBOUR: 'it returns false'. Refute it at one input. -/
def codecPlacesWrong : ChangeSpec := { name := "codecPlaces", fn := fun _ => fun
  | [d1, d2, d3] => { results := [.lit (.bool false)], args := [d1, d2, d3] }
  | _ => none }
def CodecPlacesWrongFalsely : Prop := codecPlacesRow.holds Tryd.pinned (OpenSpec.ofChange codecPlacesWrong)

/-- 'sextantlaw06.CodecJoins': WHATEVER THE INPUT: true; the input reads as it did. -/
def codecJoinsSpec : ChangeSpec := { name := "codecJoins", fn := fun _ => fun
  | [d1, d2, d3] => { results := [.lit (.bool true)], args := [d1, d2, d3] }
  | _ => none }
def codecJoinsRow : OpenClaim := { program := "ytdpbpkggbgfkgaadoor", sum := "154cdf70b941825c85590f99db9d6be34aba9aafc1a99e793914e69949f19ab5", func := "sextant/sextantlaw06.CodecJoins", spec := "codecJoins", unfollowed := true, recurses := true, named := ["unicode/utf8.first", "unicode/utf8.acceptRanges"], apart := false, laid := [("unicode/utf8.acceptRanges", laid_unicode_utf8_acceptRanges), ("unicode/utf8.first", laid_unicode_utf8_first)] }
def CodecJoinsSaid : Prop := codecJoinsRow.holds Tryd.pinned (OpenSpec.ofChange codecJoinsSpec)

/-- ITS FALSE NEIGHBOUR: 'it returns false'. Refute it at one input. -/
def codecJoinsWrong : ChangeSpec := { name := "codecJoins", fn := fun _ => fun
  | [d1, d2, d3] => { results := [.lit (.bool false)], args := [d1, d2, d3] }
  | _ => none }
def CodecJoinsWrongFalsely : Prop := codecJoinsRow.holds Tryd.pinned (OpenSpec.ofChange codecJoinsWrong)

/-- 'sextantlaw20.PortsLines': WHATEVER THE INPUT: true; the input reads as it did. -/
def portsLinesSpec : ChangeSpec := { name := "portsLines", fn := fun _ => fun
  | [d] => { results := [.lit (.bool true)], args := [d] }
  | _ => none }
def portsLinesRow : OpenClaim := { program := "ytdpbpkggbgfkgaadoor", sum := "154cdf70b941825c85590f99db9d6be34aba9aafc1a99e793914e69949f19ab5", func := "sextant/sextantlaw20.PortsLines", spec := "portsLines", inPlace := ["internal/bytealg.IndexByteString", "internal/bytealg.IndexString"], unfollowed := true, recurses := true, named := ["unicode/utf8.first", "unicode/utf8.acceptRanges", "internal/bytealg.MaxLen"], apart := false, laid := [("unicode/utf8.acceptRanges", laid_unicode_utf8_acceptRanges), ("unicode/utf8.first", laid_unicode_utf8_first)] }
def PortsLinesSaid : Prop := portsLinesRow.holds Tryd.pinned (OpenSpec.ofChange portsLinesSpec)

/-- ITS FALSE NEIGHBOUR: 'it returns false'. Refute it at one input. -/
def portsLinesWrong : ChangeSpec := { name := "portsLines", fn := fun _ => fun
  | [d] => { results := [.lit (.bool false)], args := [d] }
  | _ => none }
def PortsLinesWrongFalsely : Prop := portsLinesRow.holds Tryd.pinned (OpenSpec.ofChange portsLinesWrong)

/- THE SECOND FORM. 'bulk': how many values and letters a reading holds, each counted each time it is reached (what is shared counts as often as it is met; a slice's spare places count too). A statement '..UptoSaid' is the law's where the arguments, and the package variables that the reading takes, are together of bulk at most 1048576: NARROWER than '..Said'. Prove '..Said' where nothing that the law and all that it calls make is longer than what came in: it says more and counts as full. Else prove '..UptoSaid'. A law counts once. -/
mutual
def uptoBulk {H : Type} : DataW H → Nat
  | .lit (.string bytes) => bytes.length + 1
  | .lit _ => 1
  | .nil => 1
  | .ptr d => uptoBulk d + 1
  | .slice elems spare => uptoBulkAll elems + uptoBulkAll spare + 1
  | .agg parts => uptoBulkAll parts + 1
  | .iface _ d => uptoBulk d + 1
  | .map entries => uptoBulkEntries entries + 1
  | .held _ => 1
def uptoBulkAll {H : Type} : List (DataW H) → Nat
  | [] => 0
  | d :: r => uptoBulk d + uptoBulkAll r
def uptoBulkEntries {H : Type} : List (Lit × DataW H) → Nat
  | [] => 0
  | x :: r => uptoBulkEntry x + uptoBulkEntries r
def uptoBulkEntry {H : Type} : Lit × DataW H → Nat
  | (.string bytes, d) => bytes.length + uptoBulk d + 1
  | (_, d) => uptoBulk d + 1
 end
def uptoSmall : (H : Type) → List (DataW H) → Bool := fun _ ds => decide (uptoBulkAll ds ≤ 1048576)
def OpenSpec.upto (s : _root_.Go.ChangeSpec) : _root_.Go.OpenSpec := { _root_.Go.OpenSpec.ofChange s with cond := some uptoSmall }

/-- 'sextantlaw06.CodecDecodes', WHERE WHAT IT READS IS OF BULK AT MOST 1048576: true; the input reads as it did. -/
def codecDecodesUptoRow : OpenClaim := { program := "ytdpbpkggbgfkgaadoor", sum := "154cdf70b941825c85590f99db9d6be34aba9aafc1a99e793914e69949f19ab5", func := "sextant/sextantlaw06.CodecDecodes", spec := "codecDecodes", unfollowed := true, recurses := true, named := ["unicode/utf8.first", "unicode/utf8.acceptRanges"], apart := false, laid := [("unicode/utf8.acceptRanges", laid_unicode_utf8_acceptRanges), ("unicode/utf8.first", laid_unicode_utf8_first)], narrowed := true }
def CodecDecodesUptoSaid : Prop := codecDecodesUptoRow.holds Tryd.pinned (OpenSpec.upto codecDecodesSpec)

/-- 'sextantlaw20.PortsChars', WHERE WHAT IT READS IS OF BULK AT MOST 1048576: true; the input reads as it did. -/
def portsCharsUptoRow : OpenClaim := { program := "ytdpbpkggbgfkgaadoor", sum := "154cdf70b941825c85590f99db9d6be34aba9aafc1a99e793914e69949f19ab5", func := "sextant/sextantlaw20.PortsChars", spec := "portsChars", unfollowed := true, recurses := true, named := ["unicode/utf8.first", "unicode/utf8.acceptRanges"], apart := false, laid := [("unicode/utf8.acceptRanges", laid_unicode_utf8_acceptRanges), ("unicode/utf8.first", laid_unicode_utf8_first)], narrowed := true }
def PortsCharsUptoSaid : Prop := portsCharsUptoRow.holds Tryd.pinned (OpenSpec.upto portsCharsSpec)

/-- 'sextantlaw06.CodecEncodes', WHERE WHAT IT READS IS OF BULK AT MOST 1048576: true; the input reads as it did. -/
def codecEncodesUptoRow : OpenClaim := { program := "ytdpbpkggbgfkgaadoor", sum := "154cdf70b941825c85590f99db9d6be34aba9aafc1a99e793914e69949f19ab5", func := "sextant/sextantlaw06.CodecEncodes", spec := "codecEncodes", unfollowed := true, recurses := true, named := ["unicode/utf8.first", "unicode/utf8.acceptRanges"], apart := false, laid := [("unicode/utf8.acceptRanges", laid_unicode_utf8_acceptRanges), ("unicode/utf8.first", laid_unicode_utf8_first)], narrowed := true }
def CodecEncodesUptoSaid : Prop := codecEncodesUptoRow.holds Tryd.pinned (OpenSpec.upto codecEncodesSpec)

/-- 'sextantlaw06.CodecBack', WHERE WHAT IT READS IS OF BULK AT MOST 1048576: true; the input reads as it did. -/
def codecBackUptoRow : OpenClaim := { program := "ytdpbpkggbgfkgaadoor", sum := "154cdf70b941825c85590f99db9d6be34aba9aafc1a99e793914e69949f19ab5", func := "sextant/sextantlaw06.CodecBack", spec := "codecBack", unfollowed := true, recurses := true, named := ["unicode/utf8.first", "unicode/utf8.acceptRanges"], apart := false, laid := [("unicode/utf8.acceptRanges", laid_unicode_utf8_acceptRanges), ("unicode/utf8.first", laid_unicode_utf8_first)], narrowed := true }
def CodecBackUptoSaid : Prop := codecBackUptoRow.holds Tryd.pinned (OpenSpec.upto codecBackSpec)

/-- 'sextantlaw06.CodecModes', WHERE WHAT IT READS IS OF BULK AT MOST 1048576: true; the input reads as it did. -/
def codecModesUptoRow : OpenClaim := { program := "ytdpbpkggbgfkgaadoor", sum := "154cdf70b941825c85590f99db9d6be34aba9aafc1a99e793914e69949f19ab5", func := "sextant/sextantlaw06.CodecModes", spec := "codecModes", unfollowed := true, recurses := true, named := ["unicode/utf8.first", "unicode/utf8.acceptRanges"], apart := false, laid := [("unicode/utf8.acceptRanges", laid_unicode_utf8_acceptRanges), ("unicode/utf8.first", laid_unicode_utf8_first)], narrowed := true }
def CodecModesUptoSaid : Prop := codecModesUptoRow.holds Tryd.pinned (OpenSpec.upto codecModesSpec)

/-- 'sextantlaw06.CodecPlaces', WHERE WHAT IT READS IS OF BULK AT MOST 1048576: true; the input reads as it did. -/
def codecPlacesUptoRow : OpenClaim := { program := "ytdpbpkggbgfkgaadoor", sum := "154cdf70b941825c85590f99db9d6be34aba9aafc1a99e793914e69949f19ab5", func := "sextant/sextantlaw06.CodecPlaces", spec := "codecPlaces", unfollowed := true, recurses := true, named := ["unicode/utf8.first", "unicode/utf8.acceptRanges"], apart := false, laid := [("unicode/utf8.acceptRanges", laid_unicode_utf8_acceptRanges), ("unicode/utf8.first", laid_unicode_utf8_first)], narrowed := true }
def CodecPlacesUptoSaid : Prop := codecPlacesUptoRow.holds Tryd.pinned (OpenSpec.upto codecPlacesSpec)

/-- 'sextantlaw06.CodecJoins', WHERE WHAT IT READS IS OF BULK AT MOST 1048576: true; the input reads as it did. -/
def codecJoinsUptoRow : OpenClaim := { program := "ytdpbpkggbgfkgaadoor", sum := "154cdf70b941825c85590f99db9d6be34aba9aafc1a99e793914e69949f19ab5", func := "sextant/sextantlaw06.CodecJoins", spec := "codecJoins", unfollowed := true, recurses := true, named := ["unicode/utf8.first", "unicode/utf8.acceptRanges"], apart := false, laid := [("unicode/utf8.acceptRanges", laid_unicode_utf8_acceptRanges), ("unicode/utf8.first", laid_unicode_utf8_first)], narrowed := true }
def CodecJoinsUptoSaid : Prop := codecJoinsUptoRow.holds Tryd.pinned (OpenSpec.upto codecJoinsSpec)

/-- 'sextantlaw20.PortsLines', WHERE WHAT IT READS IS OF BULK AT MOST 1048576: true; the input reads as it did. -/
def portsLinesUptoRow : OpenClaim := { program := "ytdpbpkggbgfkgaadoor", sum := "154cdf70b941825c85590f99db9d6be34aba9aafc1a99e793914e69949f19ab5", func := "sextant/sextantlaw20.PortsLines", spec := "portsLines", inPlace := ["internal/bytealg.IndexByteString", "internal/bytealg.IndexString"], unfollowed := true, recurses := true, named := ["unicode/utf8.first", "unicode/utf8.acceptRanges", "internal/bytealg.MaxLen"], apart := false, laid := [("unicode/utf8.acceptRanges", laid_unicode_utf8_acceptRanges), ("unicode/utf8.first", laid_unicode_utf8_first)], narrowed := true }
def PortsLinesUptoSaid : Prop := portsLinesUptoRow.holds Tryd.pinned (OpenSpec.upto portsLinesSpec)

end Rows
end Go.Proofs.YtdpbpkggbgfkgaaDoor
