/-
  NARROWER THAN 'FOR EVERY INPUT', by the rows' own cells (each row's printed sentence says how): MimeTells: laid · MimeOwn: laid · MimeLast: laid · MimeNames: laid.
  DERIVED. THE GIVEN ROWS OF THIS SEAT. 4 by the template 'for every input the law returns true; each argument reads behind the call as it read before'; 0 by the template 'total and deterministic' (their statements: YtkljbmomafeibaaDoorTotals.lean).
  GIVEN WITH THE SEED: the statements are not yours to turn. If you find one false, say at which input.
  Laid BY PROGRAM, IN A SANDBOX (cutbox-rows.mjs): the forced cells as the released guide's own fill.sh prints them over the translation 8751f4961b4e33f0… (all of the seat's roots in one cut). By AI agents, Wed Nov 11 2026. No macro, syntax, notation, axiom, sorry.
-/
import Derived.Test.YtkljbmomafeibaaDoorChecked
import GoSem.PinnedTables
import GoSem.Claim
import GoSem.ClaimJoined
import GoSem.ClaimMapViews
import Derived.JoinedTies
import Derived.KernelRfl
namespace Go.Proofs.YtkljbmomafeibaaDoor
/- THE CELL 'sum', in the pinned program and in every row, IS THE sha256 OF THE DUMP (.gsa) THAT YtkljbmomafeibaaDoorProg.lean LOADS. Nothing in Lean hashes anything: it is a label: what it is worth is what the hold of that sum in a sandbox is worth. -/
noncomputable def Tryd.pinned : Pinned := { name := "ytkljbmomafeibaadoor", sum := "8751f4961b4e33f02ca4162401a5d66a9fe79d66012e59b213eec38512e26f8e", checked := Tryd.checked }
namespace Rows
def none {H : Type} : Left H := { results := [], args := [] }

/- WHAT THE LISTED PACKAGE-LEVEL VARIABLES READ AS WHEN THE CALL BEGINS. Each datum BY PROGRAM (the guide's laid-datum.mjs) off the statement by which the dump's own 'gosem.cut.vars' lays the variable. In a bare row this is a premise. The card (YtkljbmomafeibaaDoorCards.lean) ties it to the program's text. -/
def laid_unicode_utf8_acceptRanges {H : Type} : DataW H := .agg [.agg [.lit (.int .u8 128), .lit (.int .u8 191)], .agg [.lit (.int .u8 160), .lit (.int .u8 191)], .agg [.lit (.int .u8 128), .lit (.int .u8 159)], .agg [.lit (.int .u8 144), .lit (.int .u8 191)], .agg [.lit (.int .u8 128), .lit (.int .u8 143)], .agg [.lit (.int .u8 0), .lit (.int .u8 0)], .agg [.lit (.int .u8 0), .lit (.int .u8 0)], .agg [.lit (.int .u8 0), .lit (.int .u8 0)], .agg [.lit (.int .u8 0), .lit (.int .u8 0)], .agg [.lit (.int .u8 0), .lit (.int .u8 0)], .agg [.lit (.int .u8 0), .lit (.int .u8 0)], .agg [.lit (.int .u8 0), .lit (.int .u8 0)], .agg [.lit (.int .u8 0), .lit (.int .u8 0)], .agg [.lit (.int .u8 0), .lit (.int .u8 0)], .agg [.lit (.int .u8 0), .lit (.int .u8 0)], .agg [.lit (.int .u8 0), .lit (.int .u8 0)]]
/-- One of Go's own tables, pinned by name: the form's constant. -/
def laid_unicode_utf8_first : DataW Unit := Go.Pinned.utf8First

/-- 'transeptlaw11.MimeTells': WHATEVER THE INPUT: true; the input reads as it did. -/
def mimeTellsSpec : ChangeSpec := { name := "mimeTells", fn := fun _ => fun
  | [d1, d2] => { results := [.lit (.bool true)], args := [d1, d2] }
  | _ => none }
def mimeTellsRow : OpenClaim := { program := "ytkljbmomafeibaadoor", sum := "8751f4961b4e33f02ca4162401a5d66a9fe79d66012e59b213eec38512e26f8e", func := "transept/transeptlaw11.MimeTells", spec := "mimeTells", inPlace := ["internal/bytealg.IndexByteString", "internal/bytealg.IndexString", "internal/abi.NoEscape", "internal/bytealg.MakeNoZero"], unfollowed := true, recurses := true, named := ["internal/bytealg.MaxLen", "unicode/utf8.first", "unicode/utf8.acceptRanges"], apart := false, laid := [("unicode/utf8.acceptRanges", laid_unicode_utf8_acceptRanges), ("unicode/utf8.first", laid_unicode_utf8_first)] }
def MimeTellsSaid : Prop := mimeTellsRow.holds Tryd.pinned (OpenSpec.ofChange mimeTellsSpec)

/-- ITS FALSE NEIGHBOUR: 'it returns false'. Refute it at one input. -/
def mimeTellsWrong : ChangeSpec := { name := "mimeTells", fn := fun _ => fun
  | [d1, d2] => { results := [.lit (.bool false)], args := [d1, d2] }
  | _ => none }
def MimeTellsWrongFalsely : Prop := mimeTellsRow.holds Tryd.pinned (OpenSpec.ofChange mimeTellsWrong)

/-- 'transeptlaw11.MimeOwn': WHATEVER THE INPUT: true; the input reads as it did. -/
def mimeOwnSpec : ChangeSpec := { name := "mimeOwn", fn := fun _ => fun
  | [d1, d2] => { results := [.lit (.bool true)], args := [d1, d2] }
  | _ => none }
def mimeOwnRow : OpenClaim := { program := "ytkljbmomafeibaadoor", sum := "8751f4961b4e33f02ca4162401a5d66a9fe79d66012e59b213eec38512e26f8e", func := "transept/transeptlaw11.MimeOwn", spec := "mimeOwn", inPlace := ["internal/bytealg.IndexByteString", "internal/bytealg.IndexString", "internal/abi.NoEscape", "internal/bytealg.MakeNoZero"], unfollowed := true, recurses := true, named := ["internal/bytealg.MaxLen", "unicode/utf8.first", "unicode/utf8.acceptRanges"], apart := false, laid := [("unicode/utf8.acceptRanges", laid_unicode_utf8_acceptRanges), ("unicode/utf8.first", laid_unicode_utf8_first)] }
def MimeOwnSaid : Prop := mimeOwnRow.holds Tryd.pinned (OpenSpec.ofChange mimeOwnSpec)

/-- ITS FALSE NEIGHBOUR: 'it returns false'. Refute it at one input. -/
def mimeOwnWrong : ChangeSpec := { name := "mimeOwn", fn := fun _ => fun
  | [d1, d2] => { results := [.lit (.bool false)], args := [d1, d2] }
  | _ => none }
def MimeOwnWrongFalsely : Prop := mimeOwnRow.holds Tryd.pinned (OpenSpec.ofChange mimeOwnWrong)

/-- 'transeptlaw11.MimeLast': WHATEVER THE INPUT: true; the input reads as it did. -/
def mimeLastSpec : ChangeSpec := { name := "mimeLast", fn := fun _ => fun
  | [d1, d2, d3] => { results := [.lit (.bool true)], args := [d1, d2, d3] }
  | _ => none }
def mimeLastRow : OpenClaim := { program := "ytkljbmomafeibaadoor", sum := "8751f4961b4e33f02ca4162401a5d66a9fe79d66012e59b213eec38512e26f8e", func := "transept/transeptlaw11.MimeLast", spec := "mimeLast", inPlace := ["internal/bytealg.IndexByteString", "internal/bytealg.IndexString", "internal/abi.NoEscape", "internal/bytealg.MakeNoZero"], unfollowed := true, recurses := true, named := ["internal/bytealg.MaxLen", "unicode/utf8.first", "unicode/utf8.acceptRanges"], apart := false, laid := [("unicode/utf8.acceptRanges", laid_unicode_utf8_acceptRanges), ("unicode/utf8.first", laid_unicode_utf8_first)] }
def MimeLastSaid : Prop := mimeLastRow.holds Tryd.pinned (OpenSpec.ofChange mimeLastSpec)

/-- ITS FALSE NEIGHBOUR: 'it returns false'. Refute it at one input. -/
def mimeLastWrong : ChangeSpec := { name := "mimeLast", fn := fun _ => fun
  | [d1, d2, d3] => { results := [.lit (.bool false)], args := [d1, d2, d3] }
  | _ => none }
def MimeLastWrongFalsely : Prop := mimeLastRow.holds Tryd.pinned (OpenSpec.ofChange mimeLastWrong)

/-- 'transeptlaw11.MimeNames': WHATEVER THE INPUT: true; the input reads as it did. -/
def mimeNamesSpec : ChangeSpec := { name := "mimeNames", fn := fun _ => fun
  | [d1, d2, d3] => { results := [.lit (.bool true)], args := [d1, d2, d3] }
  | _ => none }
def mimeNamesRow : OpenClaim := { program := "ytkljbmomafeibaadoor", sum := "8751f4961b4e33f02ca4162401a5d66a9fe79d66012e59b213eec38512e26f8e", func := "transept/transeptlaw11.MimeNames", spec := "mimeNames", inPlace := ["internal/bytealg.IndexByteString", "internal/bytealg.IndexString", "internal/abi.NoEscape", "internal/bytealg.MakeNoZero"], unfollowed := true, recurses := true, named := ["internal/bytealg.MaxLen", "unicode/utf8.first", "unicode/utf8.acceptRanges"], apart := false, laid := [("unicode/utf8.acceptRanges", laid_unicode_utf8_acceptRanges), ("unicode/utf8.first", laid_unicode_utf8_first)] }
def MimeNamesSaid : Prop := mimeNamesRow.holds Tryd.pinned (OpenSpec.ofChange mimeNamesSpec)

/-- ITS FALSE NEIGHBOUR: 'it returns false'. Refute it at one input. -/
def mimeNamesWrong : ChangeSpec := { name := "mimeNames", fn := fun _ => fun
  | [d1, d2, d3] => { results := [.lit (.bool false)], args := [d1, d2, d3] }
  | _ => none }
def MimeNamesWrongFalsely : Prop := mimeNamesRow.holds Tryd.pinned (OpenSpec.ofChange mimeNamesWrong)

/- THE SECOND FORM. 'bulk': how many values and letters a reading holds, each counted each time it is reached (what is shared counts as often as it is met; a slice's spare places count too). A statement '..UptoSaid' is the law's where the arguments, and the package variables that the reading takes, are together of bulk at most 1048576: NARROWER than '..Said'. Prove '..Said' where nothing that the law and all that it calls make is longer than what came in: it says more and counts as full. Else prove '..UptoSaid'. A law counts once. -/
mutual
def uptoBulk {H : Type} : DataW H → Nat
  | .lit (.string bytes) => bytes.length + 1
  | .lit _ => 1
  | .nil => 1
  | .ptr d => uptoBulk d + 1
  | .slice elems spare => uptoBulkAll elems + uptoBulkAll spare + 1
  | .agg parts => uptoBulkAll parts + 1
  | .iface _ d => uptoBulk d + 1
  | .map entries => uptoBulkEntries entries + 1
  | .held _ => 1
def uptoBulkAll {H : Type} : List (DataW H) → Nat
  | [] => 0
  | d :: r => uptoBulk d + uptoBulkAll r
def uptoBulkEntries {H : Type} : List (Lit × DataW H) → Nat
  | [] => 0
  | x :: r => uptoBulkEntry x + uptoBulkEntries r
def uptoBulkEntry {H : Type} : Lit × DataW H → Nat
  | (.string bytes, d) => bytes.length + uptoBulk d + 1
  | (_, d) => uptoBulk d + 1
 end
def uptoSmall : (H : Type) → List (DataW H) → Bool := fun _ ds => decide (uptoBulkAll ds ≤ 1048576)
def OpenSpec.upto (s : _root_.Go.ChangeSpec) : _root_.Go.OpenSpec := { _root_.Go.OpenSpec.ofChange s with cond := some uptoSmall }

/-- 'transeptlaw11.MimeTells', WHERE WHAT IT READS IS OF BULK AT MOST 1048576: true; the input reads as it did. -/
def mimeTellsUptoRow : OpenClaim := { program := "ytkljbmomafeibaadoor", sum := "8751f4961b4e33f02ca4162401a5d66a9fe79d66012e59b213eec38512e26f8e", func := "transept/transeptlaw11.MimeTells", spec := "mimeTells", inPlace := ["internal/bytealg.IndexByteString", "internal/bytealg.IndexString", "internal/abi.NoEscape", "internal/bytealg.MakeNoZero"], unfollowed := true, recurses := true, named := ["internal/bytealg.MaxLen", "unicode/utf8.first", "unicode/utf8.acceptRanges"], apart := false, laid := [("unicode/utf8.acceptRanges", laid_unicode_utf8_acceptRanges), ("unicode/utf8.first", laid_unicode_utf8_first)], narrowed := true }
def MimeTellsUptoSaid : Prop := mimeTellsUptoRow.holds Tryd.pinned (OpenSpec.upto mimeTellsSpec)

/-- 'transeptlaw11.MimeOwn', WHERE WHAT IT READS IS OF BULK AT MOST 1048576: true; the input reads as it did. -/
def mimeOwnUptoRow : OpenClaim := { program := "ytkljbmomafeibaadoor", sum := "8751f4961b4e33f02ca4162401a5d66a9fe79d66012e59b213eec38512e26f8e", func := "transept/transeptlaw11.MimeOwn", spec := "mimeOwn", inPlace := ["internal/bytealg.IndexByteString", "internal/bytealg.IndexString", "internal/abi.NoEscape", "internal/bytealg.MakeNoZero"], unfollowed := true, recurses := true, named := ["internal/bytealg.MaxLen", "unicode/utf8.first", "unicode/utf8.acceptRanges"], apart := false, laid := [("unicode/utf8.acceptRanges", laid_unicode_utf8_acceptRanges), ("unicode/utf8.first", laid_unicode_utf8_first)], narrowed := true }
def MimeOwnUptoSaid : Prop := mimeOwnUptoRow.holds Tryd.pinned (OpenSpec.upto mimeOwnSpec)

/-- 'transeptlaw11.MimeLast', WHERE WHAT IT READS IS OF BULK AT MOST 1048576: true; the input reads as it did. -/
def mimeLastUptoRow : OpenClaim := { program := "ytkljbmomafeibaadoor", sum := "8751f4961b4e33f02ca4162401a5d66a9fe79d66012e59b213eec38512e26f8e", func := "transept/transeptlaw11.MimeLast", spec := "mimeLast", inPlace := ["internal/bytealg.IndexByteString", "internal/bytealg.IndexString", "internal/abi.NoEscape", "internal/bytealg.MakeNoZero"], unfollowed := true, recurses := true, named := ["internal/bytealg.MaxLen", "unicode/utf8.first", "unicode/utf8.acceptRanges"], apart := false, laid := [("unicode/utf8.acceptRanges", laid_unicode_utf8_acceptRanges), ("unicode/utf8.first", laid_unicode_utf8_first)], narrowed := true }
def MimeLastUptoSaid : Prop := mimeLastUptoRow.holds Tryd.pinned (OpenSpec.upto mimeLastSpec)

/-- 'transeptlaw11.MimeNames', WHERE WHAT IT READS IS OF BULK AT MOST 1048576: true; the input reads as it did. -/
def mimeNamesUptoRow : OpenClaim := { program := "ytkljbmomafeibaadoor", sum := "8751f4961b4e33f02ca4162401a5d66a9fe79d66012e59b213eec38512e26f8e", func := "transept/transeptlaw11.MimeNames", spec := "mimeNames", inPlace := ["internal/bytealg.IndexByteString", "internal/bytealg.IndexString", "internal/abi.NoEscape", "internal/bytealg.MakeNoZero"], unfollowed := true, recurses := true, named := ["internal/bytealg.MaxLen", "unicode/utf8.first", "unicode/utf8.acceptRanges"], apart := false, laid := [("unicode/utf8.acceptRanges", laid_unicode_utf8_acceptRanges), ("unicode/utf8.first", laid_unicode_utf8_first)], narrowed := true }
def MimeNamesUptoSaid : Prop := mimeNamesUptoRow.holds Tryd.pinned (OpenSpec.upto mimeNamesSpec)

end Rows
end Go.Proofs.YtkljbmomafeibaaDoor
