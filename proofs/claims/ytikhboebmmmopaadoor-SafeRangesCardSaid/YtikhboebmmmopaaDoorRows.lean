/-
  NARROWER THAN 'FOR EVERY INPUT', by the rows' own cells (each row's printed sentence says how): SafeLetters: laid · SafeMore: laid · SafeCuts: laid · SafeRanges: laid · SafeApart: laid · SafeLong: laid.
  DERIVED. THE GIVEN ROWS OF THIS SEAT. 6 by the template 'for every input the law returns true; each argument reads behind the call as it read before'; 0 by the template 'total and deterministic' (their statements: YtikhboebmmmopaaDoorTotals.lean).
  GIVEN WITH THE SEED: the statements are not yours to turn. If you find one false, say at which input.
  Laid BY PROGRAM, IN A SANDBOX (cutbox-rows.mjs): the forced cells as the released guide's own fill.sh prints them over the translation 0d4495382f1ee88f… (all of the seat's roots in one cut). By AI agents, Wed Nov 11 2026. No macro, syntax, notation, axiom, sorry.
-/
import Derived.Test.YtikhboebmmmopaaDoorChecked
import GoSem.PinnedTables
import GoSem.Claim
import GoSem.ClaimJoined
import GoSem.ClaimMapViews
import Derived.JoinedTies
import Derived.KernelRfl
namespace Go.Proofs.YtikhboebmmmopaaDoor
/- THE CELL 'sum', in the pinned program and in every row, IS THE sha256 OF THE DUMP (.gsa) THAT YtikhboebmmmopaaDoorProg.lean LOADS. Nothing in Lean hashes anything: it is a label: what it is worth is what the hold of that sum in a sandbox is worth. -/
noncomputable def Tryd.pinned : Pinned := { name := "ytikhboebmmmopaadoor", sum := "0d4495382f1ee88ff5ef0d70b6bddc8b22380032a4ce4c58e810459651883dec", checked := Tryd.checked }
namespace Rows
def none {H : Type} : Left H := { results := [], args := [] }

/- WHAT THE LISTED PACKAGE-LEVEL VARIABLES READ AS WHEN THE CALL BEGINS. Each datum BY PROGRAM (the guide's laid-datum.mjs) off the statement by which the dump's own 'gosem.cut.vars' lays the variable. In a bare row this is a premise. The card (YtikhboebmmmopaaDoorCards.lean) ties it to the program's text. -/
def laid_unicode_utf8_acceptRanges {H : Type} : DataW H := .agg [.agg [.lit (.int .u8 128), .lit (.int .u8 191)], .agg [.lit (.int .u8 160), .lit (.int .u8 191)], .agg [.lit (.int .u8 128), .lit (.int .u8 159)], .agg [.lit (.int .u8 144), .lit (.int .u8 191)], .agg [.lit (.int .u8 128), .lit (.int .u8 143)], .agg [.lit (.int .u8 0), .lit (.int .u8 0)], .agg [.lit (.int .u8 0), .lit (.int .u8 0)], .agg [.lit (.int .u8 0), .lit (.int .u8 0)], .agg [.lit (.int .u8 0), .lit (.int .u8 0)], .agg [.lit (.int .u8 0), .lit (.int .u8 0)], .agg [.lit (.int .u8 0), .lit (.int .u8 0)], .agg [.lit (.int .u8 0), .lit (.int .u8 0)], .agg [.lit (.int .u8 0), .lit (.int .u8 0)], .agg [.lit (.int .u8 0), .lit (.int .u8 0)], .agg [.lit (.int .u8 0), .lit (.int .u8 0)], .agg [.lit (.int .u8 0), .lit (.int .u8 0)]]
/-- One of Go's own tables, pinned by name: the form's constant. -/
def laid_unicode_utf8_first : DataW Unit := Go.Pinned.utf8First

/-- 'transeptlaw12.SafeLetters': WHATEVER THE INPUT: true; the input reads as it did. -/
def safeLettersSpec : ChangeSpec := { name := "safeLetters", fn := fun _ => fun
  | [d1, d2] => { results := [.lit (.bool true)], args := [d1, d2] }
  | _ => none }
def safeLettersRow : OpenClaim := { program := "ytikhboebmmmopaadoor", sum := "0d4495382f1ee88ff5ef0d70b6bddc8b22380032a4ce4c58e810459651883dec", func := "transept/transeptlaw12.SafeLetters", spec := "safeLetters", inPlace := ["internal/bytealg.IndexByteString", "internal/bytealg.IndexString"], unfollowed := true, recurses := true, named := ["internal/bytealg.MaxLen", "unicode/utf8.first", "unicode/utf8.acceptRanges"], apart := false, laid := [("unicode/utf8.acceptRanges", laid_unicode_utf8_acceptRanges), ("unicode/utf8.first", laid_unicode_utf8_first)] }
def SafeLettersSaid : Prop := safeLettersRow.holds Tryd.pinned (OpenSpec.ofChange safeLettersSpec)

/-- ITS FALSE NEIGHBOUR: 'it returns false'. Refute it at one input. -/
def safeLettersWrong : ChangeSpec := { name := "safeLetters", fn := fun _ => fun
  | [d1, d2] => { results := [.lit (.bool false)], args := [d1, d2] }
  | _ => none }
def SafeLettersWrongFalsely : Prop := safeLettersRow.holds Tryd.pinned (OpenSpec.ofChange safeLettersWrong)

/-- 'transeptlaw12.SafeMore': WHATEVER THE INPUT: true; the input reads as it did. -/
def safeMoreSpec : ChangeSpec := { name := "safeMore", fn := fun _ => fun
  | [d1, d2, d3] => { results := [.lit (.bool true)], args := [d1, d2, d3] }
  | _ => none }
def safeMoreRow : OpenClaim := { program := "ytikhboebmmmopaadoor", sum := "0d4495382f1ee88ff5ef0d70b6bddc8b22380032a4ce4c58e810459651883dec", func := "transept/transeptlaw12.SafeMore", spec := "safeMore", inPlace := ["internal/bytealg.IndexByteString", "internal/bytealg.IndexString"], unfollowed := true, recurses := true, named := ["internal/bytealg.MaxLen", "unicode/utf8.first", "unicode/utf8.acceptRanges"], apart := false, laid := [("unicode/utf8.acceptRanges", laid_unicode_utf8_acceptRanges), ("unicode/utf8.first", laid_unicode_utf8_first)] }
def SafeMoreSaid : Prop := safeMoreRow.holds Tryd.pinned (OpenSpec.ofChange safeMoreSpec)

/-- ITS FALSE NEIGHBOUR: 'it returns false'. Refute it at one input. -/
def safeMoreWrong : ChangeSpec := { name := "safeMore", fn := fun _ => fun
  | [d1, d2, d3] => { results := [.lit (.bool false)], args := [d1, d2, d3] }
  | _ => none }
def SafeMoreWrongFalsely : Prop := safeMoreRow.holds Tryd.pinned (OpenSpec.ofChange safeMoreWrong)

/-- 'transeptlaw12.SafeCuts': WHATEVER THE INPUT: true; the input reads as it did. -/
def safeCutsSpec : ChangeSpec := { name := "safeCuts", fn := fun _ => fun
  | [d1, d2, d3] => { results := [.lit (.bool true)], args := [d1, d2, d3] }
  | _ => none }
def safeCutsRow : OpenClaim := { program := "ytikhboebmmmopaadoor", sum := "0d4495382f1ee88ff5ef0d70b6bddc8b22380032a4ce4c58e810459651883dec", func := "transept/transeptlaw12.SafeCuts", spec := "safeCuts", inPlace := ["internal/bytealg.IndexByteString", "internal/bytealg.IndexString"], unfollowed := true, recurses := true, named := ["internal/bytealg.MaxLen", "unicode/utf8.first", "unicode/utf8.acceptRanges"], apart := false, laid := [("unicode/utf8.acceptRanges", laid_unicode_utf8_acceptRanges), ("unicode/utf8.first", laid_unicode_utf8_first)] }
def SafeCutsSaid : Prop := safeCutsRow.holds Tryd.pinned (OpenSpec.ofChange safeCutsSpec)

/-- ITS FALSE NEIGHBOUR: 'it returns false'. Refute it at one input. -/
def safeCutsWrong : ChangeSpec := { name := "safeCuts", fn := fun _ => fun
  | [d1, d2, d3] => { results := [.lit (.bool false)], args := [d1, d2, d3] }
  | _ => none }
def SafeCutsWrongFalsely : Prop := safeCutsRow.holds Tryd.pinned (OpenSpec.ofChange safeCutsWrong)

/-- 'transeptlaw12.SafeRanges': WHATEVER THE INPUT: true; the input reads as it did. -/
def safeRangesSpec : ChangeSpec := { name := "safeRanges", fn := fun _ => fun
  | [d1, d2] => { results := [.lit (.bool true)], args := [d1, d2] }
  | _ => none }
def safeRangesRow : OpenClaim := { program := "ytikhboebmmmopaadoor", sum := "0d4495382f1ee88ff5ef0d70b6bddc8b22380032a4ce4c58e810459651883dec", func := "transept/transeptlaw12.SafeRanges", spec := "safeRanges", inPlace := ["internal/bytealg.IndexByteString", "internal/bytealg.IndexString"], unfollowed := true, recurses := true, named := ["internal/bytealg.MaxLen", "unicode/utf8.first", "unicode/utf8.acceptRanges"], apart := false, laid := [("unicode/utf8.acceptRanges", laid_unicode_utf8_acceptRanges), ("unicode/utf8.first", laid_unicode_utf8_first)] }
def SafeRangesSaid : Prop := safeRangesRow.holds Tryd.pinned (OpenSpec.ofChange safeRangesSpec)

/-- ITS FALSE NEIGHBOUR: 'it returns false'. Refute it at one input. -/
def safeRangesWrong : ChangeSpec := { name := "safeRanges", fn := fun _ => fun
  | [d1, d2] => { results := [.lit (.bool false)], args := [d1, d2] }
  | _ => none }
def SafeRangesWrongFalsely : Prop := safeRangesRow.holds Tryd.pinned (OpenSpec.ofChange safeRangesWrong)

/-- 'transeptlaw12.SafeApart': WHATEVER THE INPUT: true; the input reads as it did. -/
def safeApartSpec : ChangeSpec := { name := "safeApart", fn := fun _ => fun
  | [d] => { results := [.lit (.bool true)], args := [d] }
  | _ => none }
def safeApartRow : OpenClaim := { program := "ytikhboebmmmopaadoor", sum := "0d4495382f1ee88ff5ef0d70b6bddc8b22380032a4ce4c58e810459651883dec", func := "transept/transeptlaw12.SafeApart", spec := "safeApart", inPlace := ["internal/bytealg.IndexByteString", "internal/bytealg.IndexString"], unfollowed := true, recurses := true, named := ["internal/bytealg.MaxLen", "unicode/utf8.first", "unicode/utf8.acceptRanges"], apart := false, laid := [("unicode/utf8.acceptRanges", laid_unicode_utf8_acceptRanges), ("unicode/utf8.first", laid_unicode_utf8_first)] }
def SafeApartSaid : Prop := safeApartRow.holds Tryd.pinned (OpenSpec.ofChange safeApartSpec)

/-- ITS FALSE NEIGHBOUR: 'it returns false'. Refute it at one input. -/
def safeApartWrong : ChangeSpec := { name := "safeApart", fn := fun _ => fun
  | [d] => { results := [.lit (.bool false)], args := [d] }
  | _ => none }
def SafeApartWrongFalsely : Prop := safeApartRow.holds Tryd.pinned (OpenSpec.ofChange safeApartWrong)

/-- 'transeptlaw12.SafeLong': WHATEVER THE INPUT: true; the input reads as it did. -/
def safeLongSpec : ChangeSpec := { name := "safeLong", fn := fun _ => fun
  | [d1, d2, d3] => { results := [.lit (.bool true)], args := [d1, d2, d3] }
  | _ => none }
def safeLongRow : OpenClaim := { program := "ytikhboebmmmopaadoor", sum := "0d4495382f1ee88ff5ef0d70b6bddc8b22380032a4ce4c58e810459651883dec", func := "transept/transeptlaw12.SafeLong", spec := "safeLong", inPlace := ["internal/bytealg.IndexByteString", "internal/bytealg.IndexString"], unfollowed := true, recurses := true, named := ["internal/bytealg.MaxLen", "unicode/utf8.first", "unicode/utf8.acceptRanges"], apart := false, laid := [("unicode/utf8.acceptRanges", laid_unicode_utf8_acceptRanges), ("unicode/utf8.first", laid_unicode_utf8_first)] }
def SafeLongSaid : Prop := safeLongRow.holds Tryd.pinned (OpenSpec.ofChange safeLongSpec)

/-- ITS FALSE NEIGHBOUR: 'it returns false'. Refute it at one input. -/
def safeLongWrong : ChangeSpec := { name := "safeLong", fn := fun _ => fun
  | [d1, d2, d3] => { results := [.lit (.bool false)], args := [d1, d2, d3] }
  | _ => none }
def SafeLongWrongFalsely : Prop := safeLongRow.holds Tryd.pinned (OpenSpec.ofChange safeLongWrong)

/- THE SECOND FORM. 'bulk': how many values and letters a reading holds, each counted each time it is reached (what is shared counts as often as it is met; a slice's spare places count too). A statement '..UptoSaid' is the law's where the arguments, and the package variables that the reading takes, are together of bulk at most 1048576: NARROWER than '..Said'. Prove '..Said' where nothing that the law and all that it calls make is longer than what came in: it says more and counts as full. Else prove '..UptoSaid'. A law counts once. -/
mutual
def uptoBulk {H : Type} : DataW H → Nat
  | .lit (.string bytes) => bytes.length + 1
  | .lit _ => 1
  | .nil => 1
  | .ptr d => uptoBulk d + 1
  | .slice elems spare => uptoBulkAll elems + uptoBulkAll spare + 1
  | .agg parts => uptoBulkAll parts + 1
  | .iface _ d => uptoBulk d + 1
  | .map entries => uptoBulkEntries entries + 1
  | .held _ => 1
def uptoBulkAll {H : Type} : List (DataW H) → Nat
  | [] => 0
  | d :: r => uptoBulk d + uptoBulkAll r
def uptoBulkEntries {H : Type} : List (Lit × DataW H) → Nat
  | [] => 0
  | x :: r => uptoBulkEntry x + uptoBulkEntries r
def uptoBulkEntry {H : Type} : Lit × DataW H → Nat
  | (.string bytes, d) => bytes.length + uptoBulk d + 1
  | (_, d) => uptoBulk d + 1
 end
def uptoSmall : (H : Type) → List (DataW H) → Bool := fun _ ds => decide (uptoBulkAll ds ≤ 1048576)
def OpenSpec.upto (s : _root_.Go.ChangeSpec) : _root_.Go.OpenSpec := { _root_.Go.OpenSpec.ofChange s with cond := some uptoSmall }

/-- 'transeptlaw12.SafeLetters', WHERE WHAT IT READS IS OF BULK AT MOST 1048576: true; the input reads as it did. -/
def safeLettersUptoRow : OpenClaim := { program := "ytikhboebmmmopaadoor", sum := "0d4495382f1ee88ff5ef0d70b6bddc8b22380032a4ce4c58e810459651883dec", func := "transept/transeptlaw12.SafeLetters", spec := "safeLetters", inPlace := ["internal/bytealg.IndexByteString", "internal/bytealg.IndexString"], unfollowed := true, recurses := true, named := ["internal/bytealg.MaxLen", "unicode/utf8.first", "unicode/utf8.acceptRanges"], apart := false, laid := [("unicode/utf8.acceptRanges", laid_unicode_utf8_acceptRanges), ("unicode/utf8.first", laid_unicode_utf8_first)], narrowed := true }
def SafeLettersUptoSaid : Prop := safeLettersUptoRow.holds Tryd.pinned (OpenSpec.upto safeLettersSpec)

/-- 'transeptlaw12.SafeMore', WHERE WHAT IT READS IS OF BULK AT MOST 1048576: true; the input reads as it did. -/
def safeMoreUptoRow : OpenClaim := { program := "ytikhboebmmmopaadoor", sum := "0d4495382f1ee88ff5ef0d70b6bddc8b22380032a4ce4c58e810459651883dec", func := "transept/transeptlaw12.SafeMore", spec := "safeMore", inPlace := ["internal/bytealg.IndexByteString", "internal/bytealg.IndexString"], unfollowed := true, recurses := true, named := ["internal/bytealg.MaxLen", "unicode/utf8.first", "unicode/utf8.acceptRanges"], apart := false, laid := [("unicode/utf8.acceptRanges", laid_unicode_utf8_acceptRanges), ("unicode/utf8.first", laid_unicode_utf8_first)], narrowed := true }
def SafeMoreUptoSaid : Prop := safeMoreUptoRow.holds Tryd.pinned (OpenSpec.upto safeMoreSpec)

/-- 'transeptlaw12.SafeCuts', WHERE WHAT IT READS IS OF BULK AT MOST 1048576: true; the input reads as it did. -/
def safeCutsUptoRow : OpenClaim := { program := "ytikhboebmmmopaadoor", sum := "0d4495382f1ee88ff5ef0d70b6bddc8b22380032a4ce4c58e810459651883dec", func := "transept/transeptlaw12.SafeCuts", spec := "safeCuts", inPlace := ["internal/bytealg.IndexByteString", "internal/bytealg.IndexString"], unfollowed := true, recurses := true, named := ["internal/bytealg.MaxLen", "unicode/utf8.first", "unicode/utf8.acceptRanges"], apart := false, laid := [("unicode/utf8.acceptRanges", laid_unicode_utf8_acceptRanges), ("unicode/utf8.first", laid_unicode_utf8_first)], narrowed := true }
def SafeCutsUptoSaid : Prop := safeCutsUptoRow.holds Tryd.pinned (OpenSpec.upto safeCutsSpec)

/-- 'transeptlaw12.SafeRanges', WHERE WHAT IT READS IS OF BULK AT MOST 1048576: true; the input reads as it did. -/
def safeRangesUptoRow : OpenClaim := { program := "ytikhboebmmmopaadoor", sum := "0d4495382f1ee88ff5ef0d70b6bddc8b22380032a4ce4c58e810459651883dec", func := "transept/transeptlaw12.SafeRanges", spec := "safeRanges", inPlace := ["internal/bytealg.IndexByteString", "internal/bytealg.IndexString"], unfollowed := true, recurses := true, named := ["internal/bytealg.MaxLen", "unicode/utf8.first", "unicode/utf8.acceptRanges"], apart := false, laid := [("unicode/utf8.acceptRanges", laid_unicode_utf8_acceptRanges), ("unicode/utf8.first", laid_unicode_utf8_first)], narrowed := true }
def SafeRangesUptoSaid : Prop := safeRangesUptoRow.holds Tryd.pinned (OpenSpec.upto safeRangesSpec)

/-- 'transeptlaw12.SafeApart', WHERE WHAT IT READS IS OF BULK AT MOST 1048576: true; the input reads as it did. -/
def safeApartUptoRow : OpenClaim := { program := "ytikhboebmmmopaadoor", sum := "0d4495382f1ee88ff5ef0d70b6bddc8b22380032a4ce4c58e810459651883dec", func := "transept/transeptlaw12.SafeApart", spec := "safeApart", inPlace := ["internal/bytealg.IndexByteString", "internal/bytealg.IndexString"], unfollowed := true, recurses := true, named := ["internal/bytealg.MaxLen", "unicode/utf8.first", "unicode/utf8.acceptRanges"], apart := false, laid := [("unicode/utf8.acceptRanges", laid_unicode_utf8_acceptRanges), ("unicode/utf8.first", laid_unicode_utf8_first)], narrowed := true }
def SafeApartUptoSaid : Prop := safeApartUptoRow.holds Tryd.pinned (OpenSpec.upto safeApartSpec)

/-- 'transeptlaw12.SafeLong', WHERE WHAT IT READS IS OF BULK AT MOST 1048576: true; the input reads as it did. -/
def safeLongUptoRow : OpenClaim := { program := "ytikhboebmmmopaadoor", sum := "0d4495382f1ee88ff5ef0d70b6bddc8b22380032a4ce4c58e810459651883dec", func := "transept/transeptlaw12.SafeLong", spec := "safeLong", inPlace := ["internal/bytealg.IndexByteString", "internal/bytealg.IndexString"], unfollowed := true, recurses := true, named := ["internal/bytealg.MaxLen", "unicode/utf8.first", "unicode/utf8.acceptRanges"], apart := false, laid := [("unicode/utf8.acceptRanges", laid_unicode_utf8_acceptRanges), ("unicode/utf8.first", laid_unicode_utf8_first)], narrowed := true }
def SafeLongUptoSaid : Prop := safeLongUptoRow.holds Tryd.pinned (OpenSpec.upto safeLongSpec)

end Rows
end Go.Proofs.YtikhboebmmmopaaDoor
