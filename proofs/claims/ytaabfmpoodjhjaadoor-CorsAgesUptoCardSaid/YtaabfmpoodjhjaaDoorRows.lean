/-
  NARROWER THAN 'FOR EVERY INPUT', by the rows' own cells (each row's printed sentence says how): CorsChecks: laid · CorsPreflights: laid · CorsLess: laid · CorsLetters: laid · CorsTwice: laid · CorsStars: laid · CorsAges: laid.
  DERIVED. THE GIVEN ROWS OF THIS SEAT. 7 by the template 'for every input the law returns true; each argument reads behind the call as it read before'; 0 by the template 'total and deterministic' (their statements: YtaabfmpoodjhjaaDoorTotals.lean).
  GIVEN WITH THE SEED: the statements are not yours to turn. If you find one false, say at which input.
  Laid BY PROGRAM, IN A SANDBOX (cutbox-rows.mjs): the forced cells as the released guide's own fill.sh prints them over the translation 1588afe2abd43892… (all of the seat's roots in one cut). By AI agents, Wed Nov 11 2026. No macro, syntax, notation, axiom, sorry.
-/
import Derived.Test.YtaabfmpoodjhjaaDoorChecked
import GoSem.PinnedTables
import GoSem.Claim
import GoSem.ClaimJoined
import GoSem.ClaimMapViews
import Derived.JoinedTies
import Derived.KernelRfl
namespace Go.Proofs.YtaabfmpoodjhjaaDoor
/- THE CELL 'sum', in the pinned program and in every row, IS THE sha256 OF THE DUMP (.gsa) THAT YtaabfmpoodjhjaaDoorProg.lean LOADS. Nothing in Lean hashes anything: it is a label: what it is worth is what the hold of that sum in a sandbox is worth. -/
noncomputable def Tryd.pinned : Pinned := { name := "ytaabfmpoodjhjaadoor", sum := "1588afe2abd438927792a6aafaec5afb39e3a43aa7937e48c0d7affcbe728060", checked := Tryd.checked }
namespace Rows
def none {H : Type} : Left H := { results := [], args := [] }

/- WHAT THE LISTED PACKAGE-LEVEL VARIABLES READ AS WHEN THE CALL BEGINS. Each datum BY PROGRAM (the guide's laid-datum.mjs) off the statement by which the dump's own 'gosem.cut.vars' lays the variable. In a bare row this is a premise. The card (YtaabfmpoodjhjaaDoorCards.lean) ties it to the program's text. -/
def laid_unicode_utf8_acceptRanges {H : Type} : DataW H := .agg [.agg [.lit (.int .u8 128), .lit (.int .u8 191)], .agg [.lit (.int .u8 160), .lit (.int .u8 191)], .agg [.lit (.int .u8 128), .lit (.int .u8 159)], .agg [.lit (.int .u8 144), .lit (.int .u8 191)], .agg [.lit (.int .u8 128), .lit (.int .u8 143)], .agg [.lit (.int .u8 0), .lit (.int .u8 0)], .agg [.lit (.int .u8 0), .lit (.int .u8 0)], .agg [.lit (.int .u8 0), .lit (.int .u8 0)], .agg [.lit (.int .u8 0), .lit (.int .u8 0)], .agg [.lit (.int .u8 0), .lit (.int .u8 0)], .agg [.lit (.int .u8 0), .lit (.int .u8 0)], .agg [.lit (.int .u8 0), .lit (.int .u8 0)], .agg [.lit (.int .u8 0), .lit (.int .u8 0)], .agg [.lit (.int .u8 0), .lit (.int .u8 0)], .agg [.lit (.int .u8 0), .lit (.int .u8 0)], .agg [.lit (.int .u8 0), .lit (.int .u8 0)]]
/-- One of Go's own tables, pinned by name: the form's constant. -/
def laid_unicode_utf8_first : DataW Unit := Go.Pinned.utf8First

/-- 'transeptlaw17.CorsChecks': WHATEVER THE INPUT: true; the input reads as it did. -/
def corsChecksSpec : ChangeSpec := { name := "corsChecks", fn := fun _ => fun
  | [d1, d2, d3, d4] => { results := [.lit (.bool true)], args := [d1, d2, d3, d4] }
  | _ => none }
def corsChecksRow : OpenClaim := { program := "ytaabfmpoodjhjaadoor", sum := "1588afe2abd438927792a6aafaec5afb39e3a43aa7937e48c0d7affcbe728060", func := "transept/transeptlaw17.CorsChecks", spec := "corsChecks", inPlace := ["internal/bytealg.IndexByteString", "internal/abi.NoEscape", "internal/bytealg.MakeNoZero", "internal/bytealg.IndexString"], unfollowed := true, recurses := true, named := ["unicode/utf8.first", "unicode/utf8.acceptRanges", "internal/bytealg.MaxLen"], apart := false, laid := [("unicode/utf8.acceptRanges", laid_unicode_utf8_acceptRanges), ("unicode/utf8.first", laid_unicode_utf8_first)] }
def CorsChecksSaid : Prop := corsChecksRow.holds Tryd.pinned (OpenSpec.ofChange corsChecksSpec)

/-- ITS FALSE NEIGHBOUR: 'it returns false'. Refute it at one input. -/
def corsChecksWrong : ChangeSpec := { name := "corsChecks", fn := fun _ => fun
  | [d1, d2, d3, d4] => { results := [.lit (.bool false)], args := [d1, d2, d3, d4] }
  | _ => none }
def CorsChecksWrongFalsely : Prop := corsChecksRow.holds Tryd.pinned (OpenSpec.ofChange corsChecksWrong)

/-- 'transeptlaw17.CorsPreflights': WHATEVER THE INPUT: true; the input reads as it did. -/
def corsPreflightsSpec : ChangeSpec := { name := "corsPreflights", fn := fun _ => fun
  | [d1, d2, d3, d4, d5, d6] => { results := [.lit (.bool true)], args := [d1, d2, d3, d4, d5, d6] }
  | _ => none }
def corsPreflightsRow : OpenClaim := { program := "ytaabfmpoodjhjaadoor", sum := "1588afe2abd438927792a6aafaec5afb39e3a43aa7937e48c0d7affcbe728060", func := "transept/transeptlaw17.CorsPreflights", spec := "corsPreflights", inPlace := ["internal/bytealg.IndexByteString", "internal/abi.NoEscape", "internal/bytealg.MakeNoZero", "internal/bytealg.IndexString"], unfollowed := true, recurses := true, named := ["unicode/utf8.first", "unicode/utf8.acceptRanges", "internal/bytealg.MaxLen"], apart := false, laid := [("unicode/utf8.acceptRanges", laid_unicode_utf8_acceptRanges), ("unicode/utf8.first", laid_unicode_utf8_first)] }
def CorsPreflightsSaid : Prop := corsPreflightsRow.holds Tryd.pinned (OpenSpec.ofChange corsPreflightsSpec)

/-- ITS FALSE NEIGHBOUR: 'it returns false'. Refute it at one input. -/
def corsPreflightsWrong : ChangeSpec := { name := "corsPreflights", fn := fun _ => fun
  | [d1, d2, d3, d4, d5, d6] => { results := [.lit (.bool false)], args := [d1, d2, d3, d4, d5, d6] }
  | _ => none }
def CorsPreflightsWrongFalsely : Prop := corsPreflightsRow.holds Tryd.pinned (OpenSpec.ofChange corsPreflightsWrong)

/-- 'transeptlaw17.CorsLess': WHATEVER THE INPUT: true; the input reads as it did. -/
def corsLessSpec : ChangeSpec := { name := "corsLess", fn := fun _ => fun
  | [d1, d2, d3, d4, d5, d6] => { results := [.lit (.bool true)], args := [d1, d2, d3, d4, d5, d6] }
  | _ => none }
def corsLessRow : OpenClaim := { program := "ytaabfmpoodjhjaadoor", sum := "1588afe2abd438927792a6aafaec5afb39e3a43aa7937e48c0d7affcbe728060", func := "transept/transeptlaw17.CorsLess", spec := "corsLess", inPlace := ["internal/bytealg.IndexByteString", "internal/abi.NoEscape", "internal/bytealg.MakeNoZero", "internal/bytealg.IndexString"], unfollowed := true, recurses := true, named := ["unicode/utf8.first", "unicode/utf8.acceptRanges", "internal/bytealg.MaxLen"], apart := false, laid := [("unicode/utf8.acceptRanges", laid_unicode_utf8_acceptRanges), ("unicode/utf8.first", laid_unicode_utf8_first)] }
def CorsLessSaid : Prop := corsLessRow.holds Tryd.pinned (OpenSpec.ofChange corsLessSpec)

/-- ITS FALSE NEIGHBOUR: 'it returns false'. Refute it at one input. -/
def corsLessWrong : ChangeSpec := { name := "corsLess", fn := fun _ => fun
  | [d1, d2, d3, d4, d5, d6] => { results := [.lit (.bool false)], args := [d1, d2, d3, d4, d5, d6] }
  | _ => none }
def CorsLessWrongFalsely : Prop := corsLessRow.holds Tryd.pinned (OpenSpec.ofChange corsLessWrong)

/-- 'transeptlaw17.CorsLetters': WHATEVER THE INPUT: true; the input reads as it did. -/
def corsLettersSpec : ChangeSpec := { name := "corsLetters", fn := fun _ => fun
  | [d1, d2, d3, d4] => { results := [.lit (.bool true)], args := [d1, d2, d3, d4] }
  | _ => none }
def corsLettersRow : OpenClaim := { program := "ytaabfmpoodjhjaadoor", sum := "1588afe2abd438927792a6aafaec5afb39e3a43aa7937e48c0d7affcbe728060", func := "transept/transeptlaw17.CorsLetters", spec := "corsLetters", inPlace := ["internal/bytealg.IndexByteString", "internal/abi.NoEscape", "internal/bytealg.MakeNoZero", "internal/bytealg.IndexString"], unfollowed := true, recurses := true, named := ["unicode/utf8.first", "unicode/utf8.acceptRanges", "internal/bytealg.MaxLen"], apart := false, laid := [("unicode/utf8.acceptRanges", laid_unicode_utf8_acceptRanges), ("unicode/utf8.first", laid_unicode_utf8_first)] }
def CorsLettersSaid : Prop := corsLettersRow.holds Tryd.pinned (OpenSpec.ofChange corsLettersSpec)

/-- ITS FALSE NEIGHBOUR: 'it returns false'. Refute it at one input. -/
def corsLettersWrong : ChangeSpec := { name := "corsLetters", fn := fun _ => fun
  | [d1, d2, d3, d4] => { results := [.lit (.bool false)], args := [d1, d2, d3, d4] }
  | _ => none }
def CorsLettersWrongFalsely : Prop := corsLettersRow.holds Tryd.pinned (OpenSpec.ofChange corsLettersWrong)

/-- 'transeptlaw17.CorsTwice': WHATEVER THE INPUT: true; the input reads as it did. -/
def corsTwiceSpec : ChangeSpec := { name := "corsTwice", fn := fun _ => fun
  | [d1, d2, d3, d4, d5] => { results := [.lit (.bool true)], args := [d1, d2, d3, d4, d5] }
  | _ => none }
def corsTwiceRow : OpenClaim := { program := "ytaabfmpoodjhjaadoor", sum := "1588afe2abd438927792a6aafaec5afb39e3a43aa7937e48c0d7affcbe728060", func := "transept/transeptlaw17.CorsTwice", spec := "corsTwice", inPlace := ["internal/bytealg.IndexByteString", "internal/abi.NoEscape", "internal/bytealg.MakeNoZero", "internal/bytealg.IndexString"], unfollowed := true, recurses := true, named := ["unicode/utf8.first", "unicode/utf8.acceptRanges", "internal/bytealg.MaxLen"], apart := false, laid := [("unicode/utf8.acceptRanges", laid_unicode_utf8_acceptRanges), ("unicode/utf8.first", laid_unicode_utf8_first)] }
def CorsTwiceSaid : Prop := corsTwiceRow.holds Tryd.pinned (OpenSpec.ofChange corsTwiceSpec)

/-- ITS FALSE NEIGHBOUR: 'it returns false'. Refute it at one input. -/
def corsTwiceWrong : ChangeSpec := { name := "corsTwice", fn := fun _ => fun
  | [d1, d2, d3, d4, d5] => { results := [.lit (.bool false)], args := [d1, d2, d3, d4, d5] }
  | _ => none }
def CorsTwiceWrongFalsely : Prop := corsTwiceRow.holds Tryd.pinned (OpenSpec.ofChange corsTwiceWrong)

/-- 'transeptlaw17.CorsStars': WHATEVER THE INPUT: true; the input reads as it did. -/
def corsStarsSpec : ChangeSpec := { name := "corsStars", fn := fun _ => fun
  | [d1, d2, d3] => { results := [.lit (.bool true)], args := [d1, d2, d3] }
  | _ => none }
def corsStarsRow : OpenClaim := { program := "ytaabfmpoodjhjaadoor", sum := "1588afe2abd438927792a6aafaec5afb39e3a43aa7937e48c0d7affcbe728060", func := "transept/transeptlaw17.CorsStars", spec := "corsStars", inPlace := ["internal/bytealg.IndexByteString", "internal/abi.NoEscape", "internal/bytealg.MakeNoZero", "internal/bytealg.IndexString"], unfollowed := true, recurses := true, named := ["unicode/utf8.first", "unicode/utf8.acceptRanges", "internal/bytealg.MaxLen"], apart := false, laid := [("unicode/utf8.acceptRanges", laid_unicode_utf8_acceptRanges), ("unicode/utf8.first", laid_unicode_utf8_first)] }
def CorsStarsSaid : Prop := corsStarsRow.holds Tryd.pinned (OpenSpec.ofChange corsStarsSpec)

/-- ITS FALSE NEIGHBOUR: 'it returns false'. Refute it at one input. -/
def corsStarsWrong : ChangeSpec := { name := "corsStars", fn := fun _ => fun
  | [d1, d2, d3] => { results := [.lit (.bool false)], args := [d1, d2, d3] }
  | _ => none }
def CorsStarsWrongFalsely : Prop := corsStarsRow.holds Tryd.pinned (OpenSpec.ofChange corsStarsWrong)

/-- 'transeptlaw17.CorsAges': WHATEVER THE INPUT: true; the input reads as it did. -/
def corsAgesSpec : ChangeSpec := { name := "corsAges", fn := fun _ => fun
  | [d1, d2] => { results := [.lit (.bool true)], args := [d1, d2] }
  | _ => none }
def corsAgesRow : OpenClaim := { program := "ytaabfmpoodjhjaadoor", sum := "1588afe2abd438927792a6aafaec5afb39e3a43aa7937e48c0d7affcbe728060", func := "transept/transeptlaw17.CorsAges", spec := "corsAges", inPlace := ["internal/bytealg.IndexByteString", "internal/abi.NoEscape", "internal/bytealg.MakeNoZero", "internal/bytealg.IndexString"], unfollowed := true, recurses := true, named := ["unicode/utf8.first", "unicode/utf8.acceptRanges", "internal/bytealg.MaxLen"], apart := false, laid := [("unicode/utf8.acceptRanges", laid_unicode_utf8_acceptRanges), ("unicode/utf8.first", laid_unicode_utf8_first)] }
def CorsAgesSaid : Prop := corsAgesRow.holds Tryd.pinned (OpenSpec.ofChange corsAgesSpec)

/-- ITS FALSE NEIGHBOUR: 'it returns false'. Refute it at one input. -/
def corsAgesWrong : ChangeSpec := { name := "corsAges", fn := fun _ => fun
  | [d1, d2] => { results := [.lit (.bool false)], args := [d1, d2] }
  | _ => none }
def CorsAgesWrongFalsely : Prop := corsAgesRow.holds Tryd.pinned (OpenSpec.ofChange corsAgesWrong)

/- THE SECOND FORM. 'bulk': how many values and letters a reading holds, each counted each time it is reached (what is shared counts as often as it is met; a slice's spare places count too). A statement '..UptoSaid' is the law's where the arguments, and the package variables that the reading takes, are together of bulk at most 1048576: NARROWER than '..Said'. Prove '..Said' where nothing that the law and all that it calls make is longer than what came in: it says more and counts as full. Else prove '..UptoSaid'. A law counts once. -/
mutual
def uptoBulk {H : Type} : DataW H → Nat
  | .lit (.string bytes) => bytes.length + 1
  | .lit _ => 1
  | .nil => 1
  | .ptr d => uptoBulk d + 1
  | .slice elems spare => uptoBulkAll elems + uptoBulkAll spare + 1
  | .agg parts => uptoBulkAll parts + 1
  | .iface _ d => uptoBulk d + 1
  | .map entries => uptoBulkEntries entries + 1
  | .held _ => 1
def uptoBulkAll {H : Type} : List (DataW H) → Nat
  | [] => 0
  | d :: r => uptoBulk d + uptoBulkAll r
def uptoBulkEntries {H : Type} : List (Lit × DataW H) → Nat
  | [] => 0
  | x :: r => uptoBulkEntry x + uptoBulkEntries r
def uptoBulkEntry {H : Type} : Lit × DataW H → Nat
  | (.string bytes, d) => bytes.length + uptoBulk d + 1
  | (_, d) => uptoBulk d + 1
 end
def uptoSmall : (H : Type) → List (DataW H) → Bool := fun _ ds => decide (uptoBulkAll ds ≤ 1048576)
def OpenSpec.upto (s : _root_.Go.ChangeSpec) : _root_.Go.OpenSpec := { _root_.Go.OpenSpec.ofChange s with cond := some uptoSmall }

/-- 'transeptlaw17.CorsChecks', WHERE WHAT IT READS IS OF BULK AT MOST 1048576: true; the input reads as it did. -/
def corsChecksUptoRow : OpenClaim := { program := "ytaabfmpoodjhjaadoor", sum := "1588afe2abd438927792a6aafaec5afb39e3a43aa7937e48c0d7affcbe728060", func := "transept/transeptlaw17.CorsChecks", spec := "corsChecks", inPlace := ["internal/bytealg.IndexByteString", "internal/abi.NoEscape", "internal/bytealg.MakeNoZero", "internal/bytealg.IndexString"], unfollowed := true, recurses := true, named := ["unicode/utf8.first", "unicode/utf8.acceptRanges", "internal/bytealg.MaxLen"], apart := false, laid := [("unicode/utf8.acceptRanges", laid_unicode_utf8_acceptRanges), ("unicode/utf8.first", laid_unicode_utf8_first)], narrowed := true }
def CorsChecksUptoSaid : Prop := corsChecksUptoRow.holds Tryd.pinned (OpenSpec.upto corsChecksSpec)

/-- 'transeptlaw17.CorsPreflights', WHERE WHAT IT READS IS OF BULK AT MOST 1048576: true; the input reads as it did. -/
def corsPreflightsUptoRow : OpenClaim := { program := "ytaabfmpoodjhjaadoor", sum := "1588afe2abd438927792a6aafaec5afb39e3a43aa7937e48c0d7affcbe728060", func := "transept/transeptlaw17.CorsPreflights", spec := "corsPreflights", inPlace := ["internal/bytealg.IndexByteString", "internal/abi.NoEscape", "internal/bytealg.MakeNoZero", "internal/bytealg.IndexString"], unfollowed := true, recurses := true, named := ["unicode/utf8.first", "unicode/utf8.acceptRanges", "internal/bytealg.MaxLen"], apart := false, laid := [("unicode/utf8.acceptRanges", laid_unicode_utf8_acceptRanges), ("unicode/utf8.first", laid_unicode_utf8_first)], narrowed := true }
def CorsPreflightsUptoSaid : Prop := corsPreflightsUptoRow.holds Tryd.pinned (OpenSpec.upto corsPreflightsSpec)

/-- 'transeptlaw17.CorsLess', WHERE WHAT IT READS IS OF BULK AT MOST 1048576: true; the input reads as it did. -/
def corsLessUptoRow : OpenClaim := { program := "ytaabfmpoodjhjaadoor", sum := "1588afe2abd438927792a6aafaec5afb39e3a43aa7937e48c0d7affcbe728060", func := "transept/transeptlaw17.CorsLess", spec := "corsLess", inPlace := ["internal/bytealg.IndexByteString", "internal/abi.NoEscape", "internal/bytealg.MakeNoZero", "internal/bytealg.IndexString"], unfollowed := true, recurses := true, named := ["unicode/utf8.first", "unicode/utf8.acceptRanges", "internal/bytealg.MaxLen"], apart := false, laid := [("unicode/utf8.acceptRanges", laid_unicode_utf8_acceptRanges), ("unicode/utf8.first", laid_unicode_utf8_first)], narrowed := true }
def CorsLessUptoSaid : Prop := corsLessUptoRow.holds Tryd.pinned (OpenSpec.upto corsLessSpec)

/-- 'transeptlaw17.CorsLetters', WHERE WHAT IT READS IS OF BULK AT MOST 1048576: true; the input reads as it did. -/
def corsLettersUptoRow : OpenClaim := { program := "ytaabfmpoodjhjaadoor", sum := "1588afe2abd438927792a6aafaec5afb39e3a43aa7937e48c0d7affcbe728060", func := "transept/transeptlaw17.CorsLetters", spec := "corsLetters", inPlace := ["internal/bytealg.IndexByteString", "internal/abi.NoEscape", "internal/bytealg.MakeNoZero", "internal/bytealg.IndexString"], unfollowed := true, recurses := true, named := ["unicode/utf8.first", "unicode/utf8.acceptRanges", "internal/bytealg.MaxLen"], apart := false, laid := [("unicode/utf8.acceptRanges", laid_unicode_utf8_acceptRanges), ("unicode/utf8.first", laid_unicode_utf8_first)], narrowed := true }
def CorsLettersUptoSaid : Prop := corsLettersUptoRow.holds Tryd.pinned (OpenSpec.upto corsLettersSpec)

/-- 'transeptlaw17.CorsTwice', WHERE WHAT IT READS IS OF BULK AT MOST 1048576: true; the input reads as it did. -/
def corsTwiceUptoRow : OpenClaim := { program := "ytaabfmpoodjhjaadoor", sum := "1588afe2abd438927792a6aafaec5afb39e3a43aa7937e48c0d7affcbe728060", func := "transept/transeptlaw17.CorsTwice", spec := "corsTwice", inPlace := ["internal/bytealg.IndexByteString", "internal/abi.NoEscape", "internal/bytealg.MakeNoZero", "internal/bytealg.IndexString"], unfollowed := true, recurses := true, named := ["unicode/utf8.first", "unicode/utf8.acceptRanges", "internal/bytealg.MaxLen"], apart := false, laid := [("unicode/utf8.acceptRanges", laid_unicode_utf8_acceptRanges), ("unicode/utf8.first", laid_unicode_utf8_first)], narrowed := true }
def CorsTwiceUptoSaid : Prop := corsTwiceUptoRow.holds Tryd.pinned (OpenSpec.upto corsTwiceSpec)

/-- 'transeptlaw17.CorsStars', WHERE WHAT IT READS IS OF BULK AT MOST 1048576: true; the input reads as it did. -/
def corsStarsUptoRow : OpenClaim := { program := "ytaabfmpoodjhjaadoor", sum := "1588afe2abd438927792a6aafaec5afb39e3a43aa7937e48c0d7affcbe728060", func := "transept/transeptlaw17.CorsStars", spec := "corsStars", inPlace := ["internal/bytealg.IndexByteString", "internal/abi.NoEscape", "internal/bytealg.MakeNoZero", "internal/bytealg.IndexString"], unfollowed := true, recurses := true, named := ["unicode/utf8.first", "unicode/utf8.acceptRanges", "internal/bytealg.MaxLen"], apart := false, laid := [("unicode/utf8.acceptRanges", laid_unicode_utf8_acceptRanges), ("unicode/utf8.first", laid_unicode_utf8_first)], narrowed := true }
def CorsStarsUptoSaid : Prop := corsStarsUptoRow.holds Tryd.pinned (OpenSpec.upto corsStarsSpec)

/-- 'transeptlaw17.CorsAges', WHERE WHAT IT READS IS OF BULK AT MOST 1048576: true; the input reads as it did. -/
def corsAgesUptoRow : OpenClaim := { program := "ytaabfmpoodjhjaadoor", sum := "1588afe2abd438927792a6aafaec5afb39e3a43aa7937e48c0d7affcbe728060", func := "transept/transeptlaw17.CorsAges", spec := "corsAges", inPlace := ["internal/bytealg.IndexByteString", "internal/abi.NoEscape", "internal/bytealg.MakeNoZero", "internal/bytealg.IndexString"], unfollowed := true, recurses := true, named := ["unicode/utf8.first", "unicode/utf8.acceptRanges", "internal/bytealg.MaxLen"], apart := false, laid := [("unicode/utf8.acceptRanges", laid_unicode_utf8_acceptRanges), ("unicode/utf8.first", laid_unicode_utf8_first)], narrowed := true }
def CorsAgesUptoSaid : Prop := corsAgesUptoRow.holds Tryd.pinned (OpenSpec.upto corsAgesSpec)

end Rows
end Go.Proofs.YtaabfmpoodjhjaaDoor
