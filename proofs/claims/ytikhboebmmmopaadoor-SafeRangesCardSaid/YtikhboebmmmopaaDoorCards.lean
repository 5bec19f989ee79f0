/-
  DERIVED. GIVEN WITH THE SEED: THE CARDS: each row of YtikhboebmmmopaaDoorRows.lean that lists a variable, with what it lists TIED to the program's text (the seventh form; the later family's looks); each row that meets fmt, with fmt's text TOLD by the authors' own Lean function (tested against real Go, not proved from fmt's source: count such statements apart). THE CARD IS WHAT COUNTS. Prove the row's statement (the work); the ties are given (YtikhboebmmmopaaDoorTie.lean); close each card by the builder's one call (the guide's Derived/Test/ToyasCard.lean, 'card_holds'). Laid BY PROGRAM, IN A SANDBOX (cutbox-door.mjs). By AI agents, Wed Nov 11 2026. No macro, syntax, notation, axiom, sorry.
-/
import Derived.Test.YtikhboebmmmopaaDoorRows
import GoSem.ClaimSeven
namespace Go.Proofs.YtikhboebmmmopaaDoor
namespace Rows

/-- THE TIED CARD OF 'transeptlaw12.SafeLetters'. -/
def safeLettersCard : Claim7 := { stood := { row := safeLettersRow, standIns := [], harness := (true, "13a8711095ad37c47a66cf12e2424c9531e7482733a2f380d53177ae1aa99902"), looks := false }, kinds := [], alts := [], laidByText := true, laidKinds := [.data, .pinned], laidTests := true, laidLooks := .later }
def SafeLettersCardSaid : Prop := Claim7.holds Tryd.pinned (.plain (OpenSpec.ofChange safeLettersSpec)) safeLettersCard

/-- THE TIED CARD OF 'transeptlaw12.SafeMore'. -/
def safeMoreCard : Claim7 := { stood := { row := safeMoreRow, standIns := [], harness := (true, "13a8711095ad37c47a66cf12e2424c9531e7482733a2f380d53177ae1aa99902"), looks := false }, kinds := [], alts := [], laidByText := true, laidKinds := [.data, .pinned], laidTests := true, laidLooks := .later }
def SafeMoreCardSaid : Prop := Claim7.holds Tryd.pinned (.plain (OpenSpec.ofChange safeMoreSpec)) safeMoreCard

/-- THE TIED CARD OF 'transeptlaw12.SafeCuts'. -/
def safeCutsCard : Claim7 := { stood := { row := safeCutsRow, standIns := [], harness := (true, "13a8711095ad37c47a66cf12e2424c9531e7482733a2f380d53177ae1aa99902"), looks := false }, kinds := [], alts := [], laidByText := true, laidKinds := [.data, .pinned], laidTests := true, laidLooks := .later }
def SafeCutsCardSaid : Prop := Claim7.holds Tryd.pinned (.plain (OpenSpec.ofChange safeCutsSpec)) safeCutsCard

/-- THE TIED CARD OF 'transeptlaw12.SafeRanges'. -/
def safeRangesCard : Claim7 := { stood := { row := safeRangesRow, standIns := [], harness := (true, "13a8711095ad37c47a66cf12e2424c9531e7482733a2f380d53177ae1aa99902"), looks := false }, kinds := [], alts := [], laidByText := true, laidKinds := [.data, .pinned], laidTests := true, laidLooks := .later }
def SafeRangesCardSaid : Prop := Claim7.holds Tryd.pinned (.plain (OpenSpec.ofChange safeRangesSpec)) safeRangesCard

/-- THE TIED CARD OF 'transeptlaw12.SafeApart'. -/
def safeApartCard : Claim7 := { stood := { row := safeApartRow, standIns := [], harness := (true, "13a8711095ad37c47a66cf12e2424c9531e7482733a2f380d53177ae1aa99902"), looks := false }, kinds := [], alts := [], laidByText := true, laidKinds := [.data, .pinned], laidTests := true, laidLooks := .later }
def SafeApartCardSaid : Prop := Claim7.holds Tryd.pinned (.plain (OpenSpec.ofChange safeApartSpec)) safeApartCard

/-- THE TIED CARD OF 'transeptlaw12.SafeLong'. -/
def safeLongCard : Claim7 := { stood := { row := safeLongRow, standIns := [], harness := (true, "13a8711095ad37c47a66cf12e2424c9531e7482733a2f380d53177ae1aa99902"), looks := false }, kinds := [], alts := [], laidByText := true, laidKinds := [.data, .pinned], laidTests := true, laidLooks := .later }
def SafeLongCardSaid : Prop := Claim7.holds Tryd.pinned (.plain (OpenSpec.ofChange safeLongSpec)) safeLongCard

/-- THE SECOND FORM's CARD OF 'transeptlaw12.SafeLetters'. -/
def safeLettersUptoCard : Claim7 := { stood := { row := safeLettersUptoRow, standIns := [], harness := (true, "13a8711095ad37c47a66cf12e2424c9531e7482733a2f380d53177ae1aa99902"), looks := false }, kinds := [], alts := [], laidByText := true, laidKinds := [.data, .pinned], laidTests := true, laidLooks := .later }
def SafeLettersUptoCardSaid : Prop := Claim7.holds Tryd.pinned (.plain (OpenSpec.upto safeLettersSpec)) safeLettersUptoCard

/-- THE SECOND FORM's CARD OF 'transeptlaw12.SafeMore'. -/
def safeMoreUptoCard : Claim7 := { stood := { row := safeMoreUptoRow, standIns := [], harness := (true, "13a8711095ad37c47a66cf12e2424c9531e7482733a2f380d53177ae1aa99902"), looks := false }, kinds := [], alts := [], laidByText := true, laidKinds := [.data, .pinned], laidTests := true, laidLooks := .later }
def SafeMoreUptoCardSaid : Prop := Claim7.holds Tryd.pinned (.plain (OpenSpec.upto safeMoreSpec)) safeMoreUptoCard

/-- THE SECOND FORM's CARD OF 'transeptlaw12.SafeCuts'. -/
def safeCutsUptoCard : Claim7 := { stood := { row := safeCutsUptoRow, standIns := [], harness := (true, "13a8711095ad37c47a66cf12e2424c9531e7482733a2f380d53177ae1aa99902"), looks := false }, kinds := [], alts := [], laidByText := true, laidKinds := [.data, .pinned], laidTests := true, laidLooks := .later }
def SafeCutsUptoCardSaid : Prop := Claim7.holds Tryd.pinned (.plain (OpenSpec.upto safeCutsSpec)) safeCutsUptoCard

/-- THE SECOND FORM's CARD OF 'transeptlaw12.SafeRanges'. -/
def safeRangesUptoCard : Claim7 := { stood := { row := safeRangesUptoRow, standIns := [], harness := (true, "13a8711095ad37c47a66cf12e2424c9531e7482733a2f380d53177ae1aa99902"), looks := false }, kinds := [], alts := [], laidByText := true, laidKinds := [.data, .pinned], laidTests := true, laidLooks := .later }
def SafeRangesUptoCardSaid : Prop := Claim7.holds Tryd.pinned (.plain (OpenSpec.upto safeRangesSpec)) safeRangesUptoCard

/-- THE SECOND FORM's CARD OF 'transeptlaw12.SafeApart'. -/
def safeApartUptoCard : Claim7 := { stood := { row := safeApartUptoRow, standIns := [], harness := (true, "13a8711095ad37c47a66cf12e2424c9531e7482733a2f380d53177ae1aa99902"), looks := false }, kinds := [], alts := [], laidByText := true, laidKinds := [.data, .pinned], laidTests := true, laidLooks := .later }
def SafeApartUptoCardSaid : Prop := Claim7.holds Tryd.pinned (.plain (OpenSpec.upto safeApartSpec)) safeApartUptoCard

/-- THE SECOND FORM's CARD OF 'transeptlaw12.SafeLong'. -/
def safeLongUptoCard : Claim7 := { stood := { row := safeLongUptoRow, standIns := [], harness := (true, "13a8711095ad37c47a66cf12e2424c9531e7482733a2f380d53177ae1aa99902"), looks := false }, kinds := [], alts := [], laidByText := true, laidKinds := [.data, .pinned], laidTests := true, laidLooks := .later }
def SafeLongUptoCardSaid : Prop := Claim7.holds Tryd.pinned (.plain (OpenSpec.upto safeLongSpec)) safeLongUptoCard
end Rows
end Go.Proofs.YtikhboebmmmopaaDoor
