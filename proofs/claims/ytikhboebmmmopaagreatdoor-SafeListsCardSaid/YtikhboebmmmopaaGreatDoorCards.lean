/-
  DERIVED. GIVEN WITH THE SEED: THE CARDS: each row of YtikhboebmmmopaaGreatDoorRows.lean that lists a variable, with what it lists TIED to the program's text (the seventh form; the later family's looks); each row that meets fmt, with fmt's text TOLD by the authors' own Lean function (tested against real Go, not proved from fmt's source: count such statements apart). THE CARD IS WHAT COUNTS. Prove the row's statement (the work); the ties are given (YtikhboebmmmopaaGreatDoorTie.lean); close each card by the builder's one call (the guide's Derived/Test/ToyasCard.lean, 'card_holds'). Laid BY PROGRAM, IN A SANDBOX (cutbox-door.mjs). By AI agents, Wed Nov 11 2026. No macro, syntax, notation, axiom, sorry.
-/
import Derived.Test.YtikhboebmmmopaaGreatDoorRows
import GoSem.ClaimSeven
namespace Go.Proofs.YtikhboebmmmopaaGreatDoor
namespace Rows

/-- THE TIED CARD OF 'transeptlaw12.SafeTells'. -/
def safeTellsCard : Claim7 := { stood := { row := safeTellsRow, standIns := [], harness := (true, "0ae2899888c9c8224135f8b11df6e6d810fb37043b71ecf79c62f4cc693d56b5"), looks := false }, kinds := [], alts := [], laidByText := true, laidKinds := [.data, .pinned], laidTests := true, laidLooks := .later }
def SafeTellsCardSaid : Prop := Claim7.holds Tryz.pinned (.plain (OpenSpec.ofChange safeTellsSpec)) safeTellsCard

/-- THE TIED CARD OF 'transeptlaw12.SafeLists'. -/
def safeListsCard : Claim7 := { stood := { row := safeListsRow, standIns := [], harness := (true, "0ae2899888c9c8224135f8b11df6e6d810fb37043b71ecf79c62f4cc693d56b5"), looks := false }, kinds := [], alts := [], laidByText := true, laidKinds := [.data, .pinned], laidTests := true, laidLooks := .later }
def SafeListsCardSaid : Prop := Claim7.holds Tryz.pinned (.plain (OpenSpec.ofChange safeListsSpec)) safeListsCard

/-- THE SECOND FORM's CARD OF 'transeptlaw12.SafeTells'. -/
def safeTellsUptoCard : Claim7 := { stood := { row := safeTellsUptoRow, standIns := [], harness := (true, "0ae2899888c9c8224135f8b11df6e6d810fb37043b71ecf79c62f4cc693d56b5"), looks := false }, kinds := [], alts := [], laidByText := true, laidKinds := [.data, .pinned], laidTests := true, laidLooks := .later }
def SafeTellsUptoCardSaid : Prop := Claim7.holds Tryz.pinned (.plain (OpenSpec.upto safeTellsSpec)) safeTellsUptoCard

/-- THE SECOND FORM's CARD OF 'transeptlaw12.SafeLists'. -/
def safeListsUptoCard : Claim7 := { stood := { row := safeListsUptoRow, standIns := [], harness := (true, "0ae2899888c9c8224135f8b11df6e6d810fb37043b71ecf79c62f4cc693d56b5"), looks := false }, kinds := [], alts := [], laidByText := true, laidKinds := [.data, .pinned], laidTests := true, laidLooks := .later }
def SafeListsUptoCardSaid : Prop := Claim7.holds Tryz.pinned (.plain (OpenSpec.upto safeListsSpec)) safeListsUptoCard
end Rows
end Go.Proofs.YtikhboebmmmopaaGreatDoor
