/-
  DERIVED. GIVEN WITH THE SEED: THE CARDS: each row of YtkljbmomafeibaaDoorRows.lean that lists a variable, with what it lists TIED to the program's text (the seventh form; the later family's looks); each row that meets fmt, with fmt's text TOLD by the authors' own Lean function (tested against real Go, not proved from fmt's source: count such statements apart). THE CARD IS WHAT COUNTS. Prove the row's statement (the work); the ties are given (YtkljbmomafeibaaDoorTie.lean); close each card by the builder's one call (the guide's Derived/Test/ToyasCard.lean, 'card_holds'). Laid BY PROGRAM, IN A SANDBOX (cutbox-door.mjs). By AI agents, Wed Nov 11 2026. No macro, syntax, notation, axiom, sorry.
-/
import Derived.Test.YtkljbmomafeibaaDoorRows
import GoSem.ClaimSeven
namespace Go.Proofs.YtkljbmomafeibaaDoor
namespace Rows

/-- THE TIED CARD OF 'transeptlaw11.MimeTells'. -/
def mimeTellsCard : Claim7 := { stood := { row := mimeTellsRow, standIns := [], harness := (true, "7c7144647414629feea0b96f7eacc4adec6a35e8c410432c572ae02fed72e865"), looks := false }, kinds := [], alts := [], laidByText := true, laidKinds := [.data, .pinned], laidTests := true, laidLooks := .later }
def MimeTellsCardSaid : Prop := Claim7.holds Tryd.pinned (.plain (OpenSpec.ofChange mimeTellsSpec)) mimeTellsCard

/-- THE TIED CARD OF 'transeptlaw11.MimeOwn'. -/
def mimeOwnCard : Claim7 := { stood := { row := mimeOwnRow, standIns := [], harness := (true, "7c7144647414629feea0b96f7eacc4adec6a35e8c410432c572ae02fed72e865"), looks := false }, kinds := [], alts := [], laidByText := true, laidKinds := [.data, .pinned], laidTests := true, laidLooks := .later }
def MimeOwnCardSaid : Prop := Claim7.holds Tryd.pinned (.plain (OpenSpec.ofChange mimeOwnSpec)) mimeOwnCard

/-- THE TIED CARD OF 'transeptlaw11.MimeLast'. -/
def mimeLastCard : Claim7 := { stood := { row := mimeLastRow, standIns := [], harness := (true, "7c7144647414629feea0b96f7eacc4adec6a35e8c410432c572ae02fed72e865"), looks := false }, kinds := [], alts := [], laidByText := true, laidKinds := [.data, .pinned], laidTests := true, laidLooks := .later }
def MimeLastCardSaid : Prop := Claim7.holds Tryd.pinned (.plain (OpenSpec.ofChange mimeLastSpec)) mimeLastCard

/-- THE TIED CARD OF 'transeptlaw11.MimeNames'. -/
def mimeNamesCard : Claim7 := { stood := { row := mimeNamesRow, standIns := [], harness := (true, "7c7144647414629feea0b96f7eacc4adec6a35e8c410432c572ae02fed72e865"), looks := false }, kinds := [], alts := [], laidByText := true, laidKinds := [.data, .pinned], laidTests := true, laidLooks := .later }
def MimeNamesCardSaid : Prop := Claim7.holds Tryd.pinned (.plain (OpenSpec.ofChange mimeNamesSpec)) mimeNamesCard

/-- THE SECOND FORM's CARD OF 'transeptlaw11.MimeTells'. -/
def mimeTellsUptoCard : Claim7 := { stood := { row := mimeTellsUptoRow, standIns := [], harness := (true, "7c7144647414629feea0b96f7eacc4adec6a35e8c410432c572ae02fed72e865"), looks := false }, kinds := [], alts := [], laidByText := true, laidKinds := [.data, .pinned], laidTests := true, laidLooks := .later }
def MimeTellsUptoCardSaid : Prop := Claim7.holds Tryd.pinned (.plain (OpenSpec.upto mimeTellsSpec)) mimeTellsUptoCard

/-- THE SECOND FORM's CARD OF 'transeptlaw11.MimeOwn'. -/
def mimeOwnUptoCard : Claim7 := { stood := { row := mimeOwnUptoRow, standIns := [], harness := (true, "7c7144647414629feea0b96f7eacc4adec6a35e8c410432c572ae02fed72e865"), looks := false }, kinds := [], alts := [], laidByText := true, laidKinds := [.data, .pinned], laidTests := true, laidLooks := .later }
def MimeOwnUptoCardSaid : Prop := Claim7.holds Tryd.pinned (.plain (OpenSpec.upto mimeOwnSpec)) mimeOwnUptoCard

/-- THE SECOND FORM's CARD OF 'transeptlaw11.MimeLast'. -/
def mimeLastUptoCard : Claim7 := { stood := { row := mimeLastUptoRow, standIns := [], harness := (true, "7c7144647414629feea0b96f7eacc4adec6a35e8c410432c572ae02fed72e865"), looks := false }, kinds := [], alts := [], laidByText := true, laidKinds := [.data, .pinned], laidTests := true, laidLooks := .later }
def MimeLastUptoCardSaid : Prop := Claim7.holds Tryd.pinned (.plain (OpenSpec.upto mimeLastSpec)) mimeLastUptoCard

/-- THE SECOND FORM's CARD OF 'transeptlaw11.MimeNames'. -/
def mimeNamesUptoCard : Claim7 := { stood := { row := mimeNamesUptoRow, standIns := [], harness := (true, "7c7144647414629feea0b96f7eacc4adec6a35e8c410432c572ae02fed72e865"), looks := false }, kinds := [], alts := [], laidByText := true, laidKinds := [.data, .pinned], laidTests := true, laidLooks := .later }
def MimeNamesUptoCardSaid : Prop := Claim7.holds Tryd.pinned (.plain (OpenSpec.upto mimeNamesSpec)) mimeNamesUptoCard
end Rows
end Go.Proofs.YtkljbmomafeibaaDoor
