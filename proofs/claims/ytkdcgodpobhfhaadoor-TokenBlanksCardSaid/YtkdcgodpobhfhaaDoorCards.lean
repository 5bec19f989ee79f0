/-
  DERIVED. GIVEN WITH THE SEED: THE CARDS: each row of YtkdcgodpobhfhaaDoorRows.lean that lists a variable, with what it lists TIED to the program's text (the seventh form; the later family's looks); each row that meets fmt, with fmt's text TOLD by the authors' own Lean function (tested against real Go, not proved from fmt's source: count such statements apart). THE CARD IS WHAT COUNTS. Prove the row's statement (the work); the ties are given (YtkdcgodpobhfhaaDoorTie.lean); close each card by the builder's one call (the guide's Derived/Test/ToyasCard.lean, 'card_holds'). Laid BY PROGRAM, IN A SANDBOX (cutbox-door.mjs). By AI agents, Wed Nov 11 2026. No macro, syntax, notation, axiom, sorry.
-/
import Derived.Test.YtkdcgodpobhfhaaDoorRows
import GoSem.ClaimSeven
namespace Go.Proofs.YtkdcgodpobhfhaaDoor
namespace Rows

/-- THE TIED CARD OF 'transeptlaw09.TokenTells'. -/
def tokenTellsCard : Claim7 := { stood := { row := tokenTellsRow, standIns := [], harness := (true, "0cdd2c3b8847874d66383d16c45207003b8527beddfa95b7c7e1ec174bc957d7"), looks := false }, kinds := [], alts := [], laidByText := true, laidKinds := [.data, .pinned], laidTests := true, laidLooks := .later }
def TokenTellsCardSaid : Prop := Claim7.holds Tryd.pinned (.plain (OpenSpec.ofChange tokenTellsSpec)) tokenTellsCard

/-- THE TIED CARD OF 'transeptlaw09.TokenJoins'. -/
def tokenJoinsCard : Claim7 := { stood := { row := tokenJoinsRow, standIns := [], harness := (true, "0cdd2c3b8847874d66383d16c45207003b8527beddfa95b7c7e1ec174bc957d7"), looks := false }, kinds := [], alts := [], laidByText := true, laidKinds := [.data, .pinned], laidTests := true, laidLooks := .later }
def TokenJoinsCardSaid : Prop := Claim7.holds Tryd.pinned (.plain (OpenSpec.ofChange tokenJoinsSpec)) tokenJoinsCard

/-- THE TIED CARD OF 'transeptlaw09.TokenAgain'. -/
def tokenAgainCard : Claim7 := { stood := { row := tokenAgainRow, standIns := [], harness := (true, "0cdd2c3b8847874d66383d16c45207003b8527beddfa95b7c7e1ec174bc957d7"), looks := false }, kinds := [], alts := [], laidByText := true, laidKinds := [.data, .pinned], laidTests := true, laidLooks := .later }
def TokenAgainCardSaid : Prop := Claim7.holds Tryd.pinned (.plain (OpenSpec.ofChange tokenAgainSpec)) tokenAgainCard

/-- THE TIED CARD OF 'transeptlaw09.TokenCuts'. -/
def tokenCutsCard : Claim7 := { stood := { row := tokenCutsRow, standIns := [], harness := (true, "0cdd2c3b8847874d66383d16c45207003b8527beddfa95b7c7e1ec174bc957d7"), looks := false }, kinds := [], alts := [], laidByText := true, laidKinds := [.data, .pinned], laidTests := true, laidLooks := .later }
def TokenCutsCardSaid : Prop := Claim7.holds Tryd.pinned (.plain (OpenSpec.ofChange tokenCutsSpec)) tokenCutsCard

/-- THE TIED CARD OF 'transeptlaw09.TokenBlanks'. -/
def tokenBlanksCard : Claim7 := { stood := { row := tokenBlanksRow, standIns := [], harness := (true, "0cdd2c3b8847874d66383d16c45207003b8527beddfa95b7c7e1ec174bc957d7"), looks := false }, kinds := [], alts := [], laidByText := true, laidKinds := [.data, .pinned], laidTests := true, laidLooks := .later }
def TokenBlanksCardSaid : Prop := Claim7.holds Tryd.pinned (.plain (OpenSpec.ofChange tokenBlanksSpec)) tokenBlanksCard

/-- THE TIED CARD OF 'transeptlaw09.TokenQuoted'. -/
def tokenQuotedCard : Claim7 := { stood := { row := tokenQuotedRow, standIns := [], harness := (true, "0cdd2c3b8847874d66383d16c45207003b8527beddfa95b7c7e1ec174bc957d7"), looks := false }, kinds := [], alts := [], laidByText := true, laidKinds := [.data, .pinned], laidTests := true, laidLooks := .later }
def TokenQuotedCardSaid : Prop := Claim7.holds Tryd.pinned (.plain (OpenSpec.ofChange tokenQuotedSpec)) tokenQuotedCard

/-- THE SECOND FORM's CARD OF 'transeptlaw09.TokenTells'. -/
def tokenTellsUptoCard : Claim7 := { stood := { row := tokenTellsUptoRow, standIns := [], harness := (true, "0cdd2c3b8847874d66383d16c45207003b8527beddfa95b7c7e1ec174bc957d7"), looks := false }, kinds := [], alts := [], laidByText := true, laidKinds := [.data, .pinned], laidTests := true, laidLooks := .later }
def TokenTellsUptoCardSaid : Prop := Claim7.holds Tryd.pinned (.plain (OpenSpec.upto tokenTellsSpec)) tokenTellsUptoCard

/-- THE SECOND FORM's CARD OF 'transeptlaw09.TokenJoins'. -/
def tokenJoinsUptoCard : Claim7 := { stood := { row := tokenJoinsUptoRow, standIns := [], harness := (true, "0cdd2c3b8847874d66383d16c45207003b8527beddfa95b7c7e1ec174bc957d7"), looks := false }, kinds := [], alts := [], laidByText := true, laidKinds := [.data, .pinned], laidTests := true, laidLooks := .later }
def TokenJoinsUptoCardSaid : Prop := Claim7.holds Tryd.pinned (.plain (OpenSpec.upto tokenJoinsSpec)) tokenJoinsUptoCard

/-- THE SECOND FORM's CARD OF 'transeptlaw09.TokenAgain'. -/
def tokenAgainUptoCard : Claim7 := { stood := { row := tokenAgainUptoRow, standIns := [], harness := (true, "0cdd2c3b8847874d66383d16c45207003b8527beddfa95b7c7e1ec174bc957d7"), looks := false }, kinds := [], alts := [], laidByText := true, laidKinds := [.data, .pinned], laidTests := true, laidLooks := .later }
def TokenAgainUptoCardSaid : Prop := Claim7.holds Tryd.pinned (.plain (OpenSpec.upto tokenAgainSpec)) tokenAgainUptoCard

/-- THE SECOND FORM's CARD OF 'transeptlaw09.TokenCuts'. -/
def tokenCutsUptoCard : Claim7 := { stood := { row := tokenCutsUptoRow, standIns := [], harness := (true, "0cdd2c3b8847874d66383d16c45207003b8527beddfa95b7c7e1ec174bc957d7"), looks := false }, kinds := [], alts := [], laidByText := true, laidKinds := [.data, .pinned], laidTests := true, laidLooks := .later }
def TokenCutsUptoCardSaid : Prop := Claim7.holds Tryd.pinned (.plain (OpenSpec.upto tokenCutsSpec)) tokenCutsUptoCard

/-- THE SECOND FORM's CARD OF 'transeptlaw09.TokenBlanks'. -/
def tokenBlanksUptoCard : Claim7 := { stood := { row := tokenBlanksUptoRow, standIns := [], harness := (true, "0cdd2c3b8847874d66383d16c45207003b8527beddfa95b7c7e1ec174bc957d7"), looks := false }, kinds := [], alts := [], laidByText := true, laidKinds := [.data, .pinned], laidTests := true, laidLooks := .later }
def TokenBlanksUptoCardSaid : Prop := Claim7.holds Tryd.pinned (.plain (OpenSpec.upto tokenBlanksSpec)) tokenBlanksUptoCard

/-- THE SECOND FORM's CARD OF 'transeptlaw09.TokenQuoted'. -/
def tokenQuotedUptoCard : Claim7 := { stood := { row := tokenQuotedUptoRow, standIns := [], harness := (true, "0cdd2c3b8847874d66383d16c45207003b8527beddfa95b7c7e1ec174bc957d7"), looks := false }, kinds := [], alts := [], laidByText := true, laidKinds := [.data, .pinned], laidTests := true, laidLooks := .later }
def TokenQuotedUptoCardSaid : Prop := Claim7.holds Tryd.pinned (.plain (OpenSpec.upto tokenQuotedSpec)) tokenQuotedUptoCard
end Rows
end Go.Proofs.YtkdcgodpobhfhaaDoor
