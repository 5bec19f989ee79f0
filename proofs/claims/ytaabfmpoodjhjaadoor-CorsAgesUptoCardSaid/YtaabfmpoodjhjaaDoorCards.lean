/-
  DERIVED. GIVEN WITH THE SEED: THE CARDS: each row of YtaabfmpoodjhjaaDoorRows.lean that lists a variable, with what it lists TIED to the program's text (the seventh form; the later family's looks); each row that meets fmt, with fmt's text TOLD by the authors' own Lean function (tested against real Go, not proved from fmt's source: count such statements apart). THE CARD IS WHAT COUNTS. Prove the row's statement (the work); the ties are given (YtaabfmpoodjhjaaDoorTie.lean); close each card by the builder's one call (the guide's Derived/Test/ToyasCard.lean, 'card_holds'). Laid BY PROGRAM, IN A SANDBOX (cutbox-door.mjs). By AI agents, Wed Nov 11 2026. No macro, syntax, notation, axiom, sorry.
-/
import Derived.Test.YtaabfmpoodjhjaaDoorRows
import GoSem.ClaimSeven
namespace Go.Proofs.YtaabfmpoodjhjaaDoor
namespace Rows

/-- THE TIED CARD OF 'transeptlaw17.CorsChecks'. -/
def corsChecksCard : Claim7 := { stood := { row := corsChecksRow, standIns := [], harness := (true, "c18cb2c851bbf192e0569818252c89cb436d5a587e7498eb0c66861c54151dfe"), looks := false }, kinds := [], alts := [], laidByText := true, laidKinds := [.data, .pinned], laidTests := true, laidLooks := .later }
def CorsChecksCardSaid : Prop := Claim7.holds Tryd.pinned (.plain (OpenSpec.ofChange corsChecksSpec)) corsChecksCard

/-- THE TIED CARD OF 'transeptlaw17.CorsPreflights'. -/
def corsPreflightsCard : Claim7 := { stood := { row := corsPreflightsRow, standIns := [], harness := (true, "c18cb2c851bbf192e0569818252c89cb436d5a587e7498eb0c66861c54151dfe"), looks := false }, kinds := [], alts := [], laidByText := true, laidKinds := [.data, .pinned], laidTests := true, laidLooks := .later }
def CorsPreflightsCardSaid : Prop := Claim7.holds Tryd.pinned (.plain (OpenSpec.ofChange corsPreflightsSpec)) corsPreflightsCard

/-- THE TIED CARD OF 'transeptlaw17.CorsLess'. -/
def corsLessCard : Claim7 := { stood := { row := corsLessRow, standIns := [], harness := (true, "c18cb2c851bbf192e0569818252c89cb436d5a587e7498eb0c66861c54151dfe"), looks := false }, kinds := [], alts := [], laidByText := true, laidKinds := [.data, .pinned], laidTests := true, laidLooks := .later }
def CorsLessCardSaid : Prop := Claim7.holds Tryd.pinned (.plain (OpenSpec.ofChange corsLessSpec)) corsLessCard

/-- THE TIED CARD OF 'transeptlaw17.CorsLetters'. -/
def corsLettersCard : Claim7 := { stood := { row := corsLettersRow, standIns := [], harness := (true, "c18cb2c851bbf192e0569818252c89cb436d5a587e7498eb0c66861c54151dfe"), looks := false }, kinds := [], alts := [], laidByText := true, laidKinds := [.data, .pinned], laidTests := true, laidLooks := .later }
def CorsLettersCardSaid : Prop := Claim7.holds Tryd.pinned (.plain (OpenSpec.ofChange corsLettersSpec)) corsLettersCard

/-- THE TIED CARD OF 'transeptlaw17.CorsTwice'. -/
def corsTwiceCard : Claim7 := { stood := { row := corsTwiceRow, standIns := [], harness := (true, "c18cb2c851bbf192e0569818252c89cb436d5a587e7498eb0c66861c54151dfe"), looks := false }, kinds := [], alts := [], laidByText := true, laidKinds := [.data, .pinned], laidTests := true, laidLooks := .later }
def CorsTwiceCardSaid : Prop := Claim7.holds Tryd.pinned (.plain (OpenSpec.ofChange corsTwiceSpec)) corsTwiceCard

/-- THE TIED CARD OF 'transeptlaw17.CorsStars'. -/
def corsStarsCard : Claim7 := { stood := { row := corsStarsRow, standIns := [], harness := (true, "c18cb2c851bbf192e0569818252c89cb436d5a587e7498eb0c66861c54151dfe"), looks := false }, kinds := [], alts := [], laidByText := true, laidKinds := [.data, .pinned], laidTests := true, laidLooks := .later }
def CorsStarsCardSaid : Prop := Claim7.holds Tryd.pinned (.plain (OpenSpec.ofChange corsStarsSpec)) corsStarsCard

/-- THE TIED CARD OF 'transeptlaw17.CorsAges'. -/
def corsAgesCard : Claim7 := { stood := { row := corsAgesRow, standIns := [], harness := (true, "c18cb2c851bbf192e0569818252c89cb436d5a587e7498eb0c66861c54151dfe"), looks := false }, kinds := [], alts := [], laidByText := true, laidKinds := [.data, .pinned], laidTests := true, laidLooks := .later }
def CorsAgesCardSaid : Prop := Claim7.holds Tryd.pinned (.plain (OpenSpec.ofChange corsAgesSpec)) corsAgesCard

/-- THE SECOND FORM's CARD OF 'transeptlaw17.CorsChecks'. -/
def corsChecksUptoCard : Claim7 := { stood := { row := corsChecksUptoRow, standIns := [], harness := (true, "c18cb2c851bbf192e0569818252c89cb436d5a587e7498eb0c66861c54151dfe"), looks := false }, kinds := [], alts := [], laidByText := true, laidKinds := [.data, .pinned], laidTests := true, laidLooks := .later }
def CorsChecksUptoCardSaid : Prop := Claim7.holds Tryd.pinned (.plain (OpenSpec.upto corsChecksSpec)) corsChecksUptoCard

/-- THE SECOND FORM's CARD OF 'transeptlaw17.CorsPreflights'. -/
def corsPreflightsUptoCard : Claim7 := { stood := { row := corsPreflightsUptoRow, standIns := [], harness := (true, "c18cb2c851bbf192e0569818252c89cb436d5a587e7498eb0c66861c54151dfe"), looks := false }, kinds := [], alts := [], laidByText := true, laidKinds := [.data, .pinned], laidTests := true, laidLooks := .later }
def CorsPreflightsUptoCardSaid : Prop := Claim7.holds Tryd.pinned (.plain (OpenSpec.upto corsPreflightsSpec)) corsPreflightsUptoCard

/-- THE SECOND FORM's CARD OF 'transeptlaw17.CorsLess'. -/
def corsLessUptoCard : Claim7 := { stood := { row := corsLessUptoRow, standIns := [], harness := (true, "c18cb2c851bbf192e0569818252c89cb436d5a587e7498eb0c66861c54151dfe"), looks := false }, kinds := [], alts := [], laidByText := true, laidKinds := [.data, .pinned], laidTests := true, laidLooks := .later }
def CorsLessUptoCardSaid : Prop := Claim7.holds Tryd.pinned (.plain (OpenSpec.upto corsLessSpec)) corsLessUptoCard

/-- THE SECOND FORM's CARD OF 'transeptlaw17.CorsLetters'. -/
def corsLettersUptoCard : Claim7 := { stood := { row := corsLettersUptoRow, standIns := [], harness := (true, "c18cb2c851bbf192e0569818252c89cb436d5a587e7498eb0c66861c54151dfe"), looks := false }, kinds := [], alts := [], laidByText := true, laidKinds := [.data, .pinned], laidTests := true, laidLooks := .later }
def CorsLettersUptoCardSaid : Prop := Claim7.holds Tryd.pinned (.plain (OpenSpec.upto corsLettersSpec)) corsLettersUptoCard

/-- THE SECOND FORM's CARD OF 'transeptlaw17.CorsTwice'. -/
def corsTwiceUptoCard : Claim7 := { stood := { row := corsTwiceUptoRow, standIns := [], harness := (true, "c18cb2c851bbf192e0569818252c89cb436d5a587e7498eb0c66861c54151dfe"), looks := false }, kinds := [], alts := [], laidByText := true, laidKinds := [.data, .pinned], laidTests := true, laidLooks := .later }
def CorsTwiceUptoCardSaid : Prop := Claim7.holds Tryd.pinned (.plain (OpenSpec.upto corsTwiceSpec)) corsTwiceUptoCard

/-- THE SECOND FORM's CARD OF 'transeptlaw17.CorsStars'. -/
def corsStarsUptoCard : Claim7 := { stood := { row := corsStarsUptoRow, standIns := [], harness := (true, "c18cb2c851bbf192e0569818252c89cb436d5a587e7498eb0c66861c54151dfe"), looks := false }, kinds := [], alts := [], laidByText := true, laidKinds := [.data, .pinned], laidTests := true, laidLooks := .later }
def CorsStarsUptoCardSaid : Prop := Claim7.holds Tryd.pinned (.plain (OpenSpec.upto corsStarsSpec)) corsStarsUptoCard

/-- THE SECOND FORM's CARD OF 'transeptlaw17.CorsAges'. -/
def corsAgesUptoCard : Claim7 := { stood := { row := corsAgesUptoRow, standIns := [], harness := (true, "c18cb2c851bbf192e0569818252c89cb436d5a587e7498eb0c66861c54151dfe"), looks := false }, kinds := [], alts := [], laidByText := true, laidKinds := [.data, .pinned], laidTests := true, laidLooks := .later }
def CorsAgesUptoCardSaid : Prop := Claim7.holds Tryd.pinned (.plain (OpenSpec.upto corsAgesSpec)) corsAgesUptoCard
end Rows
end Go.Proofs.YtaabfmpoodjhjaaDoor
