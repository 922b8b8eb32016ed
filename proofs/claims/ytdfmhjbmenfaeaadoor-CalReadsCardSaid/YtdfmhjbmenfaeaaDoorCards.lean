/-
  DERIVED. GIVEN WITH THE SEED: THE CARDS: each row of YtdfmhjbmenfaeaaDoorRows.lean that lists a variable, with what it lists TIED to the program's text (the seventh form; the later family's looks); each row that meets fmt, with fmt's text TOLD by the authors' own Lean function (tested against real Go, not proved from fmt's source: count such statements apart). THE CARD IS WHAT COUNTS. Prove the row's statement (the work); the ties are given (YtdfmhjbmenfaeaaDoorTie.lean); close each card by the builder's one call (the guide's Derived/Test/ToyasCard.lean, 'card_holds'). Laid BY PROGRAM, IN A SANDBOX (cutbox-door.mjs). By AI agents, Wed Nov 11 2026. No macro, syntax, notation, axiom, sorry.
-/
import Derived.Test.YtdfmhjbmenfaeaaDoorRows
import GoSem.ClaimSeven
namespace Go.Proofs.YtdfmhjbmenfaeaaDoor
namespace Rows

/-- THE TIED CARD OF 'publicanlaw2.CalKnown'. -/
def calKnownCard : Claim7 := { stood := { row := calKnownRow, standIns := [], harness := (true, "4ece404857a5d3e91758111ab310326cce035b0a20813e4aae9d3c4dd3366428"), looks := false }, kinds := [], alts := [], laidByText := true, laidKinds := [.data, .data, .data], laidTests := true, laidLooks := .later }
def CalKnownCardSaid : Prop := Claim7.holds Tryd.pinned (.plain (OpenSpec.ofChange calKnownSpec)) calKnownCard

/-- THE TIED CARD OF 'publicanlaw2.CalDays'. -/
def calDaysCard : Claim7 := { stood := { row := calDaysRow, standIns := [], harness := (true, "4ece404857a5d3e91758111ab310326cce035b0a20813e4aae9d3c4dd3366428"), looks := false }, kinds := [], alts := [], laidByText := true, laidKinds := [.data, .data, .data], laidTests := true, laidLooks := .later }
def CalDaysCardSaid : Prop := Claim7.holds Tryd.pinned (.plain (OpenSpec.ofChange calDaysSpec)) calDaysCard

/-- THE TIED CARD OF 'publicanlaw2.CalReads'. -/
def calReadsCard : Claim7 := { stood := { row := calReadsRow, standIns := [], harness := (true, "4ece404857a5d3e91758111ab310326cce035b0a20813e4aae9d3c4dd3366428"), looks := false }, kinds := [], alts := [], laidByText := true, laidKinds := [.data, .data, .data], laidTests := true, laidLooks := .later }
def CalReadsCardSaid : Prop := Claim7.holds Tryd.pinned (.plain (OpenSpec.ofChange calReadsSpec)) calReadsCard

/-- THE TIED CARD OF 'publicanlaw2.CalSteps'. -/
def calStepsCard : Claim7 := { stood := { row := calStepsRow, standIns := [], harness := (true, "4ece404857a5d3e91758111ab310326cce035b0a20813e4aae9d3c4dd3366428"), looks := false }, kinds := [], alts := [], laidByText := true, laidKinds := [.data, .data, .data], laidTests := true, laidLooks := .later }
def CalStepsCardSaid : Prop := Claim7.holds Tryd.pinned (.plain (OpenSpec.ofChange calStepsSpec)) calStepsCard

/-- THE TIED CARD OF 'publicanlaw2.CalMonths'. -/
def calMonthsCard : Claim7 := { stood := { row := calMonthsRow, standIns := [], harness := (true, "4ece404857a5d3e91758111ab310326cce035b0a20813e4aae9d3c4dd3366428"), looks := false }, kinds := [], alts := [], laidByText := true, laidKinds := [.data, .data, .data], laidTests := true, laidLooks := .later }
def CalMonthsCardSaid : Prop := Claim7.holds Tryd.pinned (.plain (OpenSpec.ofChange calMonthsSpec)) calMonthsCard

/-- THE TIED CARD OF 'publicanlaw2.CalWeeks'. -/
def calWeeksCard : Claim7 := { stood := { row := calWeeksRow, standIns := [], harness := (true, "4ece404857a5d3e91758111ab310326cce035b0a20813e4aae9d3c4dd3366428"), looks := false }, kinds := [], alts := [], laidByText := true, laidKinds := [.data, .data, .data], laidTests := true, laidLooks := .later }
def CalWeeksCardSaid : Prop := Claim7.holds Tryd.pinned (.plain (OpenSpec.ofChange calWeeksSpec)) calWeeksCard

/-- THE TIED CARD OF 'publicanlaw2.CalYears'. -/
def calYearsCard : Claim7 := { stood := { row := calYearsRow, standIns := [], harness := (true, "4ece404857a5d3e91758111ab310326cce035b0a20813e4aae9d3c4dd3366428"), looks := false }, kinds := [], alts := [], laidByText := true, laidKinds := [.data, .data, .data], laidTests := true, laidLooks := .later }
def CalYearsCardSaid : Prop := Claim7.holds Tryd.pinned (.plain (OpenSpec.ofChange calYearsSpec)) calYearsCard

/-- THE SECOND FORM's CARD OF 'publicanlaw2.CalKnown'. -/
def calKnownUptoCard : Claim7 := { stood := { row := calKnownUptoRow, standIns := [], harness := (true, "4ece404857a5d3e91758111ab310326cce035b0a20813e4aae9d3c4dd3366428"), looks := false }, kinds := [], alts := [], laidByText := true, laidKinds := [.data, .data, .data], laidTests := true, laidLooks := .later }
def CalKnownUptoCardSaid : Prop := Claim7.holds Tryd.pinned (.plain (OpenSpec.upto calKnownSpec)) calKnownUptoCard

/-- THE SECOND FORM's CARD OF 'publicanlaw2.CalDays'. -/
def calDaysUptoCard : Claim7 := { stood := { row := calDaysUptoRow, standIns := [], harness := (true, "4ece404857a5d3e91758111ab310326cce035b0a20813e4aae9d3c4dd3366428"), looks := false }, kinds := [], alts := [], laidByText := true, laidKinds := [.data, .data, .data], laidTests := true, laidLooks := .later }
def CalDaysUptoCardSaid : Prop := Claim7.holds Tryd.pinned (.plain (OpenSpec.upto calDaysSpec)) calDaysUptoCard

/-- THE SECOND FORM's CARD OF 'publicanlaw2.CalReads'. -/
def calReadsUptoCard : Claim7 := { stood := { row := calReadsUptoRow, standIns := [], harness := (true, "4ece404857a5d3e91758111ab310326cce035b0a20813e4aae9d3c4dd3366428"), looks := false }, kinds := [], alts := [], laidByText := true, laidKinds := [.data, .data, .data], laidTests := true, laidLooks := .later }
def CalReadsUptoCardSaid : Prop := Claim7.holds Tryd.pinned (.plain (OpenSpec.upto calReadsSpec)) calReadsUptoCard

/-- THE SECOND FORM's CARD OF 'publicanlaw2.CalSteps'. -/
def calStepsUptoCard : Claim7 := { stood := { row := calStepsUptoRow, standIns := [], harness := (true, "4ece404857a5d3e91758111ab310326cce035b0a20813e4aae9d3c4dd3366428"), looks := false }, kinds := [], alts := [], laidByText := true, laidKinds := [.data, .data, .data], laidTests := true, laidLooks := .later }
def CalStepsUptoCardSaid : Prop := Claim7.holds Tryd.pinned (.plain (OpenSpec.upto calStepsSpec)) calStepsUptoCard

/-- THE SECOND FORM's CARD OF 'publicanlaw2.CalMonths'. -/
def calMonthsUptoCard : Claim7 := { stood := { row := calMonthsUptoRow, standIns := [], harness := (true, "4ece404857a5d3e91758111ab310326cce035b0a20813e4aae9d3c4dd3366428"), looks := false }, kinds := [], alts := [], laidByText := true, laidKinds := [.data, .data, .data], laidTests := true, laidLooks := .later }
def CalMonthsUptoCardSaid : Prop := Claim7.holds Tryd.pinned (.plain (OpenSpec.upto calMonthsSpec)) calMonthsUptoCard

/-- THE SECOND FORM's CARD OF 'publicanlaw2.CalWeeks'. -/
def calWeeksUptoCard : Claim7 := { stood := { row := calWeeksUptoRow, standIns := [], harness := (true, "4ece404857a5d3e91758111ab310326cce035b0a20813e4aae9d3c4dd3366428"), looks := false }, kinds := [], alts := [], laidByText := true, laidKinds := [.data, .data, .data], laidTests := true, laidLooks := .later }
def CalWeeksUptoCardSaid : Prop := Claim7.holds Tryd.pinned (.plain (OpenSpec.upto calWeeksSpec)) calWeeksUptoCard

/-- THE SECOND FORM's CARD OF 'publicanlaw2.CalYears'. -/
def calYearsUptoCard : Claim7 := { stood := { row := calYearsUptoRow, standIns := [], harness := (true, "4ece404857a5d3e91758111ab310326cce035b0a20813e4aae9d3c4dd3366428"), looks := false }, kinds := [], alts := [], laidByText := true, laidKinds := [.data, .data, .data], laidTests := true, laidLooks := .later }
def CalYearsUptoCardSaid : Prop := Claim7.holds Tryd.pinned (.plain (OpenSpec.upto calYearsSpec)) calYearsUptoCard
end Rows
end Go.Proofs.YtdfmhjbmenfaeaaDoor
