/-
  DERIVED. GIVEN WITH THE SEED: THE CARDS: each row of YtgflahchodepkaaDoorRows.lean that lists a variable, with what it lists TIED to the program's text (the seventh form; the later family's looks); each row that meets fmt, with fmt's text TOLD by the authors' own Lean function (tested against real Go, not proved from fmt's source: count such statements apart). THE CARD IS WHAT COUNTS. Prove the row's statement (the work); the ties are given (YtgflahchodepkaaDoorTie.lean); close each card by the builder's one call (the guide's Derived/Test/ToyasCard.lean, 'card_holds'). Laid BY PROGRAM, IN A SANDBOX (cutbox-door.mjs). By AI agents, Wed Nov 11 2026. No macro, syntax, notation, axiom, sorry.
-/
import Derived.Test.YtgflahchodepkaaDoorRows
import GoSem.ClaimSeven
namespace Go.Proofs.YtgflahchodepkaaDoor
namespace Rows

/-- THE TIED CARD OF 'publicanlaw14.CodeKnown'. -/
def codeKnownCard : Claim7 := { stood := { row := codeKnownRow, standIns := [], harness := (true, "12e07b559a446ff57e68d67020060f67ed2550dba20dd1ee855ae16380afc0dc"), looks := false }, kinds := [], alts := [], laidByText := true, laidKinds := [.data, .data, .data], laidTests := true, laidLooks := .later }
def CodeKnownCardSaid : Prop := Claim7.holds Tryd.pinned (.plain (OpenSpec.ofChange codeKnownSpec)) codeKnownCard

/-- THE TIED CARD OF 'publicanlaw14.CodeBytes'. -/
def codeBytesCard : Claim7 := { stood := { row := codeBytesRow, standIns := [], harness := (true, "12e07b559a446ff57e68d67020060f67ed2550dba20dd1ee855ae16380afc0dc"), looks := false }, kinds := [], alts := [], laidByText := true, laidKinds := [.data, .data, .data], laidTests := true, laidLooks := .later }
def CodeBytesCardSaid : Prop := Claim7.holds Tryd.pinned (.plain (OpenSpec.ofChange codeBytesSpec)) codeBytesCard

/-- THE TIED CARD OF 'publicanlaw14.CodeReads'. -/
def codeReadsCard : Claim7 := { stood := { row := codeReadsRow, standIns := [], harness := (true, "12e07b559a446ff57e68d67020060f67ed2550dba20dd1ee855ae16380afc0dc"), looks := false }, kinds := [], alts := [], laidByText := true, laidKinds := [.data, .data, .data], laidTests := true, laidLooks := .later }
def CodeReadsCardSaid : Prop := Claim7.holds Tryd.pinned (.plain (OpenSpec.ofChange codeReadsSpec)) codeReadsCard

/-- THE TIED CARD OF 'publicanlaw14.CodeSpoilt'. -/
def codeSpoiltCard : Claim7 := { stood := { row := codeSpoiltRow, standIns := [], harness := (true, "12e07b559a446ff57e68d67020060f67ed2550dba20dd1ee855ae16380afc0dc"), looks := false }, kinds := [], alts := [], laidByText := true, laidKinds := [.data, .data, .data], laidTests := true, laidLooks := .later }
def CodeSpoiltCardSaid : Prop := Claim7.holds Tryd.pinned (.plain (OpenSpec.ofChange codeSpoiltSpec)) codeSpoiltCard

/-- THE SECOND FORM's CARD OF 'publicanlaw14.CodeKnown'. -/
def codeKnownUptoCard : Claim7 := { stood := { row := codeKnownUptoRow, standIns := [], harness := (true, "12e07b559a446ff57e68d67020060f67ed2550dba20dd1ee855ae16380afc0dc"), looks := false }, kinds := [], alts := [], laidByText := true, laidKinds := [.data, .data, .data], laidTests := true, laidLooks := .later }
def CodeKnownUptoCardSaid : Prop := Claim7.holds Tryd.pinned (.plain (OpenSpec.upto codeKnownSpec)) codeKnownUptoCard

/-- THE SECOND FORM's CARD OF 'publicanlaw14.CodeBytes'. -/
def codeBytesUptoCard : Claim7 := { stood := { row := codeBytesUptoRow, standIns := [], harness := (true, "12e07b559a446ff57e68d67020060f67ed2550dba20dd1ee855ae16380afc0dc"), looks := false }, kinds := [], alts := [], laidByText := true, laidKinds := [.data, .data, .data], laidTests := true, laidLooks := .later }
def CodeBytesUptoCardSaid : Prop := Claim7.holds Tryd.pinned (.plain (OpenSpec.upto codeBytesSpec)) codeBytesUptoCard

/-- THE SECOND FORM's CARD OF 'publicanlaw14.CodeReads'. -/
def codeReadsUptoCard : Claim7 := { stood := { row := codeReadsUptoRow, standIns := [], harness := (true, "12e07b559a446ff57e68d67020060f67ed2550dba20dd1ee855ae16380afc0dc"), looks := false }, kinds := [], alts := [], laidByText := true, laidKinds := [.data, .data, .data], laidTests := true, laidLooks := .later }
def CodeReadsUptoCardSaid : Prop := Claim7.holds Tryd.pinned (.plain (OpenSpec.upto codeReadsSpec)) codeReadsUptoCard

/-- THE SECOND FORM's CARD OF 'publicanlaw14.CodeSpoilt'. -/
def codeSpoiltUptoCard : Claim7 := { stood := { row := codeSpoiltUptoRow, standIns := [], harness := (true, "12e07b559a446ff57e68d67020060f67ed2550dba20dd1ee855ae16380afc0dc"), looks := false }, kinds := [], alts := [], laidByText := true, laidKinds := [.data, .data, .data], laidTests := true, laidLooks := .later }
def CodeSpoiltUptoCardSaid : Prop := Claim7.holds Tryd.pinned (.plain (OpenSpec.upto codeSpoiltSpec)) codeSpoiltUptoCard
end Rows
end Go.Proofs.YtgflahchodepkaaDoor
