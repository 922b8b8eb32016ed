/-
  DERIVED. GIVEN WITH THE SEED: THE CARDS: each row of YtgbmkpbackdknaaDoorRows.lean that lists a variable, with what it lists TIED to the program's text (the seventh form; the later family's looks); each row that meets fmt, with fmt's text TOLD by the authors' own Lean function (tested against real Go, not proved from fmt's source: count such statements apart). THE CARD IS WHAT COUNTS. Prove the row's statement (the work); the ties are given (YtgbmkpbackdknaaDoorTie.lean); close each card by the builder's one call (the guide's Derived/Test/ToyasCard.lean, 'card_holds'). Laid BY PROGRAM, IN A SANDBOX (cutbox-door.mjs). By AI agents, Wed Nov 11 2026. No macro, syntax, notation, axiom, sorry.
-/
import Derived.Test.YtgbmkpbackdknaaDoorRows
import GoSem.ClaimSeven
namespace Go.Proofs.YtgbmkpbackdknaaDoor
namespace Rows

/-- THE TIED CARD OF 'publicanlaw22.DuesKnown'. -/
def duesKnownCard : Claim7 := { stood := { row := duesKnownRow, standIns := [], harness := (true, "1eed0c35f14affda148e381c50355be123b98c3455462c0dab954d272c32948d"), looks := true }, kinds := [], alts := [], laidByText := true, laidKinds := [.data, .data, .data], laidTests := true, laidLooks := .later }
def DuesKnownCardSaid : Prop := Claim7.holds Tryd.pinned (.plain (OpenSpec.ofChange duesKnownSpec)) duesKnownCard

/-- THE TIED CARD OF 'publicanlaw22.DuesOrder'. -/
def duesOrderCard : Claim7 := { stood := { row := duesOrderRow, standIns := [], harness := (true, "1eed0c35f14affda148e381c50355be123b98c3455462c0dab954d272c32948d"), looks := true }, kinds := [], alts := [], laidByText := true, laidKinds := [.data, .data, .data], laidTests := true, laidLooks := .later }
def DuesOrderCardSaid : Prop := Claim7.holds Tryd.pinned (.plain (OpenSpec.ofChange duesOrderSpec)) duesOrderCard

/-- THE TIED CARD OF 'publicanlaw22.DuesCredit'. -/
def duesCreditCard : Claim7 := { stood := { row := duesCreditRow, standIns := [], harness := (true, "1eed0c35f14affda148e381c50355be123b98c3455462c0dab954d272c32948d"), looks := true }, kinds := [], alts := [], laidByText := true, laidKinds := [.data, .data, .data], laidTests := true, laidLooks := .later }
def DuesCreditCardSaid : Prop := Claim7.holds Tryd.pinned (.plain (OpenSpec.ofChange duesCreditSpec)) duesCreditCard

/-- THE SECOND FORM's CARD OF 'publicanlaw22.DuesKnown'. -/
def duesKnownUptoCard : Claim7 := { stood := { row := duesKnownUptoRow, standIns := [], harness := (true, "1eed0c35f14affda148e381c50355be123b98c3455462c0dab954d272c32948d"), looks := true }, kinds := [], alts := [], laidByText := true, laidKinds := [.data, .data, .data], laidTests := true, laidLooks := .later }
def DuesKnownUptoCardSaid : Prop := Claim7.holds Tryd.pinned (.plain (OpenSpec.upto duesKnownSpec)) duesKnownUptoCard

/-- THE SECOND FORM's CARD OF 'publicanlaw22.DuesOrder'. -/
def duesOrderUptoCard : Claim7 := { stood := { row := duesOrderUptoRow, standIns := [], harness := (true, "1eed0c35f14affda148e381c50355be123b98c3455462c0dab954d272c32948d"), looks := true }, kinds := [], alts := [], laidByText := true, laidKinds := [.data, .data, .data], laidTests := true, laidLooks := .later }
def DuesOrderUptoCardSaid : Prop := Claim7.holds Tryd.pinned (.plain (OpenSpec.upto duesOrderSpec)) duesOrderUptoCard

/-- THE SECOND FORM's CARD OF 'publicanlaw22.DuesCredit'. -/
def duesCreditUptoCard : Claim7 := { stood := { row := duesCreditUptoRow, standIns := [], harness := (true, "1eed0c35f14affda148e381c50355be123b98c3455462c0dab954d272c32948d"), looks := true }, kinds := [], alts := [], laidByText := true, laidKinds := [.data, .data, .data], laidTests := true, laidLooks := .later }
def DuesCreditUptoCardSaid : Prop := Claim7.holds Tryd.pinned (.plain (OpenSpec.upto duesCreditSpec)) duesCreditUptoCard
end Rows
end Go.Proofs.YtgbmkpbackdknaaDoor
