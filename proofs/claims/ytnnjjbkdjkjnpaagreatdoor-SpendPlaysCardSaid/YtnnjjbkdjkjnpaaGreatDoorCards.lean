/-
  DERIVED. GIVEN WITH THE SEED: THE CARDS: each row of YtnnjjbkdjkjnpaaGreatDoorRows.lean that lists a variable, with what it lists TIED to the program's text (the seventh form; the later family's looks); each row that meets fmt, with fmt's text TOLD by the authors' own Lean function (tested against real Go, not proved from fmt's source: count such statements apart). THE CARD IS WHAT COUNTS. Prove the row's statement (the work); the ties are given (YtnnjjbkdjkjnpaaGreatDoorTie.lean); close each card by the builder's one call (the guide's Derived/Test/ToyasCard.lean, 'card_holds'). Laid BY PROGRAM, IN A SANDBOX (cutbox-door.mjs). By AI agents, Wed Nov 11 2026. No macro, syntax, notation, axiom, sorry.
-/
import Derived.Test.YtnnjjbkdjkjnpaaGreatDoorRows
import GoSem.ClaimSeven
namespace Go.Proofs.YtnnjjbkdjkjnpaaGreatDoor
namespace Rows

/-- THE TIED CARD OF 'seisinlaw22.SpendOnce'. -/
def spendOnceCard : Claim7 := { stood := { row := spendOnceRow, standIns := [], harness := (true, "ff82be1662223af2ecfea8ff1c481a051a63a1dcc2997b025ed8263517be6d98"), looks := true }, kinds := [], alts := [], laidByText := true, laidKinds := [.data, .data], laidTests := true, laidLooks := .later }
def SpendOnceCardSaid : Prop := Claim7.holds Tryz.pinned (.plain (OpenSpec.ofChange spendOnceSpec)) spendOnceCard

/-- THE TIED CARD OF 'seisinlaw22.SpendNone'. -/
def spendNoneCard : Claim7 := { stood := { row := spendNoneRow, standIns := [], harness := (true, "ff82be1662223af2ecfea8ff1c481a051a63a1dcc2997b025ed8263517be6d98"), looks := true }, kinds := [], alts := [], laidByText := true, laidKinds := [.data, .data], laidTests := true, laidLooks := .later }
def SpendNoneCardSaid : Prop := Claim7.holds Tryz.pinned (.plain (OpenSpec.ofChange spendNoneSpec)) spendNoneCard

/-- THE TIED CARD OF 'seisinlaw22.SpendBack'. -/
def spendBackCard : Claim7 := { stood := { row := spendBackRow, standIns := [], harness := (true, "ff82be1662223af2ecfea8ff1c481a051a63a1dcc2997b025ed8263517be6d98"), looks := true }, kinds := [], alts := [], laidByText := true, laidKinds := [.data, .data], laidTests := true, laidLooks := .later }
def SpendBackCardSaid : Prop := Claim7.holds Tryz.pinned (.plain (OpenSpec.ofChange spendBackSpec)) spendBackCard

/-- THE TIED CARD OF 'seisinlaw22.SpendPlays'. -/
def spendPlaysCard : Claim7 := { stood := { row := spendPlaysRow, standIns := [], harness := (true, "ff82be1662223af2ecfea8ff1c481a051a63a1dcc2997b025ed8263517be6d98"), looks := true }, kinds := [], alts := [], laidByText := true, laidKinds := [.data, .data], laidTests := true, laidLooks := .later }
def SpendPlaysCardSaid : Prop := Claim7.holds Tryz.pinned (.plain (OpenSpec.ofChange spendPlaysSpec)) spendPlaysCard

/-- THE SECOND FORM's CARD OF 'seisinlaw22.SpendOnce'. -/
def spendOnceUptoCard : Claim7 := { stood := { row := spendOnceUptoRow, standIns := [], harness := (true, "ff82be1662223af2ecfea8ff1c481a051a63a1dcc2997b025ed8263517be6d98"), looks := true }, kinds := [], alts := [], laidByText := true, laidKinds := [.data, .data], laidTests := true, laidLooks := .later }
def SpendOnceUptoCardSaid : Prop := Claim7.holds Tryz.pinned (.plain (OpenSpec.upto spendOnceSpec)) spendOnceUptoCard

/-- THE SECOND FORM's CARD OF 'seisinlaw22.SpendNone'. -/
def spendNoneUptoCard : Claim7 := { stood := { row := spendNoneUptoRow, standIns := [], harness := (true, "ff82be1662223af2ecfea8ff1c481a051a63a1dcc2997b025ed8263517be6d98"), looks := true }, kinds := [], alts := [], laidByText := true, laidKinds := [.data, .data], laidTests := true, laidLooks := .later }
def SpendNoneUptoCardSaid : Prop := Claim7.holds Tryz.pinned (.plain (OpenSpec.upto spendNoneSpec)) spendNoneUptoCard

/-- THE SECOND FORM's CARD OF 'seisinlaw22.SpendBack'. -/
def spendBackUptoCard : Claim7 := { stood := { row := spendBackUptoRow, standIns := [], harness := (true, "ff82be1662223af2ecfea8ff1c481a051a63a1dcc2997b025ed8263517be6d98"), looks := true }, kinds := [], alts := [], laidByText := true, laidKinds := [.data, .data], laidTests := true, laidLooks := .later }
def SpendBackUptoCardSaid : Prop := Claim7.holds Tryz.pinned (.plain (OpenSpec.upto spendBackSpec)) spendBackUptoCard

/-- THE SECOND FORM's CARD OF 'seisinlaw22.SpendPlays'. -/
def spendPlaysUptoCard : Claim7 := { stood := { row := spendPlaysUptoRow, standIns := [], harness := (true, "ff82be1662223af2ecfea8ff1c481a051a63a1dcc2997b025ed8263517be6d98"), looks := true }, kinds := [], alts := [], laidByText := true, laidKinds := [.data, .data], laidTests := true, laidLooks := .later }
def SpendPlaysUptoCardSaid : Prop := Claim7.holds Tryz.pinned (.plain (OpenSpec.upto spendPlaysSpec)) spendPlaysUptoCard
end Rows
end Go.Proofs.YtnnjjbkdjkjnpaaGreatDoor
