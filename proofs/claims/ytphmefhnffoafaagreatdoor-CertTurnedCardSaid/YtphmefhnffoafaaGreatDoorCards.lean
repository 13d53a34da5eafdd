/-
  DERIVED. GIVEN WITH THE SEED: THE CARDS: each row of YtphmefhnffoafaaGreatDoorRows.lean that lists a variable, with what it lists TIED to the program's text (the seventh form; the later family's looks); each row that meets fmt, with fmt's text TOLD by the authors' own Lean function (tested against real Go, not proved from fmt's source: count such statements apart). THE CARD IS WHAT COUNTS. Prove the row's statement (the work); the ties are given (YtphmefhnffoafaaGreatDoorTie.lean); close each card by the builder's one call (the guide's Derived/Test/ToyasCard.lean, 'card_holds'). Laid BY PROGRAM, IN A SANDBOX (cutbox-door.mjs). By AI agents, Wed Nov 11 2026. No macro, syntax, notation, axiom, sorry.
-/
import Derived.Test.YtphmefhnffoafaaGreatDoorRows
import GoSem.ClaimSeven
namespace Go.Proofs.YtphmefhnffoafaaGreatDoor
namespace Rows

/-- THE TIED CARD OF 'seisinlaw11.CertTurned'. -/
def certTurnedCard : Claim7 := { stood := { row := certTurnedRow, standIns := [], harness := (true, "63f20844b8ab30e352afbafd2f37d2ca8d16dffba6c5b6e32235006b298c58e6"), looks := true }, kinds := [], alts := [], laidByText := true, laidKinds := [.data, .data], laidTests := true, laidLooks := .later }
def CertTurnedCardSaid : Prop := Claim7.holds Tryz.pinned (.plain (OpenSpec.ofChange certTurnedSpec)) certTurnedCard

/-- THE SECOND FORM's CARD OF 'seisinlaw11.CertTurned'. -/
def certTurnedUptoCard : Claim7 := { stood := { row := certTurnedUptoRow, standIns := [], harness := (true, "63f20844b8ab30e352afbafd2f37d2ca8d16dffba6c5b6e32235006b298c58e6"), looks := true }, kinds := [], alts := [], laidByText := true, laidKinds := [.data, .data], laidTests := true, laidLooks := .later }
def CertTurnedUptoCardSaid : Prop := Claim7.holds Tryz.pinned (.plain (OpenSpec.upto certTurnedSpec)) certTurnedUptoCard
end Rows
end Go.Proofs.YtphmefhnffoafaaGreatDoor
