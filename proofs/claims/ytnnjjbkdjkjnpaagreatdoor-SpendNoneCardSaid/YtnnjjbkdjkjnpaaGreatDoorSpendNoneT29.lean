/- seisinlaw21.awake. -/
import Derived.Test.YtnnjjbkdjkjnpaaGreatDoorSpendNoneT24
import Derived.Test.YtnnjjbkdjkjnpaaGreatDoorSpendNoneT19
import Derived.Test.YtnnjjbkdjkjnpaaGreatDoorSpendNoneT22
import Derived.Test.YtnnjjbkdjkjnpaaGreatDoorSpendNoneT3
import Derived.Test.YtnnjjbkdjkjnpaaGreatDoorSpendNoneT23
import Derived.Deep.CutRange
set_option linter.unusedSimpArgs false
/- seisinlaw21.awake. -/
namespace Go.Proofs.YtnnjjbkdjkjnpaaGreatDoor
open Go.RowKit Go.Sort
set_option linter.unusedVariables false
/-- A digest whose first byte is x, and its value in the laws' words. -/
def idx (x : Nat) : List UInt8 := UInt8.ofNat x :: List.replicate 31 0
theorem idx_len (x : Nat) : (idx x).length = 32 := by simp [idx]
end Go.Proofs.YtnnjjbkdjkjnpaaGreatDoor
/- The document's coins: Put, Take. Printed by mkrfc.py. -/
namespace Go.Proofs.YtnnjjbkdjkjnpaaGreatDoor
open Go.RowKit
set_option linter.unusedVariables false
end Go.Proofs.YtnnjjbkdjkjnpaaGreatDoor
