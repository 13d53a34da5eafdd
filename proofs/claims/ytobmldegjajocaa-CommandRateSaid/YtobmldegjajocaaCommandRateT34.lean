/- The contracts of seisinref24.noTx and Check. Printed by mkcmdd.py. -/
import Derived.Test.YtobmldegjajocaaCommandRateT33
import Derived.Test.YtobmldegjajocaaCommandRateT17
import Derived.Test.YtobmldegjajocaaCommandRateT9
import Derived.Deep.CutRange
set_option linter.unusedSimpArgs false
/- The contracts of seisinref24.noTx and Check. Printed by mkcmdd.py. -/
namespace Go.Proofs.Ytobmldegjajocaa
open Go.RowKit Go.Shelf
set_option linter.unusedVariables false
theorem bne_t {a b : Int} (h : a ≠ b) : (a != b) = true := by simpa using h
theorem bne_f {a b : Int} (h : a = b) : (a != b) = false := by simpa using h
end Go.Proofs.Ytobmldegjajocaa
