/- The contract of the document's Same. Printed by mkrtsame.py. -/
import Derived.Test.YtobmldegjajocaaCommandRateT18
import Derived.Test.YtobmldegjajocaaCommandRateT10
set_option linter.unusedSimpArgs false
/- The contract of the document's Same. Printed by mkrtsame.py. -/
namespace Go.Proofs.Ytobmldegjajocaa
open Go.RowKit Go.Shelf
set_option linter.unusedVariables false
end Go.Proofs.Ytobmldegjajocaa
