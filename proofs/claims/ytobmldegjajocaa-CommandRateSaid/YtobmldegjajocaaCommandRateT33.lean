/- The contract of seisinref24.Same. Printed by mkcmdb.py. -/
import Derived.Test.YtobmldegjajocaaCommandRateT18
import Derived.Test.YtobmldegjajocaaCommandRateT32
set_option linter.unusedSimpArgs false
/- The contract of seisinref24.Same. Printed by mkcmdb.py. -/
namespace Go.Proofs.Ytobmldegjajocaa
open Go.RowKit Go.Shelf
set_option linter.unusedVariables false
end Go.Proofs.Ytobmldegjajocaa
