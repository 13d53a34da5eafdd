/- The contract of seisinref03.Of, ready for the laws. -/
import Derived.Test.YtlondennhhffdaaDoorShaG
import Derived.Test.YtlondennhhffdaaDoorRefD
namespace Go.Proofs.YtlondennhhffdaaDoor
open Go.RowKit Go.Shelf
set_option linter.unusedVariables false
theorem dof_any (A : Option Addr) (n c : Nat) {bs : List UInt8} {xs : List Value} (hx : Dig xs (sha bs)) (w : World) (hb : Sl w w.heap.size 1 A n (bs.map B)) (hl : n ≤ 1099511627776) :
    Calls Tryd.prog 20 #[.slice A n c] w fun e w' => e = .returned (.agg xs.toArray) ∧ Below w.heap.size w w' := by
  rw [hx.1]
  exact of_any A n c bs w hb hl
end Go.Proofs.YtlondennhhffdaaDoor
