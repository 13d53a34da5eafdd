/- The walk of QueueOrder, ready for its law. -/
import Derived.Test.YtmchpopllhnahaaQO
import Derived.Test.YtmchpopllhnahaaQL0
namespace Go.Proofs.Ytmchpopllhnahaa
open Go.RowKit
theorem queueOrder_walk (A : Option Addr) (n c : Nat) (xs : List Nat) (w : World) (hs : Sl w w.heap.size 1 A n (xs.map (Value.float .f64))) (hx : ∀ x ∈ xs, x < 2^64) :
    Calls Try.prog 3 #[.slice A n c] w fun e w' => e = .returned (.bool true) ∧ Below w.heap.size w w' := queueOrder_any w hs hx
end Go.Proofs.Ytmchpopllhnahaa
