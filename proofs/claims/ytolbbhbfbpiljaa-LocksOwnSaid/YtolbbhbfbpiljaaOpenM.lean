/- An argument opened: a list of bytes (as OpenD, with fewer imports). -/
import Derived.Test.YtolbbhbfbpiljaaOpenC
import Derived.Test.YtolbbhbfbpiljaaChecked
namespace Go.Proofs.Ytolbbhbfbpiljaa
open Go.RowKit Go.ChangeShapes Go.WideShapes
set_option linter.unusedVariables false
set_option maxRecDepth 100000
section
variable {H : Type} {enc : TypeId × Value → H} {w : World} {r : Reach} {b0 base : Nat} {spare : Nat → Bool} {held : Bool}
theorem open_b {v : Value} {d : DataW H} {ps : List MemPlace} (hval : Value.okWide Try.prog w r b0 22 v) (h : DataW.Trod enc Try.prog w base spare held 22 v d ps) :
    ∃ A n c, ∃ bs : List UInt8, v = .slice A n c ∧ Sl w w.heap.size 1 A n (bs.map B) ∧ n ≤ c ∧ c ≤ maxLen := open_u8s Try.underlying22 Try.underlying5 (by kernel_rfl) hval h
end
end Go.Proofs.Ytolbbhbfbpiljaa
