/- Arguments opened: digests, lists of digests. -/
import Derived.Test.YtlondennhhffdaaDoorOpenD
namespace Go.Proofs.YtlondennhhffdaaDoor
open Go.RowKit Go.ChangeShapes Go.WideShapes
set_option linter.unusedVariables false
section
variable {H : Type} {enc : TypeId × Value → H} {w : World} {r : Reach} {b0 base : Nat} {spare : Nat → Bool} {held : Bool}
theorem open_dig {v : Value} {d : DataW H} {ps : List MemPlace} (hval : Value.okWide Tryd.prog w r b0 26 v) (h : DataW.Trod enc Tryd.prog w base spare held 26 v d ps) :
    ∃ ds : List UInt8, v = .agg (ds.map B).toArray ∧ ds.length = 32 :=
  open_arr32 Tryd.underlying26 Tryd.underlying5 (by kernel_rfl) (by kernel_rfl) hval h
theorem open_digs {v : Value} {d : DataW H} {ps : List MemPlace} (hval : Value.okWide Tryd.prog w r b0 57 v) (h : DataW.Trod enc Tryd.prog w base spare held 57 v d ps) :
    ∃ A n c, ∃ l : List (List UInt8), v = .slice A n c ∧ Sl w w.heap.size 32 A n (l.flatMap (·.map B)) ∧ l.length = n ∧ (∀ x ∈ l, x.length = 32) ∧ n ≤ c ∧ c ≤ maxLen := by
  obtain ⟨A, n, c, l, h1, h2, h3, h4, h5, h6, _⟩ := open_list (fun x : List UInt8 => x.map B) (fun x => x.length = 32) Tryd.underlying57 (by kernel_rfl) (show 0 < 32 by omega) (fun fuel cs y _ h => trod_bytes Tryd.underlying26 Tryd.underlying5 (by kernel_rfl) (by kernel_rfl) h) hval h
  exact ⟨A, n, c, l, h1, h5, h2, h6, h3, h4⟩
end
end Go.Proofs.YtlondennhhffdaaDoor
