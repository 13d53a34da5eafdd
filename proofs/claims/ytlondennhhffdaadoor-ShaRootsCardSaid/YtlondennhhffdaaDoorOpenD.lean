/- Arguments opened: bytes, lists of bytes, lists of digests. -/
import Derived.Test.YtlondennhhffdaaDoorOpenC
import Derived.Test.YtlondennhhffdaaDoorShaG
namespace Go.Proofs.YtlondennhhffdaaDoor
open Go.RowKit Go.ChangeShapes Go.WideShapes
set_option linter.unusedVariables false
section
variable {H : Type} {enc : TypeId × Value → H} {w : World} {r : Reach} {b0 base : Nat} {spare : Nat → Bool} {held : Bool}
theorem open_b {v : Value} {d : DataW H} {ps : List MemPlace} (hval : Value.okWide Tryd.prog w r b0 22 v) (h : DataW.Trod enc Tryd.prog w base spare held 22 v d ps) :
    ∃ A n c, ∃ bs : List UInt8, v = .slice A n c ∧ Sl w w.heap.size 1 A n (bs.map B) ∧ n ≤ c ∧ c ≤ maxLen := open_u8s Tryd.underlying22 Tryd.underlying5 (by kernel_rfl) hval h
/-- A list of lists of bytes that came in. -/
theorem open_bb {v : Value} {d : DataW H} {ps : List MemPlace} (hval : Value.okWide Tryd.prog w r b0 37 v) (h : DataW.Trod enc Tryd.prog w base spare held 37 v d ps) :
    ∃ A n c, ∃ l : List (Value × List UInt8), v = .slice A n c ∧ Parts w w.heap.size A n l ∧ n ≤ c ∧ c ≤ maxLen := by
  obtain ⟨A, n, c, l, h1, h2, h3, h4, h5, h6, _⟩ := open_list (fun x : Value × List UInt8 => [x.1]) (fun p => ∃ A c, p.1 = .slice A p.2.length c ∧ p.2.length ≤ c ∧ Sl w w.heap.size 1 A p.2.length (p.2.map B)) Tryd.underlying37 (by kernel_rfl) (show 0 < 1 by omega) (fun fuel cs y hl ht => by
    obtain ⟨A', n', c', bs, e, hs, hn, _, hbl⟩ := open_u8s0 Tryd.underlying22 Tryd.underlying5 (by kernel_rfl) ht
    exact ⟨(.slice A' n' c', bs), e, A', c', by rw [hbl], by rw [hbl]; exact hn, by rw [hbl]; exact hs⟩) hval h
  exact ⟨A, n, c, l, h1, ⟨by rw [← flat_one]; exact h5, h6⟩, h3, h4⟩
end
end Go.Proofs.YtlondennhhffdaaDoor
