/- Rows of the call's own, in facts that last. -/
import Derived.Test.YtlondennhhffdaaDoorIds
namespace Go.Proofs.YtlondennhhffdaaDoor
open Go.RowKit Go.Shelf
theorem own_blk {w : World} {base g n : Nat} {e : TypeId} {cs : List Value} (h : Blk w g e cs) (hn : cs.length = n) (hb : base ≤ g) (hm : n ≤ maxLen) : w.ownsRow base e 1 (.slice (some ⟨g, 0, none⟩) n n) n cs :=
  ⟨by omega, .inr ⟨g, n, cs.toArray, rfl, hb, h, Nat.le_refl _, hm, by simp; omega, List.take_of_length_le (by simp; omega)⟩⟩
theorem shl_b (s : Nat) (h : s < 8) : IntKind.u8.wrap ((1 : Int) * 2 ^ s) = b8 (1 <<< UInt8.ofNat s) := by
  have : s = 0 ∨ s = 1 ∨ s = 2 ∨ s = 3 ∨ s = 4 ∨ s = 5 ∨ s = 6 ∨ s = 7 := by omega
  rcases this with rfl | rfl | rfl | rfl | rfl | rfl | rfl | rfl <;> rfl
theorem Sl.up {w w' : World} {A : Option Addr} {n : Nat} {xs : List Value} (h : Sl w w.heap.size 1 A n xs) (hb : Below w.heap.size w w') : Sl w' w'.heap.size 1 A n xs := (h.below hb).more hb.size
/-- A row of this call's own. -/
def OwnAt (w : World) (base : Nat) (A : Option Addr) (n c : Nat) (xs : List Value) : Prop := w.ownsRow base 5 1 (.slice A n c) n xs
theorem OwnAt.grow {w w' : World} {base n c : Nat} {A : Option Addr} {xs : List Value} (h : OwnAt w base A n c xs) (k : Grow w w') : OwnAt w' base A n c xs := own_below h k
theorem own_frozen {w : World} {base g n c : Nat} {e : TypeId} {sz : Nat} {xs : List Value} (h : w.ownsRow base e sz (.slice (some ⟨g, 0, none⟩) n c) n xs) (k : Nat) : w.frozen? ⟨g, k, none⟩ = false := by
  rcases h.2 with ⟨hv, _⟩ | ⟨g2, cap, cur, hv, hb, hg, _⟩
  · cases hv
  · cases hv; exact frozen_of_row w g k cur e hg
theorem wrap64_in (x : Int) (h : -9223372036854775808 ≤ x ∧ x ≤ 9223372036854775807) : RowKit.wrap64 x = x := by unfold RowKit.wrap64; omega
end Go.Proofs.YtlondennhhffdaaDoor
