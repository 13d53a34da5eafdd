/- Variables that hold whole arrays: facts that last while memory grows. -/
import Derived.Test.YtlondennhhffdaaDoorShaG
namespace Go.Proofs.YtlondennhhffdaaDoor
open Go.RowKit Go.Shelf
set_option linter.unusedVariables false
theorem wanted_none {o : Oper} {y : Nat → Option Bool} (h : o.guard = none) : Region.wanted o y = true := by unfold Region.wanted; rw [h]
/-- A block that holds n cells. -/
def At (w : World) (g : Nat) (T : TypeId) (n : Nat) (xs : List Value) : Prop := Blk w g T xs ∧ xs.length = n
theorem at_mk {w : World} {g : Nat} {T : TypeId} {n : Nat} {xs : List Value} (h : Blk w g T xs) (hn : xs.length = n) : At w g T n xs := ⟨h, hn⟩
theorem At.blk {w : World} {g : Nat} {T : TypeId} {n : Nat} {xs : List Value} (h : At w g T n xs) : Blk w g T xs := h.1
theorem At.len {w : World} {g : Nat} {T : TypeId} {n : Nat} {xs : List Value} (h : At w g T n xs) : xs.length = n := h.2
theorem At.grow {w w' : World} {g : Nat} {T : TypeId} {n : Nat} {xs : List Value} (h : At w g T n xs) (k : Grow w w') : At w' g T n xs := ⟨h.1.grow k, h.2⟩
theorem At.sl {w : World} {g : Nat} {T : TypeId} {n : Nat} {xs : List Value} (h : At w g T n xs) : Sl w w.heap.size 1 (some ⟨g, 0, none⟩) n xs := h.1.sl (by rw [h.2]; omega)
theorem At.lt {w : World} {g : Nat} {T : TypeId} {n : Nat} {xs : List Value} (h : At w g T n xs) : g < w.heap.size := h.1.lt
theorem var_grow {w w1 w2 : World} (h1 : Below w.heap.size w w1) (hz : w1.heap.size = w.heap.size + 1) (hg : w1.grownBy w2 (some w.heap.size)) : Grow w w2 :=
  h1.grown hg (by omega) (by intro g hg; cases hg; exact Nat.le_refl _)
theorem put_below {w0 w w2 : World} {g : Nat} (h : Below w0.heap.size w0 w) (hg : w0.heap.size ≤ g) (k : w.grownBy w2 (some g)) : Below w0.heap.size w0 w2 :=
  h.grown k h.size (by intro q hq; cases hq; exact hg)
theorem len_id {v : Value} : (List.replicate 32 v).length = 32 := by simp
theorem Dig.bytes {w : World} {A : Option Addr} {n : Nat} {xs : List Value} {d : List UInt8} (h : Dig xs d) (hs : Sl w w.heap.size 1 A n xs) : Sl w w.heap.size 1 A n (d.map B) := by rw [← h.1]; exact hs
/-- A row of this call's own, appended to: what lay below the call's base stays. -/
theorem app_below {w0 w w2 : World} {A : Option Addr} {e : TypeId} {sz n c : Nat} {xs : List Value} (h : Below w0.heap.size w0 w) (ho : w.ownsRow w0.heap.size e sz (.slice A n c) n xs) (k : w.grownBy w2 (A.map Addr.block)) : Below w0.heap.size w0 w2 :=
  below_grown h k h.size (own_from ho)
end Go.Proofs.YtlondennhhffdaaDoor
