/- The contracts of layer 3, ready for the laws: facts that last while memory grows; equality of digests. -/
import Derived.Test.YtlondennhhffdaaDoorPlan
import Derived.Test.YtlondennhhffdaaDoorShaE
import Derived.Test.YtlondennhhffdaaDoorSame
import Derived.Test.YtlondennhhffdaaDoorRefG
import Derived.Stop.BytesEq
namespace Go.Proofs.YtlondennhhffdaaDoor
open Go.RowKit Go.Shelf
set_option linter.unusedVariables false
theorem Tabs.grow {w w' : World} (h : Tabs w) (k : Grow w w') : Tabs w' := h.below k
theorem Parts.grow {w w' : World} {A : Option Addr} {n : Nat} {ps : List (Value × List UInt8)} (h : Parts w w.heap.size A n ps) (k : Grow w w') : Parts w' w'.heap.size A n ps := (h.below k).more k.size
theorem eql_ids (a b : List UInt8) (ha : a.length = 32) (hb : b.length = 32) (w : World) : (binOp .eql 26 (.agg (a.map B).toArray) (.agg (b.map B).toArray)).run Tryd.prog w = .ok (.bool (a == b)) w :=
  run_eql_bytes w 26 5 32 Tryd.underlying26 (by kernel_rfl) (fun w => by
    obtain ⟨i, hi, hs⟩ := Option.map_eq_some_iff.1 (show (Tryd.prog.info? 5).map (·.size) = some 1 by kernel_rfl)
    simp [sizeOf, typeInfo, hi, hs]) a b ha hb
/-- A digest's cells. -/
def Dig (xs : List Value) (d : List UInt8) : Prop := xs = d.map B ∧ d.length = 32
theorem Dig.sha (bs : List UInt8) : Dig ((sha bs).map B) (sha bs) := ⟨rfl, sha_length bs⟩
theorem Dig.len {xs : List Value} {d : List UInt8} (h : Dig xs d) : xs.length = 32 := by rw [h.1, List.length_map, h.2]
theorem Dig.one {xs : List Value} {d : List UInt8} (h : Dig xs d) : ∀ u ∈ xs, u.oneCell' = true := by rw [h.1]; exact all_bytes d
theorem Dig.eql {xs ys : List Value} {a b : List UInt8} (h : Dig xs a) (k : Dig ys b) (w : World) : (binOp .eql 26 (.agg xs.toArray) (.agg ys.toArray)).run Tryd.prog w = .ok (.bool (a == b)) w := by
  rw [h.1, k.1]; exact eql_ids a b h.2 k.2 w
theorem Dig.self {xs : List Value} {a : List UInt8} (h : Dig xs a) (w : World) : (binOp .eql 26 (.agg xs.toArray) (.agg xs.toArray)).run Tryd.prog w = .ok (.bool true) w := by
  rw [h.eql h]; simp
theorem Dig.neq {xs ys : List Value} {a b : List UInt8} (h : Dig xs a) (k : Dig ys b) (w : World) : (binOp .neq 26 (.agg xs.toArray) (.agg ys.toArray)).run Tryd.prog w = .ok (.bool (a != b)) w := by
  have e := h.eql k w
  unfold binOp at e ⊢
  simp only [Sem.run_bind] at e ⊢
  generalize (Op.equal 26 (.agg xs.toArray) (.agg ys.toArray)).run Tryd.prog w = r at *
  cases r with
  | ok v w' =>
    simp only [Result.andThen_ok, Sem.run_pure, Result.ok.injEq, Value.bool.injEq] at e ⊢
    obtain ⟨rfl, rfl⟩ := e
    exact ⟨rfl, rfl⟩
  | halt x w' => simp [Result.andThen] at e
/-- A list of slices of bytes. -/
def PartOK (w : World) (Bd : Nat) (p : Value × List UInt8) : Prop := ∃ A c, p.1 = .slice A p.2.length c ∧ p.2.length ≤ c ∧ Sl w Bd 1 A p.2.length (p.2.map B)
theorem part_mk {w : World} {Bd n c : Nat} {A : Option Addr} {bs : List UInt8} (h : Sl w Bd 1 A n (bs.map B)) (hc : n ≤ c) : PartOK w Bd (.slice A n c, bs) := by
  have e : bs.length = n := by have := h.len; simpa using this
  refine ⟨A, c, by rw [e], by rw [e]; exact hc, by rw [e]; exact h⟩
theorem parts_mk {w : World} {Bd n : Nat} {A : Option Addr} {ps : List (Value × List UInt8)} (h : Sl w Bd 1 A n (ps.map Prod.fst)) (hp : ∀ p ∈ ps, PartOK w Bd p) : Parts w Bd A n ps := ⟨h, hp⟩
theorem parts_blk {w : World} {g n : Nat} {t : TypeId} {ps : List (Value × List UInt8)} (h : Blk w g t (ps.map Prod.fst)) (hn : ps.length = n) (hp : ∀ p ∈ ps, PartOK w w.heap.size p) : Parts w w.heap.size (some ⟨g, 0, none⟩) n ps :=
  parts_mk (h.sl (by simp [hn])) hp
theorem dsum_any (A : Option Addr) (n c : Nat) (ps : List (Value × List UInt8)) {bs : List UInt8} {xs : List Value} (hx : Dig xs (sha bs)) (hcat : cat ps = bs) (w : World) (hp : Parts w w.heap.size A n ps) (hn : n ≤ 1000000) (hl : bs.length ≤ 1099511627776) (ht : Tabs w) :
    Calls Tryd.prog 19 #[.slice A n c] w fun e w' => e = .returned (.agg xs.toArray) ∧ Below w.heap.size w w' := by
  rw [hx.1, ← hcat]
  exact sum_any A n c ps w hp hn (by rw [hcat]; exact hl) ht
end Go.Proofs.YtlondennhhffdaaDoor
