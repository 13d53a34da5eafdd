/- What acts in a drawn region may yield: lists of bytes; lists of these. -/
import Derived.Test.YtlondennhhffdaaDoorFlow
import Derived.Test.YtlondennhhffdaaDoorIds
namespace Go.Proofs.YtlondennhhffdaaDoor
open Go.RowKit Go.Shelf
/-- Bytes. -/
def spB (n : Nat) (bs : List UInt8) : Sp := spS n (fun A c w => Sl w w.heap.size 1 A n (bs.map B) ∧ n ≤ c) (fun _ _ _ _ h k => ⟨h.1.grow k, h.2⟩)
/-- A list of lists of bytes. -/
def spP (n : Nat) (ls : List (List UInt8)) : Sp := spS n (fun A _ w => ∃ ps, Parts w w.heap.size A n ps ∧ ps.map Prod.snd = ls) (fun _ _ _ _ ⟨ps, h1, h2⟩ k => ⟨ps, h1.grow k, h2⟩)
theorem parts1 {w : World} {g : Nat} {t : TypeId} {A1 : Option Addr} {n1 c1 : Nat} {b1 : List UInt8} (hb : Blk w g t [.slice A1 n1 c1]) (h1 : Sl w w.heap.size 1 A1 n1 (b1.map B)) (k1 : n1 ≤ c1) :
    ∃ ps, Parts w w.heap.size (some ⟨g, 0, none⟩) 1 ps ∧ ps.map Prod.snd = [b1] :=
  ⟨[(.slice A1 n1 c1, b1)], parts_blk hb rfl (by intro p hp; simp only [List.mem_cons, List.not_mem_nil, or_false] at hp; subst hp; exact part_mk h1 k1), rfl⟩
theorem parts2 {w : World} {g : Nat} {t : TypeId} {A1 A2 : Option Addr} {n1 c1 n2 c2 : Nat} {b1 b2 : List UInt8} (hb : Blk w g t [.slice A1 n1 c1, .slice A2 n2 c2]) (h1 : Sl w w.heap.size 1 A1 n1 (b1.map B)) (k1 : n1 ≤ c1) (h2 : Sl w w.heap.size 1 A2 n2 (b2.map B)) (k2 : n2 ≤ c2) :
    ∃ ps, Parts w w.heap.size (some ⟨g, 0, none⟩) 2 ps ∧ ps.map Prod.snd = [b1, b2] :=
  ⟨[(.slice A1 n1 c1, b1), (.slice A2 n2 c2, b2)], parts_blk hb rfl (by intro p hp; simp only [List.mem_cons, List.not_mem_nil, or_false] at hp; rcases hp with rfl | rfl; exact part_mk h1 k1; exact part_mk h2 k2), rfl⟩
theorem cat_of (ps : List (Value × List UInt8)) : cat ps = (ps.map Prod.snd).flatten := by unfold cat; rfl
/-- Sum over a list of lists that is known by its bytes. -/
theorem psum_any {A : Option Addr} {n c : Nat} {ls : List (List UInt8)} {bs : List UInt8} {xs : List Value} (hx : Dig xs (sha bs)) (hcat : ls.flatten = bs) {w : World} (hp : ∃ ps, Parts w w.heap.size A n ps ∧ ps.map Prod.snd = ls) (hn : n ≤ 1000000) (hl : bs.length ≤ 1099511627776) (ht : Tabs w) :
    Calls Tryd.prog 19 #[.slice A n c] w fun e w' => e = .returned (.agg xs.toArray) ∧ Below w.heap.size w w' := by
  obtain ⟨ps, h1, h2⟩ := hp
  exact dsum_any A n c ps hx (by rw [cat_of, h2, hcat]) w h1 hn hl ht
end Go.Proofs.YtlondennhhffdaaDoor
