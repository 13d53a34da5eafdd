/- The laid tables of package sha: what the rows' lists give, and the world for their witnesses. -/
import Derived.Test.YtlondennhhffdaaDoorCards
import Derived.Test.YtlondennhhffdaaDoorTie
import Derived.Test.YtlondennhhffdaaDoorShaB
import Derived.Test.YtlondennhhffdaaDoorOpenB
import Derived.ProofKit
import Derived.Deep.DeepHandedRow
import Derived.Lib.LaidTab
namespace Go.Proofs.YtlondennhhffdaaDoor
open Go.RowKit Go.ChangeShapes Go.WideShapes Go.ChangeAt

theorem own_knob : ownKnob Tryd.prog.godebug = none := by kernel_rfl
theorem laid_out : laidOutB Tryd.prog = true := by kernel_rfl
def shaLaid {H : Type} : List (String × DataW H) := [("seisin/sha.first", Rows.laid_seisin_sha_first), ("seisin/sha.rounds", Rows.laid_seisin_sha_rounds)]

theorem gFirst_named : Tryd.prog.globalNamed "seisin/sha.first" = some 0 := by kernel_rfl
theorem gRounds_named : Tryd.prog.globalNamed "seisin/sha.rounds" = some 1 := by kernel_rfl
theorem laid_two {W : World} (h : laidMet Tryd.prog shaLaid W) : Lib.TabIs Tryd.prog W "seisin/sha.first" .u32 (firstSt.toList.map w32) ∧ Lib.TabIs Tryd.prog W "seisin/sha.rounds" .u32 (roundKs.map w32) := by
  obtain ⟨ps, ⟨g1, t1, cs1, f1, p1, q1, hg1, ht1, hvar1, hd1, hrest, _⟩, _⟩ := h
  obtain ⟨g2, t2, cs2, f2, p2, q2, hg2, ht2, hvar2, hd2, _, _⟩ := hrest
  obtain rfl := Option.some.inj (gFirst_named.symm.trans hg1)
  obtain rfl := Option.some.inj (gRounds_named.symm.trans hg2)
  have e1 : (Tryd.prog.globals[0]?).map (·.type) = some 71 := by kernel_rfl
  have e2 : (Tryd.prog.globals[1]?).map (·.type) = some 92 := by kernel_rfl
  obtain rfl := Option.some.inj (e1.symm.trans ht1)
  obtain rfl := Option.some.inj (e2.symm.trans ht2)
  have c1 : Tryd.prog.cellsOf 70 = 1 := by kernel_rfl
  constructor
  · unfold Lib.TabIs
    rw [hvar1, ← Lib.cells_of_tab (zs := firstSt.toList.map w32) Tryd.underlying71 Tryd.underlying70 c1 (by kernel_rfl) hd1]
  · unfold Lib.TabIs
    rw [hvar2, ← Lib.cells_of_tab (zs := roundKs.map w32) Tryd.underlying92 Tryd.underlying70 c1 (by kernel_rfl) hd2]
theorem tabs_of {W : World} (h : laidMetH Tryd.prog shaLaid W) : Tabs W := by
  obtain ⟨h1, h2⟩ := laid_two h
  constructor
  · intro j u hu
    have hj : j < firstSt.toList.length := by have := (List.getElem?_eq_some_iff.1 hu).1; rwa [List.length_map] at this
    have := h1.cell gFirst_named j (by rw [List.length_map]; exact hj)
    rw [this, ← hu]
    rw [List.getD_eq_getElem?_getD, List.getElem?_map, List.getElem?_map]
    rw [List.getElem?_eq_getElem hj]; rfl
  · intro j u hu
    have hj : j < roundKs.length := by have := (List.getElem?_eq_some_iff.1 hu).1; rwa [List.length_map] at this
    have := h2.cell gRounds_named j (by rw [List.length_map]; exact hj)
    rw [this, ← hu]
    rw [List.getD_eq_getElem?_getD, List.getElem?_map, List.getElem?_map]
    rw [List.getElem?_eq_getElem hj]; rfl

def putCells (cs : Array Value) (o : Obj) : Obj :=
  match o with
  | .cells _ t fr => .cells cs t fr
  | o => o
/-- A world for the witnesses: the settled one, the tables holding what their initialisers lay. -/
noncomputable def laidWorld (os : Os) : World :=
  { World.holding Tryd.prog os ⟨#[], #[], []⟩ with heap := ((World.holding Tryd.prog os ⟨#[], #[], []⟩).heap.modify 0 (putCells (firstSt.toList.map W).toArray)).modify 1 (putCells (roundKs.map W).toArray) }
end Go.Proofs.YtlondennhhffdaaDoor
