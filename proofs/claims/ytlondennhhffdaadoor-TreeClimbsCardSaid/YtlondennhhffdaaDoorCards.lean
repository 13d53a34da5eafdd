/-
  DERIVED. GIVEN WITH THE SEED: THE CARDS: each row of YtlondennhhffdaaDoorRows.lean that lists a variable, with what it lists TIED to the program's text (the seventh form; the later family's looks); each row that meets fmt, with fmt's text TOLD by the authors' own Lean function (tested against real Go, not proved from fmt's source: count such statements apart). THE CARD IS WHAT COUNTS. Prove the row's statement (the work); the ties are given (YtlondennhhffdaaDoorTie.lean); close each card by the builder's one call (the guide's Derived/Test/ToyasCard.lean, 'card_holds'). Laid BY PROGRAM, IN A SANDBOX (cutbox-door.mjs). By AI agents, Wed Nov 11 2026. No macro, syntax, notation, axiom, sorry.
-/
import Derived.Test.YtlondennhhffdaaDoorRows
import GoSem.ClaimSeven
namespace Go.Proofs.YtlondennhhffdaaDoor
namespace Rows

/-- THE TIED CARD OF 'seisinlaw03.ShaTells'. -/
def shaTellsCard : Claim7 := { stood := { row := shaTellsRow, standIns := [], harness := (true, "975e815c0e655e608918a1547aa32e7e8f2803f3291fc649f0ff266bc7f56400"), looks := false }, kinds := [], alts := [], laidByText := true, laidKinds := [.data, .data], laidTests := true, laidLooks := .later }
def ShaTellsCardSaid : Prop := Claim7.holds Tryd.pinned (.plain (OpenSpec.ofChange shaTellsSpec)) shaTellsCard

/-- THE TIED CARD OF 'seisinlaw03.ShaHex'. -/
def shaHexCard : Claim7 := { stood := { row := shaHexRow, standIns := [], harness := (true, "975e815c0e655e608918a1547aa32e7e8f2803f3291fc649f0ff266bc7f56400"), looks := false }, kinds := [], alts := [], laidByText := true, laidKinds := [.data, .data], laidTests := true, laidLooks := .later }
def ShaHexCardSaid : Prop := Claim7.holds Tryd.pinned (.plain (OpenSpec.ofChange shaHexSpec)) shaHexCard

/-- THE TIED CARD OF 'seisinlaw03.ShaRoots'. -/
def shaRootsCard : Claim7 := { stood := { row := shaRootsRow, standIns := [], harness := (true, "975e815c0e655e608918a1547aa32e7e8f2803f3291fc649f0ff266bc7f56400"), looks := false }, kinds := [], alts := [], laidByText := true, laidKinds := [.data, .data], laidTests := true, laidLooks := .later }
def ShaRootsCardSaid : Prop := Claim7.holds Tryd.pinned (.plain (OpenSpec.ofChange shaRootsSpec)) shaRootsCard

/-- THE TIED CARD OF 'seisinlaw03.ShaUnder'. -/
def shaUnderCard : Claim7 := { stood := { row := shaUnderRow, standIns := [], harness := (true, "975e815c0e655e608918a1547aa32e7e8f2803f3291fc649f0ff266bc7f56400"), looks := false }, kinds := [], alts := [], laidByText := true, laidKinds := [.data, .data], laidTests := true, laidLooks := .later }
def ShaUnderCardSaid : Prop := Claim7.holds Tryd.pinned (.plain (OpenSpec.ofChange shaUnderSpec)) shaUnderCard

/-- THE TIED CARD OF 'seisinlaw03.ShaOther'. -/
def shaOtherCard : Claim7 := { stood := { row := shaOtherRow, standIns := [], harness := (true, "975e815c0e655e608918a1547aa32e7e8f2803f3291fc649f0ff266bc7f56400"), looks := false }, kinds := [], alts := [], laidByText := true, laidKinds := [.data, .data], laidTests := true, laidLooks := .later }
def ShaOtherCardSaid : Prop := Claim7.holds Tryd.pinned (.plain (OpenSpec.ofChange shaOtherSpec)) shaOtherCard

/-- THE TIED CARD OF 'seisinlaw06.TagTells'. -/
def tagTellsCard : Claim7 := { stood := { row := tagTellsRow, standIns := [], harness := (true, "975e815c0e655e608918a1547aa32e7e8f2803f3291fc649f0ff266bc7f56400"), looks := false }, kinds := [], alts := [], laidByText := true, laidKinds := [.data, .data], laidTests := true, laidLooks := .later }
def TagTellsCardSaid : Prop := Claim7.holds Tryd.pinned (.plain (OpenSpec.ofChange tagTellsSpec)) tagTellsCard

/-- THE TIED CARD OF 'seisinlaw06.TagRings'. -/
def tagRingsCard : Claim7 := { stood := { row := tagRingsRow, standIns := [], harness := (true, "975e815c0e655e608918a1547aa32e7e8f2803f3291fc649f0ff266bc7f56400"), looks := false }, kinds := [], alts := [], laidByText := true, laidKinds := [.data, .data], laidTests := true, laidLooks := .later }
def TagRingsCardSaid : Prop := Claim7.holds Tryd.pinned (.plain (OpenSpec.ofChange tagRingsSpec)) tagRingsCard

/-- THE TIED CARD OF 'seisinlaw06.TagOwn'. -/
def tagOwnCard : Claim7 := { stood := { row := tagOwnRow, standIns := [], harness := (true, "975e815c0e655e608918a1547aa32e7e8f2803f3291fc649f0ff266bc7f56400"), looks := false }, kinds := [], alts := [], laidByText := true, laidKinds := [.data, .data], laidTests := true, laidLooks := .later }
def TagOwnCardSaid : Prop := Claim7.holds Tryd.pinned (.plain (OpenSpec.ofChange tagOwnSpec)) tagOwnCard

/-- THE TIED CARD OF 'seisinlaw06.TagShards'. -/
def tagShardsCard : Claim7 := { stood := { row := tagShardsRow, standIns := [], harness := (true, "975e815c0e655e608918a1547aa32e7e8f2803f3291fc649f0ff266bc7f56400"), looks := false }, kinds := [], alts := [], laidByText := true, laidKinds := [.data, .data], laidTests := true, laidLooks := .later }
def TagShardsCardSaid : Prop := Claim7.holds Tryd.pinned (.plain (OpenSpec.ofChange tagShardsSpec)) tagShardsCard

/-- THE TIED CARD OF 'seisinlaw05.TreeTells'. -/
def treeTellsCard : Claim7 := { stood := { row := treeTellsRow, standIns := [], harness := (true, "975e815c0e655e608918a1547aa32e7e8f2803f3291fc649f0ff266bc7f56400"), looks := false }, kinds := [], alts := [], laidByText := true, laidKinds := [.data, .data], laidTests := true, laidLooks := .later }
def TreeTellsCardSaid : Prop := Claim7.holds Tryd.pinned (.plain (OpenSpec.ofChange treeTellsSpec)) treeTellsCard

/-- THE TIED CARD OF 'seisinlaw05.TreeAny'. -/
def treeAnyCard : Claim7 := { stood := { row := treeAnyRow, standIns := [], harness := (true, "975e815c0e655e608918a1547aa32e7e8f2803f3291fc649f0ff266bc7f56400"), looks := false }, kinds := [], alts := [], laidByText := true, laidKinds := [.data, .data], laidTests := true, laidLooks := .later }
def TreeAnyCardSaid : Prop := Claim7.holds Tryd.pinned (.plain (OpenSpec.ofChange treeAnySpec)) treeAnyCard

/-- THE TIED CARD OF 'seisinlaw05.TreeClimbs'. -/
def treeClimbsCard : Claim7 := { stood := { row := treeClimbsRow, standIns := [], harness := (true, "975e815c0e655e608918a1547aa32e7e8f2803f3291fc649f0ff266bc7f56400"), looks := false }, kinds := [], alts := [], laidByText := true, laidKinds := [.data, .data], laidTests := true, laidLooks := .later }
def TreeClimbsCardSaid : Prop := Claim7.holds Tryd.pinned (.plain (OpenSpec.ofChange treeClimbsSpec)) treeClimbsCard

/-- THE TIED CARD OF 'seisinlaw05.TreeOther'. -/
def treeOtherCard : Claim7 := { stood := { row := treeOtherRow, standIns := [], harness := (true, "975e815c0e655e608918a1547aa32e7e8f2803f3291fc649f0ff266bc7f56400"), looks := false }, kinds := [], alts := [], laidByText := true, laidKinds := [.data, .data], laidTests := true, laidLooks := .later }
def TreeOtherCardSaid : Prop := Claim7.holds Tryd.pinned (.plain (OpenSpec.ofChange treeOtherSpec)) treeOtherCard

/-- THE TIED CARD OF 'seisinlaw05.TreeRoots'. -/
def treeRootsCard : Claim7 := { stood := { row := treeRootsRow, standIns := [], harness := (true, "975e815c0e655e608918a1547aa32e7e8f2803f3291fc649f0ff266bc7f56400"), looks := false }, kinds := [], alts := [], laidByText := true, laidKinds := [.data, .data], laidTests := true, laidLooks := .later }
def TreeRootsCardSaid : Prop := Claim7.holds Tryd.pinned (.plain (OpenSpec.ofChange treeRootsSpec)) treeRootsCard

/-- THE SECOND FORM's CARD OF 'seisinlaw03.ShaTells'. -/
def shaTellsUptoCard : Claim7 := { stood := { row := shaTellsUptoRow, standIns := [], harness := (true, "975e815c0e655e608918a1547aa32e7e8f2803f3291fc649f0ff266bc7f56400"), looks := false }, kinds := [], alts := [], laidByText := true, laidKinds := [.data, .data], laidTests := true, laidLooks := .later }
def ShaTellsUptoCardSaid : Prop := Claim7.holds Tryd.pinned (.plain (OpenSpec.upto shaTellsSpec)) shaTellsUptoCard

/-- THE SECOND FORM's CARD OF 'seisinlaw03.ShaHex'. -/
def shaHexUptoCard : Claim7 := { stood := { row := shaHexUptoRow, standIns := [], harness := (true, "975e815c0e655e608918a1547aa32e7e8f2803f3291fc649f0ff266bc7f56400"), looks := false }, kinds := [], alts := [], laidByText := true, laidKinds := [.data, .data], laidTests := true, laidLooks := .later }
def ShaHexUptoCardSaid : Prop := Claim7.holds Tryd.pinned (.plain (OpenSpec.upto shaHexSpec)) shaHexUptoCard

/-- THE SECOND FORM's CARD OF 'seisinlaw03.ShaRoots'. -/
def shaRootsUptoCard : Claim7 := { stood := { row := shaRootsUptoRow, standIns := [], harness := (true, "975e815c0e655e608918a1547aa32e7e8f2803f3291fc649f0ff266bc7f56400"), looks := false }, kinds := [], alts := [], laidByText := true, laidKinds := [.data, .data], laidTests := true, laidLooks := .later }
def ShaRootsUptoCardSaid : Prop := Claim7.holds Tryd.pinned (.plain (OpenSpec.upto shaRootsSpec)) shaRootsUptoCard

/-- THE SECOND FORM's CARD OF 'seisinlaw03.ShaUnder'. -/
def shaUnderUptoCard : Claim7 := { stood := { row := shaUnderUptoRow, standIns := [], harness := (true, "975e815c0e655e608918a1547aa32e7e8f2803f3291fc649f0ff266bc7f56400"), looks := false }, kinds := [], alts := [], laidByText := true, laidKinds := [.data, .data], laidTests := true, laidLooks := .later }
def ShaUnderUptoCardSaid : Prop := Claim7.holds Tryd.pinned (.plain (OpenSpec.upto shaUnderSpec)) shaUnderUptoCard

/-- THE SECOND FORM's CARD OF 'seisinlaw03.ShaOther'. -/
def shaOtherUptoCard : Claim7 := { stood := { row := shaOtherUptoRow, standIns := [], harness := (true, "975e815c0e655e608918a1547aa32e7e8f2803f3291fc649f0ff266bc7f56400"), looks := false }, kinds := [], alts := [], laidByText := true, laidKinds := [.data, .data], laidTests := true, laidLooks := .later }
def ShaOtherUptoCardSaid : Prop := Claim7.holds Tryd.pinned (.plain (OpenSpec.upto shaOtherSpec)) shaOtherUptoCard

/-- THE SECOND FORM's CARD OF 'seisinlaw06.TagTells'. -/
def tagTellsUptoCard : Claim7 := { stood := { row := tagTellsUptoRow, standIns := [], harness := (true, "975e815c0e655e608918a1547aa32e7e8f2803f3291fc649f0ff266bc7f56400"), looks := false }, kinds := [], alts := [], laidByText := true, laidKinds := [.data, .data], laidTests := true, laidLooks := .later }
def TagTellsUptoCardSaid : Prop := Claim7.holds Tryd.pinned (.plain (OpenSpec.upto tagTellsSpec)) tagTellsUptoCard

/-- THE SECOND FORM's CARD OF 'seisinlaw06.TagRings'. -/
def tagRingsUptoCard : Claim7 := { stood := { row := tagRingsUptoRow, standIns := [], harness := (true, "975e815c0e655e608918a1547aa32e7e8f2803f3291fc649f0ff266bc7f56400"), looks := false }, kinds := [], alts := [], laidByText := true, laidKinds := [.data, .data], laidTests := true, laidLooks := .later }
def TagRingsUptoCardSaid : Prop := Claim7.holds Tryd.pinned (.plain (OpenSpec.upto tagRingsSpec)) tagRingsUptoCard

/-- THE SECOND FORM's CARD OF 'seisinlaw06.TagOwn'. -/
def tagOwnUptoCard : Claim7 := { stood := { row := tagOwnUptoRow, standIns := [], harness := (true, "975e815c0e655e608918a1547aa32e7e8f2803f3291fc649f0ff266bc7f56400"), looks := false }, kinds := [], alts := [], laidByText := true, laidKinds := [.data, .data], laidTests := true, laidLooks := .later }
def TagOwnUptoCardSaid : Prop := Claim7.holds Tryd.pinned (.plain (OpenSpec.upto tagOwnSpec)) tagOwnUptoCard

/-- THE SECOND FORM's CARD OF 'seisinlaw06.TagShards'. -/
def tagShardsUptoCard : Claim7 := { stood := { row := tagShardsUptoRow, standIns := [], harness := (true, "975e815c0e655e608918a1547aa32e7e8f2803f3291fc649f0ff266bc7f56400"), looks := false }, kinds := [], alts := [], laidByText := true, laidKinds := [.data, .data], laidTests := true, laidLooks := .later }
def TagShardsUptoCardSaid : Prop := Claim7.holds Tryd.pinned (.plain (OpenSpec.upto tagShardsSpec)) tagShardsUptoCard

/-- THE SECOND FORM's CARD OF 'seisinlaw05.TreeTells'. -/
def treeTellsUptoCard : Claim7 := { stood := { row := treeTellsUptoRow, standIns := [], harness := (true, "975e815c0e655e608918a1547aa32e7e8f2803f3291fc649f0ff266bc7f56400"), looks := false }, kinds := [], alts := [], laidByText := true, laidKinds := [.data, .data], laidTests := true, laidLooks := .later }
def TreeTellsUptoCardSaid : Prop := Claim7.holds Tryd.pinned (.plain (OpenSpec.upto treeTellsSpec)) treeTellsUptoCard

/-- THE SECOND FORM's CARD OF 'seisinlaw05.TreeAny'. -/
def treeAnyUptoCard : Claim7 := { stood := { row := treeAnyUptoRow, standIns := [], harness := (true, "975e815c0e655e608918a1547aa32e7e8f2803f3291fc649f0ff266bc7f56400"), looks := false }, kinds := [], alts := [], laidByText := true, laidKinds := [.data, .data], laidTests := true, laidLooks := .later }
def TreeAnyUptoCardSaid : Prop := Claim7.holds Tryd.pinned (.plain (OpenSpec.upto treeAnySpec)) treeAnyUptoCard

/-- THE SECOND FORM's CARD OF 'seisinlaw05.TreeClimbs'. -/
def treeClimbsUptoCard : Claim7 := { stood := { row := treeClimbsUptoRow, standIns := [], harness := (true, "975e815c0e655e608918a1547aa32e7e8f2803f3291fc649f0ff266bc7f56400"), looks := false }, kinds := [], alts := [], laidByText := true, laidKinds := [.data, .data], laidTests := true, laidLooks := .later }
def TreeClimbsUptoCardSaid : Prop := Claim7.holds Tryd.pinned (.plain (OpenSpec.upto treeClimbsSpec)) treeClimbsUptoCard

/-- THE SECOND FORM's CARD OF 'seisinlaw05.TreeOther'. -/
def treeOtherUptoCard : Claim7 := { stood := { row := treeOtherUptoRow, standIns := [], harness := (true, "975e815c0e655e608918a1547aa32e7e8f2803f3291fc649f0ff266bc7f56400"), looks := false }, kinds := [], alts := [], laidByText := true, laidKinds := [.data, .data], laidTests := true, laidLooks := .later }
def TreeOtherUptoCardSaid : Prop := Claim7.holds Tryd.pinned (.plain (OpenSpec.upto treeOtherSpec)) treeOtherUptoCard

/-- THE SECOND FORM's CARD OF 'seisinlaw05.TreeRoots'. -/
def treeRootsUptoCard : Claim7 := { stood := { row := treeRootsUptoRow, standIns := [], harness := (true, "975e815c0e655e608918a1547aa32e7e8f2803f3291fc649f0ff266bc7f56400"), looks := false }, kinds := [], alts := [], laidByText := true, laidKinds := [.data, .data], laidTests := true, laidLooks := .later }
def TreeRootsUptoCardSaid : Prop := Claim7.holds Tryd.pinned (.plain (OpenSpec.upto treeRootsSpec)) treeRootsUptoCard
end Rows
end Go.Proofs.YtlondennhhffdaaDoor
