/-
  NARROWER THAN 'FOR EVERY INPUT', by the rows' own cells (each row's printed sentence says how): ShaTells: laid · ShaHex: laid · ShaRoots: laid · ShaUnder: laid · ShaOther: laid · TagTells: laid · TagRings: laid · TagOwn: laid · TagShards: laid · TreeTells: laid · TreeAny: laid · TreeClimbs: laid · TreeOther: laid · TreeRoots: laid.
  DERIVED. THE GIVEN ROWS OF THIS SEAT. 14 by the template 'for every input the law returns true; each argument reads behind the call as it read before'; 0 by the template 'total and deterministic' (their statements: YtlondennhhffdaaDoorTotals.lean).
  GIVEN WITH THE SEED: the statements are not yours to turn. If you find one false, say at which input.
  Laid BY PROGRAM, IN A SANDBOX (cutbox-rows.mjs): the forced cells as the released guide's own fill.sh prints them over the translation caffef119726148d… (all of the seat's roots in one cut). By AI agents, Wed Nov 11 2026. No macro, syntax, notation, axiom, sorry.
-/
import Derived.Test.YtlondennhhffdaaDoorChecked
import GoSem.Claim
import GoSem.ClaimJoined
import GoSem.ClaimMapViews
import Derived.JoinedTies
import Derived.KernelRfl
namespace Go.Proofs.YtlondennhhffdaaDoor
/- THE CELL 'sum', in the pinned program and in every row, IS THE sha256 OF THE DUMP (.gsa) THAT YtlondennhhffdaaDoorProg.lean LOADS. Nothing in Lean hashes anything: it is a label: what it is worth is what the hold of that sum in a sandbox is worth. -/
noncomputable def Tryd.pinned : Pinned := { name := "ytlondennhhffdaadoor", sum := "caffef119726148d74aac45aaa31c6e79dfcd9ff5a3e6167da124ff13ac986c9", checked := Tryd.checked }
namespace Rows
def none {H : Type} : Left H := { results := [], args := [] }

/- WHAT THE LISTED PACKAGE-LEVEL VARIABLES READ AS WHEN THE CALL BEGINS. Each datum BY PROGRAM (the guide's laid-datum.mjs) off the statement by which the dump's own 'gosem.cut.vars' lays the variable. In a bare row this is a premise. The card (YtlondennhhffdaaDoorCards.lean) ties it to the program's text. -/
def laid_seisin_sha_first {H : Type} : DataW H := .agg [.lit (.int .u32 1779033703), .lit (.int .u32 3144134277), .lit (.int .u32 1013904242), .lit (.int .u32 2773480762), .lit (.int .u32 1359893119), .lit (.int .u32 2600822924), .lit (.int .u32 528734635), .lit (.int .u32 1541459225)]
def laid_seisin_sha_rounds {H : Type} : DataW H := .agg [.lit (.int .u32 1116352408), .lit (.int .u32 1899447441), .lit (.int .u32 3049323471), .lit (.int .u32 3921009573), .lit (.int .u32 961987163), .lit (.int .u32 1508970993), .lit (.int .u32 2453635748), .lit (.int .u32 2870763221), .lit (.int .u32 3624381080), .lit (.int .u32 310598401), .lit (.int .u32 607225278), .lit (.int .u32 1426881987), .lit (.int .u32 1925078388), .lit (.int .u32 2162078206), .lit (.int .u32 2614888103), .lit (.int .u32 3248222580), .lit (.int .u32 3835390401), .lit (.int .u32 4022224774), .lit (.int .u32 264347078), .lit (.int .u32 604807628), .lit (.int .u32 770255983), .lit (.int .u32 1249150122), .lit (.int .u32 1555081692), .lit (.int .u32 1996064986), .lit (.int .u32 2554220882), .lit (.int .u32 2821834349), .lit (.int .u32 2952996808), .lit (.int .u32 3210313671), .lit (.int .u32 3336571891), .lit (.int .u32 3584528711), .lit (.int .u32 113926993), .lit (.int .u32 338241895), .lit (.int .u32 666307205), .lit (.int .u32 773529912), .lit (.int .u32 1294757372), .lit (.int .u32 1396182291), .lit (.int .u32 1695183700), .lit (.int .u32 1986661051), .lit (.int .u32 2177026350), .lit (.int .u32 2456956037), .lit (.int .u32 2730485921), .lit (.int .u32 2820302411), .lit (.int .u32 3259730800), .lit (.int .u32 3345764771), .lit (.int .u32 3516065817), .lit (.int .u32 3600352804), .lit (.int .u32 4094571909), .lit (.int .u32 275423344), .lit (.int .u32 430227734), .lit (.int .u32 506948616), .lit (.int .u32 659060556), .lit (.int .u32 883997877), .lit (.int .u32 958139571), .lit (.int .u32 1322822218), .lit (.int .u32 1537002063), .lit (.int .u32 1747873779), .lit (.int .u32 1955562222), .lit (.int .u32 2024104815), .lit (.int .u32 2227730452), .lit (.int .u32 2361852424), .lit (.int .u32 2428436474), .lit (.int .u32 2756734187), .lit (.int .u32 3204031479), .lit (.int .u32 3329325298)]

/-- 'seisinlaw03.ShaTells': WHATEVER THE INPUT: true; the input reads as it did. -/
def shaTellsSpec : ChangeSpec := { name := "shaTells", fn := fun _ => fun
  | [d1, d2] => { results := [.lit (.bool true)], args := [d1, d2] }
  | _ => none }
def shaTellsRow : OpenClaim := { program := "ytlondennhhffdaadoor", sum := "caffef119726148d74aac45aaa31c6e79dfcd9ff5a3e6167da124ff13ac986c9", func := "seisin/seisinlaw03.ShaTells", spec := "shaTells", unfollowed := true, recurses := true, named := ["seisin/sha.first", "seisin/sha.rounds"], apart := false, laid := [("seisin/sha.first", laid_seisin_sha_first), ("seisin/sha.rounds", laid_seisin_sha_rounds)] }
def ShaTellsSaid : Prop := shaTellsRow.holds Tryd.pinned (OpenSpec.ofChange shaTellsSpec)

/-- ITS FALSE NEIGHBOUR: 'it returns false'. Refute it at one input. -/
def shaTellsWrong : ChangeSpec := { name := "shaTells", fn := fun _ => fun
  | [d1, d2] => { results := [.lit (.bool false)], args := [d1, d2] }
  | _ => none }
def ShaTellsWrongFalsely : Prop := shaTellsRow.holds Tryd.pinned (OpenSpec.ofChange shaTellsWrong)

/-- 'seisinlaw03.ShaHex': WHATEVER THE INPUT: true; the input reads as it did. -/
def shaHexSpec : ChangeSpec := { name := "shaHex", fn := fun _ => fun
  | [d1, d2, d3] => { results := [.lit (.bool true)], args := [d1, d2, d3] }
  | _ => none }
def shaHexRow : OpenClaim := { program := "ytlondennhhffdaadoor", sum := "caffef119726148d74aac45aaa31c6e79dfcd9ff5a3e6167da124ff13ac986c9", func := "seisin/seisinlaw03.ShaHex", spec := "shaHex", unfollowed := true, recurses := true, named := ["seisin/sha.first", "seisin/sha.rounds"], apart := false, laid := [("seisin/sha.first", laid_seisin_sha_first), ("seisin/sha.rounds", laid_seisin_sha_rounds)] }
def ShaHexSaid : Prop := shaHexRow.holds Tryd.pinned (OpenSpec.ofChange shaHexSpec)

/-- ITS FALSE NEIGHBOUR: 'it returns false'. Refute it at one input. -/
def shaHexWrong : ChangeSpec := { name := "shaHex", fn := fun _ => fun
  | [d1, d2, d3] => { results := [.lit (.bool false)], args := [d1, d2, d3] }
  | _ => none }
def ShaHexWrongFalsely : Prop := shaHexRow.holds Tryd.pinned (OpenSpec.ofChange shaHexWrong)

/-- 'seisinlaw03.ShaRoots': WHATEVER THE INPUT: true; the input reads as it did. -/
def shaRootsSpec : ChangeSpec := { name := "shaRoots", fn := fun _ => fun
  | [d] => { results := [.lit (.bool true)], args := [d] }
  | _ => none }
def shaRootsRow : OpenClaim := { program := "ytlondennhhffdaadoor", sum := "caffef119726148d74aac45aaa31c6e79dfcd9ff5a3e6167da124ff13ac986c9", func := "seisin/seisinlaw03.ShaRoots", spec := "shaRoots", unfollowed := true, recurses := true, named := ["seisin/sha.first", "seisin/sha.rounds"], apart := false, laid := [("seisin/sha.first", laid_seisin_sha_first), ("seisin/sha.rounds", laid_seisin_sha_rounds)] }
def ShaRootsSaid : Prop := shaRootsRow.holds Tryd.pinned (OpenSpec.ofChange shaRootsSpec)

/-- ITS FALSE NEIGHBOUR: 'it returns false'. Refute it at one input. -/
def shaRootsWrong : ChangeSpec := { name := "shaRoots", fn := fun _ => fun
  | [d] => { results := [.lit (.bool false)], args := [d] }
  | _ => none }
def ShaRootsWrongFalsely : Prop := shaRootsRow.holds Tryd.pinned (OpenSpec.ofChange shaRootsWrong)

/-- 'seisinlaw03.ShaUnder': WHATEVER THE INPUT: true; the input reads as it did. -/
def shaUnderSpec : ChangeSpec := { name := "shaUnder", fn := fun _ => fun
  | [d1, d2] => { results := [.lit (.bool true)], args := [d1, d2] }
  | _ => none }
def shaUnderRow : OpenClaim := { program := "ytlondennhhffdaadoor", sum := "caffef119726148d74aac45aaa31c6e79dfcd9ff5a3e6167da124ff13ac986c9", func := "seisin/seisinlaw03.ShaUnder", spec := "shaUnder", unfollowed := true, recurses := true, named := ["seisin/sha.first", "seisin/sha.rounds"], apart := false, laid := [("seisin/sha.first", laid_seisin_sha_first), ("seisin/sha.rounds", laid_seisin_sha_rounds)] }
def ShaUnderSaid : Prop := shaUnderRow.holds Tryd.pinned (OpenSpec.ofChange shaUnderSpec)

/-- ITS FALSE NEIGHBOUR: 'it returns false'. Refute it at one input. -/
def shaUnderWrong : ChangeSpec := { name := "shaUnder", fn := fun _ => fun
  | [d1, d2] => { results := [.lit (.bool false)], args := [d1, d2] }
  | _ => none }
def ShaUnderWrongFalsely : Prop := shaUnderRow.holds Tryd.pinned (OpenSpec.ofChange shaUnderWrong)

/-- 'seisinlaw03.ShaOther': WHATEVER THE INPUT: true; the input reads as it did. -/
def shaOtherSpec : ChangeSpec := { name := "shaOther", fn := fun _ => fun
  | [d1, d2, d3, d4] => { results := [.lit (.bool true)], args := [d1, d2, d3, d4] }
  | _ => none }
def shaOtherRow : OpenClaim := { program := "ytlondennhhffdaadoor", sum := "caffef119726148d74aac45aaa31c6e79dfcd9ff5a3e6167da124ff13ac986c9", func := "seisin/seisinlaw03.ShaOther", spec := "shaOther", unfollowed := true, recurses := true, named := ["seisin/sha.first", "seisin/sha.rounds"], apart := false, laid := [("seisin/sha.first", laid_seisin_sha_first), ("seisin/sha.rounds", laid_seisin_sha_rounds)] }
def ShaOtherSaid : Prop := shaOtherRow.holds Tryd.pinned (OpenSpec.ofChange shaOtherSpec)

/-- ITS FALSE NEIGHBOUR: 'it returns false'. Refute it at one input. -/
def shaOtherWrong : ChangeSpec := { name := "shaOther", fn := fun _ => fun
  | [d1, d2, d3, d4] => { results := [.lit (.bool false)], args := [d1, d2, d3, d4] }
  | _ => none }
def ShaOtherWrongFalsely : Prop := shaOtherRow.holds Tryd.pinned (OpenSpec.ofChange shaOtherWrong)

/-- 'seisinlaw06.TagTells': WHATEVER THE INPUT: true; the input reads as it did. -/
def tagTellsSpec : ChangeSpec := { name := "tagTells", fn := fun _ => fun
  | [d1, d2, d3] => { results := [.lit (.bool true)], args := [d1, d2, d3] }
  | _ => none }
def tagTellsRow : OpenClaim := { program := "ytlondennhhffdaadoor", sum := "caffef119726148d74aac45aaa31c6e79dfcd9ff5a3e6167da124ff13ac986c9", func := "seisin/seisinlaw06.TagTells", spec := "tagTells", unfollowed := true, recurses := true, named := ["seisin/sha.first", "seisin/sha.rounds"], apart := false, laid := [("seisin/sha.first", laid_seisin_sha_first), ("seisin/sha.rounds", laid_seisin_sha_rounds)] }
def TagTellsSaid : Prop := tagTellsRow.holds Tryd.pinned (OpenSpec.ofChange tagTellsSpec)

/-- ITS FALSE NEIGHBOUR: 'it returns false'. Refute it at one input. -/
def tagTellsWrong : ChangeSpec := { name := "tagTells", fn := fun _ => fun
  | [d1, d2, d3] => { results := [.lit (.bool false)], args := [d1, d2, d3] }
  | _ => none }
def TagTellsWrongFalsely : Prop := tagTellsRow.holds Tryd.pinned (OpenSpec.ofChange tagTellsWrong)

/-- 'seisinlaw06.TagRings': WHATEVER THE INPUT: true; the input reads as it did. -/
def tagRingsSpec : ChangeSpec := { name := "tagRings", fn := fun _ => fun
  | [d1, d2, d3, d4, d5] => { results := [.lit (.bool true)], args := [d1, d2, d3, d4, d5] }
  | _ => none }
def tagRingsRow : OpenClaim := { program := "ytlondennhhffdaadoor", sum := "caffef119726148d74aac45aaa31c6e79dfcd9ff5a3e6167da124ff13ac986c9", func := "seisin/seisinlaw06.TagRings", spec := "tagRings", unfollowed := true, recurses := true, named := ["seisin/sha.first", "seisin/sha.rounds"], apart := false, laid := [("seisin/sha.first", laid_seisin_sha_first), ("seisin/sha.rounds", laid_seisin_sha_rounds)] }
def TagRingsSaid : Prop := tagRingsRow.holds Tryd.pinned (OpenSpec.ofChange tagRingsSpec)

/-- ITS FALSE NEIGHBOUR: 'it returns false'. Refute it at one input. -/
def tagRingsWrong : ChangeSpec := { name := "tagRings", fn := fun _ => fun
  | [d1, d2, d3, d4, d5] => { results := [.lit (.bool false)], args := [d1, d2, d3, d4, d5] }
  | _ => none }
def TagRingsWrongFalsely : Prop := tagRingsRow.holds Tryd.pinned (OpenSpec.ofChange tagRingsWrong)

/-- 'seisinlaw06.TagOwn': WHATEVER THE INPUT: true; the input reads as it did. -/
def tagOwnSpec : ChangeSpec := { name := "tagOwn", fn := fun _ => fun
  | [d1, d2, d3, d4] => { results := [.lit (.bool true)], args := [d1, d2, d3, d4] }
  | _ => none }
def tagOwnRow : OpenClaim := { program := "ytlondennhhffdaadoor", sum := "caffef119726148d74aac45aaa31c6e79dfcd9ff5a3e6167da124ff13ac986c9", func := "seisin/seisinlaw06.TagOwn", spec := "tagOwn", unfollowed := true, recurses := true, named := ["seisin/sha.first", "seisin/sha.rounds"], apart := false, laid := [("seisin/sha.first", laid_seisin_sha_first), ("seisin/sha.rounds", laid_seisin_sha_rounds)] }
def TagOwnSaid : Prop := tagOwnRow.holds Tryd.pinned (OpenSpec.ofChange tagOwnSpec)

/-- ITS FALSE NEIGHBOUR: 'it returns false'. Refute it at one input. -/
def tagOwnWrong : ChangeSpec := { name := "tagOwn", fn := fun _ => fun
  | [d1, d2, d3, d4] => { results := [.lit (.bool false)], args := [d1, d2, d3, d4] }
  | _ => none }
def TagOwnWrongFalsely : Prop := tagOwnRow.holds Tryd.pinned (OpenSpec.ofChange tagOwnWrong)

/-- 'seisinlaw06.TagShards': WHATEVER THE INPUT: true; the input reads as it did. -/
def tagShardsSpec : ChangeSpec := { name := "tagShards", fn := fun _ => fun
  | [d1, d2, d3, d4, d5] => { results := [.lit (.bool true)], args := [d1, d2, d3, d4, d5] }
  | _ => none }
def tagShardsRow : OpenClaim := { program := "ytlondennhhffdaadoor", sum := "caffef119726148d74aac45aaa31c6e79dfcd9ff5a3e6167da124ff13ac986c9", func := "seisin/seisinlaw06.TagShards", spec := "tagShards", unfollowed := true, recurses := true, named := ["seisin/sha.first", "seisin/sha.rounds"], apart := false, laid := [("seisin/sha.first", laid_seisin_sha_first), ("seisin/sha.rounds", laid_seisin_sha_rounds)] }
def TagShardsSaid : Prop := tagShardsRow.holds Tryd.pinned (OpenSpec.ofChange tagShardsSpec)

/-- ITS FALSE NEIGHBOUR: 'it returns false'. Refute it at one input. -/
def tagShardsWrong : ChangeSpec := { name := "tagShards", fn := fun _ => fun
  | [d1, d2, d3, d4, d5] => { results := [.lit (.bool false)], args := [d1, d2, d3, d4, d5] }
  | _ => none }
def TagShardsWrongFalsely : Prop := tagShardsRow.holds Tryd.pinned (OpenSpec.ofChange tagShardsWrong)

/-- 'seisinlaw05.TreeTells': WHATEVER THE INPUT: true; the input reads as it did. -/
def treeTellsSpec : ChangeSpec := { name := "treeTells", fn := fun _ => fun
  | [d1, d2] => { results := [.lit (.bool true)], args := [d1, d2] }
  | _ => none }
def treeTellsRow : OpenClaim := { program := "ytlondennhhffdaadoor", sum := "caffef119726148d74aac45aaa31c6e79dfcd9ff5a3e6167da124ff13ac986c9", func := "seisin/seisinlaw05.TreeTells", spec := "treeTells", unfollowed := true, recurses := true, named := ["seisin/sha.first", "seisin/sha.rounds"], apart := false, laid := [("seisin/sha.first", laid_seisin_sha_first), ("seisin/sha.rounds", laid_seisin_sha_rounds)] }
def TreeTellsSaid : Prop := treeTellsRow.holds Tryd.pinned (OpenSpec.ofChange treeTellsSpec)

/-- ITS FALSE NEIGHBOUR: 'it returns false'. Refute it at one input. -/
def treeTellsWrong : ChangeSpec := { name := "treeTells", fn := fun _ => fun
  | [d1, d2] => { results := [.lit (.bool false)], args := [d1, d2] }
  | _ => none }
def TreeTellsWrongFalsely : Prop := treeTellsRow.holds Tryd.pinned (OpenSpec.ofChange treeTellsWrong)

/-- 'seisinlaw05.TreeAny': WHATEVER THE INPUT: true; the input reads as it did. -/
def treeAnySpec : ChangeSpec := { name := "treeAny", fn := fun _ => fun
  | [d1, d2, d3, d4, d5] => { results := [.lit (.bool true)], args := [d1, d2, d3, d4, d5] }
  | _ => none }
def treeAnyRow : OpenClaim := { program := "ytlondennhhffdaadoor", sum := "caffef119726148d74aac45aaa31c6e79dfcd9ff5a3e6167da124ff13ac986c9", func := "seisin/seisinlaw05.TreeAny", spec := "treeAny", unfollowed := true, recurses := true, named := ["seisin/sha.first", "seisin/sha.rounds"], apart := false, laid := [("seisin/sha.first", laid_seisin_sha_first), ("seisin/sha.rounds", laid_seisin_sha_rounds)] }
def TreeAnySaid : Prop := treeAnyRow.holds Tryd.pinned (OpenSpec.ofChange treeAnySpec)

/-- ITS FALSE NEIGHBOUR: 'it returns false'. Refute it at one input. -/
def treeAnyWrong : ChangeSpec := { name := "treeAny", fn := fun _ => fun
  | [d1, d2, d3, d4, d5] => { results := [.lit (.bool false)], args := [d1, d2, d3, d4, d5] }
  | _ => none }
def TreeAnyWrongFalsely : Prop := treeAnyRow.holds Tryd.pinned (OpenSpec.ofChange treeAnyWrong)

/-- 'seisinlaw05.TreeClimbs': WHATEVER THE INPUT: true; the input reads as it did. -/
def treeClimbsSpec : ChangeSpec := { name := "treeClimbs", fn := fun _ => fun
  | [d1, d2, d3] => { results := [.lit (.bool true)], args := [d1, d2, d3] }
  | _ => none }
def treeClimbsRow : OpenClaim := { program := "ytlondennhhffdaadoor", sum := "caffef119726148d74aac45aaa31c6e79dfcd9ff5a3e6167da124ff13ac986c9", func := "seisin/seisinlaw05.TreeClimbs", spec := "treeClimbs", unfollowed := true, recurses := true, named := ["seisin/sha.first", "seisin/sha.rounds"], apart := false, laid := [("seisin/sha.first", laid_seisin_sha_first), ("seisin/sha.rounds", laid_seisin_sha_rounds)] }
def TreeClimbsSaid : Prop := treeClimbsRow.holds Tryd.pinned (OpenSpec.ofChange treeClimbsSpec)

/-- ITS FALSE NEIGHBOUR: 'it returns false'. Refute it at one input. -/
def treeClimbsWrong : ChangeSpec := { name := "treeClimbs", fn := fun _ => fun
  | [d1, d2, d3] => { results := [.lit (.bool false)], args := [d1, d2, d3] }
  | _ => none }
def TreeClimbsWrongFalsely : Prop := treeClimbsRow.holds Tryd.pinned (OpenSpec.ofChange treeClimbsWrong)

/-- 'seisinlaw05.TreeOther': WHATEVER THE INPUT: true; the input reads as it did. -/
def treeOtherSpec : ChangeSpec := { name := "treeOther", fn := fun _ => fun
  | [d1, d2, d3, d4, d5] => { results := [.lit (.bool true)], args := [d1, d2, d3, d4, d5] }
  | _ => none }
def treeOtherRow : OpenClaim := { program := "ytlondennhhffdaadoor", sum := "caffef119726148d74aac45aaa31c6e79dfcd9ff5a3e6167da124ff13ac986c9", func := "seisin/seisinlaw05.TreeOther", spec := "treeOther", unfollowed := true, recurses := true, named := ["seisin/sha.first", "seisin/sha.rounds"], apart := false, laid := [("seisin/sha.first", laid_seisin_sha_first), ("seisin/sha.rounds", laid_seisin_sha_rounds)] }
def TreeOtherSaid : Prop := treeOtherRow.holds Tryd.pinned (OpenSpec.ofChange treeOtherSpec)

/-- ITS FALSE NEIGHBOUR: 'it returns false'. Refute it at one input. -/
def treeOtherWrong : ChangeSpec := { name := "treeOther", fn := fun _ => fun
  | [d1, d2, d3, d4, d5] => { results := [.lit (.bool false)], args := [d1, d2, d3, d4, d5] }
  | _ => none }
def TreeOtherWrongFalsely : Prop := treeOtherRow.holds Tryd.pinned (OpenSpec.ofChange treeOtherWrong)

/-- 'seisinlaw05.TreeRoots': WHATEVER THE INPUT: true; the input reads as it did. -/
def treeRootsSpec : ChangeSpec := { name := "treeRoots", fn := fun _ => fun
  | [d1, d2, d3] => { results := [.lit (.bool true)], args := [d1, d2, d3] }
  | _ => none }
def treeRootsRow : OpenClaim := { program := "ytlondennhhffdaadoor", sum := "caffef119726148d74aac45aaa31c6e79dfcd9ff5a3e6167da124ff13ac986c9", func := "seisin/seisinlaw05.TreeRoots", spec := "treeRoots", unfollowed := true, recurses := true, named := ["seisin/sha.first", "seisin/sha.rounds"], apart := false, laid := [("seisin/sha.first", laid_seisin_sha_first), ("seisin/sha.rounds", laid_seisin_sha_rounds)] }
def TreeRootsSaid : Prop := treeRootsRow.holds Tryd.pinned (OpenSpec.ofChange treeRootsSpec)

/-- ITS FALSE NEIGHBOUR: 'it returns false'. Refute it at one input. -/
def treeRootsWrong : ChangeSpec := { name := "treeRoots", fn := fun _ => fun
  | [d1, d2, d3] => { results := [.lit (.bool false)], args := [d1, d2, d3] }
  | _ => none }
def TreeRootsWrongFalsely : Prop := treeRootsRow.holds Tryd.pinned (OpenSpec.ofChange treeRootsWrong)

/- THE SECOND FORM. 'bulk': how many values and letters a reading holds, each counted each time it is reached (what is shared counts as often as it is met; a slice's spare places count too). A statement '..UptoSaid' is the law's where the arguments, and the package variables that the reading takes, are together of bulk at most 1048576: NARROWER than '..Said'. Prove '..Said' where nothing that the law and all that it calls make is longer than what came in: it says more and counts as full. Else prove '..UptoSaid'. A law counts once. -/
mutual
def uptoBulk {H : Type} : DataW H → Nat
  | .lit (.string bytes) => bytes.length + 1
  | .lit _ => 1
  | .nil => 1
  | .ptr d => uptoBulk d + 1
  | .slice elems spare => uptoBulkAll elems + uptoBulkAll spare + 1
  | .agg parts => uptoBulkAll parts + 1
  | .iface _ d => uptoBulk d + 1
  | .map entries => uptoBulkEntries entries + 1
  | .held _ => 1
def uptoBulkAll {H : Type} : List (DataW H) → Nat
  | [] => 0
  | d :: r => uptoBulk d + uptoBulkAll r
def uptoBulkEntries {H : Type} : List (Lit × DataW H) → Nat
  | [] => 0
  | x :: r => uptoBulkEntry x + uptoBulkEntries r
def uptoBulkEntry {H : Type} : Lit × DataW H → Nat
  | (.string bytes, d) => bytes.length + uptoBulk d + 1
  | (_, d) => uptoBulk d + 1
 end
def uptoSmall : (H : Type) → List (DataW H) → Bool := fun _ ds => decide (uptoBulkAll ds ≤ 1048576)
def OpenSpec.upto (s : _root_.Go.ChangeSpec) : _root_.Go.OpenSpec := { _root_.Go.OpenSpec.ofChange s with cond := some uptoSmall }

/-- 'seisinlaw03.ShaTells', WHERE WHAT IT READS IS OF BULK AT MOST 1048576: true; the input reads as it did. -/
def shaTellsUptoRow : OpenClaim := { program := "ytlondennhhffdaadoor", sum := "caffef119726148d74aac45aaa31c6e79dfcd9ff5a3e6167da124ff13ac986c9", func := "seisin/seisinlaw03.ShaTells", spec := "shaTells", unfollowed := true, recurses := true, named := ["seisin/sha.first", "seisin/sha.rounds"], apart := false, laid := [("seisin/sha.first", laid_seisin_sha_first), ("seisin/sha.rounds", laid_seisin_sha_rounds)], narrowed := true }
def ShaTellsUptoSaid : Prop := shaTellsUptoRow.holds Tryd.pinned (OpenSpec.upto shaTellsSpec)

/-- 'seisinlaw03.ShaHex', WHERE WHAT IT READS IS OF BULK AT MOST 1048576: true; the input reads as it did. -/
def shaHexUptoRow : OpenClaim := { program := "ytlondennhhffdaadoor", sum := "caffef119726148d74aac45aaa31c6e79dfcd9ff5a3e6167da124ff13ac986c9", func := "seisin/seisinlaw03.ShaHex", spec := "shaHex", unfollowed := true, recurses := true, named := ["seisin/sha.first", "seisin/sha.rounds"], apart := false, laid := [("seisin/sha.first", laid_seisin_sha_first), ("seisin/sha.rounds", laid_seisin_sha_rounds)], narrowed := true }
def ShaHexUptoSaid : Prop := shaHexUptoRow.holds Tryd.pinned (OpenSpec.upto shaHexSpec)

/-- 'seisinlaw03.ShaRoots', WHERE WHAT IT READS IS OF BULK AT MOST 1048576: true; the input reads as it did. -/
def shaRootsUptoRow : OpenClaim := { program := "ytlondennhhffdaadoor", sum := "caffef119726148d74aac45aaa31c6e79dfcd9ff5a3e6167da124ff13ac986c9", func := "seisin/seisinlaw03.ShaRoots", spec := "shaRoots", unfollowed := true, recurses := true, named := ["seisin/sha.first", "seisin/sha.rounds"], apart := false, laid := [("seisin/sha.first", laid_seisin_sha_first), ("seisin/sha.rounds", laid_seisin_sha_rounds)], narrowed := true }
def ShaRootsUptoSaid : Prop := shaRootsUptoRow.holds Tryd.pinned (OpenSpec.upto shaRootsSpec)

/-- 'seisinlaw03.ShaUnder', WHERE WHAT IT READS IS OF BULK AT MOST 1048576: true; the input reads as it did. -/
def shaUnderUptoRow : OpenClaim := { program := "ytlondennhhffdaadoor", sum := "caffef119726148d74aac45aaa31c6e79dfcd9ff5a3e6167da124ff13ac986c9", func := "seisin/seisinlaw03.ShaUnder", spec := "shaUnder", unfollowed := true, recurses := true, named := ["seisin/sha.first", "seisin/sha.rounds"], apart := false, laid := [("seisin/sha.first", laid_seisin_sha_first), ("seisin/sha.rounds", laid_seisin_sha_rounds)], narrowed := true }
def ShaUnderUptoSaid : Prop := shaUnderUptoRow.holds Tryd.pinned (OpenSpec.upto shaUnderSpec)

/-- 'seisinlaw03.ShaOther', WHERE WHAT IT READS IS OF BULK AT MOST 1048576: true; the input reads as it did. -/
def shaOtherUptoRow : OpenClaim := { program := "ytlondennhhffdaadoor", sum := "caffef119726148d74aac45aaa31c6e79dfcd9ff5a3e6167da124ff13ac986c9", func := "seisin/seisinlaw03.ShaOther", spec := "shaOther", unfollowed := true, recurses := true, named := ["seisin/sha.first", "seisin/sha.rounds"], apart := false, laid := [("seisin/sha.first", laid_seisin_sha_first), ("seisin/sha.rounds", laid_seisin_sha_rounds)], narrowed := true }
def ShaOtherUptoSaid : Prop := shaOtherUptoRow.holds Tryd.pinned (OpenSpec.upto shaOtherSpec)

/-- 'seisinlaw06.TagTells', WHERE WHAT IT READS IS OF BULK AT MOST 1048576: true; the input reads as it did. -/
def tagTellsUptoRow : OpenClaim := { program := "ytlondennhhffdaadoor", sum := "caffef119726148d74aac45aaa31c6e79dfcd9ff5a3e6167da124ff13ac986c9", func := "seisin/seisinlaw06.TagTells", spec := "tagTells", unfollowed := true, recurses := true, named := ["seisin/sha.first", "seisin/sha.rounds"], apart := false, laid := [("seisin/sha.first", laid_seisin_sha_first), ("seisin/sha.rounds", laid_seisin_sha_rounds)], narrowed := true }
def TagTellsUptoSaid : Prop := tagTellsUptoRow.holds Tryd.pinned (OpenSpec.upto tagTellsSpec)

/-- 'seisinlaw06.TagRings', WHERE WHAT IT READS IS OF BULK AT MOST 1048576: true; the input reads as it did. -/
def tagRingsUptoRow : OpenClaim := { program := "ytlondennhhffdaadoor", sum := "caffef119726148d74aac45aaa31c6e79dfcd9ff5a3e6167da124ff13ac986c9", func := "seisin/seisinlaw06.TagRings", spec := "tagRings", unfollowed := true, recurses := true, named := ["seisin/sha.first", "seisin/sha.rounds"], apart := false, laid := [("seisin/sha.first", laid_seisin_sha_first), ("seisin/sha.rounds", laid_seisin_sha_rounds)], narrowed := true }
def TagRingsUptoSaid : Prop := tagRingsUptoRow.holds Tryd.pinned (OpenSpec.upto tagRingsSpec)

/-- 'seisinlaw06.TagOwn', WHERE WHAT IT READS IS OF BULK AT MOST 1048576: true; the input reads as it did. -/
def tagOwnUptoRow : OpenClaim := { program := "ytlondennhhffdaadoor", sum := "caffef119726148d74aac45aaa31c6e79dfcd9ff5a3e6167da124ff13ac986c9", func := "seisin/seisinlaw06.TagOwn", spec := "tagOwn", unfollowed := true, recurses := true, named := ["seisin/sha.first", "seisin/sha.rounds"], apart := false, laid := [("seisin/sha.first", laid_seisin_sha_first), ("seisin/sha.rounds", laid_seisin_sha_rounds)], narrowed := true }
def TagOwnUptoSaid : Prop := tagOwnUptoRow.holds Tryd.pinned (OpenSpec.upto tagOwnSpec)

/-- 'seisinlaw06.TagShards', WHERE WHAT IT READS IS OF BULK AT MOST 1048576: true; the input reads as it did. -/
def tagShardsUptoRow : OpenClaim := { program := "ytlondennhhffdaadoor", sum := "caffef119726148d74aac45aaa31c6e79dfcd9ff5a3e6167da124ff13ac986c9", func := "seisin/seisinlaw06.TagShards", spec := "tagShards", unfollowed := true, recurses := true, named := ["seisin/sha.first", "seisin/sha.rounds"], apart := false, laid := [("seisin/sha.first", laid_seisin_sha_first), ("seisin/sha.rounds", laid_seisin_sha_rounds)], narrowed := true }
def TagShardsUptoSaid : Prop := tagShardsUptoRow.holds Tryd.pinned (OpenSpec.upto tagShardsSpec)

/-- 'seisinlaw05.TreeTells', WHERE WHAT IT READS IS OF BULK AT MOST 1048576: true; the input reads as it did. -/
def treeTellsUptoRow : OpenClaim := { program := "ytlondennhhffdaadoor", sum := "caffef119726148d74aac45aaa31c6e79dfcd9ff5a3e6167da124ff13ac986c9", func := "seisin/seisinlaw05.TreeTells", spec := "treeTells", unfollowed := true, recurses := true, named := ["seisin/sha.first", "seisin/sha.rounds"], apart := false, laid := [("seisin/sha.first", laid_seisin_sha_first), ("seisin/sha.rounds", laid_seisin_sha_rounds)], narrowed := true }
def TreeTellsUptoSaid : Prop := treeTellsUptoRow.holds Tryd.pinned (OpenSpec.upto treeTellsSpec)

/-- 'seisinlaw05.TreeAny', WHERE WHAT IT READS IS OF BULK AT MOST 1048576: true; the input reads as it did. -/
def treeAnyUptoRow : OpenClaim := { program := "ytlondennhhffdaadoor", sum := "caffef119726148d74aac45aaa31c6e79dfcd9ff5a3e6167da124ff13ac986c9", func := "seisin/seisinlaw05.TreeAny", spec := "treeAny", unfollowed := true, recurses := true, named := ["seisin/sha.first", "seisin/sha.rounds"], apart := false, laid := [("seisin/sha.first", laid_seisin_sha_first), ("seisin/sha.rounds", laid_seisin_sha_rounds)], narrowed := true }
def TreeAnyUptoSaid : Prop := treeAnyUptoRow.holds Tryd.pinned (OpenSpec.upto treeAnySpec)

/-- 'seisinlaw05.TreeClimbs', WHERE WHAT IT READS IS OF BULK AT MOST 1048576: true; the input reads as it did. -/
def treeClimbsUptoRow : OpenClaim := { program := "ytlondennhhffdaadoor", sum := "caffef119726148d74aac45aaa31c6e79dfcd9ff5a3e6167da124ff13ac986c9", func := "seisin/seisinlaw05.TreeClimbs", spec := "treeClimbs", unfollowed := true, recurses := true, named := ["seisin/sha.first", "seisin/sha.rounds"], apart := false, laid := [("seisin/sha.first", laid_seisin_sha_first), ("seisin/sha.rounds", laid_seisin_sha_rounds)], narrowed := true }
def TreeClimbsUptoSaid : Prop := treeClimbsUptoRow.holds Tryd.pinned (OpenSpec.upto treeClimbsSpec)

/-- 'seisinlaw05.TreeOther', WHERE WHAT IT READS IS OF BULK AT MOST 1048576: true; the input reads as it did. -/
def treeOtherUptoRow : OpenClaim := { program := "ytlondennhhffdaadoor", sum := "caffef119726148d74aac45aaa31c6e79dfcd9ff5a3e6167da124ff13ac986c9", func := "seisin/seisinlaw05.TreeOther", spec := "treeOther", unfollowed := true, recurses := true, named := ["seisin/sha.first", "seisin/sha.rounds"], apart := false, laid := [("seisin/sha.first", laid_seisin_sha_first), ("seisin/sha.rounds", laid_seisin_sha_rounds)], narrowed := true }
def TreeOtherUptoSaid : Prop := treeOtherUptoRow.holds Tryd.pinned (OpenSpec.upto treeOtherSpec)

/-- 'seisinlaw05.TreeRoots', WHERE WHAT IT READS IS OF BULK AT MOST 1048576: true; the input reads as it did. -/
def treeRootsUptoRow : OpenClaim := { program := "ytlondennhhffdaadoor", sum := "caffef119726148d74aac45aaa31c6e79dfcd9ff5a3e6167da124ff13ac986c9", func := "seisin/seisinlaw05.TreeRoots", spec := "treeRoots", unfollowed := true, recurses := true, named := ["seisin/sha.first", "seisin/sha.rounds"], apart := false, laid := [("seisin/sha.first", laid_seisin_sha_first), ("seisin/sha.rounds", laid_seisin_sha_rounds)], narrowed := true }
def TreeRootsUptoSaid : Prop := treeRootsUptoRow.holds Tryd.pinned (OpenSpec.upto treeRootsSpec)

end Rows
end Go.Proofs.YtlondennhhffdaaDoor
