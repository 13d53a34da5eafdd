/-
  No cell of these rows narrows 'for every input' (looked for: loops, veiled, ifaces, maps, wideKeys, modest, calm, conditions, laid).
  DERIVED. THE GIVEN ROWS OF THIS SEAT. 4 by the template 'for every input the law returns true; each argument reads behind the call as it read before'; 0 by the template 'total and deterministic' (their statements: YtmchpopllhnahaaTotals.lean).
  GIVEN WITH THE SEED: the statements are not yours to turn. If you find one false, say at which input.
  Laid BY PROGRAM, IN A SANDBOX (cutbox-rows.mjs): the forced cells as the released guide's own fill.sh prints them over the translation 00e838abc90abc8a… (all of the seat's roots in one cut). By AI agents, Wed Nov 11 2026. No macro, syntax, notation, axiom, sorry.
-/
import Derived.Test.YtmchpopllhnahaaChecked
import GoSem.Claim
import GoSem.ClaimJoined
import GoSem.ClaimMapViews
import Derived.JoinedTies
import Derived.KernelRfl
namespace Go.Proofs.Ytmchpopllhnahaa
/- THE CELL 'sum', in the pinned program and in every row, IS THE sha256 OF THE DUMP (.gsa) THAT YtmchpopllhnahaaProg.lean LOADS. Nothing in Lean hashes anything: it is a label: what it is worth is what the hold of that sum in a sandbox is worth. -/
noncomputable def Try.pinned : Pinned := { name := "ytmchpopllhnahaa", sum := "00e838abc90abc8a86df66440c59949c6c540994eea564de06a401e7aca4e91d", checked := Try.checked }
namespace Rows
def none {H : Type} : Left H := { results := [], args := [] }

/-- 'seisinlaw26.QueueOrder': WHATEVER THE INPUT: true; the input reads as it did. -/
def queueOrderSpec : ChangeSpec := { name := "queueOrder", fn := fun _ => fun
  | [d] => { results := [.lit (.bool true)], args := [d] }
  | _ => none }
def queueOrderRow : OpenClaim := { program := "ytmchpopllhnahaa", sum := "00e838abc90abc8a86df66440c59949c6c540994eea564de06a401e7aca4e91d", func := "seisin/seisinlaw26.QueueOrder", spec := "queueOrder", inPlace := ["math.Float64frombits", "math.Float64bits", "slices.overlaps[seisin/api.Waiting]"], unfollowed := true, recurses := true, apart := false }
def QueueOrderSaid : Prop := queueOrderRow.holds Try.pinned (OpenSpec.ofChange queueOrderSpec)

/-- ITS FALSE NEIGHBOUR: 'it returns false'. Refute it at one input. -/
def queueOrderWrong : ChangeSpec := { name := "queueOrder", fn := fun _ => fun
  | [d] => { results := [.lit (.bool false)], args := [d] }
  | _ => none }
def QueueOrderWrongFalsely : Prop := queueOrderRow.holds Try.pinned (OpenSpec.ofChange queueOrderWrong)

/-- 'seisinlaw01.RateSorts': WHATEVER THE INPUT: true; the input reads as it did. -/
def rateSortsSpec : ChangeSpec := { name := "rateSorts", fn := fun _ => fun
  | [d] => { results := [.lit (.bool true)], args := [d] }
  | _ => none }
def rateSortsRow : OpenClaim := { program := "ytmchpopllhnahaa", sum := "00e838abc90abc8a86df66440c59949c6c540994eea564de06a401e7aca4e91d", func := "seisin/seisinlaw01.RateSorts", spec := "rateSorts", inPlace := ["math.Float64frombits", "math.Float64bits"], unfollowed := true, recurses := true, apart := false }
def RateSortsSaid : Prop := rateSortsRow.holds Try.pinned (OpenSpec.ofChange rateSortsSpec)

/-- ITS FALSE NEIGHBOUR: 'it returns false'. Refute it at one input. -/
def rateSortsWrong : ChangeSpec := { name := "rateSorts", fn := fun _ => fun
  | [d] => { results := [.lit (.bool false)], args := [d] }
  | _ => none }
def RateSortsWrongFalsely : Prop := rateSortsRow.holds Try.pinned (OpenSpec.ofChange rateSortsWrong)

/-- 'seisinlaw26.QueueFull': WHATEVER THE INPUT: true; the input reads as it did. -/
def queueFullSpec : ChangeSpec := { name := "queueFull", fn := fun _ => fun
  | [d] => { results := [.lit (.bool true)], args := [d] }
  | _ => none }
def queueFullRow : OpenClaim := { program := "ytmchpopllhnahaa", sum := "00e838abc90abc8a86df66440c59949c6c540994eea564de06a401e7aca4e91d", func := "seisin/seisinlaw26.QueueFull", spec := "queueFull", inPlace := ["math.Float64frombits", "math.Float64bits", "slices.overlaps[seisin/api.Waiting]"], unfollowed := true, recurses := true, apart := false }
def QueueFullSaid : Prop := queueFullRow.holds Try.pinned (OpenSpec.ofChange queueFullSpec)

/-- ITS FALSE NEIGHBOUR: 'it returns false'. Refute it at one input. -/
def queueFullWrong : ChangeSpec := { name := "queueFull", fn := fun _ => fun
  | [d] => { results := [.lit (.bool false)], args := [d] }
  | _ => none }
def QueueFullWrongFalsely : Prop := queueFullRow.holds Try.pinned (OpenSpec.ofChange queueFullWrong)

/-- 'seisinlaw26.QueuePlays': WHATEVER THE INPUT: true; the input reads as it did. -/
def queuePlaysSpec : ChangeSpec := { name := "queuePlays", fn := fun _ => fun
  | [d] => { results := [.lit (.bool true)], args := [d] }
  | _ => none }
def queuePlaysRow : OpenClaim := { program := "ytmchpopllhnahaa", sum := "00e838abc90abc8a86df66440c59949c6c540994eea564de06a401e7aca4e91d", func := "seisin/seisinlaw26.QueuePlays", spec := "queuePlays", inPlace := ["math.Float64frombits", "math.Float64bits", "slices.overlaps[seisin/api.Waiting]"], unfollowed := true, recurses := true, apart := false }
def QueuePlaysSaid : Prop := queuePlaysRow.holds Try.pinned (OpenSpec.ofChange queuePlaysSpec)

/-- ITS FALSE NEIGHBOUR: 'it returns false'. Refute it at one input. -/
def queuePlaysWrong : ChangeSpec := { name := "queuePlays", fn := fun _ => fun
  | [d] => { results := [.lit (.bool false)], args := [d] }
  | _ => none }
def QueuePlaysWrongFalsely : Prop := queuePlaysRow.holds Try.pinned (OpenSpec.ofChange queuePlaysWrong)

/- THE SECOND FORM. 'bulk': how many values and letters a reading holds, each counted each time it is reached (what is shared counts as often as it is met; a slice's spare places count too). A statement '..UptoSaid' is the law's where the arguments, and the package variables that the reading takes, are together of bulk at most 1048576: NARROWER than '..Said'. Prove '..Said' where nothing that the law and all that it calls make is longer than what came in: it says more and counts as full. Else prove '..UptoSaid'. A law counts once. -/
mutual
def uptoBulk {H : Type} : DataW H → Nat
  | .lit (.string bytes) => bytes.length + 1
  | .lit _ => 1
  | .nil => 1
  | .ptr d => uptoBulk d + 1
  | .slice elems spare => uptoBulkAll elems + uptoBulkAll spare + 1
  | .agg parts => uptoBulkAll parts + 1
  | .iface _ d => uptoBulk d + 1
  | .map entries => uptoBulkEntries entries + 1
  | .held _ => 1
def uptoBulkAll {H : Type} : List (DataW H) → Nat
  | [] => 0
  | d :: r => uptoBulk d + uptoBulkAll r
def uptoBulkEntries {H : Type} : List (Lit × DataW H) → Nat
  | [] => 0
  | x :: r => uptoBulkEntry x + uptoBulkEntries r
def uptoBulkEntry {H : Type} : Lit × DataW H → Nat
  | (.string bytes, d) => bytes.length + uptoBulk d + 1
  | (_, d) => uptoBulk d + 1
 end
def uptoSmall : (H : Type) → List (DataW H) → Bool := fun _ ds => decide (uptoBulkAll ds ≤ 1048576)
def OpenSpec.upto (s : _root_.Go.ChangeSpec) : _root_.Go.OpenSpec := { _root_.Go.OpenSpec.ofChange s with cond := some uptoSmall }

/-- 'seisinlaw26.QueueOrder', WHERE WHAT IT READS IS OF BULK AT MOST 1048576: true; the input reads as it did. -/
def queueOrderUptoRow : OpenClaim := { program := "ytmchpopllhnahaa", sum := "00e838abc90abc8a86df66440c59949c6c540994eea564de06a401e7aca4e91d", func := "seisin/seisinlaw26.QueueOrder", spec := "queueOrder", inPlace := ["math.Float64frombits", "math.Float64bits", "slices.overlaps[seisin/api.Waiting]"], unfollowed := true, recurses := true, apart := false, narrowed := true }
def QueueOrderUptoSaid : Prop := queueOrderUptoRow.holds Try.pinned (OpenSpec.upto queueOrderSpec)

/-- 'seisinlaw01.RateSorts', WHERE WHAT IT READS IS OF BULK AT MOST 1048576: true; the input reads as it did. -/
def rateSortsUptoRow : OpenClaim := { program := "ytmchpopllhnahaa", sum := "00e838abc90abc8a86df66440c59949c6c540994eea564de06a401e7aca4e91d", func := "seisin/seisinlaw01.RateSorts", spec := "rateSorts", inPlace := ["math.Float64frombits", "math.Float64bits"], unfollowed := true, recurses := true, apart := false, narrowed := true }
def RateSortsUptoSaid : Prop := rateSortsUptoRow.holds Try.pinned (OpenSpec.upto rateSortsSpec)

/-- 'seisinlaw26.QueueFull', WHERE WHAT IT READS IS OF BULK AT MOST 1048576: true; the input reads as it did. -/
def queueFullUptoRow : OpenClaim := { program := "ytmchpopllhnahaa", sum := "00e838abc90abc8a86df66440c59949c6c540994eea564de06a401e7aca4e91d", func := "seisin/seisinlaw26.QueueFull", spec := "queueFull", inPlace := ["math.Float64frombits", "math.Float64bits", "slices.overlaps[seisin/api.Waiting]"], unfollowed := true, recurses := true, apart := false, narrowed := true }
def QueueFullUptoSaid : Prop := queueFullUptoRow.holds Try.pinned (OpenSpec.upto queueFullSpec)

/-- 'seisinlaw26.QueuePlays', WHERE WHAT IT READS IS OF BULK AT MOST 1048576: true; the input reads as it did. -/
def queuePlaysUptoRow : OpenClaim := { program := "ytmchpopllhnahaa", sum := "00e838abc90abc8a86df66440c59949c6c540994eea564de06a401e7aca4e91d", func := "seisin/seisinlaw26.QueuePlays", spec := "queuePlays", inPlace := ["math.Float64frombits", "math.Float64bits", "slices.overlaps[seisin/api.Waiting]"], unfollowed := true, recurses := true, apart := false, narrowed := true }
def QueuePlaysUptoSaid : Prop := queuePlaysUptoRow.holds Try.pinned (OpenSpec.upto queuePlaysSpec)

end Rows
end Go.Proofs.Ytmchpopllhnahaa
