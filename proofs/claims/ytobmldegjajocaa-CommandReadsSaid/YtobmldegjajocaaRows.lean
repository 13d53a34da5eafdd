/-
  No cell of these rows narrows 'for every input' (looked for: loops, veiled, ifaces, maps, wideKeys, modest, calm, conditions, laid).
  DERIVED. THE GIVEN ROWS OF THIS SEAT. 4 by the template 'for every input the law returns true; each argument reads behind the call as it read before'; 0 by the template 'total and deterministic' (their statements: YtobmldegjajocaaTotals.lean).
  GIVEN WITH THE SEED: the statements are not yours to turn. If you find one false, say at which input.
  Laid BY PROGRAM, IN A SANDBOX (cutbox-rows.mjs): the forced cells as the released guide's own fill.sh prints them over the translation 2b7b81c0e6de06ad… (all of the seat's roots in one cut). By AI agents, Wed Nov 11 2026. No macro, syntax, notation, axiom, sorry.
-/
import Derived.Test.YtobmldegjajocaaChecked
import GoSem.Claim
import GoSem.ClaimJoined
import GoSem.ClaimMapViews
import Derived.JoinedTies
import Derived.KernelRfl
namespace Go.Proofs.Ytobmldegjajocaa
/- THE CELL 'sum', in the pinned program and in every row, IS THE sha256 OF THE DUMP (.gsa) THAT YtobmldegjajocaaProg.lean LOADS. Nothing in Lean hashes anything: it is a label: what it is worth is what the hold of that sum in a sandbox is worth. -/
noncomputable def Try.pinned : Pinned := { name := "ytobmldegjajocaa", sum := "2b7b81c0e6de06ad5ffacef8b6a2bdc66232ccfceabbca65b9eb90ab90676ab2", checked := Try.checked }
namespace Rows
def none {H : Type} : Left H := { results := [], args := [] }

/-- 'seisinlaw24.CommandForms': WHATEVER THE INPUT: true; the input reads as it did. -/
def commandFormsSpec : ChangeSpec := { name := "commandForms", fn := fun _ => fun
  | [d] => { results := [.lit (.bool true)], args := [d] }
  | _ => none }
def commandFormsRow : OpenClaim := { program := "ytobmldegjajocaa", sum := "2b7b81c0e6de06ad5ffacef8b6a2bdc66232ccfceabbca65b9eb90ab90676ab2", func := "seisin/seisinlaw24.CommandForms", spec := "commandForms", unfollowed := true, recurses := true, plainKeys := false, apart := false }
def CommandFormsSaid : Prop := commandFormsRow.holds Try.pinned (OpenSpec.ofChange commandFormsSpec)

/-- ITS FALSE NEIGHBOUR: 'it returns false'. Refute it at one input. -/
def commandFormsWrong : ChangeSpec := { name := "commandForms", fn := fun _ => fun
  | [d] => { results := [.lit (.bool false)], args := [d] }
  | _ => none }
def CommandFormsWrongFalsely : Prop := commandFormsRow.holds Try.pinned (OpenSpec.ofChange commandFormsWrong)

/-- 'seisinlaw24.CommandReads': WHATEVER THE INPUT: true; the input reads as it did. -/
def commandReadsSpec : ChangeSpec := { name := "commandReads", fn := fun _ => fun
  | [d] => { results := [.lit (.bool true)], args := [d] }
  | _ => none }
def commandReadsRow : OpenClaim := { program := "ytobmldegjajocaa", sum := "2b7b81c0e6de06ad5ffacef8b6a2bdc66232ccfceabbca65b9eb90ab90676ab2", func := "seisin/seisinlaw24.CommandReads", spec := "commandReads", unfollowed := true, recurses := true, plainKeys := false, apart := false }
def CommandReadsSaid : Prop := commandReadsRow.holds Try.pinned (OpenSpec.ofChange commandReadsSpec)

/-- ITS FALSE NEIGHBOUR: 'it returns false'. Refute it at one input. -/
def commandReadsWrong : ChangeSpec := { name := "commandReads", fn := fun _ => fun
  | [d] => { results := [.lit (.bool false)], args := [d] }
  | _ => none }
def CommandReadsWrongFalsely : Prop := commandReadsRow.holds Try.pinned (OpenSpec.ofChange commandReadsWrong)

/-- 'seisinlaw24.CommandSame': WHATEVER THE INPUT: true; the input reads as it did. -/
def commandSameSpec : ChangeSpec := { name := "commandSame", fn := fun _ => fun
  | [d1, d2] => { results := [.lit (.bool true)], args := [d1, d2] }
  | _ => none }
def commandSameRow : OpenClaim := { program := "ytobmldegjajocaa", sum := "2b7b81c0e6de06ad5ffacef8b6a2bdc66232ccfceabbca65b9eb90ab90676ab2", func := "seisin/seisinlaw24.CommandSame", spec := "commandSame", unfollowed := true, recurses := true, plainKeys := false, apart := false }
def CommandSameSaid : Prop := commandSameRow.holds Try.pinned (OpenSpec.ofChange commandSameSpec)

/-- ITS FALSE NEIGHBOUR: 'it returns false'. Refute it at one input. -/
def commandSameWrong : ChangeSpec := { name := "commandSame", fn := fun _ => fun
  | [d1, d2] => { results := [.lit (.bool false)], args := [d1, d2] }
  | _ => none }
def CommandSameWrongFalsely : Prop := commandSameRow.holds Try.pinned (OpenSpec.ofChange commandSameWrong)

/-- 'seisinlaw24.CommandRate': WHATEVER THE INPUT: true; the input reads as it did. -/
def commandRateSpec : ChangeSpec := { name := "commandRate", fn := fun _ => fun
  | [d] => { results := [.lit (.bool true)], args := [d] }
  | _ => none }
def commandRateRow : OpenClaim := { program := "ytobmldegjajocaa", sum := "2b7b81c0e6de06ad5ffacef8b6a2bdc66232ccfceabbca65b9eb90ab90676ab2", func := "seisin/seisinlaw24.CommandRate", spec := "commandRate", inPlace := ["math.Float64frombits", "math.Float64bits"], unfollowed := true, recurses := true, plainKeys := false, apart := false }
def CommandRateSaid : Prop := commandRateRow.holds Try.pinned (OpenSpec.ofChange commandRateSpec)

/-- ITS FALSE NEIGHBOUR: 'it returns false'. Refute it at one input. -/
def commandRateWrong : ChangeSpec := { name := "commandRate", fn := fun _ => fun
  | [d] => { results := [.lit (.bool false)], args := [d] }
  | _ => none }
def CommandRateWrongFalsely : Prop := commandRateRow.holds Try.pinned (OpenSpec.ofChange commandRateWrong)

/- THE SECOND FORM. 'bulk': how many values and letters a reading holds, each counted each time it is reached (what is shared counts as often as it is met; a slice's spare places count too). A statement '..UptoSaid' is the law's where the arguments, and the package variables that the reading takes, are together of bulk at most 1048576: NARROWER than '..Said'. Prove '..Said' where nothing that the law and all that it calls make is longer than what came in: it says more and counts as full. Else prove '..UptoSaid'. A law counts once. -/
mutual
def uptoBulk {H : Type} : DataW H → Nat
  | .lit (.string bytes) => bytes.length + 1
  | .lit _ => 1
  | .nil => 1
  | .ptr d => uptoBulk d + 1
  | .slice elems spare => uptoBulkAll elems + uptoBulkAll spare + 1
  | .agg parts => uptoBulkAll parts + 1
  | .iface _ d => uptoBulk d + 1
  | .map entries => uptoBulkEntries entries + 1
  | .held _ => 1
def uptoBulkAll {H : Type} : List (DataW H) → Nat
  | [] => 0
  | d :: r => uptoBulk d + uptoBulkAll r
def uptoBulkEntries {H : Type} : List (Lit × DataW H) → Nat
  | [] => 0
  | x :: r => uptoBulkEntry x + uptoBulkEntries r
def uptoBulkEntry {H : Type} : Lit × DataW H → Nat
  | (.string bytes, d) => bytes.length + uptoBulk d + 1
  | (_, d) => uptoBulk d + 1
 end
def uptoSmall : (H : Type) → List (DataW H) → Bool := fun _ ds => decide (uptoBulkAll ds ≤ 1048576)
def OpenSpec.upto (s : _root_.Go.ChangeSpec) : _root_.Go.OpenSpec := { _root_.Go.OpenSpec.ofChange s with cond := some uptoSmall }

/-- 'seisinlaw24.CommandForms', WHERE WHAT IT READS IS OF BULK AT MOST 1048576: true; the input reads as it did. -/
def commandFormsUptoRow : OpenClaim := { program := "ytobmldegjajocaa", sum := "2b7b81c0e6de06ad5ffacef8b6a2bdc66232ccfceabbca65b9eb90ab90676ab2", func := "seisin/seisinlaw24.CommandForms", spec := "commandForms", unfollowed := true, recurses := true, plainKeys := false, apart := false, narrowed := true }
def CommandFormsUptoSaid : Prop := commandFormsUptoRow.holds Try.pinned (OpenSpec.upto commandFormsSpec)

/-- 'seisinlaw24.CommandReads', WHERE WHAT IT READS IS OF BULK AT MOST 1048576: true; the input reads as it did. -/
def commandReadsUptoRow : OpenClaim := { program := "ytobmldegjajocaa", sum := "2b7b81c0e6de06ad5ffacef8b6a2bdc66232ccfceabbca65b9eb90ab90676ab2", func := "seisin/seisinlaw24.CommandReads", spec := "commandReads", unfollowed := true, recurses := true, plainKeys := false, apart := false, narrowed := true }
def CommandReadsUptoSaid : Prop := commandReadsUptoRow.holds Try.pinned (OpenSpec.upto commandReadsSpec)

/-- 'seisinlaw24.CommandSame', WHERE WHAT IT READS IS OF BULK AT MOST 1048576: true; the input reads as it did. -/
def commandSameUptoRow : OpenClaim := { program := "ytobmldegjajocaa", sum := "2b7b81c0e6de06ad5ffacef8b6a2bdc66232ccfceabbca65b9eb90ab90676ab2", func := "seisin/seisinlaw24.CommandSame", spec := "commandSame", unfollowed := true, recurses := true, plainKeys := false, apart := false, narrowed := true }
def CommandSameUptoSaid : Prop := commandSameUptoRow.holds Try.pinned (OpenSpec.upto commandSameSpec)

/-- 'seisinlaw24.CommandRate', WHERE WHAT IT READS IS OF BULK AT MOST 1048576: true; the input reads as it did. -/
def commandRateUptoRow : OpenClaim := { program := "ytobmldegjajocaa", sum := "2b7b81c0e6de06ad5ffacef8b6a2bdc66232ccfceabbca65b9eb90ab90676ab2", func := "seisin/seisinlaw24.CommandRate", spec := "commandRate", inPlace := ["math.Float64frombits", "math.Float64bits"], unfollowed := true, recurses := true, plainKeys := false, apart := false, narrowed := true }
def CommandRateUptoSaid : Prop := commandRateUptoRow.holds Try.pinned (OpenSpec.upto commandRateSpec)

end Rows
end Go.Proofs.Ytobmldegjajocaa
