/-
  No cell of these rows narrows 'for every input' (looked for: loops, veiled, ifaces, maps, wideKeys, modest, calm, conditions, laid).
  DERIVED. THE GIVEN ROWS OF THIS SEAT. 7 by the template 'for every input the law returns true; each argument reads behind the call as it read before'; 0 by the template 'total and deterministic' (their statements: YtolbbhbfbpiljaaTotals.lean).
  GIVEN WITH THE SEED: the statements are not yours to turn. If you find one false, say at which input.
  Laid BY PROGRAM, IN A SANDBOX (cutbox-rows.mjs): the forced cells as the released guide's own fill.sh prints them over the translation a9089ed2ae9ffd15… (all of the seat's roots in one cut). By AI agents, Wed Nov 11 2026. No macro, syntax, notation, axiom, sorry.
-/
import Derived.Test.YtolbbhbfbpiljaaChecked
import GoSem.Claim
import GoSem.ClaimJoined
import GoSem.ClaimMapViews
import Derived.JoinedTies
import Derived.KernelRfl
namespace Go.Proofs.Ytolbbhbfbpiljaa
/- THE CELL 'sum', in the pinned program and in every row, IS THE sha256 OF THE DUMP (.gsa) THAT YtolbbhbfbpiljaaProg.lean LOADS. Nothing in Lean hashes anything: it is a label: what it is worth is what the hold of that sum in a sandbox is worth. -/
noncomputable def Try.pinned : Pinned := { name := "ytolbbhbfbpiljaa", sum := "a9089ed2ae9ffd1578f80b23ab5b50f2398408dc4a85b904a2fd469a592da13f", checked := Try.checked }
namespace Rows
def none {H : Type} : Left H := { results := [], args := [] }

/-- 'seisinlaw20.MarksKept': WHATEVER THE INPUT: true; the input reads as it did. -/
def marksKeptSpec : ChangeSpec := { name := "marksKept", fn := fun _ => fun
  | [d1, d2, d3] => { results := [.lit (.bool true)], args := [d1, d2, d3] }
  | _ => none }
def marksKeptRow : OpenClaim := { program := "ytolbbhbfbpiljaa", sum := "a9089ed2ae9ffd1578f80b23ab5b50f2398408dc4a85b904a2fd469a592da13f", func := "seisin/seisinlaw20.MarksKept", spec := "marksKept", inPlace := ["internal/bytealg.Compare"], unfollowed := true, recurses := true, plainKeys := false, apart := false }
def MarksKeptSaid : Prop := marksKeptRow.holds Try.pinned (OpenSpec.ofChange marksKeptSpec)

/-- ITS FALSE NEIGHBOUR: 'it returns false'. Refute it at one input. -/
def marksKeptWrong : ChangeSpec := { name := "marksKept", fn := fun _ => fun
  | [d1, d2, d3] => { results := [.lit (.bool false)], args := [d1, d2, d3] }
  | _ => none }
def MarksKeptWrongFalsely : Prop := marksKeptRow.holds Try.pinned (OpenSpec.ofChange marksKeptWrong)

/-- 'seisinlaw20.MarksFull': WHATEVER THE INPUT: true; the input reads as it did. -/
def marksFullSpec : ChangeSpec := { name := "marksFull", fn := fun _ => fun
  | [d] => { results := [.lit (.bool true)], args := [d] }
  | _ => none }
def marksFullRow : OpenClaim := { program := "ytolbbhbfbpiljaa", sum := "a9089ed2ae9ffd1578f80b23ab5b50f2398408dc4a85b904a2fd469a592da13f", func := "seisin/seisinlaw20.MarksFull", spec := "marksFull", inPlace := ["internal/bytealg.Compare"], unfollowed := true, recurses := true, plainKeys := false, apart := false }
def MarksFullSaid : Prop := marksFullRow.holds Try.pinned (OpenSpec.ofChange marksFullSpec)

/-- ITS FALSE NEIGHBOUR: 'it returns false'. Refute it at one input. -/
def marksFullWrong : ChangeSpec := { name := "marksFull", fn := fun _ => fun
  | [d] => { results := [.lit (.bool false)], args := [d] }
  | _ => none }
def MarksFullWrongFalsely : Prop := marksFullRow.holds Try.pinned (OpenSpec.ofChange marksFullWrong)

/-- 'seisinlaw21.LocksFull': WHATEVER THE INPUT: true; the input reads as it did. -/
def locksFullSpec : ChangeSpec := { name := "locksFull", fn := fun _ => fun
  | [d1, d2] => { results := [.lit (.bool true)], args := [d1, d2] }
  | _ => none }
def locksFullRow : OpenClaim := { program := "ytolbbhbfbpiljaa", sum := "a9089ed2ae9ffd1578f80b23ab5b50f2398408dc4a85b904a2fd469a592da13f", func := "seisin/seisinlaw21.LocksFull", spec := "locksFull", inPlace := ["internal/bytealg.Compare"], unfollowed := true, recurses := true, plainKeys := false, apart := false }
def LocksFullSaid : Prop := locksFullRow.holds Try.pinned (OpenSpec.ofChange locksFullSpec)

/-- ITS FALSE NEIGHBOUR: 'it returns false'. Refute it at one input. -/
def locksFullWrong : ChangeSpec := { name := "locksFull", fn := fun _ => fun
  | [d1, d2] => { results := [.lit (.bool false)], args := [d1, d2] }
  | _ => none }
def LocksFullWrongFalsely : Prop := locksFullRow.holds Try.pinned (OpenSpec.ofChange locksFullWrong)

/-- 'seisinlaw21.LocksOwn': WHATEVER THE INPUT: true; the input reads as it did. -/
def locksOwnSpec : ChangeSpec := { name := "locksOwn", fn := fun _ => fun
  | [d1, d2] => { results := [.lit (.bool true)], args := [d1, d2] }
  | _ => none }
def locksOwnRow : OpenClaim := { program := "ytolbbhbfbpiljaa", sum := "a9089ed2ae9ffd1578f80b23ab5b50f2398408dc4a85b904a2fd469a592da13f", func := "seisin/seisinlaw21.LocksOwn", spec := "locksOwn", inPlace := ["internal/bytealg.Compare"], unfollowed := true, recurses := true, plainKeys := false, apart := false }
def LocksOwnSaid : Prop := locksOwnRow.holds Try.pinned (OpenSpec.ofChange locksOwnSpec)

/-- ITS FALSE NEIGHBOUR: 'it returns false'. Refute it at one input. -/
def locksOwnWrong : ChangeSpec := { name := "locksOwn", fn := fun _ => fun
  | [d1, d2] => { results := [.lit (.bool false)], args := [d1, d2] }
  | _ => none }
def LocksOwnWrongFalsely : Prop := locksOwnRow.holds Try.pinned (OpenSpec.ofChange locksOwnWrong)

/-- 'seisinlaw19.CoinsPlay': WHATEVER THE INPUT: true; the input reads as it did. -/
def coinsPlaySpec : ChangeSpec := { name := "coinsPlay", fn := fun _ => fun
  | [d] => { results := [.lit (.bool true)], args := [d] }
  | _ => none }
def coinsPlayRow : OpenClaim := { program := "ytolbbhbfbpiljaa", sum := "a9089ed2ae9ffd1578f80b23ab5b50f2398408dc4a85b904a2fd469a592da13f", func := "seisin/seisinlaw19.CoinsPlay", spec := "coinsPlay", inPlace := ["internal/bytealg.Compare", "maps.clone"], unfollowed := true, recurses := true, plainKeys := false, apart := false }
def CoinsPlaySaid : Prop := coinsPlayRow.holds Try.pinned (OpenSpec.ofChange coinsPlaySpec)

/-- ITS FALSE NEIGHBOUR: 'it returns false'. Refute it at one input. -/
def coinsPlayWrong : ChangeSpec := { name := "coinsPlay", fn := fun _ => fun
  | [d] => { results := [.lit (.bool false)], args := [d] }
  | _ => none }
def CoinsPlayWrongFalsely : Prop := coinsPlayRow.holds Try.pinned (OpenSpec.ofChange coinsPlayWrong)

/-- 'seisinlaw21.LocksPlay': WHATEVER THE INPUT: true; the input reads as it did. -/
def locksPlaySpec : ChangeSpec := { name := "locksPlay", fn := fun _ => fun
  | [d] => { results := [.lit (.bool true)], args := [d] }
  | _ => none }
def locksPlayRow : OpenClaim := { program := "ytolbbhbfbpiljaa", sum := "a9089ed2ae9ffd1578f80b23ab5b50f2398408dc4a85b904a2fd469a592da13f", func := "seisin/seisinlaw21.LocksPlay", spec := "locksPlay", inPlace := ["internal/bytealg.Compare", "maps.clone"], unfollowed := true, recurses := true, plainKeys := false, apart := false }
def LocksPlaySaid : Prop := locksPlayRow.holds Try.pinned (OpenSpec.ofChange locksPlaySpec)

/-- ITS FALSE NEIGHBOUR: 'it returns false'. Refute it at one input. -/
def locksPlayWrong : ChangeSpec := { name := "locksPlay", fn := fun _ => fun
  | [d] => { results := [.lit (.bool false)], args := [d] }
  | _ => none }
def LocksPlayWrongFalsely : Prop := locksPlayRow.holds Try.pinned (OpenSpec.ofChange locksPlayWrong)

/-- 'seisinlaw20.MarksPlay': WHATEVER THE INPUT: true; the input reads as it did. -/
def marksPlaySpec : ChangeSpec := { name := "marksPlay", fn := fun _ => fun
  | [d] => { results := [.lit (.bool true)], args := [d] }
  | _ => none }
def marksPlayRow : OpenClaim := { program := "ytolbbhbfbpiljaa", sum := "a9089ed2ae9ffd1578f80b23ab5b50f2398408dc4a85b904a2fd469a592da13f", func := "seisin/seisinlaw20.MarksPlay", spec := "marksPlay", inPlace := ["internal/bytealg.Compare", "maps.clone"], unfollowed := true, recurses := true, plainKeys := false, apart := false }
def MarksPlaySaid : Prop := marksPlayRow.holds Try.pinned (OpenSpec.ofChange marksPlaySpec)

/-- ITS FALSE NEIGHBOUR: 'it returns false'. Refute it at one input. -/
def marksPlayWrong : ChangeSpec := { name := "marksPlay", fn := fun _ => fun
  | [d] => { results := [.lit (.bool false)], args := [d] }
  | _ => none }
def MarksPlayWrongFalsely : Prop := marksPlayRow.holds Try.pinned (OpenSpec.ofChange marksPlayWrong)

/- THE SECOND FORM. 'bulk': how many values and letters a reading holds, each counted each time it is reached (what is shared counts as often as it is met; a slice's spare places count too). A statement '..UptoSaid' is the law's where the arguments, and the package variables that the reading takes, are together of bulk at most 1048576: NARROWER than '..Said'. Prove '..Said' where nothing that the law and all that it calls make is longer than what came in: it says more and counts as full. Else prove '..UptoSaid'. A law counts once. -/
mutual
def uptoBulk {H : Type} : DataW H → Nat
  | .lit (.string bytes) => bytes.length + 1
  | .lit _ => 1
  | .nil => 1
  | .ptr d => uptoBulk d + 1
  | .slice elems spare => uptoBulkAll elems + uptoBulkAll spare + 1
  | .agg parts => uptoBulkAll parts + 1
  | .iface _ d => uptoBulk d + 1
  | .map entries => uptoBulkEntries entries + 1
  | .held _ => 1
def uptoBulkAll {H : Type} : List (DataW H) → Nat
  | [] => 0
  | d :: r => uptoBulk d + uptoBulkAll r
def uptoBulkEntries {H : Type} : List (Lit × DataW H) → Nat
  | [] => 0
  | x :: r => uptoBulkEntry x + uptoBulkEntries r
def uptoBulkEntry {H : Type} : Lit × DataW H → Nat
  | (.string bytes, d) => bytes.length + uptoBulk d + 1
  | (_, d) => uptoBulk d + 1
 end
def uptoSmall : (H : Type) → List (DataW H) → Bool := fun _ ds => decide (uptoBulkAll ds ≤ 1048576)
def OpenSpec.upto (s : _root_.Go.ChangeSpec) : _root_.Go.OpenSpec := { _root_.Go.OpenSpec.ofChange s with cond := some uptoSmall }

/-- 'seisinlaw20.MarksKept', WHERE WHAT IT READS IS OF BULK AT MOST 1048576: true; the input reads as it did. -/
def marksKeptUptoRow : OpenClaim := { program := "ytolbbhbfbpiljaa", sum := "a9089ed2ae9ffd1578f80b23ab5b50f2398408dc4a85b904a2fd469a592da13f", func := "seisin/seisinlaw20.MarksKept", spec := "marksKept", inPlace := ["internal/bytealg.Compare"], unfollowed := true, recurses := true, plainKeys := false, apart := false, narrowed := true }
def MarksKeptUptoSaid : Prop := marksKeptUptoRow.holds Try.pinned (OpenSpec.upto marksKeptSpec)

/-- 'seisinlaw20.MarksFull', WHERE WHAT IT READS IS OF BULK AT MOST 1048576: true; the input reads as it did. -/
def marksFullUptoRow : OpenClaim := { program := "ytolbbhbfbpiljaa", sum := "a9089ed2ae9ffd1578f80b23ab5b50f2398408dc4a85b904a2fd469a592da13f", func := "seisin/seisinlaw20.MarksFull", spec := "marksFull", inPlace := ["internal/bytealg.Compare"], unfollowed := true, recurses := true, plainKeys := false, apart := false, narrowed := true }
def MarksFullUptoSaid : Prop := marksFullUptoRow.holds Try.pinned (OpenSpec.upto marksFullSpec)

/-- 'seisinlaw21.LocksFull', WHERE WHAT IT READS IS OF BULK AT MOST 1048576: true; the input reads as it did. -/
def locksFullUptoRow : OpenClaim := { program := "ytolbbhbfbpiljaa", sum := "a9089ed2ae9ffd1578f80b23ab5b50f2398408dc4a85b904a2fd469a592da13f", func := "seisin/seisinlaw21.LocksFull", spec := "locksFull", inPlace := ["internal/bytealg.Compare"], unfollowed := true, recurses := true, plainKeys := false, apart := false, narrowed := true }
def LocksFullUptoSaid : Prop := locksFullUptoRow.holds Try.pinned (OpenSpec.upto locksFullSpec)

/-- 'seisinlaw21.LocksOwn', WHERE WHAT IT READS IS OF BULK AT MOST 1048576: true; the input reads as it did. -/
def locksOwnUptoRow : OpenClaim := { program := "ytolbbhbfbpiljaa", sum := "a9089ed2ae9ffd1578f80b23ab5b50f2398408dc4a85b904a2fd469a592da13f", func := "seisin/seisinlaw21.LocksOwn", spec := "locksOwn", inPlace := ["internal/bytealg.Compare"], unfollowed := true, recurses := true, plainKeys := false, apart := false, narrowed := true }
def LocksOwnUptoSaid : Prop := locksOwnUptoRow.holds Try.pinned (OpenSpec.upto locksOwnSpec)

/-- 'seisinlaw19.CoinsPlay', WHERE WHAT IT READS IS OF BULK AT MOST 1048576: true; the input reads as it did. -/
def coinsPlayUptoRow : OpenClaim := { program := "ytolbbhbfbpiljaa", sum := "a9089ed2ae9ffd1578f80b23ab5b50f2398408dc4a85b904a2fd469a592da13f", func := "seisin/seisinlaw19.CoinsPlay", spec := "coinsPlay", inPlace := ["internal/bytealg.Compare", "maps.clone"], unfollowed := true, recurses := true, plainKeys := false, apart := false, narrowed := true }
def CoinsPlayUptoSaid : Prop := coinsPlayUptoRow.holds Try.pinned (OpenSpec.upto coinsPlaySpec)

/-- 'seisinlaw21.LocksPlay', WHERE WHAT IT READS IS OF BULK AT MOST 1048576: true; the input reads as it did. -/
def locksPlayUptoRow : OpenClaim := { program := "ytolbbhbfbpiljaa", sum := "a9089ed2ae9ffd1578f80b23ab5b50f2398408dc4a85b904a2fd469a592da13f", func := "seisin/seisinlaw21.LocksPlay", spec := "locksPlay", inPlace := ["internal/bytealg.Compare", "maps.clone"], unfollowed := true, recurses := true, plainKeys := false, apart := false, narrowed := true }
def LocksPlayUptoSaid : Prop := locksPlayUptoRow.holds Try.pinned (OpenSpec.upto locksPlaySpec)

/-- 'seisinlaw20.MarksPlay', WHERE WHAT IT READS IS OF BULK AT MOST 1048576: true; the input reads as it did. -/
def marksPlayUptoRow : OpenClaim := { program := "ytolbbhbfbpiljaa", sum := "a9089ed2ae9ffd1578f80b23ab5b50f2398408dc4a85b904a2fd469a592da13f", func := "seisin/seisinlaw20.MarksPlay", spec := "marksPlay", inPlace := ["internal/bytealg.Compare", "maps.clone"], unfollowed := true, recurses := true, plainKeys := false, apart := false, narrowed := true }
def MarksPlayUptoSaid : Prop := marksPlayUptoRow.holds Try.pinned (OpenSpec.upto marksPlaySpec)

end Rows
end Go.Proofs.Ytolbbhbfbpiljaa
