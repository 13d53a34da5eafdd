/-
  No cell of these rows narrows 'for every input' (looked for: loops, veiled, ifaces, maps, wideKeys, modest, calm, conditions, laid).
  DERIVED. THE GIVEN ROWS OF THIS SEAT. 7 by the template 'for every input the law returns true; each argument reads behind the call as it read before'; 0 by the template 'total and deterministic' (their statements: YtcbanjbibankgaaTotals.lean).
  GIVEN WITH THE SEED: the statements are not yours to turn. If you find one false, say at which input.
  Laid BY PROGRAM, IN A SANDBOX (cutbox-rows.mjs): the forced cells as the released guide's own fill.sh prints them over the translation dccbe41efc73b281… (all of the seat's roots in one cut). By AI agents, Wed Nov 11 2026. No macro, syntax, notation, axiom, sorry.
-/
import Derived.Test.YtcbanjbibankgaaChecked
import GoSem.Claim
import GoSem.ClaimJoined
import GoSem.ClaimMapViews
import Derived.JoinedTies
import Derived.KernelRfl
namespace Go.Proofs.Ytcbanjbibankgaa
/- THE CELL 'sum', in the pinned program and in every row, IS THE sha256 OF THE DUMP (.gsa) THAT YtcbanjbibankgaaProg.lean LOADS. Nothing in Lean hashes anything: it is a label: what it is worth is what the hold of that sum in a sandbox is worth. -/
noncomputable def Try.pinned : Pinned := { name := "ytcbanjbibankgaa", sum := "dccbe41efc73b281890da894db8c2b7ebd21e6dacf9f64da3e8240fed5657d99", checked := Try.checked }
namespace Rows
def none {H : Type} : Left H := { results := [], args := [] }

/-- 'seisinlaw20.MarksOld': WHATEVER THE INPUT: true; the input reads as it did. -/
def marksOldSpec : ChangeSpec := { name := "marksOld", fn := fun _ => fun
  | [d1, d2, d3] => { results := [.lit (.bool true)], args := [d1, d2, d3] }
  | _ => none }
def marksOldRow : OpenClaim := { program := "ytcbanjbibankgaa", sum := "dccbe41efc73b281890da894db8c2b7ebd21e6dacf9f64da3e8240fed5657d99", func := "seisin/seisinlaw20.MarksOld", spec := "marksOld", plainKeys := false, apart := false }
def MarksOldSaid : Prop := marksOldRow.holds Try.pinned (OpenSpec.ofChange marksOldSpec)

/-- ITS FALSE NEIGHBOUR: 'it returns false'. Refute it at one input. -/
def marksOldWrong : ChangeSpec := { name := "marksOld", fn := fun _ => fun
  | [d1, d2, d3] => { results := [.lit (.bool false)], args := [d1, d2, d3] }
  | _ => none }
def MarksOldWrongFalsely : Prop := marksOldRow.holds Try.pinned (OpenSpec.ofChange marksOldWrong)

/-- 'seisinlaw01.RateOrders': WHATEVER THE INPUT: true; the input reads as it did. -/
def rateOrdersSpec : ChangeSpec := { name := "rateOrders", fn := fun _ => fun
  | [d1, d2] => { results := [.lit (.bool true)], args := [d1, d2] }
  | _ => none }
def rateOrdersRow : OpenClaim := { program := "ytcbanjbibankgaa", sum := "dccbe41efc73b281890da894db8c2b7ebd21e6dacf9f64da3e8240fed5657d99", func := "seisin/seisinlaw01.RateOrders", spec := "rateOrders", inPlace := ["math.Float64bits", "math.Float64frombits"], plainKeys := false, apart := false }
def RateOrdersSaid : Prop := rateOrdersRow.holds Try.pinned (OpenSpec.ofChange rateOrdersSpec)

/-- ITS FALSE NEIGHBOUR: 'it returns false'. Refute it at one input. -/
def rateOrdersWrong : ChangeSpec := { name := "rateOrders", fn := fun _ => fun
  | [d1, d2] => { results := [.lit (.bool false)], args := [d1, d2] }
  | _ => none }
def RateOrdersWrongFalsely : Prop := rateOrdersRow.holds Try.pinned (OpenSpec.ofChange rateOrdersWrong)

/-- 'seisinlaw01.RateThree': WHATEVER THE INPUT: true; the input reads as it did. -/
def rateThreeSpec : ChangeSpec := { name := "rateThree", fn := fun _ => fun
  | [d1, d2, d3] => { results := [.lit (.bool true)], args := [d1, d2, d3] }
  | _ => none }
def rateThreeRow : OpenClaim := { program := "ytcbanjbibankgaa", sum := "dccbe41efc73b281890da894db8c2b7ebd21e6dacf9f64da3e8240fed5657d99", func := "seisin/seisinlaw01.RateThree", spec := "rateThree", inPlace := ["math.Float64bits", "math.Float64frombits"], plainKeys := false, apart := false }
def RateThreeSaid : Prop := rateThreeRow.holds Try.pinned (OpenSpec.ofChange rateThreeSpec)

/-- ITS FALSE NEIGHBOUR: 'it returns false'. Refute it at one input. -/
def rateThreeWrong : ChangeSpec := { name := "rateThree", fn := fun _ => fun
  | [d1, d2, d3] => { results := [.lit (.bool false)], args := [d1, d2, d3] }
  | _ => none }
def RateThreeWrongFalsely : Prop := rateThreeRow.holds Try.pinned (OpenSpec.ofChange rateThreeWrong)

/-- 'seisinlaw01.RateGrows': WHATEVER THE INPUT: true; the input reads as it did. -/
def rateGrowsSpec : ChangeSpec := { name := "rateGrows", fn := fun _ => fun
  | [d1, d2, d3, d4] => { results := [.lit (.bool true)], args := [d1, d2, d3, d4] }
  | _ => none }
def rateGrowsRow : OpenClaim := { program := "ytcbanjbibankgaa", sum := "dccbe41efc73b281890da894db8c2b7ebd21e6dacf9f64da3e8240fed5657d99", func := "seisin/seisinlaw01.RateGrows", spec := "rateGrows", inPlace := ["math.Float64frombits", "math.Float64bits"], plainKeys := false, apart := false }
def RateGrowsSaid : Prop := rateGrowsRow.holds Try.pinned (OpenSpec.ofChange rateGrowsSpec)

/-- ITS FALSE NEIGHBOUR: 'it returns false'. Refute it at one input. -/
def rateGrowsWrong : ChangeSpec := { name := "rateGrows", fn := fun _ => fun
  | [d1, d2, d3, d4] => { results := [.lit (.bool false)], args := [d1, d2, d3, d4] }
  | _ => none }
def RateGrowsWrongFalsely : Prop := rateGrowsRow.holds Try.pinned (OpenSpec.ofChange rateGrowsWrong)

/-- 'seisinlaw19.CoinsOrder': WHATEVER THE INPUT: true; the input reads as it did. -/
def coinsOrderSpec : ChangeSpec := { name := "coinsOrder", fn := fun _ => fun
  | [d1, d2, d3] => { results := [.lit (.bool true)], args := [d1, d2, d3] }
  | _ => none }
def coinsOrderRow : OpenClaim := { program := "ytcbanjbibankgaa", sum := "dccbe41efc73b281890da894db8c2b7ebd21e6dacf9f64da3e8240fed5657d99", func := "seisin/seisinlaw19.CoinsOrder", spec := "coinsOrder", inPlace := ["internal/bytealg.Compare"], plainKeys := false, apart := false }
def CoinsOrderSaid : Prop := coinsOrderRow.holds Try.pinned (OpenSpec.ofChange coinsOrderSpec)

/-- ITS FALSE NEIGHBOUR: 'it returns false'. Refute it at one input. -/
def coinsOrderWrong : ChangeSpec := { name := "coinsOrder", fn := fun _ => fun
  | [d1, d2, d3] => { results := [.lit (.bool false)], args := [d1, d2, d3] }
  | _ => none }
def CoinsOrderWrongFalsely : Prop := coinsOrderRow.holds Try.pinned (OpenSpec.ofChange coinsOrderWrong)

/-- 'seisinlaw19.CoinsFull': WHATEVER THE INPUT: true; the input reads as it did. -/
def coinsFullSpec : ChangeSpec := { name := "coinsFull", fn := fun _ => fun
  | [d1, d2] => { results := [.lit (.bool true)], args := [d1, d2] }
  | _ => none }
def coinsFullRow : OpenClaim := { program := "ytcbanjbibankgaa", sum := "dccbe41efc73b281890da894db8c2b7ebd21e6dacf9f64da3e8240fed5657d99", func := "seisin/seisinlaw19.CoinsFull", spec := "coinsFull", inPlace := ["internal/bytealg.Compare"], plainKeys := false, apart := false }
def CoinsFullSaid : Prop := coinsFullRow.holds Try.pinned (OpenSpec.ofChange coinsFullSpec)

/-- ITS FALSE NEIGHBOUR: 'it returns false'. Refute it at one input. -/
def coinsFullWrong : ChangeSpec := { name := "coinsFull", fn := fun _ => fun
  | [d1, d2] => { results := [.lit (.bool false)], args := [d1, d2] }
  | _ => none }
def CoinsFullWrongFalsely : Prop := coinsFullRow.holds Try.pinned (OpenSpec.ofChange coinsFullWrong)

/-- 'seisinlaw01.RateOf': WHATEVER THE INPUT: true; the input reads as it did. -/
def rateOfSpec : ChangeSpec := { name := "rateOf", fn := fun _ => fun
  | [d1, d2, d3] => { results := [.lit (.bool true)], args := [d1, d2, d3] }
  | _ => none }
def rateOfRow : OpenClaim := { program := "ytcbanjbibankgaa", sum := "dccbe41efc73b281890da894db8c2b7ebd21e6dacf9f64da3e8240fed5657d99", func := "seisin/seisinlaw01.RateOf", spec := "rateOf", inPlace := ["math.Float64frombits", "math.Float64bits"], plainKeys := false, apart := false }
def RateOfSaid : Prop := rateOfRow.holds Try.pinned (OpenSpec.ofChange rateOfSpec)

/-- ITS FALSE NEIGHBOUR: 'it returns false'. Refute it at one input. -/
def rateOfWrong : ChangeSpec := { name := "rateOf", fn := fun _ => fun
  | [d1, d2, d3] => { results := [.lit (.bool false)], args := [d1, d2, d3] }
  | _ => none }
def RateOfWrongFalsely : Prop := rateOfRow.holds Try.pinned (OpenSpec.ofChange rateOfWrong)

/- THE SECOND FORM. 'bulk': how many values and letters a reading holds, each counted each time it is reached (what is shared counts as often as it is met; a slice's spare places count too). A statement '..UptoSaid' is the law's where the arguments, and the package variables that the reading takes, are together of bulk at most 1048576: NARROWER than '..Said'. Prove '..Said' where nothing that the law and all that it calls make is longer than what came in: it says more and counts as full. Else prove '..UptoSaid'. A law counts once. -/
mutual
def uptoBulk {H : Type} : DataW H → Nat
  | .lit (.string bytes) => bytes.length + 1
  | .lit _ => 1
  | .nil => 1
  | .ptr d => uptoBulk d + 1
  | .slice elems spare => uptoBulkAll elems + uptoBulkAll spare + 1
  | .agg parts => uptoBulkAll parts + 1
  | .iface _ d => uptoBulk d + 1
  | .map entries => uptoBulkEntries entries + 1
  | .held _ => 1
def uptoBulkAll {H : Type} : List (DataW H) → Nat
  | [] => 0
  | d :: r => uptoBulk d + uptoBulkAll r
def uptoBulkEntries {H : Type} : List (Lit × DataW H) → Nat
  | [] => 0
  | x :: r => uptoBulkEntry x + uptoBulkEntries r
def uptoBulkEntry {H : Type} : Lit × DataW H → Nat
  | (.string bytes, d) => bytes.length + uptoBulk d + 1
  | (_, d) => uptoBulk d + 1
 end
def uptoSmall : (H : Type) → List (DataW H) → Bool := fun _ ds => decide (uptoBulkAll ds ≤ 1048576)
def OpenSpec.upto (s : _root_.Go.ChangeSpec) : _root_.Go.OpenSpec := { _root_.Go.OpenSpec.ofChange s with cond := some uptoSmall }

/-- 'seisinlaw20.MarksOld', WHERE WHAT IT READS IS OF BULK AT MOST 1048576: true; the input reads as it did. -/
def marksOldUptoRow : OpenClaim := { program := "ytcbanjbibankgaa", sum := "dccbe41efc73b281890da894db8c2b7ebd21e6dacf9f64da3e8240fed5657d99", func := "seisin/seisinlaw20.MarksOld", spec := "marksOld", plainKeys := false, apart := false, narrowed := true }
def MarksOldUptoSaid : Prop := marksOldUptoRow.holds Try.pinned (OpenSpec.upto marksOldSpec)

/-- 'seisinlaw01.RateOrders', WHERE WHAT IT READS IS OF BULK AT MOST 1048576: true; the input reads as it did. -/
def rateOrdersUptoRow : OpenClaim := { program := "ytcbanjbibankgaa", sum := "dccbe41efc73b281890da894db8c2b7ebd21e6dacf9f64da3e8240fed5657d99", func := "seisin/seisinlaw01.RateOrders", spec := "rateOrders", inPlace := ["math.Float64bits", "math.Float64frombits"], plainKeys := false, apart := false, narrowed := true }
def RateOrdersUptoSaid : Prop := rateOrdersUptoRow.holds Try.pinned (OpenSpec.upto rateOrdersSpec)

/-- 'seisinlaw01.RateThree', WHERE WHAT IT READS IS OF BULK AT MOST 1048576: true; the input reads as it did. -/
def rateThreeUptoRow : OpenClaim := { program := "ytcbanjbibankgaa", sum := "dccbe41efc73b281890da894db8c2b7ebd21e6dacf9f64da3e8240fed5657d99", func := "seisin/seisinlaw01.RateThree", spec := "rateThree", inPlace := ["math.Float64bits", "math.Float64frombits"], plainKeys := false, apart := false, narrowed := true }
def RateThreeUptoSaid : Prop := rateThreeUptoRow.holds Try.pinned (OpenSpec.upto rateThreeSpec)

/-- 'seisinlaw01.RateGrows', WHERE WHAT IT READS IS OF BULK AT MOST 1048576: true; the input reads as it did. -/
def rateGrowsUptoRow : OpenClaim := { program := "ytcbanjbibankgaa", sum := "dccbe41efc73b281890da894db8c2b7ebd21e6dacf9f64da3e8240fed5657d99", func := "seisin/seisinlaw01.RateGrows", spec := "rateGrows", inPlace := ["math.Float64frombits", "math.Float64bits"], plainKeys := false, apart := false, narrowed := true }
def RateGrowsUptoSaid : Prop := rateGrowsUptoRow.holds Try.pinned (OpenSpec.upto rateGrowsSpec)

/-- 'seisinlaw19.CoinsOrder', WHERE WHAT IT READS IS OF BULK AT MOST 1048576: true; the input reads as it did. -/
def coinsOrderUptoRow : OpenClaim := { program := "ytcbanjbibankgaa", sum := "dccbe41efc73b281890da894db8c2b7ebd21e6dacf9f64da3e8240fed5657d99", func := "seisin/seisinlaw19.CoinsOrder", spec := "coinsOrder", inPlace := ["internal/bytealg.Compare"], plainKeys := false, apart := false, narrowed := true }
def CoinsOrderUptoSaid : Prop := coinsOrderUptoRow.holds Try.pinned (OpenSpec.upto coinsOrderSpec)

/-- 'seisinlaw19.CoinsFull', WHERE WHAT IT READS IS OF BULK AT MOST 1048576: true; the input reads as it did. -/
def coinsFullUptoRow : OpenClaim := { program := "ytcbanjbibankgaa", sum := "dccbe41efc73b281890da894db8c2b7ebd21e6dacf9f64da3e8240fed5657d99", func := "seisin/seisinlaw19.CoinsFull", spec := "coinsFull", inPlace := ["internal/bytealg.Compare"], plainKeys := false, apart := false, narrowed := true }
def CoinsFullUptoSaid : Prop := coinsFullUptoRow.holds Try.pinned (OpenSpec.upto coinsFullSpec)

/-- 'seisinlaw01.RateOf', WHERE WHAT IT READS IS OF BULK AT MOST 1048576: true; the input reads as it did. -/
def rateOfUptoRow : OpenClaim := { program := "ytcbanjbibankgaa", sum := "dccbe41efc73b281890da894db8c2b7ebd21e6dacf9f64da3e8240fed5657d99", func := "seisin/seisinlaw01.RateOf", spec := "rateOf", inPlace := ["math.Float64frombits", "math.Float64bits"], plainKeys := false, apart := false, narrowed := true }
def RateOfUptoSaid : Prop := rateOfUptoRow.holds Try.pinned (OpenSpec.upto rateOfSpec)

end Rows
end Go.Proofs.Ytcbanjbibankgaa
