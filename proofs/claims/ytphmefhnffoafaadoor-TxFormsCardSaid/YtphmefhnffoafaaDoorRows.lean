/-
  NARROWER THAN 'FOR EVERY INPUT', by the rows' own cells (each row's printed sentence says how): HeaderNext: laid · HeaderFollows: laid · HeaderRow: laid · TxOwners: laid · TxSame: laid · HeaderForms: laid · HeaderReads: laid · TxForms: laid · CertMakes: laid · CertTells: laid · CertSame: laid · CertForms: laid.
  DERIVED. THE GIVEN ROWS OF THIS SEAT. 12 by the template 'for every input the law returns true; each argument reads behind the call as it read before'; 0 by the template 'total and deterministic' (their statements: YtphmefhnffoafaaDoorTotals.lean).
  GIVEN WITH THE SEED: the statements are not yours to turn. If you find one false, say at which input.
  Laid BY PROGRAM, IN A SANDBOX (cutbox-rows.mjs): the forced cells as the released guide's own fill.sh prints them over the translation 1977e7b942ccdc28… (all of the seat's roots in one cut). By AI agents, Wed Nov 11 2026. No macro, syntax, notation, axiom, sorry.
-/
import Derived.Test.YtphmefhnffoafaaDoorChecked
import GoSem.Claim
import GoSem.ClaimJoined
import GoSem.ClaimMapViews
import Derived.JoinedTies
import Derived.KernelRfl
namespace Go.Proofs.YtphmefhnffoafaaDoor
/- THE CELL 'sum', in the pinned program and in every row, IS THE sha256 OF THE DUMP (.gsa) THAT YtphmefhnffoafaaDoorProg.lean LOADS. Nothing in Lean hashes anything: it is a label: what it is worth is what the hold of that sum in a sandbox is worth. -/
noncomputable def Tryd.pinned : Pinned := { name := "ytphmefhnffoafaadoor", sum := "1977e7b942ccdc284c1116027f0d2c2eac82ed627c7c60b13925b8421bb08ff4", checked := Tryd.checked }
namespace Rows
def none {H : Type} : Left H := { results := [], args := [] }

/- WHAT THE LISTED PACKAGE-LEVEL VARIABLES READ AS WHEN THE CALL BEGINS. Each datum BY PROGRAM (the guide's laid-datum.mjs) off the statement by which the dump's own 'gosem.cut.vars' lays the variable. In a bare row this is a premise. The card (YtphmefhnffoafaaDoorCards.lean) ties it to the program's text. -/
def laid_seisin_sha_first {H : Type} : DataW H := .agg [.lit (.int .u32 1779033703), .lit (.int .u32 3144134277), .lit (.int .u32 1013904242), .lit (.int .u32 2773480762), .lit (.int .u32 1359893119), .lit (.int .u32 2600822924), .lit (.int .u32 528734635), .lit (.int .u32 1541459225)]
def laid_seisin_sha_rounds {H : Type} : DataW H := .agg [.lit (.int .u32 1116352408), .lit (.int .u32 1899447441), .lit (.int .u32 3049323471), .lit (.int .u32 3921009573), .lit (.int .u32 961987163), .lit (.int .u32 1508970993), .lit (.int .u32 2453635748), .lit (.int .u32 2870763221), .lit (.int .u32 3624381080), .lit (.int .u32 310598401), .lit (.int .u32 607225278), .lit (.int .u32 1426881987), .lit (.int .u32 1925078388), .lit (.int .u32 2162078206), .lit (.int .u32 2614888103), .lit (.int .u32 3248222580), .lit (.int .u32 3835390401), .lit (.int .u32 4022224774), .lit (.int .u32 264347078), .lit (.int .u32 604807628), .lit (.int .u32 770255983), .lit (.int .u32 1249150122), .lit (.int .u32 1555081692), .lit (.int .u32 1996064986), .lit (.int .u32 2554220882), .lit (.int .u32 2821834349), .lit (.int .u32 2952996808), .lit (.int .u32 3210313671), .lit (.int .u32 3336571891), .lit (.int .u32 3584528711), .lit (.int .u32 113926993), .lit (.int .u32 338241895), .lit (.int .u32 666307205), .lit (.int .u32 773529912), .lit (.int .u32 1294757372), .lit (.int .u32 1396182291), .lit (.int .u32 1695183700), .lit (.int .u32 1986661051), .lit (.int .u32 2177026350), .lit (.int .u32 2456956037), .lit (.int .u32 2730485921), .lit (.int .u32 2820302411), .lit (.int .u32 3259730800), .lit (.int .u32 3345764771), .lit (.int .u32 3516065817), .lit (.int .u32 3600352804), .lit (.int .u32 4094571909), .lit (.int .u32 275423344), .lit (.int .u32 430227734), .lit (.int .u32 506948616), .lit (.int .u32 659060556), .lit (.int .u32 883997877), .lit (.int .u32 958139571), .lit (.int .u32 1322822218), .lit (.int .u32 1537002063), .lit (.int .u32 1747873779), .lit (.int .u32 1955562222), .lit (.int .u32 2024104815), .lit (.int .u32 2227730452), .lit (.int .u32 2361852424), .lit (.int .u32 2428436474), .lit (.int .u32 2756734187), .lit (.int .u32 3204031479), .lit (.int .u32 3329325298)]

/-- 'seisinlaw10.HeaderNext': WHATEVER THE INPUT: true; the input reads as it did. -/
def headerNextSpec : ChangeSpec := { name := "headerNext", fn := fun _ => fun
  | [d1, d2, d3, d4, d5, d6, d7] => { results := [.lit (.bool true)], args := [d1, d2, d3, d4, d5, d6, d7] }
  | _ => none }
def headerNextRow : OpenClaim := { program := "ytphmefhnffoafaadoor", sum := "1977e7b942ccdc284c1116027f0d2c2eac82ed627c7c60b13925b8421bb08ff4", func := "seisin/seisinlaw10.HeaderNext", spec := "headerNext", unfollowed := true, recurses := true, named := ["seisin/sha.first", "seisin/sha.rounds"], plainKeys := false, apart := false, laid := [("seisin/sha.first", laid_seisin_sha_first), ("seisin/sha.rounds", laid_seisin_sha_rounds)] }
def HeaderNextSaid : Prop := headerNextRow.holds Tryd.pinned (OpenSpec.ofChange headerNextSpec)

/-- ITS FALSE NEIGHBOUR: 'it returns false'. Refute it at one input. -/
def headerNextWrong : ChangeSpec := { name := "headerNext", fn := fun _ => fun
  | [d1, d2, d3, d4, d5, d6, d7] => { results := [.lit (.bool false)], args := [d1, d2, d3, d4, d5, d6, d7] }
  | _ => none }
def HeaderNextWrongFalsely : Prop := headerNextRow.holds Tryd.pinned (OpenSpec.ofChange headerNextWrong)

/-- 'seisinlaw10.HeaderFollows': WHATEVER THE INPUT: true; the input reads as it did. -/
def headerFollowsSpec : ChangeSpec := { name := "headerFollows", fn := fun _ => fun
  | [d1, d2, d3] => { results := [.lit (.bool true)], args := [d1, d2, d3] }
  | _ => none }
def headerFollowsRow : OpenClaim := { program := "ytphmefhnffoafaadoor", sum := "1977e7b942ccdc284c1116027f0d2c2eac82ed627c7c60b13925b8421bb08ff4", func := "seisin/seisinlaw10.HeaderFollows", spec := "headerFollows", unfollowed := true, recurses := true, named := ["seisin/sha.first", "seisin/sha.rounds"], plainKeys := false, apart := false, laid := [("seisin/sha.first", laid_seisin_sha_first), ("seisin/sha.rounds", laid_seisin_sha_rounds)] }
def HeaderFollowsSaid : Prop := headerFollowsRow.holds Tryd.pinned (OpenSpec.ofChange headerFollowsSpec)

/-- ITS FALSE NEIGHBOUR: 'it returns false'. Refute it at one input. -/
def headerFollowsWrong : ChangeSpec := { name := "headerFollows", fn := fun _ => fun
  | [d1, d2, d3] => { results := [.lit (.bool false)], args := [d1, d2, d3] }
  | _ => none }
def HeaderFollowsWrongFalsely : Prop := headerFollowsRow.holds Tryd.pinned (OpenSpec.ofChange headerFollowsWrong)

/-- 'seisinlaw10.HeaderRow': WHATEVER THE INPUT: true; the input reads as it did. -/
def headerRowSpec : ChangeSpec := { name := "headerRow", fn := fun _ => fun
  | [d1, d2] => { results := [.lit (.bool true)], args := [d1, d2] }
  | _ => none }
def headerRowRow : OpenClaim := { program := "ytphmefhnffoafaadoor", sum := "1977e7b942ccdc284c1116027f0d2c2eac82ed627c7c60b13925b8421bb08ff4", func := "seisin/seisinlaw10.HeaderRow", spec := "headerRow", unfollowed := true, recurses := true, named := ["seisin/sha.first", "seisin/sha.rounds"], plainKeys := false, apart := false, laid := [("seisin/sha.first", laid_seisin_sha_first), ("seisin/sha.rounds", laid_seisin_sha_rounds)] }
def HeaderRowSaid : Prop := headerRowRow.holds Tryd.pinned (OpenSpec.ofChange headerRowSpec)

/-- ITS FALSE NEIGHBOUR: 'it returns false'. Refute it at one input. -/
def headerRowWrong : ChangeSpec := { name := "headerRow", fn := fun _ => fun
  | [d1, d2] => { results := [.lit (.bool false)], args := [d1, d2] }
  | _ => none }
def HeaderRowWrongFalsely : Prop := headerRowRow.holds Tryd.pinned (OpenSpec.ofChange headerRowWrong)

/-- 'seisinlaw07.TxOwners': WHATEVER THE INPUT: true; the input reads as it did. -/
def txOwnersSpec : ChangeSpec := { name := "txOwners", fn := fun _ => fun
  | [d1, d2] => { results := [.lit (.bool true)], args := [d1, d2] }
  | _ => none }
def txOwnersRow : OpenClaim := { program := "ytphmefhnffoafaadoor", sum := "1977e7b942ccdc284c1116027f0d2c2eac82ed627c7c60b13925b8421bb08ff4", func := "seisin/seisinlaw07.TxOwners", spec := "txOwners", unfollowed := true, recurses := true, named := ["seisin/sha.first", "seisin/sha.rounds"], plainKeys := false, apart := false, laid := [("seisin/sha.first", laid_seisin_sha_first), ("seisin/sha.rounds", laid_seisin_sha_rounds)] }
def TxOwnersSaid : Prop := txOwnersRow.holds Tryd.pinned (OpenSpec.ofChange txOwnersSpec)

/-- ITS FALSE NEIGHBOUR: 'it returns false'. Refute it at one input. -/
def txOwnersWrong : ChangeSpec := { name := "txOwners", fn := fun _ => fun
  | [d1, d2] => { results := [.lit (.bool false)], args := [d1, d2] }
  | _ => none }
def TxOwnersWrongFalsely : Prop := txOwnersRow.holds Tryd.pinned (OpenSpec.ofChange txOwnersWrong)

/-- 'seisinlaw07.TxSame': WHATEVER THE INPUT: true; the input reads as it did. -/
def txSameSpec : ChangeSpec := { name := "txSame", fn := fun _ => fun
  | [d1, d2] => { results := [.lit (.bool true)], args := [d1, d2] }
  | _ => none }
def txSameRow : OpenClaim := { program := "ytphmefhnffoafaadoor", sum := "1977e7b942ccdc284c1116027f0d2c2eac82ed627c7c60b13925b8421bb08ff4", func := "seisin/seisinlaw07.TxSame", spec := "txSame", unfollowed := true, recurses := true, named := ["seisin/sha.first", "seisin/sha.rounds"], plainKeys := false, apart := false, laid := [("seisin/sha.first", laid_seisin_sha_first), ("seisin/sha.rounds", laid_seisin_sha_rounds)] }
def TxSameSaid : Prop := txSameRow.holds Tryd.pinned (OpenSpec.ofChange txSameSpec)

/-- ITS FALSE NEIGHBOUR: 'it returns false'. Refute it at one input. -/
def txSameWrong : ChangeSpec := { name := "txSame", fn := fun _ => fun
  | [d1, d2] => { results := [.lit (.bool false)], args := [d1, d2] }
  | _ => none }
def TxSameWrongFalsely : Prop := txSameRow.holds Tryd.pinned (OpenSpec.ofChange txSameWrong)

/-- 'seisinlaw10.HeaderForms': WHATEVER THE INPUT: true; the input reads as it did. -/
def headerFormsSpec : ChangeSpec := { name := "headerForms", fn := fun _ => fun
  | [d] => { results := [.lit (.bool true)], args := [d] }
  | _ => none }
def headerFormsRow : OpenClaim := { program := "ytphmefhnffoafaadoor", sum := "1977e7b942ccdc284c1116027f0d2c2eac82ed627c7c60b13925b8421bb08ff4", func := "seisin/seisinlaw10.HeaderForms", spec := "headerForms", unfollowed := true, recurses := true, named := ["seisin/sha.first", "seisin/sha.rounds"], plainKeys := false, apart := false, laid := [("seisin/sha.first", laid_seisin_sha_first), ("seisin/sha.rounds", laid_seisin_sha_rounds)] }
def HeaderFormsSaid : Prop := headerFormsRow.holds Tryd.pinned (OpenSpec.ofChange headerFormsSpec)

/-- ITS FALSE NEIGHBOUR: 'it returns false'. Refute it at one input. -/
def headerFormsWrong : ChangeSpec := { name := "headerForms", fn := fun _ => fun
  | [d] => { results := [.lit (.bool false)], args := [d] }
  | _ => none }
def HeaderFormsWrongFalsely : Prop := headerFormsRow.holds Tryd.pinned (OpenSpec.ofChange headerFormsWrong)

/-- 'seisinlaw10.HeaderReads': WHATEVER THE INPUT: true; the input reads as it did. -/
def headerReadsSpec : ChangeSpec := { name := "headerReads", fn := fun _ => fun
  | [d] => { results := [.lit (.bool true)], args := [d] }
  | _ => none }
def headerReadsRow : OpenClaim := { program := "ytphmefhnffoafaadoor", sum := "1977e7b942ccdc284c1116027f0d2c2eac82ed627c7c60b13925b8421bb08ff4", func := "seisin/seisinlaw10.HeaderReads", spec := "headerReads", unfollowed := true, recurses := true, named := ["seisin/sha.first", "seisin/sha.rounds"], plainKeys := false, apart := false, laid := [("seisin/sha.first", laid_seisin_sha_first), ("seisin/sha.rounds", laid_seisin_sha_rounds)] }
def HeaderReadsSaid : Prop := headerReadsRow.holds Tryd.pinned (OpenSpec.ofChange headerReadsSpec)

/-- ITS FALSE NEIGHBOUR: 'it returns false'. Refute it at one input. -/
def headerReadsWrong : ChangeSpec := { name := "headerReads", fn := fun _ => fun
  | [d] => { results := [.lit (.bool false)], args := [d] }
  | _ => none }
def HeaderReadsWrongFalsely : Prop := headerReadsRow.holds Tryd.pinned (OpenSpec.ofChange headerReadsWrong)

/-- 'seisinlaw07.TxForms': WHATEVER THE INPUT: true; the input reads as it did. -/
def txFormsSpec : ChangeSpec := { name := "txForms", fn := fun _ => fun
  | [d] => { results := [.lit (.bool true)], args := [d] }
  | _ => none }
def txFormsRow : OpenClaim := { program := "ytphmefhnffoafaadoor", sum := "1977e7b942ccdc284c1116027f0d2c2eac82ed627c7c60b13925b8421bb08ff4", func := "seisin/seisinlaw07.TxForms", spec := "txForms", unfollowed := true, recurses := true, named := ["seisin/sha.first", "seisin/sha.rounds"], plainKeys := false, apart := false, laid := [("seisin/sha.first", laid_seisin_sha_first), ("seisin/sha.rounds", laid_seisin_sha_rounds)] }
def TxFormsSaid : Prop := txFormsRow.holds Tryd.pinned (OpenSpec.ofChange txFormsSpec)

/-- ITS FALSE NEIGHBOUR: 'it returns false'. Refute it at one input. -/
def txFormsWrong : ChangeSpec := { name := "txForms", fn := fun _ => fun
  | [d] => { results := [.lit (.bool false)], args := [d] }
  | _ => none }
def TxFormsWrongFalsely : Prop := txFormsRow.holds Tryd.pinned (OpenSpec.ofChange txFormsWrong)

/-- 'seisinlaw11.CertMakes': WHATEVER THE INPUT: true; the input reads as it did. -/
def certMakesSpec : ChangeSpec := { name := "certMakes", fn := fun _ => fun
  | [d1, d2, d3, d4, d5, d6] => { results := [.lit (.bool true)], args := [d1, d2, d3, d4, d5, d6] }
  | _ => none }
def certMakesRow : OpenClaim := { program := "ytphmefhnffoafaadoor", sum := "1977e7b942ccdc284c1116027f0d2c2eac82ed627c7c60b13925b8421bb08ff4", func := "seisin/seisinlaw11.CertMakes", spec := "certMakes", unfollowed := true, recurses := true, named := ["seisin/sha.first", "seisin/sha.rounds"], plainKeys := false, apart := false, laid := [("seisin/sha.first", laid_seisin_sha_first), ("seisin/sha.rounds", laid_seisin_sha_rounds)] }
def CertMakesSaid : Prop := certMakesRow.holds Tryd.pinned (OpenSpec.ofChange certMakesSpec)

/-- ITS FALSE NEIGHBOUR: 'it returns false'. Refute it at one input. -/
def certMakesWrong : ChangeSpec := { name := "certMakes", fn := fun _ => fun
  | [d1, d2, d3, d4, d5, d6] => { results := [.lit (.bool false)], args := [d1, d2, d3, d4, d5, d6] }
  | _ => none }
def CertMakesWrongFalsely : Prop := certMakesRow.holds Tryd.pinned (OpenSpec.ofChange certMakesWrong)

/-- 'seisinlaw11.CertTells': WHATEVER THE INPUT: true; the input reads as it did. -/
def certTellsSpec : ChangeSpec := { name := "certTells", fn := fun _ => fun
  | [d1, d2, d3, d4, d5, d6] => { results := [.lit (.bool true)], args := [d1, d2, d3, d4, d5, d6] }
  | _ => none }
def certTellsRow : OpenClaim := { program := "ytphmefhnffoafaadoor", sum := "1977e7b942ccdc284c1116027f0d2c2eac82ed627c7c60b13925b8421bb08ff4", func := "seisin/seisinlaw11.CertTells", spec := "certTells", unfollowed := true, recurses := true, named := ["seisin/sha.first", "seisin/sha.rounds"], plainKeys := false, apart := false, laid := [("seisin/sha.first", laid_seisin_sha_first), ("seisin/sha.rounds", laid_seisin_sha_rounds)] }
def CertTellsSaid : Prop := certTellsRow.holds Tryd.pinned (OpenSpec.ofChange certTellsSpec)

/-- ITS FALSE NEIGHBOUR: 'it returns false'. Refute it at one input. -/
def certTellsWrong : ChangeSpec := { name := "certTells", fn := fun _ => fun
  | [d1, d2, d3, d4, d5, d6] => { results := [.lit (.bool false)], args := [d1, d2, d3, d4, d5, d6] }
  | _ => none }
def CertTellsWrongFalsely : Prop := certTellsRow.holds Tryd.pinned (OpenSpec.ofChange certTellsWrong)

/-- 'seisinlaw11.CertSame': WHATEVER THE INPUT: true; the input reads as it did. -/
def certSameSpec : ChangeSpec := { name := "certSame", fn := fun _ => fun
  | [d1, d2] => { results := [.lit (.bool true)], args := [d1, d2] }
  | _ => none }
def certSameRow : OpenClaim := { program := "ytphmefhnffoafaadoor", sum := "1977e7b942ccdc284c1116027f0d2c2eac82ed627c7c60b13925b8421bb08ff4", func := "seisin/seisinlaw11.CertSame", spec := "certSame", unfollowed := true, recurses := true, named := ["seisin/sha.first", "seisin/sha.rounds"], plainKeys := false, apart := false, laid := [("seisin/sha.first", laid_seisin_sha_first), ("seisin/sha.rounds", laid_seisin_sha_rounds)] }
def CertSameSaid : Prop := certSameRow.holds Tryd.pinned (OpenSpec.ofChange certSameSpec)

/-- ITS FALSE NEIGHBOUR: 'it returns false'. Refute it at one input. -/
def certSameWrong : ChangeSpec := { name := "certSame", fn := fun _ => fun
  | [d1, d2] => { results := [.lit (.bool false)], args := [d1, d2] }
  | _ => none }
def CertSameWrongFalsely : Prop := certSameRow.holds Tryd.pinned (OpenSpec.ofChange certSameWrong)

/-- 'seisinlaw11.CertForms': WHATEVER THE INPUT: true; the input reads as it did. -/
def certFormsSpec : ChangeSpec := { name := "certForms", fn := fun _ => fun
  | [d1, d2] => { results := [.lit (.bool true)], args := [d1, d2] }
  | _ => none }
def certFormsRow : OpenClaim := { program := "ytphmefhnffoafaadoor", sum := "1977e7b942ccdc284c1116027f0d2c2eac82ed627c7c60b13925b8421bb08ff4", func := "seisin/seisinlaw11.CertForms", spec := "certForms", unfollowed := true, recurses := true, named := ["seisin/sha.first", "seisin/sha.rounds"], plainKeys := false, apart := false, laid := [("seisin/sha.first", laid_seisin_sha_first), ("seisin/sha.rounds", laid_seisin_sha_rounds)] }
def CertFormsSaid : Prop := certFormsRow.holds Tryd.pinned (OpenSpec.ofChange certFormsSpec)

/-- ITS FALSE NEIGHBOUR: 'it returns false'. Refute it at one input. -/
def certFormsWrong : ChangeSpec := { name := "certForms", fn := fun _ => fun
  | [d1, d2] => { results := [.lit (.bool false)], args := [d1, d2] }
  | _ => none }
def CertFormsWrongFalsely : Prop := certFormsRow.holds Tryd.pinned (OpenSpec.ofChange certFormsWrong)

/- THE SECOND FORM. 'bulk': how many values and letters a reading holds, each counted each time it is reached (what is shared counts as often as it is met; a slice's spare places count too). A statement '..UptoSaid' is the law's where the arguments, and the package variables that the reading takes, are together of bulk at most 1048576: NARROWER than '..Said'. Prove '..Said' where nothing that the law and all that it calls make is longer than what came in: it says more and counts as full. Else prove '..UptoSaid'. A law counts once. -/
mutual
def uptoBulk {H : Type} : DataW H → Nat
  | .lit (.string bytes) => bytes.length + 1
  | .lit _ => 1
  | .nil => 1
  | .ptr d => uptoBulk d + 1
  | .slice elems spare => uptoBulkAll elems + uptoBulkAll spare + 1
  | .agg parts => uptoBulkAll parts + 1
  | .iface _ d => uptoBulk d + 1
  | .map entries => uptoBulkEntries entries + 1
  | .held _ => 1
def uptoBulkAll {H : Type} : List (DataW H) → Nat
  | [] => 0
  | d :: r => uptoBulk d + uptoBulkAll r
def uptoBulkEntries {H : Type} : List (Lit × DataW H) → Nat
  | [] => 0
  | x :: r => uptoBulkEntry x + uptoBulkEntries r
def uptoBulkEntry {H : Type} : Lit × DataW H → Nat
  | (.string bytes, d) => bytes.length + uptoBulk d + 1
  | (_, d) => uptoBulk d + 1
 end
def uptoSmall : (H : Type) → List (DataW H) → Bool := fun _ ds => decide (uptoBulkAll ds ≤ 1048576)
def OpenSpec.upto (s : _root_.Go.ChangeSpec) : _root_.Go.OpenSpec := { _root_.Go.OpenSpec.ofChange s with cond := some uptoSmall }

/-- 'seisinlaw10.HeaderNext', WHERE WHAT IT READS IS OF BULK AT MOST 1048576: true; the input reads as it did. -/
def headerNextUptoRow : OpenClaim := { program := "ytphmefhnffoafaadoor", sum := "1977e7b942ccdc284c1116027f0d2c2eac82ed627c7c60b13925b8421bb08ff4", func := "seisin/seisinlaw10.HeaderNext", spec := "headerNext", unfollowed := true, recurses := true, named := ["seisin/sha.first", "seisin/sha.rounds"], plainKeys := false, apart := false, laid := [("seisin/sha.first", laid_seisin_sha_first), ("seisin/sha.rounds", laid_seisin_sha_rounds)], narrowed := true }
def HeaderNextUptoSaid : Prop := headerNextUptoRow.holds Tryd.pinned (OpenSpec.upto headerNextSpec)

/-- 'seisinlaw10.HeaderFollows', WHERE WHAT IT READS IS OF BULK AT MOST 1048576: true; the input reads as it did. -/
def headerFollowsUptoRow : OpenClaim := { program := "ytphmefhnffoafaadoor", sum := "1977e7b942ccdc284c1116027f0d2c2eac82ed627c7c60b13925b8421bb08ff4", func := "seisin/seisinlaw10.HeaderFollows", spec := "headerFollows", unfollowed := true, recurses := true, named := ["seisin/sha.first", "seisin/sha.rounds"], plainKeys := false, apart := false, laid := [("seisin/sha.first", laid_seisin_sha_first), ("seisin/sha.rounds", laid_seisin_sha_rounds)], narrowed := true }
def HeaderFollowsUptoSaid : Prop := headerFollowsUptoRow.holds Tryd.pinned (OpenSpec.upto headerFollowsSpec)

/-- 'seisinlaw10.HeaderRow', WHERE WHAT IT READS IS OF BULK AT MOST 1048576: true; the input reads as it did. -/
def headerRowUptoRow : OpenClaim := { program := "ytphmefhnffoafaadoor", sum := "1977e7b942ccdc284c1116027f0d2c2eac82ed627c7c60b13925b8421bb08ff4", func := "seisin/seisinlaw10.HeaderRow", spec := "headerRow", unfollowed := true, recurses := true, named := ["seisin/sha.first", "seisin/sha.rounds"], plainKeys := false, apart := false, laid := [("seisin/sha.first", laid_seisin_sha_first), ("seisin/sha.rounds", laid_seisin_sha_rounds)], narrowed := true }
def HeaderRowUptoSaid : Prop := headerRowUptoRow.holds Tryd.pinned (OpenSpec.upto headerRowSpec)

/-- 'seisinlaw07.TxOwners', WHERE WHAT IT READS IS OF BULK AT MOST 1048576: true; the input reads as it did. -/
def txOwnersUptoRow : OpenClaim := { program := "ytphmefhnffoafaadoor", sum := "1977e7b942ccdc284c1116027f0d2c2eac82ed627c7c60b13925b8421bb08ff4", func := "seisin/seisinlaw07.TxOwners", spec := "txOwners", unfollowed := true, recurses := true, named := ["seisin/sha.first", "seisin/sha.rounds"], plainKeys := false, apart := false, laid := [("seisin/sha.first", laid_seisin_sha_first), ("seisin/sha.rounds", laid_seisin_sha_rounds)], narrowed := true }
def TxOwnersUptoSaid : Prop := txOwnersUptoRow.holds Tryd.pinned (OpenSpec.upto txOwnersSpec)

/-- 'seisinlaw07.TxSame', WHERE WHAT IT READS IS OF BULK AT MOST 1048576: true; the input reads as it did. -/
def txSameUptoRow : OpenClaim := { program := "ytphmefhnffoafaadoor", sum := "1977e7b942ccdc284c1116027f0d2c2eac82ed627c7c60b13925b8421bb08ff4", func := "seisin/seisinlaw07.TxSame", spec := "txSame", unfollowed := true, recurses := true, named := ["seisin/sha.first", "seisin/sha.rounds"], plainKeys := false, apart := false, laid := [("seisin/sha.first", laid_seisin_sha_first), ("seisin/sha.rounds", laid_seisin_sha_rounds)], narrowed := true }
def TxSameUptoSaid : Prop := txSameUptoRow.holds Tryd.pinned (OpenSpec.upto txSameSpec)

/-- 'seisinlaw10.HeaderForms', WHERE WHAT IT READS IS OF BULK AT MOST 1048576: true; the input reads as it did. -/
def headerFormsUptoRow : OpenClaim := { program := "ytphmefhnffoafaadoor", sum := "1977e7b942ccdc284c1116027f0d2c2eac82ed627c7c60b13925b8421bb08ff4", func := "seisin/seisinlaw10.HeaderForms", spec := "headerForms", unfollowed := true, recurses := true, named := ["seisin/sha.first", "seisin/sha.rounds"], plainKeys := false, apart := false, laid := [("seisin/sha.first", laid_seisin_sha_first), ("seisin/sha.rounds", laid_seisin_sha_rounds)], narrowed := true }
def HeaderFormsUptoSaid : Prop := headerFormsUptoRow.holds Tryd.pinned (OpenSpec.upto headerFormsSpec)

/-- 'seisinlaw10.HeaderReads', WHERE WHAT IT READS IS OF BULK AT MOST 1048576: true; the input reads as it did. -/
def headerReadsUptoRow : OpenClaim := { program := "ytphmefhnffoafaadoor", sum := "1977e7b942ccdc284c1116027f0d2c2eac82ed627c7c60b13925b8421bb08ff4", func := "seisin/seisinlaw10.HeaderReads", spec := "headerReads", unfollowed := true, recurses := true, named := ["seisin/sha.first", "seisin/sha.rounds"], plainKeys := false, apart := false, laid := [("seisin/sha.first", laid_seisin_sha_first), ("seisin/sha.rounds", laid_seisin_sha_rounds)], narrowed := true }
def HeaderReadsUptoSaid : Prop := headerReadsUptoRow.holds Tryd.pinned (OpenSpec.upto headerReadsSpec)

/-- 'seisinlaw07.TxForms', WHERE WHAT IT READS IS OF BULK AT MOST 1048576: true; the input reads as it did. -/
def txFormsUptoRow : OpenClaim := { program := "ytphmefhnffoafaadoor", sum := "1977e7b942ccdc284c1116027f0d2c2eac82ed627c7c60b13925b8421bb08ff4", func := "seisin/seisinlaw07.TxForms", spec := "txForms", unfollowed := true, recurses := true, named := ["seisin/sha.first", "seisin/sha.rounds"], plainKeys := false, apart := false, laid := [("seisin/sha.first", laid_seisin_sha_first), ("seisin/sha.rounds", laid_seisin_sha_rounds)], narrowed := true }
def TxFormsUptoSaid : Prop := txFormsUptoRow.holds Tryd.pinned (OpenSpec.upto txFormsSpec)

/-- 'seisinlaw11.CertMakes', WHERE WHAT IT READS IS OF BULK AT MOST 1048576: true; the input reads as it did. -/
def certMakesUptoRow : OpenClaim := { program := "ytphmefhnffoafaadoor", sum := "1977e7b942ccdc284c1116027f0d2c2eac82ed627c7c60b13925b8421bb08ff4", func := "seisin/seisinlaw11.CertMakes", spec := "certMakes", unfollowed := true, recurses := true, named := ["seisin/sha.first", "seisin/sha.rounds"], plainKeys := false, apart := false, laid := [("seisin/sha.first", laid_seisin_sha_first), ("seisin/sha.rounds", laid_seisin_sha_rounds)], narrowed := true }
def CertMakesUptoSaid : Prop := certMakesUptoRow.holds Tryd.pinned (OpenSpec.upto certMakesSpec)

/-- 'seisinlaw11.CertTells', WHERE WHAT IT READS IS OF BULK AT MOST 1048576: true; the input reads as it did. -/
def certTellsUptoRow : OpenClaim := { program := "ytphmefhnffoafaadoor", sum := "1977e7b942ccdc284c1116027f0d2c2eac82ed627c7c60b13925b8421bb08ff4", func := "seisin/seisinlaw11.CertTells", spec := "certTells", unfollowed := true, recurses := true, named := ["seisin/sha.first", "seisin/sha.rounds"], plainKeys := false, apart := false, laid := [("seisin/sha.first", laid_seisin_sha_first), ("seisin/sha.rounds", laid_seisin_sha_rounds)], narrowed := true }
def CertTellsUptoSaid : Prop := certTellsUptoRow.holds Tryd.pinned (OpenSpec.upto certTellsSpec)

/-- 'seisinlaw11.CertSame', WHERE WHAT IT READS IS OF BULK AT MOST 1048576: true; the input reads as it did. -/
def certSameUptoRow : OpenClaim := { program := "ytphmefhnffoafaadoor", sum := "1977e7b942ccdc284c1116027f0d2c2eac82ed627c7c60b13925b8421bb08ff4", func := "seisin/seisinlaw11.CertSame", spec := "certSame", unfollowed := true, recurses := true, named := ["seisin/sha.first", "seisin/sha.rounds"], plainKeys := false, apart := false, laid := [("seisin/sha.first", laid_seisin_sha_first), ("seisin/sha.rounds", laid_seisin_sha_rounds)], narrowed := true }
def CertSameUptoSaid : Prop := certSameUptoRow.holds Tryd.pinned (OpenSpec.upto certSameSpec)

/-- 'seisinlaw11.CertForms', WHERE WHAT IT READS IS OF BULK AT MOST 1048576: true; the input reads as it did. -/
def certFormsUptoRow : OpenClaim := { program := "ytphmefhnffoafaadoor", sum := "1977e7b942ccdc284c1116027f0d2c2eac82ed627c7c60b13925b8421bb08ff4", func := "seisin/seisinlaw11.CertForms", spec := "certForms", unfollowed := true, recurses := true, named := ["seisin/sha.first", "seisin/sha.rounds"], plainKeys := false, apart := false, laid := [("seisin/sha.first", laid_seisin_sha_first), ("seisin/sha.rounds", laid_seisin_sha_rounds)], narrowed := true }
def CertFormsUptoSaid : Prop := certFormsUptoRow.holds Tryd.pinned (OpenSpec.upto certFormsSpec)

end Rows
end Go.Proofs.YtphmefhnffoafaaDoor
