/-
  DERIVED. GIVEN WITH THE SEED: THE CARDS: each row of YtphmefhnffoafaaDoorRows.lean that lists a variable, with what it lists TIED to the program's text (the seventh form; the later family's looks); each row that meets fmt, with fmt's text TOLD by the authors' own Lean function (tested against real Go, not proved from fmt's source: count such statements apart). THE CARD IS WHAT COUNTS. Prove the row's statement (the work); the ties are given (YtphmefhnffoafaaDoorTie.lean); close each card by the builder's one call (the guide's Derived/Test/ToyasCard.lean, 'card_holds'). Laid BY PROGRAM, IN A SANDBOX (cutbox-door.mjs). By AI agents, Wed Nov 11 2026. No macro, syntax, notation, axiom, sorry.
-/
import Derived.Test.YtphmefhnffoafaaDoorRows
import GoSem.ClaimSeven
namespace Go.Proofs.YtphmefhnffoafaaDoor
namespace Rows

/-- THE TIED CARD OF 'seisinlaw10.HeaderNext'. -/
def headerNextCard : Claim7 := { stood := { row := headerNextRow, standIns := [], harness := (true, "d3938644eea20fea501d7e937671e77b5d887c0fcf58979affff88151dc99fb6"), looks := true }, kinds := [], alts := [], laidByText := true, laidKinds := [.data, .data], laidTests := true, laidLooks := .later }
def HeaderNextCardSaid : Prop := Claim7.holds Tryd.pinned (.plain (OpenSpec.ofChange headerNextSpec)) headerNextCard

/-- THE TIED CARD OF 'seisinlaw10.HeaderFollows'. -/
def headerFollowsCard : Claim7 := { stood := { row := headerFollowsRow, standIns := [], harness := (true, "d3938644eea20fea501d7e937671e77b5d887c0fcf58979affff88151dc99fb6"), looks := true }, kinds := [], alts := [], laidByText := true, laidKinds := [.data, .data], laidTests := true, laidLooks := .later }
def HeaderFollowsCardSaid : Prop := Claim7.holds Tryd.pinned (.plain (OpenSpec.ofChange headerFollowsSpec)) headerFollowsCard

/-- THE TIED CARD OF 'seisinlaw10.HeaderRow'. -/
def headerRowCard : Claim7 := { stood := { row := headerRowRow, standIns := [], harness := (true, "d3938644eea20fea501d7e937671e77b5d887c0fcf58979affff88151dc99fb6"), looks := true }, kinds := [], alts := [], laidByText := true, laidKinds := [.data, .data], laidTests := true, laidLooks := .later }
def HeaderRowCardSaid : Prop := Claim7.holds Tryd.pinned (.plain (OpenSpec.ofChange headerRowSpec)) headerRowCard

/-- THE TIED CARD OF 'seisinlaw07.TxOwners'. -/
def txOwnersCard : Claim7 := { stood := { row := txOwnersRow, standIns := [], harness := (true, "d3938644eea20fea501d7e937671e77b5d887c0fcf58979affff88151dc99fb6"), looks := true }, kinds := [], alts := [], laidByText := true, laidKinds := [.data, .data], laidTests := true, laidLooks := .later }
def TxOwnersCardSaid : Prop := Claim7.holds Tryd.pinned (.plain (OpenSpec.ofChange txOwnersSpec)) txOwnersCard

/-- THE TIED CARD OF 'seisinlaw07.TxSame'. -/
def txSameCard : Claim7 := { stood := { row := txSameRow, standIns := [], harness := (true, "d3938644eea20fea501d7e937671e77b5d887c0fcf58979affff88151dc99fb6"), looks := true }, kinds := [], alts := [], laidByText := true, laidKinds := [.data, .data], laidTests := true, laidLooks := .later }
def TxSameCardSaid : Prop := Claim7.holds Tryd.pinned (.plain (OpenSpec.ofChange txSameSpec)) txSameCard

/-- THE TIED CARD OF 'seisinlaw10.HeaderForms'. -/
def headerFormsCard : Claim7 := { stood := { row := headerFormsRow, standIns := [], harness := (true, "d3938644eea20fea501d7e937671e77b5d887c0fcf58979affff88151dc99fb6"), looks := true }, kinds := [], alts := [], laidByText := true, laidKinds := [.data, .data], laidTests := true, laidLooks := .later }
def HeaderFormsCardSaid : Prop := Claim7.holds Tryd.pinned (.plain (OpenSpec.ofChange headerFormsSpec)) headerFormsCard

/-- THE TIED CARD OF 'seisinlaw10.HeaderReads'. -/
def headerReadsCard : Claim7 := { stood := { row := headerReadsRow, standIns := [], harness := (true, "d3938644eea20fea501d7e937671e77b5d887c0fcf58979affff88151dc99fb6"), looks := true }, kinds := [], alts := [], laidByText := true, laidKinds := [.data, .data], laidTests := true, laidLooks := .later }
def HeaderReadsCardSaid : Prop := Claim7.holds Tryd.pinned (.plain (OpenSpec.ofChange headerReadsSpec)) headerReadsCard

/-- THE TIED CARD OF 'seisinlaw07.TxForms'. -/
def txFormsCard : Claim7 := { stood := { row := txFormsRow, standIns := [], harness := (true, "d3938644eea20fea501d7e937671e77b5d887c0fcf58979affff88151dc99fb6"), looks := true }, kinds := [], alts := [], laidByText := true, laidKinds := [.data, .data], laidTests := true, laidLooks := .later }
def TxFormsCardSaid : Prop := Claim7.holds Tryd.pinned (.plain (OpenSpec.ofChange txFormsSpec)) txFormsCard

/-- THE TIED CARD OF 'seisinlaw11.CertMakes'. -/
def certMakesCard : Claim7 := { stood := { row := certMakesRow, standIns := [], harness := (true, "d3938644eea20fea501d7e937671e77b5d887c0fcf58979affff88151dc99fb6"), looks := true }, kinds := [], alts := [], laidByText := true, laidKinds := [.data, .data], laidTests := true, laidLooks := .later }
def CertMakesCardSaid : Prop := Claim7.holds Tryd.pinned (.plain (OpenSpec.ofChange certMakesSpec)) certMakesCard

/-- THE TIED CARD OF 'seisinlaw11.CertTells'. -/
def certTellsCard : Claim7 := { stood := { row := certTellsRow, standIns := [], harness := (true, "d3938644eea20fea501d7e937671e77b5d887c0fcf58979affff88151dc99fb6"), looks := true }, kinds := [], alts := [], laidByText := true, laidKinds := [.data, .data], laidTests := true, laidLooks := .later }
def CertTellsCardSaid : Prop := Claim7.holds Tryd.pinned (.plain (OpenSpec.ofChange certTellsSpec)) certTellsCard

/-- THE TIED CARD OF 'seisinlaw11.CertSame'. -/
def certSameCard : Claim7 := { stood := { row := certSameRow, standIns := [], harness := (true, "d3938644eea20fea501d7e937671e77b5d887c0fcf58979affff88151dc99fb6"), looks := true }, kinds := [], alts := [], laidByText := true, laidKinds := [.data, .data], laidTests := true, laidLooks := .later }
def CertSameCardSaid : Prop := Claim7.holds Tryd.pinned (.plain (OpenSpec.ofChange certSameSpec)) certSameCard

/-- THE TIED CARD OF 'seisinlaw11.CertForms'. -/
def certFormsCard : Claim7 := { stood := { row := certFormsRow, standIns := [], harness := (true, "d3938644eea20fea501d7e937671e77b5d887c0fcf58979affff88151dc99fb6"), looks := true }, kinds := [], alts := [], laidByText := true, laidKinds := [.data, .data], laidTests := true, laidLooks := .later }
def CertFormsCardSaid : Prop := Claim7.holds Tryd.pinned (.plain (OpenSpec.ofChange certFormsSpec)) certFormsCard

/-- THE SECOND FORM's CARD OF 'seisinlaw10.HeaderNext'. -/
def headerNextUptoCard : Claim7 := { stood := { row := headerNextUptoRow, standIns := [], harness := (true, "d3938644eea20fea501d7e937671e77b5d887c0fcf58979affff88151dc99fb6"), looks := true }, kinds := [], alts := [], laidByText := true, laidKinds := [.data, .data], laidTests := true, laidLooks := .later }
def HeaderNextUptoCardSaid : Prop := Claim7.holds Tryd.pinned (.plain (OpenSpec.upto headerNextSpec)) headerNextUptoCard

/-- THE SECOND FORM's CARD OF 'seisinlaw10.HeaderFollows'. -/
def headerFollowsUptoCard : Claim7 := { stood := { row := headerFollowsUptoRow, standIns := [], harness := (true, "d3938644eea20fea501d7e937671e77b5d887c0fcf58979affff88151dc99fb6"), looks := true }, kinds := [], alts := [], laidByText := true, laidKinds := [.data, .data], laidTests := true, laidLooks := .later }
def HeaderFollowsUptoCardSaid : Prop := Claim7.holds Tryd.pinned (.plain (OpenSpec.upto headerFollowsSpec)) headerFollowsUptoCard

/-- THE SECOND FORM's CARD OF 'seisinlaw10.HeaderRow'. -/
def headerRowUptoCard : Claim7 := { stood := { row := headerRowUptoRow, standIns := [], harness := (true, "d3938644eea20fea501d7e937671e77b5d887c0fcf58979affff88151dc99fb6"), looks := true }, kinds := [], alts := [], laidByText := true, laidKinds := [.data, .data], laidTests := true, laidLooks := .later }
def HeaderRowUptoCardSaid : Prop := Claim7.holds Tryd.pinned (.plain (OpenSpec.upto headerRowSpec)) headerRowUptoCard

/-- THE SECOND FORM's CARD OF 'seisinlaw07.TxOwners'. -/
def txOwnersUptoCard : Claim7 := { stood := { row := txOwnersUptoRow, standIns := [], harness := (true, "d3938644eea20fea501d7e937671e77b5d887c0fcf58979affff88151dc99fb6"), looks := true }, kinds := [], alts := [], laidByText := true, laidKinds := [.data, .data], laidTests := true, laidLooks := .later }
def TxOwnersUptoCardSaid : Prop := Claim7.holds Tryd.pinned (.plain (OpenSpec.upto txOwnersSpec)) txOwnersUptoCard

/-- THE SECOND FORM's CARD OF 'seisinlaw07.TxSame'. -/
def txSameUptoCard : Claim7 := { stood := { row := txSameUptoRow, standIns := [], harness := (true, "d3938644eea20fea501d7e937671e77b5d887c0fcf58979affff88151dc99fb6"), looks := true }, kinds := [], alts := [], laidByText := true, laidKinds := [.data, .data], laidTests := true, laidLooks := .later }
def TxSameUptoCardSaid : Prop := Claim7.holds Tryd.pinned (.plain (OpenSpec.upto txSameSpec)) txSameUptoCard

/-- THE SECOND FORM's CARD OF 'seisinlaw10.HeaderForms'. -/
def headerFormsUptoCard : Claim7 := { stood := { row := headerFormsUptoRow, standIns := [], harness := (true, "d3938644eea20fea501d7e937671e77b5d887c0fcf58979affff88151dc99fb6"), looks := true }, kinds := [], alts := [], laidByText := true, laidKinds := [.data, .data], laidTests := true, laidLooks := .later }
def HeaderFormsUptoCardSaid : Prop := Claim7.holds Tryd.pinned (.plain (OpenSpec.upto headerFormsSpec)) headerFormsUptoCard

/-- THE SECOND FORM's CARD OF 'seisinlaw10.HeaderReads'. -/
def headerReadsUptoCard : Claim7 := { stood := { row := headerReadsUptoRow, standIns := [], harness := (true, "d3938644eea20fea501d7e937671e77b5d887c0fcf58979affff88151dc99fb6"), looks := true }, kinds := [], alts := [], laidByText := true, laidKinds := [.data, .data], laidTests := true, laidLooks := .later }
def HeaderReadsUptoCardSaid : Prop := Claim7.holds Tryd.pinned (.plain (OpenSpec.upto headerReadsSpec)) headerReadsUptoCard

/-- THE SECOND FORM's CARD OF 'seisinlaw07.TxForms'. -/
def txFormsUptoCard : Claim7 := { stood := { row := txFormsUptoRow, standIns := [], harness := (true, "d3938644eea20fea501d7e937671e77b5d887c0fcf58979affff88151dc99fb6"), looks := true }, kinds := [], alts := [], laidByText := true, laidKinds := [.data, .data], laidTests := true, laidLooks := .later }
def TxFormsUptoCardSaid : Prop := Claim7.holds Tryd.pinned (.plain (OpenSpec.upto txFormsSpec)) txFormsUptoCard

/-- THE SECOND FORM's CARD OF 'seisinlaw11.CertMakes'. -/
def certMakesUptoCard : Claim7 := { stood := { row := certMakesUptoRow, standIns := [], harness := (true, "d3938644eea20fea501d7e937671e77b5d887c0fcf58979affff88151dc99fb6"), looks := true }, kinds := [], alts := [], laidByText := true, laidKinds := [.data, .data], laidTests := true, laidLooks := .later }
def CertMakesUptoCardSaid : Prop := Claim7.holds Tryd.pinned (.plain (OpenSpec.upto certMakesSpec)) certMakesUptoCard

/-- THE SECOND FORM's CARD OF 'seisinlaw11.CertTells'. -/
def certTellsUptoCard : Claim7 := { stood := { row := certTellsUptoRow, standIns := [], harness := (true, "d3938644eea20fea501d7e937671e77b5d887c0fcf58979affff88151dc99fb6"), looks := true }, kinds := [], alts := [], laidByText := true, laidKinds := [.data, .data], laidTests := true, laidLooks := .later }
def CertTellsUptoCardSaid : Prop := Claim7.holds Tryd.pinned (.plain (OpenSpec.upto certTellsSpec)) certTellsUptoCard

/-- THE SECOND FORM's CARD OF 'seisinlaw11.CertSame'. -/
def certSameUptoCard : Claim7 := { stood := { row := certSameUptoRow, standIns := [], harness := (true, "d3938644eea20fea501d7e937671e77b5d887c0fcf58979affff88151dc99fb6"), looks := true }, kinds := [], alts := [], laidByText := true, laidKinds := [.data, .data], laidTests := true, laidLooks := .later }
def CertSameUptoCardSaid : Prop := Claim7.holds Tryd.pinned (.plain (OpenSpec.upto certSameSpec)) certSameUptoCard

/-- THE SECOND FORM's CARD OF 'seisinlaw11.CertForms'. -/
def certFormsUptoCard : Claim7 := { stood := { row := certFormsUptoRow, standIns := [], harness := (true, "d3938644eea20fea501d7e937671e77b5d887c0fcf58979affff88151dc99fb6"), looks := true }, kinds := [], alts := [], laidByText := true, laidKinds := [.data, .data], laidTests := true, laidLooks := .later }
def CertFormsUptoCardSaid : Prop := Claim7.holds Tryd.pinned (.plain (OpenSpec.upto certFormsSpec)) certFormsUptoCard
end Rows
end Go.Proofs.YtphmefhnffoafaaDoor
