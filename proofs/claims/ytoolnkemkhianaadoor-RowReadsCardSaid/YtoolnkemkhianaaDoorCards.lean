/-
  DERIVED. GIVEN WITH THE SEED: THE CARDS: each row of YtoolnkemkhianaaDoorRows.lean that lists a variable, with what it lists TIED to the program's text (the seventh form; the later family's looks); each row that meets fmt, with fmt's text TOLD by the authors' own Lean function (tested against real Go, not proved from fmt's source: count such statements apart). THE CARD IS WHAT COUNTS. Prove the row's statement (the work); the ties are given (YtoolnkemkhianaaDoorTie.lean); close each card by the builder's one call (the guide's Derived/Test/ToyasCard.lean, 'card_holds'). Laid BY PROGRAM, IN A SANDBOX (cutbox-door.mjs). By AI agents, Wed Nov 11 2026. No macro, syntax, notation, axiom, sorry.
-/
import Derived.Test.YtoolnkemkhianaaDoorRows
import GoSem.ClaimSeven
namespace Go.Proofs.YtoolnkemkhianaaDoor
namespace Rows

/-- THE TIED CARD OF 'lapidarylaw03.KeyBehind'. -/
def keyBehindCard : Claim7 := { stood := { row := keyBehindRow, standIns := [], harness := (true, "9cd653cd2c3975fc759785df47e2f00cfa08a4b0270e875686e81990348133cf"), looks := false }, kinds := [], alts := [], laidByText := true, laidKinds := [.data, .pinned], laidTests := true, laidLooks := .later }
def KeyBehindCardSaid : Prop := Claim7.holds Tryd.pinned (.plain (OpenSpec.ofChange keyBehindSpec)) keyBehindCard

/-- THE TIED CARD OF 'lapidarylaw03.KeyJoins'. -/
def keyJoinsCard : Claim7 := { stood := { row := keyJoinsRow, standIns := [], harness := (true, "9cd653cd2c3975fc759785df47e2f00cfa08a4b0270e875686e81990348133cf"), looks := false }, kinds := [], alts := [], laidByText := true, laidKinds := [.data, .pinned], laidTests := true, laidLooks := .later }
def KeyJoinsCardSaid : Prop := Claim7.holds Tryd.pinned (.plain (OpenSpec.ofChange keyJoinsSpec)) keyJoinsCard

/-- THE TIED CARD OF 'lapidarylaw03.KeyOrders'. -/
def keyOrdersCard : Claim7 := { stood := { row := keyOrdersRow, standIns := [], harness := (true, "9cd653cd2c3975fc759785df47e2f00cfa08a4b0270e875686e81990348133cf"), looks := false }, kinds := [], alts := [], laidByText := true, laidKinds := [.data, .pinned], laidTests := true, laidLooks := .later }
def KeyOrdersCardSaid : Prop := Claim7.holds Tryd.pinned (.plain (OpenSpec.ofChange keyOrdersSpec)) keyOrdersCard

/-- THE TIED CARD OF 'lapidarylaw03.KeyFinds'. -/
def keyFindsCard : Claim7 := { stood := { row := keyFindsRow, standIns := [], harness := (true, "9cd653cd2c3975fc759785df47e2f00cfa08a4b0270e875686e81990348133cf"), looks := false }, kinds := [], alts := [], laidByText := true, laidKinds := [.data, .pinned], laidTests := true, laidLooks := .later }
def KeyFindsCardSaid : Prop := Claim7.holds Tryd.pinned (.plain (OpenSpec.ofChange keyFindsSpec)) keyFindsCard

/-- THE TIED CARD OF 'lapidarylaw03.KeyBytes'. -/
def keyBytesCard : Claim7 := { stood := { row := keyBytesRow, standIns := [], harness := (true, "9cd653cd2c3975fc759785df47e2f00cfa08a4b0270e875686e81990348133cf"), looks := false }, kinds := [], alts := [], laidByText := true, laidKinds := [.data, .pinned], laidTests := true, laidLooks := .later }
def KeyBytesCardSaid : Prop := Claim7.holds Tryd.pinned (.plain (OpenSpec.ofChange keyBytesSpec)) keyBytesCard

/-- THE TIED CARD OF 'lapidarylaw03.KeyReads'. -/
def keyReadsCard : Claim7 := { stood := { row := keyReadsRow, standIns := [], harness := (true, "9cd653cd2c3975fc759785df47e2f00cfa08a4b0270e875686e81990348133cf"), looks := false }, kinds := [], alts := [], laidByText := true, laidKinds := [.data, .pinned], laidTests := true, laidLooks := .later }
def KeyReadsCardSaid : Prop := Claim7.holds Tryd.pinned (.plain (OpenSpec.ofChange keyReadsSpec)) keyReadsCard

/-- THE TIED CARD OF 'lapidarylaw04.RowOne'. -/
def rowOneCard : Claim7 := { stood := { row := rowOneRow, standIns := [], harness := (true, "9cd653cd2c3975fc759785df47e2f00cfa08a4b0270e875686e81990348133cf"), looks := false }, kinds := [], alts := [], laidByText := true, laidKinds := [.data, .pinned], laidTests := true, laidLooks := .later }
def RowOneCardSaid : Prop := Claim7.holds Tryd.pinned (.plain (OpenSpec.ofChange rowOneSpec)) rowOneCard

/-- THE TIED CARD OF 'lapidarylaw04.RowLong'. -/
def rowLongCard : Claim7 := { stood := { row := rowLongRow, standIns := [], harness := (true, "9cd653cd2c3975fc759785df47e2f00cfa08a4b0270e875686e81990348133cf"), looks := false }, kinds := [], alts := [], laidByText := true, laidKinds := [.data, .pinned], laidTests := true, laidLooks := .later }
def RowLongCardSaid : Prop := Claim7.holds Tryd.pinned (.plain (OpenSpec.ofChange rowLongSpec)) rowLongCard

/-- THE TIED CARD OF 'lapidarylaw04.RowKinds'. -/
def rowKindsCard : Claim7 := { stood := { row := rowKindsRow, standIns := [], harness := (true, "9cd653cd2c3975fc759785df47e2f00cfa08a4b0270e875686e81990348133cf"), looks := false }, kinds := [], alts := [], laidByText := true, laidKinds := [.data, .pinned], laidTests := true, laidLooks := .later }
def RowKindsCardSaid : Prop := Claim7.holds Tryd.pinned (.plain (OpenSpec.ofChange rowKindsSpec)) rowKindsCard

/-- THE TIED CARD OF 'lapidarylaw04.RowBytes'. -/
def rowBytesCard : Claim7 := { stood := { row := rowBytesRow, standIns := [], harness := (true, "9cd653cd2c3975fc759785df47e2f00cfa08a4b0270e875686e81990348133cf"), looks := false }, kinds := [], alts := [], laidByText := true, laidKinds := [.data, .pinned], laidTests := true, laidLooks := .later }
def RowBytesCardSaid : Prop := Claim7.holds Tryd.pinned (.plain (OpenSpec.ofChange rowBytesSpec)) rowBytesCard

/-- THE TIED CARD OF 'lapidarylaw04.RowReads'. -/
def rowReadsCard : Claim7 := { stood := { row := rowReadsRow, standIns := [], harness := (true, "9cd653cd2c3975fc759785df47e2f00cfa08a4b0270e875686e81990348133cf"), looks := false }, kinds := [], alts := [], laidByText := true, laidKinds := [.data, .pinned], laidTests := true, laidLooks := .later }
def RowReadsCardSaid : Prop := Claim7.holds Tryd.pinned (.plain (OpenSpec.ofChange rowReadsSpec)) rowReadsCard

/-- THE TIED CARD OF 'lapidarylaw04.RowCuts'. -/
def rowCutsCard : Claim7 := { stood := { row := rowCutsRow, standIns := [], harness := (true, "9cd653cd2c3975fc759785df47e2f00cfa08a4b0270e875686e81990348133cf"), looks := false }, kinds := [], alts := [], laidByText := true, laidKinds := [.data, .pinned], laidTests := true, laidLooks := .later }
def RowCutsCardSaid : Prop := Claim7.holds Tryd.pinned (.plain (OpenSpec.ofChange rowCutsSpec)) rowCutsCard

/-- THE SECOND FORM's CARD OF 'lapidarylaw03.KeyBehind'. -/
def keyBehindUptoCard : Claim7 := { stood := { row := keyBehindUptoRow, standIns := [], harness := (true, "9cd653cd2c3975fc759785df47e2f00cfa08a4b0270e875686e81990348133cf"), looks := false }, kinds := [], alts := [], laidByText := true, laidKinds := [.data, .pinned], laidTests := true, laidLooks := .later }
def KeyBehindUptoCardSaid : Prop := Claim7.holds Tryd.pinned (.plain (OpenSpec.upto keyBehindSpec)) keyBehindUptoCard

/-- THE SECOND FORM's CARD OF 'lapidarylaw03.KeyJoins'. -/
def keyJoinsUptoCard : Claim7 := { stood := { row := keyJoinsUptoRow, standIns := [], harness := (true, "9cd653cd2c3975fc759785df47e2f00cfa08a4b0270e875686e81990348133cf"), looks := false }, kinds := [], alts := [], laidByText := true, laidKinds := [.data, .pinned], laidTests := true, laidLooks := .later }
def KeyJoinsUptoCardSaid : Prop := Claim7.holds Tryd.pinned (.plain (OpenSpec.upto keyJoinsSpec)) keyJoinsUptoCard

/-- THE SECOND FORM's CARD OF 'lapidarylaw03.KeyOrders'. -/
def keyOrdersUptoCard : Claim7 := { stood := { row := keyOrdersUptoRow, standIns := [], harness := (true, "9cd653cd2c3975fc759785df47e2f00cfa08a4b0270e875686e81990348133cf"), looks := false }, kinds := [], alts := [], laidByText := true, laidKinds := [.data, .pinned], laidTests := true, laidLooks := .later }
def KeyOrdersUptoCardSaid : Prop := Claim7.holds Tryd.pinned (.plain (OpenSpec.upto keyOrdersSpec)) keyOrdersUptoCard

/-- THE SECOND FORM's CARD OF 'lapidarylaw03.KeyFinds'. -/
def keyFindsUptoCard : Claim7 := { stood := { row := keyFindsUptoRow, standIns := [], harness := (true, "9cd653cd2c3975fc759785df47e2f00cfa08a4b0270e875686e81990348133cf"), looks := false }, kinds := [], alts := [], laidByText := true, laidKinds := [.data, .pinned], laidTests := true, laidLooks := .later }
def KeyFindsUptoCardSaid : Prop := Claim7.holds Tryd.pinned (.plain (OpenSpec.upto keyFindsSpec)) keyFindsUptoCard

/-- THE SECOND FORM's CARD OF 'lapidarylaw03.KeyBytes'. -/
def keyBytesUptoCard : Claim7 := { stood := { row := keyBytesUptoRow, standIns := [], harness := (true, "9cd653cd2c3975fc759785df47e2f00cfa08a4b0270e875686e81990348133cf"), looks := false }, kinds := [], alts := [], laidByText := true, laidKinds := [.data, .pinned], laidTests := true, laidLooks := .later }
def KeyBytesUptoCardSaid : Prop := Claim7.holds Tryd.pinned (.plain (OpenSpec.upto keyBytesSpec)) keyBytesUptoCard

/-- THE SECOND FORM's CARD OF 'lapidarylaw03.KeyReads'. -/
def keyReadsUptoCard : Claim7 := { stood := { row := keyReadsUptoRow, standIns := [], harness := (true, "9cd653cd2c3975fc759785df47e2f00cfa08a4b0270e875686e81990348133cf"), looks := false }, kinds := [], alts := [], laidByText := true, laidKinds := [.data, .pinned], laidTests := true, laidLooks := .later }
def KeyReadsUptoCardSaid : Prop := Claim7.holds Tryd.pinned (.plain (OpenSpec.upto keyReadsSpec)) keyReadsUptoCard

/-- THE SECOND FORM's CARD OF 'lapidarylaw04.RowOne'. -/
def rowOneUptoCard : Claim7 := { stood := { row := rowOneUptoRow, standIns := [], harness := (true, "9cd653cd2c3975fc759785df47e2f00cfa08a4b0270e875686e81990348133cf"), looks := false }, kinds := [], alts := [], laidByText := true, laidKinds := [.data, .pinned], laidTests := true, laidLooks := .later }
def RowOneUptoCardSaid : Prop := Claim7.holds Tryd.pinned (.plain (OpenSpec.upto rowOneSpec)) rowOneUptoCard

/-- THE SECOND FORM's CARD OF 'lapidarylaw04.RowLong'. -/
def rowLongUptoCard : Claim7 := { stood := { row := rowLongUptoRow, standIns := [], harness := (true, "9cd653cd2c3975fc759785df47e2f00cfa08a4b0270e875686e81990348133cf"), looks := false }, kinds := [], alts := [], laidByText := true, laidKinds := [.data, .pinned], laidTests := true, laidLooks := .later }
def RowLongUptoCardSaid : Prop := Claim7.holds Tryd.pinned (.plain (OpenSpec.upto rowLongSpec)) rowLongUptoCard

/-- THE SECOND FORM's CARD OF 'lapidarylaw04.RowKinds'. -/
def rowKindsUptoCard : Claim7 := { stood := { row := rowKindsUptoRow, standIns := [], harness := (true, "9cd653cd2c3975fc759785df47e2f00cfa08a4b0270e875686e81990348133cf"), looks := false }, kinds := [], alts := [], laidByText := true, laidKinds := [.data, .pinned], laidTests := true, laidLooks := .later }
def RowKindsUptoCardSaid : Prop := Claim7.holds Tryd.pinned (.plain (OpenSpec.upto rowKindsSpec)) rowKindsUptoCard

/-- THE SECOND FORM's CARD OF 'lapidarylaw04.RowBytes'. -/
def rowBytesUptoCard : Claim7 := { stood := { row := rowBytesUptoRow, standIns := [], harness := (true, "9cd653cd2c3975fc759785df47e2f00cfa08a4b0270e875686e81990348133cf"), looks := false }, kinds := [], alts := [], laidByText := true, laidKinds := [.data, .pinned], laidTests := true, laidLooks := .later }
def RowBytesUptoCardSaid : Prop := Claim7.holds Tryd.pinned (.plain (OpenSpec.upto rowBytesSpec)) rowBytesUptoCard

/-- THE SECOND FORM's CARD OF 'lapidarylaw04.RowReads'. -/
def rowReadsUptoCard : Claim7 := { stood := { row := rowReadsUptoRow, standIns := [], harness := (true, "9cd653cd2c3975fc759785df47e2f00cfa08a4b0270e875686e81990348133cf"), looks := false }, kinds := [], alts := [], laidByText := true, laidKinds := [.data, .pinned], laidTests := true, laidLooks := .later }
def RowReadsUptoCardSaid : Prop := Claim7.holds Tryd.pinned (.plain (OpenSpec.upto rowReadsSpec)) rowReadsUptoCard

/-- THE SECOND FORM's CARD OF 'lapidarylaw04.RowCuts'. -/
def rowCutsUptoCard : Claim7 := { stood := { row := rowCutsUptoRow, standIns := [], harness := (true, "9cd653cd2c3975fc759785df47e2f00cfa08a4b0270e875686e81990348133cf"), looks := false }, kinds := [], alts := [], laidByText := true, laidKinds := [.data, .pinned], laidTests := true, laidLooks := .later }
def RowCutsUptoCardSaid : Prop := Claim7.holds Tryd.pinned (.plain (OpenSpec.upto rowCutsSpec)) rowCutsUptoCard
end Rows
end Go.Proofs.YtoolnkemkhianaaDoor
