/-
  DERIVED. GIVEN WITH THE SEED: THE CARDS: each row of YthaiblbnpcgjpaaGreatDoorRows.lean that lists a variable, with what it lists TIED to the program's text (the seventh form; the later family's looks); each row that meets fmt, with fmt's text TOLD by the authors' own Lean function (tested against real Go, not proved from fmt's source: count such statements apart). THE CARD IS WHAT COUNTS. Prove the row's statement (the work); the ties are given (YthaiblbnpcgjpaaGreatDoorTie.lean); close each card by the builder's one call (the guide's Derived/Test/ToyasCard.lean, 'card_holds'). Laid BY PROGRAM, IN A SANDBOX (cutbox-door.mjs). By AI agents, Wed Nov 11 2026. No macro, syntax, notation, axiom, sorry.
-/
import Derived.Test.YthaiblbnpcgjpaaGreatDoorRows
import GoSem.ClaimSeven
namespace Go.Proofs.YthaiblbnpcgjpaaGreatDoor
namespace Rows

/-- THE TIED CARD OF 'hermitcrablaw20.CrossMoves'. -/
def crossMovesCard : Claim7 := { stood := { row := crossMovesRow, standIns := [], harness := (true, "6bef1eee8ef7bff53f575dab6a6ba677a2c848adc982d71f26b24390dc2d5fe9"), looks := true }, kinds := [], alts := [], laidByText := true, laidKinds := [.data], laidTests := true, laidLooks := .later }
def CrossMovesCardSaid : Prop := Claim7.holds Tryz.pinned (.plain (OpenSpec.ofChange crossMovesSpec)) crossMovesCard

/-- THE TIED CARD OF 'hermitcrablaw20.CrossTwins'. -/
def crossTwinsCard : Claim7 := { stood := { row := crossTwinsRow, standIns := [], harness := (true, "6bef1eee8ef7bff53f575dab6a6ba677a2c848adc982d71f26b24390dc2d5fe9"), looks := true }, kinds := [], alts := [], laidByText := true, laidKinds := [.data], laidTests := true, laidLooks := .later }
def CrossTwinsCardSaid : Prop := Claim7.holds Tryz.pinned (.plain (OpenSpec.ofChange crossTwinsSpec)) crossTwinsCard

/-- THE TIED CARD OF 'hermitcrablaw21.ProofHolds'. -/
def proofHoldsCard : Claim7 := { stood := { row := proofHoldsRow, standIns := [], harness := (true, "6bef1eee8ef7bff53f575dab6a6ba677a2c848adc982d71f26b24390dc2d5fe9"), looks := true }, kinds := [], alts := [], laidByText := true, laidKinds := [.data], laidTests := true, laidLooks := .later }
def ProofHoldsCardSaid : Prop := Claim7.holds Tryz.pinned (.plain (OpenSpec.ofChange proofHoldsSpec)) proofHoldsCard

/-- THE TIED CARD OF 'hermitcrablaw21.ProofTables'. -/
def proofTablesCard : Claim7 := { stood := { row := proofTablesRow, standIns := [], harness := (true, "6bef1eee8ef7bff53f575dab6a6ba677a2c848adc982d71f26b24390dc2d5fe9"), looks := true }, kinds := [], alts := [], laidByText := true, laidKinds := [.data], laidTests := true, laidLooks := .later }
def ProofTablesCardSaid : Prop := Claim7.holds Tryz.pinned (.plain (OpenSpec.ofChange proofTablesSpec)) proofTablesCard

/-- THE TIED CARD OF 'hermitcrablaw18.OldBound'. -/
def oldBoundCard : Claim7 := { stood := { row := oldBoundRow, standIns := [], harness := (true, "6bef1eee8ef7bff53f575dab6a6ba677a2c848adc982d71f26b24390dc2d5fe9"), looks := true }, kinds := [], alts := [], laidByText := true, laidKinds := [.data], laidTests := true, laidLooks := .later }
def OldBoundCardSaid : Prop := Claim7.holds Tryz.pinned (.plain (OpenSpec.ofChange oldBoundSpec)) oldBoundCard

/-- THE TIED CARD OF 'hermitcrablaw18.OldForm'. -/
def oldFormCard : Claim7 := { stood := { row := oldFormRow, standIns := [], harness := (true, "6bef1eee8ef7bff53f575dab6a6ba677a2c848adc982d71f26b24390dc2d5fe9"), looks := true }, kinds := [], alts := [], laidByText := true, laidKinds := [.data], laidTests := true, laidLooks := .later }
def OldFormCardSaid : Prop := Claim7.holds Tryz.pinned (.plain (OpenSpec.ofChange oldFormSpec)) oldFormCard

/-- THE TIED CARD OF 'hermitcrablaw18.OldReads'. -/
def oldReadsCard : Claim7 := { stood := { row := oldReadsRow, standIns := [], harness := (true, "6bef1eee8ef7bff53f575dab6a6ba677a2c848adc982d71f26b24390dc2d5fe9"), looks := true }, kinds := [], alts := [], laidByText := true, laidKinds := [.data], laidTests := true, laidLooks := .later }
def OldReadsCardSaid : Prop := Claim7.holds Tryz.pinned (.plain (OpenSpec.ofChange oldReadsSpec)) oldReadsCard

/-- THE TIED CARD OF 'hermitcrablaw18.OldPieces'. -/
def oldPiecesCard : Claim7 := { stood := { row := oldPiecesRow, standIns := [], harness := (true, "6bef1eee8ef7bff53f575dab6a6ba677a2c848adc982d71f26b24390dc2d5fe9"), looks := true }, kinds := [], alts := [], laidByText := true, laidKinds := [.data], laidTests := true, laidLooks := .later }
def OldPiecesCardSaid : Prop := Claim7.holds Tryz.pinned (.plain (OpenSpec.ofChange oldPiecesSpec)) oldPiecesCard

/-- THE TIED CARD OF 'hermitcrablaw18.OldBytes'. -/
def oldBytesCard : Claim7 := { stood := { row := oldBytesRow, standIns := [], harness := (true, "6bef1eee8ef7bff53f575dab6a6ba677a2c848adc982d71f26b24390dc2d5fe9"), looks := true }, kinds := [], alts := [], laidByText := true, laidKinds := [.data], laidTests := true, laidLooks := .later }
def OldBytesCardSaid : Prop := Claim7.holds Tryz.pinned (.plain (OpenSpec.ofChange oldBytesSpec)) oldBytesCard

/-- THE TIED CARD OF 'hermitcrablaw19.FreshForm'. -/
def freshFormCard : Claim7 := { stood := { row := freshFormRow, standIns := [], harness := (true, "6bef1eee8ef7bff53f575dab6a6ba677a2c848adc982d71f26b24390dc2d5fe9"), looks := true }, kinds := [], alts := [], laidByText := true, laidKinds := [.data], laidTests := true, laidLooks := .later }
def FreshFormCardSaid : Prop := Claim7.holds Tryz.pinned (.plain (OpenSpec.ofChange freshFormSpec)) freshFormCard

/-- THE TIED CARD OF 'hermitcrablaw20.CrossBytes'. -/
def crossBytesCard : Claim7 := { stood := { row := crossBytesRow, standIns := [], harness := (true, "6bef1eee8ef7bff53f575dab6a6ba677a2c848adc982d71f26b24390dc2d5fe9"), looks := true }, kinds := [], alts := [], laidByText := true, laidKinds := [.data], laidTests := true, laidLooks := .later }
def CrossBytesCardSaid : Prop := Claim7.holds Tryz.pinned (.plain (OpenSpec.ofChange crossBytesSpec)) crossBytesCard

/-- THE TIED CARD OF 'hermitcrablaw20.CrossBoth'. -/
def crossBothCard : Claim7 := { stood := { row := crossBothRow, standIns := [], harness := (true, "6bef1eee8ef7bff53f575dab6a6ba677a2c848adc982d71f26b24390dc2d5fe9"), looks := true }, kinds := [], alts := [], laidByText := true, laidKinds := [.data], laidTests := true, laidLooks := .later }
def CrossBothCardSaid : Prop := Claim7.holds Tryz.pinned (.plain (OpenSpec.ofChange crossBothSpec)) crossBothCard

/-- THE SECOND FORM's CARD OF 'hermitcrablaw20.CrossMoves'. -/
def crossMovesUptoCard : Claim7 := { stood := { row := crossMovesUptoRow, standIns := [], harness := (true, "6bef1eee8ef7bff53f575dab6a6ba677a2c848adc982d71f26b24390dc2d5fe9"), looks := true }, kinds := [], alts := [], laidByText := true, laidKinds := [.data], laidTests := true, laidLooks := .later }
def CrossMovesUptoCardSaid : Prop := Claim7.holds Tryz.pinned (.plain (OpenSpec.upto crossMovesSpec)) crossMovesUptoCard

/-- THE SECOND FORM's CARD OF 'hermitcrablaw20.CrossTwins'. -/
def crossTwinsUptoCard : Claim7 := { stood := { row := crossTwinsUptoRow, standIns := [], harness := (true, "6bef1eee8ef7bff53f575dab6a6ba677a2c848adc982d71f26b24390dc2d5fe9"), looks := true }, kinds := [], alts := [], laidByText := true, laidKinds := [.data], laidTests := true, laidLooks := .later }
def CrossTwinsUptoCardSaid : Prop := Claim7.holds Tryz.pinned (.plain (OpenSpec.upto crossTwinsSpec)) crossTwinsUptoCard

/-- THE SECOND FORM's CARD OF 'hermitcrablaw21.ProofHolds'. -/
def proofHoldsUptoCard : Claim7 := { stood := { row := proofHoldsUptoRow, standIns := [], harness := (true, "6bef1eee8ef7bff53f575dab6a6ba677a2c848adc982d71f26b24390dc2d5fe9"), looks := true }, kinds := [], alts := [], laidByText := true, laidKinds := [.data], laidTests := true, laidLooks := .later }
def ProofHoldsUptoCardSaid : Prop := Claim7.holds Tryz.pinned (.plain (OpenSpec.upto proofHoldsSpec)) proofHoldsUptoCard

/-- THE SECOND FORM's CARD OF 'hermitcrablaw21.ProofTables'. -/
def proofTablesUptoCard : Claim7 := { stood := { row := proofTablesUptoRow, standIns := [], harness := (true, "6bef1eee8ef7bff53f575dab6a6ba677a2c848adc982d71f26b24390dc2d5fe9"), looks := true }, kinds := [], alts := [], laidByText := true, laidKinds := [.data], laidTests := true, laidLooks := .later }
def ProofTablesUptoCardSaid : Prop := Claim7.holds Tryz.pinned (.plain (OpenSpec.upto proofTablesSpec)) proofTablesUptoCard

/-- THE SECOND FORM's CARD OF 'hermitcrablaw18.OldBound'. -/
def oldBoundUptoCard : Claim7 := { stood := { row := oldBoundUptoRow, standIns := [], harness := (true, "6bef1eee8ef7bff53f575dab6a6ba677a2c848adc982d71f26b24390dc2d5fe9"), looks := true }, kinds := [], alts := [], laidByText := true, laidKinds := [.data], laidTests := true, laidLooks := .later }
def OldBoundUptoCardSaid : Prop := Claim7.holds Tryz.pinned (.plain (OpenSpec.upto oldBoundSpec)) oldBoundUptoCard

/-- THE SECOND FORM's CARD OF 'hermitcrablaw18.OldForm'. -/
def oldFormUptoCard : Claim7 := { stood := { row := oldFormUptoRow, standIns := [], harness := (true, "6bef1eee8ef7bff53f575dab6a6ba677a2c848adc982d71f26b24390dc2d5fe9"), looks := true }, kinds := [], alts := [], laidByText := true, laidKinds := [.data], laidTests := true, laidLooks := .later }
def OldFormUptoCardSaid : Prop := Claim7.holds Tryz.pinned (.plain (OpenSpec.upto oldFormSpec)) oldFormUptoCard

/-- THE SECOND FORM's CARD OF 'hermitcrablaw18.OldReads'. -/
def oldReadsUptoCard : Claim7 := { stood := { row := oldReadsUptoRow, standIns := [], harness := (true, "6bef1eee8ef7bff53f575dab6a6ba677a2c848adc982d71f26b24390dc2d5fe9"), looks := true }, kinds := [], alts := [], laidByText := true, laidKinds := [.data], laidTests := true, laidLooks := .later }
def OldReadsUptoCardSaid : Prop := Claim7.holds Tryz.pinned (.plain (OpenSpec.upto oldReadsSpec)) oldReadsUptoCard

/-- THE SECOND FORM's CARD OF 'hermitcrablaw18.OldPieces'. -/
def oldPiecesUptoCard : Claim7 := { stood := { row := oldPiecesUptoRow, standIns := [], harness := (true, "6bef1eee8ef7bff53f575dab6a6ba677a2c848adc982d71f26b24390dc2d5fe9"), looks := true }, kinds := [], alts := [], laidByText := true, laidKinds := [.data], laidTests := true, laidLooks := .later }
def OldPiecesUptoCardSaid : Prop := Claim7.holds Tryz.pinned (.plain (OpenSpec.upto oldPiecesSpec)) oldPiecesUptoCard

/-- THE SECOND FORM's CARD OF 'hermitcrablaw18.OldBytes'. -/
def oldBytesUptoCard : Claim7 := { stood := { row := oldBytesUptoRow, standIns := [], harness := (true, "6bef1eee8ef7bff53f575dab6a6ba677a2c848adc982d71f26b24390dc2d5fe9"), looks := true }, kinds := [], alts := [], laidByText := true, laidKinds := [.data], laidTests := true, laidLooks := .later }
def OldBytesUptoCardSaid : Prop := Claim7.holds Tryz.pinned (.plain (OpenSpec.upto oldBytesSpec)) oldBytesUptoCard

/-- THE SECOND FORM's CARD OF 'hermitcrablaw19.FreshForm'. -/
def freshFormUptoCard : Claim7 := { stood := { row := freshFormUptoRow, standIns := [], harness := (true, "6bef1eee8ef7bff53f575dab6a6ba677a2c848adc982d71f26b24390dc2d5fe9"), looks := true }, kinds := [], alts := [], laidByText := true, laidKinds := [.data], laidTests := true, laidLooks := .later }
def FreshFormUptoCardSaid : Prop := Claim7.holds Tryz.pinned (.plain (OpenSpec.upto freshFormSpec)) freshFormUptoCard

/-- THE SECOND FORM's CARD OF 'hermitcrablaw20.CrossBytes'. -/
def crossBytesUptoCard : Claim7 := { stood := { row := crossBytesUptoRow, standIns := [], harness := (true, "6bef1eee8ef7bff53f575dab6a6ba677a2c848adc982d71f26b24390dc2d5fe9"), looks := true }, kinds := [], alts := [], laidByText := true, laidKinds := [.data], laidTests := true, laidLooks := .later }
def CrossBytesUptoCardSaid : Prop := Claim7.holds Tryz.pinned (.plain (OpenSpec.upto crossBytesSpec)) crossBytesUptoCard

/-- THE SECOND FORM's CARD OF 'hermitcrablaw20.CrossBoth'. -/
def crossBothUptoCard : Claim7 := { stood := { row := crossBothUptoRow, standIns := [], harness := (true, "6bef1eee8ef7bff53f575dab6a6ba677a2c848adc982d71f26b24390dc2d5fe9"), looks := true }, kinds := [], alts := [], laidByText := true, laidKinds := [.data], laidTests := true, laidLooks := .later }
def CrossBothUptoCardSaid : Prop := Claim7.holds Tryz.pinned (.plain (OpenSpec.upto crossBothSpec)) crossBothUptoCard
end Rows
end Go.Proofs.YthaiblbnpcgjpaaGreatDoor
