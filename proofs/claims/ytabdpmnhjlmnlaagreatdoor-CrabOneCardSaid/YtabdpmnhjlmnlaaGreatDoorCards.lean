/-
  DERIVED. GIVEN WITH THE SEED: THE CARDS: each row of YtabdpmnhjlmnlaaGreatDoorRows.lean that lists a variable, with what it lists TIED to the program's text (the seventh form; the later family's looks); each row that meets fmt, with fmt's text TOLD by the authors' own Lean function (tested against real Go, not proved from fmt's source: count such statements apart). THE CARD IS WHAT COUNTS. Prove the row's statement (the work); the ties are given (YtabdpmnhjlmnlaaGreatDoorTie.lean); close each card by the builder's one call (the guide's Derived/Test/ToyasCard.lean, 'card_holds'). Laid BY PROGRAM, IN A SANDBOX (cutbox-door.mjs). By AI agents, Wed Nov 11 2026. No macro, syntax, notation, axiom, sorry.
-/
import Derived.Test.YtabdpmnhjlmnlaaGreatDoorRows
import GoSem.ClaimSeven
namespace Go.Proofs.YtabdpmnhjlmnlaaGreatDoor
namespace Rows

/-- THE TIED CARD OF 'hermitcrablaw23.IdealOne'. -/
def idealOneCard : Claim7 := { stood := { row := idealOneRow, standIns := [], harness := (true, "b446bb6fbd90a262edb26febaf697f3423a310bfa096398a4e9a6bc1fd76dc28"), looks := true }, kinds := [], alts := [], laidByText := true, laidKinds := [.data], laidTests := true, laidLooks := .later }
def IdealOneCardSaid : Prop := Claim7.holds Tryz.pinned (.plain (OpenSpec.ofChange idealOneSpec)) idealOneCard

/-- THE TIED CARD OF 'hermitcrablaw16.CrabTells'. -/
def crabTellsCard : Claim7 := { stood := { row := crabTellsRow, standIns := [], harness := (true, "b446bb6fbd90a262edb26febaf697f3423a310bfa096398a4e9a6bc1fd76dc28"), looks := true }, kinds := [], alts := [], laidByText := true, laidKinds := [.data], laidTests := true, laidLooks := .later }
def CrabTellsCardSaid : Prop := Claim7.holds Tryz.pinned (.plain (OpenSpec.ofChange crabTellsSpec)) crabTellsCard

/-- THE TIED CARD OF 'hermitcrablaw16.CrabDisks'. -/
def crabDisksCard : Claim7 := { stood := { row := crabDisksRow, standIns := [], harness := (true, "b446bb6fbd90a262edb26febaf697f3423a310bfa096398a4e9a6bc1fd76dc28"), looks := true }, kinds := [], alts := [], laidByText := true, laidKinds := [.data], laidTests := true, laidLooks := .later }
def CrabDisksCardSaid : Prop := Claim7.holds Tryz.pinned (.plain (OpenSpec.ofChange crabDisksSpec)) crabDisksCard

/-- THE TIED CARD OF 'hermitcrablaw16.CrabKeys'. -/
def crabKeysCard : Claim7 := { stood := { row := crabKeysRow, standIns := [], harness := (true, "b446bb6fbd90a262edb26febaf697f3423a310bfa096398a4e9a6bc1fd76dc28"), looks := true }, kinds := [], alts := [], laidByText := true, laidKinds := [.data], laidTests := true, laidLooks := .later }
def CrabKeysCardSaid : Prop := Claim7.holds Tryz.pinned (.plain (OpenSpec.ofChange crabKeysSpec)) crabKeysCard

/-- THE TIED CARD OF 'hermitcrablaw16.CrabBegins'. -/
def crabBeginsCard : Claim7 := { stood := { row := crabBeginsRow, standIns := [], harness := (true, "b446bb6fbd90a262edb26febaf697f3423a310bfa096398a4e9a6bc1fd76dc28"), looks := true }, kinds := [], alts := [], laidByText := true, laidKinds := [.data], laidTests := true, laidLooks := .later }
def CrabBeginsCardSaid : Prop := Claim7.holds Tryz.pinned (.plain (OpenSpec.ofChange crabBeginsSpec)) crabBeginsCard

/-- THE TIED CARD OF 'hermitcrablaw16.CrabOne'. -/
def crabOneCard : Claim7 := { stood := { row := crabOneRow, standIns := [], harness := (true, "b446bb6fbd90a262edb26febaf697f3423a310bfa096398a4e9a6bc1fd76dc28"), looks := true }, kinds := [], alts := [], laidByText := true, laidKinds := [.data], laidTests := true, laidLooks := .later }
def CrabOneCardSaid : Prop := Claim7.holds Tryz.pinned (.plain (OpenSpec.ofChange crabOneSpec)) crabOneCard

/-- THE TIED CARD OF 'hermitcrablaw16.CrabCreates'. -/
def crabCreatesCard : Claim7 := { stood := { row := crabCreatesRow, standIns := [], harness := (true, "b446bb6fbd90a262edb26febaf697f3423a310bfa096398a4e9a6bc1fd76dc28"), looks := true }, kinds := [], alts := [], laidByText := true, laidKinds := [.data], laidTests := true, laidLooks := .later }
def CrabCreatesCardSaid : Prop := Claim7.holds Tryz.pinned (.plain (OpenSpec.ofChange crabCreatesSpec)) crabCreatesCard

/-- THE TIED CARD OF 'hermitcrablaw16.CrabPages'. -/
def crabPagesCard : Claim7 := { stood := { row := crabPagesRow, standIns := [], harness := (true, "b446bb6fbd90a262edb26febaf697f3423a310bfa096398a4e9a6bc1fd76dc28"), looks := true }, kinds := [], alts := [], laidByText := true, laidKinds := [.data], laidTests := true, laidLooks := .later }
def CrabPagesCardSaid : Prop := Claim7.holds Tryz.pinned (.plain (OpenSpec.ofChange crabPagesSpec)) crabPagesCard

/-- THE TIED CARD OF 'hermitcrablaw16.CrabNil'. -/
def crabNilCard : Claim7 := { stood := { row := crabNilRow, standIns := [], harness := (true, "b446bb6fbd90a262edb26febaf697f3423a310bfa096398a4e9a6bc1fd76dc28"), looks := true }, kinds := [], alts := [], laidByText := true, laidKinds := [.data], laidTests := true, laidLooks := .later }
def CrabNilCardSaid : Prop := Claim7.holds Tryz.pinned (.plain (OpenSpec.ofChange crabNilSpec)) crabNilCard

/-- THE TIED CARD OF 'hermitcrablaw20.CrossOthers'. -/
def crossOthersCard : Claim7 := { stood := { row := crossOthersRow, standIns := [], harness := (true, "b446bb6fbd90a262edb26febaf697f3423a310bfa096398a4e9a6bc1fd76dc28"), looks := true }, kinds := [], alts := [], laidByText := true, laidKinds := [.data], laidTests := true, laidLooks := .later }
def CrossOthersCardSaid : Prop := Claim7.holds Tryz.pinned (.plain (OpenSpec.ofChange crossOthersSpec)) crossOthersCard

/-- THE TIED CARD OF 'hermitcrablaw21.ProofArgs'. -/
def proofArgsCard : Claim7 := { stood := { row := proofArgsRow, standIns := [], harness := (true, "b446bb6fbd90a262edb26febaf697f3423a310bfa096398a4e9a6bc1fd76dc28"), looks := true }, kinds := [], alts := [], laidByText := true, laidKinds := [.data], laidTests := true, laidLooks := .later }
def ProofArgsCardSaid : Prop := Claim7.holds Tryz.pinned (.plain (OpenSpec.ofChange proofArgsSpec)) proofArgsCard

/-- THE TIED CARD OF 'hermitcrablaw21.ProofSwaps'. -/
def proofSwapsCard : Claim7 := { stood := { row := proofSwapsRow, standIns := [], harness := (true, "b446bb6fbd90a262edb26febaf697f3423a310bfa096398a4e9a6bc1fd76dc28"), looks := true }, kinds := [], alts := [], laidByText := true, laidKinds := [.data], laidTests := true, laidLooks := .later }
def ProofSwapsCardSaid : Prop := Claim7.holds Tryz.pinned (.plain (OpenSpec.ofChange proofSwapsSpec)) proofSwapsCard

/-- THE SECOND FORM's CARD OF 'hermitcrablaw23.IdealOne'. -/
def idealOneUptoCard : Claim7 := { stood := { row := idealOneUptoRow, standIns := [], harness := (true, "b446bb6fbd90a262edb26febaf697f3423a310bfa096398a4e9a6bc1fd76dc28"), looks := true }, kinds := [], alts := [], laidByText := true, laidKinds := [.data], laidTests := true, laidLooks := .later }
def IdealOneUptoCardSaid : Prop := Claim7.holds Tryz.pinned (.plain (OpenSpec.upto idealOneSpec)) idealOneUptoCard

/-- THE SECOND FORM's CARD OF 'hermitcrablaw16.CrabTells'. -/
def crabTellsUptoCard : Claim7 := { stood := { row := crabTellsUptoRow, standIns := [], harness := (true, "b446bb6fbd90a262edb26febaf697f3423a310bfa096398a4e9a6bc1fd76dc28"), looks := true }, kinds := [], alts := [], laidByText := true, laidKinds := [.data], laidTests := true, laidLooks := .later }
def CrabTellsUptoCardSaid : Prop := Claim7.holds Tryz.pinned (.plain (OpenSpec.upto crabTellsSpec)) crabTellsUptoCard

/-- THE SECOND FORM's CARD OF 'hermitcrablaw16.CrabDisks'. -/
def crabDisksUptoCard : Claim7 := { stood := { row := crabDisksUptoRow, standIns := [], harness := (true, "b446bb6fbd90a262edb26febaf697f3423a310bfa096398a4e9a6bc1fd76dc28"), looks := true }, kinds := [], alts := [], laidByText := true, laidKinds := [.data], laidTests := true, laidLooks := .later }
def CrabDisksUptoCardSaid : Prop := Claim7.holds Tryz.pinned (.plain (OpenSpec.upto crabDisksSpec)) crabDisksUptoCard

/-- THE SECOND FORM's CARD OF 'hermitcrablaw16.CrabKeys'. -/
def crabKeysUptoCard : Claim7 := { stood := { row := crabKeysUptoRow, standIns := [], harness := (true, "b446bb6fbd90a262edb26febaf697f3423a310bfa096398a4e9a6bc1fd76dc28"), looks := true }, kinds := [], alts := [], laidByText := true, laidKinds := [.data], laidTests := true, laidLooks := .later }
def CrabKeysUptoCardSaid : Prop := Claim7.holds Tryz.pinned (.plain (OpenSpec.upto crabKeysSpec)) crabKeysUptoCard

/-- THE SECOND FORM's CARD OF 'hermitcrablaw16.CrabBegins'. -/
def crabBeginsUptoCard : Claim7 := { stood := { row := crabBeginsUptoRow, standIns := [], harness := (true, "b446bb6fbd90a262edb26febaf697f3423a310bfa096398a4e9a6bc1fd76dc28"), looks := true }, kinds := [], alts := [], laidByText := true, laidKinds := [.data], laidTests := true, laidLooks := .later }
def CrabBeginsUptoCardSaid : Prop := Claim7.holds Tryz.pinned (.plain (OpenSpec.upto crabBeginsSpec)) crabBeginsUptoCard

/-- THE SECOND FORM's CARD OF 'hermitcrablaw16.CrabOne'. -/
def crabOneUptoCard : Claim7 := { stood := { row := crabOneUptoRow, standIns := [], harness := (true, "b446bb6fbd90a262edb26febaf697f3423a310bfa096398a4e9a6bc1fd76dc28"), looks := true }, kinds := [], alts := [], laidByText := true, laidKinds := [.data], laidTests := true, laidLooks := .later }
def CrabOneUptoCardSaid : Prop := Claim7.holds Tryz.pinned (.plain (OpenSpec.upto crabOneSpec)) crabOneUptoCard

/-- THE SECOND FORM's CARD OF 'hermitcrablaw16.CrabCreates'. -/
def crabCreatesUptoCard : Claim7 := { stood := { row := crabCreatesUptoRow, standIns := [], harness := (true, "b446bb6fbd90a262edb26febaf697f3423a310bfa096398a4e9a6bc1fd76dc28"), looks := true }, kinds := [], alts := [], laidByText := true, laidKinds := [.data], laidTests := true, laidLooks := .later }
def CrabCreatesUptoCardSaid : Prop := Claim7.holds Tryz.pinned (.plain (OpenSpec.upto crabCreatesSpec)) crabCreatesUptoCard

/-- THE SECOND FORM's CARD OF 'hermitcrablaw16.CrabPages'. -/
def crabPagesUptoCard : Claim7 := { stood := { row := crabPagesUptoRow, standIns := [], harness := (true, "b446bb6fbd90a262edb26febaf697f3423a310bfa096398a4e9a6bc1fd76dc28"), looks := true }, kinds := [], alts := [], laidByText := true, laidKinds := [.data], laidTests := true, laidLooks := .later }
def CrabPagesUptoCardSaid : Prop := Claim7.holds Tryz.pinned (.plain (OpenSpec.upto crabPagesSpec)) crabPagesUptoCard

/-- THE SECOND FORM's CARD OF 'hermitcrablaw16.CrabNil'. -/
def crabNilUptoCard : Claim7 := { stood := { row := crabNilUptoRow, standIns := [], harness := (true, "b446bb6fbd90a262edb26febaf697f3423a310bfa096398a4e9a6bc1fd76dc28"), looks := true }, kinds := [], alts := [], laidByText := true, laidKinds := [.data], laidTests := true, laidLooks := .later }
def CrabNilUptoCardSaid : Prop := Claim7.holds Tryz.pinned (.plain (OpenSpec.upto crabNilSpec)) crabNilUptoCard

/-- THE SECOND FORM's CARD OF 'hermitcrablaw20.CrossOthers'. -/
def crossOthersUptoCard : Claim7 := { stood := { row := crossOthersUptoRow, standIns := [], harness := (true, "b446bb6fbd90a262edb26febaf697f3423a310bfa096398a4e9a6bc1fd76dc28"), looks := true }, kinds := [], alts := [], laidByText := true, laidKinds := [.data], laidTests := true, laidLooks := .later }
def CrossOthersUptoCardSaid : Prop := Claim7.holds Tryz.pinned (.plain (OpenSpec.upto crossOthersSpec)) crossOthersUptoCard

/-- THE SECOND FORM's CARD OF 'hermitcrablaw21.ProofArgs'. -/
def proofArgsUptoCard : Claim7 := { stood := { row := proofArgsUptoRow, standIns := [], harness := (true, "b446bb6fbd90a262edb26febaf697f3423a310bfa096398a4e9a6bc1fd76dc28"), looks := true }, kinds := [], alts := [], laidByText := true, laidKinds := [.data], laidTests := true, laidLooks := .later }
def ProofArgsUptoCardSaid : Prop := Claim7.holds Tryz.pinned (.plain (OpenSpec.upto proofArgsSpec)) proofArgsUptoCard

/-- THE SECOND FORM's CARD OF 'hermitcrablaw21.ProofSwaps'. -/
def proofSwapsUptoCard : Claim7 := { stood := { row := proofSwapsUptoRow, standIns := [], harness := (true, "b446bb6fbd90a262edb26febaf697f3423a310bfa096398a4e9a6bc1fd76dc28"), looks := true }, kinds := [], alts := [], laidByText := true, laidKinds := [.data], laidTests := true, laidLooks := .later }
def ProofSwapsUptoCardSaid : Prop := Claim7.holds Tryz.pinned (.plain (OpenSpec.upto proofSwapsSpec)) proofSwapsUptoCard
end Rows
end Go.Proofs.YtabdpmnhjlmnlaaGreatDoor
