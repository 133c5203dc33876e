/-
  DERIVED. GIVEN WITH THE SEED: THE CARDS: each row of YtpilffakhkagjaaDoorRows.lean that lists a variable, with what it lists TIED to the program's text (the seventh form; the later family's looks); each row that meets fmt, with fmt's text TOLD by the authors' own Lean function (tested against real Go, not proved from fmt's source: count such statements apart). THE CARD IS WHAT COUNTS. Prove the row's statement (the work); the ties are given (YtpilffakhkagjaaDoorTie.lean); close each card by the builder's one call (the guide's Derived/Test/ToyasCard.lean, 'card_holds'). Laid BY PROGRAM, IN A SANDBOX (cutbox-door.mjs). By AI agents, Wed Nov 11 2026. No macro, syntax, notation, axiom, sorry.
-/
import Derived.Test.YtpilffakhkagjaaDoorRows
import GoSem.ClaimSeven
namespace Go.Proofs.YtpilffakhkagjaaDoor
namespace Rows

/-- THE TIED CARD OF 'hermitcrablaw03.TextShows'. -/
def textShowsCard : Claim7 := { stood := { row := textShowsRow, standIns := [], harness := (true, "93d09faf2816231ac1ad36b2b31219e4c1b2a88139068f656df0714664f4c972"), looks := true }, kinds := [], alts := [], laidByText := true, laidKinds := [.data, .data, .data, .data, .sentinel, .sentinel, .data, .pinned], laidTests := true, laidLooks := .later }
def TextShowsCardSaid : Prop := Claim7.holds Tryd.pinned (.plain (OpenSpec.ofChange textShowsSpec)) textShowsCard

/-- THE TIED CARD OF 'hermitcrablaw03.TextLists'. -/
def textListsCard : Claim7 := { stood := { row := textListsRow, standIns := [], harness := (true, "93d09faf2816231ac1ad36b2b31219e4c1b2a88139068f656df0714664f4c972"), looks := true }, kinds := [], alts := [], laidByText := true, laidKinds := [.data, .data, .data, .data, .sentinel, .sentinel, .data, .pinned], laidTests := true, laidLooks := .later }
def TextListsCardSaid : Prop := Claim7.holds Tryd.pinned (.plain (OpenSpec.ofChange textListsSpec)) textListsCard

/-- THE TIED CARD OF 'hermitcrablaw03.TextFaults'. -/
def textFaultsCard : Claim7 := { stood := { row := textFaultsRow, standIns := [], harness := (true, "93d09faf2816231ac1ad36b2b31219e4c1b2a88139068f656df0714664f4c972"), looks := true }, kinds := [], alts := [], laidByText := true, laidKinds := [.data, .data, .data, .data, .sentinel, .sentinel, .data, .pinned], laidTests := true, laidLooks := .later }
def TextFaultsCardSaid : Prop := Claim7.holds Tryd.pinned (.plain (OpenSpec.ofChange textFaultsSpec)) textFaultsCard

/-- THE TIED CARD OF 'hermitcrablaw03.TextLays'. -/
def textLaysCard : Claim7 := { stood := { row := textLaysRow, standIns := [], harness := (true, "93d09faf2816231ac1ad36b2b31219e4c1b2a88139068f656df0714664f4c972"), looks := true }, kinds := [], alts := [], laidByText := true, laidKinds := [.data, .data, .data, .data, .sentinel, .sentinel, .data, .pinned], laidTests := true, laidLooks := .later }
def TextLaysCardSaid : Prop := Claim7.holds Tryd.pinned (.plain (OpenSpec.ofChange textLaysSpec)) textLaysCard

/-- THE SECOND FORM's CARD OF 'hermitcrablaw03.TextShows'. -/
def textShowsUptoCard : Claim7 := { stood := { row := textShowsUptoRow, standIns := [], harness := (true, "93d09faf2816231ac1ad36b2b31219e4c1b2a88139068f656df0714664f4c972"), looks := true }, kinds := [], alts := [], laidByText := true, laidKinds := [.data, .data, .data, .data, .sentinel, .sentinel, .data, .pinned], laidTests := true, laidLooks := .later }
def TextShowsUptoCardSaid : Prop := Claim7.holds Tryd.pinned (.plain (OpenSpec.upto textShowsSpec)) textShowsUptoCard

/-- THE SECOND FORM's CARD OF 'hermitcrablaw03.TextLists'. -/
def textListsUptoCard : Claim7 := { stood := { row := textListsUptoRow, standIns := [], harness := (true, "93d09faf2816231ac1ad36b2b31219e4c1b2a88139068f656df0714664f4c972"), looks := true }, kinds := [], alts := [], laidByText := true, laidKinds := [.data, .data, .data, .data, .sentinel, .sentinel, .data, .pinned], laidTests := true, laidLooks := .later }
def TextListsUptoCardSaid : Prop := Claim7.holds Tryd.pinned (.plain (OpenSpec.upto textListsSpec)) textListsUptoCard

/-- THE SECOND FORM's CARD OF 'hermitcrablaw03.TextFaults'. -/
def textFaultsUptoCard : Claim7 := { stood := { row := textFaultsUptoRow, standIns := [], harness := (true, "93d09faf2816231ac1ad36b2b31219e4c1b2a88139068f656df0714664f4c972"), looks := true }, kinds := [], alts := [], laidByText := true, laidKinds := [.data, .data, .data, .data, .sentinel, .sentinel, .data, .pinned], laidTests := true, laidLooks := .later }
def TextFaultsUptoCardSaid : Prop := Claim7.holds Tryd.pinned (.plain (OpenSpec.upto textFaultsSpec)) textFaultsUptoCard

/-- THE SECOND FORM's CARD OF 'hermitcrablaw03.TextLays'. -/
def textLaysUptoCard : Claim7 := { stood := { row := textLaysUptoRow, standIns := [], harness := (true, "93d09faf2816231ac1ad36b2b31219e4c1b2a88139068f656df0714664f4c972"), looks := true }, kinds := [], alts := [], laidByText := true, laidKinds := [.data, .data, .data, .data, .sentinel, .sentinel, .data, .pinned], laidTests := true, laidLooks := .later }
def TextLaysUptoCardSaid : Prop := Claim7.holds Tryd.pinned (.plain (OpenSpec.upto textLaysSpec)) textLaysUptoCard
end Rows
end Go.Proofs.YtpilffakhkagjaaDoor
