/-
  NARROWER THAN 'FOR EVERY INPUT', by the rows' own cells (each row's printed sentence says how): CrossMoves: laid · CrossTwins: laid · ProofHolds: laid · ProofTables: laid · OldBound: laid · OldForm: laid · OldReads: laid · OldPieces: laid · OldBytes: laid · FreshForm: laid · CrossBytes: laid · CrossBoth: laid.
  DERIVED. THE GIVEN ROWS OF THIS SEAT. 12 by the template 'for every input the law returns true; each argument reads behind the call as it read before'; 0 by the template 'total and deterministic' (their statements: YthaiblbnpcgjpaaGreatDoorTotals.lean).
  GIVEN WITH THE SEED: the statements are not yours to turn. If you find one false, say at which input.
  Laid BY PROGRAM, IN A SANDBOX (cutbox-rows.mjs): the forced cells as the released guide's own fill.sh prints them over the translation 751eb1ee8bf4199a… (all of the seat's roots in one cut). By AI agents, Wed Nov 11 2026. No macro, syntax, notation, axiom, sorry.
-/
import Derived.Test.YthaiblbnpcgjpaaGreatDoorChecked
import GoSem.Claim
import GoSem.ClaimJoined
import GoSem.ClaimMapViews
import Derived.JoinedTies
import Derived.KernelRfl
namespace Go.Proofs.YthaiblbnpcgjpaaGreatDoor
/- THE CELL 'sum', in the pinned program and in every row, IS THE sha256 OF THE DUMP (.gsa) THAT YthaiblbnpcgjpaaGreatDoorProg.lean LOADS. Nothing in Lean hashes anything: it is a label: what it is worth is what the hold of that sum in a sandbox is worth. -/
noncomputable def Tryz.pinned : Pinned := { name := "ythaiblbnpcgjpaagreatdoor", sum := "751eb1ee8bf4199aef4d86ee021f3092e0381740e0c00463e1b77fa181287cc0", checked := Tryz.checked }
namespace Rows
def none {H : Type} : Left H := { results := [], args := [] }

/- WHAT THE LISTED PACKAGE-LEVEL VARIABLES READ AS WHEN THE CALL BEGINS. Each datum BY PROGRAM (the guide's laid-datum.mjs) off the statement by which the dump's own 'gosem.cut.vars' lays the variable. In a bare row this is a premise. The card (YthaiblbnpcgjpaaGreatDoorCards.lean) ties it to the program's text. -/
def laid_math_bits_deBruijn64tab {H : Type} : DataW H := .agg [.lit (.int .u8 0), .lit (.int .u8 1), .lit (.int .u8 56), .lit (.int .u8 2), .lit (.int .u8 57), .lit (.int .u8 49), .lit (.int .u8 28), .lit (.int .u8 3), .lit (.int .u8 61), .lit (.int .u8 58), .lit (.int .u8 42), .lit (.int .u8 50), .lit (.int .u8 38), .lit (.int .u8 29), .lit (.int .u8 17), .lit (.int .u8 4), .lit (.int .u8 62), .lit (.int .u8 47), .lit (.int .u8 59), .lit (.int .u8 36), .lit (.int .u8 45), .lit (.int .u8 43), .lit (.int .u8 51), .lit (.int .u8 22), .lit (.int .u8 53), .lit (.int .u8 39), .lit (.int .u8 33), .lit (.int .u8 30), .lit (.int .u8 24), .lit (.int .u8 18), .lit (.int .u8 12), .lit (.int .u8 5), .lit (.int .u8 63), .lit (.int .u8 55), .lit (.int .u8 48), .lit (.int .u8 27), .lit (.int .u8 60), .lit (.int .u8 41), .lit (.int .u8 37), .lit (.int .u8 16), .lit (.int .u8 46), .lit (.int .u8 35), .lit (.int .u8 44), .lit (.int .u8 21), .lit (.int .u8 52), .lit (.int .u8 32), .lit (.int .u8 23), .lit (.int .u8 11), .lit (.int .u8 54), .lit (.int .u8 26), .lit (.int .u8 40), .lit (.int .u8 15), .lit (.int .u8 34), .lit (.int .u8 20), .lit (.int .u8 31), .lit (.int .u8 10), .lit (.int .u8 25), .lit (.int .u8 14), .lit (.int .u8 19), .lit (.int .u8 9), .lit (.int .u8 13), .lit (.int .u8 8), .lit (.int .u8 7), .lit (.int .u8 6)]

/-- 'hermitcrablaw20.CrossMoves': WHATEVER THE INPUT: true; the input reads as it did. -/
def crossMovesSpec : ChangeSpec := { name := "crossMoves", fn := fun _ => fun
  | [d1, d2, d3] => { results := [.lit (.bool true)], args := [d1, d2, d3] }
  | _ => none }
def crossMovesRow : OpenClaim := { program := "ythaiblbnpcgjpaagreatdoor", sum := "751eb1ee8bf4199aef4d86ee021f3092e0381740e0c00463e1b77fa181287cc0", func := "hermitcrab/hermitcrablaw20.CrossMoves", spec := "crossMoves", unfollowed := true, recurses := true, named := ["math/bits.deBruijn64tab"], plainKeys := false, apart := false, laid := [("math/bits.deBruijn64tab", laid_math_bits_deBruijn64tab)] }
def CrossMovesSaid : Prop := crossMovesRow.holds Tryz.pinned (OpenSpec.ofChange crossMovesSpec)

/-- ITS FALSE NEIGHBOUR: 'it returns false'. Refute it at one input. -/
def crossMovesWrong : ChangeSpec := { name := "crossMoves", fn := fun _ => fun
  | [d1, d2, d3] => { results := [.lit (.bool false)], args := [d1, d2, d3] }
  | _ => none }
def CrossMovesWrongFalsely : Prop := crossMovesRow.holds Tryz.pinned (OpenSpec.ofChange crossMovesWrong)

/-- 'hermitcrablaw20.CrossTwins': WHATEVER THE INPUT: true; the input reads as it did. -/
def crossTwinsSpec : ChangeSpec := { name := "crossTwins", fn := fun _ => fun
  | [d1, d2, d3] => { results := [.lit (.bool true)], args := [d1, d2, d3] }
  | _ => none }
def crossTwinsRow : OpenClaim := { program := "ythaiblbnpcgjpaagreatdoor", sum := "751eb1ee8bf4199aef4d86ee021f3092e0381740e0c00463e1b77fa181287cc0", func := "hermitcrab/hermitcrablaw20.CrossTwins", spec := "crossTwins", unfollowed := true, recurses := true, named := ["math/bits.deBruijn64tab"], plainKeys := false, apart := false, laid := [("math/bits.deBruijn64tab", laid_math_bits_deBruijn64tab)] }
def CrossTwinsSaid : Prop := crossTwinsRow.holds Tryz.pinned (OpenSpec.ofChange crossTwinsSpec)

/-- ITS FALSE NEIGHBOUR: 'it returns false'. Refute it at one input. -/
def crossTwinsWrong : ChangeSpec := { name := "crossTwins", fn := fun _ => fun
  | [d1, d2, d3] => { results := [.lit (.bool false)], args := [d1, d2, d3] }
  | _ => none }
def CrossTwinsWrongFalsely : Prop := crossTwinsRow.holds Tryz.pinned (OpenSpec.ofChange crossTwinsWrong)

/-- 'hermitcrablaw21.ProofHolds': WHATEVER THE INPUT: true; the input reads as it did. -/
def proofHoldsSpec : ChangeSpec := { name := "proofHolds", fn := fun _ => fun
  | [d1, d2, d3] => { results := [.lit (.bool true)], args := [d1, d2, d3] }
  | _ => none }
def proofHoldsRow : OpenClaim := { program := "ythaiblbnpcgjpaagreatdoor", sum := "751eb1ee8bf4199aef4d86ee021f3092e0381740e0c00463e1b77fa181287cc0", func := "hermitcrab/hermitcrablaw21.ProofHolds", spec := "proofHolds", unfollowed := true, recurses := true, named := ["math/bits.deBruijn64tab"], plainKeys := false, apart := false, laid := [("math/bits.deBruijn64tab", laid_math_bits_deBruijn64tab)] }
def ProofHoldsSaid : Prop := proofHoldsRow.holds Tryz.pinned (OpenSpec.ofChange proofHoldsSpec)

/-- ITS FALSE NEIGHBOUR: 'it returns false'. Refute it at one input. -/
def proofHoldsWrong : ChangeSpec := { name := "proofHolds", fn := fun _ => fun
  | [d1, d2, d3] => { results := [.lit (.bool false)], args := [d1, d2, d3] }
  | _ => none }
def ProofHoldsWrongFalsely : Prop := proofHoldsRow.holds Tryz.pinned (OpenSpec.ofChange proofHoldsWrong)

/-- 'hermitcrablaw21.ProofTables': WHATEVER THE INPUT: true; the input reads as it did. -/
def proofTablesSpec : ChangeSpec := { name := "proofTables", fn := fun _ => fun
  | [d1, d2, d3, d4, d5, d6] => { results := [.lit (.bool true)], args := [d1, d2, d3, d4, d5, d6] }
  | _ => none }
def proofTablesRow : OpenClaim := { program := "ythaiblbnpcgjpaagreatdoor", sum := "751eb1ee8bf4199aef4d86ee021f3092e0381740e0c00463e1b77fa181287cc0", func := "hermitcrab/hermitcrablaw21.ProofTables", spec := "proofTables", unfollowed := true, recurses := true, named := ["math/bits.deBruijn64tab"], plainKeys := false, apart := false, laid := [("math/bits.deBruijn64tab", laid_math_bits_deBruijn64tab)] }
def ProofTablesSaid : Prop := proofTablesRow.holds Tryz.pinned (OpenSpec.ofChange proofTablesSpec)

/-- ITS FALSE NEIGHBOUR: 'it returns false'. Refute it at one input. -/
def proofTablesWrong : ChangeSpec := { name := "proofTables", fn := fun _ => fun
  | [d1, d2, d3, d4, d5, d6] => { results := [.lit (.bool false)], args := [d1, d2, d3, d4, d5, d6] }
  | _ => none }
def ProofTablesWrongFalsely : Prop := proofTablesRow.holds Tryz.pinned (OpenSpec.ofChange proofTablesWrong)

/-- 'hermitcrablaw18.OldBound': WHATEVER THE INPUT: true; the input reads as it did. -/
def oldBoundSpec : ChangeSpec := { name := "oldBound", fn := fun _ => fun
  | [d1, d2] => { results := [.lit (.bool true)], args := [d1, d2] }
  | _ => none }
def oldBoundRow : OpenClaim := { program := "ythaiblbnpcgjpaagreatdoor", sum := "751eb1ee8bf4199aef4d86ee021f3092e0381740e0c00463e1b77fa181287cc0", func := "hermitcrab/hermitcrablaw18.OldBound", spec := "oldBound", unfollowed := true, recurses := true, named := ["math/bits.deBruijn64tab"], plainKeys := false, apart := false, laid := [("math/bits.deBruijn64tab", laid_math_bits_deBruijn64tab)] }
def OldBoundSaid : Prop := oldBoundRow.holds Tryz.pinned (OpenSpec.ofChange oldBoundSpec)

/-- ITS FALSE NEIGHBOUR: 'it returns false'. Refute it at one input. -/
def oldBoundWrong : ChangeSpec := { name := "oldBound", fn := fun _ => fun
  | [d1, d2] => { results := [.lit (.bool false)], args := [d1, d2] }
  | _ => none }
def OldBoundWrongFalsely : Prop := oldBoundRow.holds Tryz.pinned (OpenSpec.ofChange oldBoundWrong)

/-- 'hermitcrablaw18.OldForm': WHATEVER THE INPUT: true; the input reads as it did. -/
def oldFormSpec : ChangeSpec := { name := "oldForm", fn := fun _ => fun
  | [d1, d2] => { results := [.lit (.bool true)], args := [d1, d2] }
  | _ => none }
def oldFormRow : OpenClaim := { program := "ythaiblbnpcgjpaagreatdoor", sum := "751eb1ee8bf4199aef4d86ee021f3092e0381740e0c00463e1b77fa181287cc0", func := "hermitcrab/hermitcrablaw18.OldForm", spec := "oldForm", unfollowed := true, recurses := true, named := ["math/bits.deBruijn64tab"], plainKeys := false, apart := false, laid := [("math/bits.deBruijn64tab", laid_math_bits_deBruijn64tab)] }
def OldFormSaid : Prop := oldFormRow.holds Tryz.pinned (OpenSpec.ofChange oldFormSpec)

/-- ITS FALSE NEIGHBOUR: 'it returns false'. Refute it at one input. -/
def oldFormWrong : ChangeSpec := { name := "oldForm", fn := fun _ => fun
  | [d1, d2] => { results := [.lit (.bool false)], args := [d1, d2] }
  | _ => none }
def OldFormWrongFalsely : Prop := oldFormRow.holds Tryz.pinned (OpenSpec.ofChange oldFormWrong)

/-- 'hermitcrablaw18.OldReads': WHATEVER THE INPUT: true; the input reads as it did. -/
def oldReadsSpec : ChangeSpec := { name := "oldReads", fn := fun _ => fun
  | [d1, d2, d3, d4, d5, d6] => { results := [.lit (.bool true)], args := [d1, d2, d3, d4, d5, d6] }
  | _ => none }
def oldReadsRow : OpenClaim := { program := "ythaiblbnpcgjpaagreatdoor", sum := "751eb1ee8bf4199aef4d86ee021f3092e0381740e0c00463e1b77fa181287cc0", func := "hermitcrab/hermitcrablaw18.OldReads", spec := "oldReads", unfollowed := true, recurses := true, named := ["math/bits.deBruijn64tab"], plainKeys := false, apart := false, laid := [("math/bits.deBruijn64tab", laid_math_bits_deBruijn64tab)] }
def OldReadsSaid : Prop := oldReadsRow.holds Tryz.pinned (OpenSpec.ofChange oldReadsSpec)

/-- ITS FALSE NEIGHBOUR: 'it returns false'. Refute it at one input. -/
def oldReadsWrong : ChangeSpec := { name := "oldReads", fn := fun _ => fun
  | [d1, d2, d3, d4, d5, d6] => { results := [.lit (.bool false)], args := [d1, d2, d3, d4, d5, d6] }
  | _ => none }
def OldReadsWrongFalsely : Prop := oldReadsRow.holds Tryz.pinned (OpenSpec.ofChange oldReadsWrong)

/-- 'hermitcrablaw18.OldPieces': WHATEVER THE INPUT: true; the input reads as it did. -/
def oldPiecesSpec : ChangeSpec := { name := "oldPieces", fn := fun _ => fun
  | [d1, d2, d3, d4, d5, d6] => { results := [.lit (.bool true)], args := [d1, d2, d3, d4, d5, d6] }
  | _ => none }
def oldPiecesRow : OpenClaim := { program := "ythaiblbnpcgjpaagreatdoor", sum := "751eb1ee8bf4199aef4d86ee021f3092e0381740e0c00463e1b77fa181287cc0", func := "hermitcrab/hermitcrablaw18.OldPieces", spec := "oldPieces", unfollowed := true, recurses := true, named := ["math/bits.deBruijn64tab"], plainKeys := false, apart := false, laid := [("math/bits.deBruijn64tab", laid_math_bits_deBruijn64tab)] }
def OldPiecesSaid : Prop := oldPiecesRow.holds Tryz.pinned (OpenSpec.ofChange oldPiecesSpec)

/-- ITS FALSE NEIGHBOUR: 'it returns false'. Refute it at one input. -/
def oldPiecesWrong : ChangeSpec := { name := "oldPieces", fn := fun _ => fun
  | [d1, d2, d3, d4, d5, d6] => { results := [.lit (.bool false)], args := [d1, d2, d3, d4, d5, d6] }
  | _ => none }
def OldPiecesWrongFalsely : Prop := oldPiecesRow.holds Tryz.pinned (OpenSpec.ofChange oldPiecesWrong)

/-- 'hermitcrablaw18.OldBytes': WHATEVER THE INPUT: true; the input reads as it did. -/
def oldBytesSpec : ChangeSpec := { name := "oldBytes", fn := fun _ => fun
  | [d1, d2] => { results := [.lit (.bool true)], args := [d1, d2] }
  | _ => none }
def oldBytesRow : OpenClaim := { program := "ythaiblbnpcgjpaagreatdoor", sum := "751eb1ee8bf4199aef4d86ee021f3092e0381740e0c00463e1b77fa181287cc0", func := "hermitcrab/hermitcrablaw18.OldBytes", spec := "oldBytes", unfollowed := true, recurses := true, named := ["math/bits.deBruijn64tab"], plainKeys := false, apart := false, laid := [("math/bits.deBruijn64tab", laid_math_bits_deBruijn64tab)] }
def OldBytesSaid : Prop := oldBytesRow.holds Tryz.pinned (OpenSpec.ofChange oldBytesSpec)

/-- ITS FALSE NEIGHBOUR: 'it returns false'. Refute it at one input. -/
def oldBytesWrong : ChangeSpec := { name := "oldBytes", fn := fun _ => fun
  | [d1, d2] => { results := [.lit (.bool false)], args := [d1, d2] }
  | _ => none }
def OldBytesWrongFalsely : Prop := oldBytesRow.holds Tryz.pinned (OpenSpec.ofChange oldBytesWrong)

/-- 'hermitcrablaw19.FreshForm': WHATEVER THE INPUT: true; the input reads as it did. -/
def freshFormSpec : ChangeSpec := { name := "freshForm", fn := fun _ => fun
  | [d1, d2] => { results := [.lit (.bool true)], args := [d1, d2] }
  | _ => none }
def freshFormRow : OpenClaim := { program := "ythaiblbnpcgjpaagreatdoor", sum := "751eb1ee8bf4199aef4d86ee021f3092e0381740e0c00463e1b77fa181287cc0", func := "hermitcrab/hermitcrablaw19.FreshForm", spec := "freshForm", unfollowed := true, recurses := true, named := ["math/bits.deBruijn64tab"], plainKeys := false, apart := false, laid := [("math/bits.deBruijn64tab", laid_math_bits_deBruijn64tab)] }
def FreshFormSaid : Prop := freshFormRow.holds Tryz.pinned (OpenSpec.ofChange freshFormSpec)

/-- ITS FALSE NEIGHBOUR: 'it returns false'. Refute it at one input. -/
def freshFormWrong : ChangeSpec := { name := "freshForm", fn := fun _ => fun
  | [d1, d2] => { results := [.lit (.bool false)], args := [d1, d2] }
  | _ => none }
def FreshFormWrongFalsely : Prop := freshFormRow.holds Tryz.pinned (OpenSpec.ofChange freshFormWrong)

/-- 'hermitcrablaw20.CrossBytes': WHATEVER THE INPUT: true; the input reads as it did. -/
def crossBytesSpec : ChangeSpec := { name := "crossBytes", fn := fun _ => fun
  | [d1, d2, d3, d4] => { results := [.lit (.bool true)], args := [d1, d2, d3, d4] }
  | _ => none }
def crossBytesRow : OpenClaim := { program := "ythaiblbnpcgjpaagreatdoor", sum := "751eb1ee8bf4199aef4d86ee021f3092e0381740e0c00463e1b77fa181287cc0", func := "hermitcrab/hermitcrablaw20.CrossBytes", spec := "crossBytes", unfollowed := true, recurses := true, named := ["math/bits.deBruijn64tab"], plainKeys := false, apart := false, laid := [("math/bits.deBruijn64tab", laid_math_bits_deBruijn64tab)] }
def CrossBytesSaid : Prop := crossBytesRow.holds Tryz.pinned (OpenSpec.ofChange crossBytesSpec)

/-- ITS FALSE NEIGHBOUR: 'it returns false'. Refute it at one input. -/
def crossBytesWrong : ChangeSpec := { name := "crossBytes", fn := fun _ => fun
  | [d1, d2, d3, d4] => { results := [.lit (.bool false)], args := [d1, d2, d3, d4] }
  | _ => none }
def CrossBytesWrongFalsely : Prop := crossBytesRow.holds Tryz.pinned (OpenSpec.ofChange crossBytesWrong)

/-- 'hermitcrablaw20.CrossBoth': WHATEVER THE INPUT: true; the input reads as it did. -/
def crossBothSpec : ChangeSpec := { name := "crossBoth", fn := fun _ => fun
  | [d1, d2, d3] => { results := [.lit (.bool true)], args := [d1, d2, d3] }
  | _ => none }
def crossBothRow : OpenClaim := { program := "ythaiblbnpcgjpaagreatdoor", sum := "751eb1ee8bf4199aef4d86ee021f3092e0381740e0c00463e1b77fa181287cc0", func := "hermitcrab/hermitcrablaw20.CrossBoth", spec := "crossBoth", unfollowed := true, recurses := true, named := ["math/bits.deBruijn64tab"], plainKeys := false, apart := false, laid := [("math/bits.deBruijn64tab", laid_math_bits_deBruijn64tab)] }
def CrossBothSaid : Prop := crossBothRow.holds Tryz.pinned (OpenSpec.ofChange crossBothSpec)

/-- ITS FALSE NEIGHBOUR: 'it returns false'. Refute it at one input. -/
def crossBothWrong : ChangeSpec := { name := "crossBoth", fn := fun _ => fun
  | [d1, d2, d3] => { results := [.lit (.bool false)], args := [d1, d2, d3] }
  | _ => none }
def CrossBothWrongFalsely : Prop := crossBothRow.holds Tryz.pinned (OpenSpec.ofChange crossBothWrong)

/- THE SECOND FORM. 'bulk': how many values and letters a reading holds, each counted each time it is reached (what is shared counts as often as it is met; a slice's spare places count too). A statement '..UptoSaid' is the law's where the arguments, and the package variables that the reading takes, are together of bulk at most 1048576: NARROWER than '..Said'. Prove '..Said' where nothing that the law and all that it calls make is longer than what came in: it says more and counts as full. Else prove '..UptoSaid'. A law counts once. -/
mutual
def uptoBulk {H : Type} : DataW H → Nat
  | .lit (.string bytes) => bytes.length + 1
  | .lit _ => 1
  | .nil => 1
  | .ptr d => uptoBulk d + 1
  | .slice elems spare => uptoBulkAll elems + uptoBulkAll spare + 1
  | .agg parts => uptoBulkAll parts + 1
  | .iface _ d => uptoBulk d + 1
  | .map entries => uptoBulkEntries entries + 1
  | .held _ => 1
def uptoBulkAll {H : Type} : List (DataW H) → Nat
  | [] => 0
  | d :: r => uptoBulk d + uptoBulkAll r
def uptoBulkEntries {H : Type} : List (Lit × DataW H) → Nat
  | [] => 0
  | x :: r => uptoBulkEntry x + uptoBulkEntries r
def uptoBulkEntry {H : Type} : Lit × DataW H → Nat
  | (.string bytes, d) => bytes.length + uptoBulk d + 1
  | (_, d) => uptoBulk d + 1
 end
def uptoSmall : (H : Type) → List (DataW H) → Bool := fun _ ds => decide (uptoBulkAll ds ≤ 1048576)
def OpenSpec.upto (s : _root_.Go.ChangeSpec) : _root_.Go.OpenSpec := { _root_.Go.OpenSpec.ofChange s with cond := some uptoSmall }

/-- 'hermitcrablaw20.CrossMoves', WHERE WHAT IT READS IS OF BULK AT MOST 1048576: true; the input reads as it did. -/
def crossMovesUptoRow : OpenClaim := { program := "ythaiblbnpcgjpaagreatdoor", sum := "751eb1ee8bf4199aef4d86ee021f3092e0381740e0c00463e1b77fa181287cc0", func := "hermitcrab/hermitcrablaw20.CrossMoves", spec := "crossMoves", unfollowed := true, recurses := true, named := ["math/bits.deBruijn64tab"], plainKeys := false, apart := false, laid := [("math/bits.deBruijn64tab", laid_math_bits_deBruijn64tab)], narrowed := true }
def CrossMovesUptoSaid : Prop := crossMovesUptoRow.holds Tryz.pinned (OpenSpec.upto crossMovesSpec)

/-- 'hermitcrablaw20.CrossTwins', WHERE WHAT IT READS IS OF BULK AT MOST 1048576: true; the input reads as it did. -/
def crossTwinsUptoRow : OpenClaim := { program := "ythaiblbnpcgjpaagreatdoor", sum := "751eb1ee8bf4199aef4d86ee021f3092e0381740e0c00463e1b77fa181287cc0", func := "hermitcrab/hermitcrablaw20.CrossTwins", spec := "crossTwins", unfollowed := true, recurses := true, named := ["math/bits.deBruijn64tab"], plainKeys := false, apart := false, laid := [("math/bits.deBruijn64tab", laid_math_bits_deBruijn64tab)], narrowed := true }
def CrossTwinsUptoSaid : Prop := crossTwinsUptoRow.holds Tryz.pinned (OpenSpec.upto crossTwinsSpec)

/-- 'hermitcrablaw21.ProofHolds', WHERE WHAT IT READS IS OF BULK AT MOST 1048576: true; the input reads as it did. -/
def proofHoldsUptoRow : OpenClaim := { program := "ythaiblbnpcgjpaagreatdoor", sum := "751eb1ee8bf4199aef4d86ee021f3092e0381740e0c00463e1b77fa181287cc0", func := "hermitcrab/hermitcrablaw21.ProofHolds", spec := "proofHolds", unfollowed := true, recurses := true, named := ["math/bits.deBruijn64tab"], plainKeys := false, apart := false, laid := [("math/bits.deBruijn64tab", laid_math_bits_deBruijn64tab)], narrowed := true }
def ProofHoldsUptoSaid : Prop := proofHoldsUptoRow.holds Tryz.pinned (OpenSpec.upto proofHoldsSpec)

/-- 'hermitcrablaw21.ProofTables', WHERE WHAT IT READS IS OF BULK AT MOST 1048576: true; the input reads as it did. -/
def proofTablesUptoRow : OpenClaim := { program := "ythaiblbnpcgjpaagreatdoor", sum := "751eb1ee8bf4199aef4d86ee021f3092e0381740e0c00463e1b77fa181287cc0", func := "hermitcrab/hermitcrablaw21.ProofTables", spec := "proofTables", unfollowed := true, recurses := true, named := ["math/bits.deBruijn64tab"], plainKeys := false, apart := false, laid := [("math/bits.deBruijn64tab", laid_math_bits_deBruijn64tab)], narrowed := true }
def ProofTablesUptoSaid : Prop := proofTablesUptoRow.holds Tryz.pinned (OpenSpec.upto proofTablesSpec)

/-- 'hermitcrablaw18.OldBound', WHERE WHAT IT READS IS OF BULK AT MOST 1048576: true; the input reads as it did. -/
def oldBoundUptoRow : OpenClaim := { program := "ythaiblbnpcgjpaagreatdoor", sum := "751eb1ee8bf4199aef4d86ee021f3092e0381740e0c00463e1b77fa181287cc0", func := "hermitcrab/hermitcrablaw18.OldBound", spec := "oldBound", unfollowed := true, recurses := true, named := ["math/bits.deBruijn64tab"], plainKeys := false, apart := false, laid := [("math/bits.deBruijn64tab", laid_math_bits_deBruijn64tab)], narrowed := true }
def OldBoundUptoSaid : Prop := oldBoundUptoRow.holds Tryz.pinned (OpenSpec.upto oldBoundSpec)

/-- 'hermitcrablaw18.OldForm', WHERE WHAT IT READS IS OF BULK AT MOST 1048576: true; the input reads as it did. -/
def oldFormUptoRow : OpenClaim := { program := "ythaiblbnpcgjpaagreatdoor", sum := "751eb1ee8bf4199aef4d86ee021f3092e0381740e0c00463e1b77fa181287cc0", func := "hermitcrab/hermitcrablaw18.OldForm", spec := "oldForm", unfollowed := true, recurses := true, named := ["math/bits.deBruijn64tab"], plainKeys := false, apart := false, laid := [("math/bits.deBruijn64tab", laid_math_bits_deBruijn64tab)], narrowed := true }
def OldFormUptoSaid : Prop := oldFormUptoRow.holds Tryz.pinned (OpenSpec.upto oldFormSpec)

/-- 'hermitcrablaw18.OldReads', WHERE WHAT IT READS IS OF BULK AT MOST 1048576: true; the input reads as it did. -/
def oldReadsUptoRow : OpenClaim := { program := "ythaiblbnpcgjpaagreatdoor", sum := "751eb1ee8bf4199aef4d86ee021f3092e0381740e0c00463e1b77fa181287cc0", func := "hermitcrab/hermitcrablaw18.OldReads", spec := "oldReads", unfollowed := true, recurses := true, named := ["math/bits.deBruijn64tab"], plainKeys := false, apart := false, laid := [("math/bits.deBruijn64tab", laid_math_bits_deBruijn64tab)], narrowed := true }
def OldReadsUptoSaid : Prop := oldReadsUptoRow.holds Tryz.pinned (OpenSpec.upto oldReadsSpec)

/-- 'hermitcrablaw18.OldPieces', WHERE WHAT IT READS IS OF BULK AT MOST 1048576: true; the input reads as it did. -/
def oldPiecesUptoRow : OpenClaim := { program := "ythaiblbnpcgjpaagreatdoor", sum := "751eb1ee8bf4199aef4d86ee021f3092e0381740e0c00463e1b77fa181287cc0", func := "hermitcrab/hermitcrablaw18.OldPieces", spec := "oldPieces", unfollowed := true, recurses := true, named := ["math/bits.deBruijn64tab"], plainKeys := false, apart := false, laid := [("math/bits.deBruijn64tab", laid_math_bits_deBruijn64tab)], narrowed := true }
def OldPiecesUptoSaid : Prop := oldPiecesUptoRow.holds Tryz.pinned (OpenSpec.upto oldPiecesSpec)

/-- 'hermitcrablaw18.OldBytes', WHERE WHAT IT READS IS OF BULK AT MOST 1048576: true; the input reads as it did. -/
def oldBytesUptoRow : OpenClaim := { program := "ythaiblbnpcgjpaagreatdoor", sum := "751eb1ee8bf4199aef4d86ee021f3092e0381740e0c00463e1b77fa181287cc0", func := "hermitcrab/hermitcrablaw18.OldBytes", spec := "oldBytes", unfollowed := true, recurses := true, named := ["math/bits.deBruijn64tab"], plainKeys := false, apart := false, laid := [("math/bits.deBruijn64tab", laid_math_bits_deBruijn64tab)], narrowed := true }
def OldBytesUptoSaid : Prop := oldBytesUptoRow.holds Tryz.pinned (OpenSpec.upto oldBytesSpec)

/-- 'hermitcrablaw19.FreshForm', WHERE WHAT IT READS IS OF BULK AT MOST 1048576: true; the input reads as it did. -/
def freshFormUptoRow : OpenClaim := { program := "ythaiblbnpcgjpaagreatdoor", sum := "751eb1ee8bf4199aef4d86ee021f3092e0381740e0c00463e1b77fa181287cc0", func := "hermitcrab/hermitcrablaw19.FreshForm", spec := "freshForm", unfollowed := true, recurses := true, named := ["math/bits.deBruijn64tab"], plainKeys := false, apart := false, laid := [("math/bits.deBruijn64tab", laid_math_bits_deBruijn64tab)], narrowed := true }
def FreshFormUptoSaid : Prop := freshFormUptoRow.holds Tryz.pinned (OpenSpec.upto freshFormSpec)

/-- 'hermitcrablaw20.CrossBytes', WHERE WHAT IT READS IS OF BULK AT MOST 1048576: true; the input reads as it did. -/
def crossBytesUptoRow : OpenClaim := { program := "ythaiblbnpcgjpaagreatdoor", sum := "751eb1ee8bf4199aef4d86ee021f3092e0381740e0c00463e1b77fa181287cc0", func := "hermitcrab/hermitcrablaw20.CrossBytes", spec := "crossBytes", unfollowed := true, recurses := true, named := ["math/bits.deBruijn64tab"], plainKeys := false, apart := false, laid := [("math/bits.deBruijn64tab", laid_math_bits_deBruijn64tab)], narrowed := true }
def CrossBytesUptoSaid : Prop := crossBytesUptoRow.holds Tryz.pinned (OpenSpec.upto crossBytesSpec)

/-- 'hermitcrablaw20.CrossBoth', WHERE WHAT IT READS IS OF BULK AT MOST 1048576: true; the input reads as it did. -/
def crossBothUptoRow : OpenClaim := { program := "ythaiblbnpcgjpaagreatdoor", sum := "751eb1ee8bf4199aef4d86ee021f3092e0381740e0c00463e1b77fa181287cc0", func := "hermitcrab/hermitcrablaw20.CrossBoth", spec := "crossBoth", unfollowed := true, recurses := true, named := ["math/bits.deBruijn64tab"], plainKeys := false, apart := false, laid := [("math/bits.deBruijn64tab", laid_math_bits_deBruijn64tab)], narrowed := true }
def CrossBothUptoSaid : Prop := crossBothUptoRow.holds Tryz.pinned (OpenSpec.upto crossBothSpec)

end Rows
end Go.Proofs.YthaiblbnpcgjpaaGreatDoor
