/-
  NARROWER THAN 'FOR EVERY INPUT', by the rows' own cells (each row's printed sentence says how): IdealOne: laid · CrabTells: laid · CrabDisks: laid · CrabKeys: laid · CrabBegins: laid · CrabOne: laid · CrabCreates: laid · CrabPages: laid · CrabNil: laid · CrossOthers: laid · ProofArgs: laid · ProofSwaps: laid.
  DERIVED. THE GIVEN ROWS OF THIS SEAT. 12 by the template 'for every input the law returns true; each argument reads behind the call as it read before'; 0 by the template 'total and deterministic' (their statements: YtabdpmnhjlmnlaaGreatDoorTotals.lean).
  GIVEN WITH THE SEED: the statements are not yours to turn. If you find one false, say at which input.
  Laid BY PROGRAM, IN A SANDBOX (cutbox-rows.mjs): the forced cells as the released guide's own fill.sh prints them over the translation 2c93acbffebcfd22… (all of the seat's roots in one cut). By AI agents, Wed Nov 11 2026. No macro, syntax, notation, axiom, sorry.
-/
import Derived.Test.YtabdpmnhjlmnlaaGreatDoorChecked
import GoSem.Claim
import GoSem.ClaimJoined
import GoSem.ClaimMapViews
import Derived.JoinedTies
import Derived.KernelRfl
namespace Go.Proofs.YtabdpmnhjlmnlaaGreatDoor
/- THE CELL 'sum', in the pinned program and in every row, IS THE sha256 OF THE DUMP (.gsa) THAT YtabdpmnhjlmnlaaGreatDoorProg.lean LOADS. Nothing in Lean hashes anything: it is a label: what it is worth is what the hold of that sum in a sandbox is worth. -/
noncomputable def Tryz.pinned : Pinned := { name := "ytabdpmnhjlmnlaagreatdoor", sum := "2c93acbffebcfd22df6db0b0ada5d619acd4c81e7de35c0ff0c09a9ac703544c", checked := Tryz.checked }
namespace Rows
def none {H : Type} : Left H := { results := [], args := [] }

/- WHAT THE LISTED PACKAGE-LEVEL VARIABLES READ AS WHEN THE CALL BEGINS. Each datum BY PROGRAM (the guide's laid-datum.mjs) off the statement by which the dump's own 'gosem.cut.vars' lays the variable. In a bare row this is a premise. The card (YtabdpmnhjlmnlaaGreatDoorCards.lean) ties it to the program's text. -/
def laid_math_bits_deBruijn64tab {H : Type} : DataW H := .agg [.lit (.int .u8 0), .lit (.int .u8 1), .lit (.int .u8 56), .lit (.int .u8 2), .lit (.int .u8 57), .lit (.int .u8 49), .lit (.int .u8 28), .lit (.int .u8 3), .lit (.int .u8 61), .lit (.int .u8 58), .lit (.int .u8 42), .lit (.int .u8 50), .lit (.int .u8 38), .lit (.int .u8 29), .lit (.int .u8 17), .lit (.int .u8 4), .lit (.int .u8 62), .lit (.int .u8 47), .lit (.int .u8 59), .lit (.int .u8 36), .lit (.int .u8 45), .lit (.int .u8 43), .lit (.int .u8 51), .lit (.int .u8 22), .lit (.int .u8 53), .lit (.int .u8 39), .lit (.int .u8 33), .lit (.int .u8 30), .lit (.int .u8 24), .lit (.int .u8 18), .lit (.int .u8 12), .lit (.int .u8 5), .lit (.int .u8 63), .lit (.int .u8 55), .lit (.int .u8 48), .lit (.int .u8 27), .lit (.int .u8 60), .lit (.int .u8 41), .lit (.int .u8 37), .lit (.int .u8 16), .lit (.int .u8 46), .lit (.int .u8 35), .lit (.int .u8 44), .lit (.int .u8 21), .lit (.int .u8 52), .lit (.int .u8 32), .lit (.int .u8 23), .lit (.int .u8 11), .lit (.int .u8 54), .lit (.int .u8 26), .lit (.int .u8 40), .lit (.int .u8 15), .lit (.int .u8 34), .lit (.int .u8 20), .lit (.int .u8 31), .lit (.int .u8 10), .lit (.int .u8 25), .lit (.int .u8 14), .lit (.int .u8 19), .lit (.int .u8 9), .lit (.int .u8 13), .lit (.int .u8 8), .lit (.int .u8 7), .lit (.int .u8 6)]

/-- 'hermitcrablaw23.IdealOne': WHATEVER THE INPUT: true; the input reads as it did. -/
def idealOneSpec : ChangeSpec := { name := "idealOne", fn := fun _ => fun
  | [d1, d2, d3] => { results := [.lit (.bool true)], args := [d1, d2, d3] }
  | _ => none }
def idealOneRow : OpenClaim := { program := "ytabdpmnhjlmnlaagreatdoor", sum := "2c93acbffebcfd22df6db0b0ada5d619acd4c81e7de35c0ff0c09a9ac703544c", func := "hermitcrab/hermitcrablaw23.IdealOne", spec := "idealOne", unfollowed := true, recurses := true, named := ["math/bits.deBruijn64tab"], plainKeys := false, apart := false, laid := [("math/bits.deBruijn64tab", laid_math_bits_deBruijn64tab)] }
def IdealOneSaid : Prop := idealOneRow.holds Tryz.pinned (OpenSpec.ofChange idealOneSpec)

/-- ITS FALSE NEIGHBOUR: 'it returns false'. Refute it at one input. -/
def idealOneWrong : ChangeSpec := { name := "idealOne", fn := fun _ => fun
  | [d1, d2, d3] => { results := [.lit (.bool false)], args := [d1, d2, d3] }
  | _ => none }
def IdealOneWrongFalsely : Prop := idealOneRow.holds Tryz.pinned (OpenSpec.ofChange idealOneWrong)

/-- 'hermitcrablaw16.CrabTells': WHATEVER THE INPUT: true; the input reads as it did. -/
def crabTellsSpec : ChangeSpec := { name := "crabTells", fn := fun _ => fun
  | [d1, d2, d3, d4, d5] => { results := [.lit (.bool true)], args := [d1, d2, d3, d4, d5] }
  | _ => none }
def crabTellsRow : OpenClaim := { program := "ytabdpmnhjlmnlaagreatdoor", sum := "2c93acbffebcfd22df6db0b0ada5d619acd4c81e7de35c0ff0c09a9ac703544c", func := "hermitcrab/hermitcrablaw16.CrabTells", spec := "crabTells", unfollowed := true, recurses := true, named := ["math/bits.deBruijn64tab"], plainKeys := false, apart := false, laid := [("math/bits.deBruijn64tab", laid_math_bits_deBruijn64tab)] }
def CrabTellsSaid : Prop := crabTellsRow.holds Tryz.pinned (OpenSpec.ofChange crabTellsSpec)

/-- ITS FALSE NEIGHBOUR: 'it returns false'. Refute it at one input. -/
def crabTellsWrong : ChangeSpec := { name := "crabTells", fn := fun _ => fun
  | [d1, d2, d3, d4, d5] => { results := [.lit (.bool false)], args := [d1, d2, d3, d4, d5] }
  | _ => none }
def CrabTellsWrongFalsely : Prop := crabTellsRow.holds Tryz.pinned (OpenSpec.ofChange crabTellsWrong)

/-- 'hermitcrablaw16.CrabDisks': WHATEVER THE INPUT: true; the input reads as it did. -/
def crabDisksSpec : ChangeSpec := { name := "crabDisks", fn := fun _ => fun
  | [d1, d2] => { results := [.lit (.bool true)], args := [d1, d2] }
  | _ => none }
def crabDisksRow : OpenClaim := { program := "ytabdpmnhjlmnlaagreatdoor", sum := "2c93acbffebcfd22df6db0b0ada5d619acd4c81e7de35c0ff0c09a9ac703544c", func := "hermitcrab/hermitcrablaw16.CrabDisks", spec := "crabDisks", unfollowed := true, recurses := true, named := ["math/bits.deBruijn64tab"], plainKeys := false, apart := false, laid := [("math/bits.deBruijn64tab", laid_math_bits_deBruijn64tab)] }
def CrabDisksSaid : Prop := crabDisksRow.holds Tryz.pinned (OpenSpec.ofChange crabDisksSpec)

/-- ITS FALSE NEIGHBOUR: 'it returns false'. Refute it at one input. -/
def crabDisksWrong : ChangeSpec := { name := "crabDisks", fn := fun _ => fun
  | [d1, d2] => { results := [.lit (.bool false)], args := [d1, d2] }
  | _ => none }
def CrabDisksWrongFalsely : Prop := crabDisksRow.holds Tryz.pinned (OpenSpec.ofChange crabDisksWrong)

/-- 'hermitcrablaw16.CrabKeys': WHATEVER THE INPUT: true; the input reads as it did. -/
def crabKeysSpec : ChangeSpec := { name := "crabKeys", fn := fun _ => fun
  | [d1, d2] => { results := [.lit (.bool true)], args := [d1, d2] }
  | _ => none }
def crabKeysRow : OpenClaim := { program := "ytabdpmnhjlmnlaagreatdoor", sum := "2c93acbffebcfd22df6db0b0ada5d619acd4c81e7de35c0ff0c09a9ac703544c", func := "hermitcrab/hermitcrablaw16.CrabKeys", spec := "crabKeys", unfollowed := true, recurses := true, named := ["math/bits.deBruijn64tab"], plainKeys := false, apart := false, laid := [("math/bits.deBruijn64tab", laid_math_bits_deBruijn64tab)] }
def CrabKeysSaid : Prop := crabKeysRow.holds Tryz.pinned (OpenSpec.ofChange crabKeysSpec)

/-- ITS FALSE NEIGHBOUR: 'it returns false'. Refute it at one input. -/
def crabKeysWrong : ChangeSpec := { name := "crabKeys", fn := fun _ => fun
  | [d1, d2] => { results := [.lit (.bool false)], args := [d1, d2] }
  | _ => none }
def CrabKeysWrongFalsely : Prop := crabKeysRow.holds Tryz.pinned (OpenSpec.ofChange crabKeysWrong)

/-- 'hermitcrablaw16.CrabBegins': WHATEVER THE INPUT: true; the input reads as it did. -/
def crabBeginsSpec : ChangeSpec := { name := "crabBegins", fn := fun _ => fun
  | [d1, d2, d3] => { results := [.lit (.bool true)], args := [d1, d2, d3] }
  | _ => none }
def crabBeginsRow : OpenClaim := { program := "ytabdpmnhjlmnlaagreatdoor", sum := "2c93acbffebcfd22df6db0b0ada5d619acd4c81e7de35c0ff0c09a9ac703544c", func := "hermitcrab/hermitcrablaw16.CrabBegins", spec := "crabBegins", unfollowed := true, recurses := true, named := ["math/bits.deBruijn64tab"], plainKeys := false, apart := false, laid := [("math/bits.deBruijn64tab", laid_math_bits_deBruijn64tab)] }
def CrabBeginsSaid : Prop := crabBeginsRow.holds Tryz.pinned (OpenSpec.ofChange crabBeginsSpec)

/-- ITS FALSE NEIGHBOUR: 'it returns false'. Refute it at one input. -/
def crabBeginsWrong : ChangeSpec := { name := "crabBegins", fn := fun _ => fun
  | [d1, d2, d3] => { results := [.lit (.bool false)], args := [d1, d2, d3] }
  | _ => none }
def CrabBeginsWrongFalsely : Prop := crabBeginsRow.holds Tryz.pinned (OpenSpec.ofChange crabBeginsWrong)

/-- 'hermitcrablaw16.CrabOne': WHATEVER THE INPUT: true; the input reads as it did. -/
def crabOneSpec : ChangeSpec := { name := "crabOne", fn := fun _ => fun
  | [d1, d2, d3, d4] => { results := [.lit (.bool true)], args := [d1, d2, d3, d4] }
  | _ => none }
def crabOneRow : OpenClaim := { program := "ytabdpmnhjlmnlaagreatdoor", sum := "2c93acbffebcfd22df6db0b0ada5d619acd4c81e7de35c0ff0c09a9ac703544c", func := "hermitcrab/hermitcrablaw16.CrabOne", spec := "crabOne", unfollowed := true, recurses := true, named := ["math/bits.deBruijn64tab"], plainKeys := false, apart := false, laid := [("math/bits.deBruijn64tab", laid_math_bits_deBruijn64tab)] }
def CrabOneSaid : Prop := crabOneRow.holds Tryz.pinned (OpenSpec.ofChange crabOneSpec)

/-- ITS FALSE NEIGHBOUR: 'it returns false'. Refute it at one input. -/
def crabOneWrong : ChangeSpec := { name := "crabOne", fn := fun _ => fun
  | [d1, d2, d3, d4] => { results := [.lit (.bool false)], args := [d1, d2, d3, d4] }
  | _ => none }
def CrabOneWrongFalsely : Prop := crabOneRow.holds Tryz.pinned (OpenSpec.ofChange crabOneWrong)

/-- 'hermitcrablaw16.CrabCreates': WHATEVER THE INPUT: true; the input reads as it did. -/
def crabCreatesSpec : ChangeSpec := { name := "crabCreates", fn := fun _ => fun
  | [d1, d2, d3, d4, d5] => { results := [.lit (.bool true)], args := [d1, d2, d3, d4, d5] }
  | _ => none }
def crabCreatesRow : OpenClaim := { program := "ytabdpmnhjlmnlaagreatdoor", sum := "2c93acbffebcfd22df6db0b0ada5d619acd4c81e7de35c0ff0c09a9ac703544c", func := "hermitcrab/hermitcrablaw16.CrabCreates", spec := "crabCreates", unfollowed := true, recurses := true, named := ["math/bits.deBruijn64tab"], plainKeys := false, apart := false, laid := [("math/bits.deBruijn64tab", laid_math_bits_deBruijn64tab)] }
def CrabCreatesSaid : Prop := crabCreatesRow.holds Tryz.pinned (OpenSpec.ofChange crabCreatesSpec)

/-- ITS FALSE NEIGHBOUR: 'it returns false'. Refute it at one input. -/
def crabCreatesWrong : ChangeSpec := { name := "crabCreates", fn := fun _ => fun
  | [d1, d2, d3, d4, d5] => { results := [.lit (.bool false)], args := [d1, d2, d3, d4, d5] }
  | _ => none }
def CrabCreatesWrongFalsely : Prop := crabCreatesRow.holds Tryz.pinned (OpenSpec.ofChange crabCreatesWrong)

/-- 'hermitcrablaw16.CrabPages': WHATEVER THE INPUT: true; the input reads as it did. -/
def crabPagesSpec : ChangeSpec := { name := "crabPages", fn := fun _ => fun
  | [d1, d2] => { results := [.lit (.bool true)], args := [d1, d2] }
  | _ => none }
def crabPagesRow : OpenClaim := { program := "ytabdpmnhjlmnlaagreatdoor", sum := "2c93acbffebcfd22df6db0b0ada5d619acd4c81e7de35c0ff0c09a9ac703544c", func := "hermitcrab/hermitcrablaw16.CrabPages", spec := "crabPages", unfollowed := true, recurses := true, named := ["math/bits.deBruijn64tab"], plainKeys := false, apart := false, laid := [("math/bits.deBruijn64tab", laid_math_bits_deBruijn64tab)] }
def CrabPagesSaid : Prop := crabPagesRow.holds Tryz.pinned (OpenSpec.ofChange crabPagesSpec)

/-- ITS FALSE NEIGHBOUR: 'it returns false'. Refute it at one input. -/
def crabPagesWrong : ChangeSpec := { name := "crabPages", fn := fun _ => fun
  | [d1, d2] => { results := [.lit (.bool false)], args := [d1, d2] }
  | _ => none }
def CrabPagesWrongFalsely : Prop := crabPagesRow.holds Tryz.pinned (OpenSpec.ofChange crabPagesWrong)

/-- 'hermitcrablaw16.CrabNil': WHATEVER THE INPUT: true; the input reads as it did. -/
def crabNilSpec : ChangeSpec := { name := "crabNil", fn := fun _ => fun
  | [d1, d2, d3, d4] => { results := [.lit (.bool true)], args := [d1, d2, d3, d4] }
  | _ => none }
def crabNilRow : OpenClaim := { program := "ytabdpmnhjlmnlaagreatdoor", sum := "2c93acbffebcfd22df6db0b0ada5d619acd4c81e7de35c0ff0c09a9ac703544c", func := "hermitcrab/hermitcrablaw16.CrabNil", spec := "crabNil", unfollowed := true, recurses := true, named := ["math/bits.deBruijn64tab"], plainKeys := false, apart := false, laid := [("math/bits.deBruijn64tab", laid_math_bits_deBruijn64tab)] }
def CrabNilSaid : Prop := crabNilRow.holds Tryz.pinned (OpenSpec.ofChange crabNilSpec)

/-- ITS FALSE NEIGHBOUR: 'it returns false'. Refute it at one input. -/
def crabNilWrong : ChangeSpec := { name := "crabNil", fn := fun _ => fun
  | [d1, d2, d3, d4] => { results := [.lit (.bool false)], args := [d1, d2, d3, d4] }
  | _ => none }
def CrabNilWrongFalsely : Prop := crabNilRow.holds Tryz.pinned (OpenSpec.ofChange crabNilWrong)

/-- 'hermitcrablaw20.CrossOthers': WHATEVER THE INPUT: true; the input reads as it did. -/
def crossOthersSpec : ChangeSpec := { name := "crossOthers", fn := fun _ => fun
  | [d] => { results := [.lit (.bool true)], args := [d] }
  | _ => none }
def crossOthersRow : OpenClaim := { program := "ytabdpmnhjlmnlaagreatdoor", sum := "2c93acbffebcfd22df6db0b0ada5d619acd4c81e7de35c0ff0c09a9ac703544c", func := "hermitcrab/hermitcrablaw20.CrossOthers", spec := "crossOthers", unfollowed := true, recurses := true, named := ["math/bits.deBruijn64tab"], plainKeys := false, apart := false, laid := [("math/bits.deBruijn64tab", laid_math_bits_deBruijn64tab)] }
def CrossOthersSaid : Prop := crossOthersRow.holds Tryz.pinned (OpenSpec.ofChange crossOthersSpec)

/-- ITS FALSE NEIGHBOUR: 'it returns false'. Refute it at one input. -/
def crossOthersWrong : ChangeSpec := { name := "crossOthers", fn := fun _ => fun
  | [d] => { results := [.lit (.bool false)], args := [d] }
  | _ => none }
def CrossOthersWrongFalsely : Prop := crossOthersRow.holds Tryz.pinned (OpenSpec.ofChange crossOthersWrong)

/-- 'hermitcrablaw21.ProofArgs': WHATEVER THE INPUT: true; the input reads as it did. -/
def proofArgsSpec : ChangeSpec := { name := "proofArgs", fn := fun _ => fun
  | [d1, d2] => { results := [.lit (.bool true)], args := [d1, d2] }
  | _ => none }
def proofArgsRow : OpenClaim := { program := "ytabdpmnhjlmnlaagreatdoor", sum := "2c93acbffebcfd22df6db0b0ada5d619acd4c81e7de35c0ff0c09a9ac703544c", func := "hermitcrab/hermitcrablaw21.ProofArgs", spec := "proofArgs", unfollowed := true, recurses := true, named := ["math/bits.deBruijn64tab"], plainKeys := false, apart := false, laid := [("math/bits.deBruijn64tab", laid_math_bits_deBruijn64tab)] }
def ProofArgsSaid : Prop := proofArgsRow.holds Tryz.pinned (OpenSpec.ofChange proofArgsSpec)

/-- ITS FALSE NEIGHBOUR: 'it returns false'. Refute it at one input. -/
def proofArgsWrong : ChangeSpec := { name := "proofArgs", fn := fun _ => fun
  | [d1, d2] => { results := [.lit (.bool false)], args := [d1, d2] }
  | _ => none }
def ProofArgsWrongFalsely : Prop := proofArgsRow.holds Tryz.pinned (OpenSpec.ofChange proofArgsWrong)

/-- 'hermitcrablaw21.ProofSwaps': WHATEVER THE INPUT: true; the input reads as it did. -/
def proofSwapsSpec : ChangeSpec := { name := "proofSwaps", fn := fun _ => fun
  | [d1, d2, d3] => { results := [.lit (.bool true)], args := [d1, d2, d3] }
  | _ => none }
def proofSwapsRow : OpenClaim := { program := "ytabdpmnhjlmnlaagreatdoor", sum := "2c93acbffebcfd22df6db0b0ada5d619acd4c81e7de35c0ff0c09a9ac703544c", func := "hermitcrab/hermitcrablaw21.ProofSwaps", spec := "proofSwaps", unfollowed := true, recurses := true, named := ["math/bits.deBruijn64tab"], plainKeys := false, apart := false, laid := [("math/bits.deBruijn64tab", laid_math_bits_deBruijn64tab)] }
def ProofSwapsSaid : Prop := proofSwapsRow.holds Tryz.pinned (OpenSpec.ofChange proofSwapsSpec)

/-- ITS FALSE NEIGHBOUR: 'it returns false'. Refute it at one input. -/
def proofSwapsWrong : ChangeSpec := { name := "proofSwaps", fn := fun _ => fun
  | [d1, d2, d3] => { results := [.lit (.bool false)], args := [d1, d2, d3] }
  | _ => none }
def ProofSwapsWrongFalsely : Prop := proofSwapsRow.holds Tryz.pinned (OpenSpec.ofChange proofSwapsWrong)

/- THE SECOND FORM. 'bulk': how many values and letters a reading holds, each counted each time it is reached (what is shared counts as often as it is met; a slice's spare places count too). A statement '..UptoSaid' is the law's where the arguments, and the package variables that the reading takes, are together of bulk at most 1048576: NARROWER than '..Said'. Prove '..Said' where nothing that the law and all that it calls make is longer than what came in: it says more and counts as full. Else prove '..UptoSaid'. A law counts once. -/
mutual
def uptoBulk {H : Type} : DataW H → Nat
  | .lit (.string bytes) => bytes.length + 1
  | .lit _ => 1
  | .nil => 1
  | .ptr d => uptoBulk d + 1
  | .slice elems spare => uptoBulkAll elems + uptoBulkAll spare + 1
  | .agg parts => uptoBulkAll parts + 1
  | .iface _ d => uptoBulk d + 1
  | .map entries => uptoBulkEntries entries + 1
  | .held _ => 1
def uptoBulkAll {H : Type} : List (DataW H) → Nat
  | [] => 0
  | d :: r => uptoBulk d + uptoBulkAll r
def uptoBulkEntries {H : Type} : List (Lit × DataW H) → Nat
  | [] => 0
  | x :: r => uptoBulkEntry x + uptoBulkEntries r
def uptoBulkEntry {H : Type} : Lit × DataW H → Nat
  | (.string bytes, d) => bytes.length + uptoBulk d + 1
  | (_, d) => uptoBulk d + 1
 end
def uptoSmall : (H : Type) → List (DataW H) → Bool := fun _ ds => decide (uptoBulkAll ds ≤ 1048576)
def OpenSpec.upto (s : _root_.Go.ChangeSpec) : _root_.Go.OpenSpec := { _root_.Go.OpenSpec.ofChange s with cond := some uptoSmall }

/-- 'hermitcrablaw23.IdealOne', WHERE WHAT IT READS IS OF BULK AT MOST 1048576: true; the input reads as it did. -/
def idealOneUptoRow : OpenClaim := { program := "ytabdpmnhjlmnlaagreatdoor", sum := "2c93acbffebcfd22df6db0b0ada5d619acd4c81e7de35c0ff0c09a9ac703544c", func := "hermitcrab/hermitcrablaw23.IdealOne", spec := "idealOne", unfollowed := true, recurses := true, named := ["math/bits.deBruijn64tab"], plainKeys := false, apart := false, laid := [("math/bits.deBruijn64tab", laid_math_bits_deBruijn64tab)], narrowed := true }
def IdealOneUptoSaid : Prop := idealOneUptoRow.holds Tryz.pinned (OpenSpec.upto idealOneSpec)

/-- 'hermitcrablaw16.CrabTells', WHERE WHAT IT READS IS OF BULK AT MOST 1048576: true; the input reads as it did. -/
def crabTellsUptoRow : OpenClaim := { program := "ytabdpmnhjlmnlaagreatdoor", sum := "2c93acbffebcfd22df6db0b0ada5d619acd4c81e7de35c0ff0c09a9ac703544c", func := "hermitcrab/hermitcrablaw16.CrabTells", spec := "crabTells", unfollowed := true, recurses := true, named := ["math/bits.deBruijn64tab"], plainKeys := false, apart := false, laid := [("math/bits.deBruijn64tab", laid_math_bits_deBruijn64tab)], narrowed := true }
def CrabTellsUptoSaid : Prop := crabTellsUptoRow.holds Tryz.pinned (OpenSpec.upto crabTellsSpec)

/-- 'hermitcrablaw16.CrabDisks', WHERE WHAT IT READS IS OF BULK AT MOST 1048576: true; the input reads as it did. -/
def crabDisksUptoRow : OpenClaim := { program := "ytabdpmnhjlmnlaagreatdoor", sum := "2c93acbffebcfd22df6db0b0ada5d619acd4c81e7de35c0ff0c09a9ac703544c", func := "hermitcrab/hermitcrablaw16.CrabDisks", spec := "crabDisks", unfollowed := true, recurses := true, named := ["math/bits.deBruijn64tab"], plainKeys := false, apart := false, laid := [("math/bits.deBruijn64tab", laid_math_bits_deBruijn64tab)], narrowed := true }
def CrabDisksUptoSaid : Prop := crabDisksUptoRow.holds Tryz.pinned (OpenSpec.upto crabDisksSpec)

/-- 'hermitcrablaw16.CrabKeys', WHERE WHAT IT READS IS OF BULK AT MOST 1048576: true; the input reads as it did. -/
def crabKeysUptoRow : OpenClaim := { program := "ytabdpmnhjlmnlaagreatdoor", sum := "2c93acbffebcfd22df6db0b0ada5d619acd4c81e7de35c0ff0c09a9ac703544c", func := "hermitcrab/hermitcrablaw16.CrabKeys", spec := "crabKeys", unfollowed := true, recurses := true, named := ["math/bits.deBruijn64tab"], plainKeys := false, apart := false, laid := [("math/bits.deBruijn64tab", laid_math_bits_deBruijn64tab)], narrowed := true }
def CrabKeysUptoSaid : Prop := crabKeysUptoRow.holds Tryz.pinned (OpenSpec.upto crabKeysSpec)

/-- 'hermitcrablaw16.CrabBegins', WHERE WHAT IT READS IS OF BULK AT MOST 1048576: true; the input reads as it did. -/
def crabBeginsUptoRow : OpenClaim := { program := "ytabdpmnhjlmnlaagreatdoor", sum := "2c93acbffebcfd22df6db0b0ada5d619acd4c81e7de35c0ff0c09a9ac703544c", func := "hermitcrab/hermitcrablaw16.CrabBegins", spec := "crabBegins", unfollowed := true, recurses := true, named := ["math/bits.deBruijn64tab"], plainKeys := false, apart := false, laid := [("math/bits.deBruijn64tab", laid_math_bits_deBruijn64tab)], narrowed := true }
def CrabBeginsUptoSaid : Prop := crabBeginsUptoRow.holds Tryz.pinned (OpenSpec.upto crabBeginsSpec)

/-- 'hermitcrablaw16.CrabOne', WHERE WHAT IT READS IS OF BULK AT MOST 1048576: true; the input reads as it did. -/
def crabOneUptoRow : OpenClaim := { program := "ytabdpmnhjlmnlaagreatdoor", sum := "2c93acbffebcfd22df6db0b0ada5d619acd4c81e7de35c0ff0c09a9ac703544c", func := "hermitcrab/hermitcrablaw16.CrabOne", spec := "crabOne", unfollowed := true, recurses := true, named := ["math/bits.deBruijn64tab"], plainKeys := false, apart := false, laid := [("math/bits.deBruijn64tab", laid_math_bits_deBruijn64tab)], narrowed := true }
def CrabOneUptoSaid : Prop := crabOneUptoRow.holds Tryz.pinned (OpenSpec.upto crabOneSpec)

/-- 'hermitcrablaw16.CrabCreates', WHERE WHAT IT READS IS OF BULK AT MOST 1048576: true; the input reads as it did. -/
def crabCreatesUptoRow : OpenClaim := { program := "ytabdpmnhjlmnlaagreatdoor", sum := "2c93acbffebcfd22df6db0b0ada5d619acd4c81e7de35c0ff0c09a9ac703544c", func := "hermitcrab/hermitcrablaw16.CrabCreates", spec := "crabCreates", unfollowed := true, recurses := true, named := ["math/bits.deBruijn64tab"], plainKeys := false, apart := false, laid := [("math/bits.deBruijn64tab", laid_math_bits_deBruijn64tab)], narrowed := true }
def CrabCreatesUptoSaid : Prop := crabCreatesUptoRow.holds Tryz.pinned (OpenSpec.upto crabCreatesSpec)

/-- 'hermitcrablaw16.CrabPages', WHERE WHAT IT READS IS OF BULK AT MOST 1048576: true; the input reads as it did. -/
def crabPagesUptoRow : OpenClaim := { program := "ytabdpmnhjlmnlaagreatdoor", sum := "2c93acbffebcfd22df6db0b0ada5d619acd4c81e7de35c0ff0c09a9ac703544c", func := "hermitcrab/hermitcrablaw16.CrabPages", spec := "crabPages", unfollowed := true, recurses := true, named := ["math/bits.deBruijn64tab"], plainKeys := false, apart := false, laid := [("math/bits.deBruijn64tab", laid_math_bits_deBruijn64tab)], narrowed := true }
def CrabPagesUptoSaid : Prop := crabPagesUptoRow.holds Tryz.pinned (OpenSpec.upto crabPagesSpec)

/-- 'hermitcrablaw16.CrabNil', WHERE WHAT IT READS IS OF BULK AT MOST 1048576: true; the input reads as it did. -/
def crabNilUptoRow : OpenClaim := { program := "ytabdpmnhjlmnlaagreatdoor", sum := "2c93acbffebcfd22df6db0b0ada5d619acd4c81e7de35c0ff0c09a9ac703544c", func := "hermitcrab/hermitcrablaw16.CrabNil", spec := "crabNil", unfollowed := true, recurses := true, named := ["math/bits.deBruijn64tab"], plainKeys := false, apart := false, laid := [("math/bits.deBruijn64tab", laid_math_bits_deBruijn64tab)], narrowed := true }
def CrabNilUptoSaid : Prop := crabNilUptoRow.holds Tryz.pinned (OpenSpec.upto crabNilSpec)

/-- 'hermitcrablaw20.CrossOthers', WHERE WHAT IT READS IS OF BULK AT MOST 1048576: true; the input reads as it did. -/
def crossOthersUptoRow : OpenClaim := { program := "ytabdpmnhjlmnlaagreatdoor", sum := "2c93acbffebcfd22df6db0b0ada5d619acd4c81e7de35c0ff0c09a9ac703544c", func := "hermitcrab/hermitcrablaw20.CrossOthers", spec := "crossOthers", unfollowed := true, recurses := true, named := ["math/bits.deBruijn64tab"], plainKeys := false, apart := false, laid := [("math/bits.deBruijn64tab", laid_math_bits_deBruijn64tab)], narrowed := true }
def CrossOthersUptoSaid : Prop := crossOthersUptoRow.holds Tryz.pinned (OpenSpec.upto crossOthersSpec)

/-- 'hermitcrablaw21.ProofArgs', WHERE WHAT IT READS IS OF BULK AT MOST 1048576: true; the input reads as it did. -/
def proofArgsUptoRow : OpenClaim := { program := "ytabdpmnhjlmnlaagreatdoor", sum := "2c93acbffebcfd22df6db0b0ada5d619acd4c81e7de35c0ff0c09a9ac703544c", func := "hermitcrab/hermitcrablaw21.ProofArgs", spec := "proofArgs", unfollowed := true, recurses := true, named := ["math/bits.deBruijn64tab"], plainKeys := false, apart := false, laid := [("math/bits.deBruijn64tab", laid_math_bits_deBruijn64tab)], narrowed := true }
def ProofArgsUptoSaid : Prop := proofArgsUptoRow.holds Tryz.pinned (OpenSpec.upto proofArgsSpec)

/-- 'hermitcrablaw21.ProofSwaps', WHERE WHAT IT READS IS OF BULK AT MOST 1048576: true; the input reads as it did. -/
def proofSwapsUptoRow : OpenClaim := { program := "ytabdpmnhjlmnlaagreatdoor", sum := "2c93acbffebcfd22df6db0b0ada5d619acd4c81e7de35c0ff0c09a9ac703544c", func := "hermitcrab/hermitcrablaw21.ProofSwaps", spec := "proofSwaps", unfollowed := true, recurses := true, named := ["math/bits.deBruijn64tab"], plainKeys := false, apart := false, laid := [("math/bits.deBruijn64tab", laid_math_bits_deBruijn64tab)], narrowed := true }
def ProofSwapsUptoSaid : Prop := proofSwapsUptoRow.holds Tryz.pinned (OpenSpec.upto proofSwapsSpec)

end Rows
end Go.Proofs.YtabdpmnhjlmnlaaGreatDoor
