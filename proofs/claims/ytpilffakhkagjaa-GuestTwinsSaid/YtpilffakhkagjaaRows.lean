/-
  No cell of these rows narrows 'for every input' (looked for: loops, veiled, ifaces, maps, wideKeys, modest, calm, conditions, laid).
  DERIVED. THE GIVEN ROWS OF THIS SEAT. 8 by the template 'for every input the law returns true; each argument reads behind the call as it read before'; 0 by the template 'total and deterministic' (their statements: YtpilffakhkagjaaTotals.lean).
  GIVEN WITH THE SEED: the statements are not yours to turn. If you find one false, say at which input.
  Laid BY PROGRAM, IN A SANDBOX (cutbox-rows.mjs): the forced cells as the released guide's own fill.sh prints them over the translation b854b0214ddb28d0… (all of the seat's roots in one cut). By AI agents, Wed Nov 11 2026. No macro, syntax, notation, axiom, sorry.
-/
import Derived.Test.YtpilffakhkagjaaChecked
import GoSem.Claim
import GoSem.ClaimJoined
import GoSem.ClaimMapViews
import Derived.JoinedTies
import Derived.KernelRfl
namespace Go.Proofs.Ytpilffakhkagjaa
/- THE CELL 'sum', in the pinned program and in every row, IS THE sha256 OF THE DUMP (.gsa) THAT YtpilffakhkagjaaProg.lean LOADS. Nothing in Lean hashes anything: it is a label: what it is worth is what the hold of that sum in a sandbox is worth. -/
noncomputable def Try.pinned : Pinned := { name := "ytpilffakhkagjaa", sum := "b854b0214ddb28d004135709c7c65fe2142fadf33d638d1208fcd3ce532291de", checked := Try.checked }
namespace Rows
def none {H : Type} : Left H := { results := [], args := [] }

/-- 'hermitcrablaw15.GuestMakes': WHATEVER THE INPUT: true; the input reads as it did. -/
def guestMakesSpec : ChangeSpec := { name := "guestMakes", fn := fun _ => fun
  | [d1, d2] => { results := [.lit (.bool true)], args := [d1, d2] }
  | _ => none }
def guestMakesRow : OpenClaim := { program := "ytpilffakhkagjaa", sum := "b854b0214ddb28d004135709c7c65fe2142fadf33d638d1208fcd3ce532291de", func := "hermitcrab/hermitcrablaw15.GuestMakes", spec := "guestMakes", apart := false }
def GuestMakesSaid : Prop := guestMakesRow.holds Try.pinned (OpenSpec.ofChange guestMakesSpec)

/-- ITS FALSE NEIGHBOUR: 'it returns false'. Refute it at one input. -/
def guestMakesWrong : ChangeSpec := { name := "guestMakes", fn := fun _ => fun
  | [d1, d2] => { results := [.lit (.bool false)], args := [d1, d2] }
  | _ => none }
def GuestMakesWrongFalsely : Prop := guestMakesRow.holds Try.pinned (OpenSpec.ofChange guestMakesWrong)

/-- 'hermitcrablaw23.IdealFree': WHATEVER THE INPUT: true; the input reads as it did. -/
def idealFreeSpec : ChangeSpec := { name := "idealFree", fn := fun _ => fun
  | [d] => { results := [.lit (.bool true)], args := [d] }
  | _ => none }
def idealFreeRow : OpenClaim := { program := "ytpilffakhkagjaa", sum := "b854b0214ddb28d004135709c7c65fe2142fadf33d638d1208fcd3ce532291de", func := "hermitcrab/hermitcrablaw23.IdealFree", spec := "idealFree", unfollowed := true, recurses := true, apart := false }
def IdealFreeSaid : Prop := idealFreeRow.holds Try.pinned (OpenSpec.ofChange idealFreeSpec)

/-- ITS FALSE NEIGHBOUR: 'it returns false'. Refute it at one input. -/
def idealFreeWrong : ChangeSpec := { name := "idealFree", fn := fun _ => fun
  | [d] => { results := [.lit (.bool false)], args := [d] }
  | _ => none }
def IdealFreeWrongFalsely : Prop := idealFreeRow.holds Try.pinned (OpenSpec.ofChange idealFreeWrong)

/-- 'hermitcrablaw15.GuestTwins': WHATEVER THE INPUT: true; the input reads as it did. -/
def guestTwinsSpec : ChangeSpec := { name := "guestTwins", fn := fun _ => fun
  | [d1, d2, d3] => { results := [.lit (.bool true)], args := [d1, d2, d3] }
  | _ => none }
def guestTwinsRow : OpenClaim := { program := "ytpilffakhkagjaa", sum := "b854b0214ddb28d004135709c7c65fe2142fadf33d638d1208fcd3ce532291de", func := "hermitcrab/hermitcrablaw15.GuestTwins", spec := "guestTwins", unfollowed := true, recurses := true, apart := false }
def GuestTwinsSaid : Prop := guestTwinsRow.holds Try.pinned (OpenSpec.ofChange guestTwinsSpec)

/-- ITS FALSE NEIGHBOUR: 'it returns false'. Refute it at one input. -/
def guestTwinsWrong : ChangeSpec := { name := "guestTwins", fn := fun _ => fun
  | [d1, d2, d3] => { results := [.lit (.bool false)], args := [d1, d2, d3] }
  | _ => none }
def GuestTwinsWrongFalsely : Prop := guestTwinsRow.holds Try.pinned (OpenSpec.ofChange guestTwinsWrong)

/-- 'hermitcrablaw15.GuestNil': WHATEVER THE INPUT: true; the input reads as it did. -/
def guestNilSpec : ChangeSpec := { name := "guestNil", fn := fun _ => fun
  | [d1, d2, d3] => { results := [.lit (.bool true)], args := [d1, d2, d3] }
  | _ => none }
def guestNilRow : OpenClaim := { program := "ytpilffakhkagjaa", sum := "b854b0214ddb28d004135709c7c65fe2142fadf33d638d1208fcd3ce532291de", func := "hermitcrab/hermitcrablaw15.GuestNil", spec := "guestNil", unfollowed := true, recurses := true, apart := false }
def GuestNilSaid : Prop := guestNilRow.holds Try.pinned (OpenSpec.ofChange guestNilSpec)

/-- ITS FALSE NEIGHBOUR: 'it returns false'. Refute it at one input. -/
def guestNilWrong : ChangeSpec := { name := "guestNil", fn := fun _ => fun
  | [d1, d2, d3] => { results := [.lit (.bool false)], args := [d1, d2, d3] }
  | _ => none }
def GuestNilWrongFalsely : Prop := guestNilRow.holds Try.pinned (OpenSpec.ofChange guestNilWrong)

/-- 'hermitcrablaw10.AlarmOnce': WHATEVER THE INPUT: true; the input reads as it did. -/
def alarmOnceSpec : ChangeSpec := { name := "alarmOnce", fn := fun _ => fun
  | [d1, d2, d3] => { results := [.lit (.bool true)], args := [d1, d2, d3] }
  | _ => none }
def alarmOnceRow : OpenClaim := { program := "ytpilffakhkagjaa", sum := "b854b0214ddb28d004135709c7c65fe2142fadf33d638d1208fcd3ce532291de", func := "hermitcrab/hermitcrablaw10.AlarmOnce", spec := "alarmOnce", unfollowed := true, recurses := true, apart := false }
def AlarmOnceSaid : Prop := alarmOnceRow.holds Try.pinned (OpenSpec.ofChange alarmOnceSpec)

/-- ITS FALSE NEIGHBOUR: 'it returns false'. Refute it at one input. -/
def alarmOnceWrong : ChangeSpec := { name := "alarmOnce", fn := fun _ => fun
  | [d1, d2, d3] => { results := [.lit (.bool false)], args := [d1, d2, d3] }
  | _ => none }
def AlarmOnceWrongFalsely : Prop := alarmOnceRow.holds Try.pinned (OpenSpec.ofChange alarmOnceWrong)

/-- 'hermitcrablaw10.AlarmPlays': WHATEVER THE INPUT: true; the input reads as it did. -/
def alarmPlaysSpec : ChangeSpec := { name := "alarmPlays", fn := fun _ => fun
  | [d] => { results := [.lit (.bool true)], args := [d] }
  | _ => none }
def alarmPlaysRow : OpenClaim := { program := "ytpilffakhkagjaa", sum := "b854b0214ddb28d004135709c7c65fe2142fadf33d638d1208fcd3ce532291de", func := "hermitcrab/hermitcrablaw10.AlarmPlays", spec := "alarmPlays", unfollowed := true, recurses := true, apart := false }
def AlarmPlaysSaid : Prop := alarmPlaysRow.holds Try.pinned (OpenSpec.ofChange alarmPlaysSpec)

/-- ITS FALSE NEIGHBOUR: 'it returns false'. Refute it at one input. -/
def alarmPlaysWrong : ChangeSpec := { name := "alarmPlays", fn := fun _ => fun
  | [d] => { results := [.lit (.bool false)], args := [d] }
  | _ => none }
def AlarmPlaysWrongFalsely : Prop := alarmPlaysRow.holds Try.pinned (OpenSpec.ofChange alarmPlaysWrong)

/-- 'hermitcrablaw10.AlarmTwins': WHATEVER THE INPUT: true; the input reads as it did. -/
def alarmTwinsSpec : ChangeSpec := { name := "alarmTwins", fn := fun _ => fun
  | [d1, d2] => { results := [.lit (.bool true)], args := [d1, d2] }
  | _ => none }
def alarmTwinsRow : OpenClaim := { program := "ytpilffakhkagjaa", sum := "b854b0214ddb28d004135709c7c65fe2142fadf33d638d1208fcd3ce532291de", func := "hermitcrab/hermitcrablaw10.AlarmTwins", spec := "alarmTwins", unfollowed := true, recurses := true, apart := false }
def AlarmTwinsSaid : Prop := alarmTwinsRow.holds Try.pinned (OpenSpec.ofChange alarmTwinsSpec)

/-- ITS FALSE NEIGHBOUR: 'it returns false'. Refute it at one input. -/
def alarmTwinsWrong : ChangeSpec := { name := "alarmTwins", fn := fun _ => fun
  | [d1, d2] => { results := [.lit (.bool false)], args := [d1, d2] }
  | _ => none }
def AlarmTwinsWrongFalsely : Prop := alarmTwinsRow.holds Try.pinned (OpenSpec.ofChange alarmTwinsWrong)

/-- 'hermitcrablaw10.AlarmNil': WHATEVER THE INPUT: true; the input reads as it did. -/
def alarmNilSpec : ChangeSpec := { name := "alarmNil", fn := fun _ => fun
  | [d1, d2, d3] => { results := [.lit (.bool true)], args := [d1, d2, d3] }
  | _ => none }
def alarmNilRow : OpenClaim := { program := "ytpilffakhkagjaa", sum := "b854b0214ddb28d004135709c7c65fe2142fadf33d638d1208fcd3ce532291de", func := "hermitcrab/hermitcrablaw10.AlarmNil", spec := "alarmNil", unfollowed := true, recurses := true, apart := false }
def AlarmNilSaid : Prop := alarmNilRow.holds Try.pinned (OpenSpec.ofChange alarmNilSpec)

/-- ITS FALSE NEIGHBOUR: 'it returns false'. Refute it at one input. -/
def alarmNilWrong : ChangeSpec := { name := "alarmNil", fn := fun _ => fun
  | [d1, d2, d3] => { results := [.lit (.bool false)], args := [d1, d2, d3] }
  | _ => none }
def AlarmNilWrongFalsely : Prop := alarmNilRow.holds Try.pinned (OpenSpec.ofChange alarmNilWrong)

/- THE SECOND FORM. 'bulk': how many values and letters a reading holds, each counted each time it is reached (what is shared counts as often as it is met; a slice's spare places count too). A statement '..UptoSaid' is the law's where the arguments, and the package variables that the reading takes, are together of bulk at most 1048576: NARROWER than '..Said'. Prove '..Said' where nothing that the law and all that it calls make is longer than what came in: it says more and counts as full. Else prove '..UptoSaid'. A law counts once. -/
mutual
def uptoBulk {H : Type} : DataW H → Nat
  | .lit (.string bytes) => bytes.length + 1
  | .lit _ => 1
  | .nil => 1
  | .ptr d => uptoBulk d + 1
  | .slice elems spare => uptoBulkAll elems + uptoBulkAll spare + 1
  | .agg parts => uptoBulkAll parts + 1
  | .iface _ d => uptoBulk d + 1
  | .map entries => uptoBulkEntries entries + 1
  | .held _ => 1
def uptoBulkAll {H : Type} : List (DataW H) → Nat
  | [] => 0
  | d :: r => uptoBulk d + uptoBulkAll r
def uptoBulkEntries {H : Type} : List (Lit × DataW H) → Nat
  | [] => 0
  | x :: r => uptoBulkEntry x + uptoBulkEntries r
def uptoBulkEntry {H : Type} : Lit × DataW H → Nat
  | (.string bytes, d) => bytes.length + uptoBulk d + 1
  | (_, d) => uptoBulk d + 1
 end
def uptoSmall : (H : Type) → List (DataW H) → Bool := fun _ ds => decide (uptoBulkAll ds ≤ 1048576)
def OpenSpec.upto (s : _root_.Go.ChangeSpec) : _root_.Go.OpenSpec := { _root_.Go.OpenSpec.ofChange s with cond := some uptoSmall }

/-- 'hermitcrablaw15.GuestMakes', WHERE WHAT IT READS IS OF BULK AT MOST 1048576: true; the input reads as it did. -/
def guestMakesUptoRow : OpenClaim := { program := "ytpilffakhkagjaa", sum := "b854b0214ddb28d004135709c7c65fe2142fadf33d638d1208fcd3ce532291de", func := "hermitcrab/hermitcrablaw15.GuestMakes", spec := "guestMakes", apart := false, narrowed := true }
def GuestMakesUptoSaid : Prop := guestMakesUptoRow.holds Try.pinned (OpenSpec.upto guestMakesSpec)

/-- 'hermitcrablaw23.IdealFree', WHERE WHAT IT READS IS OF BULK AT MOST 1048576: true; the input reads as it did. -/
def idealFreeUptoRow : OpenClaim := { program := "ytpilffakhkagjaa", sum := "b854b0214ddb28d004135709c7c65fe2142fadf33d638d1208fcd3ce532291de", func := "hermitcrab/hermitcrablaw23.IdealFree", spec := "idealFree", unfollowed := true, recurses := true, apart := false, narrowed := true }
def IdealFreeUptoSaid : Prop := idealFreeUptoRow.holds Try.pinned (OpenSpec.upto idealFreeSpec)

/-- 'hermitcrablaw15.GuestTwins', WHERE WHAT IT READS IS OF BULK AT MOST 1048576: true; the input reads as it did. -/
def guestTwinsUptoRow : OpenClaim := { program := "ytpilffakhkagjaa", sum := "b854b0214ddb28d004135709c7c65fe2142fadf33d638d1208fcd3ce532291de", func := "hermitcrab/hermitcrablaw15.GuestTwins", spec := "guestTwins", unfollowed := true, recurses := true, apart := false, narrowed := true }
def GuestTwinsUptoSaid : Prop := guestTwinsUptoRow.holds Try.pinned (OpenSpec.upto guestTwinsSpec)

/-- 'hermitcrablaw15.GuestNil', WHERE WHAT IT READS IS OF BULK AT MOST 1048576: true; the input reads as it did. -/
def guestNilUptoRow : OpenClaim := { program := "ytpilffakhkagjaa", sum := "b854b0214ddb28d004135709c7c65fe2142fadf33d638d1208fcd3ce532291de", func := "hermitcrab/hermitcrablaw15.GuestNil", spec := "guestNil", unfollowed := true, recurses := true, apart := false, narrowed := true }
def GuestNilUptoSaid : Prop := guestNilUptoRow.holds Try.pinned (OpenSpec.upto guestNilSpec)

/-- 'hermitcrablaw10.AlarmOnce', WHERE WHAT IT READS IS OF BULK AT MOST 1048576: true; the input reads as it did. -/
def alarmOnceUptoRow : OpenClaim := { program := "ytpilffakhkagjaa", sum := "b854b0214ddb28d004135709c7c65fe2142fadf33d638d1208fcd3ce532291de", func := "hermitcrab/hermitcrablaw10.AlarmOnce", spec := "alarmOnce", unfollowed := true, recurses := true, apart := false, narrowed := true }
def AlarmOnceUptoSaid : Prop := alarmOnceUptoRow.holds Try.pinned (OpenSpec.upto alarmOnceSpec)

/-- 'hermitcrablaw10.AlarmPlays', WHERE WHAT IT READS IS OF BULK AT MOST 1048576: true; the input reads as it did. -/
def alarmPlaysUptoRow : OpenClaim := { program := "ytpilffakhkagjaa", sum := "b854b0214ddb28d004135709c7c65fe2142fadf33d638d1208fcd3ce532291de", func := "hermitcrab/hermitcrablaw10.AlarmPlays", spec := "alarmPlays", unfollowed := true, recurses := true, apart := false, narrowed := true }
def AlarmPlaysUptoSaid : Prop := alarmPlaysUptoRow.holds Try.pinned (OpenSpec.upto alarmPlaysSpec)

/-- 'hermitcrablaw10.AlarmTwins', WHERE WHAT IT READS IS OF BULK AT MOST 1048576: true; the input reads as it did. -/
def alarmTwinsUptoRow : OpenClaim := { program := "ytpilffakhkagjaa", sum := "b854b0214ddb28d004135709c7c65fe2142fadf33d638d1208fcd3ce532291de", func := "hermitcrab/hermitcrablaw10.AlarmTwins", spec := "alarmTwins", unfollowed := true, recurses := true, apart := false, narrowed := true }
def AlarmTwinsUptoSaid : Prop := alarmTwinsUptoRow.holds Try.pinned (OpenSpec.upto alarmTwinsSpec)

/-- 'hermitcrablaw10.AlarmNil', WHERE WHAT IT READS IS OF BULK AT MOST 1048576: true; the input reads as it did. -/
def alarmNilUptoRow : OpenClaim := { program := "ytpilffakhkagjaa", sum := "b854b0214ddb28d004135709c7c65fe2142fadf33d638d1208fcd3ce532291de", func := "hermitcrab/hermitcrablaw10.AlarmNil", spec := "alarmNil", unfollowed := true, recurses := true, apart := false, narrowed := true }
def AlarmNilUptoSaid : Prop := alarmNilUptoRow.holds Try.pinned (OpenSpec.upto alarmNilSpec)

end Rows
end Go.Proofs.Ytpilffakhkagjaa
