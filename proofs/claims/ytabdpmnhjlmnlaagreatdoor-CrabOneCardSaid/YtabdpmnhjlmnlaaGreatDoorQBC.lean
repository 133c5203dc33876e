/- Texts of this work,joined by program (pack.py). -/
import Derived.Test.YtabdpmnhjlmnlaaGreatDoorQBB
import Derived.Test.YtabdpmnhjlmnlaaGreatDoorProg
set_option linter.unusedVariables false
set_option maxRecDepth 20000
set_option maxHeartbeats 4000000
namespace Go.Proofs.YtabdpmnhjlmnlaaGreatDoor
section
open Go Go.Pt Go.Proofs.Tryz
instance:ScalarT prog 3:=⟨fun _=>by kernel_rfl⟩
instance:SizeT prog 3 1:=⟨fun _=>by kernel_rfl⟩
instance:ScalarT prog 4:=⟨fun _=>by kernel_rfl⟩
instance:SizeT prog 4 1:=⟨fun _=>by kernel_rfl⟩
instance:ScalarT prog 5:=⟨fun _=>by kernel_rfl⟩
instance:SizeT prog 5 1:=⟨fun _=>by kernel_rfl⟩
instance:ScalarT prog 22:=⟨fun _=>by kernel_rfl⟩
instance:SizeT prog 22 1:=⟨fun _=>by kernel_rfl⟩
instance:SliceT prog 22 5 1:=⟨by kernel_rfl,fun _=>by kernel_rfl⟩
instance:ScalarT prog 39:=⟨fun _=>by kernel_rfl⟩
instance:SizeT prog 39 1:=⟨fun _=>by kernel_rfl⟩
instance:ArrayT prog 40 16 39 1:=⟨by kernel_rfl,fun _=>by kernel_rfl⟩
instance:ScalarT prog 41:=⟨fun _=>by kernel_rfl⟩
instance:SizeT prog 41 1:=⟨fun _=>by kernel_rfl⟩
instance:AggT prog 43 26:=⟨fun _=>by kernel_rfl⟩
instance:SizeT prog 43 26:=⟨fun _=>by kernel_rfl⟩
def z43:List Value:=[.int .u64 0,.int .u64 0,.int .u64 0,.int .u64 0,.int .u64 0,.int .u64 0,.int .u64 0,.int .u64 0,.int .u64 0,.int .u64 0,.int .u64 0,.int .u64 0,.int .u64 0,.int .u64 0,.int .u64 0,.int .u64 0,.int .u64 0,.int .u64 0,.int .u64 0,.int .u64 0,.int .u64 0,.int .u64 0,.bool false,.int .u8 0,.int .u32 0,.int .u32 0]
theorem zcM:z43.length=26:=by kernel_rfl
instance:ZeroT prog 43 z43:=⟨fun _=>⟨valL z43,rfl,by kernel_rfl⟩⟩
instance:FieldT prog 43 0 0 40:=⟨⟨_,underlying43,_,rfl,rfl,rfl⟩,⟨16,by decide,fun _=>by kernel_rfl⟩⟩
instance:FieldT prog 43 1 16 39:=⟨⟨_,underlying43,_,rfl,rfl,rfl⟩,⟨1,by decide,fun _=>by kernel_rfl⟩⟩
instance:FieldT prog 43 2 17 39:=⟨⟨_,underlying43,_,rfl,rfl,rfl⟩,⟨1,by decide,fun _=>by kernel_rfl⟩⟩
instance:FieldT prog 43 3 18 39:=⟨⟨_,underlying43,_,rfl,rfl,rfl⟩,⟨1,by decide,fun _=>by kernel_rfl⟩⟩
instance:FieldT prog 43 4 19 39:=⟨⟨_,underlying43,_,rfl,rfl,rfl⟩,⟨1,by decide,fun _=>by kernel_rfl⟩⟩
instance:FieldT prog 43 5 20 39:=⟨⟨_,underlying43,_,rfl,rfl,rfl⟩,⟨1,by decide,fun _=>by kernel_rfl⟩⟩
instance:FieldT prog 43 6 21 39:=⟨⟨_,underlying43,_,rfl,rfl,rfl⟩,⟨1,by decide,fun _=>by kernel_rfl⟩⟩
instance:FieldT prog 43 7 22 4:=⟨⟨_,underlying43,_,rfl,rfl,rfl⟩,⟨1,by decide,fun _=>by kernel_rfl⟩⟩
instance:FieldT prog 43 8 23 5:=⟨⟨_,underlying43,_,rfl,rfl,rfl⟩,⟨1,by decide,fun _=>by kernel_rfl⟩⟩
instance:FieldT prog 43 9 24 41:=⟨⟨_,underlying43,_,rfl,rfl,rfl⟩,⟨1,by decide,fun _=>by kernel_rfl⟩⟩
instance:FieldT prog 43 10 25 41:=⟨⟨_,underlying43,_,rfl,rfl,rfl⟩,⟨1,by decide,fun _=>by kernel_rfl⟩⟩
instance:StructT prog 43 (fun i=>(#[(0,16),(16,1),(17,1),(18,1),(19,1),(20,1),(21,1),(22,1),(23,1),(24,1),(25,1)]:Array (Nat×Nat))[i]?) z43:=zR underlying43 (fun _=>by kernel_rfl)
instance:AggT prog 45 4:=⟨fun _=>by kernel_rfl⟩
instance:SizeT prog 45 4:=⟨fun _=>by kernel_rfl⟩
abbrev z45:List Value:=[.int .u8 0,.int .i64 0,.int .u64 0,.int .u64 0]
instance:ZeroT prog 45 [.int .u8 0,.int .i64 0,.int .u64 0,.int .u64 0]:=⟨fun _=>⟨valL z45,rfl,by kernel_rfl⟩⟩
instance:FieldT prog 45 0 0 5:=⟨⟨_,underlying45,_,rfl,rfl,rfl⟩,⟨1,by decide,fun _=>by kernel_rfl⟩⟩
instance:StructT prog 45 (fun i=>(#[(0,1),(1,1),(2,1),(3,1)]:Array (Nat×Nat))[i]?) [.int .u8 0,.int .i64 0,.int .u64 0,.int .u64 0]:=zR underlying45 (fun _=>by kernel_rfl)
instance:AggT prog 48 2:=⟨fun _=>by kernel_rfl⟩
instance:SizeT prog 48 2:=⟨fun _=>by kernel_rfl⟩
abbrev z48:List Value:=[.int .u8 0,.int .u64 0]
instance:ZeroT prog 48 [.int .u8 0,.int .u64 0]:=⟨fun _=>⟨valL z48,rfl,by kernel_rfl⟩⟩
instance:FieldT prog 48 0 0 5:=⟨⟨_,underlying48,_,rfl,rfl,rfl⟩,⟨1,by decide,fun _=>by kernel_rfl⟩⟩
instance:FieldT prog 48 1 1 39:=⟨⟨_,underlying48,_,rfl,rfl,rfl⟩,⟨1,by decide,fun _=>by kernel_rfl⟩⟩
instance:StructT prog 48 (fun i=>(#[(0,1),(1,1)]:Array (Nat×Nat))[i]?) [.int .u8 0,.int .u64 0]:=zR underlying48 (fun _=>by kernel_rfl)
instance:ScalarT prog 51:=⟨fun _=>by kernel_rfl⟩
instance:ScalarT prog 54:=⟨fun _=>by kernel_rfl⟩
instance:SizeT prog 54 1:=⟨fun _=>by kernel_rfl⟩
instance:ScalarT prog 58:=⟨fun _=>by kernel_rfl⟩
instance:SizeT prog 58 1:=⟨fun _=>by kernel_rfl⟩
instance:SliceT prog 58 45 4:=⟨by kernel_rfl,fun _=>by kernel_rfl⟩
instance:ScalarT prog 60:=⟨fun _=>by kernel_rfl⟩
instance:SizeT prog 60 1:=⟨fun _=>by kernel_rfl⟩
instance:SliceT prog 60 43 26:=⟨by kernel_rfl,fun _=>by kernel_rfl⟩
instance:ScalarT prog 61:=⟨fun _=>by kernel_rfl⟩
instance:SizeT prog 61 1:=⟨fun _=>by kernel_rfl⟩
instance:SliceT prog 61 3 1:=⟨by kernel_rfl,fun _=>by kernel_rfl⟩
instance:AggT prog 63 2:=⟨fun _=>by kernel_rfl⟩
instance:SizeT prog 63 2:=⟨fun _=>by kernel_rfl⟩
abbrev z63:List Value:=[.int .i64 0,.slice none 0 0]
instance:ZeroT prog 63 [.int .i64 0,.slice none 0 0]:=⟨fun _=>⟨valL z63,rfl,by kernel_rfl⟩⟩
instance:FieldT prog 63 0 0 3:=⟨⟨_,underlying63,_,rfl,rfl,rfl⟩,⟨1,by decide,fun _=>by kernel_rfl⟩⟩
instance:FieldT prog 63 1 1 61:=⟨⟨_,underlying63,_,rfl,rfl,rfl⟩,⟨1,by decide,fun _=>by kernel_rfl⟩⟩
instance:StructT prog 63 (fun i=>(#[(0,1),(1,1)]:Array (Nat×Nat))[i]?) [.int .i64 0,.slice none 0 0]:=zR underlying63 (fun _=>by kernel_rfl)
instance:AggT prog 64 4:=⟨fun _=>by kernel_rfl⟩
instance:SizeT prog 64 4:=⟨fun _=>by kernel_rfl⟩
abbrev z64:List Value:=[.slice none 0 0,.slice none 0 0,.slice none 0 0,.slice none 0 0]
instance:ZeroT prog 64 [.slice none 0 0,.slice none 0 0,.slice none 0 0,.slice none 0 0]:=⟨fun _=>⟨valL z64,rfl,by kernel_rfl⟩⟩
instance:ArrayT prog 64 4 22 1:=⟨by kernel_rfl,fun _=>by kernel_rfl⟩
instance:AggT prog 66 12:=⟨fun _=>by kernel_rfl⟩
instance:SizeT prog 66 12:=⟨fun _=>by kernel_rfl⟩
abbrev z66:List Value:=[.bool false,.slice none 0 0,.int .i64 0,.slice none 0 0,.int .i64 0,.int .u64 0,.slice none 0 0,.slice none 0 0,.slice none 0 0,.slice none 0 0,.slice none 0 0,.int .u32 0]
instance:ZeroT prog 66 [.bool false,.slice none 0 0,.int .i64 0,.slice none 0 0,.int .i64 0,.int .u64 0,.slice none 0 0,.slice none 0 0,.slice none 0 0,.slice none 0 0,.slice none 0 0,.int .u32 0]:=⟨fun _=>⟨valL z66,rfl,by kernel_rfl⟩⟩
instance:FieldT prog 66 0 0 4:=⟨⟨_,underlying66,_,rfl,rfl,rfl⟩,⟨1,by decide,fun _=>by kernel_rfl⟩⟩
instance:FieldT prog 66 1 1 60:=⟨⟨_,underlying66,_,rfl,rfl,rfl⟩,⟨1,by decide,fun _=>by kernel_rfl⟩⟩
instance:FieldT prog 66 2 2 63:=⟨⟨_,underlying66,_,rfl,rfl,rfl⟩,⟨2,by decide,fun _=>by kernel_rfl⟩⟩
instance:FieldT prog 66 3 4 3:=⟨⟨_,underlying66,_,rfl,rfl,rfl⟩,⟨1,by decide,fun _=>by kernel_rfl⟩⟩
instance:FieldT prog 66 4 5 39:=⟨⟨_,underlying66,_,rfl,rfl,rfl⟩,⟨1,by decide,fun _=>by kernel_rfl⟩⟩
instance:FieldT prog 66 5 6 22:=⟨⟨_,underlying66,_,rfl,rfl,rfl⟩,⟨1,by decide,fun _=>by kernel_rfl⟩⟩
instance:FieldT prog 66 6 7 64:=⟨⟨_,underlying66,_,rfl,rfl,rfl⟩,⟨4,by decide,fun _=>by kernel_rfl⟩⟩
instance:FieldT prog 66 7 11 41:=⟨⟨_,underlying66,_,rfl,rfl,rfl⟩,⟨1,by decide,fun _=>by kernel_rfl⟩⟩
instance:StructT prog 66 (fun i=>(#[(0,1),(1,1),(2,2),(4,1),(5,1),(6,1),(7,4),(11,1)]:Array (Nat×Nat))[i]?) [.bool false,.slice none 0 0,.int .i64 0,.slice none 0 0,.int .i64 0,.int .u64 0,.slice none 0 0,.slice none 0 0,.slice none 0 0,.slice none 0 0,.slice none 0 0,.int .u32 0]:=zR underlying66 (fun _=>by kernel_rfl)
instance:ArrayT prog 67 6 66 12:=⟨by kernel_rfl,fun _=>by kernel_rfl⟩
instance:ScalarT prog 68:=⟨fun _=>by kernel_rfl⟩
instance:AggT prog 70 6:=⟨fun _=>by kernel_rfl⟩
instance:SizeT prog 70 6:=⟨fun _=>by kernel_rfl⟩
abbrev z70:List Value:=[.bool false,.int .i64 0,.int .i64 0,.int .i64 0,.bool false,.int .i64 0]
instance:ZeroT prog 70 [.bool false,.int .i64 0,.int .i64 0,.int .i64 0,.bool false,.int .i64 0]:=⟨fun _=>⟨valL z70,rfl,by kernel_rfl⟩⟩
instance:FieldT prog 70 0 0 4:=⟨⟨_,underlying70,_,rfl,rfl,rfl⟩,⟨1,by decide,fun _=>by kernel_rfl⟩⟩
instance:FieldT prog 70 1 1 3:=⟨⟨_,underlying70,_,rfl,rfl,rfl⟩,⟨1,by decide,fun _=>by kernel_rfl⟩⟩
instance:FieldT prog 70 2 2 3:=⟨⟨_,underlying70,_,rfl,rfl,rfl⟩,⟨1,by decide,fun _=>by kernel_rfl⟩⟩
instance:FieldT prog 70 3 3 3:=⟨⟨_,underlying70,_,rfl,rfl,rfl⟩,⟨1,by decide,fun _=>by kernel_rfl⟩⟩
instance:FieldT prog 70 4 4 4:=⟨⟨_,underlying70,_,rfl,rfl,rfl⟩,⟨1,by decide,fun _=>by kernel_rfl⟩⟩
instance:FieldT prog 70 5 5 3:=⟨⟨_,underlying70,_,rfl,rfl,rfl⟩,⟨1,by decide,fun _=>by kernel_rfl⟩⟩
instance:StructT prog 70 (fun i=>(#[(0,1),(1,1),(2,1),(3,1),(4,1),(5,1)]:Array (Nat×Nat))[i]?) [.bool false,.int .i64 0,.int .i64 0,.int .i64 0,.bool false,.int .i64 0]:=zR underlying70 (fun _=>by kernel_rfl)
instance:AggT prog 72 96:=⟨fun _=>by kernel_rfl⟩
instance:SizeT prog 72 96:=⟨fun _=>by kernel_rfl⟩
def z72:List Value:=[.bool false,.int .i64 0,.int .i64 0,.int .i64 0,.bool false,.int .i64 0,.bool false,.int .i64 0,.int .i64 0,.int .i64 0,.bool false,.int .i64 0,.bool false,.int .i64 0,.int .i64 0,.int .i64 0,.bool false,.int .i64 0,.bool false,.int .i64 0,.int .i64 0,.int .i64 0,.bool false,.int .i64 0,.bool false,.int .i64 0,.int .i64 0,.int .i64 0,.bool false,.int .i64 0,.bool false,.int .i64 0,.int .i64 0,.int .i64 0,.bool false,.int .i64 0,.bool false,.int .i64 0,.int .i64 0,.int .i64 0,.bool false,.int .i64 0,.bool false,.int .i64 0,.int .i64 0,.int .i64 0,.bool false,.int .i64 0,.bool false,.int .i64 0,.int .i64 0,.int .i64 0,.bool false,.int .i64 0,.bool false,.int .i64 0,.int .i64 0,.int .i64 0,.bool false,.int .i64 0,.bool false,.int .i64 0,.int .i64 0,.int .i64 0,.bool false,.int .i64 0,.bool false,.int .i64 0,.int .i64 0,.int .i64 0,.bool false,.int .i64 0,.bool false,.int .i64 0,.int .i64 0,.int .i64 0,.bool false,.int .i64 0,.bool false,.int .i64 0,.int .i64 0,.int .i64 0,.bool false,.int .i64 0,.bool false,.int .i64 0,.int .i64 0,.int .i64 0,.bool false,.int .i64 0,.bool false,.int .i64 0,.int .i64 0,.int .i64 0,.bool false,.int .i64 0]
theorem vw:z72.length=96:=by kernel_rfl
instance:ZeroT prog 72 z72:=⟨fun _=>⟨valL z72,rfl,by kernel_rfl⟩⟩
instance:ArrayT prog 72 16 70 6:=⟨by kernel_rfl,fun _=>by kernel_rfl⟩
instance:ScalarT prog 73:=⟨fun _=>by kernel_rfl⟩
def z77:List Value:=[.int .i64 0,.int .u64 0,.bool false,.slice none 0 0,.int .i64 0,.slice none 0 0,.int .i64 0,.int .u64 0,.slice none 0 0,.slice none 0 0,.slice none 0 0,.slice none 0 0,.slice none 0 0,.int .u32 0,.bool false,.slice none 0 0,.int .i64 0,.slice none 0 0,.int .i64 0,.int .u64 0,.slice none 0 0,.slice none 0 0,.slice none 0 0,.slice none 0 0,.slice none 0 0,.int .u32 0,.bool false,.slice none 0 0,.int .i64 0,.slice none 0 0,.int .i64 0,.int .u64 0,.slice none 0 0,.slice none 0 0,.slice none 0 0,.slice none 0 0,.slice none 0 0,.int .u32 0,.bool false,.slice none 0 0,.int .i64 0,.slice none 0 0,.int .i64 0,.int .u64 0,.slice none 0 0,.slice none 0 0,.slice none 0 0,.slice none 0 0,.slice none 0 0,.int .u32 0,.bool false,.slice none 0 0,.int .i64 0,.slice none 0 0,.int .i64 0,.int .u64 0,.slice none 0 0,.slice none 0 0,.slice none 0 0,.slice none 0 0,.slice none 0 0,.int .u32 0,.bool false,.slice none 0 0,.int .i64 0,.slice none 0 0,.int .i64 0,.int .u64 0,.slice none 0 0,.slice none 0 0,.slice none 0 0,.slice none 0 0,.slice none 0 0,.int .u32 0,.pointer none,.bool false,.int .i64 0,.int .i64 0,.int .i64 0,.bool false,.int .i64 0,.bool false,.int .i64 0,.int .i64 0,.int .i64 0,.bool false,.int .i64 0,.bool false,.int .i64 0,.int .i64 0,.int .i64 0,.bool false,.int .i64 0,.bool false,.int .i64 0,.int .i64 0,.int .i64 0,.bool false,.int .i64 0,.bool false,.int .i64 0,.int .i64 0,.int .i64 0,.bool false,.int .i64 0,.bool false,.int .i64 0,.int .i64 0,.int .i64 0,.bool false,.int .i64 0,.bool false,.int .i64 0,.int .i64 0,.int .i64 0,.bool false,.int .i64 0,.bool false,.int .i64 0,.int .i64 0,.int .i64 0,.bool false,.int .i64 0,.bool false,.int .i64 0,.int .i64 0,.int .i64 0,.bool false,.int .i64 0,.bool false,.int .i64 0,.int .i64 0,.int .i64 0,.bool false,.int .i64 0,.bool false,.int .i64 0,.int .i64 0,.int .i64 0,.bool false,.int .i64 0,.bool false,.int .i64 0,.int .i64 0,.int .i64 0,.bool false,.int .i64 0,.bool false,.int .i64 0,.int .i64 0,.int .i64 0,.bool false,.int .i64 0,.bool false,.int .i64 0,.int .i64 0,.int .i64 0,.bool false,.int .i64 0,.bool false,.int .i64 0,.int .i64 0,.int .i64 0,.bool false,.int .i64 0,.bool false,.int .i64 0,.int .i64 0,.int .i64 0,.bool false,.int .i64 0,.pointer none,.int .i64 0,.int .i64 0,.int .i64 0,.int .i64 0,.int .i64 0,.int .i64 0,.int .i64 0,.int .i64 0,.int .i64 0,.int .i64 0,.int .i64 0,.int .i64 0,.int .i64 0,.int .i64 0,.int .i64 0,.int .i64 0,.int .i64 0,.int .i64 0]
instance:ZeroT prog 77 z77:=⟨fun _=>⟨valL z77,rfl,by kernel_rfl⟩⟩
instance:FieldT prog 77 0 0 3:=⟨⟨_,underlying77,_,rfl,rfl,rfl⟩,⟨1,by decide,fun _=>by kernel_rfl⟩⟩
instance:FieldT prog 77 1 1 39:=⟨⟨_,underlying77,_,rfl,rfl,rfl⟩,⟨1,by decide,fun _=>by kernel_rfl⟩⟩
instance:FieldT prog 77 2 2 67:=⟨⟨_,underlying77,_,rfl,rfl,rfl⟩,⟨72,by decide,fun _=>by kernel_rfl⟩⟩
instance:FieldT prog 77 3 74 68:=⟨⟨_,underlying77,_,rfl,rfl,rfl⟩,⟨1,by decide,fun _=>by kernel_rfl⟩⟩
instance:FieldT prog 77 4 75 72:=⟨⟨_,underlying77,_,rfl,rfl,rfl⟩,⟨96,by decide,fun _=>by kernel_rfl⟩⟩
instance:FieldT prog 77 5 171 73:=⟨⟨_,underlying77,_,rfl,rfl,rfl⟩,⟨1,by decide,fun _=>by kernel_rfl⟩⟩
instance:StructT prog 77 (fun i=>(#[(0,1),(1,1),(2,72),(74,1),(75,96),(171,1),(172,18)]:Array (Nat×Nat))[i]?) z77:=zR underlying77 (fun _=>by kernel_rfl)
instance:ScalarT prog 78:=⟨fun _=>by kernel_rfl⟩
instance:ScalarT prog 79:=⟨fun _=>by kernel_rfl⟩
instance:ScalarT prog 80:=⟨fun _=>by kernel_rfl⟩
instance:SizeT prog 80 1:=⟨fun _=>by kernel_rfl⟩
instance:SliceT prog 80 264 5:=⟨by kernel_rfl,fun _=>by kernel_rfl⟩
instance:FieldT prog 82 0 0 80:=⟨⟨_,underlying82,_,rfl,rfl,rfl⟩,⟨1,by decide,fun _=>by kernel_rfl⟩⟩
instance:ScalarT prog 83:=⟨fun _=>by kernel_rfl⟩
instance:ArrayT prog 84 6 58 1:=⟨by kernel_rfl,fun _=>by kernel_rfl⟩
abbrev z86:List Value:=[.pointer none,.pointer none,.slice none 0 0,.pointer none,.slice none 0 0,.slice none 0 0,.slice none 0 0,.slice none 0 0,.slice none 0 0,.slice none 0 0,.slice none 0 0]
instance:ZeroT prog 86 [.pointer none,.pointer none,.slice none 0 0,.pointer none,.slice none 0 0,.slice none 0 0,.slice none 0 0,.slice none 0 0,.slice none 0 0,.slice none 0 0,.slice none 0 0]:=⟨fun _=>⟨valL z86,rfl,by kernel_rfl⟩⟩
instance:FieldT prog 86 0 0 78:=⟨⟨_,underlying86,_,rfl,rfl,rfl⟩,⟨1,by decide,fun _=>by kernel_rfl⟩⟩
instance:FieldT prog 86 1 1 79:=⟨⟨_,underlying86,_,rfl,rfl,rfl⟩,⟨1,by decide,fun _=>by kernel_rfl⟩⟩
instance:FieldT prog 86 2 2 82:=⟨⟨_,underlying86,_,rfl,rfl,rfl⟩,⟨1,by decide,fun _=>by kernel_rfl⟩⟩
instance:FieldT prog 86 3 3 83:=⟨⟨_,underlying86,_,rfl,rfl,rfl⟩,⟨1,by decide,fun _=>by kernel_rfl⟩⟩
instance:FieldT prog 86 4 4 61:=⟨⟨_,underlying86,_,rfl,rfl,rfl⟩,⟨1,by decide,fun _=>by kernel_rfl⟩⟩
instance:FieldT prog 86 5 5 84:=⟨⟨_,underlying86,_,rfl,rfl,rfl⟩,⟨6,by decide,fun _=>by kernel_rfl⟩⟩
instance:StructT prog 86 (fun i=>(#[(0,1),(1,1),(2,1),(3,1),(4,1),(5,6)]:Array (Nat×Nat))[i]?) [.pointer none,.pointer none,.slice none 0 0,.pointer none,.slice none 0 0,.slice none 0 0,.slice none 0 0,.slice none 0 0,.slice none 0 0,.slice none 0 0,.slice none 0 0]:=zR underlying86 (fun _=>by kernel_rfl)
instance:AggT prog 91 4:=⟨fun _=>by kernel_rfl⟩
instance:SizeT prog 91 4:=⟨fun _=>by kernel_rfl⟩
abbrev z91:List Value:=[.int .u8 0,.int .i64 0,.int .i64 0,.int .i64 0]
instance:ZeroT prog 91 [.int .u8 0,.int .i64 0,.int .i64 0,.int .i64 0]:=⟨fun _=>⟨valL z91,rfl,by kernel_rfl⟩⟩
instance:FieldT prog 91 0 0 5:=⟨⟨_,underlying91,_,rfl,rfl,rfl⟩,⟨1,by decide,fun _=>by kernel_rfl⟩⟩
instance:FieldT prog 91 1 1 3:=⟨⟨_,underlying91,_,rfl,rfl,rfl⟩,⟨1,by decide,fun _=>by kernel_rfl⟩⟩
instance:FieldT prog 91 3 3 3:=⟨⟨_,underlying91,_,rfl,rfl,rfl⟩,⟨1,by decide,fun _=>by kernel_rfl⟩⟩
instance:StructT prog 91 (fun i=>(#[(0,1),(1,1),(2,1),(3,1)]:Array (Nat×Nat))[i]?) [.int .u8 0,.int .i64 0,.int .i64 0,.int .i64 0]:=zR underlying91 (fun _=>by kernel_rfl)
instance:AggT prog 111 3:=⟨fun _=>by kernel_rfl⟩
instance:SizeT prog 111 3:=⟨fun _=>by kernel_rfl⟩
abbrev z111:List Value:=[.bool false,.int .i64 0,.bool false]
instance:ZeroT prog 111 [.bool false,.int .i64 0,.bool false]:=⟨fun _=>⟨valL z111,rfl,by kernel_rfl⟩⟩
instance:FieldT prog 111 0 0 4:=⟨⟨_,underlying111,_,rfl,rfl,rfl⟩,⟨1,by decide,fun _=>by kernel_rfl⟩⟩
instance:FieldT prog 111 1 1 3:=⟨⟨_,underlying111,_,rfl,rfl,rfl⟩,⟨1,by decide,fun _=>by kernel_rfl⟩⟩
instance:FieldT prog 111 2 2 4:=⟨⟨_,underlying111,_,rfl,rfl,rfl⟩,⟨1,by decide,fun _=>by kernel_rfl⟩⟩
instance:StructT prog 111 (fun i=>(#[(0,1),(1,1),(2,1)]:Array (Nat×Nat))[i]?) [.bool false,.int .i64 0,.bool false]:=zR underlying111 (fun _=>by kernel_rfl)
instance:ScalarT prog 125:=⟨fun _=>by kernel_rfl⟩
instance:SizeT prog 125 1:=⟨fun _=>by kernel_rfl⟩
instance:SliceT prog 125 193 3:=⟨by kernel_rfl,fun _=>by kernel_rfl⟩
abbrev z127:List Value:=[.slice none 0 0]
instance:ZeroT prog 127 [.slice none 0 0]:=⟨fun _=>⟨valL z127,rfl,by kernel_rfl⟩⟩
instance:FieldT prog 127 0 0 125:=⟨⟨_,underlying127,_,rfl,rfl,rfl⟩,⟨1,by decide,fun _=>by kernel_rfl⟩⟩
instance:StructT prog 127 (fun i=>(#[(0,1)]:Array (Nat×Nat))[i]?) [.slice none 0 0]:=zR underlying127 (fun _=>by kernel_rfl)
instance:ArrayT prog 130 6 4 1:=⟨by kernel_rfl,fun _=>by kernel_rfl⟩
instance:ScalarT prog 131:=⟨fun _=>by kernel_rfl⟩
instance:ArrayT prog 132 32 4 1:=⟨by kernel_rfl,fun _=>by kernel_rfl⟩
instance:ArrayT prog 133 3 4 1:=⟨by kernel_rfl,fun _=>by kernel_rfl⟩
instance:ArrayT prog 134 3 39 1:=⟨by kernel_rfl,fun _=>by kernel_rfl⟩
instance:AggT prog 136 54:=⟨fun _=>by kernel_rfl⟩
instance:SizeT prog 136 54:=⟨fun _=>by kernel_rfl⟩
def z136:List Value:=[.bool false,.slice none 0 0,.int .i64 0,.int .u64 0,.slice none 0 0,.slice none 0 0,.slice none 0 0,.slice none 0 0,.slice none 0 0,.bool false,.bool false,.bool false,.bool false,.bool false,.bool false,.pointer none,.bool false,.bool false,.bool false,.bool false,.bool false,.bool false,.bool false,.bool false,.bool false,.bool false,.bool false,.bool false,.bool false,.bool false,.bool false,.bool false,.bool false,.bool false,.bool false,.bool false,.bool false,.bool false,.bool false,.bool false,.bool false,.bool false,.bool false,.bool false,.bool false,.bool false,.bool false,.bool false,.bool false,.bool false,.bool false,.int .u64 0,.int .u64 0,.int .u64 0]
theorem zjh:z136.length=54:=by kernel_rfl
instance:ZeroT prog 136 z136:=⟨fun _=>⟨valL z136,rfl,by kernel_rfl⟩⟩
instance:FieldT prog 136 0 0 4:=⟨⟨_,underlying136,_,rfl,rfl,rfl⟩,⟨1,by decide,fun _=>by kernel_rfl⟩⟩
instance:FieldT prog 136 1 1 60:=⟨⟨_,underlying136,_,rfl,rfl,rfl⟩,⟨1,by decide,fun _=>by kernel_rfl⟩⟩
instance:FieldT prog 136 2 2 3:=⟨⟨_,underlying136,_,rfl,rfl,rfl⟩,⟨1,by decide,fun _=>by kernel_rfl⟩⟩
instance:FieldT prog 136 3 3 39:=⟨⟨_,underlying136,_,rfl,rfl,rfl⟩,⟨1,by decide,fun _=>by kernel_rfl⟩⟩
instance:FieldT prog 136 4 4 22:=⟨⟨_,underlying136,_,rfl,rfl,rfl⟩,⟨1,by decide,fun _=>by kernel_rfl⟩⟩
instance:FieldT prog 136 5 5 64:=⟨⟨_,underlying136,_,rfl,rfl,rfl⟩,⟨4,by decide,fun _=>by kernel_rfl⟩⟩
instance:FieldT prog 136 6 9 130:=⟨⟨_,underlying136,_,rfl,rfl,rfl⟩,⟨6,by decide,fun _=>by kernel_rfl⟩⟩
instance:FieldT prog 136 7 15 131:=⟨⟨_,underlying136,_,rfl,rfl,rfl⟩,⟨1,by decide,fun _=>by kernel_rfl⟩⟩
instance:FieldT prog 136 8 16 132:=⟨⟨_,underlying136,_,rfl,rfl,rfl⟩,⟨32,by decide,fun _=>by kernel_rfl⟩⟩
instance:FieldT prog 136 9 48 133:=⟨⟨_,underlying136,_,rfl,rfl,rfl⟩,⟨3,by decide,fun _=>by kernel_rfl⟩⟩
instance:FieldT prog 136 10 51 134:=⟨⟨_,underlying136,_,rfl,rfl,rfl⟩,⟨3,by decide,fun _=>by kernel_rfl⟩⟩
instance:StructT prog 136 (fun i=>(#[(0,1),(1,1),(2,1),(3,1),(4,1),(5,4),(9,6),(15,1),(16,32),(48,3),(51,3)]:Array (Nat×Nat))[i]?) z136:=zR underlying136 (fun _=>by kernel_rfl)
instance:ArrayT prog 137 6 136 54:=⟨by kernel_rfl,fun _=>by kernel_rfl⟩
instance:AggT prog 138 6:=⟨fun _=>by kernel_rfl⟩
instance:SizeT prog 138 6:=⟨fun _=>by kernel_rfl⟩
abbrev z138:List Value:=[.bool false,.int .i64 0,.int .i64 0,.int .i64 0,.bool false,.int .i64 0]
instance:ZeroT prog 138 [.bool false,.int .i64 0,.int .i64 0,.int .i64 0,.bool false,.int .i64 0]:=⟨fun _=>⟨valL z138,rfl,by kernel_rfl⟩⟩
instance:FieldT prog 138 0 0 4:=⟨⟨_,underlying138,_,rfl,rfl,rfl⟩,⟨1,by decide,fun _=>by kernel_rfl⟩⟩
instance:FieldT prog 138 1 1 3:=⟨⟨_,underlying138,_,rfl,rfl,rfl⟩,⟨1,by decide,fun _=>by kernel_rfl⟩⟩
instance:FieldT prog 138 2 2 3:=⟨⟨_,underlying138,_,rfl,rfl,rfl⟩,⟨1,by decide,fun _=>by kernel_rfl⟩⟩
instance:FieldT prog 138 3 3 3:=⟨⟨_,underlying138,_,rfl,rfl,rfl⟩,⟨1,by decide,fun _=>by kernel_rfl⟩⟩
instance:FieldT prog 138 4 4 4:=⟨⟨_,underlying138,_,rfl,rfl,rfl⟩,⟨1,by decide,fun _=>by kernel_rfl⟩⟩
instance:FieldT prog 138 5 5 3:=⟨⟨_,underlying138,_,rfl,rfl,rfl⟩,⟨1,by decide,fun _=>by kernel_rfl⟩⟩
instance:StructT prog 138 (fun i=>(#[(0,1),(1,1),(2,1),(3,1),(4,1),(5,1)]:Array (Nat×Nat))[i]?) [.bool false,.int .i64 0,.int .i64 0,.int .i64 0,.bool false,.int .i64 0]:=zR underlying138 (fun _=>by kernel_rfl)
instance:ArrayT prog 139 16 138 6:=⟨by kernel_rfl,fun _=>by kernel_rfl⟩
def z141:List Value:=[.int .u64 0,.int .i64 0,.bool false,.slice none 0 0,.int .i64 0,.int .u64 0,.slice none 0 0,.slice none 0 0,.slice none 0 0,.slice none 0 0,.slice none 0 0,.bool false,.bool false,.bool false,.bool false,.bool false,.bool false,.pointer none,.bool false,.bool false,.bool false,.bool false,.bool false,.bool false,.bool false,.bool false,.bool false,.bool false,.bool false,.bool false,.bool false,.bool false,.bool false,.bool false,.bool false,.bool false,.bool false,.bool false,.bool false,.bool false,.bool false,.bool false,.bool false,.bool false,.bool false,.bool false,.bool false,.bool false,.bool false,.bool false,.bool false,.bool false,.bool false,.int .u64 0,.int .u64 0,.int .u64 0,.bool false,.slice none 0 0,.int .i64 0,.int .u64 0,.slice none 0 0,.slice none 0 0,.slice none 0 0,.slice none 0 0,.slice none 0 0,.bool false,.bool false,.bool false,.bool false,.bool false,.bool false,.pointer none,.bool false,.bool false,.bool false,.bool false,.bool false,.bool false,.bool false,.bool false,.bool false,.bool false,.bool false,.bool false,.bool false,.bool false,.bool false,.bool false,.bool false,.bool false,.bool false,.bool false,.bool false,.bool false,.bool false,.bool false,.bool false,.bool false,.bool false,.bool false,.bool false,.bool false,.bool false,.bool false,.bool false,.bool false,.bool false,.int .u64 0,.int .u64 0,.int .u64 0,.bool false,.slice none 0 0,.int .i64 0,.int .u64 0,.slice none 0 0,.slice none 0 0,.slice none 0 0,.slice none 0 0,.slice none 0 0,.bool false,.bool false,.bool false,.bool false,.bool false,.bool false,.pointer none,.bool false,.bool false,.bool false,.bool false,.bool false,.bool false,.bool false,.bool false,.bool false,.bool false,.bool false,.bool false,.bool false,.bool false,.bool false,.bool false,.bool false,.bool false,.bool false,.bool false,.bool false,.bool false,.bool false,.bool false,.bool false,.bool false,.bool false,.bool false,.bool false,.bool false,.bool false,.bool false,.bool false,.bool false,.bool false,.int .u64 0,.int .u64 0,.int .u64 0,.bool false,.slice none 0 0,.int .i64 0,.int .u64 0,.slice none 0 0,.slice none 0 0,.slice none 0 0,.slice none 0 0,.slice none 0 0,.bool false,.bool false,.bool false,.bool false,.bool false,.bool false,.pointer none,.bool false,.bool false,.bool false,.bool false,.bool false,.bool false,.bool false,.bool false,.bool false,.bool false,.bool false,.bool false,.bool false,.bool false,.bool false,.bool false,.bool false,.bool false,.bool false,.bool false,.bool false,.bool false,.bool false,.bool false,.bool false,.bool false,.bool false,.bool false,.bool false,.bool false,.bool false,.bool false,.bool false,.bool false,.bool false,.int .u64 0,.int .u64 0,.int .u64 0,.bool false,.slice none 0 0,.int .i64 0,.int .u64 0,.slice none 0 0,.slice none 0 0,.slice none 0 0,.slice none 0 0,.slice none 0 0,.bool false,.bool false,.bool false,.bool false,.bool false,.bool false,.pointer none,.bool false,.bool false,.bool false,.bool false,.bool false,.bool false,.bool false,.bool false,.bool false,.bool false,.bool false,.bool false,.bool false,.bool false,.bool false,.bool false,.bool false,.bool false,.bool false,.bool false,.bool false,.bool false,.bool false,.bool false,.bool false,.bool false,.bool false,.bool false,.bool false,.bool false,.bool false,.bool false,.bool false,.bool false,.bool false,.int .u64 0,.int .u64 0,.int .u64 0,.bool false,.slice none 0 0,.int .i64 0,.int .u64 0,.slice none 0 0,.slice none 0 0,.slice none 0 0,.slice none 0 0,.slice none 0 0,.bool false,.bool false,.bool false,.bool false,.bool false,.bool false,.pointer none,.bool false,.bool false,.bool false,.bool false,.bool false,.bool false,.bool false,.bool false,.bool false,.bool false,.bool false,.bool false,.bool false,.bool false,.bool false,.bool false,.bool false,.bool false,.bool false,.bool false,.bool false,.bool false,.bool false,.bool false,.bool false,.bool false,.bool false,.bool false,.bool false,.bool false,.bool false,.bool false,.bool false,.bool false,.bool false,.int .u64 0,.int .u64 0,.int .u64 0,.bool false,.int .i64 0,.int .i64 0,.int .i64 0,.bool false,.int .i64 0,.bool false,.int .i64 0,.int .i64 0,.int .i64 0,.bool false,.int .i64 0,.bool false,.int .i64 0,.int .i64 0,.int .i64 0,.bool false,.int .i64 0,.bool false,.int .i64 0,.int .i64 0,.int .i64 0,.bool false,.int .i64 0,.bool false,.int .i64 0,.int .i64 0,.int .i64 0,.bool false,.int .i64 0,.bool false,.int .i64 0,.int .i64 0,.int .i64 0,.bool false,.int .i64 0,.bool false,.int .i64 0,.int .i64 0,.int .i64 0,.bool false,.int .i64 0,.bool false,.int .i64 0,.int .i64 0,.int .i64 0,.bool false,.int .i64 0,.bool false,.int .i64 0,.int .i64 0,.int .i64 0,.bool false,.int .i64 0,.bool false,.int .i64 0,.int .i64 0,.int .i64 0,.bool false,.int .i64 0,.bool false,.int .i64 0,.int .i64 0,.int .i64 0,.bool false,.int .i64 0,.bool false,.int .i64 0,.int .i64 0,.int .i64 0,.bool false,.int .i64 0,.bool false,.int .i64 0,.int .i64 0,.int .i64 0,.bool false,.int .i64 0,.bool false,.int .i64 0,.int .i64 0,.int .i64 0,.bool false,.int .i64 0,.bool false,.int .i64 0,.int .i64 0,.int .i64 0,.bool false,.int .i64 0,.bool false,.int .i64 0,.int .i64 0,.int .i64 0,.bool false,.int .i64 0,.slice none 0 0,.slice none 0 0,.slice none 0 0,.slice none 0 0,.slice none 0 0,.slice none 0 0]
instance:ZeroT prog 141 z141:=⟨fun _=>⟨valL z141,rfl,by kernel_rfl⟩⟩
instance:FieldT prog 141 0 0 39:=⟨⟨_,underlying141,_,rfl,rfl,rfl⟩,⟨1,by decide,fun _=>by kernel_rfl⟩⟩
instance:FieldT prog 141 1 1 3:=⟨⟨_,underlying141,_,rfl,rfl,rfl⟩,⟨1,by decide,fun _=>by kernel_rfl⟩⟩
instance:FieldT prog 141 2 2 137:=⟨⟨_,underlying141,_,rfl,rfl,rfl⟩,⟨324,by decide,fun _=>by kernel_rfl⟩⟩
instance:FieldT prog 141 3 326 139:=⟨⟨_,underlying141,_,rfl,rfl,rfl⟩,⟨96,by decide,fun _=>by kernel_rfl⟩⟩
instance:FieldT prog 141 4 422 84:=⟨⟨_,underlying141,_,rfl,rfl,rfl⟩,⟨6,by decide,fun _=>by kernel_rfl⟩⟩
instance:StructT prog 141 (fun i=>(#[(0,1),(1,1),(2,324),(326,96),(422,6)]:Array (Nat×Nat))[i]?) z141:=zR underlying141 (fun _=>by kernel_rfl)
instance:ArrayT prog 146 32 22 1:=⟨by kernel_rfl,fun _=>by kernel_rfl⟩
def z148:List Value:=[.slice none 0 0,.slice none 0 0,.slice none 0 0,.slice none 0 0,.slice none 0 0,.slice none 0 0,.slice none 0 0,.slice none 0 0,.slice none 0 0,.slice none 0 0,.slice none 0 0,.slice none 0 0,.slice none 0 0,.slice none 0 0,.slice none 0 0,.slice none 0 0,.slice none 0 0,.slice none 0 0,.slice none 0 0,.slice none 0 0,.slice none 0 0,.slice none 0 0,.slice none 0 0,.slice none 0 0,.slice none 0 0,.slice none 0 0,.slice none 0 0,.slice none 0 0,.slice none 0 0,.slice none 0 0,.slice none 0 0,.slice none 0 0,.bool false,.bool false,.bool false,.bool false,.bool false,.bool false,.bool false,.bool false,.bool false,.bool false,.bool false,.bool false,.bool false,.bool false,.bool false,.bool false,.bool false,.bool false,.bool false,.bool false,.bool false,.bool false,.bool false,.bool false,.bool false,.bool false,.bool false,.bool false,.bool false,.bool false,.bool false,.bool false]
instance:ZeroT prog 148 z148:=⟨fun _=>⟨valL z148,rfl,by kernel_rfl⟩⟩
instance:FieldT prog 148 0 0 146:=⟨⟨_,underlying148,_,rfl,rfl,rfl⟩,⟨32,by decide,fun _=>by kernel_rfl⟩⟩
instance:FieldT prog 148 1 32 132:=⟨⟨_,underlying148,_,rfl,rfl,rfl⟩,⟨32,by decide,fun _=>by kernel_rfl⟩⟩
instance:StructT prog 148 (fun i=>(#[(0,32),(32,32)]:Array (Nat×Nat))[i]?) z148:=zR underlying148 (fun _=>by kernel_rfl)
instance:ScalarT prog 150:=⟨fun _=>by kernel_rfl⟩
instance:AggT prog 173 2:=⟨fun _=>by kernel_rfl⟩
instance:SizeT prog 173 2:=⟨fun _=>by kernel_rfl⟩
abbrev z173:List Value:=[.pointer none,.int .i64 0]
instance:ZeroT prog 173 [.pointer none,.int .i64 0]:=⟨fun _=>⟨valL z173,rfl,by kernel_rfl⟩⟩
instance:FieldT prog 173 0 0 51:=⟨⟨_,underlying173,_,rfl,rfl,rfl⟩,⟨1,by decide,fun _=>by kernel_rfl⟩⟩
instance:FieldT prog 173 1 1 3:=⟨⟨_,underlying173,_,rfl,rfl,rfl⟩,⟨1,by decide,fun _=>by kernel_rfl⟩⟩
instance:StructT prog 173 (fun i=>(#[(0,1),(1,1)]:Array (Nat×Nat))[i]?) [.pointer none,.int .i64 0]:=zR underlying173 (fun _=>by kernel_rfl)
instance:ScalarT prog 175:=⟨fun _=>by kernel_rfl⟩
instance:SizeT prog 175 1:=⟨fun _=>by kernel_rfl⟩
instance:SliceT prog 175 3 1:=⟨by kernel_rfl,fun _=>by kernel_rfl⟩
instance:ScalarT prog 176:=⟨fun _=>by kernel_rfl⟩
instance:SizeT prog 176 1:=⟨fun _=>by kernel_rfl⟩
instance:SliceT prog 176 4 1:=⟨by kernel_rfl,fun _=>by kernel_rfl⟩
abbrev z178:List Value:=[.slice none 0 0,.slice none 0 0,.int .i64 0]
instance:ZeroT prog 178 [.slice none 0 0,.slice none 0 0,.int .i64 0]:=⟨fun _=>⟨valL z178,rfl,by kernel_rfl⟩⟩
instance:FieldT prog 178 0 0 175:=⟨⟨_,underlying178,_,rfl,rfl,rfl⟩,⟨1,by decide,fun _=>by kernel_rfl⟩⟩
instance:FieldT prog 178 1 1 176:=⟨⟨_,underlying178,_,rfl,rfl,rfl⟩,⟨1,by decide,fun _=>by kernel_rfl⟩⟩
instance:FieldT prog 178 2 2 3:=⟨⟨_,underlying178,_,rfl,rfl,rfl⟩,⟨1,by decide,fun _=>by kernel_rfl⟩⟩
instance:StructT prog 178 (fun i=>(#[(0,1),(1,1),(2,1)]:Array (Nat×Nat))[i]?) [.slice none 0 0,.slice none 0 0,.int .i64 0]:=zR underlying178 (fun _=>by kernel_rfl)
abbrev z180:List Value:=[.slice none 0 0]
instance:ZeroT prog 180 [.slice none 0 0]:=⟨fun _=>⟨valL z180,rfl,by kernel_rfl⟩⟩
instance:FieldT prog 180 0 0 22:=⟨⟨_,underlying180,_,rfl,rfl,rfl⟩,⟨1,by decide,fun _=>by kernel_rfl⟩⟩
instance:StructT prog 180 (fun i=>(#[(0,1)]:Array (Nat×Nat))[i]?) [.slice none 0 0]:=zR underlying180 (fun _=>by kernel_rfl)
instance:AggT prog 193 3:=⟨fun _=>by kernel_rfl⟩
instance:SizeT prog 193 3:=⟨fun _=>by kernel_rfl⟩
abbrev z193:List Value:=[.int .u64 0,.int .i64 0,.int .i64 0]
instance:ZeroT prog 193 [.int .u64 0,.int .i64 0,.int .i64 0]:=⟨fun _=>⟨valL z193,rfl,by kernel_rfl⟩⟩
instance:FieldT prog 193 0 0 39:=⟨⟨_,underlying193,_,rfl,rfl,rfl⟩,⟨1,by decide,fun _=>by kernel_rfl⟩⟩
instance:FieldT prog 193 1 1 3:=⟨⟨_,underlying193,_,rfl,rfl,rfl⟩,⟨1,by decide,fun _=>by kernel_rfl⟩⟩
instance:FieldT prog 193 2 2 3:=⟨⟨_,underlying193,_,rfl,rfl,rfl⟩,⟨1,by decide,fun _=>by kernel_rfl⟩⟩
instance:StructT prog 193 (fun i=>(#[(0,1),(1,1),(2,1)]:Array (Nat×Nat))[i]?) [.int .u64 0,.int .i64 0,.int .i64 0]:=zR underlying193 (fun _=>by kernel_rfl)
instance:ScalarT prog 197:=⟨fun _=>by kernel_rfl⟩
instance:SliceT prog 197 91 4:=⟨by kernel_rfl,fun _=>by kernel_rfl⟩
abbrev z199:List Value:=[.slice none 0 0]
instance:ZeroT prog 199 [.slice none 0 0]:=⟨fun _=>⟨valL z199,rfl,by kernel_rfl⟩⟩
instance:FieldT prog 199 0 0 197:=⟨⟨_,underlying199,_,rfl,rfl,rfl⟩,⟨1,by decide,fun _=>by kernel_rfl⟩⟩
instance:StructT prog 199 (fun i=>(#[(0,1)]:Array (Nat×Nat))[i]?) [.slice none 0 0]:=zR underlying199 (fun _=>by kernel_rfl)
instance:ScalarT prog 222:=⟨fun _=>by kernel_rfl⟩
instance:AggT prog 224 4:=⟨fun _=>by kernel_rfl⟩
instance:SizeT prog 224 4:=⟨fun _=>by kernel_rfl⟩
abbrev z224:List Value:=[.pointer none,.nilIface,.int .u64 0,.int .i64 0]
instance:ZeroT prog 224 [.pointer none,.nilIface,.int .u64 0,.int .i64 0]:=⟨fun _=>⟨valL z224,rfl,by kernel_rfl⟩⟩
instance:FieldT prog 224 0 0 150:=⟨⟨_,underlying224,_,rfl,rfl,rfl⟩,⟨1,by decide,fun _=>by kernel_rfl⟩⟩
instance:FieldT prog 224 1 1 222:=⟨⟨_,underlying224,_,rfl,rfl,rfl⟩,⟨1,by decide,fun _=>by kernel_rfl⟩⟩
instance:FieldT prog 224 2 2 39:=⟨⟨_,underlying224,_,rfl,rfl,rfl⟩,⟨1,by decide,fun _=>by kernel_rfl⟩⟩
instance:FieldT prog 224 3 3 3:=⟨⟨_,underlying224,_,rfl,rfl,rfl⟩,⟨1,by decide,fun _=>by kernel_rfl⟩⟩
instance:StructT prog 224 (fun i=>(#[(0,1),(1,1),(2,1),(3,1)]:Array (Nat×Nat))[i]?) [.pointer none,.nilIface,.int .u64 0,.int .i64 0]:=zR underlying224 (fun _=>by kernel_rfl)
instance:AggT prog 231 5:=⟨fun _=>by kernel_rfl⟩
instance:SizeT prog 231 5:=⟨fun _=>by kernel_rfl⟩
abbrev z231:List Value:=[.int .u8 0,.int .u8 0,.int .u8 0,.int .u8 0,.int .i16 0]
instance:ZeroT prog 231 [.int .u8 0,.int .u8 0,.int .u8 0,.int .u8 0,.int .i16 0]:=⟨fun _=>⟨valL z231,rfl,by kernel_rfl⟩⟩
instance:FieldT prog 231 0 0 5:=⟨⟨_,underlying231,_,rfl,rfl,rfl⟩,⟨1,by decide,fun _=>by kernel_rfl⟩⟩
instance:FieldT prog 231 1 1 5:=⟨⟨_,underlying231,_,rfl,rfl,rfl⟩,⟨1,by decide,fun _=>by kernel_rfl⟩⟩
instance:FieldT prog 231 2 2 5:=⟨⟨_,underlying231,_,rfl,rfl,rfl⟩,⟨1,by decide,fun _=>by kernel_rfl⟩⟩
instance:FieldT prog 231 3 3 5:=⟨⟨_,underlying231,_,rfl,rfl,rfl⟩,⟨1,by decide,fun _=>by kernel_rfl⟩⟩
instance:FieldT prog 231 4 4 54:=⟨⟨_,underlying231,_,rfl,rfl,rfl⟩,⟨1,by decide,fun _=>by kernel_rfl⟩⟩
instance:StructT prog 231 (fun i=>(#[(0,1),(1,1),(2,1),(3,1),(4,1)]:Array (Nat×Nat))[i]?) [.int .u8 0,.int .u8 0,.int .u8 0,.int .u8 0,.int .i16 0]:=zR underlying231 (fun _=>by kernel_rfl)
instance:SliceT prog 243 39 1:=⟨by kernel_rfl,fun _=>by kernel_rfl⟩
instance:AggT prog 262 2:=⟨fun _=>by kernel_rfl⟩
instance:SizeT prog 262 2:=⟨fun _=>by kernel_rfl⟩
abbrev z262:List Value:=[.int .i64 0,.int .i64 0]
instance:ZeroT prog 262 [.int .i64 0,.int .i64 0]:=⟨fun _=>⟨valL z262,rfl,by kernel_rfl⟩⟩
instance:StructT prog 262 (fun i=>(#[(0,1),(1,1)]:Array (Nat×Nat))[i]?) [.int .i64 0,.int .i64 0]:=zR underlying262 (fun _=>by kernel_rfl)
instance:AggT prog 264 5:=⟨fun _=>by kernel_rfl⟩
instance:SizeT prog 264 5:=⟨fun _=>by kernel_rfl⟩
abbrev z264:List Value:=[.int .i64 0,.int .i64 0,.bool false,.int .i64 0,.bool false]
instance:ZeroT prog 264 [.int .i64 0,.int .i64 0,.bool false,.int .i64 0,.bool false]:=⟨fun _=>⟨valL z264,rfl,by kernel_rfl⟩⟩
instance:FieldT prog 264 0 0 262:=⟨⟨_,underlying264,_,rfl,rfl,rfl⟩,⟨2,by decide,fun _=>by kernel_rfl⟩⟩
instance:FieldT prog 264 1 2 111:=⟨⟨_,underlying264,_,rfl,rfl,rfl⟩,⟨3,by decide,fun _=>by kernel_rfl⟩⟩
instance:StructT prog 264 (fun i=>(#[(0,2),(2,3)]:Array (Nat×Nat))[i]?) [.int .i64 0,.int .i64 0,.bool false,.int .i64 0,.bool false]:=zR underlying264 (fun _=>by kernel_rfl)
instance:AggT prog 292 4:=⟨fun _=>by kernel_rfl⟩
instance:SizeT prog 292 4:=⟨fun _=>by kernel_rfl⟩
abbrev z292:List Value:=[.bool false,.bool false,.bool false,.bool false]
instance:ZeroT prog 292 [.bool false,.bool false,.bool false,.bool false]:=⟨fun _=>⟨valL z292,rfl,by kernel_rfl⟩⟩
instance:FieldT prog 292 0 0 4:=⟨⟨_,underlying292,_,rfl,rfl,rfl⟩,⟨1,by decide,fun _=>by kernel_rfl⟩⟩
instance:FieldT prog 292 1 1 4:=⟨⟨_,underlying292,_,rfl,rfl,rfl⟩,⟨1,by decide,fun _=>by kernel_rfl⟩⟩
instance:FieldT prog 292 2 2 4:=⟨⟨_,underlying292,_,rfl,rfl,rfl⟩,⟨1,by decide,fun _=>by kernel_rfl⟩⟩
instance:FieldT prog 292 3 3 4:=⟨⟨_,underlying292,_,rfl,rfl,rfl⟩,⟨1,by decide,fun _=>by kernel_rfl⟩⟩
instance:StructT prog 292 (fun i=>(#[(0,1),(1,1),(2,1),(3,1)]:Array (Nat×Nat))[i]?) [.bool false,.bool false,.bool false,.bool false]:=zR underlying292 (fun _=>by kernel_rfl)
instance:ArrayT prog 337 64 5 1:=⟨by kernel_rfl,fun _=>by kernel_rfl⟩
instance:IntT prog 2 .i64:=⟨by kernel_rfl⟩
instance:IntT prog 3 .i64:=⟨by kernel_rfl⟩
instance:NotIface prog 3:=⟨⟨.int .i64,by kernel_rfl,rfl⟩⟩
instance:IntT prog 5 .u8:=⟨by kernel_rfl⟩
instance:IntT prog 28 .i64:=⟨by kernel_rfl⟩
instance:IntT prog 39 .u64:=⟨by kernel_rfl⟩
instance:IntT prog 41 .u32:=⟨by kernel_rfl⟩
instance:PtrT prog 51:=⟨⟨86,by kernel_rfl⟩⟩
instance:IntT prog 54 .i16:=⟨by kernel_rfl⟩
instance:IntT prog 57 .u64:=⟨by kernel_rfl⟩
instance:PtrT prog 68:=⟨⟨199,by kernel_rfl⟩⟩
instance:PtrT prog 73:=⟨⟨127,by kernel_rfl⟩⟩
instance:PtrT prog 78:=⟨⟨180,by kernel_rfl⟩⟩
instance:PtrT prog 79:=⟨⟨178,by kernel_rfl⟩⟩
instance:PtrT prog 83:=⟨⟨77,by kernel_rfl⟩⟩
instance:PtrT prog 150:=⟨⟨43,by kernel_rfl⟩⟩
instance:IntT prog 166 .u16:=⟨by kernel_rfl⟩
instance:NotIface prog 173:=⟨⟨_,underlying173,rfl⟩⟩
instance : MethS prog 173 "Load" 234 := ⟨fun _ _ => by kernel_rfl⟩
instance : MethS prog 173 "Save" 233 := ⟨fun _ _ => by kernel_rfl⟩
instance:NotIface prog 193:=⟨⟨_,underlying193,rfl⟩⟩
instance:NotIface prog 205:=⟨⟨.pointer 175,by kernel_rfl,rfl⟩⟩
instance : MethV prog 205 "Len" 273 := zaX (elem := 175) (by kernel_rfl) typeInfo205 (by kernel_rfl) (by kernel_rfl)
instance : MethV prog 205 "Less" 274 := zaX (elem := 175) (by kernel_rfl) typeInfo205 (by kernel_rfl) (by kernel_rfl)
instance : MethP prog 205 "Pop" 276 := ⟨fun _ _ => by kernel_rfl⟩
instance : MethP prog 205 "Push" 277 := ⟨fun _ _ => by kernel_rfl⟩
instance : MethV prog 205 "Swap" 275 := zaX (elem := 175) (by kernel_rfl) typeInfo205 (by kernel_rfl) (by kernel_rfl)
instance:PtrT prog 259:=⟨⟨82,by kernel_rfl⟩⟩
instance:NotIface prog 269:=⟨⟨.pointer 125,by kernel_rfl,rfl⟩⟩
instance : MethV prog 269 "Len" 269 := zaX (elem := 125) (by kernel_rfl) typeInfo269 (by kernel_rfl) (by kernel_rfl)
instance : MethV prog 269 "Less" 270 := zaX (elem := 125) (by kernel_rfl) typeInfo269 (by kernel_rfl) (by kernel_rfl)
instance : MethP prog 269 "Push" 281 := ⟨fun _ _ => by kernel_rfl⟩
instance : MethV prog 269 "Swap" 271 := zaX (elem := 125) (by kernel_rfl) typeInfo269 (by kernel_rfl) (by kernel_rfl)
instance:ElemT prog 22 5 [.int .u8 0] 1 1:=⟨by kernel_rfl,⟨t5,.int .u8 0,by kernel_rfl,by kernel_rfl,rfl,by kernel_rfl,by kernel_rfl⟩,rfl,by decide⟩
instance:ElemT prog 58 45 [.int .u8 0,.int .i64 0,.int .u64 0,.int .u64 0] 4 32:=⟨by kernel_rfl,⟨t45,valL z45,by kernel_rfl,by kernel_rfl,rfl,by kernel_rfl,by kernel_rfl⟩,rfl,by decide⟩
instance:ElemT prog 60 43 z43 26 192:=⟨by kernel_rfl,⟨t43,valL z43,by kernel_rfl,by kernel_rfl,rfl,by kernel_rfl,by kernel_rfl⟩,rfl,by decide⟩
instance:ElemT prog 61 3 [.int .i64 0] 1 8:=⟨by kernel_rfl,⟨t3,.int .i64 0,by kernel_rfl,by kernel_rfl,rfl,by kernel_rfl,by kernel_rfl⟩,rfl,by decide⟩
instance:ElemT prog 80 264 [.int .i64 0,.int .i64 0,.bool false,.int .i64 0,.bool false] 5 40:=⟨by kernel_rfl,⟨t264,valL z264,by kernel_rfl,by kernel_rfl,rfl,by kernel_rfl,by kernel_rfl⟩,rfl,by decide⟩
instance:ElemT prog 125 193 [.int .u64 0,.int .i64 0,.int .i64 0] 3 24:=⟨by kernel_rfl,⟨t193,valL z193,by kernel_rfl,by kernel_rfl,rfl,by kernel_rfl,by kernel_rfl⟩,rfl,by decide⟩
instance:ElemT prog 175 3 [.int .i64 0] 1 8:=⟨by kernel_rfl,⟨t3,.int .i64 0,by kernel_rfl,by kernel_rfl,rfl,by kernel_rfl,by kernel_rfl⟩,rfl,by decide⟩
instance:ElemT prog 176 4 [.bool false] 1 1:=⟨by kernel_rfl,⟨t4,.bool false,by kernel_rfl,by kernel_rfl,rfl,by kernel_rfl,by kernel_rfl⟩,rfl,by decide⟩
instance:ElemT prog 197 91 [.int .u8 0,.int .i64 0,.int .i64 0,.int .i64 0] 4 32:=⟨by kernel_rfl,⟨t91,valL z91,by kernel_rfl,by kernel_rfl,rfl,by kernel_rfl,by kernel_rfl⟩,rfl,by decide⟩
instance:ElemT prog 243 39 [.int .u64 0] 1 8:=⟨by kernel_rfl,⟨t39,.int .u64 0,by kernel_rfl,by kernel_rfl,rfl,by kernel_rfl,by kernel_rfl⟩,rfl,by decide⟩
instance:CallT prog 17:=⟨call17⟩
instance:CallT prog 19:=⟨call19⟩
instance:CallT prog 21:=⟨call21⟩
instance:CallT prog 23:=⟨call23⟩
instance:CallT prog 25:=⟨call25⟩
instance:CallT prog 26:=⟨call26⟩
instance:CallT prog 27:=⟨call27⟩
instance:CallT prog 28:=⟨call28⟩
instance:CallT prog 29:=⟨call29⟩
instance:CallT prog 30:=⟨call30⟩
instance:CallT prog 31:=⟨call31⟩
instance:CallT prog 32:=⟨call32⟩
instance:CallT prog 33:=⟨call33⟩
instance:CallT prog 34:=⟨call34⟩
instance:CallT prog 35:=⟨call35⟩
instance:CallT prog 37:=⟨call37⟩
instance:CallT prog 40:=⟨call40⟩
instance:CallT prog 43:=⟨call43⟩
instance:CallT prog 50:=⟨call50⟩
instance:CallT prog 51:=⟨call51⟩
instance:CallT prog 52:=⟨call52⟩
instance:CallT prog 53:=⟨call53⟩
instance:CallT prog 56:=⟨call56⟩
instance:CallT prog 58:=⟨call58⟩
instance:CallT prog 59:=⟨call59⟩
instance:CallT prog 60:=⟨call60⟩
instance:CallT prog 61:=⟨call61⟩
instance:CallT prog 64:=⟨call64⟩
instance:CallT prog 65:=⟨call65⟩
instance:CallT prog 66:=⟨call66⟩
instance:CallT prog 68:=⟨call68⟩
instance:CallT prog 69:=⟨call69⟩
instance:CallT prog 70:=⟨call70⟩
instance:CallT prog 71:=⟨call71⟩
instance:CallT prog 72:=⟨call72⟩
instance:CallT prog 73:=⟨call73⟩
instance:CallT prog 74:=⟨call74⟩
instance:CallT prog 75:=⟨call75⟩
instance:CallT prog 76:=⟨call76⟩
instance:CallT prog 77:=⟨call77⟩
instance:CallT prog 78:=⟨call78⟩
instance:CallT prog 79:=⟨call79⟩
instance:CallT prog 80:=⟨call80⟩
instance:CallT prog 81:=⟨call81⟩
instance:CallT prog 82:=⟨call82⟩
instance:CallT prog 83:=⟨call83⟩
instance:CallT prog 87:=⟨call87⟩
instance:CallT prog 88:=⟨call88⟩
instance:CallT prog 92:=⟨call92⟩
instance:CallT prog 93:=⟨call93⟩
instance:CallT prog 106:=⟨call106⟩
instance:CallT prog 107:=⟨call107⟩
instance:CallT prog 108:=⟨call108⟩
instance:CallT prog 109:=⟨call109⟩
instance:CallT prog 110:=⟨call110⟩
instance:CallT prog 111:=⟨call111⟩
instance:CallT prog 115:=⟨call115⟩
instance:CallT prog 116:=⟨call116⟩
instance:CallT prog 117:=⟨call117⟩
instance:CallT prog 118:=⟨call118⟩
instance:CallT prog 119:=⟨call119⟩
instance:CallT prog 120:=⟨call120⟩
instance:CallT prog 121:=⟨call121⟩
instance:CallT prog 122:=⟨call122⟩
instance:CallT prog 123:=⟨call123⟩
instance:CallT prog 124:=⟨call124⟩
instance:CallT prog 126:=⟨call126⟩
instance:CallT prog 127:=⟨call127⟩
instance:CallT prog 128:=⟨call128⟩
instance:CallT prog 129:=⟨call129⟩
instance:CallT prog 130:=⟨call130⟩
instance:CallT prog 131:=⟨call131⟩
instance:CallT prog 132:=⟨call132⟩
instance:CallT prog 133:=⟨call133⟩
instance:CallT prog 134:=⟨call134⟩
instance:CallT prog 135:=⟨call135⟩
instance:CallT prog 136:=⟨call136⟩
instance:CallT prog 137:=⟨call137⟩
instance:CallT prog 138:=⟨call138⟩
instance:CallT prog 139:=⟨call139⟩
instance:CallT prog 140:=⟨call140⟩
instance:CallT prog 141:=⟨call141⟩
instance:CallT prog 142:=⟨call142⟩
instance:CallT prog 143:=⟨call143⟩
instance:CallT prog 144:=⟨call144⟩
instance:CallT prog 145:=⟨call145⟩
instance:CallT prog 146:=⟨call146⟩
instance:CallT prog 147:=⟨call147⟩
instance:CallT prog 149:=⟨call149⟩
instance:CallT prog 150:=⟨call150⟩
instance:CallT prog 151:=⟨call151⟩
instance:CallT prog 153:=⟨call153⟩
instance:CallT prog 155:=⟨call155⟩
instance:CallT prog 159:=⟨call159⟩
instance:CallT prog 161:=⟨call161⟩
instance:CallT prog 162:=⟨call162⟩
instance:CallT prog 163:=⟨call163⟩
instance:CallT prog 164:=⟨call164⟩
instance:CallT prog 165:=⟨call165⟩
instance:CallT prog 166:=⟨call166⟩
instance:CallT prog 167:=⟨call167⟩
instance:CallT prog 170:=⟨call170⟩
instance:CallT prog 171:=⟨call171⟩
instance:CallT prog 172:=⟨call172⟩
instance:CallT prog 173:=⟨call173⟩
instance:CallT prog 174:=⟨call174⟩
instance:CallT prog 175:=⟨call175⟩
instance:CallT prog 176:=⟨call176⟩
instance:CallT prog 177:=⟨call177⟩
instance:CallT prog 178:=⟨call178⟩
instance:CallT prog 179:=⟨call179⟩
instance:CallT prog 180:=⟨call180⟩
instance:CallT prog 195:=⟨call195⟩
instance:CallT prog 196:=⟨call196⟩
instance:CallT prog 197:=⟨call197⟩
instance:CallT prog 198:=⟨call198⟩
instance:CallT prog 199:=⟨call199⟩
instance:CallT prog 200:=⟨call200⟩
instance:CallT prog 201:=⟨call201⟩
instance:CallT prog 202:=⟨call202⟩
instance:CallT prog 203:=⟨call203⟩
instance:CallT prog 204:=⟨call204⟩
instance:CallT prog 205:=⟨call205⟩
instance:CallT prog 206:=⟨call206⟩
instance:CallT prog 207:=⟨call207⟩
instance:CallT prog 208:=⟨call208⟩
instance:CallT prog 209:=⟨call209⟩
instance:CallT prog 210:=⟨call210⟩
instance:CallT prog 211:=⟨call211⟩
instance:CallT prog 212:=⟨call212⟩
instance:CallT prog 213:=⟨call213⟩
instance:CallT prog 214:=⟨call214⟩
instance:CallT prog 215:=⟨call215⟩
instance:CallT prog 216:=⟨call216⟩
instance:CallT prog 218:=⟨call218⟩
instance:CallT prog 219:=⟨call219⟩
instance:CallT prog 221:=⟨call221⟩
instance:CallT prog 222:=⟨call222⟩
instance:CallT prog 223:=⟨call223⟩
instance:CallT prog 224:=⟨call224⟩
instance:CallT prog 225:=⟨call225⟩
instance:CallT prog 229:=⟨call229⟩
instance:CallT prog 230:=⟨call230⟩
instance:CallT prog 231:=⟨call231⟩
instance:CallT prog 232:=⟨call232⟩
instance:CallT prog 233:=⟨call233⟩
instance:CallT prog 234:=⟨call234⟩
instance:CallT prog 235:=⟨call235⟩
instance:CallT prog 239:=⟨call239⟩
instance:CallT prog 240:=⟨call240⟩
instance:CallT prog 241:=⟨call241⟩
instance:CallT prog 242:=⟨call242⟩
instance:CallT prog 243:=⟨call243⟩
instance:CallT prog 248:=⟨call248⟩
instance:CallT prog 249:=⟨call249⟩
instance:CallT prog 269:=⟨call269⟩
instance:CallT prog 270:=⟨call270⟩
instance:CallT prog 271:=⟨call271⟩
instance:CallT prog 272:=⟨call272⟩
instance:CallT prog 273:=⟨call273⟩
instance:CallT prog 274:=⟨call274⟩
instance:CallT prog 275:=⟨call275⟩
instance:CallT prog 276:=⟨call276⟩
instance:CallT prog 277:=⟨call277⟩
instance:CallT prog 281:=⟨call281⟩
end
section
open Go Go.Pt Go.Proofs.Tryz
def fd (S:Mem) (x0:Int) (x1:Sl) (x2:Int) (x3:Int) (Q:Bool→Mem→Prop):Prop:=
 Tr prog 8 S [.int .u8 x0,eL x1,.int .u8 x2,.int .u8 x3] fun v S'=>∃ r0:Bool,v=.bool r0∧Q r0 S'
def wD (S:Mem) (x0:Int) (Q:Pt→Mem→Prop):Prop:=
 Tr prog 17 S [.int .i64 x0] fun v S'=>∃ r0:Pt,v=eP r0∧Q r0 S'
def qS (S:Mem) (x0:Pt) (x1:Int) (x2:Int) (x3:Int) (x4:Sl) (Q:Int→Int→Mem→Prop):Prop:=
 Tr prog 19 S [eP x0,.int .i64 x1,.int .i64 x2,.int .i64 x3,eL x4] fun v S'=>∃ r0:Int,∃ r1:Int,v=.tuple #[.int .i64 r0,.int .i64 r1]∧Q r0 r1 S'
def yH (S:Mem) (x0:Pt) (x1:Int) (x2:Int) (Q:Int→Mem→Prop):Prop:=
 Tr prog 21 S [eP x0,.int .i64 x1,.int .u8 x2] fun v S'=>∃ r0:Int,v=.int .i64 r0∧Q r0 S'
def yG (S:Mem) (x0:Pt) (x1:Int) (x2:Int) (Q:Int→Mem→Prop):Prop:=
 Tr prog 23 S [eP x0,.int .i64 x1,.int .i64 x2] fun v S'=>∃ r0:Int,v=.int .i64 r0∧Q r0 S'
def zfx (S:Mem) (x0:List Value) (x1:Int) (x2:Int) (x3:List Value) (Q:List Value→Mem→Prop):Prop:=
 Tr prog 25 S [valL x0,.int .i64 x1,.int .u64 x2,valL x3] fun v S'=>∃ r0:List Value,v=valL r0∧r0.length=4∧Q r0 S'
def wE (S:Mem) (x0:List Value) (Q:Int→Mem→Prop):Prop:=
 Tr prog 26 S [valL x0] fun v S'=>∃ r0:Int,v=.int .u64 r0∧Q r0 S'
def qN (S:Mem) (Q:Bool→Mem→Prop):Prop:=
 Tr prog 27 S [] fun v S'=>∃ r0:Bool,v=.bool r0∧Q r0 S'
def zcI (S:Mem) (x0:Int) (x1:Int) (x2:Int) (Q:Pt→Int→Mem→Prop):Prop:=
 Tr prog 28 S [.int .i64 x0,.int .i64 x1,.int .i64 x2] fun v S'=>∃ r0:Pt,∃ r1:Int,v=.tuple #[eP r0,.int .i64 r1]∧Q r0 r1 S'
def wo (S:Mem) (x0:Int) (x1:Int) (x2:Int) (x3:Int) (x4:Int) (Q:Int→Mem→Prop):Prop:=
 Tr prog 29 S [.int .u8 x0,.int .u8 x1,.int .u8 x2,.int .u8 x3,.int .i16 x4] fun v S'=>∃ r0:Int,v=.int .u32 r0∧Q r0 S'
def xa (S:Mem) (x0:Pt) (x1:Int) (x2:Int) (x3:Int) (x4:Sl) (Q:Int→Int→Mem→Prop):Prop:=
 Tr prog 30 S [eP x0,.int .i64 x1,.int .i64 x2,.int .i64 x3,eL x4] fun v S'=>∃ r0:Int,∃ r1:Int,v=.tuple #[.int .i64 r0,.int .i64 r1]∧Q r0 r1 S'
def yK (S:Mem) (x0:Pt) (x1:Int) (x2:Int) (Q:Int→Mem→Prop):Prop:=
 Tr prog 31 S [eP x0,.int .i64 x1,.int .i64 x2] fun v S'=>∃ r0:Int,v=.int .i64 r0∧Q r0 S'
def yZ (S:Mem) (x0:Pt) (x1:Int) (Q:Sl→Mem→Prop):Prop:=
 Tr prog 32 S [eP x0,.int .i64 x1] fun v S'=>∃ r0:Sl,v=eL r0∧Q r0 S'
def kU (S:Mem) (x0:Pt) (x1:Int) (x2:Int) (Q:Int→Mem→Prop):Prop:=
 Tr prog 33 S [eP x0,.int .i64 x1,.int .u8 x2] fun v S'=>∃ r0:Int,v=.int .i64 r0∧Q r0 S'
def jW (S:Mem) (x0:Pt) (Q:Int→Mem→Prop):Prop:=
 Tr prog 34 S [eP x0] fun v S'=>∃ r0:Int,v=.int .i64 r0∧Q r0 S'
def qX (S:Mem) (x0:Pt) (Q:Int→Mem→Prop):Prop:=
 Tr prog 35 S [eP x0] fun v S'=>∃ r0:Int,v=.int .i64 r0∧Q r0 S'
def wq (S:Mem) (x0:Pt) (x1:Pt) (Q:Bool→Mem→Prop):Prop:=
 Tr prog 37 S [eP x0,eP x1] fun v S'=>∃ r0:Bool,v=.bool r0∧Q r0 S'
def xK (S:Mem) (x0:Pt) (x1:Int) (Q:Int→Mem→Prop):Prop:=
 Tr prog 40 S [eP x0,.int .i64 x1] fun v S'=>∃ r0:Int,v=.int .i64 r0∧Q r0 S'
def zba (S:Mem) (x0:Int) (Q:Int→Mem→Prop):Prop:=
 Tr prog 43 S [.int .u64 x0] fun v S'=>∃ r0:Int,v=.int .i64 r0∧Q r0 S'
def zat (S:Mem) (x0:Int) (Q:Pt→Mem→Prop):Prop:=
 Tr prog 50 S [.int .i64 x0] fun v S'=>∃ r0:Pt,v=eP r0∧Q r0 S'
def zcA (S:Mem) (x0:Int) (Q:Pt→Mem→Prop):Prop:=
 Tr prog 51 S [.int .i64 x0] fun v S'=>∃ r0:Pt,v=eP r0∧Q r0 S'
def qv (S:Mem) (x0:List Value) (x1:Pt) (x2:Int) (Q:List Value→Int→Mem→Prop):Prop:=
 Tr prog 52 S [valL x0,eP x1,.int .i64 x2] fun v S'=>∃ r0:List Value,∃ r1:Int,v=.tuple #[valL r0,.int .i64 r1]∧r0.length=3∧Q r0 r1 S'
def jc (S:Mem) (x0:List Value) (x1:Pt) (x2:Int) (x3:Int) (x4:Bool) (Q:Int→Mem→Prop):Prop:=
 Tr prog 53 S [valL x0,eP x1,.int .i64 x2,.int .i64 x3,.bool x4] fun v S'=>∃ r0:Int,v=.int .i64 r0∧Q r0 S'
def zaZ (S:Mem) (x0:Int) (x1:Int) (Q:List Value→Int→Mem→Prop):Prop:=
 Tr prog 56 S [.int .i64 x0,.int .i64 x1] fun v S'=>∃ r0:List Value,∃ r1:Int,v=.tuple #[valL r0,.int .i64 r1]∧r0.length=12∧Q r0 r1 S'
def gz (S:Mem) (x0:Pt) (x1:Int) (Q:Int→Mem→Prop):Prop:=
 Tr prog 58 S [eP x0,.int .i64 x1] fun v S'=>∃ r0:Int,v=.int .i64 r0∧Q r0 S'
def qx (S:Mem) (x0:Pt) (x1:Int) (Q:Bool→Mem→Prop):Prop:=
 Tr prog 59 S [eP x0,.int .i64 x1] fun v S'=>∃ r0:Bool,v=.bool r0∧Q r0 S'
def qM (S:Mem) (x0:Pt) (x1:Int) (x2:Int) (x3:Int) (Q:Int→Mem→Prop):Prop:=
 Tr prog 60 S [eP x0,.int .i64 x1,.int .i64 x2,.int .i64 x3] fun v S'=>∃ r0:Int,v=.int .i64 r0∧Q r0 S'
def zhd (S:Mem) (x0:Pt) (x1:Value) (x2:Int) (x3:Int) (Q:List Value→Mem→Prop):Prop:=
 Tr prog 61 S [eP x0,x1,.int .u64 x2,.int .i64 x3] fun v S'=>∃ r0:List Value,v=valL r0∧r0.length=2∧Q r0 S'
def wh (S:Mem) (x0:List Value) (x1:Pt) (x2:Int) (x3:Int) (Q:List Value→Int→Int→Mem→Prop):Prop:=
 Tr prog 64 S [valL x0,eP x1,.int .u64 x2,.int .i64 x3] fun v S'=>∃ r0:List Value,∃ r1:Int,∃ r2:Int,v=.tuple #[valL r0,.int .u8 r1,.int .u64 r2]∧r0.length=26∧Q r0 r1 r2 S'
def qr (S:Mem) (x0:Pt) (x1:Int) (x2:Int) (x3:Int) (x4:Int) (x5:Int) (Q:Mem→Prop):Prop:=
 Tr prog 65 S [eP x0,.int .i64 x1,.int .i64 x2,.int .u8 x3,.int .u64 x4,.int .u64 x5] fun v S'=>v=.tuple #[]∧Q S'
def we (S:Mem) (x0:Pt) (x1:Int) (x2:Int) (x3:Int) (x4:Int) (x5:Int) (x6:Int) (Q:Int→Int→Mem→Prop):Prop:=
 Tr prog 66 S [eP x0,.int .i64 x1,.int .i64 x2,.int .u64 x3,.int .u64 x4,.int .u64 x5,.int .u64 x6] fun v S'=>∃ r0:Int,∃ r1:Int,v=.tuple #[.int .u64 r0,.int .i64 r1]∧Q r0 r1 S'
def zgG (S:Mem) (x0:List Value) (Q:Int→Mem→Prop):Prop:=
 Tr prog 68 S [valL x0] fun v S'=>∃ r0:Int,v=.int .u64 r0∧Q r0 S'
def jh (S:Mem) (x0:List Value) (Q:Int→Mem→Prop):Prop:=
 Tr prog 69 S [valL x0] fun v S'=>∃ r0:Int,v=.int .u64 r0∧Q r0 S'
def zcF (S:Mem) (x0:Int) (x1:Int) (Q:Pt→Mem→Prop):Prop:=
 Tr prog 70 S [.int .i64 x0,.int .i64 x1] fun v S'=>∃ r0:Pt,v=eP r0∧Q r0 S'
def wz (S:Mem) (x0:Pt) (x1:Int) (Q:Sl→Int→Mem→Prop):Prop:=
 Tr prog 71 S [eP x0,.int .i64 x1] fun v S'=>∃ r0:Sl,∃ r1:Int,v=.tuple #[eL r0,.int .i64 r1]∧Q r0 r1 S'
def yr (S:Mem) (x0:Pt) (x1:Int) (x2:Int) (Q:Int→Mem→Prop):Prop:=
 Tr prog 72 S [eP x0,.int .i64 x1,.int .i64 x2] fun v S'=>∃ r0:Int,v=.int .i64 r0∧Q r0 S'
def qF (S:Mem) (x0:Int) (Q:Int→Mem→Prop):Prop:=
 Tr prog 73 S [.int .u8 x0] fun v S'=>∃ r0:Int,v=.int .i64 r0∧Q r0 S'
def zaT (S:Mem) (x0:Pt) (x1:Int) (x2:Sl) (Q:List Value→Int→Mem→Prop):Prop:=
 Tr prog 74 S [eP x0,.int .i64 x1,eL x2] fun v S'=>∃ r0:List Value,∃ r1:Int,v=.tuple #[valL r0,.int .i64 r1]∧r0.length=2∧Q r0 r1 S'
def crab_Crab_own (S:Mem) (x0:Pt) (x1:Int) (x2:Int) (x3:Int) (Q:Mem→Prop):Prop:=
 Tr prog 75 S [eP x0,.int .i64 x1,.int .i64 x2,.int .i64 x3] fun v S'=>v=.tuple #[]∧Q S'
def qg (S:Mem) (x0:Pt) (x1:Int) (x2:Int) (x3:Sl) (Q:Int→Mem→Prop):Prop:=
 Tr prog 76 S [eP x0,.int .i64 x1,.int .i64 x2,eL x3] fun v S'=>∃ r0:Int,v=.int .i64 r0∧Q r0 S'
def qB (S:Mem) (x0:Pt) (x1:Int) (x2:Int) (Q:Pt→Mem→Prop):Prop:=
 Tr prog 77 S [eP x0,.int .i64 x1,.int .i64 x2] fun v S'=>∃ r0:Pt,v=eP r0∧Q r0 S'
def km (S:Mem) (x0:Pt) (x1:Int) (Q:Int→Mem→Prop):Prop:=
 Tr prog 78 S [eP x0,.int .i64 x1] fun v S'=>∃ r0:Int,v=.int .u64 r0∧Q r0 S'
def xd (S:Mem) (x0:Pt) (x1:Int) (x2:List Value) (Q:Mem→Prop):Prop:=
 Tr prog 79 S [eP x0,.int .i64 x1,valL x2] fun v S'=>v=.tuple #[]∧Q S'
def gc (S:Mem) (x0:Pt) (x1:Int) (x2:Int) (x3:Int) (Q:Mem→Prop):Prop:=
 Tr prog 80 S [eP x0,.int .i64 x1,.int .i64 x2,.int .u64 x3] fun v S'=>v=.tuple #[]∧Q S'
def qq (S:Mem) (x0:Pt) (x1:Int) (Q:Bool→Mem→Prop):Prop:=
 Tr prog 81 S [eP x0,.int .i64 x1] fun v S'=>∃ r0:Bool,v=.bool r0∧Q r0 S'
def wA (S:Mem) (x0:Pt) (x1:Int) (Q:Pt→Int→Mem→Prop):Prop:=
 Tr prog 82 S [eP x0,.int .i64 x1] fun v S'=>∃ r0:Pt,∃ r1:Int,v=.tuple #[eP r0,.int .i64 r1]∧Q r0 r1 S'
def ye (S:Mem) (x0:Pt) (x1:Int) (Q:Int→Mem→Prop):Prop:=
 Tr prog 83 S [eP x0,.int .i64 x1] fun v S'=>∃ r0:Int,v=.int .i64 r0∧Q r0 S'
def wR (S:Mem) (x0:Pt) (x1:Int) (x2:Int) (Q:Int→Mem→Prop):Prop:=
 Tr prog 87 S [eP x0,.int .i64 x1,.int .i64 x2] fun v S'=>∃ r0:Int,v=.int .i64 r0∧Q r0 S'
def vU (S:Mem) (x0:Pt) (x1:Int) (Q:Int→Mem→Prop):Prop:=
 Tr prog 88 S [eP x0,.int .i64 x1] fun v S'=>∃ r0:Int,v=.int .i64 r0∧Q r0 S'
def yl (S:Mem) (x0:Pt) (x1:Int) (x2:Int) (Q:Mem→Prop):Prop:=
 Tr prog 92 S [eP x0,.int .i64 x1,.int .i64 x2] fun v S'=>v=.tuple #[]∧Q S'
def ki (S:Mem) (x0:Pt) (x1:Int) (x2:Int) (Q:Int→Mem→Prop):Prop:=
 Tr prog 93 S [eP x0,.int .u8 x1,.int .i64 x2] fun v S'=>∃ r0:Int,v=.int .i64 r0∧Q r0 S'
def gC (S:Mem) (x0:Value) (Q:Mem→Prop):Prop:=
 Tr prog 106 S [x0] fun v S'=>v=.tuple #[]∧Q S'
def yV (S:Mem) (x0:List Value) (x1:Pt) (x2:Int) (Q:Int→Int→Int→Mem→Prop):Prop:=
 Tr prog 107 S [valL x0,eP x1,.int .i64 x2] fun v S'=>∃ r0:Int,∃ r1:Int,∃ r2:Int,v=.tuple #[.int .i64 r0,.int .i64 r1,.int .i64 r2]∧Q r0 r1 r2 S'
def yW (S:Mem) (x0:Pt) (x1:Int) (x2:Int) (Q:Int→Int→Mem→Prop):Prop:=
 Tr prog 108 S [eP x0,.int .i64 x1,.int .i64 x2] fun v S'=>∃ r0:Int,∃ r1:Int,v=.tuple #[.int .u64 r0,.int .i64 r1]∧Q r0 r1 S'
def jI (S:Mem) (x0:Int) (x1:Int) (Q:List Value→Bool→Mem→Prop):Prop:=
 Tr prog 109 S [.int .i64 x0,.int .u64 x1] fun v S'=>∃ r0:List Value,∃ r1:Bool,v=.tuple #[valL r0,.bool r1]∧r0.length=3∧Q r0 r1 S'
def qU (S:Mem) (x0:Pt) (x1:Int) (x2:Int) (x3:Int) (Q:Int→Mem→Prop):Prop:=
 Tr prog 110 S [eP x0,.int .i64 x1,.int .i64 x2,.int .u64 x3] fun v S'=>∃ r0:Int,v=.int .i64 r0∧Q r0 S'
def gj (S:Mem) (x0:Int) (x1:List Value) (Q:Int→Mem→Prop):Prop:=
 Tr prog 111 S [.int .i64 x0,valL x1] fun v S'=>∃ r0:Int,v=.int .u64 r0∧Q r0 S'
def zbI (S:Mem) (Q:List Value→Mem→Prop):Prop:=
 Tr prog 115 S [] fun v S'=>∃ r0:List Value,v=valL r0∧r0.length=4∧Q r0 S'
def zjm (S:Mem) (Q:List Value→Mem→Prop):Prop:=
 Tr prog 116 S [] fun v S'=>∃ r0:List Value,v=valL r0∧r0.length=26∧Q r0 S'
def zdi (S:Mem) (x0:Int) (Q:Bool→Mem→Prop):Prop:=
 Tr prog 117 S [.int .i64 x0] fun v S'=>∃ r0:Bool,v=.bool r0∧Q r0 S'
def zcD (S:Mem) (x0:Pt) (Q:Mem→Prop):Prop:=
 Tr prog 118 S [eP x0] fun v S'=>v=.tuple #[]∧Q S'
def wg (S:Mem) (x0:List Value) (Q:List Value→Mem→Prop):Prop:=
 Tr prog 119 S [valL x0] fun v S'=>∃ r0:List Value,v=valL r0∧r0.length=26∧Q r0 S'
def zfj (S:Mem) (x0:Pt) (Q:Int→Bool→Mem→Prop):Prop:=
 Tr prog 120 S [eP x0] fun v S'=>∃ r0:Int,∃ r1:Bool,v=.tuple #[.int .i64 r0,.bool r1]∧Q r0 r1 S'
def yy (S:Mem) (x0:List Value) (x1:Int) (x2:Int) (Q:List Value→Mem→Prop):Prop:=
 Tr prog 121 S [valL x0,.int .u64 x1,.int .u64 x2] fun v S'=>∃ r0:List Value,v=valL r0∧r0.length=2∧Q r0 S'
def jN (S:Mem) (x0:List Value) (x1:Int) (x2:Int) (Q:Int→Bool→Mem→Prop):Prop:=
 Tr prog 122 S [valL x0,.int .u64 x1,.int .i64 x2] fun v S'=>∃ r0:Int,∃ r1:Bool,v=.tuple #[.int .u64 r0,.bool r1]∧Q r0 r1 S'
def zbL (S:Mem) (x0:Int) (Q:List Value→Bool→Mem→Prop):Prop:=
 Tr prog 123 S [.int .u32 x0] fun v S'=>∃ r0:List Value,∃ r1:Bool,v=.tuple #[valL r0,.bool r1]∧r0.length=5∧Q r0 r1 S'
def zdp (S:Mem) (x0:List Value) (x1:List Value) (Q:List Value→Mem→Prop):Prop:=
 Tr prog 124 S [valL x0,valL x1] fun v S'=>∃ r0:List Value,v=valL r0∧r0.length=2∧Q r0 S'
def wj (S:Mem) (x0:List Value) (Q:Int→Mem→Prop):Prop:=
 Tr prog 126 S [valL x0] fun v S'=>∃ r0:Int,v=.int .i64 r0∧Q r0 S'
def zz (S:Mem) (x0:List Value) (x1:Int) (x2:Int) (Q:List Value→Int→Int→Mem→Prop):Prop:=
 Tr prog 127 S [valL x0,.int .u64 x1,.int .u64 x2] fun v S'=>∃ r0:List Value,∃ r1:Int,∃ r2:Int,v=.tuple #[valL r0,.int .u8 r1,.int .u64 r2]∧r0.length=26∧Q r0 r1 r2 S'
def qR (S:Mem) (x0:List Value) (x1:Pt) (x2:Int) (x3:Int) (Q:Int→Bool→Mem→Prop):Prop:=
 Tr prog 128 S [valL x0,eP x1,.int .u64 x2,.int .i64 x3] fun v S'=>∃ r0:Int,∃ r1:Bool,v=.tuple #[.int .u64 r0,.bool r1]∧Q r0 r1 S'
def xI (S:Mem) (x0:Int) (x1:Int) (x2:Int) (x3:Int) (x4:Int) (Q:Bool→Mem→Prop):Prop:=
 Tr prog 129 S [.int .u8 x0,.int .u8 x1,.int .u8 x2,.int .u8 x3,.int .i16 x4] fun v S'=>∃ r0:Bool,v=.bool r0∧Q r0 S'
def yI (S:Mem) (x0:List Value) (x1:Pt) (x2:Int) (x3:Int) (Q:Bool→Mem→Prop):Prop:=
 Tr prog 130 S [valL x0,eP x1,.int .u64 x2,.int .u64 x3] fun v S'=>∃ r0:Bool,v=.bool r0∧Q r0 S'
def yc (S:Mem) (x0:Int) (Q:Int→Mem→Prop):Prop:=
 Tr prog 131 S [.int .u64 x0] fun v S'=>∃ r0:Int,v=.int .i64 r0∧Q r0 S'
def yk (S:Mem) (x0:Pt) (x1:Int) (x2:Int) (Q:Int→Mem→Prop):Prop:=
 Tr prog 132 S [eP x0,.int .i64 x1,.int .i64 x2] fun v S'=>∃ r0:Int,v=.int .i64 r0∧Q r0 S'
def xG (S:Mem) (x0:Pt) (x1:Int) (x2:Int) (x3:Int) (x4:Int) (Q:Int→Mem→Prop):Prop:=
 Tr prog 133 S [eP x0,.int .i64 x1,.int .u64 x2,.int .i64 x3,.int .i64 x4] fun v S'=>∃ r0:Int,v=.int .i64 r0∧Q r0 S'
def zeU (S:Mem) (x0:List Value) (Q:Sl→Mem→Prop):Prop:=
 Tr prog 134 S [valL x0] fun v S'=>∃ r0:Sl,v=eL r0∧Q r0 S'
def zek (S:Mem) (x0:Int) (x1:Int) (Q:Int→Mem→Prop):Prop:=
 Tr prog 135 S [.int .u64 x0,.int .u64 x1] fun v S'=>∃ r0:Int,v=.int .u64 r0∧Q r0 S'
def xH (S:Mem) (x0:List Value) (Q:Sl→Mem→Prop):Prop:=
 Tr prog 136 S [valL x0] fun v S'=>∃ r0:Sl,v=eL r0∧Q r0 S'
def yJ (S:Mem) (x0:Int) (x1:Int) (Q:Int→Mem→Prop):Prop:=
 Tr prog 137 S [.int .u64 x0,.int .u64 x1] fun v S'=>∃ r0:Int,v=.int .u64 r0∧Q r0 S'
def zfe (S:Mem) (x0:Int) (Q:Pt→Mem→Prop):Prop:=
 Tr prog 138 S [.int .i64 x0] fun v S'=>∃ r0:Pt,v=eP r0∧Q r0 S'
def vT (S:Mem) (x0:Pt) (Q:Int→Int→Mem→Prop):Prop:=
 Tr prog 139 S [eP x0] fun v S'=>∃ r0:Int,∃ r1:Int,v=.tuple #[.int .i64 r0,.int .i64 r1]∧Q r0 r1 S'
def yq (S:Mem) (x0:Pt) (x1:Int) (Q:Int→Mem→Prop):Prop:=
 Tr prog 140 S [eP x0,.int .i64 x1] fun v S'=>∃ r0:Int,v=.int .i64 r0∧Q r0 S'
def vA (S:Mem) (x0:Pt) (x1:Int) (x2:Int) (x3:Int) (Q:Int→Mem→Prop):Prop:=
 Tr prog 141 S [eP x0,.int .i64 x1,.int .i64 x2,.int .i64 x3] fun v S'=>∃ r0:Int,v=.int .i64 r0∧Q r0 S'
def wX (S:Mem) (x0:Pt) (x1:Int) (x2:Int) (x3:Int) (x4:Bool) (Q:Mem→Prop):Prop:=
 Tr prog 142 S [eP x0,.int .i64 x1,.int .i64 x2,.int .i64 x3,.bool x4] fun v S'=>v=.tuple #[]∧Q S'
def vR (S:Mem) (x0:Pt) (x1:Int) (x2:Int) (x3:Int) (Q:Int→Int→Mem→Prop):Prop:=
 Tr prog 143 S [eP x0,.int .i64 x1,.int .i64 x2,.int .i64 x3] fun v S'=>∃ r0:Int,∃ r1:Int,v=.tuple #[.int .i64 r0,.int .i64 r1]∧Q r0 r1 S'
def zaC (S:Mem) (x0:Pt) (x1:Int) (x2:Int) (x3:Int) (x4:Int) (x5:Int) (x6:Bool) (Q:Int→Int→Mem→Prop):Prop:=
 Tr prog 144 S [eP x0,.int .i64 x1,.int .i64 x2,.int .u64 x3,.int .u64 x4,.int .i64 x5,.bool x6] fun v S'=>∃ r0:Int,∃ r1:Int,v=.tuple #[.int .u64 r0,.int .i64 r1]∧Q r0 r1 S'
def yi (S:Mem) (x0:List Value) (x1:Int) (Q:List Value→Int→Mem→Prop):Prop:=
 Tr prog 145 S [valL x0,.int .i64 x1] fun v S'=>∃ r0:List Value,∃ r1:Int,v=.tuple #[valL r0,.int .i64 r1]∧r0.length=6∧Q r0 r1 S'
def xJ (S:Mem) (x0:Pt) (x1:Int) (x2:Int) (Q:Mem→Prop):Prop:=
 Tr prog 146 S [eP x0,.int .i64 x1,.int .i64 x2] fun v S'=>v=.tuple #[]∧Q S'
def xx (S:Mem) (x0:Pt) (x1:Int) (x2:Int) (Q:Int→Mem→Prop):Prop:=
 Tr prog 147 S [eP x0,.int .i64 x1,.int .i64 x2] fun v S'=>∃ r0:Int,v=.int .i64 r0∧Q r0 S'
def xE (S:Mem) (x0:Pt) (x1:Int) (x2:Int) (Q:Pt→Int→Mem→Prop):Prop:=
 Tr prog 149 S [eP x0,.int .i64 x1,.int .i64 x2] fun v S'=>∃ r0:Pt,∃ r1:Int,v=.tuple #[eP r0,.int .i64 r1]∧Q r0 r1 S'
def zaA (S:Mem) (x0:Value) (x1:Value) (Q:Mem→Prop):Prop:=
 Tr prog 150 S [x0,x1] fun v S'=>v=.tuple #[]∧Q S'
def ko (S:Mem) (x0:Pt) (x1:Value) (Q:Mem→Prop):Prop:=
 Tr prog 151 S [eP x0,x1] fun v S'=>v=.tuple #[]∧Q S'
def kP (S:Mem) (x0:Pt) (x1:Value) (Q:Mem→Prop):Prop:=
 Tr prog 153 S [eP x0,x1] fun v S'=>v=.tuple #[]∧Q S'
def zgV (S:Mem) (x0:Value) (Q:Value→Mem→Prop):Prop:=
 Tr prog 155 S [x0] fun v S'=>∃ r0:Value,v=r0∧Q r0 S'
def fc (S:Mem) (x0:List Value) (x1:Int) (x2:Int) (Q:Int→Mem→Prop):Prop:=
 Tr prog 159 S [valL x0,.int .i64 x1,.int .i64 x2] fun v S'=>∃ r0:Int,v=.int .i64 r0∧Q r0 S'
def wT (S:Mem) (x0:Pt) (x1:Int) (x2:Int) (Q:Bool→Mem→Prop):Prop:=
 Tr prog 161 S [eP x0,.int .i64 x1,.int .i64 x2] fun v S'=>∃ r0:Bool,v=.bool r0∧Q r0 S'
def zaz (S:Mem) (x0:Value) (x1:Int) (x2:Int) (Q:Bool→Mem→Prop):Prop:=
 Tr prog 162 S [x0,.int .i64 x1,.int .i64 x2] fun v S'=>∃ r0:Bool,v=.bool r0∧Q r0 S'
def qV (S:Mem) (x0:Pt) (x1:Int) (x2:Int) (x3:Int) (Q:Sl→Int→Mem→Prop):Prop:=
 Tr prog 163 S [eP x0,.int .i64 x1,.int .i64 x2,.int .i64 x3] fun v S'=>∃ r0:Sl,∃ r1:Int,v=.tuple #[eL r0,.int .i64 r1]∧Q r0 r1 S'
def zew (S:Mem) (x0:Sl) (Q:Int→Mem→Prop):Prop:=
 Tr prog 164 S [eL x0] fun v S'=>∃ r0:Int,v=.int .u64 r0∧Q r0 S'
def xc (S:Mem) (x0:Int) (x1:Int) (x2:Int) (Q:Int→Mem→Prop):Prop:=
 Tr prog 165 S [.int .u64 x0,.int .i64 x1,.int .i64 x2] fun v S'=>∃ r0:Int,v=.int .u64 r0∧Q r0 S'
def zaR (S:Mem) (x0:Int) (Q:Sl→Mem→Prop):Prop:=
 Tr prog 166 S [.int .u64 x0] fun v S'=>∃ r0:Sl,v=eL r0∧Q r0 S'
def yo (S:Mem) (x0:Int) (x1:Int) (x2:Int) (x3:Int) (Q:Int→Mem→Prop):Prop:=
 Tr prog 167 S [.int .u64 x0,.int .i64 x1,.int .i64 x2,.int .u64 x3] fun v S'=>∃ r0:Int,v=.int .u64 r0∧Q r0 S'
def zfk (S:Mem) (x0:Pt) (Q:Int→Bool→Mem→Prop):Prop:=
 Tr prog 170 S [eP x0] fun v S'=>∃ r0:Int,∃ r1:Bool,v=.tuple #[.int .i64 r0,.bool r1]∧Q r0 r1 S'
def zeT (S:Mem) (x0:Pt) (x1:Int) (x2:Int) (Q:Mem→Prop):Prop:=
 Tr prog 171 S [eP x0,.int .u64 x1,.int .u64 x2] fun v S'=>v=.tuple #[]∧Q S'
def kV (S:Mem) (x0:List Value) (x1:Int) (x2:Bool) (Q:Int→Int→Bool→Mem→Prop):Prop:=
 Tr prog 172 S [valL x0,.int .u64 x1,.bool x2] fun v S'=>∃ r0:Int,∃ r1:Int,∃ r2:Bool,v=.tuple #[.int .i64 r0,.int .i64 r1,.bool r2]∧Q r0 r1 r2 S'
def jr (S:Mem) (x0:Int) (Q:List Value→Mem→Prop):Prop:=
 Tr prog 173 S [.int .u8 x0] fun v S'=>∃ r0:List Value,v=valL r0∧r0.length=4∧Q r0 S'
def zbK (S:Mem) (x0:List Value) (Q:Int→Bool→Mem→Prop):Prop:=
 Tr prog 174 S [valL x0] fun v S'=>∃ r0:Int,∃ r1:Bool,v=.tuple #[.int .u32 r0,.bool r1]∧Q r0 r1 S'
def zaE (S:Mem) (x0:List Value) (x1:Int) (x2:Int) (Q:Bool→Mem→Prop):Prop:=
 Tr prog 175 S [valL x0,.int .u64 x1,.int .u64 x2] fun v S'=>∃ r0:Bool,v=.bool r0∧Q r0 S'
def zaD (S:Mem) (x0:Int) (x1:Int) (x2:Int) (Q:Bool→Mem→Prop):Prop:=
 Tr prog 176 S [.int .u8 x0,.int .u64 x1,.int .u64 x2] fun v S'=>∃ r0:Bool,v=.bool r0∧Q r0 S'
def zgI (S:Mem) (x0:List Value) (x1:Int) (x2:Int) (x3:Int) (Q:Int→Bool→Mem→Prop):Prop:=
 Tr prog 177 S [valL x0,.int .i64 x1,.int .u64 x2,.int .i64 x3] fun v S'=>∃ r0:Int,∃ r1:Bool,v=.tuple #[.int .u64 r0,.bool r1]∧Q r0 r1 S'
def zgH (S:Mem) (x0:Pt) (x1:Int) (x2:Int) (Q:Bool→Mem→Prop):Prop:=
 Tr prog 178 S [eP x0,.int .i64 x1,.int .u64 x2] fun v S'=>∃ r0:Bool,v=.bool r0∧Q r0 S'
def zeV (S:Mem) (x0:Pt) (Q:Mem→Prop):Prop:=
 Tr prog 179 S [eP x0] fun v S'=>v=.tuple #[]∧Q S'
def zhc (S:Mem) (x0:Int) (x1:Int) (x2:Int) (Q:Int→Mem→Prop):Prop:=
 Tr prog 180 S [.int .u8 x0,.int .u64 x1,.int .u64 x2] fun v S'=>∃ r0:Int,v=.int .u64 r0∧Q r0 S'
def wl (S:Mem) (x0:List Value) (x1:Int) (x2:Int) (Q:List Value→Mem→Prop):Prop:=
 Tr prog 195 S [valL x0,.int .u64 x1,.int .u64 x2] fun v S'=>∃ r0:List Value,v=valL r0∧r0.length=26∧Q r0 S'
def yf (S:Mem) (x0:List Value) (x1:Pt) (x2:Int) (x3:Bool) (Q:Int→Int→Bool→Mem→Prop):Prop:=
 Tr prog 196 S [valL x0,eP x1,.int .u64 x2,.bool x3] fun v S'=>∃ r0:Int,∃ r1:Int,∃ r2:Bool,v=.tuple #[.int .i64 r0,.int .i64 r1,.bool r2]∧Q r0 r1 r2 S'
def ym (S:Mem) (x0:Pt) (x1:Int) (x2:Int) (x3:Int) (Q:Sl→Bool→Mem→Prop):Prop:=
 Tr prog 197 S [eP x0,.int .i64 x1,.int .i64 x2,.int .i64 x3] fun v S'=>∃ r0:Sl,∃ r1:Bool,v=.tuple #[eL r0,.bool r1]∧Q r0 r1 S'
def qE (S:Mem) (x0:Sl) (Q:Int→Mem→Prop):Prop:=
 Tr prog 198 S [eL x0] fun v S'=>∃ r0:Int,v=.int .u64 r0∧Q r0 S'
def zcw (S:Mem) (x0:Bool) (Q:Int→Mem→Prop):Prop:=
 Tr prog 199 S [.bool x0] fun v S'=>∃ r0:Int,v=.int .u64 r0∧Q r0 S'
def zdu (S:Mem) (x0:Int) (x1:Int) (Q:Int→Int→Mem→Prop):Prop:=
 Tr prog 200 S [.int .u64 x0,.int .u64 x1] fun v S'=>∃ r0:Int,∃ r1:Int,v=.tuple #[.int .u64 r0,.int .u64 r1]∧Q r0 r1 S'
def vG (S:Mem) (x0:Int) (x1:Int) (Q:Int→Mem→Prop):Prop:=
 Tr prog 201 S [.int .u64 x0,.int .i64 x1] fun v S'=>∃ r0:Int,v=.int .u64 r0∧Q r0 S'
def zgN (S:Mem) (x0:Int) (x1:Int) (Q:Bool→Mem→Prop):Prop:=
 Tr prog 202 S [.int .i64 x0,.int .i64 x1] fun v S'=>∃ r0:Bool,v=.bool r0∧Q r0 S'
def xb (S:Mem) (x0:Pt) (x1:Int) (x2:Int) (Q:Mem→Prop):Prop:=
 Tr prog 203 S [eP x0,.int .i64 x1,.int .i64 x2] fun v S'=>v=.tuple #[]∧Q S'
def jZ (S:Mem) (x0:Pt) (x1:Int) (x2:Int) (x3:Int) (Q:Int→Mem→Prop):Prop:=
 Tr prog 204 S [eP x0,.int .i64 x1,.int .i64 x2,.int .i64 x3] fun v S'=>∃ r0:Int,v=.int .i64 r0∧Q r0 S'
def vt (S:Mem) (x0:Pt) (x1:Int) (x2:Int) (x3:Int) (Q:Int→Mem→Prop):Prop:=
 Tr prog 205 S [eP x0,.int .i64 x1,.int .i64 x2,.int .u64 x3] fun v S'=>∃ r0:Int,v=.int .i64 r0∧Q r0 S'
def jm (S:Mem) (x0:Pt) (x1:Int) (x2:Int) (x3:Int) (x4:Bool) (Q:Int→Int→Mem→Prop):Prop:=
 Tr prog 206 S [eP x0,.int .i64 x1,.int .i64 x2,.int .i64 x3,.bool x4] fun v S'=>∃ r0:Int,∃ r1:Int,v=.tuple #[.int .u64 r0,.int .i64 r1]∧Q r0 r1 S'
def kn (S:Mem) (x0:Pt) (x1:Int) (x2:Int) (x3:Int) (Q:Int→Mem→Prop):Prop:=
 Tr prog 207 S [eP x0,.int .i64 x1,.int .i64 x2,.int .i64 x3] fun v S'=>∃ r0:Int,v=.int .i64 r0∧Q r0 S'
def jp (S:Mem) (x0:Pt) (x1:Int) (x2:Int) (Q:Int→Mem→Prop):Prop:=
 Tr prog 208 S [eP x0,.int .i64 x1,.int .i64 x2] fun v S'=>∃ r0:Int,v=.int .i64 r0∧Q r0 S'
def wW (S:Mem) (x0:Pt) (x1:Int) (x2:Int) (Q:Int→Mem→Prop):Prop:=
 Tr prog 209 S [eP x0,.int .i64 x1,.int .i64 x2] fun v S'=>∃ r0:Int,v=.int .i64 r0∧Q r0 S'
def gb (S:Mem) (x0:Pt) (x1:Int) (x2:Int) (Q:Int→Mem→Prop):Prop:=
 Tr prog 210 S [eP x0,.int .i64 x1,.int .i64 x2] fun v S'=>∃ r0:Int,v=.int .i64 r0∧Q r0 S'
def fo (S:Mem) (x0:Pt) (x1:Int) (x2:Int) (Q:Int→Mem→Prop):Prop:=
 Tr prog 211 S [eP x0,.int .i64 x1,.int .i64 x2] fun v S'=>∃ r0:Int,v=.int .i64 r0∧Q r0 S'
def ga (S:Mem) (x0:Pt) (x1:Int) (x2:Int) (x3:Int) (Q:Int→Mem→Prop):Prop:=
 Tr prog 212 S [eP x0,.int .i64 x1,.int .i64 x2,.int .i64 x3] fun v S'=>∃ r0:Int,v=.int .i64 r0∧Q r0 S'
def jY (S:Mem) (x0:Pt) (x1:Int) (x2:Int) (x3:Int) (Q:Int→Mem→Prop):Prop:=
 Tr prog 213 S [eP x0,.int .i64 x1,.int .i64 x2,.int .i64 x3] fun v S'=>∃ r0:Int,v=.int .i64 r0∧Q r0 S'
def vy (S:Mem) (x0:List Value) (x1:Pt) (x2:Int) (Q:Int→Mem→Prop):Prop:=
 Tr prog 214 S [valL x0,eP x1,.int .i64 x2] fun v S'=>∃ r0:Int,v=.int .i64 r0∧Q r0 S'
def zgU (S:Mem) (x0:Value) (x1:Int) (Q:Mem→Prop):Prop:=
 Tr prog 215 S [x0,.int .i64 x1] fun v S'=>v=.tuple #[]∧Q S'
def zT (S:Mem) (x0:Sl) (x1:Value) (Q:Sl→Mem→Prop):Prop:=
 Tr prog 216 S [eL x0,x1] fun v S'=>∃ r0:Sl,v=eL r0∧Q r0 S'
def zcO (S:Mem) (x0:Int) (Q:Int→Mem→Prop):Prop:=
 Tr prog 218 S [.int .u64 x0] fun v S'=>∃ r0:Int,v=.int .i64 r0∧Q r0 S'
def zdq (S:Mem) (x0:List Value) (Q:Bool→Mem→Prop):Prop:=
 Tr prog 219 S [valL x0] fun v S'=>∃ r0:Bool,v=.bool r0∧Q r0 S'
def kj (S:Mem) (x0:List Value) (x1:Int) (x2:Int) (x3:Int) (x4:Bool) (Q:List Value→Int→Int→Mem→Prop):Prop:=
 Tr prog 221 S [valL x0,.int .i64 x1,.int .i64 x2,.int .i64 x3,.bool x4] fun v S'=>∃ r0:List Value,∃ r1:Int,∃ r2:Int,v=.tuple #[valL r0,.int .i64 r1,.int .i64 r2]∧r0.length=96∧Q r0 r1 r2 S'
def vC (S:Mem) (x0:List Value) (x1:Int) (x2:Int) (x3:Int) (Q:List Value→Int→Mem→Prop):Prop:=
 Tr prog 222 S [valL x0,.int .i64 x1,.int .i64 x2,.int .i64 x3] fun v S'=>∃ r0:List Value,∃ r1:Int,v=.tuple #[valL r0,.int .i64 r1]∧r0.length=96∧Q r0 r1 S'
def wC (S:Mem) (x0:List Value) (x1:Int) (x2:Int) (Q:List Value→Int→Mem→Prop):Prop:=
 Tr prog 223 S [valL x0,.int .i64 x1,.int .i64 x2] fun v S'=>∃ r0:List Value,∃ r1:Int,v=.tuple #[valL r0,.int .i64 r1]∧r0.length=96∧Q r0 r1 S'
def yD (S:Mem) (x0:List Value) (x1:Int) (x2:Int) (Q:List Value→Int→Mem→Prop):Prop:=
 Tr prog 224 S [valL x0,.int .i64 x1,.int .i64 x2] fun v S'=>∃ r0:List Value,∃ r1:Int,v=.tuple #[valL r0,.int .i64 r1]∧r0.length=96∧Q r0 r1 S'
def jf (S:Mem) (x0:List Value) (x1:Int) (x2:Int) (Q:Bool→Mem→Prop):Prop:=
 Tr prog 225 S [valL x0,.int .i64 x1,.int .i64 x2] fun v S'=>∃ r0:Bool,v=.bool r0∧Q r0 S'
def zbN (S:Mem) (x0:List Value) (x1:Pt) (x2:Pt) (Q:Bool→Mem→Prop):Prop:=
 Tr prog 229 S [valL x0,eP x1,eP x2] fun v S'=>∃ r0:Bool,v=.bool r0∧Q r0 S'
def kQ (S:Mem) (x0:Pt) (x1:Int) (x2:Int) (Q:Mem→Prop):Prop:=
 Tr prog 230 S [eP x0,.int .i64 x1,.int .i64 x2] fun v S'=>v=.tuple #[]∧Q S'
def vW (S:Mem) (x0:Pt) (x1:Int) (x2:Int) (Q:Int→Int→Mem→Prop):Prop:=
 Tr prog 231 S [eP x0,.int .i64 x1,.int .i64 x2] fun v S'=>∃ r0:Int,∃ r1:Int,v=.tuple #[.int .i64 r0,.int .i64 r1]∧Q r0 r1 S'
def kg (S:Mem) (x0:Pt) (x1:Int) (x2:Int) (Q:Int→Mem→Prop):Prop:=
 Tr prog 232 S [eP x0,.int .i64 x1,.int .i64 x2] fun v S'=>∃ r0:Int,v=.int .i64 r0∧Q r0 S'
def fk (S:Mem) (x0:List Value) (x1:Int) (x2:Int) (x3:Sl) (Q:Int→Mem→Prop):Prop:=
 Tr prog 233 S [valL x0,.int .i64 x1,.int .i64 x2,eL x3] fun v S'=>∃ r0:Int,v=.int .i64 r0∧Q r0 S'
def fm (S:Mem) (x0:List Value) (x1:Int) (x2:Int) (x3:Int) (Q:Sl→Int→Mem→Prop):Prop:=
 Tr prog 234 S [valL x0,.int .i64 x1,.int .i64 x2,.int .i64 x3] fun v S'=>∃ r0:Sl,∃ r1:Int,v=.tuple #[eL r0,.int .i64 r1]∧Q r0 r1 S'
def zW (S:Mem) (x0:Sl) (x1:Value) (Q:Int→Mem→Prop):Prop:=
 Tr prog 235 S [eL x0,x1] fun v S'=>∃ r0:Int,v=.int .i64 r0∧Q r0 S'
def kS (S:Mem) (x0:Int) (Q:Int→Mem→Prop):Prop:=
 Tr prog 239 S [.int .u64 x0] fun v S'=>∃ r0:Int,v=.int .i64 r0∧Q r0 S'
def fu (S:Mem) (x0:Bool) (x1:Int) (Q:Bool→Mem→Prop):Prop:=
 Tr prog 240 S [.bool x0,.int .u8 x1] fun v S'=>∃ r0:Bool,v=.bool r0∧Q r0 S'
def je (S:Mem) (x0:Int) (x1:Int) (Q:Bool→Mem→Prop):Prop:=
 Tr prog 241 S [.int .i64 x0,.int .i64 x1] fun v S'=>∃ r0:Bool,v=.bool r0∧Q r0 S'
def zbZ (S:Mem) (x0:List Value) (x1:Pt) (x2:Pt) (Q:Bool→Mem→Prop):Prop:=
 Tr prog 242 S [valL x0,eP x1,eP x2] fun v S'=>∃ r0:Bool,v=.bool r0∧Q r0 S'
def kT (S:Mem) (x0:List Value) (x1:Int) (Q:List Value→Int→Mem→Prop):Prop:=
 Tr prog 243 S [valL x0,.int .i64 x1] fun v S'=>∃ r0:List Value,∃ r1:Int,v=.tuple #[valL r0,.int .i64 r1]∧r0.length=3∧Q r0 r1 S'
def kq (S:Mem) (x0:Pt) (x1:Int) (x2:Int) (Q:List Value→Bool→Mem→Prop):Prop:=
 Tr prog 248 S [eP x0,.int .i64 x1,.int .i64 x2] fun v S'=>∃ r0:List Value,∃ r1:Bool,v=.tuple #[valL r0,.bool r1]∧r0.length=3∧Q r0 r1 S'
def js (S:Mem) (x0:Pt) (x1:Int) (x2:Int) (x3:List Value) (Q:Mem→Prop):Prop:=
 Tr prog 249 S [eP x0,.int .i64 x1,.int .i64 x2,valL x3] fun v S'=>v=.tuple #[]∧Q S'
def zhh (S:Mem) (x0:Sl) (Q:Int→Mem→Prop):Prop:=
 Tr prog 269 S [eL x0] fun v S'=>∃ r0:Int,v=.int .i64 r0∧Q r0 S'
def zbt (S:Mem) (x0:Sl) (x1:Int) (x2:Int) (Q:Bool→Mem→Prop):Prop:=
 Tr prog 270 S [eL x0,.int .i64 x1,.int .i64 x2] fun v S'=>∃ r0:Bool,v=.bool r0∧Q r0 S'
def zbs (S:Mem) (x0:Sl) (x1:Int) (x2:Int) (Q:Mem→Prop):Prop:=
 Tr prog 271 S [eL x0,.int .i64 x1,.int .i64 x2] fun v S'=>v=.tuple #[]∧Q S'
def vu (S:Mem) (x0:List Value) (x1:List Value) (Q:Bool→Mem→Prop):Prop:=
 Tr prog 272 S [valL x0,valL x1] fun v S'=>∃ r0:Bool,v=.bool r0∧Q r0 S'
def zgM (S:Mem) (x0:Sl) (Q:Int→Mem→Prop):Prop:=
 Tr prog 273 S [eL x0] fun v S'=>∃ r0:Int,v=.int .i64 r0∧Q r0 S'
def zbn (S:Mem) (x0:Sl) (x1:Int) (x2:Int) (Q:Bool→Mem→Prop):Prop:=
 Tr prog 274 S [eL x0,.int .i64 x1,.int .i64 x2] fun v S'=>∃ r0:Bool,v=.bool r0∧Q r0 S'
def zbm (S:Mem) (x0:Sl) (x1:Int) (x2:Int) (Q:Mem→Prop):Prop:=
 Tr prog 275 S [eL x0,.int .i64 x1,.int .i64 x2] fun v S'=>v=.tuple #[]∧Q S'
def zgL (S:Mem) (x0:Pt) (Q:Value→Mem→Prop):Prop:=
 Tr prog 276 S [eP x0] fun v S'=>∃ r0:Value,v=r0∧Q r0 S'
def zfL (S:Mem) (x0:Pt) (x1:Value) (Q:Mem→Prop):Prop:=
 Tr prog 277 S [eP x0,x1] fun v S'=>v=.tuple #[]∧Q S'
def zfQ (S:Mem) (x0:Pt) (x1:Value) (Q:Mem→Prop):Prop:=
 Tr prog 281 S [eP x0,x1] fun v S'=>v=.tuple #[]∧Q S'
instance:EqT prog 45 [.i .u8,.i .i64,.i .u64,.i .u64]:=⟨by kernel_rfl,by kernel_rfl,by kernel_rfl⟩
instance:EqT prog 262 [.i .i64,.i .i64]:=⟨by kernel_rfl,by kernel_rfl,by kernel_rfl⟩
instance:BoolT prog 4:=⟨by kernel_rfl⟩
instance:BytesT prog 22:=⟨⟨5,by kernel_rfl,by kernel_rfl⟩⟩
instance:IfaceT prog 222:=⟨⟨_,underlying222⟩⟩
end
end Go.Proofs.YtabdpmnhjlmnlaaGreatDoor
