/- Texts of this work,joined by program (pack.py). -/
import Derived.Test.YthaiblbnpcgjpaaGreatDoorQAB
import Derived.Test.YthaiblbnpcgjpaaGreatDoorProg
set_option linter.unusedVariables false
set_option maxRecDepth 20000
set_option maxHeartbeats 4000000
namespace Go.Proofs.YthaiblbnpcgjpaaGreatDoor
section
open Go Go.Pt Go.Proofs.Tryz
instance:ScalarT prog 3:=⟨fun _=>by kernel_rfl⟩
instance:SizeT prog 3 1:=⟨fun _=>by kernel_rfl⟩
instance:ScalarT prog 4:=⟨fun _=>by kernel_rfl⟩
instance:SizeT prog 4 1:=⟨fun _=>by kernel_rfl⟩
instance:ScalarT prog 5:=⟨fun _=>by kernel_rfl⟩
instance:SizeT prog 5 1:=⟨fun _=>by kernel_rfl⟩
instance:ScalarT prog 22:=⟨fun _=>by kernel_rfl⟩
instance:SizeT prog 22 1:=⟨fun _=>by kernel_rfl⟩
instance:SliceT prog 22 5 1:=⟨by kernel_rfl,fun _=>by kernel_rfl⟩
instance:ScalarT prog 24:=⟨fun _=>by kernel_rfl⟩
instance:ScalarT prog 26:=⟨fun _=>by kernel_rfl⟩
instance:ScalarT prog 30:=⟨fun _=>by kernel_rfl⟩
instance:ScalarT prog 31:=⟨fun _=>by kernel_rfl⟩
instance:ScalarT prog 32:=⟨fun _=>by kernel_rfl⟩
instance:SizeT prog 32 1:=⟨fun _=>by kernel_rfl⟩
instance:SliceT prog 32 243 5:=⟨by kernel_rfl,fun _=>by kernel_rfl⟩
instance:FieldT prog 34 0 0 32:=⟨⟨_,underlying34,_,rfl,rfl,rfl⟩,⟨1,by decide,fun _=>by kernel_rfl⟩⟩
instance:ScalarT prog 35:=⟨fun _=>by kernel_rfl⟩
instance:SizeT prog 35 1:=⟨fun _=>by kernel_rfl⟩
instance:SliceT prog 35 3 1:=⟨by kernel_rfl,fun _=>by kernel_rfl⟩
instance:ScalarT prog 36:=⟨fun _=>by kernel_rfl⟩
instance:SizeT prog 36 1:=⟨fun _=>by kernel_rfl⟩
instance:ArrayT prog 37 6 36 1:=⟨by kernel_rfl,fun _=>by kernel_rfl⟩
abbrev z39:List Value:=[.pointer none,.pointer none,.slice none 0 0,.pointer none,.slice none 0 0,.slice none 0 0,.slice none 0 0,.slice none 0 0,.slice none 0 0,.slice none 0 0,.slice none 0 0]
instance:ZeroT prog 39 [.pointer none,.pointer none,.slice none 0 0,.pointer none,.slice none 0 0,.slice none 0 0,.slice none 0 0,.slice none 0 0,.slice none 0 0,.slice none 0 0,.slice none 0 0]:=⟨fun _=>⟨valL z39,rfl,by kernel_rfl⟩⟩
instance:FieldT prog 39 0 0 30:=⟨⟨_,underlying39,_,rfl,rfl,rfl⟩,⟨1,by decide,fun _=>by kernel_rfl⟩⟩
instance:FieldT prog 39 1 1 31:=⟨⟨_,underlying39,_,rfl,rfl,rfl⟩,⟨1,by decide,fun _=>by kernel_rfl⟩⟩
instance:FieldT prog 39 2 2 34:=⟨⟨_,underlying39,_,rfl,rfl,rfl⟩,⟨1,by decide,fun _=>by kernel_rfl⟩⟩
instance:FieldT prog 39 3 3 26:=⟨⟨_,underlying39,_,rfl,rfl,rfl⟩,⟨1,by decide,fun _=>by kernel_rfl⟩⟩
instance:FieldT prog 39 4 4 35:=⟨⟨_,underlying39,_,rfl,rfl,rfl⟩,⟨1,by decide,fun _=>by kernel_rfl⟩⟩
instance:FieldT prog 39 5 5 37:=⟨⟨_,underlying39,_,rfl,rfl,rfl⟩,⟨6,by decide,fun _=>by kernel_rfl⟩⟩
instance:StructT prog 39 (fun i=>(#[(0,1),(1,1),(2,1),(3,1),(4,1),(5,6)]:Array (Nat×Nat))[i]?) [.pointer none,.pointer none,.slice none 0 0,.pointer none,.slice none 0 0,.slice none 0 0,.slice none 0 0,.slice none 0 0,.slice none 0 0,.slice none 0 0,.slice none 0 0]:=qc underlying39 (fun _=>by kernel_rfl)
instance:AggT prog 41 2:=⟨fun _=>by kernel_rfl⟩
instance:SizeT prog 41 2:=⟨fun _=>by kernel_rfl⟩
abbrev z41:List Value:=[.int .i64 0,.slice none 0 0]
instance:ZeroT prog 41 [.int .i64 0,.slice none 0 0]:=⟨fun _=>⟨valL z41,rfl,by kernel_rfl⟩⟩
instance:FieldT prog 41 0 0 3:=⟨⟨_,underlying41,_,rfl,rfl,rfl⟩,⟨1,by decide,fun _=>by kernel_rfl⟩⟩
instance:FieldT prog 41 1 1 35:=⟨⟨_,underlying41,_,rfl,rfl,rfl⟩,⟨1,by decide,fun _=>by kernel_rfl⟩⟩
instance:StructT prog 41 (fun i=>(#[(0,1),(1,1)]:Array (Nat×Nat))[i]?) [.int .i64 0,.slice none 0 0]:=qc underlying41 (fun _=>by kernel_rfl)
instance:ScalarT prog 42:=⟨fun _=>by kernel_rfl⟩
instance:SizeT prog 42 1:=⟨fun _=>by kernel_rfl⟩
instance:SliceT prog 42 66 26:=⟨by kernel_rfl,fun _=>by kernel_rfl⟩
instance:ScalarT prog 43:=⟨fun _=>by kernel_rfl⟩
instance:SizeT prog 43 1:=⟨fun _=>by kernel_rfl⟩
instance:AggT prog 44 4:=⟨fun _=>by kernel_rfl⟩
instance:SizeT prog 44 4:=⟨fun _=>by kernel_rfl⟩
abbrev z44:List Value:=[.slice none 0 0,.slice none 0 0,.slice none 0 0,.slice none 0 0]
instance:ZeroT prog 44 [.slice none 0 0,.slice none 0 0,.slice none 0 0,.slice none 0 0]:=⟨fun _=>⟨valL z44,rfl,by kernel_rfl⟩⟩
instance:ArrayT prog 44 4 22 1:=⟨by kernel_rfl,fun _=>by kernel_rfl⟩
instance:ScalarT prog 45:=⟨fun _=>by kernel_rfl⟩
instance:SizeT prog 45 1:=⟨fun _=>by kernel_rfl⟩
instance:AggT prog 47 12:=⟨fun _=>by kernel_rfl⟩
instance:SizeT prog 47 12:=⟨fun _=>by kernel_rfl⟩
abbrev z47:List Value:=[.bool false,.slice none 0 0,.int .i64 0,.slice none 0 0,.int .i64 0,.int .u64 0,.slice none 0 0,.slice none 0 0,.slice none 0 0,.slice none 0 0,.slice none 0 0,.int .u32 0]
instance:ZeroT prog 47 [.bool false,.slice none 0 0,.int .i64 0,.slice none 0 0,.int .i64 0,.int .u64 0,.slice none 0 0,.slice none 0 0,.slice none 0 0,.slice none 0 0,.slice none 0 0,.int .u32 0]:=⟨fun _=>⟨valL z47,rfl,by kernel_rfl⟩⟩
instance:FieldT prog 47 0 0 4:=⟨⟨_,underlying47,_,rfl,rfl,rfl⟩,⟨1,by decide,fun _=>by kernel_rfl⟩⟩
instance:FieldT prog 47 1 1 42:=⟨⟨_,underlying47,_,rfl,rfl,rfl⟩,⟨1,by decide,fun _=>by kernel_rfl⟩⟩
instance:FieldT prog 47 2 2 41:=⟨⟨_,underlying47,_,rfl,rfl,rfl⟩,⟨2,by decide,fun _=>by kernel_rfl⟩⟩
instance:FieldT prog 47 3 4 3:=⟨⟨_,underlying47,_,rfl,rfl,rfl⟩,⟨1,by decide,fun _=>by kernel_rfl⟩⟩
instance:FieldT prog 47 4 5 43:=⟨⟨_,underlying47,_,rfl,rfl,rfl⟩,⟨1,by decide,fun _=>by kernel_rfl⟩⟩
instance:FieldT prog 47 5 6 22:=⟨⟨_,underlying47,_,rfl,rfl,rfl⟩,⟨1,by decide,fun _=>by kernel_rfl⟩⟩
instance:FieldT prog 47 6 7 44:=⟨⟨_,underlying47,_,rfl,rfl,rfl⟩,⟨4,by decide,fun _=>by kernel_rfl⟩⟩
instance:FieldT prog 47 7 11 45:=⟨⟨_,underlying47,_,rfl,rfl,rfl⟩,⟨1,by decide,fun _=>by kernel_rfl⟩⟩
instance:StructT prog 47 (fun i=>(#[(0,1),(1,1),(2,2),(4,1),(5,1),(6,1),(7,4),(11,1)]:Array (Nat×Nat))[i]?) [.bool false,.slice none 0 0,.int .i64 0,.slice none 0 0,.int .i64 0,.int .u64 0,.slice none 0 0,.slice none 0 0,.slice none 0 0,.slice none 0 0,.slice none 0 0,.int .u32 0]:=qc underlying47 (fun _=>by kernel_rfl)
instance:AggT prog 48 72:=⟨fun _=>by kernel_rfl⟩
instance:SizeT prog 48 72:=⟨fun _=>by kernel_rfl⟩
instance:ArrayT prog 48 6 47 12:=⟨by kernel_rfl,fun _=>by kernel_rfl⟩
instance:ScalarT prog 49:=⟨fun _=>by kernel_rfl⟩
instance:AggT prog 51 6:=⟨fun _=>by kernel_rfl⟩
instance:SizeT prog 51 6:=⟨fun _=>by kernel_rfl⟩
abbrev z51:List Value:=[.bool false,.int .i64 0,.int .i64 0,.int .i64 0,.bool false,.int .i64 0]
instance:ZeroT prog 51 [.bool false,.int .i64 0,.int .i64 0,.int .i64 0,.bool false,.int .i64 0]:=⟨fun _=>⟨valL z51,rfl,by kernel_rfl⟩⟩
instance:FieldT prog 51 0 0 4:=⟨⟨_,underlying51,_,rfl,rfl,rfl⟩,⟨1,by decide,fun _=>by kernel_rfl⟩⟩
instance:FieldT prog 51 1 1 3:=⟨⟨_,underlying51,_,rfl,rfl,rfl⟩,⟨1,by decide,fun _=>by kernel_rfl⟩⟩
instance:FieldT prog 51 2 2 3:=⟨⟨_,underlying51,_,rfl,rfl,rfl⟩,⟨1,by decide,fun _=>by kernel_rfl⟩⟩
instance:FieldT prog 51 3 3 3:=⟨⟨_,underlying51,_,rfl,rfl,rfl⟩,⟨1,by decide,fun _=>by kernel_rfl⟩⟩
instance:FieldT prog 51 4 4 4:=⟨⟨_,underlying51,_,rfl,rfl,rfl⟩,⟨1,by decide,fun _=>by kernel_rfl⟩⟩
instance:FieldT prog 51 5 5 3:=⟨⟨_,underlying51,_,rfl,rfl,rfl⟩,⟨1,by decide,fun _=>by kernel_rfl⟩⟩
instance:StructT prog 51 (fun i=>(#[(0,1),(1,1),(2,1),(3,1),(4,1),(5,1)]:Array (Nat×Nat))[i]?) [.bool false,.int .i64 0,.int .i64 0,.int .i64 0,.bool false,.int .i64 0]:=qc underlying51 (fun _=>by kernel_rfl)
instance:AggT prog 53 96:=⟨fun _=>by kernel_rfl⟩
instance:SizeT prog 53 96:=⟨fun _=>by kernel_rfl⟩
def z53:List Value:=[.bool false,.int .i64 0,.int .i64 0,.int .i64 0,.bool false,.int .i64 0,.bool false,.int .i64 0,.int .i64 0,.int .i64 0,.bool false,.int .i64 0,.bool false,.int .i64 0,.int .i64 0,.int .i64 0,.bool false,.int .i64 0,.bool false,.int .i64 0,.int .i64 0,.int .i64 0,.bool false,.int .i64 0,.bool false,.int .i64 0,.int .i64 0,.int .i64 0,.bool false,.int .i64 0,.bool false,.int .i64 0,.int .i64 0,.int .i64 0,.bool false,.int .i64 0,.bool false,.int .i64 0,.int .i64 0,.int .i64 0,.bool false,.int .i64 0,.bool false,.int .i64 0,.int .i64 0,.int .i64 0,.bool false,.int .i64 0,.bool false,.int .i64 0,.int .i64 0,.int .i64 0,.bool false,.int .i64 0,.bool false,.int .i64 0,.int .i64 0,.int .i64 0,.bool false,.int .i64 0,.bool false,.int .i64 0,.int .i64 0,.int .i64 0,.bool false,.int .i64 0,.bool false,.int .i64 0,.int .i64 0,.int .i64 0,.bool false,.int .i64 0,.bool false,.int .i64 0,.int .i64 0,.int .i64 0,.bool false,.int .i64 0,.bool false,.int .i64 0,.int .i64 0,.int .i64 0,.bool false,.int .i64 0,.bool false,.int .i64 0,.int .i64 0,.int .i64 0,.bool false,.int .i64 0,.bool false,.int .i64 0,.int .i64 0,.int .i64 0,.bool false,.int .i64 0]
theorem xj:z53.length=96:=by kernel_rfl
instance:ZeroT prog 53 z53:=⟨fun _=>⟨valL z53,rfl,by kernel_rfl⟩⟩
instance:ArrayT prog 53 16 51 6:=⟨by kernel_rfl,fun _=>by kernel_rfl⟩
instance:ScalarT prog 54:=⟨fun _=>by kernel_rfl⟩
def z58:List Value:=[.int .i64 0,.int .u64 0,.bool false,.slice none 0 0,.int .i64 0,.slice none 0 0,.int .i64 0,.int .u64 0,.slice none 0 0,.slice none 0 0,.slice none 0 0,.slice none 0 0,.slice none 0 0,.int .u32 0,.bool false,.slice none 0 0,.int .i64 0,.slice none 0 0,.int .i64 0,.int .u64 0,.slice none 0 0,.slice none 0 0,.slice none 0 0,.slice none 0 0,.slice none 0 0,.int .u32 0,.bool false,.slice none 0 0,.int .i64 0,.slice none 0 0,.int .i64 0,.int .u64 0,.slice none 0 0,.slice none 0 0,.slice none 0 0,.slice none 0 0,.slice none 0 0,.int .u32 0,.bool false,.slice none 0 0,.int .i64 0,.slice none 0 0,.int .i64 0,.int .u64 0,.slice none 0 0,.slice none 0 0,.slice none 0 0,.slice none 0 0,.slice none 0 0,.int .u32 0,.bool false,.slice none 0 0,.int .i64 0,.slice none 0 0,.int .i64 0,.int .u64 0,.slice none 0 0,.slice none 0 0,.slice none 0 0,.slice none 0 0,.slice none 0 0,.int .u32 0,.bool false,.slice none 0 0,.int .i64 0,.slice none 0 0,.int .i64 0,.int .u64 0,.slice none 0 0,.slice none 0 0,.slice none 0 0,.slice none 0 0,.slice none 0 0,.int .u32 0,.pointer none,.bool false,.int .i64 0,.int .i64 0,.int .i64 0,.bool false,.int .i64 0,.bool false,.int .i64 0,.int .i64 0,.int .i64 0,.bool false,.int .i64 0,.bool false,.int .i64 0,.int .i64 0,.int .i64 0,.bool false,.int .i64 0,.bool false,.int .i64 0,.int .i64 0,.int .i64 0,.bool false,.int .i64 0,.bool false,.int .i64 0,.int .i64 0,.int .i64 0,.bool false,.int .i64 0,.bool false,.int .i64 0,.int .i64 0,.int .i64 0,.bool false,.int .i64 0,.bool false,.int .i64 0,.int .i64 0,.int .i64 0,.bool false,.int .i64 0,.bool false,.int .i64 0,.int .i64 0,.int .i64 0,.bool false,.int .i64 0,.bool false,.int .i64 0,.int .i64 0,.int .i64 0,.bool false,.int .i64 0,.bool false,.int .i64 0,.int .i64 0,.int .i64 0,.bool false,.int .i64 0,.bool false,.int .i64 0,.int .i64 0,.int .i64 0,.bool false,.int .i64 0,.bool false,.int .i64 0,.int .i64 0,.int .i64 0,.bool false,.int .i64 0,.bool false,.int .i64 0,.int .i64 0,.int .i64 0,.bool false,.int .i64 0,.bool false,.int .i64 0,.int .i64 0,.int .i64 0,.bool false,.int .i64 0,.bool false,.int .i64 0,.int .i64 0,.int .i64 0,.bool false,.int .i64 0,.bool false,.int .i64 0,.int .i64 0,.int .i64 0,.bool false,.int .i64 0,.pointer none,.int .i64 0,.int .i64 0,.int .i64 0,.int .i64 0,.int .i64 0,.int .i64 0,.int .i64 0,.int .i64 0,.int .i64 0,.int .i64 0,.int .i64 0,.int .i64 0,.int .i64 0,.int .i64 0,.int .i64 0,.int .i64 0,.int .i64 0,.int .i64 0]
instance:ZeroT prog 58 z58:=⟨fun _=>⟨valL z58,rfl,by kernel_rfl⟩⟩
instance:FieldT prog 58 0 0 3:=⟨⟨_,underlying58,_,rfl,rfl,rfl⟩,⟨1,by decide,fun _=>by kernel_rfl⟩⟩
instance:FieldT prog 58 1 1 43:=⟨⟨_,underlying58,_,rfl,rfl,rfl⟩,⟨1,by decide,fun _=>by kernel_rfl⟩⟩
instance:FieldT prog 58 2 2 48:=⟨⟨_,underlying58,_,rfl,rfl,rfl⟩,⟨72,by decide,fun _=>by kernel_rfl⟩⟩
instance:FieldT prog 58 3 74 49:=⟨⟨_,underlying58,_,rfl,rfl,rfl⟩,⟨1,by decide,fun _=>by kernel_rfl⟩⟩
instance:FieldT prog 58 4 75 53:=⟨⟨_,underlying58,_,rfl,rfl,rfl⟩,⟨96,by decide,fun _=>by kernel_rfl⟩⟩
instance:FieldT prog 58 5 171 54:=⟨⟨_,underlying58,_,rfl,rfl,rfl⟩,⟨1,by decide,fun _=>by kernel_rfl⟩⟩
instance:StructT prog 58 (fun i=>(#[(0,1),(1,1),(2,72),(74,1),(75,96),(171,1),(172,18)]:Array (Nat×Nat))[i]?) z58:=qc underlying58 (fun _=>by kernel_rfl)
instance:SliceT prog 60 119 3:=⟨by kernel_rfl,fun _=>by kernel_rfl⟩
instance:ArrayT prog 64 16 43 1:=⟨by kernel_rfl,fun _=>by kernel_rfl⟩
instance:AggT prog 66 26:=⟨fun _=>by kernel_rfl⟩
instance:SizeT prog 66 26:=⟨fun _=>by kernel_rfl⟩
def z66:List Value:=[.int .u64 0,.int .u64 0,.int .u64 0,.int .u64 0,.int .u64 0,.int .u64 0,.int .u64 0,.int .u64 0,.int .u64 0,.int .u64 0,.int .u64 0,.int .u64 0,.int .u64 0,.int .u64 0,.int .u64 0,.int .u64 0,.int .u64 0,.int .u64 0,.int .u64 0,.int .u64 0,.int .u64 0,.int .u64 0,.bool false,.int .u8 0,.int .u32 0,.int .u32 0]
instance:ZeroT prog 66 z66:=⟨fun _=>⟨valL z66,rfl,by kernel_rfl⟩⟩
instance:FieldT prog 66 0 0 64:=⟨⟨_,underlying66,_,rfl,rfl,rfl⟩,⟨16,by decide,fun _=>by kernel_rfl⟩⟩
instance:FieldT prog 66 1 16 43:=⟨⟨_,underlying66,_,rfl,rfl,rfl⟩,⟨1,by decide,fun _=>by kernel_rfl⟩⟩
instance:FieldT prog 66 2 17 43:=⟨⟨_,underlying66,_,rfl,rfl,rfl⟩,⟨1,by decide,fun _=>by kernel_rfl⟩⟩
instance:FieldT prog 66 3 18 43:=⟨⟨_,underlying66,_,rfl,rfl,rfl⟩,⟨1,by decide,fun _=>by kernel_rfl⟩⟩
instance:FieldT prog 66 4 19 43:=⟨⟨_,underlying66,_,rfl,rfl,rfl⟩,⟨1,by decide,fun _=>by kernel_rfl⟩⟩
instance:FieldT prog 66 5 20 43:=⟨⟨_,underlying66,_,rfl,rfl,rfl⟩,⟨1,by decide,fun _=>by kernel_rfl⟩⟩
instance:FieldT prog 66 6 21 43:=⟨⟨_,underlying66,_,rfl,rfl,rfl⟩,⟨1,by decide,fun _=>by kernel_rfl⟩⟩
instance:FieldT prog 66 7 22 4:=⟨⟨_,underlying66,_,rfl,rfl,rfl⟩,⟨1,by decide,fun _=>by kernel_rfl⟩⟩
instance:FieldT prog 66 8 23 5:=⟨⟨_,underlying66,_,rfl,rfl,rfl⟩,⟨1,by decide,fun _=>by kernel_rfl⟩⟩
instance:FieldT prog 66 9 24 45:=⟨⟨_,underlying66,_,rfl,rfl,rfl⟩,⟨1,by decide,fun _=>by kernel_rfl⟩⟩
instance:FieldT prog 66 10 25 45:=⟨⟨_,underlying66,_,rfl,rfl,rfl⟩,⟨1,by decide,fun _=>by kernel_rfl⟩⟩
instance:StructT prog 66 (fun i=>(#[(0,16),(16,1),(17,1),(18,1),(19,1),(20,1),(21,1),(22,1),(23,1),(24,1),(25,1)]:Array (Nat×Nat))[i]?) z66:=qc underlying66 (fun _=>by kernel_rfl)
instance:AggT prog 68 4:=⟨fun _=>by kernel_rfl⟩
instance:SizeT prog 68 4:=⟨fun _=>by kernel_rfl⟩
abbrev z68:List Value:=[.int .u8 0,.int .i64 0,.int .i64 0,.int .i64 0]
instance:ZeroT prog 68 [.int .u8 0,.int .i64 0,.int .i64 0,.int .i64 0]:=⟨fun _=>⟨valL z68,rfl,by kernel_rfl⟩⟩
instance:FieldT prog 68 0 0 5:=⟨⟨_,underlying68,_,rfl,rfl,rfl⟩,⟨1,by decide,fun _=>by kernel_rfl⟩⟩
instance:FieldT prog 68 1 1 3:=⟨⟨_,underlying68,_,rfl,rfl,rfl⟩,⟨1,by decide,fun _=>by kernel_rfl⟩⟩
instance:FieldT prog 68 2 2 3:=⟨⟨_,underlying68,_,rfl,rfl,rfl⟩,⟨1,by decide,fun _=>by kernel_rfl⟩⟩
instance:FieldT prog 68 3 3 3:=⟨⟨_,underlying68,_,rfl,rfl,rfl⟩,⟨1,by decide,fun _=>by kernel_rfl⟩⟩
instance:StructT prog 68 (fun i=>(#[(0,1),(1,1),(2,1),(3,1)]:Array (Nat×Nat))[i]?) [.int .u8 0,.int .i64 0,.int .i64 0,.int .i64 0]:=qc underlying68 (fun _=>by kernel_rfl)
instance:ScalarT prog 69:=⟨fun _=>by kernel_rfl⟩
instance:SliceT prog 69 68 4:=⟨by kernel_rfl,fun _=>by kernel_rfl⟩
abbrev z71:List Value:=[.slice none 0 0]
instance:ZeroT prog 71 [.slice none 0 0]:=⟨fun _=>⟨valL z71,rfl,by kernel_rfl⟩⟩
instance:FieldT prog 71 0 0 69:=⟨⟨_,underlying71,_,rfl,rfl,rfl⟩,⟨1,by decide,fun _=>by kernel_rfl⟩⟩
instance:StructT prog 71 (fun i=>(#[(0,1)]:Array (Nat×Nat))[i]?) [.slice none 0 0]:=qc underlying71 (fun _=>by kernel_rfl)
instance:AggT prog 80 3:=⟨fun _=>by kernel_rfl⟩
instance:SizeT prog 80 3:=⟨fun _=>by kernel_rfl⟩
abbrev z80:List Value:=[.bool false,.int .i64 0,.bool false]
instance:ZeroT prog 80 [.bool false,.int .i64 0,.bool false]:=⟨fun _=>⟨valL z80,rfl,by kernel_rfl⟩⟩
instance:FieldT prog 80 0 0 4:=⟨⟨_,underlying80,_,rfl,rfl,rfl⟩,⟨1,by decide,fun _=>by kernel_rfl⟩⟩
instance:FieldT prog 80 1 1 3:=⟨⟨_,underlying80,_,rfl,rfl,rfl⟩,⟨1,by decide,fun _=>by kernel_rfl⟩⟩
instance:FieldT prog 80 2 2 4:=⟨⟨_,underlying80,_,rfl,rfl,rfl⟩,⟨1,by decide,fun _=>by kernel_rfl⟩⟩
instance:StructT prog 80 (fun i=>(#[(0,1),(1,1),(2,1)]:Array (Nat×Nat))[i]?) [.bool false,.int .i64 0,.bool false]:=qc underlying80 (fun _=>by kernel_rfl)
instance:AggT prog 119 3:=⟨fun _=>by kernel_rfl⟩
instance:SizeT prog 119 3:=⟨fun _=>by kernel_rfl⟩
abbrev z119:List Value:=[.int .u64 0,.int .i64 0,.int .i64 0]
instance:ZeroT prog 119 [.int .u64 0,.int .i64 0,.int .i64 0]:=⟨fun _=>⟨valL z119,rfl,by kernel_rfl⟩⟩
instance:FieldT prog 119 0 0 43:=⟨⟨_,underlying119,_,rfl,rfl,rfl⟩,⟨1,by decide,fun _=>by kernel_rfl⟩⟩
instance:FieldT prog 119 1 1 3:=⟨⟨_,underlying119,_,rfl,rfl,rfl⟩,⟨1,by decide,fun _=>by kernel_rfl⟩⟩
instance:FieldT prog 119 2 2 3:=⟨⟨_,underlying119,_,rfl,rfl,rfl⟩,⟨1,by decide,fun _=>by kernel_rfl⟩⟩
instance:StructT prog 119 (fun i=>(#[(0,1),(1,1),(2,1)]:Array (Nat×Nat))[i]?) [.int .u64 0,.int .i64 0,.int .i64 0]:=qc underlying119 (fun _=>by kernel_rfl)
instance:ScalarT prog 120:=⟨fun _=>by kernel_rfl⟩
instance:SizeT prog 120 1:=⟨fun _=>by kernel_rfl⟩
instance:SliceT prog 120 119 3:=⟨by kernel_rfl,fun _=>by kernel_rfl⟩
abbrev z122:List Value:=[.slice none 0 0]
instance:ZeroT prog 122 [.slice none 0 0]:=⟨fun _=>⟨valL z122,rfl,by kernel_rfl⟩⟩
instance:FieldT prog 122 0 0 120:=⟨⟨_,underlying122,_,rfl,rfl,rfl⟩,⟨1,by decide,fun _=>by kernel_rfl⟩⟩
instance:StructT prog 122 (fun i=>(#[(0,1)]:Array (Nat×Nat))[i]?) [.slice none 0 0]:=qc underlying122 (fun _=>by kernel_rfl)
instance:SliceT prog 151 43 1:=⟨by kernel_rfl,fun _=>by kernel_rfl⟩
instance:ScalarT prog 170:=⟨fun _=>by kernel_rfl⟩
instance:SizeT prog 170 1:=⟨fun _=>by kernel_rfl⟩
instance:ScalarT prog 172:=⟨fun _=>by kernel_rfl⟩
instance:SliceT prog 177 80 3:=⟨by kernel_rfl,fun _=>by kernel_rfl⟩
instance:AggT prog 181 2:=⟨fun _=>by kernel_rfl⟩
instance:SizeT prog 181 2:=⟨fun _=>by kernel_rfl⟩
abbrev z181:List Value:=[.int .u8 0,.int .u64 0]
instance:ZeroT prog 181 [.int .u8 0,.int .u64 0]:=⟨fun _=>⟨valL z181,rfl,by kernel_rfl⟩⟩
instance:FieldT prog 181 0 0 5:=⟨⟨_,underlying181,_,rfl,rfl,rfl⟩,⟨1,by decide,fun _=>by kernel_rfl⟩⟩
instance:FieldT prog 181 1 1 43:=⟨⟨_,underlying181,_,rfl,rfl,rfl⟩,⟨1,by decide,fun _=>by kernel_rfl⟩⟩
instance:StructT prog 181 (fun i=>(#[(0,1),(1,1)]:Array (Nat×Nat))[i]?) [.int .u8 0,.int .u64 0]:=qc underlying181 (fun _=>by kernel_rfl)
instance:AggT prog 184 2:=⟨fun _=>by kernel_rfl⟩
instance:SizeT prog 184 2:=⟨fun _=>by kernel_rfl⟩
abbrev z184:List Value:=[.pointer none,.int .i64 0]
instance:ZeroT prog 184 [.pointer none,.int .i64 0]:=⟨fun _=>⟨valL z184,rfl,by kernel_rfl⟩⟩
instance:FieldT prog 184 0 0 24:=⟨⟨_,underlying184,_,rfl,rfl,rfl⟩,⟨1,by decide,fun _=>by kernel_rfl⟩⟩
instance:FieldT prog 184 1 1 3:=⟨⟨_,underlying184,_,rfl,rfl,rfl⟩,⟨1,by decide,fun _=>by kernel_rfl⟩⟩
instance:StructT prog 184 (fun i=>(#[(0,1),(1,1)]:Array (Nat×Nat))[i]?) [.pointer none,.int .i64 0]:=qc underlying184 (fun _=>by kernel_rfl)
instance:AggT prog 188 4:=⟨fun _=>by kernel_rfl⟩
instance:SizeT prog 188 4:=⟨fun _=>by kernel_rfl⟩
abbrev z188:List Value:=[.int .u8 0,.int .i64 0,.int .u64 0,.int .u64 0]
instance:ZeroT prog 188 [.int .u8 0,.int .i64 0,.int .u64 0,.int .u64 0]:=⟨fun _=>⟨valL z188,rfl,by kernel_rfl⟩⟩
instance:StructT prog 188 (fun i=>(#[(0,1),(1,1),(2,1),(3,1)]:Array (Nat×Nat))[i]?) [.int .u8 0,.int .i64 0,.int .u64 0,.int .u64 0]:=qc underlying188 (fun _=>by kernel_rfl)
instance:AggT prog 200 4:=⟨fun _=>by kernel_rfl⟩
instance:SizeT prog 200 4:=⟨fun _=>by kernel_rfl⟩
abbrev z200:List Value:=[.pointer none,.pointer none,.slice none 0 0,.pointer none]
instance:ZeroT prog 200 [.pointer none,.pointer none,.slice none 0 0,.pointer none]:=⟨fun _=>⟨valL z200,rfl,by kernel_rfl⟩⟩
instance:FieldT prog 200 0 0 30:=⟨⟨_,underlying200,_,rfl,rfl,rfl⟩,⟨1,by decide,fun _=>by kernel_rfl⟩⟩
instance:FieldT prog 200 1 1 31:=⟨⟨_,underlying200,_,rfl,rfl,rfl⟩,⟨1,by decide,fun _=>by kernel_rfl⟩⟩
instance:FieldT prog 200 2 2 35:=⟨⟨_,underlying200,_,rfl,rfl,rfl⟩,⟨1,by decide,fun _=>by kernel_rfl⟩⟩
instance:FieldT prog 200 3 3 26:=⟨⟨_,underlying200,_,rfl,rfl,rfl⟩,⟨1,by decide,fun _=>by kernel_rfl⟩⟩
instance:StructT prog 200 (fun i=>(#[(0,1),(1,1),(2,1),(3,1)]:Array (Nat×Nat))[i]?) [.pointer none,.pointer none,.slice none 0 0,.pointer none]:=qc underlying200 (fun _=>by kernel_rfl)
instance:ScalarT prog 201:=⟨fun _=>by kernel_rfl⟩
instance:SliceT prog 202 201 1:=⟨by kernel_rfl,fun _=>by kernel_rfl⟩
abbrev z214:List Value:=[.slice none 0 0]
instance:ZeroT prog 214 [.slice none 0 0]:=⟨fun _=>⟨valL z214,rfl,by kernel_rfl⟩⟩
instance:FieldT prog 214 0 0 22:=⟨⟨_,underlying214,_,rfl,rfl,rfl⟩,⟨1,by decide,fun _=>by kernel_rfl⟩⟩
instance:StructT prog 214 (fun i=>(#[(0,1)]:Array (Nat×Nat))[i]?) [.slice none 0 0]:=qc underlying214 (fun _=>by kernel_rfl)
instance:ScalarT prog 224:=⟨fun _=>by kernel_rfl⟩
instance:SizeT prog 224 1:=⟨fun _=>by kernel_rfl⟩
instance:SliceT prog 224 3 1:=⟨by kernel_rfl,fun _=>by kernel_rfl⟩
instance:ScalarT prog 225:=⟨fun _=>by kernel_rfl⟩
instance:SizeT prog 225 1:=⟨fun _=>by kernel_rfl⟩
instance:SliceT prog 225 4 1:=⟨by kernel_rfl,fun _=>by kernel_rfl⟩
abbrev z227:List Value:=[.slice none 0 0,.slice none 0 0,.int .i64 0]
instance:ZeroT prog 227 [.slice none 0 0,.slice none 0 0,.int .i64 0]:=⟨fun _=>⟨valL z227,rfl,by kernel_rfl⟩⟩
instance:FieldT prog 227 0 0 224:=⟨⟨_,underlying227,_,rfl,rfl,rfl⟩,⟨1,by decide,fun _=>by kernel_rfl⟩⟩
instance:FieldT prog 227 1 1 225:=⟨⟨_,underlying227,_,rfl,rfl,rfl⟩,⟨1,by decide,fun _=>by kernel_rfl⟩⟩
instance:FieldT prog 227 2 2 3:=⟨⟨_,underlying227,_,rfl,rfl,rfl⟩,⟨1,by decide,fun _=>by kernel_rfl⟩⟩
instance:StructT prog 227 (fun i=>(#[(0,1),(1,1),(2,1)]:Array (Nat×Nat))[i]?) [.slice none 0 0,.slice none 0 0,.int .i64 0]:=qc underlying227 (fun _=>by kernel_rfl)
instance:AggT prog 241 2:=⟨fun _=>by kernel_rfl⟩
instance:SizeT prog 241 2:=⟨fun _=>by kernel_rfl⟩
abbrev z241:List Value:=[.int .i64 0,.int .i64 0]
instance:ZeroT prog 241 [.int .i64 0,.int .i64 0]:=⟨fun _=>⟨valL z241,rfl,by kernel_rfl⟩⟩
instance:FieldT prog 241 0 0 3:=⟨⟨_,underlying241,_,rfl,rfl,rfl⟩,⟨1,by decide,fun _=>by kernel_rfl⟩⟩
instance:StructT prog 241 (fun i=>(#[(0,1),(1,1)]:Array (Nat×Nat))[i]?) [.int .i64 0,.int .i64 0]:=qc underlying241 (fun _=>by kernel_rfl)
instance:AggT prog 243 5:=⟨fun _=>by kernel_rfl⟩
instance:SizeT prog 243 5:=⟨fun _=>by kernel_rfl⟩
abbrev z243:List Value:=[.int .i64 0,.int .i64 0,.bool false,.int .i64 0,.bool false]
instance:ZeroT prog 243 [.int .i64 0,.int .i64 0,.bool false,.int .i64 0,.bool false]:=⟨fun _=>⟨valL z243,rfl,by kernel_rfl⟩⟩
instance:FieldT prog 243 0 0 241:=⟨⟨_,underlying243,_,rfl,rfl,rfl⟩,⟨2,by decide,fun _=>by kernel_rfl⟩⟩
instance:FieldT prog 243 1 2 80:=⟨⟨_,underlying243,_,rfl,rfl,rfl⟩,⟨3,by decide,fun _=>by kernel_rfl⟩⟩
instance:StructT prog 243 (fun i=>(#[(0,2),(2,3)]:Array (Nat×Nat))[i]?) [.int .i64 0,.int .i64 0,.bool false,.int .i64 0,.bool false]:=qc underlying243 (fun _=>by kernel_rfl)
instance:ScalarT prog 247:=⟨fun _=>by kernel_rfl⟩
instance:AggT prog 249 4:=⟨fun _=>by kernel_rfl⟩
instance:SizeT prog 249 4:=⟨fun _=>by kernel_rfl⟩
abbrev z249:List Value:=[.pointer none,.nilIface,.int .u64 0,.int .i64 0]
instance:ZeroT prog 249 [.pointer none,.nilIface,.int .u64 0,.int .i64 0]:=⟨fun _=>⟨valL z249,rfl,by kernel_rfl⟩⟩
instance:FieldT prog 249 0 0 172:=⟨⟨_,underlying249,_,rfl,rfl,rfl⟩,⟨1,by decide,fun _=>by kernel_rfl⟩⟩
instance:FieldT prog 249 1 1 247:=⟨⟨_,underlying249,_,rfl,rfl,rfl⟩,⟨1,by decide,fun _=>by kernel_rfl⟩⟩
instance:FieldT prog 249 2 2 43:=⟨⟨_,underlying249,_,rfl,rfl,rfl⟩,⟨1,by decide,fun _=>by kernel_rfl⟩⟩
instance:FieldT prog 249 3 3 3:=⟨⟨_,underlying249,_,rfl,rfl,rfl⟩,⟨1,by decide,fun _=>by kernel_rfl⟩⟩
instance:StructT prog 249 (fun i=>(#[(0,1),(1,1),(2,1),(3,1)]:Array (Nat×Nat))[i]?) [.pointer none,.nilIface,.int .u64 0,.int .i64 0]:=qc underlying249 (fun _=>by kernel_rfl)
instance:AggT prog 256 5:=⟨fun _=>by kernel_rfl⟩
instance:SizeT prog 256 5:=⟨fun _=>by kernel_rfl⟩
abbrev z256:List Value:=[.int .u8 0,.int .u8 0,.int .u8 0,.int .u8 0,.int .i16 0]
instance:ZeroT prog 256 [.int .u8 0,.int .u8 0,.int .u8 0,.int .u8 0,.int .i16 0]:=⟨fun _=>⟨valL z256,rfl,by kernel_rfl⟩⟩
instance:FieldT prog 256 0 0 5:=⟨⟨_,underlying256,_,rfl,rfl,rfl⟩,⟨1,by decide,fun _=>by kernel_rfl⟩⟩
instance:FieldT prog 256 1 1 5:=⟨⟨_,underlying256,_,rfl,rfl,rfl⟩,⟨1,by decide,fun _=>by kernel_rfl⟩⟩
instance:FieldT prog 256 2 2 5:=⟨⟨_,underlying256,_,rfl,rfl,rfl⟩,⟨1,by decide,fun _=>by kernel_rfl⟩⟩
instance:FieldT prog 256 3 3 5:=⟨⟨_,underlying256,_,rfl,rfl,rfl⟩,⟨1,by decide,fun _=>by kernel_rfl⟩⟩
instance:FieldT prog 256 4 4 170:=⟨⟨_,underlying256,_,rfl,rfl,rfl⟩,⟨1,by decide,fun _=>by kernel_rfl⟩⟩
instance:StructT prog 256 (fun i=>(#[(0,1),(1,1),(2,1),(3,1),(4,1)]:Array (Nat×Nat))[i]?) [.int .u8 0,.int .u8 0,.int .u8 0,.int .u8 0,.int .i16 0]:=qc underlying256 (fun _=>by kernel_rfl)
abbrev z281:List Value:=[.int .i64 0,.int .i64 0]
instance:ZeroT prog 281 [.int .i64 0,.int .i64 0]:=⟨fun _=>⟨valL z281,rfl,by kernel_rfl⟩⟩
instance:StructT prog 281 (fun i=>some (i*1,1)) [.int .i64 0,.int .i64 0]:=zmC (n:=2) (e:=3) (by kernel_rfl) (fun _=>by kernel_rfl)
instance:AggT prog 296 4:=⟨fun _=>by kernel_rfl⟩
instance:SizeT prog 296 4:=⟨fun _=>by kernel_rfl⟩
abbrev z296:List Value:=[.bool false,.bool false,.bool false,.bool false]
instance:ZeroT prog 296 [.bool false,.bool false,.bool false,.bool false]:=⟨fun _=>⟨valL z296,rfl,by kernel_rfl⟩⟩
instance:FieldT prog 296 0 0 4:=⟨⟨_,underlying296,_,rfl,rfl,rfl⟩,⟨1,by decide,fun _=>by kernel_rfl⟩⟩
instance:FieldT prog 296 1 1 4:=⟨⟨_,underlying296,_,rfl,rfl,rfl⟩,⟨1,by decide,fun _=>by kernel_rfl⟩⟩
instance:FieldT prog 296 2 2 4:=⟨⟨_,underlying296,_,rfl,rfl,rfl⟩,⟨1,by decide,fun _=>by kernel_rfl⟩⟩
instance:FieldT prog 296 3 3 4:=⟨⟨_,underlying296,_,rfl,rfl,rfl⟩,⟨1,by decide,fun _=>by kernel_rfl⟩⟩
instance:StructT prog 296 (fun i=>(#[(0,1),(1,1),(2,1),(3,1)]:Array (Nat×Nat))[i]?) [.bool false,.bool false,.bool false,.bool false]:=qc underlying296 (fun _=>by kernel_rfl)
instance:ArrayT prog 332 64 5 1:=⟨by kernel_rfl,fun _=>by kernel_rfl⟩
instance:IntT prog 2 .i64:=⟨by kernel_rfl⟩
instance:IntT prog 3 .i64:=⟨by kernel_rfl⟩
instance:NotIface prog 3:=⟨⟨.int .i64,by kernel_rfl,rfl⟩⟩
instance:IntT prog 5 .u8:=⟨by kernel_rfl⟩
instance:PtrT prog 24:=⟨⟨39,by kernel_rfl⟩⟩
instance:PtrT prog 26:=⟨⟨58,by kernel_rfl⟩⟩
instance:IntT prog 27 .i64:=⟨by kernel_rfl⟩
instance:PtrT prog 30:=⟨⟨214,by kernel_rfl⟩⟩
instance:PtrT prog 31:=⟨⟨227,by kernel_rfl⟩⟩
instance:IntT prog 43 .u64:=⟨by kernel_rfl⟩
instance:IntT prog 45 .u32:=⟨by kernel_rfl⟩
instance:PtrT prog 49:=⟨⟨71,by kernel_rfl⟩⟩
instance:PtrT prog 54:=⟨⟨122,by kernel_rfl⟩⟩
instance:IntT prog 96 .u16:=⟨by kernel_rfl⟩
instance:NotIface prog 119:=⟨⟨_,underlying119,rfl⟩⟩
instance:NotIface prog 127:=⟨⟨.pointer 120,by kernel_rfl,rfl⟩⟩
instance : MethV prog 127 "Len" 268 := zar (elem := 120) (by kernel_rfl) typeInfo127 (by kernel_rfl) (by kernel_rfl)
instance : MethV prog 127 "Less" 269 := zar (elem := 120) (by kernel_rfl) typeInfo127 (by kernel_rfl) (by kernel_rfl)
instance : MethP prog 127 "Pop" 271 := ⟨fun _ _ => by kernel_rfl⟩
instance : MethP prog 127 "Push" 272 := ⟨fun _ _ => by kernel_rfl⟩
instance : MethV prog 127 "Swap" 270 := zar (elem := 120) (by kernel_rfl) typeInfo127 (by kernel_rfl) (by kernel_rfl)
instance:IntT prog 153 .u64:=⟨by kernel_rfl⟩
instance:IntT prog 170 .i16:=⟨by kernel_rfl⟩
instance:PtrT prog 172:=⟨⟨66,by kernel_rfl⟩⟩
instance:NotIface prog 184:=⟨⟨_,underlying184,rfl⟩⟩
instance : MethS prog 184 "Load" 242 := ⟨fun _ _ => by kernel_rfl⟩
instance : MethS prog 184 "Save" 241 := ⟨fun _ _ => by kernel_rfl⟩
instance:NotIface prog 228:=⟨⟨.pointer 224,by kernel_rfl,rfl⟩⟩
instance : MethV prog 228 "Len" 273 := zar (elem := 224) (by kernel_rfl) typeInfo228 (by kernel_rfl) (by kernel_rfl)
instance : MethV prog 228 "Less" 274 := zar (elem := 224) (by kernel_rfl) typeInfo228 (by kernel_rfl) (by kernel_rfl)
instance : MethP prog 228 "Pop" 276 := ⟨fun _ _ => by kernel_rfl⟩
instance : MethP prog 228 "Push" 277 := ⟨fun _ _ => by kernel_rfl⟩
instance : MethV prog 228 "Swap" 275 := zar (elem := 224) (by kernel_rfl) typeInfo228 (by kernel_rfl) (by kernel_rfl)
instance:PtrT prog 238:=⟨⟨34,by kernel_rfl⟩⟩
instance:MapT prog 280 (.int .i64 0) [.i .i64,.i .i64]:=zoM (ke:=281) (el:=3) (ie:=3) (k:=.i64) (by kernel_rfl) (by kernel_rfl) (by kernel_rfl) (fun _=>by kernel_rfl) (fun _=>by kernel_rfl) (fun _=>by kernel_rfl) (by kernel_rfl) (by kernel_rfl)
instance:ElemT prog 22 5 [.int .u8 0] 1 1:=⟨by kernel_rfl,⟨t5,.int .u8 0,by kernel_rfl,by kernel_rfl,rfl,by kernel_rfl,by kernel_rfl⟩,rfl,by decide⟩
instance:ElemT prog 32 243 [.int .i64 0,.int .i64 0,.bool false,.int .i64 0,.bool false] 5 40:=⟨by kernel_rfl,⟨t243,valL z243,by kernel_rfl,by kernel_rfl,rfl,by kernel_rfl,by kernel_rfl⟩,rfl,by decide⟩
instance:ElemT prog 35 3 [.int .i64 0] 1 8:=⟨by kernel_rfl,⟨t3,.int .i64 0,by kernel_rfl,by kernel_rfl,rfl,by kernel_rfl,by kernel_rfl⟩,rfl,by decide⟩
instance:ElemT prog 36 188 [.int .u8 0,.int .i64 0,.int .u64 0,.int .u64 0] 4 32:=⟨by kernel_rfl,⟨t188,valL z188,by kernel_rfl,by kernel_rfl,rfl,by kernel_rfl,by kernel_rfl⟩,rfl,by decide⟩
instance:ElemT prog 42 66 z66 26 192:=⟨by kernel_rfl,⟨t66,valL z66,by kernel_rfl,by kernel_rfl,rfl,by kernel_rfl,by kernel_rfl⟩,rfl,by decide⟩
instance:ElemT prog 60 119 [.int .u64 0,.int .i64 0,.int .i64 0] 3 24:=⟨by kernel_rfl,⟨t119,valL z119,by kernel_rfl,by kernel_rfl,rfl,by kernel_rfl,by kernel_rfl⟩,rfl,by decide⟩
instance:ElemT prog 69 68 [.int .u8 0,.int .i64 0,.int .i64 0,.int .i64 0] 4 32:=⟨by kernel_rfl,⟨t68,valL z68,by kernel_rfl,by kernel_rfl,rfl,by kernel_rfl,by kernel_rfl⟩,rfl,by decide⟩
instance:ElemT prog 120 119 [.int .u64 0,.int .i64 0,.int .i64 0] 3 24:=⟨by kernel_rfl,⟨t119,valL z119,by kernel_rfl,by kernel_rfl,rfl,by kernel_rfl,by kernel_rfl⟩,rfl,by decide⟩
instance:ElemT prog 151 43 [.int .u64 0] 1 8:=⟨by kernel_rfl,⟨t43,.int .u64 0,by kernel_rfl,by kernel_rfl,rfl,by kernel_rfl,by kernel_rfl⟩,rfl,by decide⟩
instance:ElemT prog 177 80 [.bool false,.int .i64 0,.bool false] 3 24:=⟨by kernel_rfl,⟨t80,valL z80,by kernel_rfl,by kernel_rfl,rfl,by kernel_rfl,by kernel_rfl⟩,rfl,by decide⟩
instance:ElemT prog 202 201 [.nilFunc] 1 8:=⟨by kernel_rfl,⟨t201,.nilFunc,by kernel_rfl,by kernel_rfl,rfl,by kernel_rfl,by kernel_rfl⟩,rfl,by decide⟩
instance:ElemT prog 224 3 [.int .i64 0] 1 8:=⟨by kernel_rfl,⟨t3,.int .i64 0,by kernel_rfl,by kernel_rfl,rfl,by kernel_rfl,by kernel_rfl⟩,rfl,by decide⟩
instance:ElemT prog 225 4 [.bool false] 1 1:=⟨by kernel_rfl,⟨t4,.bool false,by kernel_rfl,by kernel_rfl,rfl,by kernel_rfl,by kernel_rfl⟩,rfl,by decide⟩
instance:CallT prog 24:=⟨call24⟩
instance:CallT prog 25:=⟨call25⟩
instance:CallT prog 26:=⟨call26⟩
instance:CallT prog 27:=⟨call27⟩
instance:CallT prog 28:=⟨call28⟩
instance:CallT prog 29:=⟨call29⟩
instance:CallT prog 30:=⟨call30⟩
instance:CallT prog 33:=⟨call33⟩
instance:CallT prog 35:=⟨call35⟩
instance:CallT prog 48:=⟨call48⟩
instance:CallT prog 49:=⟨call49⟩
instance:CallT prog 50:=⟨call50⟩
instance:CallT prog 51:=⟨call51⟩
instance:CallT prog 52:=⟨call52⟩
instance:CallT prog 53:=⟨call53⟩
instance:CallT prog 54:=⟨call54⟩
instance:CallT prog 62:=⟨call62⟩
instance:CallT prog 63:=⟨call63⟩
instance:CallT prog 64:=⟨call64⟩
instance:CallT prog 65:=⟨call65⟩
instance:CallT prog 66:=⟨call66⟩
instance:CallT prog 67:=⟨call67⟩
instance:CallT prog 68:=⟨call68⟩
instance:CallT prog 69:=⟨call69⟩
instance:CallT prog 70:=⟨call70⟩
instance:CallT prog 71:=⟨call71⟩
instance:CallT prog 72:=⟨call72⟩
instance:CallT prog 73:=⟨call73⟩
instance:CallT prog 74:=⟨call74⟩
instance:CallT prog 75:=⟨call75⟩
instance:CallT prog 79:=⟨call79⟩
instance:CallT prog 81:=⟨call81⟩
instance:CallT prog 93:=⟨call93⟩
instance:CallT prog 94:=⟨call94⟩
instance:CallT prog 95:=⟨call95⟩
instance:CallT prog 96:=⟨call96⟩
instance:CallT prog 97:=⟨call97⟩
instance:CallT prog 98:=⟨call98⟩
instance:CallT prog 99:=⟨call99⟩
instance:CallT prog 100:=⟨call100⟩
instance:CallT prog 101:=⟨call101⟩
instance:CallT prog 102:=⟨call102⟩
instance:CallT prog 103:=⟨call103⟩
instance:CallT prog 104:=⟨call104⟩
instance:CallT prog 105:=⟨call105⟩
instance:CallT prog 106:=⟨call106⟩
instance:CallT prog 107:=⟨call107⟩
instance:CallT prog 108:=⟨call108⟩
instance:CallT prog 109:=⟨call109⟩
instance:CallT prog 110:=⟨call110⟩
instance:CallT prog 111:=⟨call111⟩
instance:CallT prog 117:=⟨call117⟩
instance:CallT prog 118:=⟨call118⟩
instance:CallT prog 119:=⟨call119⟩
instance:CallT prog 120:=⟨call120⟩
instance:CallT prog 121:=⟨call121⟩
instance:CallT prog 122:=⟨call122⟩
instance:CallT prog 123:=⟨call123⟩
instance:CallT prog 124:=⟨call124⟩
instance:CallT prog 125:=⟨call125⟩
instance:CallT prog 126:=⟨call126⟩
instance:CallT prog 127:=⟨call127⟩
instance:CallT prog 128:=⟨call128⟩
instance:CallT prog 129:=⟨call129⟩
instance:CallT prog 130:=⟨call130⟩
instance:CallT prog 131:=⟨call131⟩
instance:CallT prog 132:=⟨call132⟩
instance:CallT prog 133:=⟨call133⟩
instance:CallT prog 134:=⟨call134⟩
instance:CallT prog 135:=⟨call135⟩
instance:CallT prog 136:=⟨call136⟩
instance:CallT prog 141:=⟨call141⟩
instance:CallT prog 146:=⟨call146⟩
instance:CallT prog 147:=⟨call147⟩
instance:CallT prog 148:=⟨call148⟩
instance:CallT prog 149:=⟨call149⟩
instance:CallT prog 150:=⟨call150⟩
instance:CallT prog 151:=⟨call151⟩
instance:CallT prog 152:=⟨call152⟩
instance:CallT prog 153:=⟨call153⟩
instance:CallT prog 154:=⟨call154⟩
instance:CallT prog 155:=⟨call155⟩
instance:CallT prog 156:=⟨call156⟩
instance:CallT prog 157:=⟨call157⟩
instance:CallT prog 158:=⟨call158⟩
instance:CallT prog 159:=⟨call159⟩
instance:CallT prog 160:=⟨call160⟩
instance:CallT prog 161:=⟨call161⟩
instance:CallT prog 162:=⟨call162⟩
instance:CallT prog 163:=⟨call163⟩
instance:CallT prog 164:=⟨call164⟩
instance:CallT prog 165:=⟨call165⟩
instance:CallT prog 166:=⟨call166⟩
instance:CallT prog 167:=⟨call167⟩
instance:CallT prog 181:=⟨call181⟩
instance:CallT prog 182:=⟨call182⟩
instance:CallT prog 183:=⟨call183⟩
instance:CallT prog 184:=⟨call184⟩
instance:CallT prog 185:=⟨call185⟩
instance:CallT prog 186:=⟨call186⟩
instance:CallT prog 187:=⟨call187⟩
instance:CallT prog 188:=⟨call188⟩
instance:CallT prog 189:=⟨call189⟩
instance:CallT prog 190:=⟨call190⟩
instance:CallT prog 191:=⟨call191⟩
instance:CallT prog 192:=⟨call192⟩
instance:CallT prog 193:=⟨call193⟩
instance:CallT prog 194:=⟨call194⟩
instance:CallT prog 195:=⟨call195⟩
instance:CallT prog 196:=⟨call196⟩
instance:CallT prog 197:=⟨call197⟩
instance:CallT prog 198:=⟨call198⟩
instance:CallT prog 199:=⟨call199⟩
instance:CallT prog 200:=⟨call200⟩
instance:CallT prog 201:=⟨call201⟩
instance:CallT prog 202:=⟨call202⟩
instance:CallT prog 203:=⟨call203⟩
instance:CallT prog 204:=⟨call204⟩
instance:CallT prog 205:=⟨call205⟩
instance:CallT prog 206:=⟨call206⟩
instance:CallT prog 207:=⟨call207⟩
instance:CallT prog 208:=⟨call208⟩
instance:CallT prog 209:=⟨call209⟩
instance:CallT prog 210:=⟨call210⟩
instance:CallT prog 211:=⟨call211⟩
instance:CallT prog 212:=⟨call212⟩
instance:CallT prog 213:=⟨call213⟩
instance:CallT prog 214:=⟨call214⟩
instance:CallT prog 215:=⟨call215⟩
instance:CallT prog 216:=⟨call216⟩
instance:CallT prog 226:=⟨call226⟩
instance:CallT prog 227:=⟨call227⟩
instance:CallT prog 228:=⟨call228⟩
instance:CallT prog 229:=⟨call229⟩
instance:CallT prog 230:=⟨call230⟩
instance:CallT prog 231:=⟨call231⟩
instance:CallT prog 232:=⟨call232⟩
instance:CallT prog 233:=⟨call233⟩
instance:CallT prog 234:=⟨call234⟩
instance:CallT prog 235:=⟨call235⟩
instance:CallT prog 236:=⟨call236⟩
instance:CallT prog 237:=⟨call237⟩
instance:CallT prog 238:=⟨call238⟩
instance:CallT prog 239:=⟨call239⟩
instance:CallT prog 240:=⟨call240⟩
instance:CallT prog 241:=⟨call241⟩
instance:CallT prog 242:=⟨call242⟩
instance:CallT prog 244:=⟨call244⟩
instance:CallT prog 245:=⟨call245⟩
instance:CallT prog 246:=⟨call246⟩
instance:CallT prog 247:=⟨call247⟩
instance:CallT prog 248:=⟨call248⟩
instance:CallT prog 249:=⟨call249⟩
instance:CallT prog 268:=⟨call268⟩
instance:CallT prog 269:=⟨call269⟩
instance:CallT prog 270:=⟨call270⟩
instance:CallT prog 271:=⟨call271⟩
instance:CallT prog 272:=⟨call272⟩
instance:CallT prog 273:=⟨call273⟩
instance:CallT prog 274:=⟨call274⟩
instance:CallT prog 275:=⟨call275⟩
instance:CallT prog 276:=⟨call276⟩
instance:CallT prog 277:=⟨call277⟩
end
section
open Go Go.Pt Go.Proofs.Tryz
def jv (S:Mem) (x0:Int) (x1:Sl) (x2:Sl) (Q:Bool→Mem→Prop):Prop:=
 Tr prog 5 S [.int .u8 x0,eL x1,eL x2] fun v S'=>∃ r0:Bool,v=.bool r0∧Q r0 S'
def qi (S:Mem) (Q:Bool→Mem→Prop):Prop:=
 Tr prog 24 S [] fun v S'=>∃ r0:Bool,v=.bool r0∧Q r0 S'
def qT (S:Mem) (x0:Pt) (Q:Int→Mem→Prop):Prop:=
 Tr prog 25 S [eP x0] fun v S'=>∃ r0:Int,v=.int .i64 r0∧Q r0 S'
def yb (S:Mem) (x0:Int) (x1:Int) (x2:Int) (x3:Sl) (x4:Sl) (Q:Pt→Mem→Prop):Prop:=
 Tr prog 26 S [.int .i64 x0,.int .i64 x1,.int .i64 x2,eL x3,eL x4] fun v S'=>∃ r0:Pt,v=eP r0∧Q r0 S'
def yD (S:Mem) (x0:Pt) (x1:Int) (x2:Int) (x3:Int) (x4:Sl) (Q:Int→Int→Mem→Prop):Prop:=
 Tr prog 27 S [eP x0,.int .i64 x1,.int .i64 x2,.int .i64 x3,eL x4] fun v S'=>∃ r0:Int,∃ r1:Int,v=.tuple #[.int .i64 r0,.int .i64 r1]∧Q r0 r1 S'
def yz (S:Mem) (x0:Pt) (x1:Int) (x2:Int) (Q:Int→Int→Mem→Prop):Prop:=
 Tr prog 28 S [eP x0,.int .i64 x1,.int .i64 x2] fun v S'=>∃ r0:Int,∃ r1:Int,v=.tuple #[.int .u64 r0,.int .i64 r1]∧Q r0 r1 S'
def qN (S:Mem) (x0:Pt) (x1:Int) (x2:Int) (x3:Int) (Q:Int→Mem→Prop):Prop:=
 Tr prog 29 S [eP x0,.int .i64 x1,.int .i64 x2,.int .u64 x3] fun v S'=>∃ r0:Int,v=.int .i64 r0∧Q r0 S'
def zP (S:Mem) (x0:List Value) (x1:Pt) (x2:Int) (Q:List Value→Int→Mem→Prop):Prop:=
 Tr prog 30 S [valL x0,eP x1,.int .i64 x2] fun v S'=>∃ r0:List Value,∃ r1:Int,v=.tuple #[valL r0,.int .i64 r1]∧r0.length=3∧Q r0 r1 S'
def zJ (S:Mem) (x0:Pt) (x1:Int) (Q:Bool→Mem→Prop):Prop:=
 Tr prog 33 S [eP x0,.int .i64 x1] fun v S'=>∃ r0:Bool,v=.bool r0∧Q r0 S'
def zcq (S:Mem) (x0:Int) (x1:Int) (Q:Pt→Mem→Prop):Prop:=
 Tr prog 35 S [.int .i64 x0,.int .i64 x1] fun v S'=>∃ r0:Pt,v=eP r0∧Q r0 S'
def zct (S:Mem) (x0:Int) (x1:Int) (x2:Int) (Q:Pt→Int→Mem→Prop):Prop:=
 Tr prog 48 S [.int .i64 x0,.int .i64 x1,.int .i64 x2] fun v S'=>∃ r0:Pt,∃ r1:Int,v=.tuple #[eP r0,.int .i64 r1]∧Q r0 r1 S'
def qS (S:Mem) (x0:Sl) (Q:Sl→Mem→Prop):Prop:=
 Tr prog 49 S [eL x0] fun v S'=>∃ r0:Sl,v=eL r0∧Q r0 S'
def vC (S:Mem) (x0:Pt) (x1:Int) (x2:Int) (x3:Bool) (Q:Int→Mem→Prop):Prop:=
 Tr prog 50 S [eP x0,.int .i64 x1,.int .i64 x2,.bool x3] fun v S'=>∃ r0:Int,v=.int .i64 r0∧Q r0 S'
def kB (S:Mem) (x0:Pt) (x1:Int) (x2:Int) (Q:Int→Mem→Prop):Prop:=
 Tr prog 51 S [eP x0,.int .i64 x1,.int .u8 x2] fun v S'=>∃ r0:Int,v=.int .i64 r0∧Q r0 S'
def vB (S:Mem) (x0:Pt) (Q:Mem→Prop):Prop:=
 Tr prog 52 S [eP x0] fun v S'=>v=.tuple #[]∧Q S'
def xd (S:Mem) (x0:Pt) (x1:Int) (Q:Int→Mem→Prop):Prop:=
 Tr prog 53 S [eP x0,.int .i64 x1] fun v S'=>∃ r0:Int,v=.int .i64 r0∧Q r0 S'
def ws (S:Mem) (x0:Pt) (x1:Int) (x2:Int) (Q:Int→Mem→Prop):Prop:=
 Tr prog 54 S [eP x0,.int .i64 x1,.int .i64 x2] fun v S'=>∃ r0:Int,v=.int .i64 r0∧Q r0 S'
def wN (S:Mem) (x0:List Value) (x1:List Value) (Q:Bool→Mem→Prop):Prop:=
 Tr prog 62 S [valL x0,valL x1] fun v S'=>∃ r0:Bool,v=.bool r0∧Q r0 S'
def gh (S:Mem) (x0:Value) (Q:Mem→Prop):Prop:=
 Tr prog 63 S [x0] fun v S'=>v=.tuple #[]∧Q S'
def wY (S:Mem) (x0:Pt) (x1:Pt) (x2:Sl) (x3:Pt) (Q:Int→Mem→Prop):Prop:=
 Tr prog 64 S [eP x0,eP x1,eL x2,eP x3] fun v S'=>∃ r0:Int,v=.int .i64 r0∧Q r0 S'
def zav (S:Mem) (x0:Int) (x1:Int) (Q:List Value→Int→Mem→Prop):Prop:=
 Tr prog 65 S [.int .i64 x0,.int .i64 x1] fun v S'=>∃ r0:List Value,∃ r1:Int,v=.tuple #[valL r0,.int .i64 r1]∧r0.length=12∧Q r0 r1 S'
def xA (S:Mem) (x0:Pt) (x1:Int) (Q:Sl→Int→Mem→Prop):Prop:=
 Tr prog 66 S [eP x0,.int .i64 x1] fun v S'=>∃ r0:Sl,∃ r1:Int,v=.tuple #[eL r0,.int .i64 r1]∧Q r0 r1 S'
def yg (S:Mem) (x0:Pt) (x1:Int) (x2:Int) (Q:Int→Mem→Prop):Prop:=
 Tr prog 67 S [eP x0,.int .i64 x1,.int .i64 x2] fun v S'=>∃ r0:Int,v=.int .i64 r0∧Q r0 S'
def zan (S:Mem) (x0:Pt) (x1:Int) (x2:Sl) (Q:List Value→Int→Mem→Prop):Prop:=
 Tr prog 68 S [eP x0,.int .i64 x1,eL x2] fun v S'=>∃ r0:List Value,∃ r1:Int,v=.tuple #[valL r0,.int .i64 r1]∧r0.length=2∧Q r0 r1 S'
def crab_Crab_own (S:Mem) (x0:Pt) (x1:Int) (x2:Int) (x3:Int) (Q:Mem→Prop):Prop:=
 Tr prog 69 S [eP x0,.int .i64 x1,.int .i64 x2,.int .i64 x3] fun v S'=>v=.tuple #[]∧Q S'
def qg (S:Mem) (x0:Pt) (x1:Int) (x2:Int) (x3:Sl) (Q:Int→Mem→Prop):Prop:=
 Tr prog 70 S [eP x0,.int .i64 x1,.int .i64 x2,eL x3] fun v S'=>∃ r0:Int,v=.int .i64 r0∧Q r0 S'
def qO (S:Mem) (x0:Pt) (x1:Int) (x2:Int) (x3:Int) (Q:Sl→Int→Mem→Prop):Prop:=
 Tr prog 71 S [eP x0,.int .i64 x1,.int .i64 x2,.int .i64 x3] fun v S'=>∃ r0:Sl,∃ r1:Int,v=.tuple #[eL r0,.int .i64 r1]∧Q r0 r1 S'
def zen (S:Mem) (x0:Sl) (Q:Int→Mem→Prop):Prop:=
 Tr prog 72 S [eL x0] fun v S'=>∃ r0:Int,v=.int .u64 r0∧Q r0 S'
def zal (S:Mem) (x0:Int) (Q:Sl→Mem→Prop):Prop:=
 Tr prog 73 S [.int .u64 x0] fun v S'=>∃ r0:Sl,v=eL r0∧Q r0 S'
def yy (S:Mem) (x0:List Value) (x1:Pt) (x2:Int) (Q:Int→Int→Int→Mem→Prop):Prop:=
 Tr prog 74 S [valL x0,eP x1,.int .i64 x2] fun v S'=>∃ r0:Int,∃ r1:Int,∃ r2:Int,v=.tuple #[.int .i64 r0,.int .i64 r1,.int .i64 r2]∧Q r0 r1 r2 S'
def jz (S:Mem) (x0:Int) (x1:Int) (Q:List Value→Bool→Mem→Prop):Prop:=
 Tr prog 75 S [.int .i64 x0,.int .u64 x1] fun v S'=>∃ r0:List Value,∃ r1:Bool,v=.tuple #[valL r0,.bool r1]∧r0.length=3∧Q r0 r1 S'
def zeM (S:Mem) (x0:List Value) (Q:Sl→Mem→Prop):Prop:=
 Tr prog 79 S [valL x0] fun v S'=>∃ r0:Sl,v=eL r0∧Q r0 S'
def zeT (S:Mem) (x0:Int) (Q:Pt→Mem→Prop):Prop:=
 Tr prog 81 S [.int .i64 x0] fun v S'=>∃ r0:Pt,v=eP r0∧Q r0 S'
def fI (S:Mem) (x0:Int) (Q:Pt→Mem→Prop):Prop:=
 Tr prog 93 S [.int .i64 x0] fun v S'=>∃ r0:Pt,v=eP r0∧Q r0 S'
def zcl (S:Mem) (x0:Int) (Q:Pt→Mem→Prop):Prop:=
 Tr prog 94 S [.int .i64 x0] fun v S'=>∃ r0:Pt,v=eP r0∧Q r0 S'
def zg (S:Mem) (x0:Sl) (x1:Int) (x2:Int) (x3:Int) (x4:Int) (x5:Int) (Q:Sl→Mem→Prop):Prop:=
 Tr prog 95 S [eL x0,.int .u8 x1,.int .u8 x2,.int .u8 x3,.int .u8 x4,.int .i16 x5] fun v S'=>∃ r0:Sl,v=eL r0∧Q r0 S'
def kG (S:Mem) (x0:Pt) (x1:Int) (Q:Int→Mem→Prop):Prop:=
 Tr prog 96 S [eP x0,.int .i64 x1] fun v S'=>∃ r0:Int,v=.int .i64 r0∧Q r0 S'
def qm (S:Mem) (x0:Pt) (x1:Int) (x2:Int) (Q:Pt→Mem→Prop):Prop:=
 Tr prog 97 S [eP x0,.int .i64 x1,.int .i64 x2] fun v S'=>∃ r0:Pt,v=eP r0∧Q r0 S'
def wM (S:Mem) (x0:Pt) (x1:Int) (Q:Sl→Mem→Prop):Prop:=
 Tr prog 98 S [eP x0,.int .u64 x1] fun v S'=>∃ r0:Sl,v=eL r0∧Q r0 S'
def gF (S:Mem) (x0:List Value) (x1:Int) (Q:Sl→Mem→Prop):Prop:=
 Tr prog 99 S [valL x0,.int .i64 x1] fun v S'=>∃ r0:Sl,v=eL r0∧Q r0 S'
def gW (S:Mem) (x0:Pt) (x1:Int) (Q:Mem→Prop):Prop:=
 Tr prog 100 S [eP x0,.int .i64 x1] fun v S'=>v=.tuple #[]∧Q S'
def yR (S:Mem) (x0:List Value) (x1:Pt) (Q:Sl→Sl→Mem→Prop):Prop:=
 Tr prog 101 S [valL x0,eP x1] fun v S'=>∃ r0:Sl,∃ r1:Sl,v=.tuple #[eL r0,eL r1]∧Q r0 r1 S'
def yM (S:Mem) (x0:Pt) (x1:Int) (x2:Int) (Q:Int→Mem→Prop):Prop:=
 Tr prog 102 S [eP x0,.int .i64 x1,.int .i64 x2] fun v S'=>∃ r0:Int,v=.int .i64 r0∧Q r0 S'
def qU (S:Mem) (x0:Pt) (x1:Int) (Q:Int→Mem→Prop):Prop:=
 Tr prog 103 S [eP x0,.int .i64 x1] fun v S'=>∃ r0:Int,v=.int .i64 r0∧Q r0 S'
def wc (S:Mem) (x0:Pt) (x1:Int) (Q:Int→Mem→Prop):Prop:=
 Tr prog 104 S [eP x0,.int .i64 x1] fun v S'=>∃ r0:Int,v=.int .i64 r0∧Q r0 S'
def wt (S:Mem) (x0:Pt) (x1:Int) (Q:Mem→Prop):Prop:=
 Tr prog 105 S [eP x0,.int .i64 x1] fun v S'=>v=.tuple #[]∧Q S'
def yQ (S:Mem) (x0:Pt) (x1:Int) (Q:Mem→Prop):Prop:=
 Tr prog 106 S [eP x0,.int .i64 x1] fun v S'=>v=.tuple #[]∧Q S'
def zgW (S:Mem) (x0:Pt) (x1:Value) (x2:Int) (x3:Int) (Q:List Value→Mem→Prop):Prop:=
 Tr prog 107 S [eP x0,x1,.int .u64 x2,.int .i64 x3] fun v S'=>∃ r0:List Value,v=valL r0∧r0.length=2∧Q r0 S'
def vI (S:Mem) (x0:Pt) (x1:Int) (Q:Int→Mem→Prop):Prop:=
 Tr prog 108 S [eP x0,.int .i64 x1] fun v S'=>∃ r0:Int,v=.int .u64 r0∧Q r0 S'
def yH (S:Mem) (x0:Pt) (x1:Int) (x2:List Value) (Q:Mem→Prop):Prop:=
 Tr prog 109 S [eP x0,.int .i64 x1,valL x2] fun v S'=>v=.tuple #[]∧Q S'
def zfm (S:Mem) (x0:List Value) (x1:Int) (x2:Int) (x3:List Value) (Q:List Value→Mem→Prop):Prop:=
 Tr prog 110 S [valL x0,.int .i64 x1,.int .u64 x2,valL x3] fun v S'=>∃ r0:List Value,v=valL r0∧r0.length=4∧Q r0 S'
def jT (S:Mem) (x0:Pt) (x1:Int) (x2:Int) (x3:Int) (Q:Mem→Prop):Prop:=
 Tr prog 111 S [eP x0,.int .i64 x1,.int .i64 x2,.int .u64 x3] fun v S'=>v=.tuple #[]∧Q S'
def fP (S:Mem) (x0:Value) (x1:Int) (x2:Int) (Q:Bool→Mem→Prop):Prop:=
 Tr prog 117 S [x0,.int .i64 x1,.int .i64 x2] fun v S'=>∃ r0:Bool,v=.bool r0∧Q r0 S'
def qF (S:Mem) (x0:Pt) (Q:Int→Mem→Prop):Prop:=
 Tr prog 118 S [eP x0] fun v S'=>∃ r0:Int,v=.int .i64 r0∧Q r0 S'
def wb (S:Mem) (x0:List Value) (Q:Int→Mem→Prop):Prop:=
 Tr prog 119 S [valL x0] fun v S'=>∃ r0:Int,v=.int .i64 r0∧Q r0 S'
def kP (S:Mem) (x0:List Value) (Q:Int→Mem→Prop):Prop:=
 Tr prog 120 S [valL x0] fun v S'=>∃ r0:Int,v=.int .i64 r0∧Q r0 S'
def xY (S:Mem) (x0:List Value) (Q:Int→Mem→Prop):Prop:=
 Tr prog 121 S [valL x0] fun v S'=>∃ r0:Int,v=.int .i64 r0∧Q r0 S'
def xb (S:Mem) (x0:List Value) (Q:Int→Mem→Prop):Prop:=
 Tr prog 122 S [valL x0] fun v S'=>∃ r0:Int,v=.int .i64 r0∧Q r0 S'
def xZ (S:Mem) (x0:List Value) (Q:Int→Mem→Prop):Prop:=
 Tr prog 123 S [valL x0] fun v S'=>∃ r0:Int,v=.int .i64 r0∧Q r0 S'
def wa (S:Mem) (x0:List Value) (Q:Int→Mem→Prop):Prop:=
 Tr prog 124 S [valL x0] fun v S'=>∃ r0:Int,v=.int .i64 r0∧Q r0 S'
def kO (S:Mem) (x0:List Value) (Q:Int→Mem→Prop):Prop:=
 Tr prog 125 S [valL x0] fun v S'=>∃ r0:Int,v=.int .i64 r0∧Q r0 S'
def zbo (S:Mem) (Q:List Value→Mem→Prop):Prop:=
 Tr prog 126 S [] fun v S'=>∃ r0:List Value,v=valL r0∧r0.length=4∧Q r0 S'
def zjo (S:Mem) (Q:List Value→Mem→Prop):Prop:=
 Tr prog 127 S [] fun v S'=>∃ r0:List Value,v=valL r0∧r0.length=26∧Q r0 S'
def vy (S:Mem) (x0:Pt) (Q:Int→Int→Mem→Prop):Prop:=
 Tr prog 128 S [eP x0] fun v S'=>∃ r0:Int,∃ r1:Int,v=.tuple #[.int .i64 r0,.int .i64 r1]∧Q r0 r1 S'
def qV (S:Mem) (x0:Pt) (x1:Int) (Q:Pt→Int→Mem→Prop):Prop:=
 Tr prog 129 S [eP x0,.int .i64 x1] fun v S'=>∃ r0:Pt,∃ r1:Int,v=.tuple #[eP r0,.int .i64 r1]∧Q r0 r1 S'
def yf (S:Mem) (x0:Pt) (x1:Int) (Q:Int→Mem→Prop):Prop:=
 Tr prog 130 S [eP x0,.int .i64 x1] fun v S'=>∃ r0:Int,v=.int .i64 r0∧Q r0 S'
def gb (S:Mem) (x0:Int) (x1:List Value) (Q:Int→Mem→Prop):Prop:=
 Tr prog 131 S [.int .i64 x0,valL x1] fun v S'=>∃ r0:Int,v=.int .u64 r0∧Q r0 S'
def wZ (S:Mem) (x0:Pt) (x1:Int) (x2:Int) (x3:Int) (Q:Int→Mem→Prop):Prop:=
 Tr prog 132 S [eP x0,.int .i64 x1,.int .i64 x2,.int .i64 x3] fun v S'=>∃ r0:Int,v=.int .i64 r0∧Q r0 S'
def wq (S:Mem) (x0:Pt) (x1:Int) (x2:Int) (x3:Int) (x4:Bool) (Q:Mem→Prop):Prop:=
 Tr prog 133 S [eP x0,.int .i64 x1,.int .i64 x2,.int .i64 x3,.bool x4] fun v S'=>v=.tuple #[]∧Q S'
def vx (S:Mem) (x0:Pt) (x1:Int) (x2:Int) (x3:Int) (Q:Int→Int→Mem→Prop):Prop:=
 Tr prog 134 S [eP x0,.int .i64 x1,.int .i64 x2,.int .i64 x3] fun v S'=>∃ r0:Int,∃ r1:Int,v=.tuple #[.int .i64 r0,.int .i64 r1]∧Q r0 r1 S'
def yG (S:Mem) (x0:Int) (x1:Int) (x2:Int) (Q:Int→Mem→Prop):Prop:=
 Tr prog 135 S [.int .u64 x0,.int .i64 x1,.int .i64 x2] fun v S'=>∃ r0:Int,v=.int .u64 r0∧Q r0 S'
def zcg (S:Mem) (x0:Bool) (Q:Int→Mem→Prop):Prop:=
 Tr prog 136 S [.bool x0] fun v S'=>∃ r0:Int,v=.int .u64 r0∧Q r0 S'
def wL (S:Mem) (x0:Pt) (x1:Int) (x2:Int) (x3:Int) (Q:Int→Mem→Prop):Prop:=
 Tr prog 141 S [eP x0,.int .i64 x1,.int .i64 x2,.int .u64 x3] fun v S'=>∃ r0:Int,v=.int .i64 r0∧Q r0 S'
def kr (S:Mem) (x0:Int) (x1:Int) (x2:Int) (x3:Int) (x4:Int) (Q:Int→Mem→Prop):Prop:=
 Tr prog 146 S [.int .u8 x0,.int .u8 x1,.int .u8 x2,.int .u8 x3,.int .i16 x4] fun v S'=>∃ r0:Int,v=.int .u32 r0∧Q r0 S'
def zcV (S:Mem) (x0:Int) (Q:Bool→Mem→Prop):Prop:=
 Tr prog 147 S [.int .i64 x0] fun v S'=>∃ r0:Bool,v=.bool r0∧Q r0 S'
def zcn (S:Mem) (x0:Pt) (Q:Mem→Prop):Prop:=
 Tr prog 148 S [eP x0] fun v S'=>v=.tuple #[]∧Q S'
def zcp (S:Mem) (x0:Value) (Q:Value→Mem→Prop):Prop:=
 Tr prog 149 S [x0] fun v S'=>∃ r0:Value,v=r0∧Q r0 S'
def qC (S:Mem) (x0:List Value) (x1:Int) (Q:List Value→Int→Mem→Prop):Prop:=
 Tr prog 150 S [valL x0,.int .i64 x1] fun v S'=>∃ r0:List Value,∃ r1:Int,v=.tuple #[valL r0,.int .i64 r1]∧r0.length=6∧Q r0 r1 S'
def yj (S:Mem) (x0:Pt) (x1:Int) (x2:Int) (Q:Mem→Prop):Prop:=
 Tr prog 151 S [eP x0,.int .i64 x1,.int .i64 x2] fun v S'=>v=.tuple #[]∧Q S'
def qQ (S:Mem) (x0:Pt) (x1:Int) (x2:Int) (Q:Int→Mem→Prop):Prop:=
 Tr prog 152 S [eP x0,.int .i64 x1,.int .i64 x2] fun v S'=>∃ r0:Int,v=.int .i64 r0∧Q r0 S'
def kS (S:Mem) (x0:List Value) (x1:Int) (Q:List Value→Mem→Prop):Prop:=
 Tr prog 153 S [valL x0,.int .i64 x1] fun v S'=>∃ r0:List Value,v=valL r0∧r0.length=96∧Q r0 S'
def yS (S:Mem) (x0:Pt) (x1:Int) (x2:Int) (Q:Pt→Int→Mem→Prop):Prop:=
 Tr prog 154 S [eP x0,.int .i64 x1,.int .i64 x2] fun v S'=>∃ r0:Pt,∃ r1:Int,v=.tuple #[eP r0,.int .i64 r1]∧Q r0 r1 S'
def fQ (S:Mem) (x0:Value) (x1:Value) (Q:Mem→Prop):Prop:=
 Tr prog 155 S [x0,x1] fun v S'=>v=.tuple #[]∧Q S'
def xF (S:Mem) (x0:Pt) (x1:Value) (Q:Mem→Prop):Prop:=
 Tr prog 156 S [eP x0,x1] fun v S'=>v=.tuple #[]∧Q S'
def fW (S:Mem) (x0:List Value) (x1:Pt) (Q:Bool→Mem→Prop):Prop:=
 Tr prog 157 S [valL x0,eP x1] fun v S'=>∃ r0:Bool,v=.bool r0∧Q r0 S'
def xI (S:Mem) (x0:Pt) (x1:Value) (Q:Mem→Prop):Prop:=
 Tr prog 158 S [eP x0,x1] fun v S'=>v=.tuple #[]∧Q S'
def zaj (S:Mem) (x0:List Value) (x1:Pt) (Q:Bool→Mem→Prop):Prop:=
 Tr prog 159 S [valL x0,eP x1] fun v S'=>∃ r0:Bool,v=.bool r0∧Q r0 S'
def zfa (S:Mem) (x0:Pt) (Q:Int→Bool→Mem→Prop):Prop:=
 Tr prog 160 S [eP x0] fun v S'=>∃ r0:Int,∃ r1:Bool,v=.tuple #[.int .i64 r0,.bool r1]∧Q r0 r1 S'
def yn (S:Mem) (x0:List Value) (x1:Int) (x2:Int) (Q:List Value→Mem→Prop):Prop:=
 Tr prog 161 S [valL x0,.int .u64 x1,.int .u64 x2] fun v S'=>∃ r0:List Value,v=valL r0∧r0.length=2∧Q r0 S'
def jE (S:Mem) (x0:List Value) (x1:Int) (x2:Int) (Q:Int→Bool→Mem→Prop):Prop:=
 Tr prog 162 S [valL x0,.int .u64 x1,.int .i64 x2] fun v S'=>∃ r0:Int,∃ r1:Bool,v=.tuple #[.int .u64 r0,.bool r1]∧Q r0 r1 S'
def zbu (S:Mem) (x0:Int) (Q:List Value→Bool→Mem→Prop):Prop:=
 Tr prog 163 S [.int .u32 x0] fun v S'=>∃ r0:List Value,∃ r1:Bool,v=.tuple #[valL r0,.bool r1]∧r0.length=5∧Q r0 r1 S'
def zdd (S:Mem) (x0:List Value) (x1:List Value) (Q:List Value→Mem→Prop):Prop:=
 Tr prog 164 S [valL x0,valL x1] fun v S'=>∃ r0:List Value,v=valL r0∧r0.length=2∧Q r0 S'
def zgw (S:Mem) (x0:List Value) (Q:Int→Mem→Prop):Prop:=
 Tr prog 165 S [valL x0] fun v S'=>∃ r0:Int,v=.int .u64 r0∧Q r0 S'
def zax (S:Mem) (x0:Int) (Q:Int→Mem→Prop):Prop:=
 Tr prog 166 S [.int .u64 x0] fun v S'=>∃ r0:Int,v=.int .i64 r0∧Q r0 S'
def fT (S:Mem) (x0:Pt) (x1:Int) (x2:Int) (x3:Int) (x4:Int) (x5:Int) (x6:Bool) (Q:Int→Int→Mem→Prop):Prop:=
 Tr prog 167 S [eP x0,.int .i64 x1,.int .i64 x2,.int .u64 x3,.int .u64 x4,.int .i64 x5,.bool x6] fun v S'=>∃ r0:Int,∃ r1:Int,v=.tuple #[.int .u64 r0,.int .i64 r1]∧Q r0 r1 S'
def jN (S:Mem) (x0:Pt) (x1:Int) (Q:Bool→Mem→Prop):Prop:=
 Tr prog 181 S [eP x0,.int .i64 x1] fun v S'=>∃ r0:Bool,v=.bool r0∧Q r0 S'
def qW (S:Mem) (x0:Pt) (x1:Int) (Q:List Value→Int→Mem→Prop):Prop:=
 Tr prog 182 S [eP x0,.int .i64 x1] fun v S'=>∃ r0:List Value,∃ r1:Int,v=.tuple #[valL r0,.int .i64 r1]∧r0.length=4∧Q r0 r1 S'
def qP (S:Mem) (x0:Pt) (x1:Int) (x2:Int) (Q:Int→Mem→Prop):Prop:=
 Tr prog 183 S [eP x0,.int .u8 x1,.int .i64 x2] fun v S'=>∃ r0:Int,v=.int .i64 r0∧Q r0 S'
def wh (S:Mem) (x0:List Value) (x1:Int) (x2:Int) (Q:Int→Mem→Prop):Prop:=
 Tr prog 184 S [valL x0,.int .i64 x1,.int .i64 x2] fun v S'=>∃ r0:Int,v=.int .i64 r0∧Q r0 S'
def xD (S:Mem) (x0:List Value) (x1:Int) (x2:Int) (x3:List Value) (x4:List Value) (Q:Bool→Mem→Prop):Prop:=
 Tr prog 185 S [valL x0,.int .i64 x1,.int .i64 x2,valL x3,valL x4] fun v S'=>∃ r0:Bool,v=.bool r0∧Q r0 S'
def yN (S:Mem) (x0:Pt) (x1:Int) (x2:Int) (Q:Bool→Mem→Prop):Prop:=
 Tr prog 186 S [eP x0,.int .i64 x1,.int .i64 x2] fun v S'=>∃ r0:Bool,v=.bool r0∧Q r0 S'
def yc (S:Mem) (x0:Int) (x1:Int) (x2:Int) (x3:Int) (Q:Int→Mem→Prop):Prop:=
 Tr prog 187 S [.int .u64 x0,.int .i64 x1,.int .i64 x2,.int .u64 x3] fun v S'=>∃ r0:Int,v=.int .u64 r0∧Q r0 S'
def zgE (S:Mem) (x0:Int) (x1:Int) (Q:Bool→Mem→Prop):Prop:=
 Tr prog 188 S [.int .i64 x0,.int .i64 x1] fun v S'=>∃ r0:Bool,v=.bool r0∧Q r0 S'
def kL (S:Mem) (x0:List Value) (x1:Pt) (x2:Int) (x3:Int) (x4:Bool) (Q:Int→Mem→Prop):Prop:=
 Tr prog 189 S [valL x0,eP x1,.int .i64 x2,.int .i64 x3,.bool x4] fun v S'=>∃ r0:Int,v=.int .i64 r0∧Q r0 S'
def yE (S:Mem) (x0:Pt) (x1:Int) (x2:Int) (Q:Mem→Prop):Prop:=
 Tr prog 190 S [eP x0,.int .i64 x1,.int .i64 x2] fun v S'=>v=.tuple #[]∧Q S'
def ko (S:Mem) (x0:Pt) (x1:Int) (x2:Int) (Q:Mem→Prop):Prop:=
 Tr prog 191 S [eP x0,.int .i64 x1,.int .i64 x2] fun v S'=>v=.tuple #[]∧Q S'
def yI (S:Mem) (x0:Int) (Q:Int→Mem→Prop):Prop:=
 Tr prog 192 S [.int .u8 x0] fun v S'=>∃ r0:Int,v=.int .i64 r0∧Q r0 S'
def wV (S:Mem) (x0:List Value) (x1:Pt) (x2:Int) (Q:Int→Mem→Prop):Prop:=
 Tr prog 193 S [valL x0,eP x1,.int .i64 x2] fun v S'=>∃ r0:Int,v=.int .i64 r0∧Q r0 S'
def zgO (S:Mem) (x0:Value) (x1:Int) (Q:Mem→Prop):Prop:=
 Tr prog 194 S [x0,.int .i64 x1] fun v S'=>v=.tuple #[]∧Q S'
def zQ (S:Mem) (x0:Sl) (x1:Value) (Q:Sl→Mem→Prop):Prop:=
 Tr prog 195 S [eL x0,x1] fun v S'=>∃ r0:Sl,v=eL r0∧Q r0 S'
def zfb (S:Mem) (x0:Pt) (Q:Int→Bool→Mem→Prop):Prop:=
 Tr prog 196 S [eP x0] fun v S'=>∃ r0:Int,∃ r1:Bool,v=.tuple #[.int .i64 r0,.bool r1]∧Q r0 r1 S'
def zeL (S:Mem) (x0:Pt) (x1:Int) (x2:Int) (Q:Mem→Prop):Prop:=
 Tr prog 197 S [eP x0,.int .u64 x1,.int .u64 x2] fun v S'=>v=.tuple #[]∧Q S'
def kC (S:Mem) (x0:List Value) (x1:Int) (x2:Bool) (Q:Int→Int→Bool→Mem→Prop):Prop:=
 Tr prog 198 S [valL x0,.int .u64 x1,.bool x2] fun v S'=>∃ r0:Int,∃ r1:Int,∃ r2:Bool,v=.tuple #[.int .i64 r0,.int .i64 r1,.bool r2]∧Q r0 r1 r2 S'
def jb (S:Mem) (x0:Int) (Q:List Value→Mem→Prop):Prop:=
 Tr prog 199 S [.int .u8 x0] fun v S'=>∃ r0:List Value,v=valL r0∧r0.length=4∧Q r0 S'
def zbt (S:Mem) (x0:List Value) (Q:Int→Bool→Mem→Prop):Prop:=
 Tr prog 200 S [valL x0] fun v S'=>∃ r0:Int,∃ r1:Bool,v=.tuple #[.int .u32 r0,.bool r1]∧Q r0 r1 S'
def fV (S:Mem) (x0:List Value) (x1:Int) (x2:Int) (Q:Bool→Mem→Prop):Prop:=
 Tr prog 201 S [valL x0,.int .u64 x1,.int .u64 x2] fun v S'=>∃ r0:Bool,v=.bool r0∧Q r0 S'
def fU (S:Mem) (x0:Int) (x1:Int) (x2:Int) (Q:Bool→Mem→Prop):Prop:=
 Tr prog 202 S [.int .u8 x0,.int .u64 x1,.int .u64 x2] fun v S'=>∃ r0:Bool,v=.bool r0∧Q r0 S'
def zgy (S:Mem) (x0:List Value) (x1:Int) (x2:Int) (x3:Int) (Q:Int→Bool→Mem→Prop):Prop:=
 Tr prog 203 S [valL x0,.int .i64 x1,.int .u64 x2,.int .i64 x3] fun v S'=>∃ r0:Int,∃ r1:Bool,v=.tuple #[.int .u64 r0,.bool r1]∧Q r0 r1 S'
def zgx (S:Mem) (x0:Pt) (x1:Int) (x2:Int) (Q:Bool→Mem→Prop):Prop:=
 Tr prog 204 S [eP x0,.int .i64 x1,.int .u64 x2] fun v S'=>∃ r0:Bool,v=.bool r0∧Q r0 S'
def zeN (S:Mem) (x0:Pt) (Q:Mem→Prop):Prop:=
 Tr prog 205 S [eP x0] fun v S'=>v=.tuple #[]∧Q S'
def zgV (S:Mem) (x0:Int) (x1:Int) (x2:Int) (Q:Int→Mem→Prop):Prop:=
 Tr prog 206 S [.int .u8 x0,.int .u64 x1,.int .u64 x2] fun v S'=>∃ r0:Int,v=.int .u64 r0∧Q r0 S'
def zec (S:Mem) (x0:Int) (x1:Int) (Q:Int→Mem→Prop):Prop:=
 Tr prog 207 S [.int .u64 x0,.int .u64 x1] fun v S'=>∃ r0:Int,v=.int .u64 r0∧Q r0 S'
def jQ (S:Mem) (x0:Pt) (x1:Int) (x2:Int) (x3:Int) (Q:Int→Mem→Prop):Prop:=
 Tr prog 208 S [eP x0,.int .i64 x1,.int .i64 x2,.int .i64 x3] fun v S'=>∃ r0:Int,v=.int .i64 r0∧Q r0 S'
def kW (S:Mem) (x0:Pt) (x1:Int) (x2:Int) (x3:Int) (x4:Bool) (Q:Int→Int→Mem→Prop):Prop:=
 Tr prog 209 S [eP x0,.int .i64 x1,.int .i64 x2,.int .i64 x3,.bool x4] fun v S'=>∃ r0:Int,∃ r1:Int,v=.tuple #[.int .u64 r0,.int .i64 r1]∧Q r0 r1 S'
def vJ (S:Mem) (x0:Pt) (x1:Int) (x2:Int) (x3:Int) (Q:Int→Mem→Prop):Prop:=
 Tr prog 210 S [eP x0,.int .i64 x1,.int .i64 x2,.int .i64 x3] fun v S'=>∃ r0:Int,v=.int .i64 r0∧Q r0 S'
def kX (S:Mem) (x0:Pt) (x1:Int) (x2:Int) (Q:Int→Mem→Prop):Prop:=
 Tr prog 211 S [eP x0,.int .i64 x1,.int .i64 x2] fun v S'=>∃ r0:Int,v=.int .i64 r0∧Q r0 S'
def wo (S:Mem) (x0:Pt) (x1:Int) (x2:Int) (Q:Int→Mem→Prop):Prop:=
 Tr prog 212 S [eP x0,.int .i64 x1,.int .i64 x2] fun v S'=>∃ r0:Int,v=.int .i64 r0∧Q r0 S'
def jS (S:Mem) (x0:Pt) (x1:Int) (x2:Int) (Q:Int→Mem→Prop):Prop:=
 Tr prog 213 S [eP x0,.int .i64 x1,.int .i64 x2] fun v S'=>∃ r0:Int,v=.int .i64 r0∧Q r0 S'
def gT (S:Mem) (x0:Pt) (x1:Int) (x2:Int) (Q:Int→Mem→Prop):Prop:=
 Tr prog 214 S [eP x0,.int .i64 x1,.int .i64 x2] fun v S'=>∃ r0:Int,v=.int .i64 r0∧Q r0 S'
def jR (S:Mem) (x0:Pt) (x1:Int) (x2:Int) (x3:Int) (Q:Int→Mem→Prop):Prop:=
 Tr prog 215 S [eP x0,.int .i64 x1,.int .i64 x2,.int .i64 x3] fun v S'=>∃ r0:Int,v=.int .i64 r0∧Q r0 S'
def jP (S:Mem) (x0:Pt) (x1:Int) (x2:Int) (x3:Int) (Q:Int→Mem→Prop):Prop:=
 Tr prog 216 S [eP x0,.int .i64 x1,.int .i64 x2,.int .i64 x3] fun v S'=>∃ r0:Int,v=.int .i64 r0∧Q r0 S'
def zbx (S:Mem) (x0:List Value) (x1:Pt) (x2:Pt) (Q:Bool→Mem→Prop):Prop:=
 Tr prog 226 S [valL x0,eP x1,eP x2] fun v S'=>∃ r0:Bool,v=.bool r0∧Q r0 S'
def zbJ (S:Mem) (x0:List Value) (x1:Pt) (x2:Pt) (Q:Bool→Mem→Prop):Prop:=
 Tr prog 227 S [valL x0,eP x1,eP x2] fun v S'=>∃ r0:Bool,v=.bool r0∧Q r0 S'
def zU (S:Mem) (x0:Sl) (x1:Value) (Q:Int→Mem→Prop):Prop:=
 Tr prog 228 S [eL x0,x1] fun v S'=>∃ r0:Int,v=.int .i64 r0∧Q r0 S'
def zcw (S:Mem) (x0:Int) (Q:Int→Mem→Prop):Prop:=
 Tr prog 229 S [.int .u64 x0] fun v S'=>∃ r0:Int,v=.int .i64 r0∧Q r0 S'
def zdf (S:Mem) (x0:List Value) (Q:Bool→Mem→Prop):Prop:=
 Tr prog 230 S [valL x0] fun v S'=>∃ r0:Bool,v=.bool r0∧Q r0 S'
def zdi (S:Mem) (x0:Int) (x1:Int) (Q:Int→Int→Mem→Prop):Prop:=
 Tr prog 231 S [.int .u64 x0,.int .u64 x1] fun v S'=>∃ r0:Int,∃ r1:Int,v=.tuple #[.int .u64 r0,.int .u64 r1]∧Q r0 r1 S'
def vd (S:Mem) (x0:Int) (x1:Int) (Q:Int→Mem→Prop):Prop:=
 Tr prog 232 S [.int .u64 x0,.int .i64 x1] fun v S'=>∃ r0:Int,v=.int .u64 r0∧Q r0 S'
def vA (S:Mem) (x0:Pt) (x1:Int) (x2:Int) (Q:Int→Int→Mem→Prop):Prop:=
 Tr prog 233 S [eP x0,.int .i64 x1,.int .i64 x2] fun v S'=>∃ r0:Int,∃ r1:Int,v=.tuple #[.int .i64 r0,.int .i64 r1]∧Q r0 r1 S'
def vG (S:Mem) (x0:List Value) (x1:Int) (x2:Int) (x3:Int) (x4:Bool) (Q:List Value→Int→Int→Mem→Prop):Prop:=
 Tr prog 234 S [valL x0,.int .i64 x1,.int .i64 x2,.int .i64 x3,.bool x4] fun v S'=>∃ r0:List Value,∃ r1:Int,∃ r2:Int,v=.tuple #[valL r0,.int .i64 r1,.int .i64 r2]∧r0.length=96∧Q r0 r1 r2 S'
def vF (S:Mem) (x0:Pt) (x1:Int) (x2:Int) (Q:Int→Mem→Prop):Prop:=
 Tr prog 235 S [eP x0,.int .i64 x1,.int .i64 x2] fun v S'=>∃ r0:Int,v=.int .i64 r0∧Q r0 S'
def va (S:Mem) (x0:List Value) (x1:Int) (x2:Int) (x3:Int) (Q:List Value→Int→Mem→Prop):Prop:=
 Tr prog 236 S [valL x0,.int .i64 x1,.int .i64 x2,.int .i64 x3] fun v S'=>∃ r0:List Value,∃ r1:Int,v=.tuple #[valL r0,.int .i64 r1]∧r0.length=96∧Q r0 r1 S'
def xE (S:Mem) (x0:List Value) (x1:Int) (x2:Int) (Q:List Value→Int→Mem→Prop):Prop:=
 Tr prog 237 S [valL x0,.int .i64 x1,.int .i64 x2] fun v S'=>∃ r0:List Value,∃ r1:Int,v=.tuple #[valL r0,.int .i64 r1]∧r0.length=96∧Q r0 r1 S'
def yq (S:Mem) (x0:List Value) (x1:Int) (x2:Int) (Q:List Value→Int→Mem→Prop):Prop:=
 Tr prog 238 S [valL x0,.int .i64 x1,.int .i64 x2] fun v S'=>∃ r0:List Value,∃ r1:Int,v=.tuple #[valL r0,.int .i64 r1]∧r0.length=96∧Q r0 r1 S'
def kR (S:Mem) (x0:List Value) (x1:Int) (x2:Int) (Q:Bool→Mem→Prop):Prop:=
 Tr prog 239 S [valL x0,.int .i64 x1,.int .i64 x2] fun v S'=>∃ r0:Bool,v=.bool r0∧Q r0 S'
def kY (S:Mem) (x0:Pt) (x1:Int) (Q:Int→Mem→Prop):Prop:=
 Tr prog 240 S [eP x0,.int .i64 x1] fun v S'=>∃ r0:Int,v=.int .i64 r0∧Q r0 S'
def gQ (S:Mem) (x0:List Value) (x1:Int) (x2:Int) (x3:Sl) (Q:Int→Mem→Prop):Prop:=
 Tr prog 241 S [valL x0,.int .i64 x1,.int .i64 x2,eL x3] fun v S'=>∃ r0:Int,v=.int .i64 r0∧Q r0 S'
def gR (S:Mem) (x0:List Value) (x1:Int) (x2:Int) (x3:Int) (Q:Sl→Int→Mem→Prop):Prop:=
 Tr prog 242 S [valL x0,.int .i64 x1,.int .i64 x2,.int .i64 x3] fun v S'=>∃ r0:Sl,∃ r1:Int,v=.tuple #[eL r0,.int .i64 r1]∧Q r0 r1 S'
def kw (S:Mem) (x0:Int) (Q:Int→Mem→Prop):Prop:=
 Tr prog 244 S [.int .u64 x0] fun v S'=>∃ r0:Int,v=.int .i64 r0∧Q r0 S'
def gX (S:Mem) (x0:Bool) (x1:Int) (Q:Bool→Mem→Prop):Prop:=
 Tr prog 245 S [.bool x0,.int .u8 x1] fun v S'=>∃ r0:Bool,v=.bool r0∧Q r0 S'
def kQ (S:Mem) (x0:Int) (x1:Int) (Q:Bool→Mem→Prop):Prop:=
 Tr prog 246 S [.int .i64 x0,.int .i64 x1] fun v S'=>∃ r0:Bool,v=.bool r0∧Q r0 S'
def kA (S:Mem) (x0:List Value) (x1:Int) (Q:List Value→Int→Mem→Prop):Prop:=
 Tr prog 247 S [valL x0,.int .i64 x1] fun v S'=>∃ r0:List Value,∃ r1:Int,v=.tuple #[valL r0,.int .i64 r1]∧r0.length=3∧Q r0 r1 S'
def vK (S:Mem) (x0:Pt) (x1:Int) (x2:Int) (Q:List Value→Bool→Mem→Prop):Prop:=
 Tr prog 248 S [eP x0,.int .i64 x1,.int .i64 x2] fun v S'=>∃ r0:List Value,∃ r1:Bool,v=.tuple #[valL r0,.bool r1]∧r0.length=3∧Q r0 r1 S'
def jc (S:Mem) (x0:Pt) (x1:Int) (x2:Int) (x3:List Value) (Q:Mem→Prop):Prop:=
 Tr prog 249 S [eP x0,.int .i64 x1,.int .i64 x2,valL x3] fun v S'=>v=.tuple #[]∧Q S'
def zgZ (S:Mem) (x0:Sl) (Q:Int→Mem→Prop):Prop:=
 Tr prog 268 S [eL x0] fun v S'=>∃ r0:Int,v=.int .i64 r0∧Q r0 S'
def zaY (S:Mem) (x0:Sl) (x1:Int) (x2:Int) (Q:Bool→Mem→Prop):Prop:=
 Tr prog 269 S [eL x0,.int .i64 x1,.int .i64 x2] fun v S'=>∃ r0:Bool,v=.bool r0∧Q r0 S'
def zaX (S:Mem) (x0:Sl) (x1:Int) (x2:Int) (Q:Mem→Prop):Prop:=
 Tr prog 270 S [eL x0,.int .i64 x1,.int .i64 x2] fun v S'=>v=.tuple #[]∧Q S'
def zgY (S:Mem) (x0:Pt) (Q:Value→Mem→Prop):Prop:=
 Tr prog 271 S [eP x0] fun v S'=>∃ r0:Value,v=r0∧Q r0 S'
def zfG (S:Mem) (x0:Pt) (x1:Value) (Q:Mem→Prop):Prop:=
 Tr prog 272 S [eP x0,x1] fun v S'=>v=.tuple #[]∧Q S'
def zgB (S:Mem) (x0:Sl) (Q:Int→Mem→Prop):Prop:=
 Tr prog 273 S [eL x0] fun v S'=>∃ r0:Int,v=.int .i64 r0∧Q r0 S'
def zaS (S:Mem) (x0:Sl) (x1:Int) (x2:Int) (Q:Bool→Mem→Prop):Prop:=
 Tr prog 274 S [eL x0,.int .i64 x1,.int .i64 x2] fun v S'=>∃ r0:Bool,v=.bool r0∧Q r0 S'
def zaR (S:Mem) (x0:Sl) (x1:Int) (x2:Int) (Q:Mem→Prop):Prop:=
 Tr prog 275 S [eL x0,.int .i64 x1,.int .i64 x2] fun v S'=>v=.tuple #[]∧Q S'
def zgA (S:Mem) (x0:Pt) (Q:Value→Mem→Prop):Prop:=
 Tr prog 276 S [eP x0] fun v S'=>∃ r0:Value,v=r0∧Q r0 S'
def zfC (S:Mem) (x0:Pt) (x1:Value) (Q:Mem→Prop):Prop:=
 Tr prog 277 S [eP x0,x1] fun v S'=>v=.tuple #[]∧Q S'
instance:EqT prog 68 [.i .u8,.i .i64,.i .i64,.i .i64]:=⟨by kernel_rfl,by kernel_rfl,by kernel_rfl⟩
instance:EqT prog 241 [.i .i64,.i .i64]:=⟨by kernel_rfl,by kernel_rfl,by kernel_rfl⟩
instance:BoolT prog 4:=⟨by kernel_rfl⟩
instance:IfaceT prog 247:=⟨⟨_,underlying247⟩⟩
end
end Go.Proofs.YthaiblbnpcgjpaaGreatDoor
