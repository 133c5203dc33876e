/- PRINTED BY inst.py (a program of this work): what the engine asks of this dump's types and functions. -/
import Derived.Test.YtpilffakhkagjaaDoorPtB
import Derived.Test.YtpilffakhkagjaaDoorProg
namespace Go.Proofs.YtpilffakhkagjaaDoor
open Go Go.Pt
instance : ScalarT Tryd.prog 1 := ⟨fun _ => by kernel_rfl⟩
instance : SizeT Tryd.prog 1 1 := ⟨fun _ => by kernel_rfl⟩
instance : ZeroT Tryd.prog 1 [.nilFunc] := ⟨fun _ => ⟨.nilFunc, rfl, by kernel_rfl⟩⟩
instance : ScalarT Tryd.prog 2 := ⟨fun _ => by kernel_rfl⟩
instance : SizeT Tryd.prog 2 1 := ⟨fun _ => by kernel_rfl⟩
instance : ZeroT Tryd.prog 2 [.int .i64 0] := ⟨fun _ => ⟨.int .i64 0, rfl, by kernel_rfl⟩⟩
instance : ScalarT Tryd.prog 3 := ⟨fun _ => by kernel_rfl⟩
instance : SizeT Tryd.prog 3 1 := ⟨fun _ => by kernel_rfl⟩
instance : ZeroT Tryd.prog 3 [.int .i64 0] := ⟨fun _ => ⟨.int .i64 0, rfl, by kernel_rfl⟩⟩
instance : ScalarT Tryd.prog 4 := ⟨fun _ => by kernel_rfl⟩
instance : SizeT Tryd.prog 4 1 := ⟨fun _ => by kernel_rfl⟩
instance : ZeroT Tryd.prog 4 [.bool false] := ⟨fun _ => ⟨.bool false, rfl, by kernel_rfl⟩⟩
instance : ScalarT Tryd.prog 5 := ⟨fun _ => by kernel_rfl⟩
instance : SizeT Tryd.prog 5 1 := ⟨fun _ => by kernel_rfl⟩
instance : ZeroT Tryd.prog 5 [.int .u8 0] := ⟨fun _ => ⟨.int .u8 0, rfl, by kernel_rfl⟩⟩
instance : ScalarT Tryd.prog 6 := ⟨fun _ => by kernel_rfl⟩
instance : SizeT Tryd.prog 6 1 := ⟨fun _ => by kernel_rfl⟩
instance : ZeroT Tryd.prog 6 [.int .u8 0] := ⟨fun _ => ⟨.int .u8 0, rfl, by kernel_rfl⟩⟩
instance : AggT Tryd.prog 7 4 := ⟨fun _ => by kernel_rfl⟩
instance : SizeT Tryd.prog 7 4 := ⟨fun _ => by kernel_rfl⟩
abbrev z7 : List Value := [.int .i64 0, .int .i64 0, .bool false, .int .u8 0]
instance : ZeroT Tryd.prog 7 [.int .i64 0, .int .i64 0, .bool false, .int .u8 0] := ⟨fun _ => ⟨valL z7, rfl, by kernel_rfl⟩⟩
instance : FieldT Tryd.prog 7 0 0 2 := ⟨⟨_, Tryd.underlying7, _, rfl, rfl, rfl⟩, ⟨1, by decide, fun _ => by kernel_rfl⟩⟩
instance : FieldT Tryd.prog 7 1 1 3 := ⟨⟨_, Tryd.underlying7, _, rfl, rfl, rfl⟩, ⟨1, by decide, fun _ => by kernel_rfl⟩⟩
instance : FieldT Tryd.prog 7 2 2 4 := ⟨⟨_, Tryd.underlying7, _, rfl, rfl, rfl⟩, ⟨1, by decide, fun _ => by kernel_rfl⟩⟩
instance : FieldT Tryd.prog 7 3 3 6 := ⟨⟨_, Tryd.underlying7, _, rfl, rfl, rfl⟩, ⟨1, by decide, fun _ => by kernel_rfl⟩⟩
instance : StructT Tryd.prog 7 (fun i => (#[(0, 1), (1, 1), (2, 1), (3, 1)] : Array (Nat × Nat))[i]?) [.int .i64 0, .int .i64 0, .bool false, .int .u8 0] := structT_mk Tryd.underlying7 (fun _ => by kernel_rfl)
instance : AggT Tryd.prog 8 4 := ⟨fun _ => by kernel_rfl⟩
instance : SizeT Tryd.prog 8 4 := ⟨fun _ => by kernel_rfl⟩
abbrev z8 : List Value := [.int .i64 0, .int .i64 0, .bool false, .int .u8 0]
instance : ZeroT Tryd.prog 8 [.int .i64 0, .int .i64 0, .bool false, .int .u8 0] := ⟨fun _ => ⟨valL z8, rfl, by kernel_rfl⟩⟩
instance : FieldT Tryd.prog 8 0 0 2 := ⟨⟨_, Tryd.underlying8, _, rfl, rfl, rfl⟩, ⟨1, by decide, fun _ => by kernel_rfl⟩⟩
instance : FieldT Tryd.prog 8 1 1 3 := ⟨⟨_, Tryd.underlying8, _, rfl, rfl, rfl⟩, ⟨1, by decide, fun _ => by kernel_rfl⟩⟩
instance : FieldT Tryd.prog 8 2 2 4 := ⟨⟨_, Tryd.underlying8, _, rfl, rfl, rfl⟩, ⟨1, by decide, fun _ => by kernel_rfl⟩⟩
instance : FieldT Tryd.prog 8 3 3 6 := ⟨⟨_, Tryd.underlying8, _, rfl, rfl, rfl⟩, ⟨1, by decide, fun _ => by kernel_rfl⟩⟩
instance : StructT Tryd.prog 8 (fun i => (#[(0, 1), (1, 1), (2, 1), (3, 1)] : Array (Nat × Nat))[i]?) [.int .i64 0, .int .i64 0, .bool false, .int .u8 0] := structT_mk Tryd.underlying8 (fun _ => by kernel_rfl)
instance : ScalarT Tryd.prog 9 := ⟨fun _ => by kernel_rfl⟩
instance : SizeT Tryd.prog 9 1 := ⟨fun _ => by kernel_rfl⟩
instance : ZeroT Tryd.prog 9 [.string ⟨#[]⟩] := ⟨fun _ => ⟨.string ⟨#[]⟩, rfl, by kernel_rfl⟩⟩
instance : ScalarT Tryd.prog 10 := ⟨fun _ => by kernel_rfl⟩
instance : SizeT Tryd.prog 10 1 := ⟨fun _ => by kernel_rfl⟩
instance : ZeroT Tryd.prog 10 [.string ⟨#[]⟩] := ⟨fun _ => ⟨.string ⟨#[]⟩, rfl, by kernel_rfl⟩⟩
instance : ScalarT Tryd.prog 11 := ⟨fun _ => by kernel_rfl⟩
instance : SizeT Tryd.prog 11 1 := ⟨fun _ => by kernel_rfl⟩
instance : ZeroT Tryd.prog 11 [.string ⟨#[]⟩] := ⟨fun _ => ⟨.string ⟨#[]⟩, rfl, by kernel_rfl⟩⟩
instance : ScalarT Tryd.prog 12 := ⟨fun _ => by kernel_rfl⟩
instance : SizeT Tryd.prog 12 1 := ⟨fun _ => by kernel_rfl⟩
instance : ZeroT Tryd.prog 12 [.int .u64 0] := ⟨fun _ => ⟨.int .u64 0, rfl, by kernel_rfl⟩⟩
instance : AggT Tryd.prog 13 2 := ⟨fun _ => by kernel_rfl⟩
instance : SizeT Tryd.prog 13 2 := ⟨fun _ => by kernel_rfl⟩
abbrev z13 : List Value := [.string ⟨#[]⟩, .int .u64 0]
instance : ZeroT Tryd.prog 13 [.string ⟨#[]⟩, .int .u64 0] := ⟨fun _ => ⟨valL z13, rfl, by kernel_rfl⟩⟩
instance : FieldT Tryd.prog 13 0 0 9 := ⟨⟨_, Tryd.underlying13, _, rfl, rfl, rfl⟩, ⟨1, by decide, fun _ => by kernel_rfl⟩⟩
instance : FieldT Tryd.prog 13 1 1 12 := ⟨⟨_, Tryd.underlying13, _, rfl, rfl, rfl⟩, ⟨1, by decide, fun _ => by kernel_rfl⟩⟩
instance : StructT Tryd.prog 13 (fun i => (#[(0, 1), (1, 1)] : Array (Nat × Nat))[i]?) [.string ⟨#[]⟩, .int .u64 0] := structT_mk Tryd.underlying13 (fun _ => by kernel_rfl)
instance : AggT Tryd.prog 14 2 := ⟨fun _ => by kernel_rfl⟩
instance : SizeT Tryd.prog 14 2 := ⟨fun _ => by kernel_rfl⟩
abbrev z14 : List Value := [.string ⟨#[]⟩, .int .u64 0]
instance : ZeroT Tryd.prog 14 [.string ⟨#[]⟩, .int .u64 0] := ⟨fun _ => ⟨valL z14, rfl, by kernel_rfl⟩⟩
instance : FieldT Tryd.prog 14 0 0 9 := ⟨⟨_, Tryd.underlying14, _, rfl, rfl, rfl⟩, ⟨1, by decide, fun _ => by kernel_rfl⟩⟩
instance : FieldT Tryd.prog 14 1 1 12 := ⟨⟨_, Tryd.underlying14, _, rfl, rfl, rfl⟩, ⟨1, by decide, fun _ => by kernel_rfl⟩⟩
instance : StructT Tryd.prog 14 (fun i => (#[(0, 1), (1, 1)] : Array (Nat × Nat))[i]?) [.string ⟨#[]⟩, .int .u64 0] := structT_mk Tryd.underlying14 (fun _ => by kernel_rfl)
instance : ScalarT Tryd.prog 15 := ⟨fun _ => by kernel_rfl⟩
instance : SizeT Tryd.prog 15 1 := ⟨fun _ => by kernel_rfl⟩
instance : ZeroT Tryd.prog 15 [.pointer none] := ⟨fun _ => ⟨.pointer none, rfl, by kernel_rfl⟩⟩
instance : ScalarT Tryd.prog 16 := ⟨fun _ => by kernel_rfl⟩
instance : SizeT Tryd.prog 16 1 := ⟨fun _ => by kernel_rfl⟩
instance : ZeroT Tryd.prog 16 [.pointer none] := ⟨fun _ => ⟨.pointer none, rfl, by kernel_rfl⟩⟩
instance : ScalarT Tryd.prog 17 := ⟨fun _ => by kernel_rfl⟩
instance : SizeT Tryd.prog 17 1 := ⟨fun _ => by kernel_rfl⟩
instance : ZeroT Tryd.prog 17 [.pointer none] := ⟨fun _ => ⟨.pointer none, rfl, by kernel_rfl⟩⟩
instance : AggT Tryd.prog 18 1 := ⟨fun _ => by kernel_rfl⟩
instance : SizeT Tryd.prog 18 1 := ⟨fun _ => by kernel_rfl⟩
abbrev z18 : List Value := [.pointer none]
instance : ZeroT Tryd.prog 18 [.pointer none] := ⟨fun _ => ⟨valL z18, rfl, by kernel_rfl⟩⟩
instance : FieldT Tryd.prog 18 0 0 17 := ⟨⟨_, Tryd.underlying18, _, rfl, rfl, rfl⟩, ⟨1, by decide, fun _ => by kernel_rfl⟩⟩
instance : StructT Tryd.prog 18 (fun i => (#[(0, 1)] : Array (Nat × Nat))[i]?) [.pointer none] := structT_mk Tryd.underlying18 (fun _ => by kernel_rfl)
instance : AggT Tryd.prog 19 1 := ⟨fun _ => by kernel_rfl⟩
instance : SizeT Tryd.prog 19 1 := ⟨fun _ => by kernel_rfl⟩
abbrev z19 : List Value := [.pointer none]
instance : ZeroT Tryd.prog 19 [.pointer none] := ⟨fun _ => ⟨valL z19, rfl, by kernel_rfl⟩⟩
instance : FieldT Tryd.prog 19 0 0 17 := ⟨⟨_, Tryd.underlying19, _, rfl, rfl, rfl⟩, ⟨1, by decide, fun _ => by kernel_rfl⟩⟩
instance : StructT Tryd.prog 19 (fun i => (#[(0, 1)] : Array (Nat × Nat))[i]?) [.pointer none] := structT_mk Tryd.underlying19 (fun _ => by kernel_rfl)
instance : ScalarT Tryd.prog 20 := ⟨fun _ => by kernel_rfl⟩
instance : SizeT Tryd.prog 20 1 := ⟨fun _ => by kernel_rfl⟩
instance : ZeroT Tryd.prog 20 [.nilIface] := ⟨fun _ => ⟨.nilIface, rfl, by kernel_rfl⟩⟩
instance : ScalarT Tryd.prog 21 := ⟨fun _ => by kernel_rfl⟩
instance : SizeT Tryd.prog 21 1 := ⟨fun _ => by kernel_rfl⟩
instance : ZeroT Tryd.prog 21 [.int .i32 0] := ⟨fun _ => ⟨.int .i32 0, rfl, by kernel_rfl⟩⟩
instance : ScalarT Tryd.prog 22 := ⟨fun _ => by kernel_rfl⟩
instance : SizeT Tryd.prog 22 1 := ⟨fun _ => by kernel_rfl⟩
instance : ZeroT Tryd.prog 22 [.int .i16 0] := ⟨fun _ => ⟨.int .i16 0, rfl, by kernel_rfl⟩⟩
instance : AggT Tryd.prog 23 5 := ⟨fun _ => by kernel_rfl⟩
instance : SizeT Tryd.prog 23 5 := ⟨fun _ => by kernel_rfl⟩
abbrev z23 : List Value := [.int .u8 0, .int .u8 0, .int .u8 0, .int .u8 0, .int .i16 0]
instance : ZeroT Tryd.prog 23 [.int .u8 0, .int .u8 0, .int .u8 0, .int .u8 0, .int .i16 0] := ⟨fun _ => ⟨valL z23, rfl, by kernel_rfl⟩⟩
instance : FieldT Tryd.prog 23 0 0 5 := ⟨⟨_, Tryd.underlying23, _, rfl, rfl, rfl⟩, ⟨1, by decide, fun _ => by kernel_rfl⟩⟩
instance : FieldT Tryd.prog 23 1 1 5 := ⟨⟨_, Tryd.underlying23, _, rfl, rfl, rfl⟩, ⟨1, by decide, fun _ => by kernel_rfl⟩⟩
instance : FieldT Tryd.prog 23 2 2 5 := ⟨⟨_, Tryd.underlying23, _, rfl, rfl, rfl⟩, ⟨1, by decide, fun _ => by kernel_rfl⟩⟩
instance : FieldT Tryd.prog 23 3 3 5 := ⟨⟨_, Tryd.underlying23, _, rfl, rfl, rfl⟩, ⟨1, by decide, fun _ => by kernel_rfl⟩⟩
instance : FieldT Tryd.prog 23 4 4 22 := ⟨⟨_, Tryd.underlying23, _, rfl, rfl, rfl⟩, ⟨1, by decide, fun _ => by kernel_rfl⟩⟩
instance : StructT Tryd.prog 23 (fun i => (#[(0, 1), (1, 1), (2, 1), (3, 1), (4, 1)] : Array (Nat × Nat))[i]?) [.int .u8 0, .int .u8 0, .int .u8 0, .int .u8 0, .int .i16 0] := structT_mk Tryd.underlying23 (fun _ => by kernel_rfl)
instance : AggT Tryd.prog 24 5 := ⟨fun _ => by kernel_rfl⟩
instance : SizeT Tryd.prog 24 5 := ⟨fun _ => by kernel_rfl⟩
abbrev z24 : List Value := [.int .u8 0, .int .u8 0, .int .u8 0, .int .u8 0, .int .i16 0]
instance : ZeroT Tryd.prog 24 [.int .u8 0, .int .u8 0, .int .u8 0, .int .u8 0, .int .i16 0] := ⟨fun _ => ⟨valL z24, rfl, by kernel_rfl⟩⟩
instance : FieldT Tryd.prog 24 0 0 5 := ⟨⟨_, Tryd.underlying24, _, rfl, rfl, rfl⟩, ⟨1, by decide, fun _ => by kernel_rfl⟩⟩
instance : FieldT Tryd.prog 24 1 1 5 := ⟨⟨_, Tryd.underlying24, _, rfl, rfl, rfl⟩, ⟨1, by decide, fun _ => by kernel_rfl⟩⟩
instance : FieldT Tryd.prog 24 2 2 5 := ⟨⟨_, Tryd.underlying24, _, rfl, rfl, rfl⟩, ⟨1, by decide, fun _ => by kernel_rfl⟩⟩
instance : FieldT Tryd.prog 24 3 3 5 := ⟨⟨_, Tryd.underlying24, _, rfl, rfl, rfl⟩, ⟨1, by decide, fun _ => by kernel_rfl⟩⟩
instance : FieldT Tryd.prog 24 4 4 22 := ⟨⟨_, Tryd.underlying24, _, rfl, rfl, rfl⟩, ⟨1, by decide, fun _ => by kernel_rfl⟩⟩
instance : StructT Tryd.prog 24 (fun i => (#[(0, 1), (1, 1), (2, 1), (3, 1), (4, 1)] : Array (Nat × Nat))[i]?) [.int .u8 0, .int .u8 0, .int .u8 0, .int .u8 0, .int .i16 0] := structT_mk Tryd.underlying24 (fun _ => by kernel_rfl)
instance : ScalarT Tryd.prog 25 := ⟨fun _ => by kernel_rfl⟩
instance : SizeT Tryd.prog 25 1 := ⟨fun _ => by kernel_rfl⟩
instance : ZeroT Tryd.prog 25 [.nilFunc] := ⟨fun _ => ⟨.nilFunc, rfl, by kernel_rfl⟩⟩
instance : ScalarT Tryd.prog 26 := ⟨fun _ => by kernel_rfl⟩
instance : SizeT Tryd.prog 26 1 := ⟨fun _ => by kernel_rfl⟩
instance : ZeroT Tryd.prog 26 [.nilFunc] := ⟨fun _ => ⟨.nilFunc, rfl, by kernel_rfl⟩⟩
instance : ScalarT Tryd.prog 27 := ⟨fun _ => by kernel_rfl⟩
instance : SizeT Tryd.prog 27 1 := ⟨fun _ => by kernel_rfl⟩
instance : ZeroT Tryd.prog 27 [.nilFunc] := ⟨fun _ => ⟨.nilFunc, rfl, by kernel_rfl⟩⟩
instance : ScalarT Tryd.prog 28 := ⟨fun _ => by kernel_rfl⟩
instance : SizeT Tryd.prog 28 1 := ⟨fun _ => by kernel_rfl⟩
instance : ZeroT Tryd.prog 28 [.int .i64 0] := ⟨fun _ => ⟨.int .i64 0, rfl, by kernel_rfl⟩⟩
instance : ScalarT Tryd.prog 30 := ⟨fun _ => by kernel_rfl⟩
instance : SizeT Tryd.prog 30 1 := ⟨fun _ => by kernel_rfl⟩
instance : ZeroT Tryd.prog 30 [.nilFunc] := ⟨fun _ => ⟨.nilFunc, rfl, by kernel_rfl⟩⟩
instance : ScalarT Tryd.prog 31 := ⟨fun _ => by kernel_rfl⟩
instance : SizeT Tryd.prog 31 1 := ⟨fun _ => by kernel_rfl⟩
instance : ZeroT Tryd.prog 31 [.nilFunc] := ⟨fun _ => ⟨.nilFunc, rfl, by kernel_rfl⟩⟩
instance : ScalarT Tryd.prog 32 := ⟨fun _ => by kernel_rfl⟩
instance : SizeT Tryd.prog 32 1 := ⟨fun _ => by kernel_rfl⟩
instance : ZeroT Tryd.prog 32 [.nilFunc] := ⟨fun _ => ⟨.nilFunc, rfl, by kernel_rfl⟩⟩
instance : ScalarT Tryd.prog 33 := ⟨fun _ => by kernel_rfl⟩
instance : SizeT Tryd.prog 33 1 := ⟨fun _ => by kernel_rfl⟩
instance : ZeroT Tryd.prog 33 [.nilFunc] := ⟨fun _ => ⟨.nilFunc, rfl, by kernel_rfl⟩⟩
instance : ScalarT Tryd.prog 34 := ⟨fun _ => by kernel_rfl⟩
instance : SizeT Tryd.prog 34 1 := ⟨fun _ => by kernel_rfl⟩
instance : ZeroT Tryd.prog 34 [.slice none 0 0] := ⟨fun _ => ⟨.slice none 0 0, rfl, by kernel_rfl⟩⟩
instance : SliceT Tryd.prog 34 5 1 := ⟨by kernel_rfl, fun _ => by kernel_rfl⟩
instance : ScalarT Tryd.prog 35 := ⟨fun _ => by kernel_rfl⟩
instance : SizeT Tryd.prog 35 1 := ⟨fun _ => by kernel_rfl⟩
instance : ZeroT Tryd.prog 35 [.slice none 0 0] := ⟨fun _ => ⟨.slice none 0 0, rfl, by kernel_rfl⟩⟩
instance : SliceT Tryd.prog 35 9 1 := ⟨by kernel_rfl, fun _ => by kernel_rfl⟩
instance : ScalarT Tryd.prog 36 := ⟨fun _ => by kernel_rfl⟩
instance : SizeT Tryd.prog 36 1 := ⟨fun _ => by kernel_rfl⟩
instance : ZeroT Tryd.prog 36 [.nilFunc] := ⟨fun _ => ⟨.nilFunc, rfl, by kernel_rfl⟩⟩
instance : ScalarT Tryd.prog 37 := ⟨fun _ => by kernel_rfl⟩
instance : SizeT Tryd.prog 37 1 := ⟨fun _ => by kernel_rfl⟩
instance : ZeroT Tryd.prog 37 [.int .u32 0] := ⟨fun _ => ⟨.int .u32 0, rfl, by kernel_rfl⟩⟩
instance : ScalarT Tryd.prog 38 := ⟨fun _ => by kernel_rfl⟩
instance : SizeT Tryd.prog 38 1 := ⟨fun _ => by kernel_rfl⟩
instance : ZeroT Tryd.prog 38 [.int .u64 0] := ⟨fun _ => ⟨.int .u64 0, rfl, by kernel_rfl⟩⟩
instance : ScalarT Tryd.prog 40 := ⟨fun _ => by kernel_rfl⟩
instance : SizeT Tryd.prog 40 1 := ⟨fun _ => by kernel_rfl⟩
instance : ZeroT Tryd.prog 40 [.nilFunc] := ⟨fun _ => ⟨.nilFunc, rfl, by kernel_rfl⟩⟩
instance : ScalarT Tryd.prog 41 := ⟨fun _ => by kernel_rfl⟩
instance : SizeT Tryd.prog 41 1 := ⟨fun _ => by kernel_rfl⟩
instance : ZeroT Tryd.prog 41 [.nilFunc] := ⟨fun _ => ⟨.nilFunc, rfl, by kernel_rfl⟩⟩
instance : ScalarT Tryd.prog 42 := ⟨fun _ => by kernel_rfl⟩
instance : SizeT Tryd.prog 42 1 := ⟨fun _ => by kernel_rfl⟩
instance : ZeroT Tryd.prog 42 [.slice none 0 0] := ⟨fun _ => ⟨.slice none 0 0, rfl, by kernel_rfl⟩⟩
instance : SliceT Tryd.prog 42 24 5 := ⟨by kernel_rfl, fun _ => by kernel_rfl⟩
instance : ScalarT Tryd.prog 44 := ⟨fun _ => by kernel_rfl⟩
instance : SizeT Tryd.prog 44 1 := ⟨fun _ => by kernel_rfl⟩
instance : ZeroT Tryd.prog 44 [.nilFunc] := ⟨fun _ => ⟨.nilFunc, rfl, by kernel_rfl⟩⟩
instance : ScalarT Tryd.prog 45 := ⟨fun _ => by kernel_rfl⟩
instance : SizeT Tryd.prog 45 1 := ⟨fun _ => by kernel_rfl⟩
instance : ZeroT Tryd.prog 45 [.nilFunc] := ⟨fun _ => ⟨.nilFunc, rfl, by kernel_rfl⟩⟩
instance : ScalarT Tryd.prog 46 := ⟨fun _ => by kernel_rfl⟩
instance : SizeT Tryd.prog 46 1 := ⟨fun _ => by kernel_rfl⟩
instance : ZeroT Tryd.prog 46 [.nilFunc] := ⟨fun _ => ⟨.nilFunc, rfl, by kernel_rfl⟩⟩
instance : ScalarT Tryd.prog 47 := ⟨fun _ => by kernel_rfl⟩
instance : SizeT Tryd.prog 47 1 := ⟨fun _ => by kernel_rfl⟩
instance : ZeroT Tryd.prog 47 [.nilFunc] := ⟨fun _ => ⟨.nilFunc, rfl, by kernel_rfl⟩⟩
instance : ScalarT Tryd.prog 48 := ⟨fun _ => by kernel_rfl⟩
instance : SizeT Tryd.prog 48 1 := ⟨fun _ => by kernel_rfl⟩
instance : ZeroT Tryd.prog 48 [.nilFunc] := ⟨fun _ => ⟨.nilFunc, rfl, by kernel_rfl⟩⟩
instance : AggT Tryd.prog 49 23 := ⟨fun _ => by kernel_rfl⟩
instance : SizeT Tryd.prog 49 23 := ⟨fun _ => by kernel_rfl⟩
abbrev z49 : List Value := [.string ⟨#[]⟩, .string ⟨#[]⟩, .string ⟨#[]⟩, .string ⟨#[]⟩, .string ⟨#[]⟩, .string ⟨#[]⟩, .string ⟨#[]⟩, .string ⟨#[]⟩, .string ⟨#[]⟩, .string ⟨#[]⟩, .string ⟨#[]⟩, .string ⟨#[]⟩, .string ⟨#[]⟩, .string ⟨#[]⟩, .string ⟨#[]⟩, .string ⟨#[]⟩, .string ⟨#[]⟩, .string ⟨#[]⟩, .string ⟨#[]⟩, .string ⟨#[]⟩, .string ⟨#[]⟩, .string ⟨#[]⟩, .string ⟨#[]⟩]
instance : ZeroT Tryd.prog 49 [.string ⟨#[]⟩, .string ⟨#[]⟩, .string ⟨#[]⟩, .string ⟨#[]⟩, .string ⟨#[]⟩, .string ⟨#[]⟩, .string ⟨#[]⟩, .string ⟨#[]⟩, .string ⟨#[]⟩, .string ⟨#[]⟩, .string ⟨#[]⟩, .string ⟨#[]⟩, .string ⟨#[]⟩, .string ⟨#[]⟩, .string ⟨#[]⟩, .string ⟨#[]⟩, .string ⟨#[]⟩, .string ⟨#[]⟩, .string ⟨#[]⟩, .string ⟨#[]⟩, .string ⟨#[]⟩, .string ⟨#[]⟩, .string ⟨#[]⟩] := ⟨fun _ => ⟨valL z49, rfl, by kernel_rfl⟩⟩
instance : ArrayT Tryd.prog 49 23 9 1 := ⟨by kernel_rfl, fun _ => by kernel_rfl⟩
instance : StructT Tryd.prog 49 (fun i => some (i * 1, 1)) [.string ⟨#[]⟩, .string ⟨#[]⟩, .string ⟨#[]⟩, .string ⟨#[]⟩, .string ⟨#[]⟩, .string ⟨#[]⟩, .string ⟨#[]⟩, .string ⟨#[]⟩, .string ⟨#[]⟩, .string ⟨#[]⟩, .string ⟨#[]⟩, .string ⟨#[]⟩, .string ⟨#[]⟩, .string ⟨#[]⟩, .string ⟨#[]⟩, .string ⟨#[]⟩, .string ⟨#[]⟩, .string ⟨#[]⟩, .string ⟨#[]⟩, .string ⟨#[]⟩, .string ⟨#[]⟩, .string ⟨#[]⟩, .string ⟨#[]⟩] := arrayT_mk (n := 23) (e := 9) (by kernel_rfl) (fun _ => by kernel_rfl)
instance : ScalarT Tryd.prog 50 := ⟨fun _ => by kernel_rfl⟩
instance : SizeT Tryd.prog 50 1 := ⟨fun _ => by kernel_rfl⟩
instance : ZeroT Tryd.prog 50 [.nilFunc] := ⟨fun _ => ⟨.nilFunc, rfl, by kernel_rfl⟩⟩
instance : ScalarT Tryd.prog 51 := ⟨fun _ => by kernel_rfl⟩
instance : SizeT Tryd.prog 51 1 := ⟨fun _ => by kernel_rfl⟩
instance : ZeroT Tryd.prog 51 [.nilFunc] := ⟨fun _ => ⟨.nilFunc, rfl, by kernel_rfl⟩⟩
instance : ScalarT Tryd.prog 52 := ⟨fun _ => by kernel_rfl⟩
instance : SizeT Tryd.prog 52 1 := ⟨fun _ => by kernel_rfl⟩
instance : ZeroT Tryd.prog 52 [.int .u16 0] := ⟨fun _ => ⟨.int .u16 0, rfl, by kernel_rfl⟩⟩
instance : ScalarT Tryd.prog 53 := ⟨fun _ => by kernel_rfl⟩
instance : SizeT Tryd.prog 53 1 := ⟨fun _ => by kernel_rfl⟩
instance : ZeroT Tryd.prog 53 [.nilFunc] := ⟨fun _ => ⟨.nilFunc, rfl, by kernel_rfl⟩⟩
instance : ScalarT Tryd.prog 55 := ⟨fun _ => by kernel_rfl⟩
instance : SizeT Tryd.prog 55 1 := ⟨fun _ => by kernel_rfl⟩
instance : ZeroT Tryd.prog 55 [.nilFunc] := ⟨fun _ => ⟨.nilFunc, rfl, by kernel_rfl⟩⟩
instance : ScalarT Tryd.prog 56 := ⟨fun _ => by kernel_rfl⟩
instance : SizeT Tryd.prog 56 1 := ⟨fun _ => by kernel_rfl⟩
instance : ZeroT Tryd.prog 56 [.nilIface] := ⟨fun _ => ⟨.nilIface, rfl, by kernel_rfl⟩⟩
instance : ScalarT Tryd.prog 57 := ⟨fun _ => by kernel_rfl⟩
instance : SizeT Tryd.prog 57 1 := ⟨fun _ => by kernel_rfl⟩
instance : ZeroT Tryd.prog 57 [.nilIface] := ⟨fun _ => ⟨.nilIface, rfl, by kernel_rfl⟩⟩
instance : ScalarT Tryd.prog 59 := ⟨fun _ => by kernel_rfl⟩
instance : SizeT Tryd.prog 59 1 := ⟨fun _ => by kernel_rfl⟩
instance : ZeroT Tryd.prog 59 [.nilFunc] := ⟨fun _ => ⟨.nilFunc, rfl, by kernel_rfl⟩⟩
instance : ScalarT Tryd.prog 60 := ⟨fun _ => by kernel_rfl⟩
instance : SizeT Tryd.prog 60 1 := ⟨fun _ => by kernel_rfl⟩
instance : ZeroT Tryd.prog 60 [.int .u64 0] := ⟨fun _ => ⟨.int .u64 0, rfl, by kernel_rfl⟩⟩
instance : ScalarT Tryd.prog 61 := ⟨fun _ => by kernel_rfl⟩
instance : SizeT Tryd.prog 61 1 := ⟨fun _ => by kernel_rfl⟩
instance : ZeroT Tryd.prog 61 [.nilFunc] := ⟨fun _ => ⟨.nilFunc, rfl, by kernel_rfl⟩⟩
instance : AggT Tryd.prog 62 4 := ⟨fun _ => by kernel_rfl⟩
instance : SizeT Tryd.prog 62 4 := ⟨fun _ => by kernel_rfl⟩
abbrev z62 : List Value := [.bool false, .bool false, .bool false, .bool false]
instance : ZeroT Tryd.prog 62 [.bool false, .bool false, .bool false, .bool false] := ⟨fun _ => ⟨valL z62, rfl, by kernel_rfl⟩⟩
instance : FieldT Tryd.prog 62 0 0 4 := ⟨⟨_, Tryd.underlying62, _, rfl, rfl, rfl⟩, ⟨1, by decide, fun _ => by kernel_rfl⟩⟩
instance : FieldT Tryd.prog 62 1 1 4 := ⟨⟨_, Tryd.underlying62, _, rfl, rfl, rfl⟩, ⟨1, by decide, fun _ => by kernel_rfl⟩⟩
instance : FieldT Tryd.prog 62 2 2 4 := ⟨⟨_, Tryd.underlying62, _, rfl, rfl, rfl⟩, ⟨1, by decide, fun _ => by kernel_rfl⟩⟩
instance : FieldT Tryd.prog 62 3 3 4 := ⟨⟨_, Tryd.underlying62, _, rfl, rfl, rfl⟩, ⟨1, by decide, fun _ => by kernel_rfl⟩⟩
instance : StructT Tryd.prog 62 (fun i => (#[(0, 1), (1, 1), (2, 1), (3, 1)] : Array (Nat × Nat))[i]?) [.bool false, .bool false, .bool false, .bool false] := structT_mk Tryd.underlying62 (fun _ => by kernel_rfl)
instance : AggT Tryd.prog 63 4 := ⟨fun _ => by kernel_rfl⟩
instance : SizeT Tryd.prog 63 4 := ⟨fun _ => by kernel_rfl⟩
abbrev z63 : List Value := [.bool false, .bool false, .bool false, .bool false]
instance : ZeroT Tryd.prog 63 [.bool false, .bool false, .bool false, .bool false] := ⟨fun _ => ⟨valL z63, rfl, by kernel_rfl⟩⟩
instance : FieldT Tryd.prog 63 0 0 4 := ⟨⟨_, Tryd.underlying63, _, rfl, rfl, rfl⟩, ⟨1, by decide, fun _ => by kernel_rfl⟩⟩
instance : FieldT Tryd.prog 63 1 1 4 := ⟨⟨_, Tryd.underlying63, _, rfl, rfl, rfl⟩, ⟨1, by decide, fun _ => by kernel_rfl⟩⟩
instance : FieldT Tryd.prog 63 2 2 4 := ⟨⟨_, Tryd.underlying63, _, rfl, rfl, rfl⟩, ⟨1, by decide, fun _ => by kernel_rfl⟩⟩
instance : FieldT Tryd.prog 63 3 3 4 := ⟨⟨_, Tryd.underlying63, _, rfl, rfl, rfl⟩, ⟨1, by decide, fun _ => by kernel_rfl⟩⟩
instance : StructT Tryd.prog 63 (fun i => (#[(0, 1), (1, 1), (2, 1), (3, 1)] : Array (Nat × Nat))[i]?) [.bool false, .bool false, .bool false, .bool false] := structT_mk Tryd.underlying63 (fun _ => by kernel_rfl)
instance : ScalarT Tryd.prog 64 := ⟨fun _ => by kernel_rfl⟩
instance : SizeT Tryd.prog 64 1 := ⟨fun _ => by kernel_rfl⟩
instance : ZeroT Tryd.prog 64 [.nilFunc] := ⟨fun _ => ⟨.nilFunc, rfl, by kernel_rfl⟩⟩
instance : ScalarT Tryd.prog 66 := ⟨fun _ => by kernel_rfl⟩
instance : SizeT Tryd.prog 66 1 := ⟨fun _ => by kernel_rfl⟩
instance : ZeroT Tryd.prog 66 [.nilFunc] := ⟨fun _ => ⟨.nilFunc, rfl, by kernel_rfl⟩⟩
instance : ScalarT Tryd.prog 67 := ⟨fun _ => by kernel_rfl⟩
instance : SizeT Tryd.prog 67 1 := ⟨fun _ => by kernel_rfl⟩
instance : ZeroT Tryd.prog 67 [.nilFunc] := ⟨fun _ => ⟨.nilFunc, rfl, by kernel_rfl⟩⟩
instance : ScalarT Tryd.prog 68 := ⟨fun _ => by kernel_rfl⟩
instance : SizeT Tryd.prog 68 1 := ⟨fun _ => by kernel_rfl⟩
instance : ZeroT Tryd.prog 68 [.slice none 0 0] := ⟨fun _ => ⟨.slice none 0 0, rfl, by kernel_rfl⟩⟩
instance : SliceT Tryd.prog 68 3 1 := ⟨by kernel_rfl, fun _ => by kernel_rfl⟩
instance : ScalarT Tryd.prog 69 := ⟨fun _ => by kernel_rfl⟩
instance : SizeT Tryd.prog 69 1 := ⟨fun _ => by kernel_rfl⟩
instance : ZeroT Tryd.prog 69 [.nilFunc] := ⟨fun _ => ⟨.nilFunc, rfl, by kernel_rfl⟩⟩
instance : ScalarT Tryd.prog 70 := ⟨fun _ => by kernel_rfl⟩
instance : SizeT Tryd.prog 70 1 := ⟨fun _ => by kernel_rfl⟩
instance : ZeroT Tryd.prog 70 [.nilFunc] := ⟨fun _ => ⟨.nilFunc, rfl, by kernel_rfl⟩⟩
instance : ScalarT Tryd.prog 71 := ⟨fun _ => by kernel_rfl⟩
instance : SizeT Tryd.prog 71 1 := ⟨fun _ => by kernel_rfl⟩
instance : ZeroT Tryd.prog 71 [.nilFunc] := ⟨fun _ => ⟨.nilFunc, rfl, by kernel_rfl⟩⟩
instance : ScalarT Tryd.prog 72 := ⟨fun _ => by kernel_rfl⟩
instance : SizeT Tryd.prog 72 1 := ⟨fun _ => by kernel_rfl⟩
instance : ZeroT Tryd.prog 72 [.nilFunc] := ⟨fun _ => ⟨.nilFunc, rfl, by kernel_rfl⟩⟩
instance : ScalarT Tryd.prog 73 := ⟨fun _ => by kernel_rfl⟩
instance : SizeT Tryd.prog 73 1 := ⟨fun _ => by kernel_rfl⟩
instance : ZeroT Tryd.prog 73 [.nilFunc] := ⟨fun _ => ⟨.nilFunc, rfl, by kernel_rfl⟩⟩
instance : AggT Tryd.prog 74 256 := ⟨fun _ => by kernel_rfl⟩
instance : SizeT Tryd.prog 74 256 := ⟨fun _ => by kernel_rfl⟩
def z74 : List Value := [.bool false, .bool false, .bool false, .bool false, .bool false, .bool false, .bool false, .bool false, .bool false, .bool false, .bool false, .bool false, .bool false, .bool false, .bool false, .bool false, .bool false, .bool false, .bool false, .bool false, .bool false, .bool false, .bool false, .bool false, .bool false, .bool false, .bool false, .bool false, .bool false, .bool false, .bool false, .bool false, .bool false, .bool false, .bool false, .bool false, .bool false, .bool false, .bool false, .bool false, .bool false, .bool false, .bool false, .bool false, .bool false, .bool false, .bool false, .bool false, .bool false, .bool false, .bool false, .bool false, .bool false, .bool false, .bool false, .bool false, .bool false, .bool false, .bool false, .bool false, .bool false, .bool false, .bool false, .bool false, .bool false, .bool false, .bool false, .bool false, .bool false, .bool false, .bool false, .bool false, .bool false, .bool false, .bool false, .bool false, .bool false, .bool false, .bool false, .bool false, .bool false, .bool false, .bool false, .bool false, .bool false, .bool false, .bool false, .bool false, .bool false, .bool false, .bool false, .bool false, .bool false, .bool false, .bool false, .bool false, .bool false, .bool false, .bool false, .bool false, .bool false, .bool false, .bool false, .bool false, .bool false, .bool false, .bool false, .bool false, .bool false, .bool false, .bool false, .bool false, .bool false, .bool false, .bool false, .bool false, .bool false, .bool false, .bool false, .bool false, .bool false, .bool false, .bool false, .bool false, .bool false, .bool false, .bool false, .bool false, .bool false, .bool false, .bool false, .bool false, .bool false, .bool false, .bool false, .bool false, .bool false, .bool false, .bool false, .bool false, .bool false, .bool false, .bool false, .bool false, .bool false, .bool false, .bool false, .bool false, .bool false, .bool false, .bool false, .bool false, .bool false, .bool false, .bool false, .bool false, .bool false, .bool false, .bool false, .bool false, .bool false, .bool false, .bool false, .bool false, .bool false, .bool false, .bool false, .bool false, .bool false, .bool false, .bool false, .bool false, .bool false, .bool false, .bool false, .bool false, .bool false, .bool false, .bool false, .bool false, .bool false, .bool false, .bool false, .bool false, .bool false, .bool false, .bool false, .bool false, .bool false, .bool false, .bool false, .bool false, .bool false, .bool false, .bool false, .bool false, .bool false, .bool false, .bool false, .bool false, .bool false, .bool false, .bool false, .bool false, .bool false, .bool false, .bool false, .bool false, .bool false, .bool false, .bool false, .bool false, .bool false, .bool false, .bool false, .bool false, .bool false, .bool false, .bool false, .bool false, .bool false, .bool false, .bool false, .bool false, .bool false, .bool false, .bool false, .bool false, .bool false, .bool false, .bool false, .bool false, .bool false, .bool false, .bool false, .bool false, .bool false, .bool false, .bool false, .bool false, .bool false, .bool false, .bool false, .bool false, .bool false, .bool false, .bool false, .bool false, .bool false, .bool false, .bool false, .bool false, .bool false, .bool false, .bool false, .bool false]
theorem z74_len : z74.length = 256 := by kernel_rfl
instance : ZeroT Tryd.prog 74 z74 := ⟨fun _ => ⟨valL z74, rfl, by kernel_rfl⟩⟩
instance : ArrayT Tryd.prog 74 256 4 1 := ⟨by kernel_rfl, fun _ => by kernel_rfl⟩
instance : StructT Tryd.prog 74 (fun i => some (i * 1, 1)) z74 := arrayT_mk (n := 256) (e := 4) (by kernel_rfl) (fun _ => by kernel_rfl)
instance : AggT Tryd.prog 75 256 := ⟨fun _ => by kernel_rfl⟩
instance : SizeT Tryd.prog 75 256 := ⟨fun _ => by kernel_rfl⟩
def z75 : List Value := [.bool false, .bool false, .bool false, .bool false, .bool false, .bool false, .bool false, .bool false, .bool false, .bool false, .bool false, .bool false, .bool false, .bool false, .bool false, .bool false, .bool false, .bool false, .bool false, .bool false, .bool false, .bool false, .bool false, .bool false, .bool false, .bool false, .bool false, .bool false, .bool false, .bool false, .bool false, .bool false, .bool false, .bool false, .bool false, .bool false, .bool false, .bool false, .bool false, .bool false, .bool false, .bool false, .bool false, .bool false, .bool false, .bool false, .bool false, .bool false, .bool false, .bool false, .bool false, .bool false, .bool false, .bool false, .bool false, .bool false, .bool false, .bool false, .bool false, .bool false, .bool false, .bool false, .bool false, .bool false, .bool false, .bool false, .bool false, .bool false, .bool false, .bool false, .bool false, .bool false, .bool false, .bool false, .bool false, .bool false, .bool false, .bool false, .bool false, .bool false, .bool false, .bool false, .bool false, .bool false, .bool false, .bool false, .bool false, .bool false, .bool false, .bool false, .bool false, .bool false, .bool false, .bool false, .bool false, .bool false, .bool false, .bool false, .bool false, .bool false, .bool false, .bool false, .bool false, .bool false, .bool false, .bool false, .bool false, .bool false, .bool false, .bool false, .bool false, .bool false, .bool false, .bool false, .bool false, .bool false, .bool false, .bool false, .bool false, .bool false, .bool false, .bool false, .bool false, .bool false, .bool false, .bool false, .bool false, .bool false, .bool false, .bool false, .bool false, .bool false, .bool false, .bool false, .bool false, .bool false, .bool false, .bool false, .bool false, .bool false, .bool false, .bool false, .bool false, .bool false, .bool false, .bool false, .bool false, .bool false, .bool false, .bool false, .bool false, .bool false, .bool false, .bool false, .bool false, .bool false, .bool false, .bool false, .bool false, .bool false, .bool false, .bool false, .bool false, .bool false, .bool false, .bool false, .bool false, .bool false, .bool false, .bool false, .bool false, .bool false, .bool false, .bool false, .bool false, .bool false, .bool false, .bool false, .bool false, .bool false, .bool false, .bool false, .bool false, .bool false, .bool false, .bool false, .bool false, .bool false, .bool false, .bool false, .bool false, .bool false, .bool false, .bool false, .bool false, .bool false, .bool false, .bool false, .bool false, .bool false, .bool false, .bool false, .bool false, .bool false, .bool false, .bool false, .bool false, .bool false, .bool false, .bool false, .bool false, .bool false, .bool false, .bool false, .bool false, .bool false, .bool false, .bool false, .bool false, .bool false, .bool false, .bool false, .bool false, .bool false, .bool false, .bool false, .bool false, .bool false, .bool false, .bool false, .bool false, .bool false, .bool false, .bool false, .bool false, .bool false, .bool false, .bool false, .bool false, .bool false, .bool false, .bool false, .bool false, .bool false, .bool false, .bool false, .bool false, .bool false, .bool false, .bool false, .bool false, .bool false, .bool false, .bool false, .bool false, .bool false]
theorem z75_len : z75.length = 256 := by kernel_rfl
instance : ZeroT Tryd.prog 75 z75 := ⟨fun _ => ⟨valL z75, rfl, by kernel_rfl⟩⟩
instance : ArrayT Tryd.prog 75 256 4 1 := ⟨by kernel_rfl, fun _ => by kernel_rfl⟩
instance : StructT Tryd.prog 75 (fun i => some (i * 1, 1)) z75 := arrayT_mk (n := 256) (e := 4) (by kernel_rfl) (fun _ => by kernel_rfl)
instance : ScalarT Tryd.prog 77 := ⟨fun _ => by kernel_rfl⟩
instance : SizeT Tryd.prog 77 1 := ⟨fun _ => by kernel_rfl⟩
instance : ZeroT Tryd.prog 77 [.nilFunc] := ⟨fun _ => ⟨.nilFunc, rfl, by kernel_rfl⟩⟩
instance : ScalarT Tryd.prog 78 := ⟨fun _ => by kernel_rfl⟩
instance : SizeT Tryd.prog 78 1 := ⟨fun _ => by kernel_rfl⟩
instance : ZeroT Tryd.prog 78 [.nilFunc] := ⟨fun _ => ⟨.nilFunc, rfl, by kernel_rfl⟩⟩
instance : ScalarT Tryd.prog 79 := ⟨fun _ => by kernel_rfl⟩
instance : SizeT Tryd.prog 79 1 := ⟨fun _ => by kernel_rfl⟩
instance : ZeroT Tryd.prog 79 [.pointer none] := ⟨fun _ => ⟨.pointer none, rfl, by kernel_rfl⟩⟩
instance : ScalarT Tryd.prog 80 := ⟨fun _ => by kernel_rfl⟩
instance : SizeT Tryd.prog 80 1 := ⟨fun _ => by kernel_rfl⟩
instance : ZeroT Tryd.prog 80 [.nilFunc] := ⟨fun _ => ⟨.nilFunc, rfl, by kernel_rfl⟩⟩
instance : ScalarT Tryd.prog 81 := ⟨fun _ => by kernel_rfl⟩
instance : SizeT Tryd.prog 81 1 := ⟨fun _ => by kernel_rfl⟩
instance : ZeroT Tryd.prog 81 [.nilFunc] := ⟨fun _ => ⟨.nilFunc, rfl, by kernel_rfl⟩⟩
instance : ScalarT Tryd.prog 82 := ⟨fun _ => by kernel_rfl⟩
instance : SizeT Tryd.prog 82 1 := ⟨fun _ => by kernel_rfl⟩
instance : ZeroT Tryd.prog 82 [.nilFunc] := ⟨fun _ => ⟨.nilFunc, rfl, by kernel_rfl⟩⟩
instance : ScalarT Tryd.prog 83 := ⟨fun _ => by kernel_rfl⟩
instance : SizeT Tryd.prog 83 1 := ⟨fun _ => by kernel_rfl⟩
instance : ZeroT Tryd.prog 83 [.nilFunc] := ⟨fun _ => ⟨.nilFunc, rfl, by kernel_rfl⟩⟩
instance : ScalarT Tryd.prog 84 := ⟨fun _ => by kernel_rfl⟩
instance : SizeT Tryd.prog 84 1 := ⟨fun _ => by kernel_rfl⟩
instance : ZeroT Tryd.prog 84 [.int .i64 0] := ⟨fun _ => ⟨.int .i64 0, rfl, by kernel_rfl⟩⟩
instance : ScalarT Tryd.prog 86 := ⟨fun _ => by kernel_rfl⟩
instance : SizeT Tryd.prog 86 1 := ⟨fun _ => by kernel_rfl⟩
instance : ZeroT Tryd.prog 86 [.nilFunc] := ⟨fun _ => ⟨.nilFunc, rfl, by kernel_rfl⟩⟩
instance : ScalarT Tryd.prog 87 := ⟨fun _ => by kernel_rfl⟩
instance : SizeT Tryd.prog 87 1 := ⟨fun _ => by kernel_rfl⟩
instance : ZeroT Tryd.prog 87 [.pointer none] := ⟨fun _ => ⟨.pointer none, rfl, by kernel_rfl⟩⟩
instance : ScalarT Tryd.prog 88 := ⟨fun _ => by kernel_rfl⟩
instance : SizeT Tryd.prog 88 1 := ⟨fun _ => by kernel_rfl⟩
instance : ZeroT Tryd.prog 88 [.nilFunc] := ⟨fun _ => ⟨.nilFunc, rfl, by kernel_rfl⟩⟩
instance : ScalarT Tryd.prog 89 := ⟨fun _ => by kernel_rfl⟩
instance : SizeT Tryd.prog 89 1 := ⟨fun _ => by kernel_rfl⟩
instance : ZeroT Tryd.prog 89 [.nilFunc] := ⟨fun _ => ⟨.nilFunc, rfl, by kernel_rfl⟩⟩
instance : ScalarT Tryd.prog 90 := ⟨fun _ => by kernel_rfl⟩
instance : SizeT Tryd.prog 90 1 := ⟨fun _ => by kernel_rfl⟩
instance : ZeroT Tryd.prog 90 [.nilFunc] := ⟨fun _ => ⟨.nilFunc, rfl, by kernel_rfl⟩⟩
instance : ScalarT Tryd.prog 92 := ⟨fun _ => by kernel_rfl⟩
instance : SizeT Tryd.prog 92 1 := ⟨fun _ => by kernel_rfl⟩
instance : ZeroT Tryd.prog 92 [.nilFunc] := ⟨fun _ => ⟨.nilFunc, rfl, by kernel_rfl⟩⟩
instance : ScalarT Tryd.prog 93 := ⟨fun _ => by kernel_rfl⟩
instance : SizeT Tryd.prog 93 1 := ⟨fun _ => by kernel_rfl⟩
instance : ZeroT Tryd.prog 93 [.nilFunc] := ⟨fun _ => ⟨.nilFunc, rfl, by kernel_rfl⟩⟩
instance : AggT Tryd.prog 94 24 := ⟨fun _ => by kernel_rfl⟩
instance : SizeT Tryd.prog 94 24 := ⟨fun _ => by kernel_rfl⟩
abbrev z94 : List Value := [.int .u8 0, .int .u8 0, .int .u8 0, .int .u8 0, .int .u8 0, .int .u8 0, .int .u8 0, .int .u8 0, .int .u8 0, .int .u8 0, .int .u8 0, .int .u8 0, .int .u8 0, .int .u8 0, .int .u8 0, .int .u8 0, .int .u8 0, .int .u8 0, .int .u8 0, .int .u8 0, .int .u8 0, .int .u8 0, .int .u8 0, .int .u8 0]
instance : ZeroT Tryd.prog 94 [.int .u8 0, .int .u8 0, .int .u8 0, .int .u8 0, .int .u8 0, .int .u8 0, .int .u8 0, .int .u8 0, .int .u8 0, .int .u8 0, .int .u8 0, .int .u8 0, .int .u8 0, .int .u8 0, .int .u8 0, .int .u8 0, .int .u8 0, .int .u8 0, .int .u8 0, .int .u8 0, .int .u8 0, .int .u8 0, .int .u8 0, .int .u8 0] := ⟨fun _ => ⟨valL z94, rfl, by kernel_rfl⟩⟩
instance : ArrayT Tryd.prog 94 24 5 1 := ⟨by kernel_rfl, fun _ => by kernel_rfl⟩
instance : StructT Tryd.prog 94 (fun i => some (i * 1, 1)) [.int .u8 0, .int .u8 0, .int .u8 0, .int .u8 0, .int .u8 0, .int .u8 0, .int .u8 0, .int .u8 0, .int .u8 0, .int .u8 0, .int .u8 0, .int .u8 0, .int .u8 0, .int .u8 0, .int .u8 0, .int .u8 0, .int .u8 0, .int .u8 0, .int .u8 0, .int .u8 0, .int .u8 0, .int .u8 0, .int .u8 0, .int .u8 0] := arrayT_mk (n := 24) (e := 5) (by kernel_rfl) (fun _ => by kernel_rfl)
instance : ScalarT Tryd.prog 95 := ⟨fun _ => by kernel_rfl⟩
instance : SizeT Tryd.prog 95 1 := ⟨fun _ => by kernel_rfl⟩
instance : ZeroT Tryd.prog 95 [.nilFunc] := ⟨fun _ => ⟨.nilFunc, rfl, by kernel_rfl⟩⟩
instance : ScalarT Tryd.prog 96 := ⟨fun _ => by kernel_rfl⟩
instance : SizeT Tryd.prog 96 1 := ⟨fun _ => by kernel_rfl⟩
instance : ZeroT Tryd.prog 96 [.nilFunc] := ⟨fun _ => ⟨.nilFunc, rfl, by kernel_rfl⟩⟩
instance : ScalarT Tryd.prog 98 := ⟨fun _ => by kernel_rfl⟩
instance : SizeT Tryd.prog 98 1 := ⟨fun _ => by kernel_rfl⟩
instance : ZeroT Tryd.prog 98 [.nilFunc] := ⟨fun _ => ⟨.nilFunc, rfl, by kernel_rfl⟩⟩
instance : ScalarT Tryd.prog 99 := ⟨fun _ => by kernel_rfl⟩
instance : SizeT Tryd.prog 99 1 := ⟨fun _ => by kernel_rfl⟩
instance : ZeroT Tryd.prog 99 [.nilFunc] := ⟨fun _ => ⟨.nilFunc, rfl, by kernel_rfl⟩⟩
instance : ScalarT Tryd.prog 100 := ⟨fun _ => by kernel_rfl⟩
instance : SizeT Tryd.prog 100 1 := ⟨fun _ => by kernel_rfl⟩
instance : ZeroT Tryd.prog 100 [.nilFunc] := ⟨fun _ => ⟨.nilFunc, rfl, by kernel_rfl⟩⟩
instance : ScalarT Tryd.prog 101 := ⟨fun _ => by kernel_rfl⟩
instance : SizeT Tryd.prog 101 1 := ⟨fun _ => by kernel_rfl⟩
instance : ZeroT Tryd.prog 101 [.nilFunc] := ⟨fun _ => ⟨.nilFunc, rfl, by kernel_rfl⟩⟩
instance : ScalarT Tryd.prog 102 := ⟨fun _ => by kernel_rfl⟩
instance : SizeT Tryd.prog 102 1 := ⟨fun _ => by kernel_rfl⟩
instance : ZeroT Tryd.prog 102 [.nilFunc] := ⟨fun _ => ⟨.nilFunc, rfl, by kernel_rfl⟩⟩
instance : ScalarT Tryd.prog 103 := ⟨fun _ => by kernel_rfl⟩
instance : SizeT Tryd.prog 103 1 := ⟨fun _ => by kernel_rfl⟩
instance : ZeroT Tryd.prog 103 [.nilFunc] := ⟨fun _ => ⟨.nilFunc, rfl, by kernel_rfl⟩⟩
instance : AggT Tryd.prog 104 3 := ⟨fun _ => by kernel_rfl⟩
instance : SizeT Tryd.prog 104 3 := ⟨fun _ => by kernel_rfl⟩
abbrev z104 : List Value := [.string ⟨#[]⟩, .string ⟨#[]⟩, .nilIface]
instance : ZeroT Tryd.prog 104 [.string ⟨#[]⟩, .string ⟨#[]⟩, .nilIface] := ⟨fun _ => ⟨valL z104, rfl, by kernel_rfl⟩⟩
instance : FieldT Tryd.prog 104 0 0 9 := ⟨⟨_, Tryd.underlying104, _, rfl, rfl, rfl⟩, ⟨1, by decide, fun _ => by kernel_rfl⟩⟩
instance : FieldT Tryd.prog 104 1 1 9 := ⟨⟨_, Tryd.underlying104, _, rfl, rfl, rfl⟩, ⟨1, by decide, fun _ => by kernel_rfl⟩⟩
instance : FieldT Tryd.prog 104 2 2 57 := ⟨⟨_, Tryd.underlying104, _, rfl, rfl, rfl⟩, ⟨1, by decide, fun _ => by kernel_rfl⟩⟩
instance : StructT Tryd.prog 104 (fun i => (#[(0, 1), (1, 1), (2, 1)] : Array (Nat × Nat))[i]?) [.string ⟨#[]⟩, .string ⟨#[]⟩, .nilIface] := structT_mk Tryd.underlying104 (fun _ => by kernel_rfl)
instance : AggT Tryd.prog 105 3 := ⟨fun _ => by kernel_rfl⟩
instance : SizeT Tryd.prog 105 3 := ⟨fun _ => by kernel_rfl⟩
abbrev z105 : List Value := [.string ⟨#[]⟩, .string ⟨#[]⟩, .nilIface]
instance : ZeroT Tryd.prog 105 [.string ⟨#[]⟩, .string ⟨#[]⟩, .nilIface] := ⟨fun _ => ⟨valL z105, rfl, by kernel_rfl⟩⟩
instance : FieldT Tryd.prog 105 0 0 9 := ⟨⟨_, Tryd.underlying105, _, rfl, rfl, rfl⟩, ⟨1, by decide, fun _ => by kernel_rfl⟩⟩
instance : FieldT Tryd.prog 105 1 1 9 := ⟨⟨_, Tryd.underlying105, _, rfl, rfl, rfl⟩, ⟨1, by decide, fun _ => by kernel_rfl⟩⟩
instance : FieldT Tryd.prog 105 2 2 57 := ⟨⟨_, Tryd.underlying105, _, rfl, rfl, rfl⟩, ⟨1, by decide, fun _ => by kernel_rfl⟩⟩
instance : StructT Tryd.prog 105 (fun i => (#[(0, 1), (1, 1), (2, 1)] : Array (Nat × Nat))[i]?) [.string ⟨#[]⟩, .string ⟨#[]⟩, .nilIface] := structT_mk Tryd.underlying105 (fun _ => by kernel_rfl)
instance : ScalarT Tryd.prog 106 := ⟨fun _ => by kernel_rfl⟩
instance : SizeT Tryd.prog 106 1 := ⟨fun _ => by kernel_rfl⟩
instance : ZeroT Tryd.prog 106 [.nilFunc] := ⟨fun _ => ⟨.nilFunc, rfl, by kernel_rfl⟩⟩
instance : ScalarT Tryd.prog 107 := ⟨fun _ => by kernel_rfl⟩
instance : SizeT Tryd.prog 107 1 := ⟨fun _ => by kernel_rfl⟩
instance : ZeroT Tryd.prog 107 [.nilFunc] := ⟨fun _ => ⟨.nilFunc, rfl, by kernel_rfl⟩⟩
instance : ScalarT Tryd.prog 108 := ⟨fun _ => by kernel_rfl⟩
instance : SizeT Tryd.prog 108 1 := ⟨fun _ => by kernel_rfl⟩
instance : ZeroT Tryd.prog 108 [.nilFunc] := ⟨fun _ => ⟨.nilFunc, rfl, by kernel_rfl⟩⟩
instance : ScalarT Tryd.prog 109 := ⟨fun _ => by kernel_rfl⟩
instance : SizeT Tryd.prog 109 1 := ⟨fun _ => by kernel_rfl⟩
instance : ZeroT Tryd.prog 109 [.nilFunc] := ⟨fun _ => ⟨.nilFunc, rfl, by kernel_rfl⟩⟩
instance : AggT Tryd.prog 110 20 := ⟨fun _ => by kernel_rfl⟩
instance : SizeT Tryd.prog 110 20 := ⟨fun _ => by kernel_rfl⟩
abbrev z110 : List Value := [.int .u64 0, .int .u64 0, .int .u64 0, .int .u64 0, .int .u64 0, .int .u64 0, .int .u64 0, .int .u64 0, .int .u64 0, .int .u64 0, .int .u64 0, .int .u64 0, .int .u64 0, .int .u64 0, .int .u64 0, .int .u64 0, .int .u64 0, .int .u64 0, .int .u64 0, .int .u64 0]
instance : ZeroT Tryd.prog 110 [.int .u64 0, .int .u64 0, .int .u64 0, .int .u64 0, .int .u64 0, .int .u64 0, .int .u64 0, .int .u64 0, .int .u64 0, .int .u64 0, .int .u64 0, .int .u64 0, .int .u64 0, .int .u64 0, .int .u64 0, .int .u64 0, .int .u64 0, .int .u64 0, .int .u64 0, .int .u64 0] := ⟨fun _ => ⟨valL z110, rfl, by kernel_rfl⟩⟩
instance : ArrayT Tryd.prog 110 20 60 1 := ⟨by kernel_rfl, fun _ => by kernel_rfl⟩
instance : StructT Tryd.prog 110 (fun i => some (i * 1, 1)) [.int .u64 0, .int .u64 0, .int .u64 0, .int .u64 0, .int .u64 0, .int .u64 0, .int .u64 0, .int .u64 0, .int .u64 0, .int .u64 0, .int .u64 0, .int .u64 0, .int .u64 0, .int .u64 0, .int .u64 0, .int .u64 0, .int .u64 0, .int .u64 0, .int .u64 0, .int .u64 0] := arrayT_mk (n := 20) (e := 60) (by kernel_rfl) (fun _ => by kernel_rfl)
instance : AggT Tryd.prog 111 65 := ⟨fun _ => by kernel_rfl⟩
instance : SizeT Tryd.prog 111 65 := ⟨fun _ => by kernel_rfl⟩
def z111 : List Value := [.int .u8 0, .int .u8 0, .int .u8 0, .int .u8 0, .int .u8 0, .int .u8 0, .int .u8 0, .int .u8 0, .int .u8 0, .int .u8 0, .int .u8 0, .int .u8 0, .int .u8 0, .int .u8 0, .int .u8 0, .int .u8 0, .int .u8 0, .int .u8 0, .int .u8 0, .int .u8 0, .int .u8 0, .int .u8 0, .int .u8 0, .int .u8 0, .int .u8 0, .int .u8 0, .int .u8 0, .int .u8 0, .int .u8 0, .int .u8 0, .int .u8 0, .int .u8 0, .int .u8 0, .int .u8 0, .int .u8 0, .int .u8 0, .int .u8 0, .int .u8 0, .int .u8 0, .int .u8 0, .int .u8 0, .int .u8 0, .int .u8 0, .int .u8 0, .int .u8 0, .int .u8 0, .int .u8 0, .int .u8 0, .int .u8 0, .int .u8 0, .int .u8 0, .int .u8 0, .int .u8 0, .int .u8 0, .int .u8 0, .int .u8 0, .int .u8 0, .int .u8 0, .int .u8 0, .int .u8 0, .int .u8 0, .int .u8 0, .int .u8 0, .int .u8 0, .int .u8 0]
theorem z111_len : z111.length = 65 := by kernel_rfl
instance : ZeroT Tryd.prog 111 z111 := ⟨fun _ => ⟨valL z111, rfl, by kernel_rfl⟩⟩
instance : ArrayT Tryd.prog 111 65 5 1 := ⟨by kernel_rfl, fun _ => by kernel_rfl⟩
instance : StructT Tryd.prog 111 (fun i => some (i * 1, 1)) z111 := arrayT_mk (n := 65) (e := 5) (by kernel_rfl) (fun _ => by kernel_rfl)
instance : ScalarT Tryd.prog 112 := ⟨fun _ => by kernel_rfl⟩
instance : SizeT Tryd.prog 112 1 := ⟨fun _ => by kernel_rfl⟩
instance : ZeroT Tryd.prog 112 [.nilFunc] := ⟨fun _ => ⟨.nilFunc, rfl, by kernel_rfl⟩⟩
instance : ScalarT Tryd.prog 113 := ⟨fun _ => by kernel_rfl⟩
instance : SizeT Tryd.prog 113 1 := ⟨fun _ => by kernel_rfl⟩
instance : ZeroT Tryd.prog 113 [.nilFunc] := ⟨fun _ => ⟨.nilFunc, rfl, by kernel_rfl⟩⟩
instance : ScalarT Tryd.prog 114 := ⟨fun _ => by kernel_rfl⟩
instance : SizeT Tryd.prog 114 1 := ⟨fun _ => by kernel_rfl⟩
instance : ZeroT Tryd.prog 114 [.pointer none] := ⟨fun _ => ⟨.pointer none, rfl, by kernel_rfl⟩⟩
instance : ScalarT Tryd.prog 115 := ⟨fun _ => by kernel_rfl⟩
instance : SizeT Tryd.prog 115 1 := ⟨fun _ => by kernel_rfl⟩
instance : ZeroT Tryd.prog 115 [.pointer none] := ⟨fun _ => ⟨.pointer none, rfl, by kernel_rfl⟩⟩
instance : AggT Tryd.prog 116 1 := ⟨fun _ => by kernel_rfl⟩
instance : SizeT Tryd.prog 116 1 := ⟨fun _ => by kernel_rfl⟩
abbrev z116 : List Value := [.string ⟨#[]⟩]
instance : ZeroT Tryd.prog 116 [.string ⟨#[]⟩] := ⟨fun _ => ⟨valL z116, rfl, by kernel_rfl⟩⟩
instance : FieldT Tryd.prog 116 0 0 9 := ⟨⟨_, Tryd.underlying116, _, rfl, rfl, rfl⟩, ⟨1, by decide, fun _ => by kernel_rfl⟩⟩
instance : StructT Tryd.prog 116 (fun i => (#[(0, 1)] : Array (Nat × Nat))[i]?) [.string ⟨#[]⟩] := structT_mk Tryd.underlying116 (fun _ => by kernel_rfl)
instance : AggT Tryd.prog 117 1 := ⟨fun _ => by kernel_rfl⟩
instance : SizeT Tryd.prog 117 1 := ⟨fun _ => by kernel_rfl⟩
abbrev z117 : List Value := [.string ⟨#[]⟩]
instance : ZeroT Tryd.prog 117 [.string ⟨#[]⟩] := ⟨fun _ => ⟨valL z117, rfl, by kernel_rfl⟩⟩
instance : FieldT Tryd.prog 117 0 0 9 := ⟨⟨_, Tryd.underlying117, _, rfl, rfl, rfl⟩, ⟨1, by decide, fun _ => by kernel_rfl⟩⟩
instance : StructT Tryd.prog 117 (fun i => (#[(0, 1)] : Array (Nat × Nat))[i]?) [.string ⟨#[]⟩] := structT_mk Tryd.underlying117 (fun _ => by kernel_rfl)
instance : AggT Tryd.prog 118 256 := ⟨fun _ => by kernel_rfl⟩
instance : SizeT Tryd.prog 118 256 := ⟨fun _ => by kernel_rfl⟩
def z118 : List Value := [.int .u8 0, .int .u8 0, .int .u8 0, .int .u8 0, .int .u8 0, .int .u8 0, .int .u8 0, .int .u8 0, .int .u8 0, .int .u8 0, .int .u8 0, .int .u8 0, .int .u8 0, .int .u8 0, .int .u8 0, .int .u8 0, .int .u8 0, .int .u8 0, .int .u8 0, .int .u8 0, .int .u8 0, .int .u8 0, .int .u8 0, .int .u8 0, .int .u8 0, .int .u8 0, .int .u8 0, .int .u8 0, .int .u8 0, .int .u8 0, .int .u8 0, .int .u8 0, .int .u8 0, .int .u8 0, .int .u8 0, .int .u8 0, .int .u8 0, .int .u8 0, .int .u8 0, .int .u8 0, .int .u8 0, .int .u8 0, .int .u8 0, .int .u8 0, .int .u8 0, .int .u8 0, .int .u8 0, .int .u8 0, .int .u8 0, .int .u8 0, .int .u8 0, .int .u8 0, .int .u8 0, .int .u8 0, .int .u8 0, .int .u8 0, .int .u8 0, .int .u8 0, .int .u8 0, .int .u8 0, .int .u8 0, .int .u8 0, .int .u8 0, .int .u8 0, .int .u8 0, .int .u8 0, .int .u8 0, .int .u8 0, .int .u8 0, .int .u8 0, .int .u8 0, .int .u8 0, .int .u8 0, .int .u8 0, .int .u8 0, .int .u8 0, .int .u8 0, .int .u8 0, .int .u8 0, .int .u8 0, .int .u8 0, .int .u8 0, .int .u8 0, .int .u8 0, .int .u8 0, .int .u8 0, .int .u8 0, .int .u8 0, .int .u8 0, .int .u8 0, .int .u8 0, .int .u8 0, .int .u8 0, .int .u8 0, .int .u8 0, .int .u8 0, .int .u8 0, .int .u8 0, .int .u8 0, .int .u8 0, .int .u8 0, .int .u8 0, .int .u8 0, .int .u8 0, .int .u8 0, .int .u8 0, .int .u8 0, .int .u8 0, .int .u8 0, .int .u8 0, .int .u8 0, .int .u8 0, .int .u8 0, .int .u8 0, .int .u8 0, .int .u8 0, .int .u8 0, .int .u8 0, .int .u8 0, .int .u8 0, .int .u8 0, .int .u8 0, .int .u8 0, .int .u8 0, .int .u8 0, .int .u8 0, .int .u8 0, .int .u8 0, .int .u8 0, .int .u8 0, .int .u8 0, .int .u8 0, .int .u8 0, .int .u8 0, .int .u8 0, .int .u8 0, .int .u8 0, .int .u8 0, .int .u8 0, .int .u8 0, .int .u8 0, .int .u8 0, .int .u8 0, .int .u8 0, .int .u8 0, .int .u8 0, .int .u8 0, .int .u8 0, .int .u8 0, .int .u8 0, .int .u8 0, .int .u8 0, .int .u8 0, .int .u8 0, .int .u8 0, .int .u8 0, .int .u8 0, .int .u8 0, .int .u8 0, .int .u8 0, .int .u8 0, .int .u8 0, .int .u8 0, .int .u8 0, .int .u8 0, .int .u8 0, .int .u8 0, .int .u8 0, .int .u8 0, .int .u8 0, .int .u8 0, .int .u8 0, .int .u8 0, .int .u8 0, .int .u8 0, .int .u8 0, .int .u8 0, .int .u8 0, .int .u8 0, .int .u8 0, .int .u8 0, .int .u8 0, .int .u8 0, .int .u8 0, .int .u8 0, .int .u8 0, .int .u8 0, .int .u8 0, .int .u8 0, .int .u8 0, .int .u8 0, .int .u8 0, .int .u8 0, .int .u8 0, .int .u8 0, .int .u8 0, .int .u8 0, .int .u8 0, .int .u8 0, .int .u8 0, .int .u8 0, .int .u8 0, .int .u8 0, .int .u8 0, .int .u8 0, .int .u8 0, .int .u8 0, .int .u8 0, .int .u8 0, .int .u8 0, .int .u8 0, .int .u8 0, .int .u8 0, .int .u8 0, .int .u8 0, .int .u8 0, .int .u8 0, .int .u8 0, .int .u8 0, .int .u8 0, .int .u8 0, .int .u8 0, .int .u8 0, .int .u8 0, .int .u8 0, .int .u8 0, .int .u8 0, .int .u8 0, .int .u8 0, .int .u8 0, .int .u8 0, .int .u8 0, .int .u8 0, .int .u8 0, .int .u8 0, .int .u8 0, .int .u8 0, .int .u8 0, .int .u8 0, .int .u8 0, .int .u8 0, .int .u8 0, .int .u8 0, .int .u8 0, .int .u8 0, .int .u8 0, .int .u8 0, .int .u8 0, .int .u8 0, .int .u8 0, .int .u8 0, .int .u8 0, .int .u8 0, .int .u8 0, .int .u8 0, .int .u8 0]
theorem z118_len : z118.length = 256 := by kernel_rfl
instance : ZeroT Tryd.prog 118 z118 := ⟨fun _ => ⟨valL z118, rfl, by kernel_rfl⟩⟩
instance : ArrayT Tryd.prog 118 256 5 1 := ⟨by kernel_rfl, fun _ => by kernel_rfl⟩
instance : StructT Tryd.prog 118 (fun i => some (i * 1, 1)) z118 := arrayT_mk (n := 256) (e := 5) (by kernel_rfl) (fun _ => by kernel_rfl)
instance : AggT Tryd.prog 119 2 := ⟨fun _ => by kernel_rfl⟩
instance : SizeT Tryd.prog 119 2 := ⟨fun _ => by kernel_rfl⟩
abbrev z119 : List Value := [.int .u8 0, .int .u8 0]
instance : ZeroT Tryd.prog 119 [.int .u8 0, .int .u8 0] := ⟨fun _ => ⟨valL z119, rfl, by kernel_rfl⟩⟩
instance : FieldT Tryd.prog 119 0 0 5 := ⟨⟨_, Tryd.underlying119, _, rfl, rfl, rfl⟩, ⟨1, by decide, fun _ => by kernel_rfl⟩⟩
instance : FieldT Tryd.prog 119 1 1 5 := ⟨⟨_, Tryd.underlying119, _, rfl, rfl, rfl⟩, ⟨1, by decide, fun _ => by kernel_rfl⟩⟩
instance : StructT Tryd.prog 119 (fun i => (#[(0, 1), (1, 1)] : Array (Nat × Nat))[i]?) [.int .u8 0, .int .u8 0] := structT_mk Tryd.underlying119 (fun _ => by kernel_rfl)
instance : AggT Tryd.prog 120 2 := ⟨fun _ => by kernel_rfl⟩
instance : SizeT Tryd.prog 120 2 := ⟨fun _ => by kernel_rfl⟩
abbrev z120 : List Value := [.int .u8 0, .int .u8 0]
instance : ZeroT Tryd.prog 120 [.int .u8 0, .int .u8 0] := ⟨fun _ => ⟨valL z120, rfl, by kernel_rfl⟩⟩
instance : FieldT Tryd.prog 120 0 0 5 := ⟨⟨_, Tryd.underlying120, _, rfl, rfl, rfl⟩, ⟨1, by decide, fun _ => by kernel_rfl⟩⟩
instance : FieldT Tryd.prog 120 1 1 5 := ⟨⟨_, Tryd.underlying120, _, rfl, rfl, rfl⟩, ⟨1, by decide, fun _ => by kernel_rfl⟩⟩
instance : StructT Tryd.prog 120 (fun i => (#[(0, 1), (1, 1)] : Array (Nat × Nat))[i]?) [.int .u8 0, .int .u8 0] := structT_mk Tryd.underlying120 (fun _ => by kernel_rfl)
instance : AggT Tryd.prog 121 32 := ⟨fun _ => by kernel_rfl⟩
instance : SizeT Tryd.prog 121 32 := ⟨fun _ => by kernel_rfl⟩
def z121 : List Value := [.int .u8 0, .int .u8 0, .int .u8 0, .int .u8 0, .int .u8 0, .int .u8 0, .int .u8 0, .int .u8 0, .int .u8 0, .int .u8 0, .int .u8 0, .int .u8 0, .int .u8 0, .int .u8 0, .int .u8 0, .int .u8 0, .int .u8 0, .int .u8 0, .int .u8 0, .int .u8 0, .int .u8 0, .int .u8 0, .int .u8 0, .int .u8 0, .int .u8 0, .int .u8 0, .int .u8 0, .int .u8 0, .int .u8 0, .int .u8 0, .int .u8 0, .int .u8 0]
theorem z121_len : z121.length = 32 := by kernel_rfl
instance : ZeroT Tryd.prog 121 z121 := ⟨fun _ => ⟨valL z121, rfl, by kernel_rfl⟩⟩
instance : ArrayT Tryd.prog 121 16 120 2 := ⟨by kernel_rfl, fun _ => by kernel_rfl⟩
instance : StructT Tryd.prog 121 (fun i => some (i * 2, 2)) z121 := arrayT_mk (n := 16) (e := 120) (by kernel_rfl) (fun _ => by kernel_rfl)
instance : ScalarT Tryd.prog 122 := ⟨fun _ => by kernel_rfl⟩
instance : SizeT Tryd.prog 122 1 := ⟨fun _ => by kernel_rfl⟩
instance : ZeroT Tryd.prog 122 [.nilFunc] := ⟨fun _ => ⟨.nilFunc, rfl, by kernel_rfl⟩⟩
instance : ScalarT Tryd.prog 123 := ⟨fun _ => by kernel_rfl⟩
instance : SizeT Tryd.prog 123 1 := ⟨fun _ => by kernel_rfl⟩
instance : ZeroT Tryd.prog 123 [.nilFunc] := ⟨fun _ => ⟨.nilFunc, rfl, by kernel_rfl⟩⟩
instance : ScalarT Tryd.prog 125 := ⟨fun _ => by kernel_rfl⟩
instance : SizeT Tryd.prog 125 1 := ⟨fun _ => by kernel_rfl⟩
instance : ZeroT Tryd.prog 125 [.nilFunc] := ⟨fun _ => ⟨.nilFunc, rfl, by kernel_rfl⟩⟩
instance : AggT Tryd.prog 126 32 := ⟨fun _ => by kernel_rfl⟩
instance : SizeT Tryd.prog 126 32 := ⟨fun _ => by kernel_rfl⟩
def z126 : List Value := [.int .u8 0, .int .u8 0, .int .u8 0, .int .u8 0, .int .u8 0, .int .u8 0, .int .u8 0, .int .u8 0, .int .u8 0, .int .u8 0, .int .u8 0, .int .u8 0, .int .u8 0, .int .u8 0, .int .u8 0, .int .u8 0, .int .u8 0, .int .u8 0, .int .u8 0, .int .u8 0, .int .u8 0, .int .u8 0, .int .u8 0, .int .u8 0, .int .u8 0, .int .u8 0, .int .u8 0, .int .u8 0, .int .u8 0, .int .u8 0, .int .u8 0, .int .u8 0]
theorem z126_len : z126.length = 32 := by kernel_rfl
instance : ZeroT Tryd.prog 126 z126 := ⟨fun _ => ⟨valL z126, rfl, by kernel_rfl⟩⟩
instance : ArrayT Tryd.prog 126 32 5 1 := ⟨by kernel_rfl, fun _ => by kernel_rfl⟩
instance : StructT Tryd.prog 126 (fun i => some (i * 1, 1)) z126 := arrayT_mk (n := 32) (e := 5) (by kernel_rfl) (fun _ => by kernel_rfl)
instance : AggT Tryd.prog 127 64 := ⟨fun _ => by kernel_rfl⟩
instance : SizeT Tryd.prog 127 64 := ⟨fun _ => by kernel_rfl⟩
def z127 : List Value := [.int .u8 0, .int .u8 0, .int .u8 0, .int .u8 0, .int .u8 0, .int .u8 0, .int .u8 0, .int .u8 0, .int .u8 0, .int .u8 0, .int .u8 0, .int .u8 0, .int .u8 0, .int .u8 0, .int .u8 0, .int .u8 0, .int .u8 0, .int .u8 0, .int .u8 0, .int .u8 0, .int .u8 0, .int .u8 0, .int .u8 0, .int .u8 0, .int .u8 0, .int .u8 0, .int .u8 0, .int .u8 0, .int .u8 0, .int .u8 0, .int .u8 0, .int .u8 0, .int .u8 0, .int .u8 0, .int .u8 0, .int .u8 0, .int .u8 0, .int .u8 0, .int .u8 0, .int .u8 0, .int .u8 0, .int .u8 0, .int .u8 0, .int .u8 0, .int .u8 0, .int .u8 0, .int .u8 0, .int .u8 0, .int .u8 0, .int .u8 0, .int .u8 0, .int .u8 0, .int .u8 0, .int .u8 0, .int .u8 0, .int .u8 0, .int .u8 0, .int .u8 0, .int .u8 0, .int .u8 0, .int .u8 0, .int .u8 0, .int .u8 0, .int .u8 0]
theorem z127_len : z127.length = 64 := by kernel_rfl
instance : ZeroT Tryd.prog 127 z127 := ⟨fun _ => ⟨valL z127, rfl, by kernel_rfl⟩⟩
instance : ArrayT Tryd.prog 127 64 5 1 := ⟨by kernel_rfl, fun _ => by kernel_rfl⟩
instance : StructT Tryd.prog 127 (fun i => some (i * 1, 1)) z127 := arrayT_mk (n := 64) (e := 5) (by kernel_rfl) (fun _ => by kernel_rfl)
instance : ScalarT Tryd.prog 128 := ⟨fun _ => by kernel_rfl⟩
instance : SizeT Tryd.prog 128 1 := ⟨fun _ => by kernel_rfl⟩
instance : ZeroT Tryd.prog 128 [.nilFunc] := ⟨fun _ => ⟨.nilFunc, rfl, by kernel_rfl⟩⟩
instance : AggT Tryd.prog 129 4 := ⟨fun _ => by kernel_rfl⟩
instance : SizeT Tryd.prog 129 4 := ⟨fun _ => by kernel_rfl⟩
abbrev z129 : List Value := [.pointer none, .pointer none, .pointer none, .string ⟨#[]⟩]
instance : ZeroT Tryd.prog 129 [.pointer none, .pointer none, .pointer none, .string ⟨#[]⟩] := ⟨fun _ => ⟨valL z129, rfl, by kernel_rfl⟩⟩
instance : FieldT Tryd.prog 129 0 0 17 := ⟨⟨_, Tryd.underlying129, _, rfl, rfl, rfl⟩, ⟨1, by decide, fun _ => by kernel_rfl⟩⟩
instance : FieldT Tryd.prog 129 1 1 17 := ⟨⟨_, Tryd.underlying129, _, rfl, rfl, rfl⟩, ⟨1, by decide, fun _ => by kernel_rfl⟩⟩
instance : FieldT Tryd.prog 129 2 2 17 := ⟨⟨_, Tryd.underlying129, _, rfl, rfl, rfl⟩, ⟨1, by decide, fun _ => by kernel_rfl⟩⟩
instance : FieldT Tryd.prog 129 3 3 9 := ⟨⟨_, Tryd.underlying129, _, rfl, rfl, rfl⟩, ⟨1, by decide, fun _ => by kernel_rfl⟩⟩
instance : StructT Tryd.prog 129 (fun i => (#[(0, 1), (1, 1), (2, 1), (3, 1)] : Array (Nat × Nat))[i]?) [.pointer none, .pointer none, .pointer none, .string ⟨#[]⟩] := structT_mk Tryd.underlying129 (fun _ => by kernel_rfl)
instance : AggT Tryd.prog 130 4 := ⟨fun _ => by kernel_rfl⟩
instance : SizeT Tryd.prog 130 4 := ⟨fun _ => by kernel_rfl⟩
abbrev z130 : List Value := [.pointer none, .pointer none, .pointer none, .string ⟨#[]⟩]
instance : ZeroT Tryd.prog 130 [.pointer none, .pointer none, .pointer none, .string ⟨#[]⟩] := ⟨fun _ => ⟨valL z130, rfl, by kernel_rfl⟩⟩
instance : FieldT Tryd.prog 130 0 0 17 := ⟨⟨_, Tryd.underlying130, _, rfl, rfl, rfl⟩, ⟨1, by decide, fun _ => by kernel_rfl⟩⟩
instance : FieldT Tryd.prog 130 1 1 17 := ⟨⟨_, Tryd.underlying130, _, rfl, rfl, rfl⟩, ⟨1, by decide, fun _ => by kernel_rfl⟩⟩
instance : FieldT Tryd.prog 130 2 2 17 := ⟨⟨_, Tryd.underlying130, _, rfl, rfl, rfl⟩, ⟨1, by decide, fun _ => by kernel_rfl⟩⟩
instance : FieldT Tryd.prog 130 3 3 9 := ⟨⟨_, Tryd.underlying130, _, rfl, rfl, rfl⟩, ⟨1, by decide, fun _ => by kernel_rfl⟩⟩
instance : StructT Tryd.prog 130 (fun i => (#[(0, 1), (1, 1), (2, 1), (3, 1)] : Array (Nat × Nat))[i]?) [.pointer none, .pointer none, .pointer none, .string ⟨#[]⟩] := structT_mk Tryd.underlying130 (fun _ => by kernel_rfl)
instance : AggT Tryd.prog 131 0 := ⟨fun _ => by kernel_rfl⟩
instance : SizeT Tryd.prog 131 0 := ⟨fun _ => by kernel_rfl⟩
abbrev z131 : List Value := []
instance : ZeroT Tryd.prog 131 [] := ⟨fun _ => ⟨valL z131, rfl, by kernel_rfl⟩⟩
instance : ArrayT Tryd.prog 131 0 16 1 := ⟨by kernel_rfl, fun _ => by kernel_rfl⟩
instance : StructT Tryd.prog 131 (fun i => some (i * 1, 1)) [] := arrayT_mk (n := 0) (e := 16) (by kernel_rfl) (fun _ => by kernel_rfl)
instance : AggT Tryd.prog 132 0 := ⟨fun _ => by kernel_rfl⟩
instance : SizeT Tryd.prog 132 0 := ⟨fun _ => by kernel_rfl⟩
abbrev z132 : List Value := []
instance : ZeroT Tryd.prog 132 [] := ⟨fun _ => ⟨valL z132, rfl, by kernel_rfl⟩⟩
instance : StructT Tryd.prog 132 (fun i => (#[(0, 0)] : Array (Nat × Nat))[i]?) [] := structT_mk Tryd.underlying132 (fun _ => by kernel_rfl)
instance : AggT Tryd.prog 133 0 := ⟨fun _ => by kernel_rfl⟩
instance : SizeT Tryd.prog 133 0 := ⟨fun _ => by kernel_rfl⟩
abbrev z133 : List Value := []
instance : ZeroT Tryd.prog 133 [] := ⟨fun _ => ⟨valL z133, rfl, by kernel_rfl⟩⟩
instance : StructT Tryd.prog 133 (fun i => (#[(0, 0)] : Array (Nat × Nat))[i]?) [] := structT_mk Tryd.underlying133 (fun _ => by kernel_rfl)
instance : ScalarT Tryd.prog 134 := ⟨fun _ => by kernel_rfl⟩
instance : SizeT Tryd.prog 134 1 := ⟨fun _ => by kernel_rfl⟩
instance : ZeroT Tryd.prog 134 [.nilFunc] := ⟨fun _ => ⟨.nilFunc, rfl, by kernel_rfl⟩⟩
instance : ScalarT Tryd.prog 135 := ⟨fun _ => by kernel_rfl⟩
instance : SizeT Tryd.prog 135 1 := ⟨fun _ => by kernel_rfl⟩
instance : ZeroT Tryd.prog 135 [.int .u8 0] := ⟨fun _ => ⟨.int .u8 0, rfl, by kernel_rfl⟩⟩
instance : ScalarT Tryd.prog 136 := ⟨fun _ => by kernel_rfl⟩
instance : SizeT Tryd.prog 136 1 := ⟨fun _ => by kernel_rfl⟩
instance : ZeroT Tryd.prog 136 [.int .u8 0] := ⟨fun _ => ⟨.int .u8 0, rfl, by kernel_rfl⟩⟩
instance : ScalarT Tryd.prog 137 := ⟨fun _ => by kernel_rfl⟩
instance : SizeT Tryd.prog 137 1 := ⟨fun _ => by kernel_rfl⟩
instance : ZeroT Tryd.prog 137 [.nilFunc] := ⟨fun _ => ⟨.nilFunc, rfl, by kernel_rfl⟩⟩
instance : ScalarT Tryd.prog 138 := ⟨fun _ => by kernel_rfl⟩
instance : SizeT Tryd.prog 138 1 := ⟨fun _ => by kernel_rfl⟩
instance : ZeroT Tryd.prog 138 [.int .i32 0] := ⟨fun _ => ⟨.int .i32 0, rfl, by kernel_rfl⟩⟩
instance : ScalarT Tryd.prog 139 := ⟨fun _ => by kernel_rfl⟩
instance : SizeT Tryd.prog 139 1 := ⟨fun _ => by kernel_rfl⟩
instance : ZeroT Tryd.prog 139 [.int .i32 0] := ⟨fun _ => ⟨.int .i32 0, rfl, by kernel_rfl⟩⟩
instance : AggT Tryd.prog 140 11 := ⟨fun _ => by kernel_rfl⟩
instance : SizeT Tryd.prog 140 11 := ⟨fun _ => by kernel_rfl⟩
abbrev z140 : List Value := [.int .u64 0, .int .u64 0, .int .u32 0, .int .u8 0, .int .u8 0, .int .u8 0, .int .u8 0, .nilFunc, .pointer none, .int .i32 0, .int .i32 0]
instance : ZeroT Tryd.prog 140 [.int .u64 0, .int .u64 0, .int .u32 0, .int .u8 0, .int .u8 0, .int .u8 0, .int .u8 0, .nilFunc, .pointer none, .int .i32 0, .int .i32 0] := ⟨fun _ => ⟨valL z140, rfl, by kernel_rfl⟩⟩
instance : FieldT Tryd.prog 140 0 0 12 := ⟨⟨_, Tryd.underlying140, _, rfl, rfl, rfl⟩, ⟨1, by decide, fun _ => by kernel_rfl⟩⟩
instance : FieldT Tryd.prog 140 1 1 12 := ⟨⟨_, Tryd.underlying140, _, rfl, rfl, rfl⟩, ⟨1, by decide, fun _ => by kernel_rfl⟩⟩
instance : FieldT Tryd.prog 140 2 2 37 := ⟨⟨_, Tryd.underlying140, _, rfl, rfl, rfl⟩, ⟨1, by decide, fun _ => by kernel_rfl⟩⟩
instance : FieldT Tryd.prog 140 3 3 135 := ⟨⟨_, Tryd.underlying140, _, rfl, rfl, rfl⟩, ⟨1, by decide, fun _ => by kernel_rfl⟩⟩
instance : FieldT Tryd.prog 140 4 4 5 := ⟨⟨_, Tryd.underlying140, _, rfl, rfl, rfl⟩, ⟨1, by decide, fun _ => by kernel_rfl⟩⟩
instance : FieldT Tryd.prog 140 5 5 5 := ⟨⟨_, Tryd.underlying140, _, rfl, rfl, rfl⟩, ⟨1, by decide, fun _ => by kernel_rfl⟩⟩
instance : FieldT Tryd.prog 140 6 6 136 := ⟨⟨_, Tryd.underlying140, _, rfl, rfl, rfl⟩, ⟨1, by decide, fun _ => by kernel_rfl⟩⟩
instance : FieldT Tryd.prog 140 7 7 137 := ⟨⟨_, Tryd.underlying140, _, rfl, rfl, rfl⟩, ⟨1, by decide, fun _ => by kernel_rfl⟩⟩
instance : FieldT Tryd.prog 140 8 8 114 := ⟨⟨_, Tryd.underlying140, _, rfl, rfl, rfl⟩, ⟨1, by decide, fun _ => by kernel_rfl⟩⟩
instance : FieldT Tryd.prog 140 9 9 138 := ⟨⟨_, Tryd.underlying140, _, rfl, rfl, rfl⟩, ⟨1, by decide, fun _ => by kernel_rfl⟩⟩
instance : FieldT Tryd.prog 140 10 10 139 := ⟨⟨_, Tryd.underlying140, _, rfl, rfl, rfl⟩, ⟨1, by decide, fun _ => by kernel_rfl⟩⟩
instance : StructT Tryd.prog 140 (fun i => (#[(0, 1), (1, 1), (2, 1), (3, 1), (4, 1), (5, 1), (6, 1), (7, 1), (8, 1), (9, 1), (10, 1)] : Array (Nat × Nat))[i]?) [.int .u64 0, .int .u64 0, .int .u32 0, .int .u8 0, .int .u8 0, .int .u8 0, .int .u8 0, .nilFunc, .pointer none, .int .i32 0, .int .i32 0] := structT_mk Tryd.underlying140 (fun _ => by kernel_rfl)
instance : AggT Tryd.prog 141 11 := ⟨fun _ => by kernel_rfl⟩
instance : SizeT Tryd.prog 141 11 := ⟨fun _ => by kernel_rfl⟩
abbrev z141 : List Value := [.int .u64 0, .int .u64 0, .int .u32 0, .int .u8 0, .int .u8 0, .int .u8 0, .int .u8 0, .nilFunc, .pointer none, .int .i32 0, .int .i32 0]
instance : ZeroT Tryd.prog 141 [.int .u64 0, .int .u64 0, .int .u32 0, .int .u8 0, .int .u8 0, .int .u8 0, .int .u8 0, .nilFunc, .pointer none, .int .i32 0, .int .i32 0] := ⟨fun _ => ⟨valL z141, rfl, by kernel_rfl⟩⟩
instance : FieldT Tryd.prog 141 0 0 12 := ⟨⟨_, Tryd.underlying141, _, rfl, rfl, rfl⟩, ⟨1, by decide, fun _ => by kernel_rfl⟩⟩
instance : FieldT Tryd.prog 141 1 1 12 := ⟨⟨_, Tryd.underlying141, _, rfl, rfl, rfl⟩, ⟨1, by decide, fun _ => by kernel_rfl⟩⟩
instance : FieldT Tryd.prog 141 2 2 37 := ⟨⟨_, Tryd.underlying141, _, rfl, rfl, rfl⟩, ⟨1, by decide, fun _ => by kernel_rfl⟩⟩
instance : FieldT Tryd.prog 141 3 3 135 := ⟨⟨_, Tryd.underlying141, _, rfl, rfl, rfl⟩, ⟨1, by decide, fun _ => by kernel_rfl⟩⟩
instance : FieldT Tryd.prog 141 4 4 5 := ⟨⟨_, Tryd.underlying141, _, rfl, rfl, rfl⟩, ⟨1, by decide, fun _ => by kernel_rfl⟩⟩
instance : FieldT Tryd.prog 141 5 5 5 := ⟨⟨_, Tryd.underlying141, _, rfl, rfl, rfl⟩, ⟨1, by decide, fun _ => by kernel_rfl⟩⟩
instance : FieldT Tryd.prog 141 6 6 136 := ⟨⟨_, Tryd.underlying141, _, rfl, rfl, rfl⟩, ⟨1, by decide, fun _ => by kernel_rfl⟩⟩
instance : FieldT Tryd.prog 141 7 7 137 := ⟨⟨_, Tryd.underlying141, _, rfl, rfl, rfl⟩, ⟨1, by decide, fun _ => by kernel_rfl⟩⟩
instance : FieldT Tryd.prog 141 8 8 114 := ⟨⟨_, Tryd.underlying141, _, rfl, rfl, rfl⟩, ⟨1, by decide, fun _ => by kernel_rfl⟩⟩
instance : FieldT Tryd.prog 141 9 9 138 := ⟨⟨_, Tryd.underlying141, _, rfl, rfl, rfl⟩, ⟨1, by decide, fun _ => by kernel_rfl⟩⟩
instance : FieldT Tryd.prog 141 10 10 139 := ⟨⟨_, Tryd.underlying141, _, rfl, rfl, rfl⟩, ⟨1, by decide, fun _ => by kernel_rfl⟩⟩
instance : StructT Tryd.prog 141 (fun i => (#[(0, 1), (1, 1), (2, 1), (3, 1), (4, 1), (5, 1), (6, 1), (7, 1), (8, 1), (9, 1), (10, 1)] : Array (Nat × Nat))[i]?) [.int .u64 0, .int .u64 0, .int .u32 0, .int .u8 0, .int .u8 0, .int .u8 0, .int .u8 0, .nilFunc, .pointer none, .int .i32 0, .int .i32 0] := structT_mk Tryd.underlying141 (fun _ => by kernel_rfl)
instance : IntT Tryd.prog 2 .i64 := ⟨by kernel_rfl⟩
instance : NotIface Tryd.prog 2 := ⟨⟨.int .i64, by kernel_rfl, rfl⟩⟩
instance : IntT Tryd.prog 3 .i64 := ⟨by kernel_rfl⟩
instance : NotIface Tryd.prog 3 := ⟨⟨.int .i64, by kernel_rfl, rfl⟩⟩
instance : NotIface Tryd.prog 4 := ⟨⟨.bool, by kernel_rfl, rfl⟩⟩
instance : IntT Tryd.prog 5 .u8 := ⟨by kernel_rfl⟩
instance : NotIface Tryd.prog 5 := ⟨⟨.int .u8, by kernel_rfl, rfl⟩⟩
instance : IntT Tryd.prog 6 .u8 := ⟨by kernel_rfl⟩
instance : NotIface Tryd.prog 6 := ⟨⟨.int .u8, by kernel_rfl, rfl⟩⟩
instance : NotIface Tryd.prog 7 := ⟨⟨_, Tryd.underlying7, rfl⟩⟩
instance : NotIface Tryd.prog 8 := ⟨⟨_, Tryd.underlying8, rfl⟩⟩
instance : NotIface Tryd.prog 9 := ⟨⟨.string, by kernel_rfl, rfl⟩⟩
instance : NotIface Tryd.prog 10 := ⟨⟨.string, by kernel_rfl, rfl⟩⟩
instance : NotIface Tryd.prog 11 := ⟨⟨.string, by kernel_rfl, rfl⟩⟩
instance : IntT Tryd.prog 12 .u64 := ⟨by kernel_rfl⟩
instance : NotIface Tryd.prog 12 := ⟨⟨.int .u64, by kernel_rfl, rfl⟩⟩
instance : NotIface Tryd.prog 13 := ⟨⟨_, Tryd.underlying13, rfl⟩⟩
instance : NotIface Tryd.prog 14 := ⟨⟨_, Tryd.underlying14, rfl⟩⟩
instance : PtrT Tryd.prog 15 := ⟨⟨130, by kernel_rfl⟩⟩
instance : NotIface Tryd.prog 15 := ⟨⟨.pointer 130, by kernel_rfl, rfl⟩⟩
instance : MethP Tryd.prog 15 "Error" 95 := ⟨fun _ _ => by kernel_rfl⟩
instance : MethP Tryd.prog 15 "RuntimeError" 96 := ⟨fun _ _ => by kernel_rfl⟩
instance : PtrT Tryd.prog 16 := ⟨⟨133, by kernel_rfl⟩⟩
instance : NotIface Tryd.prog 16 := ⟨⟨.pointer 133, by kernel_rfl, rfl⟩⟩
instance : MethP Tryd.prog 16 "Error" 97 := ⟨fun _ _ => by kernel_rfl⟩
instance : MethP Tryd.prog 16 "RuntimeError" 98 := ⟨fun _ _ => by kernel_rfl⟩
instance : PtrT Tryd.prog 17 := ⟨⟨141, by kernel_rfl⟩⟩
instance : NotIface Tryd.prog 17 := ⟨⟨.pointer 141, by kernel_rfl, rfl⟩⟩
instance : MethP Tryd.prog 17 "Align" 99 := ⟨fun _ _ => by kernel_rfl⟩
instance : NotIface Tryd.prog 18 := ⟨⟨_, Tryd.underlying18, rfl⟩⟩
instance : NotIface Tryd.prog 19 := ⟨⟨_, Tryd.underlying19, rfl⟩⟩
instance : IntT Tryd.prog 21 .i32 := ⟨by kernel_rfl⟩
instance : NotIface Tryd.prog 21 := ⟨⟨.int .i32, by kernel_rfl, rfl⟩⟩
instance : IntT Tryd.prog 22 .i16 := ⟨by kernel_rfl⟩
instance : NotIface Tryd.prog 22 := ⟨⟨.int .i16, by kernel_rfl, rfl⟩⟩
instance : NotIface Tryd.prog 23 := ⟨⟨_, Tryd.underlying23, rfl⟩⟩
instance : NotIface Tryd.prog 24 := ⟨⟨_, Tryd.underlying24, rfl⟩⟩
instance : IntT Tryd.prog 28 .i64 := ⟨by kernel_rfl⟩
instance : NotIface Tryd.prog 28 := ⟨⟨.int .i64, by kernel_rfl, rfl⟩⟩
instance : NotIface Tryd.prog 34 := ⟨⟨.slice 5, by kernel_rfl, rfl⟩⟩
instance : NotIface Tryd.prog 35 := ⟨⟨.slice 9, by kernel_rfl, rfl⟩⟩
instance : IntT Tryd.prog 37 .u32 := ⟨by kernel_rfl⟩
instance : NotIface Tryd.prog 37 := ⟨⟨.int .u32, by kernel_rfl, rfl⟩⟩
instance : IntT Tryd.prog 38 .u64 := ⟨by kernel_rfl⟩
instance : NotIface Tryd.prog 38 := ⟨⟨.int .u64, by kernel_rfl, rfl⟩⟩
instance : NotIface Tryd.prog 42 := ⟨⟨.slice 24, by kernel_rfl, rfl⟩⟩
instance : NotIface Tryd.prog 49 := ⟨⟨.array 23 9, by kernel_rfl, rfl⟩⟩
instance : IntT Tryd.prog 52 .u16 := ⟨by kernel_rfl⟩
instance : NotIface Tryd.prog 52 := ⟨⟨.int .u16, by kernel_rfl, rfl⟩⟩
instance : IntT Tryd.prog 60 .u64 := ⟨by kernel_rfl⟩
instance : NotIface Tryd.prog 60 := ⟨⟨.int .u64, by kernel_rfl, rfl⟩⟩
instance : NotIface Tryd.prog 62 := ⟨⟨_, Tryd.underlying62, rfl⟩⟩
instance : NotIface Tryd.prog 63 := ⟨⟨_, Tryd.underlying63, rfl⟩⟩
instance : NotIface Tryd.prog 68 := ⟨⟨.slice 3, by kernel_rfl, rfl⟩⟩
instance : NotIface Tryd.prog 74 := ⟨⟨.array 256 4, by kernel_rfl, rfl⟩⟩
instance : NotIface Tryd.prog 75 := ⟨⟨.array 256 4, by kernel_rfl, rfl⟩⟩
instance : PtrT Tryd.prog 79 := ⟨⟨75, by kernel_rfl⟩⟩
instance : NotIface Tryd.prog 79 := ⟨⟨.pointer 75, by kernel_rfl, rfl⟩⟩
instance : MethP Tryd.prog 79 "strings.contains" 54 := ⟨fun _ _ => by kernel_rfl⟩
instance : IntT Tryd.prog 84 .i64 := ⟨by kernel_rfl⟩
instance : NotIface Tryd.prog 84 := ⟨⟨.int .i64, by kernel_rfl, rfl⟩⟩
instance : PtrT Tryd.prog 87 := ⟨⟨105, by kernel_rfl⟩⟩
instance : NotIface Tryd.prog 87 := ⟨⟨.pointer 105, by kernel_rfl, rfl⟩⟩
instance : MethP Tryd.prog 87 "Error" 103 := ⟨fun _ _ => by kernel_rfl⟩
instance : NotIface Tryd.prog 94 := ⟨⟨.array 24 5, by kernel_rfl, rfl⟩⟩
instance : NotIface Tryd.prog 104 := ⟨⟨_, Tryd.underlying104, rfl⟩⟩
instance : NotIface Tryd.prog 105 := ⟨⟨_, Tryd.underlying105, rfl⟩⟩
instance : NotIface Tryd.prog 110 := ⟨⟨.array 20 60, by kernel_rfl, rfl⟩⟩
instance : NotIface Tryd.prog 111 := ⟨⟨.array 65 5, by kernel_rfl, rfl⟩⟩
instance : PtrT Tryd.prog 114 := ⟨⟨5, by kernel_rfl⟩⟩
instance : NotIface Tryd.prog 114 := ⟨⟨.pointer 5, by kernel_rfl, rfl⟩⟩
instance : PtrT Tryd.prog 115 := ⟨⟨117, by kernel_rfl⟩⟩
instance : NotIface Tryd.prog 115 := ⟨⟨.pointer 117, by kernel_rfl, rfl⟩⟩
instance : MethP Tryd.prog 115 "Error" 104 := ⟨fun _ _ => by kernel_rfl⟩
instance : NotIface Tryd.prog 116 := ⟨⟨_, Tryd.underlying116, rfl⟩⟩
instance : NotIface Tryd.prog 117 := ⟨⟨_, Tryd.underlying117, rfl⟩⟩
instance : NotIface Tryd.prog 118 := ⟨⟨.array 256 5, by kernel_rfl, rfl⟩⟩
instance : NotIface Tryd.prog 119 := ⟨⟨_, Tryd.underlying119, rfl⟩⟩
instance : NotIface Tryd.prog 120 := ⟨⟨_, Tryd.underlying120, rfl⟩⟩
instance : NotIface Tryd.prog 121 := ⟨⟨.array 16 120, by kernel_rfl, rfl⟩⟩
instance : NotIface Tryd.prog 126 := ⟨⟨.array 32 5, by kernel_rfl, rfl⟩⟩
instance : NotIface Tryd.prog 127 := ⟨⟨.array 64 5, by kernel_rfl, rfl⟩⟩
instance : NotIface Tryd.prog 129 := ⟨⟨_, Tryd.underlying129, rfl⟩⟩
instance : NotIface Tryd.prog 130 := ⟨⟨_, Tryd.underlying130, rfl⟩⟩
instance : NotIface Tryd.prog 131 := ⟨⟨.array 0 16, by kernel_rfl, rfl⟩⟩
instance : NotIface Tryd.prog 132 := ⟨⟨_, Tryd.underlying132, rfl⟩⟩
instance : NotIface Tryd.prog 133 := ⟨⟨_, Tryd.underlying133, rfl⟩⟩
instance : IntT Tryd.prog 135 .u8 := ⟨by kernel_rfl⟩
instance : NotIface Tryd.prog 135 := ⟨⟨.int .u8, by kernel_rfl, rfl⟩⟩
instance : IntT Tryd.prog 136 .u8 := ⟨by kernel_rfl⟩
instance : NotIface Tryd.prog 136 := ⟨⟨.int .u8, by kernel_rfl, rfl⟩⟩
instance : IntT Tryd.prog 138 .i32 := ⟨by kernel_rfl⟩
instance : NotIface Tryd.prog 138 := ⟨⟨.int .i32, by kernel_rfl, rfl⟩⟩
instance : IntT Tryd.prog 139 .i32 := ⟨by kernel_rfl⟩
instance : NotIface Tryd.prog 139 := ⟨⟨.int .i32, by kernel_rfl, rfl⟩⟩
instance : NotIface Tryd.prog 140 := ⟨⟨_, Tryd.underlying140, rfl⟩⟩
instance : NotIface Tryd.prog 141 := ⟨⟨_, Tryd.underlying141, rfl⟩⟩
instance : ElemT Tryd.prog 34 5 [.int .u8 0] 1 1 := ⟨by kernel_rfl, ⟨Tryd.t5, .int .u8 0, by kernel_rfl, by kernel_rfl, rfl, by kernel_rfl, by kernel_rfl⟩, rfl, by decide⟩
instance : ElemT Tryd.prog 35 9 [.string ⟨#[]⟩] 1 16 := ⟨by kernel_rfl, ⟨Tryd.t9, .string ⟨#[]⟩, by kernel_rfl, by kernel_rfl, rfl, by kernel_rfl, by kernel_rfl⟩, rfl, by decide⟩
instance : ElemT Tryd.prog 42 24 [.int .u8 0, .int .u8 0, .int .u8 0, .int .u8 0, .int .i16 0] 5 6 := ⟨by kernel_rfl, ⟨Tryd.t24, valL z24, by kernel_rfl, by kernel_rfl, rfl, by kernel_rfl, by kernel_rfl⟩, rfl, by decide⟩
instance : ElemT Tryd.prog 68 3 [.int .i64 0] 1 8 := ⟨by kernel_rfl, ⟨Tryd.t3, .int .i64 0, by kernel_rfl, by kernel_rfl, rfl, by kernel_rfl, by kernel_rfl⟩, rfl, by decide⟩
instance : CallT Tryd.prog 2 := ⟨Tryd.call2⟩
instance : CallT Tryd.prog 3 := ⟨Tryd.call3⟩
instance : CallT Tryd.prog 4 := ⟨Tryd.call4⟩
instance : CallT Tryd.prog 5 := ⟨Tryd.call5⟩
instance : CallT Tryd.prog 6 := ⟨Tryd.call6⟩
instance : CallT Tryd.prog 7 := ⟨Tryd.call7⟩
instance : CallT Tryd.prog 8 := ⟨Tryd.call8⟩
instance : CallT Tryd.prog 9 := ⟨Tryd.call9⟩
instance : CallT Tryd.prog 10 := ⟨Tryd.call10⟩
instance : CallT Tryd.prog 11 := ⟨Tryd.call11⟩
instance : CallT Tryd.prog 12 := ⟨Tryd.call12⟩
instance : CallT Tryd.prog 13 := ⟨Tryd.call13⟩
instance : CallT Tryd.prog 14 := ⟨Tryd.call14⟩
instance : CallT Tryd.prog 15 := ⟨Tryd.call15⟩
instance : CallT Tryd.prog 16 := ⟨Tryd.call16⟩
instance : CallT Tryd.prog 17 := ⟨Tryd.call17⟩
instance : CallT Tryd.prog 18 := ⟨Tryd.call18⟩
instance : CallT Tryd.prog 19 := ⟨Tryd.call19⟩
instance : CallT Tryd.prog 20 := ⟨Tryd.call20⟩
instance : CallT Tryd.prog 21 := ⟨Tryd.call21⟩
instance : CallT Tryd.prog 22 := ⟨Tryd.call22⟩
instance : CallT Tryd.prog 23 := ⟨Tryd.call23⟩
instance : CallT Tryd.prog 24 := ⟨Tryd.call24⟩
instance : CallT Tryd.prog 25 := ⟨Tryd.call25⟩
instance : CallT Tryd.prog 26 := ⟨Tryd.call26⟩
instance : CallT Tryd.prog 27 := ⟨Tryd.call27⟩
instance : CallT Tryd.prog 28 := ⟨Tryd.call28⟩
instance : CallT Tryd.prog 29 := ⟨Tryd.call29⟩
instance : CallT Tryd.prog 30 := ⟨Tryd.call30⟩
instance : CallT Tryd.prog 31 := ⟨Tryd.call31⟩
instance : CallT Tryd.prog 32 := ⟨Tryd.call32⟩
instance : CallT Tryd.prog 33 := ⟨Tryd.call33⟩
instance : CallT Tryd.prog 34 := ⟨Tryd.call34⟩
instance : CallT Tryd.prog 35 := ⟨Tryd.call35⟩
instance : CallT Tryd.prog 36 := ⟨Tryd.call36⟩
instance : CallT Tryd.prog 37 := ⟨Tryd.call37⟩
instance : CallT Tryd.prog 38 := ⟨Tryd.call38⟩
instance : CallT Tryd.prog 39 := ⟨Tryd.call39⟩
instance : CallT Tryd.prog 40 := ⟨Tryd.call40⟩
instance : CallT Tryd.prog 41 := ⟨Tryd.call41⟩
instance : CallT Tryd.prog 42 := ⟨Tryd.call42⟩
instance : CallT Tryd.prog 43 := ⟨Tryd.call43⟩
instance : CallT Tryd.prog 44 := ⟨Tryd.call44⟩
instance : CallT Tryd.prog 45 := ⟨Tryd.call45⟩
instance : CallT Tryd.prog 46 := ⟨Tryd.call46⟩
instance : CallT Tryd.prog 47 := ⟨Tryd.call47⟩
instance : CallT Tryd.prog 48 := ⟨Tryd.call48⟩
instance : CallT Tryd.prog 49 := ⟨Tryd.call49⟩
instance : CallT Tryd.prog 50 := ⟨Tryd.call50⟩
instance : CallT Tryd.prog 51 := ⟨Tryd.call51⟩
instance : CallT Tryd.prog 52 := ⟨Tryd.call52⟩
instance : CallT Tryd.prog 53 := ⟨Tryd.call53⟩
instance : CallT Tryd.prog 54 := ⟨Tryd.call54⟩
instance : CallT Tryd.prog 55 := ⟨Tryd.call55⟩
instance : CallT Tryd.prog 56 := ⟨Tryd.call56⟩
instance : CallT Tryd.prog 57 := ⟨Tryd.call57⟩
instance : CallT Tryd.prog 58 := ⟨Tryd.call58⟩
instance : CallT Tryd.prog 59 := ⟨Tryd.call59⟩
instance : CallT Tryd.prog 60 := ⟨Tryd.call60⟩
instance : CallT Tryd.prog 61 := ⟨Tryd.call61⟩
instance : CallT Tryd.prog 62 := ⟨Tryd.call62⟩
instance : CallT Tryd.prog 64 := ⟨Tryd.call64⟩
instance : CallT Tryd.prog 65 := ⟨Tryd.call65⟩
instance : CallT Tryd.prog 66 := ⟨Tryd.call66⟩
instance : CallT Tryd.prog 67 := ⟨Tryd.call67⟩
instance : CallT Tryd.prog 68 := ⟨Tryd.call68⟩
instance : CallT Tryd.prog 69 := ⟨Tryd.call69⟩
instance : CallT Tryd.prog 70 := ⟨Tryd.call70⟩
instance : CallT Tryd.prog 71 := ⟨Tryd.call71⟩
instance : CallT Tryd.prog 72 := ⟨Tryd.call72⟩
instance : CallT Tryd.prog 73 := ⟨Tryd.call73⟩
instance : CallT Tryd.prog 74 := ⟨Tryd.call74⟩
instance : CallT Tryd.prog 75 := ⟨Tryd.call75⟩
instance : CallT Tryd.prog 76 := ⟨Tryd.call76⟩
instance : CallT Tryd.prog 77 := ⟨Tryd.call77⟩
instance : CallT Tryd.prog 79 := ⟨Tryd.call79⟩
instance : CallT Tryd.prog 80 := ⟨Tryd.call80⟩
instance : CallT Tryd.prog 81 := ⟨Tryd.call81⟩
instance : CallT Tryd.prog 82 := ⟨Tryd.call82⟩
instance : CallT Tryd.prog 83 := ⟨Tryd.call83⟩
instance : CallT Tryd.prog 84 := ⟨Tryd.call84⟩
instance : CallT Tryd.prog 86 := ⟨Tryd.call86⟩
instance : CallT Tryd.prog 116 := ⟨Tryd.call116⟩
end Go.Proofs.YtpilffakhkagjaaDoor
