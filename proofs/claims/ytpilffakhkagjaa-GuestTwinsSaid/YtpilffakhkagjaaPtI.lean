/- PRINTED BY inst.py (a program of this work): what the engine asks of this dump's types and functions. -/
import Derived.Test.YtpilffakhkagjaaPtB
import Derived.Test.YtpilffakhkagjaaProg
namespace Go.Proofs.Ytpilffakhkagjaa
open Go Go.Pt
instance : ScalarT Try.prog 1 := ⟨fun _ => by kernel_rfl⟩
instance : SizeT Try.prog 1 1 := ⟨fun _ => by kernel_rfl⟩
instance : ZeroT Try.prog 1 [.nilFunc] := ⟨fun _ => ⟨.nilFunc, rfl, by kernel_rfl⟩⟩
instance : ScalarT Try.prog 2 := ⟨fun _ => by kernel_rfl⟩
instance : SizeT Try.prog 2 1 := ⟨fun _ => by kernel_rfl⟩
instance : ZeroT Try.prog 2 [.int .i64 0] := ⟨fun _ => ⟨.int .i64 0, rfl, by kernel_rfl⟩⟩
instance : ScalarT Try.prog 3 := ⟨fun _ => by kernel_rfl⟩
instance : SizeT Try.prog 3 1 := ⟨fun _ => by kernel_rfl⟩
instance : ZeroT Try.prog 3 [.int .i64 0] := ⟨fun _ => ⟨.int .i64 0, rfl, by kernel_rfl⟩⟩
instance : ScalarT Try.prog 4 := ⟨fun _ => by kernel_rfl⟩
instance : SizeT Try.prog 4 1 := ⟨fun _ => by kernel_rfl⟩
instance : ZeroT Try.prog 4 [.bool false] := ⟨fun _ => ⟨.bool false, rfl, by kernel_rfl⟩⟩
instance : ScalarT Try.prog 5 := ⟨fun _ => by kernel_rfl⟩
instance : SizeT Try.prog 5 1 := ⟨fun _ => by kernel_rfl⟩
instance : ZeroT Try.prog 5 [.int .u8 0] := ⟨fun _ => ⟨.int .u8 0, rfl, by kernel_rfl⟩⟩
instance : ScalarT Try.prog 6 := ⟨fun _ => by kernel_rfl⟩
instance : SizeT Try.prog 6 1 := ⟨fun _ => by kernel_rfl⟩
instance : ZeroT Try.prog 6 [.int .u8 0] := ⟨fun _ => ⟨.int .u8 0, rfl, by kernel_rfl⟩⟩
instance : AggT Try.prog 7 4 := ⟨fun _ => by kernel_rfl⟩
instance : SizeT Try.prog 7 4 := ⟨fun _ => by kernel_rfl⟩
abbrev z7 : List Value := [.int .i64 0, .int .i64 0, .bool false, .int .u8 0]
instance : ZeroT Try.prog 7 [.int .i64 0, .int .i64 0, .bool false, .int .u8 0] := ⟨fun _ => ⟨valL z7, rfl, by kernel_rfl⟩⟩
instance : FieldT Try.prog 7 0 0 2 := ⟨⟨_, Try.underlying7, _, rfl, rfl, rfl⟩, ⟨1, by decide, fun _ => by kernel_rfl⟩⟩
instance : FieldT Try.prog 7 1 1 3 := ⟨⟨_, Try.underlying7, _, rfl, rfl, rfl⟩, ⟨1, by decide, fun _ => by kernel_rfl⟩⟩
instance : FieldT Try.prog 7 2 2 4 := ⟨⟨_, Try.underlying7, _, rfl, rfl, rfl⟩, ⟨1, by decide, fun _ => by kernel_rfl⟩⟩
instance : FieldT Try.prog 7 3 3 6 := ⟨⟨_, Try.underlying7, _, rfl, rfl, rfl⟩, ⟨1, by decide, fun _ => by kernel_rfl⟩⟩
instance : StructT Try.prog 7 (fun i => (#[(0, 1), (1, 1), (2, 1), (3, 1)] : Array (Nat × Nat))[i]?) [.int .i64 0, .int .i64 0, .bool false, .int .u8 0] := structT_mk Try.underlying7 (fun _ => by kernel_rfl)
instance : AggT Try.prog 8 4 := ⟨fun _ => by kernel_rfl⟩
instance : SizeT Try.prog 8 4 := ⟨fun _ => by kernel_rfl⟩
abbrev z8 : List Value := [.int .i64 0, .int .i64 0, .bool false, .int .u8 0]
instance : ZeroT Try.prog 8 [.int .i64 0, .int .i64 0, .bool false, .int .u8 0] := ⟨fun _ => ⟨valL z8, rfl, by kernel_rfl⟩⟩
instance : FieldT Try.prog 8 0 0 2 := ⟨⟨_, Try.underlying8, _, rfl, rfl, rfl⟩, ⟨1, by decide, fun _ => by kernel_rfl⟩⟩
instance : FieldT Try.prog 8 1 1 3 := ⟨⟨_, Try.underlying8, _, rfl, rfl, rfl⟩, ⟨1, by decide, fun _ => by kernel_rfl⟩⟩
instance : FieldT Try.prog 8 2 2 4 := ⟨⟨_, Try.underlying8, _, rfl, rfl, rfl⟩, ⟨1, by decide, fun _ => by kernel_rfl⟩⟩
instance : FieldT Try.prog 8 3 3 6 := ⟨⟨_, Try.underlying8, _, rfl, rfl, rfl⟩, ⟨1, by decide, fun _ => by kernel_rfl⟩⟩
instance : StructT Try.prog 8 (fun i => (#[(0, 1), (1, 1), (2, 1), (3, 1)] : Array (Nat × Nat))[i]?) [.int .i64 0, .int .i64 0, .bool false, .int .u8 0] := structT_mk Try.underlying8 (fun _ => by kernel_rfl)
instance : ScalarT Try.prog 9 := ⟨fun _ => by kernel_rfl⟩
instance : SizeT Try.prog 9 1 := ⟨fun _ => by kernel_rfl⟩
instance : ZeroT Try.prog 9 [.string ⟨#[]⟩] := ⟨fun _ => ⟨.string ⟨#[]⟩, rfl, by kernel_rfl⟩⟩
instance : ScalarT Try.prog 10 := ⟨fun _ => by kernel_rfl⟩
instance : SizeT Try.prog 10 1 := ⟨fun _ => by kernel_rfl⟩
instance : ZeroT Try.prog 10 [.string ⟨#[]⟩] := ⟨fun _ => ⟨.string ⟨#[]⟩, rfl, by kernel_rfl⟩⟩
instance : ScalarT Try.prog 11 := ⟨fun _ => by kernel_rfl⟩
instance : SizeT Try.prog 11 1 := ⟨fun _ => by kernel_rfl⟩
instance : ZeroT Try.prog 11 [.string ⟨#[]⟩] := ⟨fun _ => ⟨.string ⟨#[]⟩, rfl, by kernel_rfl⟩⟩
instance : ScalarT Try.prog 12 := ⟨fun _ => by kernel_rfl⟩
instance : SizeT Try.prog 12 1 := ⟨fun _ => by kernel_rfl⟩
instance : ZeroT Try.prog 12 [.int .u64 0] := ⟨fun _ => ⟨.int .u64 0, rfl, by kernel_rfl⟩⟩
instance : AggT Try.prog 13 2 := ⟨fun _ => by kernel_rfl⟩
instance : SizeT Try.prog 13 2 := ⟨fun _ => by kernel_rfl⟩
abbrev z13 : List Value := [.string ⟨#[]⟩, .int .u64 0]
instance : ZeroT Try.prog 13 [.string ⟨#[]⟩, .int .u64 0] := ⟨fun _ => ⟨valL z13, rfl, by kernel_rfl⟩⟩
instance : FieldT Try.prog 13 0 0 9 := ⟨⟨_, Try.underlying13, _, rfl, rfl, rfl⟩, ⟨1, by decide, fun _ => by kernel_rfl⟩⟩
instance : FieldT Try.prog 13 1 1 12 := ⟨⟨_, Try.underlying13, _, rfl, rfl, rfl⟩, ⟨1, by decide, fun _ => by kernel_rfl⟩⟩
instance : StructT Try.prog 13 (fun i => (#[(0, 1), (1, 1)] : Array (Nat × Nat))[i]?) [.string ⟨#[]⟩, .int .u64 0] := structT_mk Try.underlying13 (fun _ => by kernel_rfl)
instance : AggT Try.prog 14 2 := ⟨fun _ => by kernel_rfl⟩
instance : SizeT Try.prog 14 2 := ⟨fun _ => by kernel_rfl⟩
abbrev z14 : List Value := [.string ⟨#[]⟩, .int .u64 0]
instance : ZeroT Try.prog 14 [.string ⟨#[]⟩, .int .u64 0] := ⟨fun _ => ⟨valL z14, rfl, by kernel_rfl⟩⟩
instance : FieldT Try.prog 14 0 0 9 := ⟨⟨_, Try.underlying14, _, rfl, rfl, rfl⟩, ⟨1, by decide, fun _ => by kernel_rfl⟩⟩
instance : FieldT Try.prog 14 1 1 12 := ⟨⟨_, Try.underlying14, _, rfl, rfl, rfl⟩, ⟨1, by decide, fun _ => by kernel_rfl⟩⟩
instance : StructT Try.prog 14 (fun i => (#[(0, 1), (1, 1)] : Array (Nat × Nat))[i]?) [.string ⟨#[]⟩, .int .u64 0] := structT_mk Try.underlying14 (fun _ => by kernel_rfl)
instance : ScalarT Try.prog 15 := ⟨fun _ => by kernel_rfl⟩
instance : SizeT Try.prog 15 1 := ⟨fun _ => by kernel_rfl⟩
instance : ZeroT Try.prog 15 [.pointer none] := ⟨fun _ => ⟨.pointer none, rfl, by kernel_rfl⟩⟩
instance : ScalarT Try.prog 16 := ⟨fun _ => by kernel_rfl⟩
instance : SizeT Try.prog 16 1 := ⟨fun _ => by kernel_rfl⟩
instance : ZeroT Try.prog 16 [.pointer none] := ⟨fun _ => ⟨.pointer none, rfl, by kernel_rfl⟩⟩
instance : ScalarT Try.prog 17 := ⟨fun _ => by kernel_rfl⟩
instance : SizeT Try.prog 17 1 := ⟨fun _ => by kernel_rfl⟩
instance : ZeroT Try.prog 17 [.pointer none] := ⟨fun _ => ⟨.pointer none, rfl, by kernel_rfl⟩⟩
instance : AggT Try.prog 18 1 := ⟨fun _ => by kernel_rfl⟩
instance : SizeT Try.prog 18 1 := ⟨fun _ => by kernel_rfl⟩
abbrev z18 : List Value := [.pointer none]
instance : ZeroT Try.prog 18 [.pointer none] := ⟨fun _ => ⟨valL z18, rfl, by kernel_rfl⟩⟩
instance : FieldT Try.prog 18 0 0 17 := ⟨⟨_, Try.underlying18, _, rfl, rfl, rfl⟩, ⟨1, by decide, fun _ => by kernel_rfl⟩⟩
instance : StructT Try.prog 18 (fun i => (#[(0, 1)] : Array (Nat × Nat))[i]?) [.pointer none] := structT_mk Try.underlying18 (fun _ => by kernel_rfl)
instance : AggT Try.prog 19 1 := ⟨fun _ => by kernel_rfl⟩
instance : SizeT Try.prog 19 1 := ⟨fun _ => by kernel_rfl⟩
abbrev z19 : List Value := [.pointer none]
instance : ZeroT Try.prog 19 [.pointer none] := ⟨fun _ => ⟨valL z19, rfl, by kernel_rfl⟩⟩
instance : FieldT Try.prog 19 0 0 17 := ⟨⟨_, Try.underlying19, _, rfl, rfl, rfl⟩, ⟨1, by decide, fun _ => by kernel_rfl⟩⟩
instance : StructT Try.prog 19 (fun i => (#[(0, 1)] : Array (Nat × Nat))[i]?) [.pointer none] := structT_mk Try.underlying19 (fun _ => by kernel_rfl)
instance : ScalarT Try.prog 20 := ⟨fun _ => by kernel_rfl⟩
instance : SizeT Try.prog 20 1 := ⟨fun _ => by kernel_rfl⟩
instance : ZeroT Try.prog 20 [.nilIface] := ⟨fun _ => ⟨.nilIface, rfl, by kernel_rfl⟩⟩
instance : ScalarT Try.prog 21 := ⟨fun _ => by kernel_rfl⟩
instance : SizeT Try.prog 21 1 := ⟨fun _ => by kernel_rfl⟩
instance : ZeroT Try.prog 21 [.int .i32 0] := ⟨fun _ => ⟨.int .i32 0, rfl, by kernel_rfl⟩⟩
instance : ScalarT Try.prog 22 := ⟨fun _ => by kernel_rfl⟩
instance : SizeT Try.prog 22 1 := ⟨fun _ => by kernel_rfl⟩
instance : ZeroT Try.prog 22 [.slice none 0 0] := ⟨fun _ => ⟨.slice none 0 0, rfl, by kernel_rfl⟩⟩
instance : SliceT Try.prog 22 72 26 := ⟨by kernel_rfl, fun _ => by kernel_rfl⟩
instance : ScalarT Try.prog 23 := ⟨fun _ => by kernel_rfl⟩
instance : SizeT Try.prog 23 1 := ⟨fun _ => by kernel_rfl⟩
instance : ZeroT Try.prog 23 [.slice none 0 0] := ⟨fun _ => ⟨.slice none 0 0, rfl, by kernel_rfl⟩⟩
instance : SliceT Try.prog 23 3 1 := ⟨by kernel_rfl, fun _ => by kernel_rfl⟩
instance : AggT Try.prog 24 2 := ⟨fun _ => by kernel_rfl⟩
instance : SizeT Try.prog 24 2 := ⟨fun _ => by kernel_rfl⟩
abbrev z24 : List Value := [.int .i64 0, .slice none 0 0]
instance : ZeroT Try.prog 24 [.int .i64 0, .slice none 0 0] := ⟨fun _ => ⟨valL z24, rfl, by kernel_rfl⟩⟩
instance : FieldT Try.prog 24 0 0 3 := ⟨⟨_, Try.underlying24, _, rfl, rfl, rfl⟩, ⟨1, by decide, fun _ => by kernel_rfl⟩⟩
instance : FieldT Try.prog 24 1 1 23 := ⟨⟨_, Try.underlying24, _, rfl, rfl, rfl⟩, ⟨1, by decide, fun _ => by kernel_rfl⟩⟩
instance : StructT Try.prog 24 (fun i => (#[(0, 1), (1, 1)] : Array (Nat × Nat))[i]?) [.int .i64 0, .slice none 0 0] := structT_mk Try.underlying24 (fun _ => by kernel_rfl)
instance : AggT Try.prog 25 2 := ⟨fun _ => by kernel_rfl⟩
instance : SizeT Try.prog 25 2 := ⟨fun _ => by kernel_rfl⟩
abbrev z25 : List Value := [.int .i64 0, .slice none 0 0]
instance : ZeroT Try.prog 25 [.int .i64 0, .slice none 0 0] := ⟨fun _ => ⟨valL z25, rfl, by kernel_rfl⟩⟩
instance : FieldT Try.prog 25 0 0 3 := ⟨⟨_, Try.underlying25, _, rfl, rfl, rfl⟩, ⟨1, by decide, fun _ => by kernel_rfl⟩⟩
instance : FieldT Try.prog 25 1 1 23 := ⟨⟨_, Try.underlying25, _, rfl, rfl, rfl⟩, ⟨1, by decide, fun _ => by kernel_rfl⟩⟩
instance : StructT Try.prog 25 (fun i => (#[(0, 1), (1, 1)] : Array (Nat × Nat))[i]?) [.int .i64 0, .slice none 0 0] := structT_mk Try.underlying25 (fun _ => by kernel_rfl)
instance : ScalarT Try.prog 26 := ⟨fun _ => by kernel_rfl⟩
instance : SizeT Try.prog 26 1 := ⟨fun _ => by kernel_rfl⟩
instance : ZeroT Try.prog 26 [.int .u64 0] := ⟨fun _ => ⟨.int .u64 0, rfl, by kernel_rfl⟩⟩
instance : ScalarT Try.prog 27 := ⟨fun _ => by kernel_rfl⟩
instance : SizeT Try.prog 27 1 := ⟨fun _ => by kernel_rfl⟩
instance : ZeroT Try.prog 27 [.slice none 0 0] := ⟨fun _ => ⟨.slice none 0 0, rfl, by kernel_rfl⟩⟩
instance : SliceT Try.prog 27 5 1 := ⟨by kernel_rfl, fun _ => by kernel_rfl⟩
instance : AggT Try.prog 28 4 := ⟨fun _ => by kernel_rfl⟩
instance : SizeT Try.prog 28 4 := ⟨fun _ => by kernel_rfl⟩
abbrev z28 : List Value := [.slice none 0 0, .slice none 0 0, .slice none 0 0, .slice none 0 0]
instance : ZeroT Try.prog 28 [.slice none 0 0, .slice none 0 0, .slice none 0 0, .slice none 0 0] := ⟨fun _ => ⟨valL z28, rfl, by kernel_rfl⟩⟩
instance : ArrayT Try.prog 28 4 27 1 := ⟨by kernel_rfl, fun _ => by kernel_rfl⟩
instance : StructT Try.prog 28 (fun i => some (i * 1, 1)) [.slice none 0 0, .slice none 0 0, .slice none 0 0, .slice none 0 0] := arrayT_mk (n := 4) (e := 27) (by kernel_rfl) (fun _ => by kernel_rfl)
instance : ScalarT Try.prog 29 := ⟨fun _ => by kernel_rfl⟩
instance : SizeT Try.prog 29 1 := ⟨fun _ => by kernel_rfl⟩
instance : ZeroT Try.prog 29 [.int .u32 0] := ⟨fun _ => ⟨.int .u32 0, rfl, by kernel_rfl⟩⟩
instance : AggT Try.prog 30 12 := ⟨fun _ => by kernel_rfl⟩
instance : SizeT Try.prog 30 12 := ⟨fun _ => by kernel_rfl⟩
abbrev z30 : List Value := [.bool false, .slice none 0 0, .int .i64 0, .slice none 0 0, .int .i64 0, .int .u64 0, .slice none 0 0, .slice none 0 0, .slice none 0 0, .slice none 0 0, .slice none 0 0, .int .u32 0]
instance : ZeroT Try.prog 30 [.bool false, .slice none 0 0, .int .i64 0, .slice none 0 0, .int .i64 0, .int .u64 0, .slice none 0 0, .slice none 0 0, .slice none 0 0, .slice none 0 0, .slice none 0 0, .int .u32 0] := ⟨fun _ => ⟨valL z30, rfl, by kernel_rfl⟩⟩
instance : FieldT Try.prog 30 0 0 4 := ⟨⟨_, Try.underlying30, _, rfl, rfl, rfl⟩, ⟨1, by decide, fun _ => by kernel_rfl⟩⟩
instance : FieldT Try.prog 30 1 1 22 := ⟨⟨_, Try.underlying30, _, rfl, rfl, rfl⟩, ⟨1, by decide, fun _ => by kernel_rfl⟩⟩
instance : FieldT Try.prog 30 2 2 25 := ⟨⟨_, Try.underlying30, _, rfl, rfl, rfl⟩, ⟨2, by decide, fun _ => by kernel_rfl⟩⟩
instance : FieldT Try.prog 30 3 4 3 := ⟨⟨_, Try.underlying30, _, rfl, rfl, rfl⟩, ⟨1, by decide, fun _ => by kernel_rfl⟩⟩
instance : FieldT Try.prog 30 4 5 26 := ⟨⟨_, Try.underlying30, _, rfl, rfl, rfl⟩, ⟨1, by decide, fun _ => by kernel_rfl⟩⟩
instance : FieldT Try.prog 30 5 6 27 := ⟨⟨_, Try.underlying30, _, rfl, rfl, rfl⟩, ⟨1, by decide, fun _ => by kernel_rfl⟩⟩
instance : FieldT Try.prog 30 6 7 28 := ⟨⟨_, Try.underlying30, _, rfl, rfl, rfl⟩, ⟨4, by decide, fun _ => by kernel_rfl⟩⟩
instance : FieldT Try.prog 30 7 11 29 := ⟨⟨_, Try.underlying30, _, rfl, rfl, rfl⟩, ⟨1, by decide, fun _ => by kernel_rfl⟩⟩
instance : StructT Try.prog 30 (fun i => (#[(0, 1), (1, 1), (2, 2), (4, 1), (5, 1), (6, 1), (7, 4), (11, 1)] : Array (Nat × Nat))[i]?) [.bool false, .slice none 0 0, .int .i64 0, .slice none 0 0, .int .i64 0, .int .u64 0, .slice none 0 0, .slice none 0 0, .slice none 0 0, .slice none 0 0, .slice none 0 0, .int .u32 0] := structT_mk Try.underlying30 (fun _ => by kernel_rfl)
instance : AggT Try.prog 31 12 := ⟨fun _ => by kernel_rfl⟩
instance : SizeT Try.prog 31 12 := ⟨fun _ => by kernel_rfl⟩
abbrev z31 : List Value := [.bool false, .slice none 0 0, .int .i64 0, .slice none 0 0, .int .i64 0, .int .u64 0, .slice none 0 0, .slice none 0 0, .slice none 0 0, .slice none 0 0, .slice none 0 0, .int .u32 0]
instance : ZeroT Try.prog 31 [.bool false, .slice none 0 0, .int .i64 0, .slice none 0 0, .int .i64 0, .int .u64 0, .slice none 0 0, .slice none 0 0, .slice none 0 0, .slice none 0 0, .slice none 0 0, .int .u32 0] := ⟨fun _ => ⟨valL z31, rfl, by kernel_rfl⟩⟩
instance : FieldT Try.prog 31 0 0 4 := ⟨⟨_, Try.underlying31, _, rfl, rfl, rfl⟩, ⟨1, by decide, fun _ => by kernel_rfl⟩⟩
instance : FieldT Try.prog 31 1 1 22 := ⟨⟨_, Try.underlying31, _, rfl, rfl, rfl⟩, ⟨1, by decide, fun _ => by kernel_rfl⟩⟩
instance : FieldT Try.prog 31 2 2 25 := ⟨⟨_, Try.underlying31, _, rfl, rfl, rfl⟩, ⟨2, by decide, fun _ => by kernel_rfl⟩⟩
instance : FieldT Try.prog 31 3 4 3 := ⟨⟨_, Try.underlying31, _, rfl, rfl, rfl⟩, ⟨1, by decide, fun _ => by kernel_rfl⟩⟩
instance : FieldT Try.prog 31 4 5 26 := ⟨⟨_, Try.underlying31, _, rfl, rfl, rfl⟩, ⟨1, by decide, fun _ => by kernel_rfl⟩⟩
instance : FieldT Try.prog 31 5 6 27 := ⟨⟨_, Try.underlying31, _, rfl, rfl, rfl⟩, ⟨1, by decide, fun _ => by kernel_rfl⟩⟩
instance : FieldT Try.prog 31 6 7 28 := ⟨⟨_, Try.underlying31, _, rfl, rfl, rfl⟩, ⟨4, by decide, fun _ => by kernel_rfl⟩⟩
instance : FieldT Try.prog 31 7 11 29 := ⟨⟨_, Try.underlying31, _, rfl, rfl, rfl⟩, ⟨1, by decide, fun _ => by kernel_rfl⟩⟩
instance : StructT Try.prog 31 (fun i => (#[(0, 1), (1, 1), (2, 2), (4, 1), (5, 1), (6, 1), (7, 4), (11, 1)] : Array (Nat × Nat))[i]?) [.bool false, .slice none 0 0, .int .i64 0, .slice none 0 0, .int .i64 0, .int .u64 0, .slice none 0 0, .slice none 0 0, .slice none 0 0, .slice none 0 0, .slice none 0 0, .int .u32 0] := structT_mk Try.underlying31 (fun _ => by kernel_rfl)
instance : ScalarT Try.prog 32 := ⟨fun _ => by kernel_rfl⟩
instance : SizeT Try.prog 32 1 := ⟨fun _ => by kernel_rfl⟩
instance : ZeroT Try.prog 32 [.int .i64 0] := ⟨fun _ => ⟨.int .i64 0, rfl, by kernel_rfl⟩⟩
instance : ScalarT Try.prog 34 := ⟨fun _ => by kernel_rfl⟩
instance : SizeT Try.prog 34 1 := ⟨fun _ => by kernel_rfl⟩
instance : ZeroT Try.prog 34 [.nilFunc] := ⟨fun _ => ⟨.nilFunc, rfl, by kernel_rfl⟩⟩
instance : ScalarT Try.prog 35 := ⟨fun _ => by kernel_rfl⟩
instance : SizeT Try.prog 35 1 := ⟨fun _ => by kernel_rfl⟩
instance : ZeroT Try.prog 35 [.nilFunc] := ⟨fun _ => ⟨.nilFunc, rfl, by kernel_rfl⟩⟩
instance : ScalarT Try.prog 36 := ⟨fun _ => by kernel_rfl⟩
instance : SizeT Try.prog 36 1 := ⟨fun _ => by kernel_rfl⟩
instance : ZeroT Try.prog 36 [.nilFunc] := ⟨fun _ => ⟨.nilFunc, rfl, by kernel_rfl⟩⟩
instance : ScalarT Try.prog 37 := ⟨fun _ => by kernel_rfl⟩
instance : SizeT Try.prog 37 1 := ⟨fun _ => by kernel_rfl⟩
instance : ZeroT Try.prog 37 [.nilFunc] := ⟨fun _ => ⟨.nilFunc, rfl, by kernel_rfl⟩⟩
instance : ScalarT Try.prog 38 := ⟨fun _ => by kernel_rfl⟩
instance : SizeT Try.prog 38 1 := ⟨fun _ => by kernel_rfl⟩
instance : ZeroT Try.prog 38 [.pointer none] := ⟨fun _ => ⟨.pointer none, rfl, by kernel_rfl⟩⟩
instance : ScalarT Try.prog 39 := ⟨fun _ => by kernel_rfl⟩
instance : SizeT Try.prog 39 1 := ⟨fun _ => by kernel_rfl⟩
instance : ZeroT Try.prog 39 [.nilFunc] := ⟨fun _ => ⟨.nilFunc, rfl, by kernel_rfl⟩⟩
instance : AggT Try.prog 40 6 := ⟨fun _ => by kernel_rfl⟩
instance : SizeT Try.prog 40 6 := ⟨fun _ => by kernel_rfl⟩
abbrev z40 : List Value := [.int .i64 0, .int .i64 0, .int .i64 0, .int .i64 0, .int .i64 0, .int .i64 0]
instance : ZeroT Try.prog 40 [.int .i64 0, .int .i64 0, .int .i64 0, .int .i64 0, .int .i64 0, .int .i64 0] := ⟨fun _ => ⟨valL z40, rfl, by kernel_rfl⟩⟩
instance : ArrayT Try.prog 40 6 3 1 := ⟨by kernel_rfl, fun _ => by kernel_rfl⟩
instance : StructT Try.prog 40 (fun i => some (i * 1, 1)) [.int .i64 0, .int .i64 0, .int .i64 0, .int .i64 0, .int .i64 0, .int .i64 0] := arrayT_mk (n := 6) (e := 3) (by kernel_rfl) (fun _ => by kernel_rfl)
instance : ScalarT Try.prog 42 := ⟨fun _ => by kernel_rfl⟩
instance : SizeT Try.prog 42 1 := ⟨fun _ => by kernel_rfl⟩
instance : ZeroT Try.prog 42 [.nilFunc] := ⟨fun _ => ⟨.nilFunc, rfl, by kernel_rfl⟩⟩
instance : ScalarT Try.prog 43 := ⟨fun _ => by kernel_rfl⟩
instance : SizeT Try.prog 43 1 := ⟨fun _ => by kernel_rfl⟩
instance : ZeroT Try.prog 43 [.nilFunc] := ⟨fun _ => ⟨.nilFunc, rfl, by kernel_rfl⟩⟩
instance : ScalarT Try.prog 44 := ⟨fun _ => by kernel_rfl⟩
instance : SizeT Try.prog 44 1 := ⟨fun _ => by kernel_rfl⟩
instance : ZeroT Try.prog 44 [.nilFunc] := ⟨fun _ => ⟨.nilFunc, rfl, by kernel_rfl⟩⟩
instance : ScalarT Try.prog 45 := ⟨fun _ => by kernel_rfl⟩
instance : SizeT Try.prog 45 1 := ⟨fun _ => by kernel_rfl⟩
instance : ZeroT Try.prog 45 [.nilFunc] := ⟨fun _ => ⟨.nilFunc, rfl, by kernel_rfl⟩⟩
instance : AggT Try.prog 46 6 := ⟨fun _ => by kernel_rfl⟩
instance : SizeT Try.prog 46 6 := ⟨fun _ => by kernel_rfl⟩
abbrev z46 : List Value := [.bool false, .bool false, .bool false, .bool false, .bool false, .bool false]
instance : ZeroT Try.prog 46 [.bool false, .bool false, .bool false, .bool false, .bool false, .bool false] := ⟨fun _ => ⟨valL z46, rfl, by kernel_rfl⟩⟩
instance : ArrayT Try.prog 46 6 4 1 := ⟨by kernel_rfl, fun _ => by kernel_rfl⟩
instance : StructT Try.prog 46 (fun i => some (i * 1, 1)) [.bool false, .bool false, .bool false, .bool false, .bool false, .bool false] := arrayT_mk (n := 6) (e := 4) (by kernel_rfl) (fun _ => by kernel_rfl)
instance : AggT Try.prog 47 6 := ⟨fun _ => by kernel_rfl⟩
instance : SizeT Try.prog 47 6 := ⟨fun _ => by kernel_rfl⟩
abbrev z47 : List Value := [.int .u8 0, .int .u8 0, .int .u8 0, .int .u8 0, .int .u8 0, .int .u8 0]
instance : ZeroT Try.prog 47 [.int .u8 0, .int .u8 0, .int .u8 0, .int .u8 0, .int .u8 0, .int .u8 0] := ⟨fun _ => ⟨valL z47, rfl, by kernel_rfl⟩⟩
instance : ArrayT Try.prog 47 6 5 1 := ⟨by kernel_rfl, fun _ => by kernel_rfl⟩
instance : StructT Try.prog 47 (fun i => some (i * 1, 1)) [.int .u8 0, .int .u8 0, .int .u8 0, .int .u8 0, .int .u8 0, .int .u8 0] := arrayT_mk (n := 6) (e := 5) (by kernel_rfl) (fun _ => by kernel_rfl)
instance : AggT Try.prog 48 6 := ⟨fun _ => by kernel_rfl⟩
instance : SizeT Try.prog 48 6 := ⟨fun _ => by kernel_rfl⟩
abbrev z48 : List Value := [.int .u32 0, .int .u32 0, .int .u32 0, .int .u32 0, .int .u32 0, .int .u32 0]
instance : ZeroT Try.prog 48 [.int .u32 0, .int .u32 0, .int .u32 0, .int .u32 0, .int .u32 0, .int .u32 0] := ⟨fun _ => ⟨valL z48, rfl, by kernel_rfl⟩⟩
instance : ArrayT Try.prog 48 6 29 1 := ⟨by kernel_rfl, fun _ => by kernel_rfl⟩
instance : StructT Try.prog 48 (fun i => some (i * 1, 1)) [.int .u32 0, .int .u32 0, .int .u32 0, .int .u32 0, .int .u32 0, .int .u32 0] := arrayT_mk (n := 6) (e := 29) (by kernel_rfl) (fun _ => by kernel_rfl)
instance : AggT Try.prog 49 6 := ⟨fun _ => by kernel_rfl⟩
instance : SizeT Try.prog 49 6 := ⟨fun _ => by kernel_rfl⟩
abbrev z49 : List Value := [.int .u64 0, .int .u64 0, .int .u64 0, .int .u64 0, .int .u64 0, .int .u64 0]
instance : ZeroT Try.prog 49 [.int .u64 0, .int .u64 0, .int .u64 0, .int .u64 0, .int .u64 0, .int .u64 0] := ⟨fun _ => ⟨valL z49, rfl, by kernel_rfl⟩⟩
instance : ArrayT Try.prog 49 6 26 1 := ⟨by kernel_rfl, fun _ => by kernel_rfl⟩
instance : StructT Try.prog 49 (fun i => some (i * 1, 1)) [.int .u64 0, .int .u64 0, .int .u64 0, .int .u64 0, .int .u64 0, .int .u64 0] := arrayT_mk (n := 6) (e := 26) (by kernel_rfl) (fun _ => by kernel_rfl)
instance : AggT Try.prog 50 18 := ⟨fun _ => by kernel_rfl⟩
instance : SizeT Try.prog 50 18 := ⟨fun _ => by kernel_rfl⟩
abbrev z50 : List Value := [.int .u8 0, .int .u8 0, .int .u8 0, .int .u8 0, .int .u8 0, .int .u8 0, .int .u8 0, .int .u8 0, .int .u8 0, .int .u8 0, .int .u8 0, .int .u8 0, .int .u8 0, .int .u8 0, .int .u8 0, .int .u8 0, .int .u8 0, .int .u8 0]
instance : ZeroT Try.prog 50 [.int .u8 0, .int .u8 0, .int .u8 0, .int .u8 0, .int .u8 0, .int .u8 0, .int .u8 0, .int .u8 0, .int .u8 0, .int .u8 0, .int .u8 0, .int .u8 0, .int .u8 0, .int .u8 0, .int .u8 0, .int .u8 0, .int .u8 0, .int .u8 0] := ⟨fun _ => ⟨valL z50, rfl, by kernel_rfl⟩⟩
instance : ArrayT Try.prog 50 18 5 1 := ⟨by kernel_rfl, fun _ => by kernel_rfl⟩
instance : StructT Try.prog 50 (fun i => some (i * 1, 1)) [.int .u8 0, .int .u8 0, .int .u8 0, .int .u8 0, .int .u8 0, .int .u8 0, .int .u8 0, .int .u8 0, .int .u8 0, .int .u8 0, .int .u8 0, .int .u8 0, .int .u8 0, .int .u8 0, .int .u8 0, .int .u8 0, .int .u8 0, .int .u8 0] := arrayT_mk (n := 18) (e := 5) (by kernel_rfl) (fun _ => by kernel_rfl)
instance : AggT Try.prog 51 45 := ⟨fun _ => by kernel_rfl⟩
instance : SizeT Try.prog 51 45 := ⟨fun _ => by kernel_rfl⟩
def z51 : List Value := [.bool false, .bool false, .bool false, .bool false, .bool false, .bool false, .int .u8 0, .int .u8 0, .int .u8 0, .int .u8 0, .int .u8 0, .int .u8 0, .slice none 0 0, .int .u32 0, .int .u32 0, .int .u32 0, .int .u32 0, .int .u32 0, .int .u32 0, .int .u64 0, .int .u64 0, .int .u64 0, .int .u64 0, .int .u64 0, .int .u64 0, .int .u64 0, .int .u64 0, .int .u8 0, .int .u8 0, .int .u8 0, .int .u8 0, .int .u8 0, .int .u8 0, .int .u8 0, .int .u8 0, .int .u8 0, .int .u8 0, .int .u8 0, .int .u8 0, .int .u8 0, .int .u8 0, .int .u8 0, .int .u8 0, .int .u8 0, .int .u8 0]
theorem z51_len : z51.length = 45 := by kernel_rfl
instance : ZeroT Try.prog 51 z51 := ⟨fun _ => ⟨valL z51, rfl, by kernel_rfl⟩⟩
instance : FieldT Try.prog 51 0 0 46 := ⟨⟨_, Try.underlying51, _, rfl, rfl, rfl⟩, ⟨6, by decide, fun _ => by kernel_rfl⟩⟩
instance : FieldT Try.prog 51 1 6 47 := ⟨⟨_, Try.underlying51, _, rfl, rfl, rfl⟩, ⟨6, by decide, fun _ => by kernel_rfl⟩⟩
instance : FieldT Try.prog 51 2 12 27 := ⟨⟨_, Try.underlying51, _, rfl, rfl, rfl⟩, ⟨1, by decide, fun _ => by kernel_rfl⟩⟩
instance : FieldT Try.prog 51 3 13 48 := ⟨⟨_, Try.underlying51, _, rfl, rfl, rfl⟩, ⟨6, by decide, fun _ => by kernel_rfl⟩⟩
instance : FieldT Try.prog 51 4 19 26 := ⟨⟨_, Try.underlying51, _, rfl, rfl, rfl⟩, ⟨1, by decide, fun _ => by kernel_rfl⟩⟩
instance : FieldT Try.prog 51 5 20 49 := ⟨⟨_, Try.underlying51, _, rfl, rfl, rfl⟩, ⟨6, by decide, fun _ => by kernel_rfl⟩⟩
instance : FieldT Try.prog 51 6 26 26 := ⟨⟨_, Try.underlying51, _, rfl, rfl, rfl⟩, ⟨1, by decide, fun _ => by kernel_rfl⟩⟩
instance : FieldT Try.prog 51 7 27 50 := ⟨⟨_, Try.underlying51, _, rfl, rfl, rfl⟩, ⟨18, by decide, fun _ => by kernel_rfl⟩⟩
instance : StructT Try.prog 51 (fun i => (#[(0, 6), (6, 6), (12, 1), (13, 6), (19, 1), (20, 6), (26, 1), (27, 18)] : Array (Nat × Nat))[i]?) z51 := structT_mk Try.underlying51 (fun _ => by kernel_rfl)
instance : AggT Try.prog 52 45 := ⟨fun _ => by kernel_rfl⟩
instance : SizeT Try.prog 52 45 := ⟨fun _ => by kernel_rfl⟩
def z52 : List Value := [.bool false, .bool false, .bool false, .bool false, .bool false, .bool false, .int .u8 0, .int .u8 0, .int .u8 0, .int .u8 0, .int .u8 0, .int .u8 0, .slice none 0 0, .int .u32 0, .int .u32 0, .int .u32 0, .int .u32 0, .int .u32 0, .int .u32 0, .int .u64 0, .int .u64 0, .int .u64 0, .int .u64 0, .int .u64 0, .int .u64 0, .int .u64 0, .int .u64 0, .int .u8 0, .int .u8 0, .int .u8 0, .int .u8 0, .int .u8 0, .int .u8 0, .int .u8 0, .int .u8 0, .int .u8 0, .int .u8 0, .int .u8 0, .int .u8 0, .int .u8 0, .int .u8 0, .int .u8 0, .int .u8 0, .int .u8 0, .int .u8 0]
theorem z52_len : z52.length = 45 := by kernel_rfl
instance : ZeroT Try.prog 52 z52 := ⟨fun _ => ⟨valL z52, rfl, by kernel_rfl⟩⟩
instance : FieldT Try.prog 52 0 0 46 := ⟨⟨_, Try.underlying52, _, rfl, rfl, rfl⟩, ⟨6, by decide, fun _ => by kernel_rfl⟩⟩
instance : FieldT Try.prog 52 1 6 47 := ⟨⟨_, Try.underlying52, _, rfl, rfl, rfl⟩, ⟨6, by decide, fun _ => by kernel_rfl⟩⟩
instance : FieldT Try.prog 52 2 12 27 := ⟨⟨_, Try.underlying52, _, rfl, rfl, rfl⟩, ⟨1, by decide, fun _ => by kernel_rfl⟩⟩
instance : FieldT Try.prog 52 3 13 48 := ⟨⟨_, Try.underlying52, _, rfl, rfl, rfl⟩, ⟨6, by decide, fun _ => by kernel_rfl⟩⟩
instance : FieldT Try.prog 52 4 19 26 := ⟨⟨_, Try.underlying52, _, rfl, rfl, rfl⟩, ⟨1, by decide, fun _ => by kernel_rfl⟩⟩
instance : FieldT Try.prog 52 5 20 49 := ⟨⟨_, Try.underlying52, _, rfl, rfl, rfl⟩, ⟨6, by decide, fun _ => by kernel_rfl⟩⟩
instance : FieldT Try.prog 52 6 26 26 := ⟨⟨_, Try.underlying52, _, rfl, rfl, rfl⟩, ⟨1, by decide, fun _ => by kernel_rfl⟩⟩
instance : FieldT Try.prog 52 7 27 50 := ⟨⟨_, Try.underlying52, _, rfl, rfl, rfl⟩, ⟨18, by decide, fun _ => by kernel_rfl⟩⟩
instance : StructT Try.prog 52 (fun i => (#[(0, 6), (6, 6), (12, 1), (13, 6), (19, 1), (20, 6), (26, 1), (27, 18)] : Array (Nat × Nat))[i]?) z52 := structT_mk Try.underlying52 (fun _ => by kernel_rfl)
instance : ScalarT Try.prog 53 := ⟨fun _ => by kernel_rfl⟩
instance : SizeT Try.prog 53 1 := ⟨fun _ => by kernel_rfl⟩
instance : ZeroT Try.prog 53 [.pointer none] := ⟨fun _ => ⟨.pointer none, rfl, by kernel_rfl⟩⟩
instance : ScalarT Try.prog 54 := ⟨fun _ => by kernel_rfl⟩
instance : SizeT Try.prog 54 1 := ⟨fun _ => by kernel_rfl⟩
instance : ZeroT Try.prog 54 [.nilFunc] := ⟨fun _ => ⟨.nilFunc, rfl, by kernel_rfl⟩⟩
instance : ScalarT Try.prog 55 := ⟨fun _ => by kernel_rfl⟩
instance : SizeT Try.prog 55 1 := ⟨fun _ => by kernel_rfl⟩
instance : ZeroT Try.prog 55 [.nilFunc] := ⟨fun _ => ⟨.nilFunc, rfl, by kernel_rfl⟩⟩
instance : ScalarT Try.prog 56 := ⟨fun _ => by kernel_rfl⟩
instance : SizeT Try.prog 56 1 := ⟨fun _ => by kernel_rfl⟩
instance : ZeroT Try.prog 56 [.nilFunc] := ⟨fun _ => ⟨.nilFunc, rfl, by kernel_rfl⟩⟩
instance : ScalarT Try.prog 57 := ⟨fun _ => by kernel_rfl⟩
instance : SizeT Try.prog 57 1 := ⟨fun _ => by kernel_rfl⟩
instance : ZeroT Try.prog 57 [.nilFunc] := ⟨fun _ => ⟨.nilFunc, rfl, by kernel_rfl⟩⟩
instance : AggT Try.prog 58 72 := ⟨fun _ => by kernel_rfl⟩
instance : SizeT Try.prog 58 72 := ⟨fun _ => by kernel_rfl⟩
def z58 : List Value := [.bool false, .slice none 0 0, .int .i64 0, .slice none 0 0, .int .i64 0, .int .u64 0, .slice none 0 0, .slice none 0 0, .slice none 0 0, .slice none 0 0, .slice none 0 0, .int .u32 0, .bool false, .slice none 0 0, .int .i64 0, .slice none 0 0, .int .i64 0, .int .u64 0, .slice none 0 0, .slice none 0 0, .slice none 0 0, .slice none 0 0, .slice none 0 0, .int .u32 0, .bool false, .slice none 0 0, .int .i64 0, .slice none 0 0, .int .i64 0, .int .u64 0, .slice none 0 0, .slice none 0 0, .slice none 0 0, .slice none 0 0, .slice none 0 0, .int .u32 0, .bool false, .slice none 0 0, .int .i64 0, .slice none 0 0, .int .i64 0, .int .u64 0, .slice none 0 0, .slice none 0 0, .slice none 0 0, .slice none 0 0, .slice none 0 0, .int .u32 0, .bool false, .slice none 0 0, .int .i64 0, .slice none 0 0, .int .i64 0, .int .u64 0, .slice none 0 0, .slice none 0 0, .slice none 0 0, .slice none 0 0, .slice none 0 0, .int .u32 0, .bool false, .slice none 0 0, .int .i64 0, .slice none 0 0, .int .i64 0, .int .u64 0, .slice none 0 0, .slice none 0 0, .slice none 0 0, .slice none 0 0, .slice none 0 0, .int .u32 0]
theorem z58_len : z58.length = 72 := by kernel_rfl
instance : ZeroT Try.prog 58 z58 := ⟨fun _ => ⟨valL z58, rfl, by kernel_rfl⟩⟩
instance : ArrayT Try.prog 58 6 31 12 := ⟨by kernel_rfl, fun _ => by kernel_rfl⟩
instance : StructT Try.prog 58 (fun i => some (i * 12, 12)) z58 := arrayT_mk (n := 6) (e := 31) (by kernel_rfl) (fun _ => by kernel_rfl)
instance : ScalarT Try.prog 59 := ⟨fun _ => by kernel_rfl⟩
instance : SizeT Try.prog 59 1 := ⟨fun _ => by kernel_rfl⟩
instance : ZeroT Try.prog 59 [.pointer none] := ⟨fun _ => ⟨.pointer none, rfl, by kernel_rfl⟩⟩
instance : AggT Try.prog 60 6 := ⟨fun _ => by kernel_rfl⟩
instance : SizeT Try.prog 60 6 := ⟨fun _ => by kernel_rfl⟩
abbrev z60 : List Value := [.bool false, .int .i64 0, .int .i64 0, .int .i64 0, .bool false, .int .i64 0]
instance : ZeroT Try.prog 60 [.bool false, .int .i64 0, .int .i64 0, .int .i64 0, .bool false, .int .i64 0] := ⟨fun _ => ⟨valL z60, rfl, by kernel_rfl⟩⟩
instance : FieldT Try.prog 60 0 0 4 := ⟨⟨_, Try.underlying60, _, rfl, rfl, rfl⟩, ⟨1, by decide, fun _ => by kernel_rfl⟩⟩
instance : FieldT Try.prog 60 1 1 3 := ⟨⟨_, Try.underlying60, _, rfl, rfl, rfl⟩, ⟨1, by decide, fun _ => by kernel_rfl⟩⟩
instance : FieldT Try.prog 60 2 2 3 := ⟨⟨_, Try.underlying60, _, rfl, rfl, rfl⟩, ⟨1, by decide, fun _ => by kernel_rfl⟩⟩
instance : FieldT Try.prog 60 3 3 3 := ⟨⟨_, Try.underlying60, _, rfl, rfl, rfl⟩, ⟨1, by decide, fun _ => by kernel_rfl⟩⟩
instance : FieldT Try.prog 60 4 4 4 := ⟨⟨_, Try.underlying60, _, rfl, rfl, rfl⟩, ⟨1, by decide, fun _ => by kernel_rfl⟩⟩
instance : FieldT Try.prog 60 5 5 3 := ⟨⟨_, Try.underlying60, _, rfl, rfl, rfl⟩, ⟨1, by decide, fun _ => by kernel_rfl⟩⟩
instance : StructT Try.prog 60 (fun i => (#[(0, 1), (1, 1), (2, 1), (3, 1), (4, 1), (5, 1)] : Array (Nat × Nat))[i]?) [.bool false, .int .i64 0, .int .i64 0, .int .i64 0, .bool false, .int .i64 0] := structT_mk Try.underlying60 (fun _ => by kernel_rfl)
instance : AggT Try.prog 61 6 := ⟨fun _ => by kernel_rfl⟩
instance : SizeT Try.prog 61 6 := ⟨fun _ => by kernel_rfl⟩
abbrev z61 : List Value := [.bool false, .int .i64 0, .int .i64 0, .int .i64 0, .bool false, .int .i64 0]
instance : ZeroT Try.prog 61 [.bool false, .int .i64 0, .int .i64 0, .int .i64 0, .bool false, .int .i64 0] := ⟨fun _ => ⟨valL z61, rfl, by kernel_rfl⟩⟩
instance : FieldT Try.prog 61 0 0 4 := ⟨⟨_, Try.underlying61, _, rfl, rfl, rfl⟩, ⟨1, by decide, fun _ => by kernel_rfl⟩⟩
instance : FieldT Try.prog 61 1 1 3 := ⟨⟨_, Try.underlying61, _, rfl, rfl, rfl⟩, ⟨1, by decide, fun _ => by kernel_rfl⟩⟩
instance : FieldT Try.prog 61 2 2 3 := ⟨⟨_, Try.underlying61, _, rfl, rfl, rfl⟩, ⟨1, by decide, fun _ => by kernel_rfl⟩⟩
instance : FieldT Try.prog 61 3 3 3 := ⟨⟨_, Try.underlying61, _, rfl, rfl, rfl⟩, ⟨1, by decide, fun _ => by kernel_rfl⟩⟩
instance : FieldT Try.prog 61 4 4 4 := ⟨⟨_, Try.underlying61, _, rfl, rfl, rfl⟩, ⟨1, by decide, fun _ => by kernel_rfl⟩⟩
instance : FieldT Try.prog 61 5 5 3 := ⟨⟨_, Try.underlying61, _, rfl, rfl, rfl⟩, ⟨1, by decide, fun _ => by kernel_rfl⟩⟩
instance : StructT Try.prog 61 (fun i => (#[(0, 1), (1, 1), (2, 1), (3, 1), (4, 1), (5, 1)] : Array (Nat × Nat))[i]?) [.bool false, .int .i64 0, .int .i64 0, .int .i64 0, .bool false, .int .i64 0] := structT_mk Try.underlying61 (fun _ => by kernel_rfl)
instance : AggT Try.prog 62 96 := ⟨fun _ => by kernel_rfl⟩
instance : SizeT Try.prog 62 96 := ⟨fun _ => by kernel_rfl⟩
def z62 : List Value := [.bool false, .int .i64 0, .int .i64 0, .int .i64 0, .bool false, .int .i64 0, .bool false, .int .i64 0, .int .i64 0, .int .i64 0, .bool false, .int .i64 0, .bool false, .int .i64 0, .int .i64 0, .int .i64 0, .bool false, .int .i64 0, .bool false, .int .i64 0, .int .i64 0, .int .i64 0, .bool false, .int .i64 0, .bool false, .int .i64 0, .int .i64 0, .int .i64 0, .bool false, .int .i64 0, .bool false, .int .i64 0, .int .i64 0, .int .i64 0, .bool false, .int .i64 0, .bool false, .int .i64 0, .int .i64 0, .int .i64 0, .bool false, .int .i64 0, .bool false, .int .i64 0, .int .i64 0, .int .i64 0, .bool false, .int .i64 0, .bool false, .int .i64 0, .int .i64 0, .int .i64 0, .bool false, .int .i64 0, .bool false, .int .i64 0, .int .i64 0, .int .i64 0, .bool false, .int .i64 0, .bool false, .int .i64 0, .int .i64 0, .int .i64 0, .bool false, .int .i64 0, .bool false, .int .i64 0, .int .i64 0, .int .i64 0, .bool false, .int .i64 0, .bool false, .int .i64 0, .int .i64 0, .int .i64 0, .bool false, .int .i64 0, .bool false, .int .i64 0, .int .i64 0, .int .i64 0, .bool false, .int .i64 0, .bool false, .int .i64 0, .int .i64 0, .int .i64 0, .bool false, .int .i64 0, .bool false, .int .i64 0, .int .i64 0, .int .i64 0, .bool false, .int .i64 0]
theorem z62_len : z62.length = 96 := by kernel_rfl
instance : ZeroT Try.prog 62 z62 := ⟨fun _ => ⟨valL z62, rfl, by kernel_rfl⟩⟩
instance : ArrayT Try.prog 62 16 61 6 := ⟨by kernel_rfl, fun _ => by kernel_rfl⟩
instance : StructT Try.prog 62 (fun i => some (i * 6, 6)) z62 := arrayT_mk (n := 16) (e := 61) (by kernel_rfl) (fun _ => by kernel_rfl)
instance : AggT Try.prog 63 96 := ⟨fun _ => by kernel_rfl⟩
instance : SizeT Try.prog 63 96 := ⟨fun _ => by kernel_rfl⟩
def z63 : List Value := [.bool false, .int .i64 0, .int .i64 0, .int .i64 0, .bool false, .int .i64 0, .bool false, .int .i64 0, .int .i64 0, .int .i64 0, .bool false, .int .i64 0, .bool false, .int .i64 0, .int .i64 0, .int .i64 0, .bool false, .int .i64 0, .bool false, .int .i64 0, .int .i64 0, .int .i64 0, .bool false, .int .i64 0, .bool false, .int .i64 0, .int .i64 0, .int .i64 0, .bool false, .int .i64 0, .bool false, .int .i64 0, .int .i64 0, .int .i64 0, .bool false, .int .i64 0, .bool false, .int .i64 0, .int .i64 0, .int .i64 0, .bool false, .int .i64 0, .bool false, .int .i64 0, .int .i64 0, .int .i64 0, .bool false, .int .i64 0, .bool false, .int .i64 0, .int .i64 0, .int .i64 0, .bool false, .int .i64 0, .bool false, .int .i64 0, .int .i64 0, .int .i64 0, .bool false, .int .i64 0, .bool false, .int .i64 0, .int .i64 0, .int .i64 0, .bool false, .int .i64 0, .bool false, .int .i64 0, .int .i64 0, .int .i64 0, .bool false, .int .i64 0, .bool false, .int .i64 0, .int .i64 0, .int .i64 0, .bool false, .int .i64 0, .bool false, .int .i64 0, .int .i64 0, .int .i64 0, .bool false, .int .i64 0, .bool false, .int .i64 0, .int .i64 0, .int .i64 0, .bool false, .int .i64 0, .bool false, .int .i64 0, .int .i64 0, .int .i64 0, .bool false, .int .i64 0]
theorem z63_len : z63.length = 96 := by kernel_rfl
instance : ZeroT Try.prog 63 z63 := ⟨fun _ => ⟨valL z63, rfl, by kernel_rfl⟩⟩
instance : ArrayT Try.prog 63 16 61 6 := ⟨by kernel_rfl, fun _ => by kernel_rfl⟩
instance : StructT Try.prog 63 (fun i => some (i * 6, 6)) z63 := arrayT_mk (n := 16) (e := 61) (by kernel_rfl) (fun _ => by kernel_rfl)
instance : ScalarT Try.prog 64 := ⟨fun _ => by kernel_rfl⟩
instance : SizeT Try.prog 64 1 := ⟨fun _ => by kernel_rfl⟩
instance : ZeroT Try.prog 64 [.pointer none] := ⟨fun _ => ⟨.pointer none, rfl, by kernel_rfl⟩⟩
instance : AggT Try.prog 65 18 := ⟨fun _ => by kernel_rfl⟩
instance : SizeT Try.prog 65 18 := ⟨fun _ => by kernel_rfl⟩
abbrev z65 : List Value := [.int .i64 0, .int .i64 0, .int .i64 0, .int .i64 0, .int .i64 0, .int .i64 0, .int .i64 0, .int .i64 0, .int .i64 0, .int .i64 0, .int .i64 0, .int .i64 0, .int .i64 0, .int .i64 0, .int .i64 0, .int .i64 0, .int .i64 0, .int .i64 0]
instance : ZeroT Try.prog 65 [.int .i64 0, .int .i64 0, .int .i64 0, .int .i64 0, .int .i64 0, .int .i64 0, .int .i64 0, .int .i64 0, .int .i64 0, .int .i64 0, .int .i64 0, .int .i64 0, .int .i64 0, .int .i64 0, .int .i64 0, .int .i64 0, .int .i64 0, .int .i64 0] := ⟨fun _ => ⟨valL z65, rfl, by kernel_rfl⟩⟩
instance : ArrayT Try.prog 65 18 3 1 := ⟨by kernel_rfl, fun _ => by kernel_rfl⟩
instance : StructT Try.prog 65 (fun i => some (i * 1, 1)) [.int .i64 0, .int .i64 0, .int .i64 0, .int .i64 0, .int .i64 0, .int .i64 0, .int .i64 0, .int .i64 0, .int .i64 0, .int .i64 0, .int .i64 0, .int .i64 0, .int .i64 0, .int .i64 0, .int .i64 0, .int .i64 0, .int .i64 0, .int .i64 0] := arrayT_mk (n := 18) (e := 3) (by kernel_rfl) (fun _ => by kernel_rfl)
instance : AggT Try.prog 66 18 := ⟨fun _ => by kernel_rfl⟩
instance : SizeT Try.prog 66 18 := ⟨fun _ => by kernel_rfl⟩
abbrev z66 : List Value := [.int .i64 0, .int .i64 0, .int .i64 0, .int .i64 0, .int .i64 0, .int .i64 0, .int .i64 0, .int .i64 0, .int .i64 0, .int .i64 0, .int .i64 0, .int .i64 0, .int .i64 0, .int .i64 0, .int .i64 0, .int .i64 0, .int .i64 0, .int .i64 0]
instance : ZeroT Try.prog 66 [.int .i64 0, .int .i64 0, .int .i64 0, .int .i64 0, .int .i64 0, .int .i64 0, .int .i64 0, .int .i64 0, .int .i64 0, .int .i64 0, .int .i64 0, .int .i64 0, .int .i64 0, .int .i64 0, .int .i64 0, .int .i64 0, .int .i64 0, .int .i64 0] := ⟨fun _ => ⟨valL z66, rfl, by kernel_rfl⟩⟩
instance : ArrayT Try.prog 66 18 3 1 := ⟨by kernel_rfl, fun _ => by kernel_rfl⟩
instance : StructT Try.prog 66 (fun i => some (i * 1, 1)) [.int .i64 0, .int .i64 0, .int .i64 0, .int .i64 0, .int .i64 0, .int .i64 0, .int .i64 0, .int .i64 0, .int .i64 0, .int .i64 0, .int .i64 0, .int .i64 0, .int .i64 0, .int .i64 0, .int .i64 0, .int .i64 0, .int .i64 0, .int .i64 0] := arrayT_mk (n := 18) (e := 3) (by kernel_rfl) (fun _ => by kernel_rfl)
instance : AggT Try.prog 67 190 := ⟨fun _ => by kernel_rfl⟩
instance : SizeT Try.prog 67 190 := ⟨fun _ => by kernel_rfl⟩
def z67 : List Value := [.int .i64 0, .int .u64 0, .bool false, .slice none 0 0, .int .i64 0, .slice none 0 0, .int .i64 0, .int .u64 0, .slice none 0 0, .slice none 0 0, .slice none 0 0, .slice none 0 0, .slice none 0 0, .int .u32 0, .bool false, .slice none 0 0, .int .i64 0, .slice none 0 0, .int .i64 0, .int .u64 0, .slice none 0 0, .slice none 0 0, .slice none 0 0, .slice none 0 0, .slice none 0 0, .int .u32 0, .bool false, .slice none 0 0, .int .i64 0, .slice none 0 0, .int .i64 0, .int .u64 0, .slice none 0 0, .slice none 0 0, .slice none 0 0, .slice none 0 0, .slice none 0 0, .int .u32 0, .bool false, .slice none 0 0, .int .i64 0, .slice none 0 0, .int .i64 0, .int .u64 0, .slice none 0 0, .slice none 0 0, .slice none 0 0, .slice none 0 0, .slice none 0 0, .int .u32 0, .bool false, .slice none 0 0, .int .i64 0, .slice none 0 0, .int .i64 0, .int .u64 0, .slice none 0 0, .slice none 0 0, .slice none 0 0, .slice none 0 0, .slice none 0 0, .int .u32 0, .bool false, .slice none 0 0, .int .i64 0, .slice none 0 0, .int .i64 0, .int .u64 0, .slice none 0 0, .slice none 0 0, .slice none 0 0, .slice none 0 0, .slice none 0 0, .int .u32 0, .pointer none, .bool false, .int .i64 0, .int .i64 0, .int .i64 0, .bool false, .int .i64 0, .bool false, .int .i64 0, .int .i64 0, .int .i64 0, .bool false, .int .i64 0, .bool false, .int .i64 0, .int .i64 0, .int .i64 0, .bool false, .int .i64 0, .bool false, .int .i64 0, .int .i64 0, .int .i64 0, .bool false, .int .i64 0, .bool false, .int .i64 0, .int .i64 0, .int .i64 0, .bool false, .int .i64 0, .bool false, .int .i64 0, .int .i64 0, .int .i64 0, .bool false, .int .i64 0, .bool false, .int .i64 0, .int .i64 0, .int .i64 0, .bool false, .int .i64 0, .bool false, .int .i64 0, .int .i64 0, .int .i64 0, .bool false, .int .i64 0, .bool false, .int .i64 0, .int .i64 0, .int .i64 0, .bool false, .int .i64 0, .bool false, .int .i64 0, .int .i64 0, .int .i64 0, .bool false, .int .i64 0, .bool false, .int .i64 0, .int .i64 0, .int .i64 0, .bool false, .int .i64 0, .bool false, .int .i64 0, .int .i64 0, .int .i64 0, .bool false, .int .i64 0, .bool false, .int .i64 0, .int .i64 0, .int .i64 0, .bool false, .int .i64 0, .bool false, .int .i64 0, .int .i64 0, .int .i64 0, .bool false, .int .i64 0, .bool false, .int .i64 0, .int .i64 0, .int .i64 0, .bool false, .int .i64 0, .bool false, .int .i64 0, .int .i64 0, .int .i64 0, .bool false, .int .i64 0, .pointer none, .int .i64 0, .int .i64 0, .int .i64 0, .int .i64 0, .int .i64 0, .int .i64 0, .int .i64 0, .int .i64 0, .int .i64 0, .int .i64 0, .int .i64 0, .int .i64 0, .int .i64 0, .int .i64 0, .int .i64 0, .int .i64 0, .int .i64 0, .int .i64 0]
theorem z67_len : z67.length = 190 := by kernel_rfl
instance : ZeroT Try.prog 67 z67 := ⟨fun _ => ⟨valL z67, rfl, by kernel_rfl⟩⟩
instance : FieldT Try.prog 67 0 0 3 := ⟨⟨_, Try.underlying67, _, rfl, rfl, rfl⟩, ⟨1, by decide, fun _ => by kernel_rfl⟩⟩
instance : FieldT Try.prog 67 1 1 26 := ⟨⟨_, Try.underlying67, _, rfl, rfl, rfl⟩, ⟨1, by decide, fun _ => by kernel_rfl⟩⟩
instance : FieldT Try.prog 67 2 2 58 := ⟨⟨_, Try.underlying67, _, rfl, rfl, rfl⟩, ⟨72, by decide, fun _ => by kernel_rfl⟩⟩
instance : FieldT Try.prog 67 3 74 59 := ⟨⟨_, Try.underlying67, _, rfl, rfl, rfl⟩, ⟨1, by decide, fun _ => by kernel_rfl⟩⟩
instance : FieldT Try.prog 67 4 75 63 := ⟨⟨_, Try.underlying67, _, rfl, rfl, rfl⟩, ⟨96, by decide, fun _ => by kernel_rfl⟩⟩
instance : FieldT Try.prog 67 5 171 64 := ⟨⟨_, Try.underlying67, _, rfl, rfl, rfl⟩, ⟨1, by decide, fun _ => by kernel_rfl⟩⟩
instance : FieldT Try.prog 67 6 172 66 := ⟨⟨_, Try.underlying67, _, rfl, rfl, rfl⟩, ⟨18, by decide, fun _ => by kernel_rfl⟩⟩
instance : StructT Try.prog 67 (fun i => (#[(0, 1), (1, 1), (2, 72), (74, 1), (75, 96), (171, 1), (172, 18)] : Array (Nat × Nat))[i]?) z67 := structT_mk Try.underlying67 (fun _ => by kernel_rfl)
instance : AggT Try.prog 68 190 := ⟨fun _ => by kernel_rfl⟩
instance : SizeT Try.prog 68 190 := ⟨fun _ => by kernel_rfl⟩
def z68 : List Value := [.int .i64 0, .int .u64 0, .bool false, .slice none 0 0, .int .i64 0, .slice none 0 0, .int .i64 0, .int .u64 0, .slice none 0 0, .slice none 0 0, .slice none 0 0, .slice none 0 0, .slice none 0 0, .int .u32 0, .bool false, .slice none 0 0, .int .i64 0, .slice none 0 0, .int .i64 0, .int .u64 0, .slice none 0 0, .slice none 0 0, .slice none 0 0, .slice none 0 0, .slice none 0 0, .int .u32 0, .bool false, .slice none 0 0, .int .i64 0, .slice none 0 0, .int .i64 0, .int .u64 0, .slice none 0 0, .slice none 0 0, .slice none 0 0, .slice none 0 0, .slice none 0 0, .int .u32 0, .bool false, .slice none 0 0, .int .i64 0, .slice none 0 0, .int .i64 0, .int .u64 0, .slice none 0 0, .slice none 0 0, .slice none 0 0, .slice none 0 0, .slice none 0 0, .int .u32 0, .bool false, .slice none 0 0, .int .i64 0, .slice none 0 0, .int .i64 0, .int .u64 0, .slice none 0 0, .slice none 0 0, .slice none 0 0, .slice none 0 0, .slice none 0 0, .int .u32 0, .bool false, .slice none 0 0, .int .i64 0, .slice none 0 0, .int .i64 0, .int .u64 0, .slice none 0 0, .slice none 0 0, .slice none 0 0, .slice none 0 0, .slice none 0 0, .int .u32 0, .pointer none, .bool false, .int .i64 0, .int .i64 0, .int .i64 0, .bool false, .int .i64 0, .bool false, .int .i64 0, .int .i64 0, .int .i64 0, .bool false, .int .i64 0, .bool false, .int .i64 0, .int .i64 0, .int .i64 0, .bool false, .int .i64 0, .bool false, .int .i64 0, .int .i64 0, .int .i64 0, .bool false, .int .i64 0, .bool false, .int .i64 0, .int .i64 0, .int .i64 0, .bool false, .int .i64 0, .bool false, .int .i64 0, .int .i64 0, .int .i64 0, .bool false, .int .i64 0, .bool false, .int .i64 0, .int .i64 0, .int .i64 0, .bool false, .int .i64 0, .bool false, .int .i64 0, .int .i64 0, .int .i64 0, .bool false, .int .i64 0, .bool false, .int .i64 0, .int .i64 0, .int .i64 0, .bool false, .int .i64 0, .bool false, .int .i64 0, .int .i64 0, .int .i64 0, .bool false, .int .i64 0, .bool false, .int .i64 0, .int .i64 0, .int .i64 0, .bool false, .int .i64 0, .bool false, .int .i64 0, .int .i64 0, .int .i64 0, .bool false, .int .i64 0, .bool false, .int .i64 0, .int .i64 0, .int .i64 0, .bool false, .int .i64 0, .bool false, .int .i64 0, .int .i64 0, .int .i64 0, .bool false, .int .i64 0, .bool false, .int .i64 0, .int .i64 0, .int .i64 0, .bool false, .int .i64 0, .bool false, .int .i64 0, .int .i64 0, .int .i64 0, .bool false, .int .i64 0, .pointer none, .int .i64 0, .int .i64 0, .int .i64 0, .int .i64 0, .int .i64 0, .int .i64 0, .int .i64 0, .int .i64 0, .int .i64 0, .int .i64 0, .int .i64 0, .int .i64 0, .int .i64 0, .int .i64 0, .int .i64 0, .int .i64 0, .int .i64 0, .int .i64 0]
theorem z68_len : z68.length = 190 := by kernel_rfl
instance : ZeroT Try.prog 68 z68 := ⟨fun _ => ⟨valL z68, rfl, by kernel_rfl⟩⟩
instance : FieldT Try.prog 68 0 0 3 := ⟨⟨_, Try.underlying68, _, rfl, rfl, rfl⟩, ⟨1, by decide, fun _ => by kernel_rfl⟩⟩
instance : FieldT Try.prog 68 1 1 26 := ⟨⟨_, Try.underlying68, _, rfl, rfl, rfl⟩, ⟨1, by decide, fun _ => by kernel_rfl⟩⟩
instance : FieldT Try.prog 68 2 2 58 := ⟨⟨_, Try.underlying68, _, rfl, rfl, rfl⟩, ⟨72, by decide, fun _ => by kernel_rfl⟩⟩
instance : FieldT Try.prog 68 3 74 59 := ⟨⟨_, Try.underlying68, _, rfl, rfl, rfl⟩, ⟨1, by decide, fun _ => by kernel_rfl⟩⟩
instance : FieldT Try.prog 68 4 75 63 := ⟨⟨_, Try.underlying68, _, rfl, rfl, rfl⟩, ⟨96, by decide, fun _ => by kernel_rfl⟩⟩
instance : FieldT Try.prog 68 5 171 64 := ⟨⟨_, Try.underlying68, _, rfl, rfl, rfl⟩, ⟨1, by decide, fun _ => by kernel_rfl⟩⟩
instance : FieldT Try.prog 68 6 172 66 := ⟨⟨_, Try.underlying68, _, rfl, rfl, rfl⟩, ⟨18, by decide, fun _ => by kernel_rfl⟩⟩
instance : StructT Try.prog 68 (fun i => (#[(0, 1), (1, 1), (2, 72), (74, 1), (75, 96), (171, 1), (172, 18)] : Array (Nat × Nat))[i]?) z68 := structT_mk Try.underlying68 (fun _ => by kernel_rfl)
instance : ScalarT Try.prog 69 := ⟨fun _ => by kernel_rfl⟩
instance : SizeT Try.prog 69 1 := ⟨fun _ => by kernel_rfl⟩
instance : ZeroT Try.prog 69 [.nilFunc] := ⟨fun _ => ⟨.nilFunc, rfl, by kernel_rfl⟩⟩
instance : AggT Try.prog 70 16 := ⟨fun _ => by kernel_rfl⟩
instance : SizeT Try.prog 70 16 := ⟨fun _ => by kernel_rfl⟩
abbrev z70 : List Value := [.int .u64 0, .int .u64 0, .int .u64 0, .int .u64 0, .int .u64 0, .int .u64 0, .int .u64 0, .int .u64 0, .int .u64 0, .int .u64 0, .int .u64 0, .int .u64 0, .int .u64 0, .int .u64 0, .int .u64 0, .int .u64 0]
instance : ZeroT Try.prog 70 [.int .u64 0, .int .u64 0, .int .u64 0, .int .u64 0, .int .u64 0, .int .u64 0, .int .u64 0, .int .u64 0, .int .u64 0, .int .u64 0, .int .u64 0, .int .u64 0, .int .u64 0, .int .u64 0, .int .u64 0, .int .u64 0] := ⟨fun _ => ⟨valL z70, rfl, by kernel_rfl⟩⟩
instance : ArrayT Try.prog 70 16 26 1 := ⟨by kernel_rfl, fun _ => by kernel_rfl⟩
instance : StructT Try.prog 70 (fun i => some (i * 1, 1)) [.int .u64 0, .int .u64 0, .int .u64 0, .int .u64 0, .int .u64 0, .int .u64 0, .int .u64 0, .int .u64 0, .int .u64 0, .int .u64 0, .int .u64 0, .int .u64 0, .int .u64 0, .int .u64 0, .int .u64 0, .int .u64 0] := arrayT_mk (n := 16) (e := 26) (by kernel_rfl) (fun _ => by kernel_rfl)
instance : AggT Try.prog 71 26 := ⟨fun _ => by kernel_rfl⟩
instance : SizeT Try.prog 71 26 := ⟨fun _ => by kernel_rfl⟩
def z71 : List Value := [.int .u64 0, .int .u64 0, .int .u64 0, .int .u64 0, .int .u64 0, .int .u64 0, .int .u64 0, .int .u64 0, .int .u64 0, .int .u64 0, .int .u64 0, .int .u64 0, .int .u64 0, .int .u64 0, .int .u64 0, .int .u64 0, .int .u64 0, .int .u64 0, .int .u64 0, .int .u64 0, .int .u64 0, .int .u64 0, .bool false, .int .u8 0, .int .u32 0, .int .u32 0]
theorem z71_len : z71.length = 26 := by kernel_rfl
instance : ZeroT Try.prog 71 z71 := ⟨fun _ => ⟨valL z71, rfl, by kernel_rfl⟩⟩
instance : FieldT Try.prog 71 0 0 70 := ⟨⟨_, Try.underlying71, _, rfl, rfl, rfl⟩, ⟨16, by decide, fun _ => by kernel_rfl⟩⟩
instance : FieldT Try.prog 71 1 16 26 := ⟨⟨_, Try.underlying71, _, rfl, rfl, rfl⟩, ⟨1, by decide, fun _ => by kernel_rfl⟩⟩
instance : FieldT Try.prog 71 2 17 26 := ⟨⟨_, Try.underlying71, _, rfl, rfl, rfl⟩, ⟨1, by decide, fun _ => by kernel_rfl⟩⟩
instance : FieldT Try.prog 71 3 18 26 := ⟨⟨_, Try.underlying71, _, rfl, rfl, rfl⟩, ⟨1, by decide, fun _ => by kernel_rfl⟩⟩
instance : FieldT Try.prog 71 4 19 26 := ⟨⟨_, Try.underlying71, _, rfl, rfl, rfl⟩, ⟨1, by decide, fun _ => by kernel_rfl⟩⟩
instance : FieldT Try.prog 71 5 20 26 := ⟨⟨_, Try.underlying71, _, rfl, rfl, rfl⟩, ⟨1, by decide, fun _ => by kernel_rfl⟩⟩
instance : FieldT Try.prog 71 6 21 26 := ⟨⟨_, Try.underlying71, _, rfl, rfl, rfl⟩, ⟨1, by decide, fun _ => by kernel_rfl⟩⟩
instance : FieldT Try.prog 71 7 22 4 := ⟨⟨_, Try.underlying71, _, rfl, rfl, rfl⟩, ⟨1, by decide, fun _ => by kernel_rfl⟩⟩
instance : FieldT Try.prog 71 8 23 5 := ⟨⟨_, Try.underlying71, _, rfl, rfl, rfl⟩, ⟨1, by decide, fun _ => by kernel_rfl⟩⟩
instance : FieldT Try.prog 71 9 24 29 := ⟨⟨_, Try.underlying71, _, rfl, rfl, rfl⟩, ⟨1, by decide, fun _ => by kernel_rfl⟩⟩
instance : FieldT Try.prog 71 10 25 29 := ⟨⟨_, Try.underlying71, _, rfl, rfl, rfl⟩, ⟨1, by decide, fun _ => by kernel_rfl⟩⟩
instance : StructT Try.prog 71 (fun i => (#[(0, 16), (16, 1), (17, 1), (18, 1), (19, 1), (20, 1), (21, 1), (22, 1), (23, 1), (24, 1), (25, 1)] : Array (Nat × Nat))[i]?) z71 := structT_mk Try.underlying71 (fun _ => by kernel_rfl)
instance : AggT Try.prog 72 26 := ⟨fun _ => by kernel_rfl⟩
instance : SizeT Try.prog 72 26 := ⟨fun _ => by kernel_rfl⟩
def z72 : List Value := [.int .u64 0, .int .u64 0, .int .u64 0, .int .u64 0, .int .u64 0, .int .u64 0, .int .u64 0, .int .u64 0, .int .u64 0, .int .u64 0, .int .u64 0, .int .u64 0, .int .u64 0, .int .u64 0, .int .u64 0, .int .u64 0, .int .u64 0, .int .u64 0, .int .u64 0, .int .u64 0, .int .u64 0, .int .u64 0, .bool false, .int .u8 0, .int .u32 0, .int .u32 0]
theorem z72_len : z72.length = 26 := by kernel_rfl
instance : ZeroT Try.prog 72 z72 := ⟨fun _ => ⟨valL z72, rfl, by kernel_rfl⟩⟩
instance : FieldT Try.prog 72 0 0 70 := ⟨⟨_, Try.underlying72, _, rfl, rfl, rfl⟩, ⟨16, by decide, fun _ => by kernel_rfl⟩⟩
instance : FieldT Try.prog 72 1 16 26 := ⟨⟨_, Try.underlying72, _, rfl, rfl, rfl⟩, ⟨1, by decide, fun _ => by kernel_rfl⟩⟩
instance : FieldT Try.prog 72 2 17 26 := ⟨⟨_, Try.underlying72, _, rfl, rfl, rfl⟩, ⟨1, by decide, fun _ => by kernel_rfl⟩⟩
instance : FieldT Try.prog 72 3 18 26 := ⟨⟨_, Try.underlying72, _, rfl, rfl, rfl⟩, ⟨1, by decide, fun _ => by kernel_rfl⟩⟩
instance : FieldT Try.prog 72 4 19 26 := ⟨⟨_, Try.underlying72, _, rfl, rfl, rfl⟩, ⟨1, by decide, fun _ => by kernel_rfl⟩⟩
instance : FieldT Try.prog 72 5 20 26 := ⟨⟨_, Try.underlying72, _, rfl, rfl, rfl⟩, ⟨1, by decide, fun _ => by kernel_rfl⟩⟩
instance : FieldT Try.prog 72 6 21 26 := ⟨⟨_, Try.underlying72, _, rfl, rfl, rfl⟩, ⟨1, by decide, fun _ => by kernel_rfl⟩⟩
instance : FieldT Try.prog 72 7 22 4 := ⟨⟨_, Try.underlying72, _, rfl, rfl, rfl⟩, ⟨1, by decide, fun _ => by kernel_rfl⟩⟩
instance : FieldT Try.prog 72 8 23 5 := ⟨⟨_, Try.underlying72, _, rfl, rfl, rfl⟩, ⟨1, by decide, fun _ => by kernel_rfl⟩⟩
instance : FieldT Try.prog 72 9 24 29 := ⟨⟨_, Try.underlying72, _, rfl, rfl, rfl⟩, ⟨1, by decide, fun _ => by kernel_rfl⟩⟩
instance : FieldT Try.prog 72 10 25 29 := ⟨⟨_, Try.underlying72, _, rfl, rfl, rfl⟩, ⟨1, by decide, fun _ => by kernel_rfl⟩⟩
instance : StructT Try.prog 72 (fun i => (#[(0, 16), (16, 1), (17, 1), (18, 1), (19, 1), (20, 1), (21, 1), (22, 1), (23, 1), (24, 1), (25, 1)] : Array (Nat × Nat))[i]?) z72 := structT_mk Try.underlying72 (fun _ => by kernel_rfl)
instance : ScalarT Try.prog 73 := ⟨fun _ => by kernel_rfl⟩
instance : SizeT Try.prog 73 1 := ⟨fun _ => by kernel_rfl⟩
instance : ZeroT Try.prog 73 [.nilFunc] := ⟨fun _ => ⟨.nilFunc, rfl, by kernel_rfl⟩⟩
instance : ScalarT Try.prog 74 := ⟨fun _ => by kernel_rfl⟩
instance : SizeT Try.prog 74 1 := ⟨fun _ => by kernel_rfl⟩
instance : ZeroT Try.prog 74 [.nilFunc] := ⟨fun _ => ⟨.nilFunc, rfl, by kernel_rfl⟩⟩
instance : ScalarT Try.prog 75 := ⟨fun _ => by kernel_rfl⟩
instance : SizeT Try.prog 75 1 := ⟨fun _ => by kernel_rfl⟩
instance : ZeroT Try.prog 75 [.nilFunc] := ⟨fun _ => ⟨.nilFunc, rfl, by kernel_rfl⟩⟩
instance : ScalarT Try.prog 76 := ⟨fun _ => by kernel_rfl⟩
instance : SizeT Try.prog 76 1 := ⟨fun _ => by kernel_rfl⟩
instance : ZeroT Try.prog 76 [.nilFunc] := ⟨fun _ => ⟨.nilFunc, rfl, by kernel_rfl⟩⟩
instance : ScalarT Try.prog 77 := ⟨fun _ => by kernel_rfl⟩
instance : SizeT Try.prog 77 1 := ⟨fun _ => by kernel_rfl⟩
instance : ZeroT Try.prog 77 [.nilFunc] := ⟨fun _ => ⟨.nilFunc, rfl, by kernel_rfl⟩⟩
instance : ScalarT Try.prog 78 := ⟨fun _ => by kernel_rfl⟩
instance : SizeT Try.prog 78 1 := ⟨fun _ => by kernel_rfl⟩
instance : ZeroT Try.prog 78 [.nilFunc] := ⟨fun _ => ⟨.nilFunc, rfl, by kernel_rfl⟩⟩
instance : ScalarT Try.prog 79 := ⟨fun _ => by kernel_rfl⟩
instance : SizeT Try.prog 79 1 := ⟨fun _ => by kernel_rfl⟩
instance : ZeroT Try.prog 79 [.pointer none] := ⟨fun _ => ⟨.pointer none, rfl, by kernel_rfl⟩⟩
instance : ScalarT Try.prog 80 := ⟨fun _ => by kernel_rfl⟩
instance : SizeT Try.prog 80 1 := ⟨fun _ => by kernel_rfl⟩
instance : ZeroT Try.prog 80 [.nilFunc] := ⟨fun _ => ⟨.nilFunc, rfl, by kernel_rfl⟩⟩
instance : AggT Try.prog 81 18 := ⟨fun _ => by kernel_rfl⟩
instance : SizeT Try.prog 81 18 := ⟨fun _ => by kernel_rfl⟩
abbrev z81 : List Value := [.bool false, .bool false, .bool false, .bool false, .bool false, .bool false, .bool false, .bool false, .bool false, .bool false, .bool false, .bool false, .bool false, .bool false, .bool false, .bool false, .bool false, .bool false]
instance : ZeroT Try.prog 81 [.bool false, .bool false, .bool false, .bool false, .bool false, .bool false, .bool false, .bool false, .bool false, .bool false, .bool false, .bool false, .bool false, .bool false, .bool false, .bool false, .bool false, .bool false] := ⟨fun _ => ⟨valL z81, rfl, by kernel_rfl⟩⟩
instance : ArrayT Try.prog 81 18 4 1 := ⟨by kernel_rfl, fun _ => by kernel_rfl⟩
instance : StructT Try.prog 81 (fun i => some (i * 1, 1)) [.bool false, .bool false, .bool false, .bool false, .bool false, .bool false, .bool false, .bool false, .bool false, .bool false, .bool false, .bool false, .bool false, .bool false, .bool false, .bool false, .bool false, .bool false] := arrayT_mk (n := 18) (e := 4) (by kernel_rfl) (fun _ => by kernel_rfl)
instance : ScalarT Try.prog 82 := ⟨fun _ => by kernel_rfl⟩
instance : SizeT Try.prog 82 1 := ⟨fun _ => by kernel_rfl⟩
instance : ZeroT Try.prog 82 [.nilFunc] := ⟨fun _ => ⟨.nilFunc, rfl, by kernel_rfl⟩⟩
instance : ScalarT Try.prog 83 := ⟨fun _ => by kernel_rfl⟩
instance : SizeT Try.prog 83 1 := ⟨fun _ => by kernel_rfl⟩
instance : ZeroT Try.prog 83 [.pointer none] := ⟨fun _ => ⟨.pointer none, rfl, by kernel_rfl⟩⟩
instance : ScalarT Try.prog 84 := ⟨fun _ => by kernel_rfl⟩
instance : SizeT Try.prog 84 1 := ⟨fun _ => by kernel_rfl⟩
instance : ZeroT Try.prog 84 [.nilFunc] := ⟨fun _ => ⟨.nilFunc, rfl, by kernel_rfl⟩⟩
instance : ScalarT Try.prog 85 := ⟨fun _ => by kernel_rfl⟩
instance : SizeT Try.prog 85 1 := ⟨fun _ => by kernel_rfl⟩
instance : ZeroT Try.prog 85 [.nilFunc] := ⟨fun _ => ⟨.nilFunc, rfl, by kernel_rfl⟩⟩
instance : ScalarT Try.prog 86 := ⟨fun _ => by kernel_rfl⟩
instance : SizeT Try.prog 86 1 := ⟨fun _ => by kernel_rfl⟩
instance : ZeroT Try.prog 86 [.nilFunc] := ⟨fun _ => ⟨.nilFunc, rfl, by kernel_rfl⟩⟩
instance : ScalarT Try.prog 87 := ⟨fun _ => by kernel_rfl⟩
instance : SizeT Try.prog 87 1 := ⟨fun _ => by kernel_rfl⟩
instance : ZeroT Try.prog 87 [.slice none 0 0] := ⟨fun _ => ⟨.slice none 0 0, rfl, by kernel_rfl⟩⟩
instance : SliceT Try.prog 87 26 1 := ⟨by kernel_rfl, fun _ => by kernel_rfl⟩
instance : ScalarT Try.prog 88 := ⟨fun _ => by kernel_rfl⟩
instance : SizeT Try.prog 88 1 := ⟨fun _ => by kernel_rfl⟩
instance : ZeroT Try.prog 88 [.slice none 0 0] := ⟨fun _ => ⟨.slice none 0 0, rfl, by kernel_rfl⟩⟩
instance : SliceT Try.prog 88 95 3 := ⟨by kernel_rfl, fun _ => by kernel_rfl⟩
instance : ScalarT Try.prog 89 := ⟨fun _ => by kernel_rfl⟩
instance : SizeT Try.prog 89 1 := ⟨fun _ => by kernel_rfl⟩
instance : ZeroT Try.prog 89 [.slice none 0 0] := ⟨fun _ => ⟨.slice none 0 0, rfl, by kernel_rfl⟩⟩
instance : SliceT Try.prog 89 95 3 := ⟨by kernel_rfl, fun _ => by kernel_rfl⟩
instance : AggT Try.prog 90 1 := ⟨fun _ => by kernel_rfl⟩
instance : SizeT Try.prog 90 1 := ⟨fun _ => by kernel_rfl⟩
abbrev z90 : List Value := [.slice none 0 0]
instance : ZeroT Try.prog 90 [.slice none 0 0] := ⟨fun _ => ⟨valL z90, rfl, by kernel_rfl⟩⟩
instance : FieldT Try.prog 90 0 0 89 := ⟨⟨_, Try.underlying90, _, rfl, rfl, rfl⟩, ⟨1, by decide, fun _ => by kernel_rfl⟩⟩
instance : StructT Try.prog 90 (fun i => (#[(0, 1)] : Array (Nat × Nat))[i]?) [.slice none 0 0] := structT_mk Try.underlying90 (fun _ => by kernel_rfl)
instance : AggT Try.prog 91 1 := ⟨fun _ => by kernel_rfl⟩
instance : SizeT Try.prog 91 1 := ⟨fun _ => by kernel_rfl⟩
abbrev z91 : List Value := [.slice none 0 0]
instance : ZeroT Try.prog 91 [.slice none 0 0] := ⟨fun _ => ⟨valL z91, rfl, by kernel_rfl⟩⟩
instance : FieldT Try.prog 91 0 0 89 := ⟨⟨_, Try.underlying91, _, rfl, rfl, rfl⟩, ⟨1, by decide, fun _ => by kernel_rfl⟩⟩
instance : StructT Try.prog 91 (fun i => (#[(0, 1)] : Array (Nat × Nat))[i]?) [.slice none 0 0] := structT_mk Try.underlying91 (fun _ => by kernel_rfl)
instance : ScalarT Try.prog 92 := ⟨fun _ => by kernel_rfl⟩
instance : SizeT Try.prog 92 1 := ⟨fun _ => by kernel_rfl⟩
instance : ZeroT Try.prog 92 [.nilFunc] := ⟨fun _ => ⟨.nilFunc, rfl, by kernel_rfl⟩⟩
instance : ScalarT Try.prog 93 := ⟨fun _ => by kernel_rfl⟩
instance : SizeT Try.prog 93 1 := ⟨fun _ => by kernel_rfl⟩
instance : ZeroT Try.prog 93 [.nilFunc] := ⟨fun _ => ⟨.nilFunc, rfl, by kernel_rfl⟩⟩
instance : AggT Try.prog 94 3 := ⟨fun _ => by kernel_rfl⟩
instance : SizeT Try.prog 94 3 := ⟨fun _ => by kernel_rfl⟩
abbrev z94 : List Value := [.int .u64 0, .int .i64 0, .int .i64 0]
instance : ZeroT Try.prog 94 [.int .u64 0, .int .i64 0, .int .i64 0] := ⟨fun _ => ⟨valL z94, rfl, by kernel_rfl⟩⟩
instance : FieldT Try.prog 94 0 0 26 := ⟨⟨_, Try.underlying94, _, rfl, rfl, rfl⟩, ⟨1, by decide, fun _ => by kernel_rfl⟩⟩
instance : FieldT Try.prog 94 1 1 3 := ⟨⟨_, Try.underlying94, _, rfl, rfl, rfl⟩, ⟨1, by decide, fun _ => by kernel_rfl⟩⟩
instance : FieldT Try.prog 94 2 2 3 := ⟨⟨_, Try.underlying94, _, rfl, rfl, rfl⟩, ⟨1, by decide, fun _ => by kernel_rfl⟩⟩
instance : StructT Try.prog 94 (fun i => (#[(0, 1), (1, 1), (2, 1)] : Array (Nat × Nat))[i]?) [.int .u64 0, .int .i64 0, .int .i64 0] := structT_mk Try.underlying94 (fun _ => by kernel_rfl)
instance : AggT Try.prog 95 3 := ⟨fun _ => by kernel_rfl⟩
instance : SizeT Try.prog 95 3 := ⟨fun _ => by kernel_rfl⟩
abbrev z95 : List Value := [.int .u64 0, .int .i64 0, .int .i64 0]
instance : ZeroT Try.prog 95 [.int .u64 0, .int .i64 0, .int .i64 0] := ⟨fun _ => ⟨valL z95, rfl, by kernel_rfl⟩⟩
instance : FieldT Try.prog 95 0 0 26 := ⟨⟨_, Try.underlying95, _, rfl, rfl, rfl⟩, ⟨1, by decide, fun _ => by kernel_rfl⟩⟩
instance : FieldT Try.prog 95 1 1 3 := ⟨⟨_, Try.underlying95, _, rfl, rfl, rfl⟩, ⟨1, by decide, fun _ => by kernel_rfl⟩⟩
instance : FieldT Try.prog 95 2 2 3 := ⟨⟨_, Try.underlying95, _, rfl, rfl, rfl⟩, ⟨1, by decide, fun _ => by kernel_rfl⟩⟩
instance : StructT Try.prog 95 (fun i => (#[(0, 1), (1, 1), (2, 1)] : Array (Nat × Nat))[i]?) [.int .u64 0, .int .i64 0, .int .i64 0] := structT_mk Try.underlying95 (fun _ => by kernel_rfl)
instance : ScalarT Try.prog 96 := ⟨fun _ => by kernel_rfl⟩
instance : SizeT Try.prog 96 1 := ⟨fun _ => by kernel_rfl⟩
instance : ZeroT Try.prog 96 [.nilFunc] := ⟨fun _ => ⟨.nilFunc, rfl, by kernel_rfl⟩⟩
instance : ScalarT Try.prog 97 := ⟨fun _ => by kernel_rfl⟩
instance : SizeT Try.prog 97 1 := ⟨fun _ => by kernel_rfl⟩
instance : ZeroT Try.prog 97 [.slice none 0 0] := ⟨fun _ => ⟨.slice none 0 0, rfl, by kernel_rfl⟩⟩
instance : SliceT Try.prog 97 103 4 := ⟨by kernel_rfl, fun _ => by kernel_rfl⟩
instance : AggT Try.prog 98 3 := ⟨fun _ => by kernel_rfl⟩
instance : SizeT Try.prog 98 3 := ⟨fun _ => by kernel_rfl⟩
abbrev z98 : List Value := [.bool false, .bool false, .bool false]
instance : ZeroT Try.prog 98 [.bool false, .bool false, .bool false] := ⟨fun _ => ⟨valL z98, rfl, by kernel_rfl⟩⟩
instance : ArrayT Try.prog 98 3 4 1 := ⟨by kernel_rfl, fun _ => by kernel_rfl⟩
instance : StructT Try.prog 98 (fun i => some (i * 1, 1)) [.bool false, .bool false, .bool false] := arrayT_mk (n := 3) (e := 4) (by kernel_rfl) (fun _ => by kernel_rfl)
instance : AggT Try.prog 99 18 := ⟨fun _ => by kernel_rfl⟩
instance : SizeT Try.prog 99 18 := ⟨fun _ => by kernel_rfl⟩
abbrev z99 : List Value := [.bool false, .bool false, .bool false, .bool false, .bool false, .bool false, .bool false, .bool false, .bool false, .bool false, .bool false, .bool false, .bool false, .bool false, .bool false, .bool false, .bool false, .bool false]
instance : ZeroT Try.prog 99 [.bool false, .bool false, .bool false, .bool false, .bool false, .bool false, .bool false, .bool false, .bool false, .bool false, .bool false, .bool false, .bool false, .bool false, .bool false, .bool false, .bool false, .bool false] := ⟨fun _ => ⟨valL z99, rfl, by kernel_rfl⟩⟩
instance : ArrayT Try.prog 99 6 98 3 := ⟨by kernel_rfl, fun _ => by kernel_rfl⟩
instance : StructT Try.prog 99 (fun i => some (i * 3, 3)) [.bool false, .bool false, .bool false, .bool false, .bool false, .bool false, .bool false, .bool false, .bool false, .bool false, .bool false, .bool false, .bool false, .bool false, .bool false, .bool false, .bool false, .bool false] := arrayT_mk (n := 6) (e := 98) (by kernel_rfl) (fun _ => by kernel_rfl)
instance : AggT Try.prog 100 3 := ⟨fun _ => by kernel_rfl⟩
instance : SizeT Try.prog 100 3 := ⟨fun _ => by kernel_rfl⟩
abbrev z100 : List Value := [.int .u64 0, .int .u64 0, .int .u64 0]
instance : ZeroT Try.prog 100 [.int .u64 0, .int .u64 0, .int .u64 0] := ⟨fun _ => ⟨valL z100, rfl, by kernel_rfl⟩⟩
instance : ArrayT Try.prog 100 3 26 1 := ⟨by kernel_rfl, fun _ => by kernel_rfl⟩
instance : StructT Try.prog 100 (fun i => some (i * 1, 1)) [.int .u64 0, .int .u64 0, .int .u64 0] := arrayT_mk (n := 3) (e := 26) (by kernel_rfl) (fun _ => by kernel_rfl)
instance : AggT Try.prog 101 18 := ⟨fun _ => by kernel_rfl⟩
instance : SizeT Try.prog 101 18 := ⟨fun _ => by kernel_rfl⟩
abbrev z101 : List Value := [.int .u64 0, .int .u64 0, .int .u64 0, .int .u64 0, .int .u64 0, .int .u64 0, .int .u64 0, .int .u64 0, .int .u64 0, .int .u64 0, .int .u64 0, .int .u64 0, .int .u64 0, .int .u64 0, .int .u64 0, .int .u64 0, .int .u64 0, .int .u64 0]
instance : ZeroT Try.prog 101 [.int .u64 0, .int .u64 0, .int .u64 0, .int .u64 0, .int .u64 0, .int .u64 0, .int .u64 0, .int .u64 0, .int .u64 0, .int .u64 0, .int .u64 0, .int .u64 0, .int .u64 0, .int .u64 0, .int .u64 0, .int .u64 0, .int .u64 0, .int .u64 0] := ⟨fun _ => ⟨valL z101, rfl, by kernel_rfl⟩⟩
instance : ArrayT Try.prog 101 6 100 3 := ⟨by kernel_rfl, fun _ => by kernel_rfl⟩
instance : StructT Try.prog 101 (fun i => some (i * 3, 3)) [.int .u64 0, .int .u64 0, .int .u64 0, .int .u64 0, .int .u64 0, .int .u64 0, .int .u64 0, .int .u64 0, .int .u64 0, .int .u64 0, .int .u64 0, .int .u64 0, .int .u64 0, .int .u64 0, .int .u64 0, .int .u64 0, .int .u64 0, .int .u64 0] := arrayT_mk (n := 6) (e := 100) (by kernel_rfl) (fun _ => by kernel_rfl)
instance : AggT Try.prog 102 4 := ⟨fun _ => by kernel_rfl⟩
instance : SizeT Try.prog 102 4 := ⟨fun _ => by kernel_rfl⟩
abbrev z102 : List Value := [.int .u8 0, .int .i64 0, .int .i64 0, .int .u64 0]
instance : ZeroT Try.prog 102 [.int .u8 0, .int .i64 0, .int .i64 0, .int .u64 0] := ⟨fun _ => ⟨valL z102, rfl, by kernel_rfl⟩⟩
instance : FieldT Try.prog 102 0 0 5 := ⟨⟨_, Try.underlying102, _, rfl, rfl, rfl⟩, ⟨1, by decide, fun _ => by kernel_rfl⟩⟩
instance : FieldT Try.prog 102 1 1 3 := ⟨⟨_, Try.underlying102, _, rfl, rfl, rfl⟩, ⟨1, by decide, fun _ => by kernel_rfl⟩⟩
instance : FieldT Try.prog 102 2 2 3 := ⟨⟨_, Try.underlying102, _, rfl, rfl, rfl⟩, ⟨1, by decide, fun _ => by kernel_rfl⟩⟩
instance : FieldT Try.prog 102 3 3 26 := ⟨⟨_, Try.underlying102, _, rfl, rfl, rfl⟩, ⟨1, by decide, fun _ => by kernel_rfl⟩⟩
instance : StructT Try.prog 102 (fun i => (#[(0, 1), (1, 1), (2, 1), (3, 1)] : Array (Nat × Nat))[i]?) [.int .u8 0, .int .i64 0, .int .i64 0, .int .u64 0] := structT_mk Try.underlying102 (fun _ => by kernel_rfl)
instance : AggT Try.prog 103 4 := ⟨fun _ => by kernel_rfl⟩
instance : SizeT Try.prog 103 4 := ⟨fun _ => by kernel_rfl⟩
abbrev z103 : List Value := [.int .u8 0, .int .i64 0, .int .i64 0, .int .u64 0]
instance : ZeroT Try.prog 103 [.int .u8 0, .int .i64 0, .int .i64 0, .int .u64 0] := ⟨fun _ => ⟨valL z103, rfl, by kernel_rfl⟩⟩
instance : FieldT Try.prog 103 0 0 5 := ⟨⟨_, Try.underlying103, _, rfl, rfl, rfl⟩, ⟨1, by decide, fun _ => by kernel_rfl⟩⟩
instance : FieldT Try.prog 103 1 1 3 := ⟨⟨_, Try.underlying103, _, rfl, rfl, rfl⟩, ⟨1, by decide, fun _ => by kernel_rfl⟩⟩
instance : FieldT Try.prog 103 2 2 3 := ⟨⟨_, Try.underlying103, _, rfl, rfl, rfl⟩, ⟨1, by decide, fun _ => by kernel_rfl⟩⟩
instance : FieldT Try.prog 103 3 3 26 := ⟨⟨_, Try.underlying103, _, rfl, rfl, rfl⟩, ⟨1, by decide, fun _ => by kernel_rfl⟩⟩
instance : StructT Try.prog 103 (fun i => (#[(0, 1), (1, 1), (2, 1), (3, 1)] : Array (Nat × Nat))[i]?) [.int .u8 0, .int .i64 0, .int .i64 0, .int .u64 0] := structT_mk Try.underlying103 (fun _ => by kernel_rfl)
instance : ScalarT Try.prog 104 := ⟨fun _ => by kernel_rfl⟩
instance : SizeT Try.prog 104 1 := ⟨fun _ => by kernel_rfl⟩
instance : ZeroT Try.prog 104 [.nilFunc] := ⟨fun _ => ⟨.nilFunc, rfl, by kernel_rfl⟩⟩
instance : ScalarT Try.prog 105 := ⟨fun _ => by kernel_rfl⟩
instance : SizeT Try.prog 105 1 := ⟨fun _ => by kernel_rfl⟩
instance : ZeroT Try.prog 105 [.nilFunc] := ⟨fun _ => ⟨.nilFunc, rfl, by kernel_rfl⟩⟩
instance : ScalarT Try.prog 106 := ⟨fun _ => by kernel_rfl⟩
instance : SizeT Try.prog 106 1 := ⟨fun _ => by kernel_rfl⟩
instance : ZeroT Try.prog 106 [.nilFunc] := ⟨fun _ => ⟨.nilFunc, rfl, by kernel_rfl⟩⟩
instance : ScalarT Try.prog 107 := ⟨fun _ => by kernel_rfl⟩
instance : SizeT Try.prog 107 1 := ⟨fun _ => by kernel_rfl⟩
instance : ZeroT Try.prog 107 [.nilFunc] := ⟨fun _ => ⟨.nilFunc, rfl, by kernel_rfl⟩⟩
instance : ScalarT Try.prog 108 := ⟨fun _ => by kernel_rfl⟩
instance : SizeT Try.prog 108 1 := ⟨fun _ => by kernel_rfl⟩
instance : ZeroT Try.prog 108 [.nilFunc] := ⟨fun _ => ⟨.nilFunc, rfl, by kernel_rfl⟩⟩
instance : ScalarT Try.prog 109 := ⟨fun _ => by kernel_rfl⟩
instance : SizeT Try.prog 109 1 := ⟨fun _ => by kernel_rfl⟩
instance : ZeroT Try.prog 109 [.nilFunc] := ⟨fun _ => ⟨.nilFunc, rfl, by kernel_rfl⟩⟩
instance : ScalarT Try.prog 110 := ⟨fun _ => by kernel_rfl⟩
instance : SizeT Try.prog 110 1 := ⟨fun _ => by kernel_rfl⟩
instance : ZeroT Try.prog 110 [.nilFunc] := ⟨fun _ => ⟨.nilFunc, rfl, by kernel_rfl⟩⟩
instance : ScalarT Try.prog 111 := ⟨fun _ => by kernel_rfl⟩
instance : SizeT Try.prog 111 1 := ⟨fun _ => by kernel_rfl⟩
instance : ZeroT Try.prog 111 [.nilFunc] := ⟨fun _ => ⟨.nilFunc, rfl, by kernel_rfl⟩⟩
instance : ScalarT Try.prog 112 := ⟨fun _ => by kernel_rfl⟩
instance : SizeT Try.prog 112 1 := ⟨fun _ => by kernel_rfl⟩
instance : ZeroT Try.prog 112 [.pointer none] := ⟨fun _ => ⟨.pointer none, rfl, by kernel_rfl⟩⟩
instance : AggT Try.prog 113 3 := ⟨fun _ => by kernel_rfl⟩
instance : SizeT Try.prog 113 3 := ⟨fun _ => by kernel_rfl⟩
abbrev z113 : List Value := [.pointer none, .bool false, .bool false]
instance : ZeroT Try.prog 113 [.pointer none, .bool false, .bool false] := ⟨fun _ => ⟨valL z113, rfl, by kernel_rfl⟩⟩
instance : FieldT Try.prog 113 0 0 112 := ⟨⟨_, Try.underlying113, _, rfl, rfl, rfl⟩, ⟨1, by decide, fun _ => by kernel_rfl⟩⟩
instance : FieldT Try.prog 113 1 1 4 := ⟨⟨_, Try.underlying113, _, rfl, rfl, rfl⟩, ⟨1, by decide, fun _ => by kernel_rfl⟩⟩
instance : FieldT Try.prog 113 2 2 4 := ⟨⟨_, Try.underlying113, _, rfl, rfl, rfl⟩, ⟨1, by decide, fun _ => by kernel_rfl⟩⟩
instance : StructT Try.prog 113 (fun i => (#[(0, 1), (1, 1), (2, 1)] : Array (Nat × Nat))[i]?) [.pointer none, .bool false, .bool false] := structT_mk Try.underlying113 (fun _ => by kernel_rfl)
instance : AggT Try.prog 114 3 := ⟨fun _ => by kernel_rfl⟩
instance : SizeT Try.prog 114 3 := ⟨fun _ => by kernel_rfl⟩
abbrev z114 : List Value := [.pointer none, .bool false, .bool false]
instance : ZeroT Try.prog 114 [.pointer none, .bool false, .bool false] := ⟨fun _ => ⟨valL z114, rfl, by kernel_rfl⟩⟩
instance : FieldT Try.prog 114 0 0 112 := ⟨⟨_, Try.underlying114, _, rfl, rfl, rfl⟩, ⟨1, by decide, fun _ => by kernel_rfl⟩⟩
instance : FieldT Try.prog 114 1 1 4 := ⟨⟨_, Try.underlying114, _, rfl, rfl, rfl⟩, ⟨1, by decide, fun _ => by kernel_rfl⟩⟩
instance : FieldT Try.prog 114 2 2 4 := ⟨⟨_, Try.underlying114, _, rfl, rfl, rfl⟩, ⟨1, by decide, fun _ => by kernel_rfl⟩⟩
instance : StructT Try.prog 114 (fun i => (#[(0, 1), (1, 1), (2, 1)] : Array (Nat × Nat))[i]?) [.pointer none, .bool false, .bool false] := structT_mk Try.underlying114 (fun _ => by kernel_rfl)
instance : AggT Try.prog 115 96 := ⟨fun _ => by kernel_rfl⟩
instance : SizeT Try.prog 115 96 := ⟨fun _ => by kernel_rfl⟩
def z115 : List Value := [.pointer none, .bool false, .bool false, .pointer none, .bool false, .bool false, .pointer none, .bool false, .bool false, .pointer none, .bool false, .bool false, .pointer none, .bool false, .bool false, .pointer none, .bool false, .bool false, .pointer none, .bool false, .bool false, .pointer none, .bool false, .bool false, .pointer none, .bool false, .bool false, .pointer none, .bool false, .bool false, .pointer none, .bool false, .bool false, .pointer none, .bool false, .bool false, .pointer none, .bool false, .bool false, .pointer none, .bool false, .bool false, .pointer none, .bool false, .bool false, .pointer none, .bool false, .bool false, .pointer none, .bool false, .bool false, .pointer none, .bool false, .bool false, .pointer none, .bool false, .bool false, .pointer none, .bool false, .bool false, .pointer none, .bool false, .bool false, .pointer none, .bool false, .bool false, .pointer none, .bool false, .bool false, .pointer none, .bool false, .bool false, .pointer none, .bool false, .bool false, .pointer none, .bool false, .bool false, .pointer none, .bool false, .bool false, .pointer none, .bool false, .bool false, .pointer none, .bool false, .bool false, .pointer none, .bool false, .bool false, .pointer none, .bool false, .bool false, .pointer none, .bool false, .bool false]
theorem z115_len : z115.length = 96 := by kernel_rfl
instance : ZeroT Try.prog 115 z115 := ⟨fun _ => ⟨valL z115, rfl, by kernel_rfl⟩⟩
instance : ArrayT Try.prog 115 32 114 3 := ⟨by kernel_rfl, fun _ => by kernel_rfl⟩
instance : StructT Try.prog 115 (fun i => some (i * 3, 3)) z115 := arrayT_mk (n := 32) (e := 114) (by kernel_rfl) (fun _ => by kernel_rfl)
instance : AggT Try.prog 116 109 := ⟨fun _ => by kernel_rfl⟩
instance : SizeT Try.prog 116 109 := ⟨fun _ => by kernel_rfl⟩
def z116 : List Value := [.bool false, .slice none 0 0, .int .i64 0, .slice none 0 0, .int .i64 0, .int .u64 0, .slice none 0 0, .slice none 0 0, .slice none 0 0, .slice none 0 0, .slice none 0 0, .int .u32 0, .pointer none, .bool false, .bool false, .pointer none, .bool false, .bool false, .pointer none, .bool false, .bool false, .pointer none, .bool false, .bool false, .pointer none, .bool false, .bool false, .pointer none, .bool false, .bool false, .pointer none, .bool false, .bool false, .pointer none, .bool false, .bool false, .pointer none, .bool false, .bool false, .pointer none, .bool false, .bool false, .pointer none, .bool false, .bool false, .pointer none, .bool false, .bool false, .pointer none, .bool false, .bool false, .pointer none, .bool false, .bool false, .pointer none, .bool false, .bool false, .pointer none, .bool false, .bool false, .pointer none, .bool false, .bool false, .pointer none, .bool false, .bool false, .pointer none, .bool false, .bool false, .pointer none, .bool false, .bool false, .pointer none, .bool false, .bool false, .pointer none, .bool false, .bool false, .pointer none, .bool false, .bool false, .pointer none, .bool false, .bool false, .pointer none, .bool false, .bool false, .pointer none, .bool false, .bool false, .pointer none, .bool false, .bool false, .pointer none, .bool false, .bool false, .pointer none, .bool false, .bool false, .pointer none, .bool false, .bool false, .pointer none, .bool false, .bool false, .pointer none, .bool false, .bool false, .int .u64 0]
theorem z116_len : z116.length = 109 := by kernel_rfl
instance : ZeroT Try.prog 116 z116 := ⟨fun _ => ⟨valL z116, rfl, by kernel_rfl⟩⟩
instance : FieldT Try.prog 116 0 0 31 := ⟨⟨_, Try.underlying116, _, rfl, rfl, rfl⟩, ⟨12, by decide, fun _ => by kernel_rfl⟩⟩
instance : FieldT Try.prog 116 1 12 115 := ⟨⟨_, Try.underlying116, _, rfl, rfl, rfl⟩, ⟨96, by decide, fun _ => by kernel_rfl⟩⟩
instance : FieldT Try.prog 116 2 108 26 := ⟨⟨_, Try.underlying116, _, rfl, rfl, rfl⟩, ⟨1, by decide, fun _ => by kernel_rfl⟩⟩
instance : StructT Try.prog 116 (fun i => (#[(0, 12), (12, 96), (108, 1)] : Array (Nat × Nat))[i]?) z116 := structT_mk Try.underlying116 (fun _ => by kernel_rfl)
instance : AggT Try.prog 117 109 := ⟨fun _ => by kernel_rfl⟩
instance : SizeT Try.prog 117 109 := ⟨fun _ => by kernel_rfl⟩
def z117 : List Value := [.bool false, .slice none 0 0, .int .i64 0, .slice none 0 0, .int .i64 0, .int .u64 0, .slice none 0 0, .slice none 0 0, .slice none 0 0, .slice none 0 0, .slice none 0 0, .int .u32 0, .pointer none, .bool false, .bool false, .pointer none, .bool false, .bool false, .pointer none, .bool false, .bool false, .pointer none, .bool false, .bool false, .pointer none, .bool false, .bool false, .pointer none, .bool false, .bool false, .pointer none, .bool false, .bool false, .pointer none, .bool false, .bool false, .pointer none, .bool false, .bool false, .pointer none, .bool false, .bool false, .pointer none, .bool false, .bool false, .pointer none, .bool false, .bool false, .pointer none, .bool false, .bool false, .pointer none, .bool false, .bool false, .pointer none, .bool false, .bool false, .pointer none, .bool false, .bool false, .pointer none, .bool false, .bool false, .pointer none, .bool false, .bool false, .pointer none, .bool false, .bool false, .pointer none, .bool false, .bool false, .pointer none, .bool false, .bool false, .pointer none, .bool false, .bool false, .pointer none, .bool false, .bool false, .pointer none, .bool false, .bool false, .pointer none, .bool false, .bool false, .pointer none, .bool false, .bool false, .pointer none, .bool false, .bool false, .pointer none, .bool false, .bool false, .pointer none, .bool false, .bool false, .pointer none, .bool false, .bool false, .pointer none, .bool false, .bool false, .pointer none, .bool false, .bool false, .int .u64 0]
theorem z117_len : z117.length = 109 := by kernel_rfl
instance : ZeroT Try.prog 117 z117 := ⟨fun _ => ⟨valL z117, rfl, by kernel_rfl⟩⟩
instance : FieldT Try.prog 117 0 0 31 := ⟨⟨_, Try.underlying117, _, rfl, rfl, rfl⟩, ⟨12, by decide, fun _ => by kernel_rfl⟩⟩
instance : FieldT Try.prog 117 1 12 115 := ⟨⟨_, Try.underlying117, _, rfl, rfl, rfl⟩, ⟨96, by decide, fun _ => by kernel_rfl⟩⟩
instance : FieldT Try.prog 117 2 108 26 := ⟨⟨_, Try.underlying117, _, rfl, rfl, rfl⟩, ⟨1, by decide, fun _ => by kernel_rfl⟩⟩
instance : StructT Try.prog 117 (fun i => (#[(0, 12), (12, 96), (108, 1)] : Array (Nat × Nat))[i]?) z117 := structT_mk Try.underlying117 (fun _ => by kernel_rfl)
instance : AggT Try.prog 118 654 := ⟨fun _ => by kernel_rfl⟩
instance : SizeT Try.prog 118 654 := ⟨fun _ => by kernel_rfl⟩
def z118 : List Value := [.bool false, .slice none 0 0, .int .i64 0, .slice none 0 0, .int .i64 0, .int .u64 0, .slice none 0 0, .slice none 0 0, .slice none 0 0, .slice none 0 0, .slice none 0 0, .int .u32 0, .pointer none, .bool false, .bool false, .pointer none, .bool false, .bool false, .pointer none, .bool false, .bool false, .pointer none, .bool false, .bool false, .pointer none, .bool false, .bool false, .pointer none, .bool false, .bool false, .pointer none, .bool false, .bool false, .pointer none, .bool false, .bool false, .pointer none, .bool false, .bool false, .pointer none, .bool false, .bool false, .pointer none, .bool false, .bool false, .pointer none, .bool false, .bool false, .pointer none, .bool false, .bool false, .pointer none, .bool false, .bool false, .pointer none, .bool false, .bool false, .pointer none, .bool false, .bool false, .pointer none, .bool false, .bool false, .pointer none, .bool false, .bool false, .pointer none, .bool false, .bool false, .pointer none, .bool false, .bool false, .pointer none, .bool false, .bool false, .pointer none, .bool false, .bool false, .pointer none, .bool false, .bool false, .pointer none, .bool false, .bool false, .pointer none, .bool false, .bool false, .pointer none, .bool false, .bool false, .pointer none, .bool false, .bool false, .pointer none, .bool false, .bool false, .pointer none, .bool false, .bool false, .pointer none, .bool false, .bool false, .pointer none, .bool false, .bool false, .pointer none, .bool false, .bool false, .int .u64 0, .bool false, .slice none 0 0, .int .i64 0, .slice none 0 0, .int .i64 0, .int .u64 0, .slice none 0 0, .slice none 0 0, .slice none 0 0, .slice none 0 0, .slice none 0 0, .int .u32 0, .pointer none, .bool false, .bool false, .pointer none, .bool false, .bool false, .pointer none, .bool false, .bool false, .pointer none, .bool false, .bool false, .pointer none, .bool false, .bool false, .pointer none, .bool false, .bool false, .pointer none, .bool false, .bool false, .pointer none, .bool false, .bool false, .pointer none, .bool false, .bool false, .pointer none, .bool false, .bool false, .pointer none, .bool false, .bool false, .pointer none, .bool false, .bool false, .pointer none, .bool false, .bool false, .pointer none, .bool false, .bool false, .pointer none, .bool false, .bool false, .pointer none, .bool false, .bool false, .pointer none, .bool false, .bool false, .pointer none, .bool false, .bool false, .pointer none, .bool false, .bool false, .pointer none, .bool false, .bool false, .pointer none, .bool false, .bool false, .pointer none, .bool false, .bool false, .pointer none, .bool false, .bool false, .pointer none, .bool false, .bool false, .pointer none, .bool false, .bool false, .pointer none, .bool false, .bool false, .pointer none, .bool false, .bool false, .pointer none, .bool false, .bool false, .pointer none, .bool false, .bool false, .pointer none, .bool false, .bool false, .pointer none, .bool false, .bool false, .pointer none, .bool false, .bool false, .int .u64 0, .bool false, .slice none 0 0, .int .i64 0, .slice none 0 0, .int .i64 0, .int .u64 0, .slice none 0 0, .slice none 0 0, .slice none 0 0, .slice none 0 0, .slice none 0 0, .int .u32 0, .pointer none, .bool false, .bool false, .pointer none, .bool false, .bool false, .pointer none, .bool false, .bool false, .pointer none, .bool false, .bool false, .pointer none, .bool false, .bool false, .pointer none, .bool false, .bool false, .pointer none, .bool false, .bool false, .pointer none, .bool false, .bool false, .pointer none, .bool false, .bool false, .pointer none, .bool false, .bool false, .pointer none, .bool false, .bool false, .pointer none, .bool false, .bool false, .pointer none, .bool false, .bool false, .pointer none, .bool false, .bool false, .pointer none, .bool false, .bool false, .pointer none, .bool false, .bool false, .pointer none, .bool false, .bool false, .pointer none, .bool false, .bool false, .pointer none, .bool false, .bool false, .pointer none, .bool false, .bool false, .pointer none, .bool false, .bool false, .pointer none, .bool false, .bool false, .pointer none, .bool false, .bool false, .pointer none, .bool false, .bool false, .pointer none, .bool false, .bool false, .pointer none, .bool false, .bool false, .pointer none, .bool false, .bool false, .pointer none, .bool false, .bool false, .pointer none, .bool false, .bool false, .pointer none, .bool false, .bool false, .pointer none, .bool false, .bool false, .pointer none, .bool false, .bool false, .int .u64 0, .bool false, .slice none 0 0, .int .i64 0, .slice none 0 0, .int .i64 0, .int .u64 0, .slice none 0 0, .slice none 0 0, .slice none 0 0, .slice none 0 0, .slice none 0 0, .int .u32 0, .pointer none, .bool false, .bool false, .pointer none, .bool false, .bool false, .pointer none, .bool false, .bool false, .pointer none, .bool false, .bool false, .pointer none, .bool false, .bool false, .pointer none, .bool false, .bool false, .pointer none, .bool false, .bool false, .pointer none, .bool false, .bool false, .pointer none, .bool false, .bool false, .pointer none, .bool false, .bool false, .pointer none, .bool false, .bool false, .pointer none, .bool false, .bool false, .pointer none, .bool false, .bool false, .pointer none, .bool false, .bool false, .pointer none, .bool false, .bool false, .pointer none, .bool false, .bool false, .pointer none, .bool false, .bool false, .pointer none, .bool false, .bool false, .pointer none, .bool false, .bool false, .pointer none, .bool false, .bool false, .pointer none, .bool false, .bool false, .pointer none, .bool false, .bool false, .pointer none, .bool false, .bool false, .pointer none, .bool false, .bool false, .pointer none, .bool false, .bool false, .pointer none, .bool false, .bool false, .pointer none, .bool false, .bool false, .pointer none, .bool false, .bool false, .pointer none, .bool false, .bool false, .pointer none, .bool false, .bool false, .pointer none, .bool false, .bool false, .pointer none, .bool false, .bool false, .int .u64 0, .bool false, .slice none 0 0, .int .i64 0, .slice none 0 0, .int .i64 0, .int .u64 0, .slice none 0 0, .slice none 0 0, .slice none 0 0, .slice none 0 0, .slice none 0 0, .int .u32 0, .pointer none, .bool false, .bool false, .pointer none, .bool false, .bool false, .pointer none, .bool false, .bool false, .pointer none, .bool false, .bool false, .pointer none, .bool false, .bool false, .pointer none, .bool false, .bool false, .pointer none, .bool false, .bool false, .pointer none, .bool false, .bool false, .pointer none, .bool false, .bool false, .pointer none, .bool false, .bool false, .pointer none, .bool false, .bool false, .pointer none, .bool false, .bool false, .pointer none, .bool false, .bool false, .pointer none, .bool false, .bool false, .pointer none, .bool false, .bool false, .pointer none, .bool false, .bool false, .pointer none, .bool false, .bool false, .pointer none, .bool false, .bool false, .pointer none, .bool false, .bool false, .pointer none, .bool false, .bool false, .pointer none, .bool false, .bool false, .pointer none, .bool false, .bool false, .pointer none, .bool false, .bool false, .pointer none, .bool false, .bool false, .pointer none, .bool false, .bool false, .pointer none, .bool false, .bool false, .pointer none, .bool false, .bool false, .pointer none, .bool false, .bool false, .pointer none, .bool false, .bool false, .pointer none, .bool false, .bool false, .pointer none, .bool false, .bool false, .pointer none, .bool false, .bool false, .int .u64 0, .bool false, .slice none 0 0, .int .i64 0, .slice none 0 0, .int .i64 0, .int .u64 0, .slice none 0 0, .slice none 0 0, .slice none 0 0, .slice none 0 0, .slice none 0 0, .int .u32 0, .pointer none, .bool false, .bool false, .pointer none, .bool false, .bool false, .pointer none, .bool false, .bool false, .pointer none, .bool false, .bool false, .pointer none, .bool false, .bool false, .pointer none, .bool false, .bool false, .pointer none, .bool false, .bool false, .pointer none, .bool false, .bool false, .pointer none, .bool false, .bool false, .pointer none, .bool false, .bool false, .pointer none, .bool false, .bool false, .pointer none, .bool false, .bool false, .pointer none, .bool false, .bool false, .pointer none, .bool false, .bool false, .pointer none, .bool false, .bool false, .pointer none, .bool false, .bool false, .pointer none, .bool false, .bool false, .pointer none, .bool false, .bool false, .pointer none, .bool false, .bool false, .pointer none, .bool false, .bool false, .pointer none, .bool false, .bool false, .pointer none, .bool false, .bool false, .pointer none, .bool false, .bool false, .pointer none, .bool false, .bool false, .pointer none, .bool false, .bool false, .pointer none, .bool false, .bool false, .pointer none, .bool false, .bool false, .pointer none, .bool false, .bool false, .pointer none, .bool false, .bool false, .pointer none, .bool false, .bool false, .pointer none, .bool false, .bool false, .pointer none, .bool false, .bool false, .int .u64 0]
theorem z118_len : z118.length = 654 := by kernel_rfl
instance : ZeroT Try.prog 118 z118 := ⟨fun _ => ⟨valL z118, rfl, by kernel_rfl⟩⟩
instance : ArrayT Try.prog 118 6 117 109 := ⟨by kernel_rfl, fun _ => by kernel_rfl⟩
instance : StructT Try.prog 118 (fun i => some (i * 109, 109)) z118 := arrayT_mk (n := 6) (e := 117) (by kernel_rfl) (fun _ => by kernel_rfl)
instance : ScalarT Try.prog 119 := ⟨fun _ => by kernel_rfl⟩
instance : SizeT Try.prog 119 1 := ⟨fun _ => by kernel_rfl⟩
instance : ZeroT Try.prog 119 [.slice none 0 0] := ⟨fun _ => ⟨.slice none 0 0, rfl, by kernel_rfl⟩⟩
instance : SliceT Try.prog 119 208 4 := ⟨by kernel_rfl, fun _ => by kernel_rfl⟩
instance : AggT Try.prog 120 6 := ⟨fun _ => by kernel_rfl⟩
instance : SizeT Try.prog 120 6 := ⟨fun _ => by kernel_rfl⟩
abbrev z120 : List Value := [.slice none 0 0, .slice none 0 0, .slice none 0 0, .slice none 0 0, .slice none 0 0, .slice none 0 0]
instance : ZeroT Try.prog 120 [.slice none 0 0, .slice none 0 0, .slice none 0 0, .slice none 0 0, .slice none 0 0, .slice none 0 0] := ⟨fun _ => ⟨valL z120, rfl, by kernel_rfl⟩⟩
instance : ArrayT Try.prog 120 6 119 1 := ⟨by kernel_rfl, fun _ => by kernel_rfl⟩
instance : StructT Try.prog 120 (fun i => some (i * 1, 1)) [.slice none 0 0, .slice none 0 0, .slice none 0 0, .slice none 0 0, .slice none 0 0, .slice none 0 0] := arrayT_mk (n := 6) (e := 119) (by kernel_rfl) (fun _ => by kernel_rfl)
instance : AggT Try.prog 121 759 := ⟨fun _ => by kernel_rfl⟩
instance : SizeT Try.prog 121 759 := ⟨fun _ => by kernel_rfl⟩
def z121 : List Value := [.int .u64 0, .int .i64 0, .bool false, .slice none 0 0, .int .i64 0, .slice none 0 0, .int .i64 0, .int .u64 0, .slice none 0 0, .slice none 0 0, .slice none 0 0, .slice none 0 0, .slice none 0 0, .int .u32 0, .pointer none, .bool false, .bool false, .pointer none, .bool false, .bool false, .pointer none, .bool false, .bool false, .pointer none, .bool false, .bool false, .pointer none, .bool false, .bool false, .pointer none, .bool false, .bool false, .pointer none, .bool false, .bool false, .pointer none, .bool false, .bool false, .pointer none, .bool false, .bool false, .pointer none, .bool false, .bool false, .pointer none, .bool false, .bool false, .pointer none, .bool false, .bool false, .pointer none, .bool false, .bool false, .pointer none, .bool false, .bool false, .pointer none, .bool false, .bool false, .pointer none, .bool false, .bool false, .pointer none, .bool false, .bool false, .pointer none, .bool false, .bool false, .pointer none, .bool false, .bool false, .pointer none, .bool false, .bool false, .pointer none, .bool false, .bool false, .pointer none, .bool false, .bool false, .pointer none, .bool false, .bool false, .pointer none, .bool false, .bool false, .pointer none, .bool false, .bool false, .pointer none, .bool false, .bool false, .pointer none, .bool false, .bool false, .pointer none, .bool false, .bool false, .pointer none, .bool false, .bool false, .pointer none, .bool false, .bool false, .pointer none, .bool false, .bool false, .pointer none, .bool false, .bool false, .int .u64 0, .bool false, .slice none 0 0, .int .i64 0, .slice none 0 0, .int .i64 0, .int .u64 0, .slice none 0 0, .slice none 0 0, .slice none 0 0, .slice none 0 0, .slice none 0 0, .int .u32 0, .pointer none, .bool false, .bool false, .pointer none, .bool false, .bool false, .pointer none, .bool false, .bool false, .pointer none, .bool false, .bool false, .pointer none, .bool false, .bool false, .pointer none, .bool false, .bool false, .pointer none, .bool false, .bool false, .pointer none, .bool false, .bool false, .pointer none, .bool false, .bool false, .pointer none, .bool false, .bool false, .pointer none, .bool false, .bool false, .pointer none, .bool false, .bool false, .pointer none, .bool false, .bool false, .pointer none, .bool false, .bool false, .pointer none, .bool false, .bool false, .pointer none, .bool false, .bool false, .pointer none, .bool false, .bool false, .pointer none, .bool false, .bool false, .pointer none, .bool false, .bool false, .pointer none, .bool false, .bool false, .pointer none, .bool false, .bool false, .pointer none, .bool false, .bool false, .pointer none, .bool false, .bool false, .pointer none, .bool false, .bool false, .pointer none, .bool false, .bool false, .pointer none, .bool false, .bool false, .pointer none, .bool false, .bool false, .pointer none, .bool false, .bool false, .pointer none, .bool false, .bool false, .pointer none, .bool false, .bool false, .pointer none, .bool false, .bool false, .pointer none, .bool false, .bool false, .int .u64 0, .bool false, .slice none 0 0, .int .i64 0, .slice none 0 0, .int .i64 0, .int .u64 0, .slice none 0 0, .slice none 0 0, .slice none 0 0, .slice none 0 0, .slice none 0 0, .int .u32 0, .pointer none, .bool false, .bool false, .pointer none, .bool false, .bool false, .pointer none, .bool false, .bool false, .pointer none, .bool false, .bool false, .pointer none, .bool false, .bool false, .pointer none, .bool false, .bool false, .pointer none, .bool false, .bool false, .pointer none, .bool false, .bool false, .pointer none, .bool false, .bool false, .pointer none, .bool false, .bool false, .pointer none, .bool false, .bool false, .pointer none, .bool false, .bool false, .pointer none, .bool false, .bool false, .pointer none, .bool false, .bool false, .pointer none, .bool false, .bool false, .pointer none, .bool false, .bool false, .pointer none, .bool false, .bool false, .pointer none, .bool false, .bool false, .pointer none, .bool false, .bool false, .pointer none, .bool false, .bool false, .pointer none, .bool false, .bool false, .pointer none, .bool false, .bool false, .pointer none, .bool false, .bool false, .pointer none, .bool false, .bool false, .pointer none, .bool false, .bool false, .pointer none, .bool false, .bool false, .pointer none, .bool false, .bool false, .pointer none, .bool false, .bool false, .pointer none, .bool false, .bool false, .pointer none, .bool false, .bool false, .pointer none, .bool false, .bool false, .pointer none, .bool false, .bool false, .int .u64 0, .bool false, .slice none 0 0, .int .i64 0, .slice none 0 0, .int .i64 0, .int .u64 0, .slice none 0 0, .slice none 0 0, .slice none 0 0, .slice none 0 0, .slice none 0 0, .int .u32 0, .pointer none, .bool false, .bool false, .pointer none, .bool false, .bool false, .pointer none, .bool false, .bool false, .pointer none, .bool false, .bool false, .pointer none, .bool false, .bool false, .pointer none, .bool false, .bool false, .pointer none, .bool false, .bool false, .pointer none, .bool false, .bool false, .pointer none, .bool false, .bool false, .pointer none, .bool false, .bool false, .pointer none, .bool false, .bool false, .pointer none, .bool false, .bool false, .pointer none, .bool false, .bool false, .pointer none, .bool false, .bool false, .pointer none, .bool false, .bool false, .pointer none, .bool false, .bool false, .pointer none, .bool false, .bool false, .pointer none, .bool false, .bool false, .pointer none, .bool false, .bool false, .pointer none, .bool false, .bool false, .pointer none, .bool false, .bool false, .pointer none, .bool false, .bool false, .pointer none, .bool false, .bool false, .pointer none, .bool false, .bool false, .pointer none, .bool false, .bool false, .pointer none, .bool false, .bool false, .pointer none, .bool false, .bool false, .pointer none, .bool false, .bool false, .pointer none, .bool false, .bool false, .pointer none, .bool false, .bool false, .pointer none, .bool false, .bool false, .pointer none, .bool false, .bool false, .int .u64 0, .bool false, .slice none 0 0, .int .i64 0, .slice none 0 0, .int .i64 0, .int .u64 0, .slice none 0 0, .slice none 0 0, .slice none 0 0, .slice none 0 0, .slice none 0 0, .int .u32 0, .pointer none, .bool false, .bool false, .pointer none, .bool false, .bool false, .pointer none, .bool false, .bool false, .pointer none, .bool false, .bool false, .pointer none, .bool false, .bool false, .pointer none, .bool false, .bool false, .pointer none, .bool false, .bool false, .pointer none, .bool false, .bool false, .pointer none, .bool false, .bool false, .pointer none, .bool false, .bool false, .pointer none, .bool false, .bool false, .pointer none, .bool false, .bool false, .pointer none, .bool false, .bool false, .pointer none, .bool false, .bool false, .pointer none, .bool false, .bool false, .pointer none, .bool false, .bool false, .pointer none, .bool false, .bool false, .pointer none, .bool false, .bool false, .pointer none, .bool false, .bool false, .pointer none, .bool false, .bool false, .pointer none, .bool false, .bool false, .pointer none, .bool false, .bool false, .pointer none, .bool false, .bool false, .pointer none, .bool false, .bool false, .pointer none, .bool false, .bool false, .pointer none, .bool false, .bool false, .pointer none, .bool false, .bool false, .pointer none, .bool false, .bool false, .pointer none, .bool false, .bool false, .pointer none, .bool false, .bool false, .pointer none, .bool false, .bool false, .pointer none, .bool false, .bool false, .int .u64 0, .bool false, .slice none 0 0, .int .i64 0, .slice none 0 0, .int .i64 0, .int .u64 0, .slice none 0 0, .slice none 0 0, .slice none 0 0, .slice none 0 0, .slice none 0 0, .int .u32 0, .pointer none, .bool false, .bool false, .pointer none, .bool false, .bool false, .pointer none, .bool false, .bool false, .pointer none, .bool false, .bool false, .pointer none, .bool false, .bool false, .pointer none, .bool false, .bool false, .pointer none, .bool false, .bool false, .pointer none, .bool false, .bool false, .pointer none, .bool false, .bool false, .pointer none, .bool false, .bool false, .pointer none, .bool false, .bool false, .pointer none, .bool false, .bool false, .pointer none, .bool false, .bool false, .pointer none, .bool false, .bool false, .pointer none, .bool false, .bool false, .pointer none, .bool false, .bool false, .pointer none, .bool false, .bool false, .pointer none, .bool false, .bool false, .pointer none, .bool false, .bool false, .pointer none, .bool false, .bool false, .pointer none, .bool false, .bool false, .pointer none, .bool false, .bool false, .pointer none, .bool false, .bool false, .pointer none, .bool false, .bool false, .pointer none, .bool false, .bool false, .pointer none, .bool false, .bool false, .pointer none, .bool false, .bool false, .pointer none, .bool false, .bool false, .pointer none, .bool false, .bool false, .pointer none, .bool false, .bool false, .pointer none, .bool false, .bool false, .pointer none, .bool false, .bool false, .int .u64 0, .bool false, .int .i64 0, .int .i64 0, .int .i64 0, .bool false, .int .i64 0, .bool false, .int .i64 0, .int .i64 0, .int .i64 0, .bool false, .int .i64 0, .bool false, .int .i64 0, .int .i64 0, .int .i64 0, .bool false, .int .i64 0, .bool false, .int .i64 0, .int .i64 0, .int .i64 0, .bool false, .int .i64 0, .bool false, .int .i64 0, .int .i64 0, .int .i64 0, .bool false, .int .i64 0, .bool false, .int .i64 0, .int .i64 0, .int .i64 0, .bool false, .int .i64 0, .bool false, .int .i64 0, .int .i64 0, .int .i64 0, .bool false, .int .i64 0, .bool false, .int .i64 0, .int .i64 0, .int .i64 0, .bool false, .int .i64 0, .bool false, .int .i64 0, .int .i64 0, .int .i64 0, .bool false, .int .i64 0, .bool false, .int .i64 0, .int .i64 0, .int .i64 0, .bool false, .int .i64 0, .bool false, .int .i64 0, .int .i64 0, .int .i64 0, .bool false, .int .i64 0, .bool false, .int .i64 0, .int .i64 0, .int .i64 0, .bool false, .int .i64 0, .bool false, .int .i64 0, .int .i64 0, .int .i64 0, .bool false, .int .i64 0, .bool false, .int .i64 0, .int .i64 0, .int .i64 0, .bool false, .int .i64 0, .bool false, .int .i64 0, .int .i64 0, .int .i64 0, .bool false, .int .i64 0, .bool false, .int .i64 0, .int .i64 0, .int .i64 0, .bool false, .int .i64 0, .slice none 0 0, .slice none 0 0, .slice none 0 0, .slice none 0 0, .slice none 0 0, .slice none 0 0, .slice none 0 0]
theorem z121_len : z121.length = 759 := by kernel_rfl
instance : ZeroT Try.prog 121 z121 := ⟨fun _ => ⟨valL z121, rfl, by kernel_rfl⟩⟩
instance : FieldT Try.prog 121 0 0 26 := ⟨⟨_, Try.underlying121, _, rfl, rfl, rfl⟩, ⟨1, by decide, fun _ => by kernel_rfl⟩⟩
instance : FieldT Try.prog 121 1 1 3 := ⟨⟨_, Try.underlying121, _, rfl, rfl, rfl⟩, ⟨1, by decide, fun _ => by kernel_rfl⟩⟩
instance : FieldT Try.prog 121 2 2 118 := ⟨⟨_, Try.underlying121, _, rfl, rfl, rfl⟩, ⟨654, by decide, fun _ => by kernel_rfl⟩⟩
instance : FieldT Try.prog 121 3 656 63 := ⟨⟨_, Try.underlying121, _, rfl, rfl, rfl⟩, ⟨96, by decide, fun _ => by kernel_rfl⟩⟩
instance : FieldT Try.prog 121 4 752 91 := ⟨⟨_, Try.underlying121, _, rfl, rfl, rfl⟩, ⟨1, by decide, fun _ => by kernel_rfl⟩⟩
instance : FieldT Try.prog 121 5 753 120 := ⟨⟨_, Try.underlying121, _, rfl, rfl, rfl⟩, ⟨6, by decide, fun _ => by kernel_rfl⟩⟩
instance : StructT Try.prog 121 (fun i => (#[(0, 1), (1, 1), (2, 654), (656, 96), (752, 1), (753, 6)] : Array (Nat × Nat))[i]?) z121 := structT_mk Try.underlying121 (fun _ => by kernel_rfl)
instance : AggT Try.prog 122 759 := ⟨fun _ => by kernel_rfl⟩
instance : SizeT Try.prog 122 759 := ⟨fun _ => by kernel_rfl⟩
def z122 : List Value := [.int .u64 0, .int .i64 0, .bool false, .slice none 0 0, .int .i64 0, .slice none 0 0, .int .i64 0, .int .u64 0, .slice none 0 0, .slice none 0 0, .slice none 0 0, .slice none 0 0, .slice none 0 0, .int .u32 0, .pointer none, .bool false, .bool false, .pointer none, .bool false, .bool false, .pointer none, .bool false, .bool false, .pointer none, .bool false, .bool false, .pointer none, .bool false, .bool false, .pointer none, .bool false, .bool false, .pointer none, .bool false, .bool false, .pointer none, .bool false, .bool false, .pointer none, .bool false, .bool false, .pointer none, .bool false, .bool false, .pointer none, .bool false, .bool false, .pointer none, .bool false, .bool false, .pointer none, .bool false, .bool false, .pointer none, .bool false, .bool false, .pointer none, .bool false, .bool false, .pointer none, .bool false, .bool false, .pointer none, .bool false, .bool false, .pointer none, .bool false, .bool false, .pointer none, .bool false, .bool false, .pointer none, .bool false, .bool false, .pointer none, .bool false, .bool false, .pointer none, .bool false, .bool false, .pointer none, .bool false, .bool false, .pointer none, .bool false, .bool false, .pointer none, .bool false, .bool false, .pointer none, .bool false, .bool false, .pointer none, .bool false, .bool false, .pointer none, .bool false, .bool false, .pointer none, .bool false, .bool false, .pointer none, .bool false, .bool false, .pointer none, .bool false, .bool false, .pointer none, .bool false, .bool false, .int .u64 0, .bool false, .slice none 0 0, .int .i64 0, .slice none 0 0, .int .i64 0, .int .u64 0, .slice none 0 0, .slice none 0 0, .slice none 0 0, .slice none 0 0, .slice none 0 0, .int .u32 0, .pointer none, .bool false, .bool false, .pointer none, .bool false, .bool false, .pointer none, .bool false, .bool false, .pointer none, .bool false, .bool false, .pointer none, .bool false, .bool false, .pointer none, .bool false, .bool false, .pointer none, .bool false, .bool false, .pointer none, .bool false, .bool false, .pointer none, .bool false, .bool false, .pointer none, .bool false, .bool false, .pointer none, .bool false, .bool false, .pointer none, .bool false, .bool false, .pointer none, .bool false, .bool false, .pointer none, .bool false, .bool false, .pointer none, .bool false, .bool false, .pointer none, .bool false, .bool false, .pointer none, .bool false, .bool false, .pointer none, .bool false, .bool false, .pointer none, .bool false, .bool false, .pointer none, .bool false, .bool false, .pointer none, .bool false, .bool false, .pointer none, .bool false, .bool false, .pointer none, .bool false, .bool false, .pointer none, .bool false, .bool false, .pointer none, .bool false, .bool false, .pointer none, .bool false, .bool false, .pointer none, .bool false, .bool false, .pointer none, .bool false, .bool false, .pointer none, .bool false, .bool false, .pointer none, .bool false, .bool false, .pointer none, .bool false, .bool false, .pointer none, .bool false, .bool false, .int .u64 0, .bool false, .slice none 0 0, .int .i64 0, .slice none 0 0, .int .i64 0, .int .u64 0, .slice none 0 0, .slice none 0 0, .slice none 0 0, .slice none 0 0, .slice none 0 0, .int .u32 0, .pointer none, .bool false, .bool false, .pointer none, .bool false, .bool false, .pointer none, .bool false, .bool false, .pointer none, .bool false, .bool false, .pointer none, .bool false, .bool false, .pointer none, .bool false, .bool false, .pointer none, .bool false, .bool false, .pointer none, .bool false, .bool false, .pointer none, .bool false, .bool false, .pointer none, .bool false, .bool false, .pointer none, .bool false, .bool false, .pointer none, .bool false, .bool false, .pointer none, .bool false, .bool false, .pointer none, .bool false, .bool false, .pointer none, .bool false, .bool false, .pointer none, .bool false, .bool false, .pointer none, .bool false, .bool false, .pointer none, .bool false, .bool false, .pointer none, .bool false, .bool false, .pointer none, .bool false, .bool false, .pointer none, .bool false, .bool false, .pointer none, .bool false, .bool false, .pointer none, .bool false, .bool false, .pointer none, .bool false, .bool false, .pointer none, .bool false, .bool false, .pointer none, .bool false, .bool false, .pointer none, .bool false, .bool false, .pointer none, .bool false, .bool false, .pointer none, .bool false, .bool false, .pointer none, .bool false, .bool false, .pointer none, .bool false, .bool false, .pointer none, .bool false, .bool false, .int .u64 0, .bool false, .slice none 0 0, .int .i64 0, .slice none 0 0, .int .i64 0, .int .u64 0, .slice none 0 0, .slice none 0 0, .slice none 0 0, .slice none 0 0, .slice none 0 0, .int .u32 0, .pointer none, .bool false, .bool false, .pointer none, .bool false, .bool false, .pointer none, .bool false, .bool false, .pointer none, .bool false, .bool false, .pointer none, .bool false, .bool false, .pointer none, .bool false, .bool false, .pointer none, .bool false, .bool false, .pointer none, .bool false, .bool false, .pointer none, .bool false, .bool false, .pointer none, .bool false, .bool false, .pointer none, .bool false, .bool false, .pointer none, .bool false, .bool false, .pointer none, .bool false, .bool false, .pointer none, .bool false, .bool false, .pointer none, .bool false, .bool false, .pointer none, .bool false, .bool false, .pointer none, .bool false, .bool false, .pointer none, .bool false, .bool false, .pointer none, .bool false, .bool false, .pointer none, .bool false, .bool false, .pointer none, .bool false, .bool false, .pointer none, .bool false, .bool false, .pointer none, .bool false, .bool false, .pointer none, .bool false, .bool false, .pointer none, .bool false, .bool false, .pointer none, .bool false, .bool false, .pointer none, .bool false, .bool false, .pointer none, .bool false, .bool false, .pointer none, .bool false, .bool false, .pointer none, .bool false, .bool false, .pointer none, .bool false, .bool false, .pointer none, .bool false, .bool false, .int .u64 0, .bool false, .slice none 0 0, .int .i64 0, .slice none 0 0, .int .i64 0, .int .u64 0, .slice none 0 0, .slice none 0 0, .slice none 0 0, .slice none 0 0, .slice none 0 0, .int .u32 0, .pointer none, .bool false, .bool false, .pointer none, .bool false, .bool false, .pointer none, .bool false, .bool false, .pointer none, .bool false, .bool false, .pointer none, .bool false, .bool false, .pointer none, .bool false, .bool false, .pointer none, .bool false, .bool false, .pointer none, .bool false, .bool false, .pointer none, .bool false, .bool false, .pointer none, .bool false, .bool false, .pointer none, .bool false, .bool false, .pointer none, .bool false, .bool false, .pointer none, .bool false, .bool false, .pointer none, .bool false, .bool false, .pointer none, .bool false, .bool false, .pointer none, .bool false, .bool false, .pointer none, .bool false, .bool false, .pointer none, .bool false, .bool false, .pointer none, .bool false, .bool false, .pointer none, .bool false, .bool false, .pointer none, .bool false, .bool false, .pointer none, .bool false, .bool false, .pointer none, .bool false, .bool false, .pointer none, .bool false, .bool false, .pointer none, .bool false, .bool false, .pointer none, .bool false, .bool false, .pointer none, .bool false, .bool false, .pointer none, .bool false, .bool false, .pointer none, .bool false, .bool false, .pointer none, .bool false, .bool false, .pointer none, .bool false, .bool false, .pointer none, .bool false, .bool false, .int .u64 0, .bool false, .slice none 0 0, .int .i64 0, .slice none 0 0, .int .i64 0, .int .u64 0, .slice none 0 0, .slice none 0 0, .slice none 0 0, .slice none 0 0, .slice none 0 0, .int .u32 0, .pointer none, .bool false, .bool false, .pointer none, .bool false, .bool false, .pointer none, .bool false, .bool false, .pointer none, .bool false, .bool false, .pointer none, .bool false, .bool false, .pointer none, .bool false, .bool false, .pointer none, .bool false, .bool false, .pointer none, .bool false, .bool false, .pointer none, .bool false, .bool false, .pointer none, .bool false, .bool false, .pointer none, .bool false, .bool false, .pointer none, .bool false, .bool false, .pointer none, .bool false, .bool false, .pointer none, .bool false, .bool false, .pointer none, .bool false, .bool false, .pointer none, .bool false, .bool false, .pointer none, .bool false, .bool false, .pointer none, .bool false, .bool false, .pointer none, .bool false, .bool false, .pointer none, .bool false, .bool false, .pointer none, .bool false, .bool false, .pointer none, .bool false, .bool false, .pointer none, .bool false, .bool false, .pointer none, .bool false, .bool false, .pointer none, .bool false, .bool false, .pointer none, .bool false, .bool false, .pointer none, .bool false, .bool false, .pointer none, .bool false, .bool false, .pointer none, .bool false, .bool false, .pointer none, .bool false, .bool false, .pointer none, .bool false, .bool false, .pointer none, .bool false, .bool false, .int .u64 0, .bool false, .int .i64 0, .int .i64 0, .int .i64 0, .bool false, .int .i64 0, .bool false, .int .i64 0, .int .i64 0, .int .i64 0, .bool false, .int .i64 0, .bool false, .int .i64 0, .int .i64 0, .int .i64 0, .bool false, .int .i64 0, .bool false, .int .i64 0, .int .i64 0, .int .i64 0, .bool false, .int .i64 0, .bool false, .int .i64 0, .int .i64 0, .int .i64 0, .bool false, .int .i64 0, .bool false, .int .i64 0, .int .i64 0, .int .i64 0, .bool false, .int .i64 0, .bool false, .int .i64 0, .int .i64 0, .int .i64 0, .bool false, .int .i64 0, .bool false, .int .i64 0, .int .i64 0, .int .i64 0, .bool false, .int .i64 0, .bool false, .int .i64 0, .int .i64 0, .int .i64 0, .bool false, .int .i64 0, .bool false, .int .i64 0, .int .i64 0, .int .i64 0, .bool false, .int .i64 0, .bool false, .int .i64 0, .int .i64 0, .int .i64 0, .bool false, .int .i64 0, .bool false, .int .i64 0, .int .i64 0, .int .i64 0, .bool false, .int .i64 0, .bool false, .int .i64 0, .int .i64 0, .int .i64 0, .bool false, .int .i64 0, .bool false, .int .i64 0, .int .i64 0, .int .i64 0, .bool false, .int .i64 0, .bool false, .int .i64 0, .int .i64 0, .int .i64 0, .bool false, .int .i64 0, .bool false, .int .i64 0, .int .i64 0, .int .i64 0, .bool false, .int .i64 0, .slice none 0 0, .slice none 0 0, .slice none 0 0, .slice none 0 0, .slice none 0 0, .slice none 0 0, .slice none 0 0]
theorem z122_len : z122.length = 759 := by kernel_rfl
instance : ZeroT Try.prog 122 z122 := ⟨fun _ => ⟨valL z122, rfl, by kernel_rfl⟩⟩
instance : FieldT Try.prog 122 0 0 26 := ⟨⟨_, Try.underlying122, _, rfl, rfl, rfl⟩, ⟨1, by decide, fun _ => by kernel_rfl⟩⟩
instance : FieldT Try.prog 122 1 1 3 := ⟨⟨_, Try.underlying122, _, rfl, rfl, rfl⟩, ⟨1, by decide, fun _ => by kernel_rfl⟩⟩
instance : FieldT Try.prog 122 2 2 118 := ⟨⟨_, Try.underlying122, _, rfl, rfl, rfl⟩, ⟨654, by decide, fun _ => by kernel_rfl⟩⟩
instance : FieldT Try.prog 122 3 656 63 := ⟨⟨_, Try.underlying122, _, rfl, rfl, rfl⟩, ⟨96, by decide, fun _ => by kernel_rfl⟩⟩
instance : FieldT Try.prog 122 4 752 91 := ⟨⟨_, Try.underlying122, _, rfl, rfl, rfl⟩, ⟨1, by decide, fun _ => by kernel_rfl⟩⟩
instance : FieldT Try.prog 122 5 753 120 := ⟨⟨_, Try.underlying122, _, rfl, rfl, rfl⟩, ⟨6, by decide, fun _ => by kernel_rfl⟩⟩
instance : StructT Try.prog 122 (fun i => (#[(0, 1), (1, 1), (2, 654), (656, 96), (752, 1), (753, 6)] : Array (Nat × Nat))[i]?) z122 := structT_mk Try.underlying122 (fun _ => by kernel_rfl)
instance : AggT Try.prog 123 256 := ⟨fun _ => by kernel_rfl⟩
instance : SizeT Try.prog 123 256 := ⟨fun _ => by kernel_rfl⟩
def z123 : List Value := [.int .u8 0, .int .u8 0, .int .u8 0, .int .u8 0, .int .u8 0, .int .u8 0, .int .u8 0, .int .u8 0, .int .u8 0, .int .u8 0, .int .u8 0, .int .u8 0, .int .u8 0, .int .u8 0, .int .u8 0, .int .u8 0, .int .u8 0, .int .u8 0, .int .u8 0, .int .u8 0, .int .u8 0, .int .u8 0, .int .u8 0, .int .u8 0, .int .u8 0, .int .u8 0, .int .u8 0, .int .u8 0, .int .u8 0, .int .u8 0, .int .u8 0, .int .u8 0, .int .u8 0, .int .u8 0, .int .u8 0, .int .u8 0, .int .u8 0, .int .u8 0, .int .u8 0, .int .u8 0, .int .u8 0, .int .u8 0, .int .u8 0, .int .u8 0, .int .u8 0, .int .u8 0, .int .u8 0, .int .u8 0, .int .u8 0, .int .u8 0, .int .u8 0, .int .u8 0, .int .u8 0, .int .u8 0, .int .u8 0, .int .u8 0, .int .u8 0, .int .u8 0, .int .u8 0, .int .u8 0, .int .u8 0, .int .u8 0, .int .u8 0, .int .u8 0, .int .u8 0, .int .u8 0, .int .u8 0, .int .u8 0, .int .u8 0, .int .u8 0, .int .u8 0, .int .u8 0, .int .u8 0, .int .u8 0, .int .u8 0, .int .u8 0, .int .u8 0, .int .u8 0, .int .u8 0, .int .u8 0, .int .u8 0, .int .u8 0, .int .u8 0, .int .u8 0, .int .u8 0, .int .u8 0, .int .u8 0, .int .u8 0, .int .u8 0, .int .u8 0, .int .u8 0, .int .u8 0, .int .u8 0, .int .u8 0, .int .u8 0, .int .u8 0, .int .u8 0, .int .u8 0, .int .u8 0, .int .u8 0, .int .u8 0, .int .u8 0, .int .u8 0, .int .u8 0, .int .u8 0, .int .u8 0, .int .u8 0, .int .u8 0, .int .u8 0, .int .u8 0, .int .u8 0, .int .u8 0, .int .u8 0, .int .u8 0, .int .u8 0, .int .u8 0, .int .u8 0, .int .u8 0, .int .u8 0, .int .u8 0, .int .u8 0, .int .u8 0, .int .u8 0, .int .u8 0, .int .u8 0, .int .u8 0, .int .u8 0, .int .u8 0, .int .u8 0, .int .u8 0, .int .u8 0, .int .u8 0, .int .u8 0, .int .u8 0, .int .u8 0, .int .u8 0, .int .u8 0, .int .u8 0, .int .u8 0, .int .u8 0, .int .u8 0, .int .u8 0, .int .u8 0, .int .u8 0, .int .u8 0, .int .u8 0, .int .u8 0, .int .u8 0, .int .u8 0, .int .u8 0, .int .u8 0, .int .u8 0, .int .u8 0, .int .u8 0, .int .u8 0, .int .u8 0, .int .u8 0, .int .u8 0, .int .u8 0, .int .u8 0, .int .u8 0, .int .u8 0, .int .u8 0, .int .u8 0, .int .u8 0, .int .u8 0, .int .u8 0, .int .u8 0, .int .u8 0, .int .u8 0, .int .u8 0, .int .u8 0, .int .u8 0, .int .u8 0, .int .u8 0, .int .u8 0, .int .u8 0, .int .u8 0, .int .u8 0, .int .u8 0, .int .u8 0, .int .u8 0, .int .u8 0, .int .u8 0, .int .u8 0, .int .u8 0, .int .u8 0, .int .u8 0, .int .u8 0, .int .u8 0, .int .u8 0, .int .u8 0, .int .u8 0, .int .u8 0, .int .u8 0, .int .u8 0, .int .u8 0, .int .u8 0, .int .u8 0, .int .u8 0, .int .u8 0, .int .u8 0, .int .u8 0, .int .u8 0, .int .u8 0, .int .u8 0, .int .u8 0, .int .u8 0, .int .u8 0, .int .u8 0, .int .u8 0, .int .u8 0, .int .u8 0, .int .u8 0, .int .u8 0, .int .u8 0, .int .u8 0, .int .u8 0, .int .u8 0, .int .u8 0, .int .u8 0, .int .u8 0, .int .u8 0, .int .u8 0, .int .u8 0, .int .u8 0, .int .u8 0, .int .u8 0, .int .u8 0, .int .u8 0, .int .u8 0, .int .u8 0, .int .u8 0, .int .u8 0, .int .u8 0, .int .u8 0, .int .u8 0, .int .u8 0, .int .u8 0, .int .u8 0, .int .u8 0, .int .u8 0, .int .u8 0, .int .u8 0, .int .u8 0, .int .u8 0, .int .u8 0, .int .u8 0, .int .u8 0, .int .u8 0, .int .u8 0, .int .u8 0, .int .u8 0, .int .u8 0, .int .u8 0, .int .u8 0]
theorem z123_len : z123.length = 256 := by kernel_rfl
instance : ZeroT Try.prog 123 z123 := ⟨fun _ => ⟨valL z123, rfl, by kernel_rfl⟩⟩
instance : ArrayT Try.prog 123 256 5 1 := ⟨by kernel_rfl, fun _ => by kernel_rfl⟩
instance : StructT Try.prog 123 (fun i => some (i * 1, 1)) z123 := arrayT_mk (n := 256) (e := 5) (by kernel_rfl) (fun _ => by kernel_rfl)
instance : AggT Try.prog 124 256 := ⟨fun _ => by kernel_rfl⟩
instance : SizeT Try.prog 124 256 := ⟨fun _ => by kernel_rfl⟩
def z124 : List Value := [.int .u8 0, .int .u8 0, .int .u8 0, .int .u8 0, .int .u8 0, .int .u8 0, .int .u8 0, .int .u8 0, .int .u8 0, .int .u8 0, .int .u8 0, .int .u8 0, .int .u8 0, .int .u8 0, .int .u8 0, .int .u8 0, .int .u8 0, .int .u8 0, .int .u8 0, .int .u8 0, .int .u8 0, .int .u8 0, .int .u8 0, .int .u8 0, .int .u8 0, .int .u8 0, .int .u8 0, .int .u8 0, .int .u8 0, .int .u8 0, .int .u8 0, .int .u8 0, .int .u8 0, .int .u8 0, .int .u8 0, .int .u8 0, .int .u8 0, .int .u8 0, .int .u8 0, .int .u8 0, .int .u8 0, .int .u8 0, .int .u8 0, .int .u8 0, .int .u8 0, .int .u8 0, .int .u8 0, .int .u8 0, .int .u8 0, .int .u8 0, .int .u8 0, .int .u8 0, .int .u8 0, .int .u8 0, .int .u8 0, .int .u8 0, .int .u8 0, .int .u8 0, .int .u8 0, .int .u8 0, .int .u8 0, .int .u8 0, .int .u8 0, .int .u8 0, .int .u8 0, .int .u8 0, .int .u8 0, .int .u8 0, .int .u8 0, .int .u8 0, .int .u8 0, .int .u8 0, .int .u8 0, .int .u8 0, .int .u8 0, .int .u8 0, .int .u8 0, .int .u8 0, .int .u8 0, .int .u8 0, .int .u8 0, .int .u8 0, .int .u8 0, .int .u8 0, .int .u8 0, .int .u8 0, .int .u8 0, .int .u8 0, .int .u8 0, .int .u8 0, .int .u8 0, .int .u8 0, .int .u8 0, .int .u8 0, .int .u8 0, .int .u8 0, .int .u8 0, .int .u8 0, .int .u8 0, .int .u8 0, .int .u8 0, .int .u8 0, .int .u8 0, .int .u8 0, .int .u8 0, .int .u8 0, .int .u8 0, .int .u8 0, .int .u8 0, .int .u8 0, .int .u8 0, .int .u8 0, .int .u8 0, .int .u8 0, .int .u8 0, .int .u8 0, .int .u8 0, .int .u8 0, .int .u8 0, .int .u8 0, .int .u8 0, .int .u8 0, .int .u8 0, .int .u8 0, .int .u8 0, .int .u8 0, .int .u8 0, .int .u8 0, .int .u8 0, .int .u8 0, .int .u8 0, .int .u8 0, .int .u8 0, .int .u8 0, .int .u8 0, .int .u8 0, .int .u8 0, .int .u8 0, .int .u8 0, .int .u8 0, .int .u8 0, .int .u8 0, .int .u8 0, .int .u8 0, .int .u8 0, .int .u8 0, .int .u8 0, .int .u8 0, .int .u8 0, .int .u8 0, .int .u8 0, .int .u8 0, .int .u8 0, .int .u8 0, .int .u8 0, .int .u8 0, .int .u8 0, .int .u8 0, .int .u8 0, .int .u8 0, .int .u8 0, .int .u8 0, .int .u8 0, .int .u8 0, .int .u8 0, .int .u8 0, .int .u8 0, .int .u8 0, .int .u8 0, .int .u8 0, .int .u8 0, .int .u8 0, .int .u8 0, .int .u8 0, .int .u8 0, .int .u8 0, .int .u8 0, .int .u8 0, .int .u8 0, .int .u8 0, .int .u8 0, .int .u8 0, .int .u8 0, .int .u8 0, .int .u8 0, .int .u8 0, .int .u8 0, .int .u8 0, .int .u8 0, .int .u8 0, .int .u8 0, .int .u8 0, .int .u8 0, .int .u8 0, .int .u8 0, .int .u8 0, .int .u8 0, .int .u8 0, .int .u8 0, .int .u8 0, .int .u8 0, .int .u8 0, .int .u8 0, .int .u8 0, .int .u8 0, .int .u8 0, .int .u8 0, .int .u8 0, .int .u8 0, .int .u8 0, .int .u8 0, .int .u8 0, .int .u8 0, .int .u8 0, .int .u8 0, .int .u8 0, .int .u8 0, .int .u8 0, .int .u8 0, .int .u8 0, .int .u8 0, .int .u8 0, .int .u8 0, .int .u8 0, .int .u8 0, .int .u8 0, .int .u8 0, .int .u8 0, .int .u8 0, .int .u8 0, .int .u8 0, .int .u8 0, .int .u8 0, .int .u8 0, .int .u8 0, .int .u8 0, .int .u8 0, .int .u8 0, .int .u8 0, .int .u8 0, .int .u8 0, .int .u8 0, .int .u8 0, .int .u8 0, .int .u8 0, .int .u8 0, .int .u8 0, .int .u8 0, .int .u8 0, .int .u8 0, .int .u8 0, .int .u8 0, .int .u8 0, .int .u8 0, .int .u8 0, .int .u8 0]
theorem z124_len : z124.length = 256 := by kernel_rfl
instance : ZeroT Try.prog 124 z124 := ⟨fun _ => ⟨valL z124, rfl, by kernel_rfl⟩⟩
instance : ArrayT Try.prog 124 256 5 1 := ⟨by kernel_rfl, fun _ => by kernel_rfl⟩
instance : StructT Try.prog 124 (fun i => some (i * 1, 1)) z124 := arrayT_mk (n := 256) (e := 5) (by kernel_rfl) (fun _ => by kernel_rfl)
instance : ScalarT Try.prog 125 := ⟨fun _ => by kernel_rfl⟩
instance : SizeT Try.prog 125 1 := ⟨fun _ => by kernel_rfl⟩
instance : ZeroT Try.prog 125 [.nilFunc] := ⟨fun _ => ⟨.nilFunc, rfl, by kernel_rfl⟩⟩
instance : ScalarT Try.prog 127 := ⟨fun _ => by kernel_rfl⟩
instance : SizeT Try.prog 127 1 := ⟨fun _ => by kernel_rfl⟩
instance : ZeroT Try.prog 127 [.nilFunc] := ⟨fun _ => ⟨.nilFunc, rfl, by kernel_rfl⟩⟩
instance : ScalarT Try.prog 128 := ⟨fun _ => by kernel_rfl⟩
instance : SizeT Try.prog 128 1 := ⟨fun _ => by kernel_rfl⟩
instance : ZeroT Try.prog 128 [.nilFunc] := ⟨fun _ => ⟨.nilFunc, rfl, by kernel_rfl⟩⟩
instance : ScalarT Try.prog 129 := ⟨fun _ => by kernel_rfl⟩
instance : SizeT Try.prog 129 1 := ⟨fun _ => by kernel_rfl⟩
instance : ZeroT Try.prog 129 [.nilFunc] := ⟨fun _ => ⟨.nilFunc, rfl, by kernel_rfl⟩⟩
instance : ScalarT Try.prog 130 := ⟨fun _ => by kernel_rfl⟩
instance : SizeT Try.prog 130 1 := ⟨fun _ => by kernel_rfl⟩
instance : ZeroT Try.prog 130 [.nilFunc] := ⟨fun _ => ⟨.nilFunc, rfl, by kernel_rfl⟩⟩
instance : ScalarT Try.prog 131 := ⟨fun _ => by kernel_rfl⟩
instance : SizeT Try.prog 131 1 := ⟨fun _ => by kernel_rfl⟩
instance : ZeroT Try.prog 131 [.nilFunc] := ⟨fun _ => ⟨.nilFunc, rfl, by kernel_rfl⟩⟩
instance : ScalarT Try.prog 132 := ⟨fun _ => by kernel_rfl⟩
instance : SizeT Try.prog 132 1 := ⟨fun _ => by kernel_rfl⟩
instance : ZeroT Try.prog 132 [.nilFunc] := ⟨fun _ => ⟨.nilFunc, rfl, by kernel_rfl⟩⟩
instance : ScalarT Try.prog 133 := ⟨fun _ => by kernel_rfl⟩
instance : SizeT Try.prog 133 1 := ⟨fun _ => by kernel_rfl⟩
instance : ZeroT Try.prog 133 [.slice none 0 0] := ⟨fun _ => ⟨.slice none 0 0, rfl, by kernel_rfl⟩⟩
instance : SliceT Try.prog 133 135 4 := ⟨by kernel_rfl, fun _ => by kernel_rfl⟩
instance : AggT Try.prog 134 4 := ⟨fun _ => by kernel_rfl⟩
instance : SizeT Try.prog 134 4 := ⟨fun _ => by kernel_rfl⟩
abbrev z134 : List Value := [.int .u8 0, .int .i64 0, .int .i64 0, .int .i64 0]
instance : ZeroT Try.prog 134 [.int .u8 0, .int .i64 0, .int .i64 0, .int .i64 0] := ⟨fun _ => ⟨valL z134, rfl, by kernel_rfl⟩⟩
instance : FieldT Try.prog 134 0 0 5 := ⟨⟨_, Try.underlying134, _, rfl, rfl, rfl⟩, ⟨1, by decide, fun _ => by kernel_rfl⟩⟩
instance : FieldT Try.prog 134 1 1 3 := ⟨⟨_, Try.underlying134, _, rfl, rfl, rfl⟩, ⟨1, by decide, fun _ => by kernel_rfl⟩⟩
instance : FieldT Try.prog 134 2 2 3 := ⟨⟨_, Try.underlying134, _, rfl, rfl, rfl⟩, ⟨1, by decide, fun _ => by kernel_rfl⟩⟩
instance : FieldT Try.prog 134 3 3 3 := ⟨⟨_, Try.underlying134, _, rfl, rfl, rfl⟩, ⟨1, by decide, fun _ => by kernel_rfl⟩⟩
instance : StructT Try.prog 134 (fun i => (#[(0, 1), (1, 1), (2, 1), (3, 1)] : Array (Nat × Nat))[i]?) [.int .u8 0, .int .i64 0, .int .i64 0, .int .i64 0] := structT_mk Try.underlying134 (fun _ => by kernel_rfl)
instance : AggT Try.prog 135 4 := ⟨fun _ => by kernel_rfl⟩
instance : SizeT Try.prog 135 4 := ⟨fun _ => by kernel_rfl⟩
abbrev z135 : List Value := [.int .u8 0, .int .i64 0, .int .i64 0, .int .i64 0]
instance : ZeroT Try.prog 135 [.int .u8 0, .int .i64 0, .int .i64 0, .int .i64 0] := ⟨fun _ => ⟨valL z135, rfl, by kernel_rfl⟩⟩
instance : FieldT Try.prog 135 0 0 5 := ⟨⟨_, Try.underlying135, _, rfl, rfl, rfl⟩, ⟨1, by decide, fun _ => by kernel_rfl⟩⟩
instance : FieldT Try.prog 135 1 1 3 := ⟨⟨_, Try.underlying135, _, rfl, rfl, rfl⟩, ⟨1, by decide, fun _ => by kernel_rfl⟩⟩
instance : FieldT Try.prog 135 2 2 3 := ⟨⟨_, Try.underlying135, _, rfl, rfl, rfl⟩, ⟨1, by decide, fun _ => by kernel_rfl⟩⟩
instance : FieldT Try.prog 135 3 3 3 := ⟨⟨_, Try.underlying135, _, rfl, rfl, rfl⟩, ⟨1, by decide, fun _ => by kernel_rfl⟩⟩
instance : StructT Try.prog 135 (fun i => (#[(0, 1), (1, 1), (2, 1), (3, 1)] : Array (Nat × Nat))[i]?) [.int .u8 0, .int .i64 0, .int .i64 0, .int .i64 0] := structT_mk Try.underlying135 (fun _ => by kernel_rfl)
instance : AggT Try.prog 136 1 := ⟨fun _ => by kernel_rfl⟩
instance : SizeT Try.prog 136 1 := ⟨fun _ => by kernel_rfl⟩
abbrev z136 : List Value := [.slice none 0 0]
instance : ZeroT Try.prog 136 [.slice none 0 0] := ⟨fun _ => ⟨valL z136, rfl, by kernel_rfl⟩⟩
instance : FieldT Try.prog 136 0 0 133 := ⟨⟨_, Try.underlying136, _, rfl, rfl, rfl⟩, ⟨1, by decide, fun _ => by kernel_rfl⟩⟩
instance : StructT Try.prog 136 (fun i => (#[(0, 1)] : Array (Nat × Nat))[i]?) [.slice none 0 0] := structT_mk Try.underlying136 (fun _ => by kernel_rfl)
instance : AggT Try.prog 137 1 := ⟨fun _ => by kernel_rfl⟩
instance : SizeT Try.prog 137 1 := ⟨fun _ => by kernel_rfl⟩
abbrev z137 : List Value := [.slice none 0 0]
instance : ZeroT Try.prog 137 [.slice none 0 0] := ⟨fun _ => ⟨valL z137, rfl, by kernel_rfl⟩⟩
instance : FieldT Try.prog 137 0 0 133 := ⟨⟨_, Try.underlying137, _, rfl, rfl, rfl⟩, ⟨1, by decide, fun _ => by kernel_rfl⟩⟩
instance : StructT Try.prog 137 (fun i => (#[(0, 1)] : Array (Nat × Nat))[i]?) [.slice none 0 0] := structT_mk Try.underlying137 (fun _ => by kernel_rfl)
instance : ScalarT Try.prog 138 := ⟨fun _ => by kernel_rfl⟩
instance : SizeT Try.prog 138 1 := ⟨fun _ => by kernel_rfl⟩
instance : ZeroT Try.prog 138 [.nilFunc] := ⟨fun _ => ⟨.nilFunc, rfl, by kernel_rfl⟩⟩
instance : ScalarT Try.prog 139 := ⟨fun _ => by kernel_rfl⟩
instance : SizeT Try.prog 139 1 := ⟨fun _ => by kernel_rfl⟩
instance : ZeroT Try.prog 139 [.nilFunc] := ⟨fun _ => ⟨.nilFunc, rfl, by kernel_rfl⟩⟩
instance : ScalarT Try.prog 140 := ⟨fun _ => by kernel_rfl⟩
instance : SizeT Try.prog 140 1 := ⟨fun _ => by kernel_rfl⟩
instance : ZeroT Try.prog 140 [.nilFunc] := ⟨fun _ => ⟨.nilFunc, rfl, by kernel_rfl⟩⟩
instance : ScalarT Try.prog 141 := ⟨fun _ => by kernel_rfl⟩
instance : SizeT Try.prog 141 1 := ⟨fun _ => by kernel_rfl⟩
instance : ZeroT Try.prog 141 [.nilFunc] := ⟨fun _ => ⟨.nilFunc, rfl, by kernel_rfl⟩⟩
instance : ScalarT Try.prog 142 := ⟨fun _ => by kernel_rfl⟩
instance : SizeT Try.prog 142 1 := ⟨fun _ => by kernel_rfl⟩
instance : ZeroT Try.prog 142 [.nilFunc] := ⟨fun _ => ⟨.nilFunc, rfl, by kernel_rfl⟩⟩
instance : ScalarT Try.prog 143 := ⟨fun _ => by kernel_rfl⟩
instance : SizeT Try.prog 143 1 := ⟨fun _ => by kernel_rfl⟩
instance : ZeroT Try.prog 143 [.nilFunc] := ⟨fun _ => ⟨.nilFunc, rfl, by kernel_rfl⟩⟩
instance : ScalarT Try.prog 144 := ⟨fun _ => by kernel_rfl⟩
instance : SizeT Try.prog 144 1 := ⟨fun _ => by kernel_rfl⟩
instance : ZeroT Try.prog 144 [.pointer none] := ⟨fun _ => ⟨.pointer none, rfl, by kernel_rfl⟩⟩
instance : ScalarT Try.prog 146 := ⟨fun _ => by kernel_rfl⟩
instance : SizeT Try.prog 146 1 := ⟨fun _ => by kernel_rfl⟩
instance : ZeroT Try.prog 146 [.nilFunc] := ⟨fun _ => ⟨.nilFunc, rfl, by kernel_rfl⟩⟩
instance : ScalarT Try.prog 147 := ⟨fun _ => by kernel_rfl⟩
instance : SizeT Try.prog 147 1 := ⟨fun _ => by kernel_rfl⟩
instance : ZeroT Try.prog 147 [.nilFunc] := ⟨fun _ => ⟨.nilFunc, rfl, by kernel_rfl⟩⟩
instance : ScalarT Try.prog 148 := ⟨fun _ => by kernel_rfl⟩
instance : SizeT Try.prog 148 1 := ⟨fun _ => by kernel_rfl⟩
instance : ZeroT Try.prog 148 [.pointer none] := ⟨fun _ => ⟨.pointer none, rfl, by kernel_rfl⟩⟩
instance : ScalarT Try.prog 149 := ⟨fun _ => by kernel_rfl⟩
instance : SizeT Try.prog 149 1 := ⟨fun _ => by kernel_rfl⟩
instance : ZeroT Try.prog 149 [.nilFunc] := ⟨fun _ => ⟨.nilFunc, rfl, by kernel_rfl⟩⟩
instance : AggT Try.prog 150 1 := ⟨fun _ => by kernel_rfl⟩
instance : SizeT Try.prog 150 1 := ⟨fun _ => by kernel_rfl⟩
abbrev z150 : List Value := [.slice none 0 0]
instance : ZeroT Try.prog 150 [.slice none 0 0] := ⟨fun _ => ⟨valL z150, rfl, by kernel_rfl⟩⟩
instance : FieldT Try.prog 150 0 0 27 := ⟨⟨_, Try.underlying150, _, rfl, rfl, rfl⟩, ⟨1, by decide, fun _ => by kernel_rfl⟩⟩
instance : StructT Try.prog 150 (fun i => (#[(0, 1)] : Array (Nat × Nat))[i]?) [.slice none 0 0] := structT_mk Try.underlying150 (fun _ => by kernel_rfl)
instance : AggT Try.prog 151 1 := ⟨fun _ => by kernel_rfl⟩
instance : SizeT Try.prog 151 1 := ⟨fun _ => by kernel_rfl⟩
abbrev z151 : List Value := [.slice none 0 0]
instance : ZeroT Try.prog 151 [.slice none 0 0] := ⟨fun _ => ⟨valL z151, rfl, by kernel_rfl⟩⟩
instance : FieldT Try.prog 151 0 0 27 := ⟨⟨_, Try.underlying151, _, rfl, rfl, rfl⟩, ⟨1, by decide, fun _ => by kernel_rfl⟩⟩
instance : StructT Try.prog 151 (fun i => (#[(0, 1)] : Array (Nat × Nat))[i]?) [.slice none 0 0] := structT_mk Try.underlying151 (fun _ => by kernel_rfl)
instance : ScalarT Try.prog 152 := ⟨fun _ => by kernel_rfl⟩
instance : SizeT Try.prog 152 1 := ⟨fun _ => by kernel_rfl⟩
instance : ZeroT Try.prog 152 [.nilFunc] := ⟨fun _ => ⟨.nilFunc, rfl, by kernel_rfl⟩⟩
instance : ScalarT Try.prog 153 := ⟨fun _ => by kernel_rfl⟩
instance : SizeT Try.prog 153 1 := ⟨fun _ => by kernel_rfl⟩
instance : ZeroT Try.prog 153 [.nilFunc] := ⟨fun _ => ⟨.nilFunc, rfl, by kernel_rfl⟩⟩
instance : ScalarT Try.prog 154 := ⟨fun _ => by kernel_rfl⟩
instance : SizeT Try.prog 154 1 := ⟨fun _ => by kernel_rfl⟩
instance : ZeroT Try.prog 154 [.nilFunc] := ⟨fun _ => ⟨.nilFunc, rfl, by kernel_rfl⟩⟩
instance : ScalarT Try.prog 155 := ⟨fun _ => by kernel_rfl⟩
instance : SizeT Try.prog 155 1 := ⟨fun _ => by kernel_rfl⟩
instance : ZeroT Try.prog 155 [.nilFunc] := ⟨fun _ => ⟨.nilFunc, rfl, by kernel_rfl⟩⟩
instance : ScalarT Try.prog 156 := ⟨fun _ => by kernel_rfl⟩
instance : SizeT Try.prog 156 1 := ⟨fun _ => by kernel_rfl⟩
instance : ZeroT Try.prog 156 [.nilFunc] := ⟨fun _ => ⟨.nilFunc, rfl, by kernel_rfl⟩⟩
instance : ScalarT Try.prog 157 := ⟨fun _ => by kernel_rfl⟩
instance : SizeT Try.prog 157 1 := ⟨fun _ => by kernel_rfl⟩
instance : ZeroT Try.prog 157 [.nilFunc] := ⟨fun _ => ⟨.nilFunc, rfl, by kernel_rfl⟩⟩
instance : ScalarT Try.prog 158 := ⟨fun _ => by kernel_rfl⟩
instance : SizeT Try.prog 158 1 := ⟨fun _ => by kernel_rfl⟩
instance : ZeroT Try.prog 158 [.nilFunc] := ⟨fun _ => ⟨.nilFunc, rfl, by kernel_rfl⟩⟩
instance : ScalarT Try.prog 159 := ⟨fun _ => by kernel_rfl⟩
instance : SizeT Try.prog 159 1 := ⟨fun _ => by kernel_rfl⟩
instance : ZeroT Try.prog 159 [.nilFunc] := ⟨fun _ => ⟨.nilFunc, rfl, by kernel_rfl⟩⟩
instance : ScalarT Try.prog 160 := ⟨fun _ => by kernel_rfl⟩
instance : SizeT Try.prog 160 1 := ⟨fun _ => by kernel_rfl⟩
instance : ZeroT Try.prog 160 [.nilFunc] := ⟨fun _ => ⟨.nilFunc, rfl, by kernel_rfl⟩⟩
instance : ScalarT Try.prog 161 := ⟨fun _ => by kernel_rfl⟩
instance : SizeT Try.prog 161 1 := ⟨fun _ => by kernel_rfl⟩
instance : ZeroT Try.prog 161 [.nilIface] := ⟨fun _ => ⟨.nilIface, rfl, by kernel_rfl⟩⟩
instance : ScalarT Try.prog 162 := ⟨fun _ => by kernel_rfl⟩
instance : SizeT Try.prog 162 1 := ⟨fun _ => by kernel_rfl⟩
instance : ZeroT Try.prog 162 [.nilIface] := ⟨fun _ => ⟨.nilIface, rfl, by kernel_rfl⟩⟩
instance : ScalarT Try.prog 163 := ⟨fun _ => by kernel_rfl⟩
instance : SizeT Try.prog 163 1 := ⟨fun _ => by kernel_rfl⟩
instance : ZeroT Try.prog 163 [.nilFunc] := ⟨fun _ => ⟨.nilFunc, rfl, by kernel_rfl⟩⟩
instance : ScalarT Try.prog 164 := ⟨fun _ => by kernel_rfl⟩
instance : SizeT Try.prog 164 1 := ⟨fun _ => by kernel_rfl⟩
instance : ZeroT Try.prog 164 [.nilFunc] := ⟨fun _ => ⟨.nilFunc, rfl, by kernel_rfl⟩⟩
instance : ScalarT Try.prog 165 := ⟨fun _ => by kernel_rfl⟩
instance : SizeT Try.prog 165 1 := ⟨fun _ => by kernel_rfl⟩
instance : ZeroT Try.prog 165 [.nilFunc] := ⟨fun _ => ⟨.nilFunc, rfl, by kernel_rfl⟩⟩
instance : ScalarT Try.prog 166 := ⟨fun _ => by kernel_rfl⟩
instance : SizeT Try.prog 166 1 := ⟨fun _ => by kernel_rfl⟩
instance : ZeroT Try.prog 166 [.nilFunc] := ⟨fun _ => ⟨.nilFunc, rfl, by kernel_rfl⟩⟩
instance : ScalarT Try.prog 167 := ⟨fun _ => by kernel_rfl⟩
instance : SizeT Try.prog 167 1 := ⟨fun _ => by kernel_rfl⟩
instance : ZeroT Try.prog 167 [.nilFunc] := ⟨fun _ => ⟨.nilFunc, rfl, by kernel_rfl⟩⟩
instance : ScalarT Try.prog 168 := ⟨fun _ => by kernel_rfl⟩
instance : SizeT Try.prog 168 1 := ⟨fun _ => by kernel_rfl⟩
instance : ZeroT Try.prog 168 [.nilFunc] := ⟨fun _ => ⟨.nilFunc, rfl, by kernel_rfl⟩⟩
instance : ScalarT Try.prog 169 := ⟨fun _ => by kernel_rfl⟩
instance : SizeT Try.prog 169 1 := ⟨fun _ => by kernel_rfl⟩
instance : ZeroT Try.prog 169 [.nilFunc] := ⟨fun _ => ⟨.nilFunc, rfl, by kernel_rfl⟩⟩
instance : ScalarT Try.prog 170 := ⟨fun _ => by kernel_rfl⟩
instance : SizeT Try.prog 170 1 := ⟨fun _ => by kernel_rfl⟩
instance : ZeroT Try.prog 170 [.int .u64 0] := ⟨fun _ => ⟨.int .u64 0, rfl, by kernel_rfl⟩⟩
instance : ScalarT Try.prog 171 := ⟨fun _ => by kernel_rfl⟩
instance : SizeT Try.prog 171 1 := ⟨fun _ => by kernel_rfl⟩
instance : ZeroT Try.prog 171 [.nilFunc] := ⟨fun _ => ⟨.nilFunc, rfl, by kernel_rfl⟩⟩
instance : ScalarT Try.prog 172 := ⟨fun _ => by kernel_rfl⟩
instance : SizeT Try.prog 172 1 := ⟨fun _ => by kernel_rfl⟩
instance : ZeroT Try.prog 172 [.nilFunc] := ⟨fun _ => ⟨.nilFunc, rfl, by kernel_rfl⟩⟩
instance : ScalarT Try.prog 173 := ⟨fun _ => by kernel_rfl⟩
instance : SizeT Try.prog 173 1 := ⟨fun _ => by kernel_rfl⟩
instance : ZeroT Try.prog 173 [.int .i64 0] := ⟨fun _ => ⟨.int .i64 0, rfl, by kernel_rfl⟩⟩
instance : ScalarT Try.prog 175 := ⟨fun _ => by kernel_rfl⟩
instance : SizeT Try.prog 175 1 := ⟨fun _ => by kernel_rfl⟩
instance : ZeroT Try.prog 175 [.nilFunc] := ⟨fun _ => ⟨.nilFunc, rfl, by kernel_rfl⟩⟩
instance : ScalarT Try.prog 176 := ⟨fun _ => by kernel_rfl⟩
instance : SizeT Try.prog 176 1 := ⟨fun _ => by kernel_rfl⟩
instance : ZeroT Try.prog 176 [.nilFunc] := ⟨fun _ => ⟨.nilFunc, rfl, by kernel_rfl⟩⟩
instance : ScalarT Try.prog 177 := ⟨fun _ => by kernel_rfl⟩
instance : SizeT Try.prog 177 1 := ⟨fun _ => by kernel_rfl⟩
instance : ZeroT Try.prog 177 [.nilFunc] := ⟨fun _ => ⟨.nilFunc, rfl, by kernel_rfl⟩⟩
instance : ScalarT Try.prog 179 := ⟨fun _ => by kernel_rfl⟩
instance : SizeT Try.prog 179 1 := ⟨fun _ => by kernel_rfl⟩
instance : ZeroT Try.prog 179 [.nilFunc] := ⟨fun _ => ⟨.nilFunc, rfl, by kernel_rfl⟩⟩
instance : ScalarT Try.prog 180 := ⟨fun _ => by kernel_rfl⟩
instance : SizeT Try.prog 180 1 := ⟨fun _ => by kernel_rfl⟩
instance : ZeroT Try.prog 180 [.nilFunc] := ⟨fun _ => ⟨.nilFunc, rfl, by kernel_rfl⟩⟩
instance : ScalarT Try.prog 181 := ⟨fun _ => by kernel_rfl⟩
instance : SizeT Try.prog 181 1 := ⟨fun _ => by kernel_rfl⟩
instance : ZeroT Try.prog 181 [.nilFunc] := ⟨fun _ => ⟨.nilFunc, rfl, by kernel_rfl⟩⟩
instance : ScalarT Try.prog 182 := ⟨fun _ => by kernel_rfl⟩
instance : SizeT Try.prog 182 1 := ⟨fun _ => by kernel_rfl⟩
instance : ZeroT Try.prog 182 [.int .u64 0] := ⟨fun _ => ⟨.int .u64 0, rfl, by kernel_rfl⟩⟩
instance : ScalarT Try.prog 183 := ⟨fun _ => by kernel_rfl⟩
instance : SizeT Try.prog 183 1 := ⟨fun _ => by kernel_rfl⟩
instance : ZeroT Try.prog 183 [.nilFunc] := ⟨fun _ => ⟨.nilFunc, rfl, by kernel_rfl⟩⟩
instance : ScalarT Try.prog 184 := ⟨fun _ => by kernel_rfl⟩
instance : SizeT Try.prog 184 1 := ⟨fun _ => by kernel_rfl⟩
instance : ZeroT Try.prog 184 [.nilFunc] := ⟨fun _ => ⟨.nilFunc, rfl, by kernel_rfl⟩⟩
instance : ScalarT Try.prog 185 := ⟨fun _ => by kernel_rfl⟩
instance : SizeT Try.prog 185 1 := ⟨fun _ => by kernel_rfl⟩
instance : ZeroT Try.prog 185 [.nilFunc] := ⟨fun _ => ⟨.nilFunc, rfl, by kernel_rfl⟩⟩
instance : ScalarT Try.prog 186 := ⟨fun _ => by kernel_rfl⟩
instance : SizeT Try.prog 186 1 := ⟨fun _ => by kernel_rfl⟩
instance : ZeroT Try.prog 186 [.pointer none] := ⟨fun _ => ⟨.pointer none, rfl, by kernel_rfl⟩⟩
instance : ScalarT Try.prog 187 := ⟨fun _ => by kernel_rfl⟩
instance : SizeT Try.prog 187 1 := ⟨fun _ => by kernel_rfl⟩
instance : ZeroT Try.prog 187 [.nilFunc] := ⟨fun _ => ⟨.nilFunc, rfl, by kernel_rfl⟩⟩
instance : ScalarT Try.prog 188 := ⟨fun _ => by kernel_rfl⟩
instance : SizeT Try.prog 188 1 := ⟨fun _ => by kernel_rfl⟩
instance : ZeroT Try.prog 188 [.pointer none] := ⟨fun _ => ⟨.pointer none, rfl, by kernel_rfl⟩⟩
instance : ScalarT Try.prog 190 := ⟨fun _ => by kernel_rfl⟩
instance : SizeT Try.prog 190 1 := ⟨fun _ => by kernel_rfl⟩
instance : ZeroT Try.prog 190 [.nilFunc] := ⟨fun _ => ⟨.nilFunc, rfl, by kernel_rfl⟩⟩
instance : ScalarT Try.prog 191 := ⟨fun _ => by kernel_rfl⟩
instance : SizeT Try.prog 191 1 := ⟨fun _ => by kernel_rfl⟩
instance : ZeroT Try.prog 191 [.nilFunc] := ⟨fun _ => ⟨.nilFunc, rfl, by kernel_rfl⟩⟩
instance : AggT Try.prog 192 4 := ⟨fun _ => by kernel_rfl⟩
instance : SizeT Try.prog 192 4 := ⟨fun _ => by kernel_rfl⟩
abbrev z192 : List Value := [.pointer none, .pointer none, .pointer none, .string ⟨#[]⟩]
instance : ZeroT Try.prog 192 [.pointer none, .pointer none, .pointer none, .string ⟨#[]⟩] := ⟨fun _ => ⟨valL z192, rfl, by kernel_rfl⟩⟩
instance : FieldT Try.prog 192 0 0 17 := ⟨⟨_, Try.underlying192, _, rfl, rfl, rfl⟩, ⟨1, by decide, fun _ => by kernel_rfl⟩⟩
instance : FieldT Try.prog 192 1 1 17 := ⟨⟨_, Try.underlying192, _, rfl, rfl, rfl⟩, ⟨1, by decide, fun _ => by kernel_rfl⟩⟩
instance : FieldT Try.prog 192 2 2 17 := ⟨⟨_, Try.underlying192, _, rfl, rfl, rfl⟩, ⟨1, by decide, fun _ => by kernel_rfl⟩⟩
instance : FieldT Try.prog 192 3 3 9 := ⟨⟨_, Try.underlying192, _, rfl, rfl, rfl⟩, ⟨1, by decide, fun _ => by kernel_rfl⟩⟩
instance : StructT Try.prog 192 (fun i => (#[(0, 1), (1, 1), (2, 1), (3, 1)] : Array (Nat × Nat))[i]?) [.pointer none, .pointer none, .pointer none, .string ⟨#[]⟩] := structT_mk Try.underlying192 (fun _ => by kernel_rfl)
instance : AggT Try.prog 193 4 := ⟨fun _ => by kernel_rfl⟩
instance : SizeT Try.prog 193 4 := ⟨fun _ => by kernel_rfl⟩
abbrev z193 : List Value := [.pointer none, .pointer none, .pointer none, .string ⟨#[]⟩]
instance : ZeroT Try.prog 193 [.pointer none, .pointer none, .pointer none, .string ⟨#[]⟩] := ⟨fun _ => ⟨valL z193, rfl, by kernel_rfl⟩⟩
instance : FieldT Try.prog 193 0 0 17 := ⟨⟨_, Try.underlying193, _, rfl, rfl, rfl⟩, ⟨1, by decide, fun _ => by kernel_rfl⟩⟩
instance : FieldT Try.prog 193 1 1 17 := ⟨⟨_, Try.underlying193, _, rfl, rfl, rfl⟩, ⟨1, by decide, fun _ => by kernel_rfl⟩⟩
instance : FieldT Try.prog 193 2 2 17 := ⟨⟨_, Try.underlying193, _, rfl, rfl, rfl⟩, ⟨1, by decide, fun _ => by kernel_rfl⟩⟩
instance : FieldT Try.prog 193 3 3 9 := ⟨⟨_, Try.underlying193, _, rfl, rfl, rfl⟩, ⟨1, by decide, fun _ => by kernel_rfl⟩⟩
instance : StructT Try.prog 193 (fun i => (#[(0, 1), (1, 1), (2, 1), (3, 1)] : Array (Nat × Nat))[i]?) [.pointer none, .pointer none, .pointer none, .string ⟨#[]⟩] := structT_mk Try.underlying193 (fun _ => by kernel_rfl)
instance : AggT Try.prog 194 0 := ⟨fun _ => by kernel_rfl⟩
instance : SizeT Try.prog 194 0 := ⟨fun _ => by kernel_rfl⟩
abbrev z194 : List Value := []
instance : ZeroT Try.prog 194 [] := ⟨fun _ => ⟨valL z194, rfl, by kernel_rfl⟩⟩
instance : ArrayT Try.prog 194 0 16 1 := ⟨by kernel_rfl, fun _ => by kernel_rfl⟩
instance : StructT Try.prog 194 (fun i => some (i * 1, 1)) [] := arrayT_mk (n := 0) (e := 16) (by kernel_rfl) (fun _ => by kernel_rfl)
instance : AggT Try.prog 195 0 := ⟨fun _ => by kernel_rfl⟩
instance : SizeT Try.prog 195 0 := ⟨fun _ => by kernel_rfl⟩
abbrev z195 : List Value := []
instance : ZeroT Try.prog 195 [] := ⟨fun _ => ⟨valL z195, rfl, by kernel_rfl⟩⟩
instance : StructT Try.prog 195 (fun i => (#[(0, 0)] : Array (Nat × Nat))[i]?) [] := structT_mk Try.underlying195 (fun _ => by kernel_rfl)
instance : AggT Try.prog 196 0 := ⟨fun _ => by kernel_rfl⟩
instance : SizeT Try.prog 196 0 := ⟨fun _ => by kernel_rfl⟩
abbrev z196 : List Value := []
instance : ZeroT Try.prog 196 [] := ⟨fun _ => ⟨valL z196, rfl, by kernel_rfl⟩⟩
instance : StructT Try.prog 196 (fun i => (#[(0, 0)] : Array (Nat × Nat))[i]?) [] := structT_mk Try.underlying196 (fun _ => by kernel_rfl)
instance : ScalarT Try.prog 197 := ⟨fun _ => by kernel_rfl⟩
instance : SizeT Try.prog 197 1 := ⟨fun _ => by kernel_rfl⟩
instance : ZeroT Try.prog 197 [.int .u8 0] := ⟨fun _ => ⟨.int .u8 0, rfl, by kernel_rfl⟩⟩
instance : ScalarT Try.prog 198 := ⟨fun _ => by kernel_rfl⟩
instance : SizeT Try.prog 198 1 := ⟨fun _ => by kernel_rfl⟩
instance : ZeroT Try.prog 198 [.int .u8 0] := ⟨fun _ => ⟨.int .u8 0, rfl, by kernel_rfl⟩⟩
instance : ScalarT Try.prog 199 := ⟨fun _ => by kernel_rfl⟩
instance : SizeT Try.prog 199 1 := ⟨fun _ => by kernel_rfl⟩
instance : ZeroT Try.prog 199 [.nilFunc] := ⟨fun _ => ⟨.nilFunc, rfl, by kernel_rfl⟩⟩
instance : ScalarT Try.prog 200 := ⟨fun _ => by kernel_rfl⟩
instance : SizeT Try.prog 200 1 := ⟨fun _ => by kernel_rfl⟩
instance : ZeroT Try.prog 200 [.pointer none] := ⟨fun _ => ⟨.pointer none, rfl, by kernel_rfl⟩⟩
instance : ScalarT Try.prog 201 := ⟨fun _ => by kernel_rfl⟩
instance : SizeT Try.prog 201 1 := ⟨fun _ => by kernel_rfl⟩
instance : ZeroT Try.prog 201 [.int .i32 0] := ⟨fun _ => ⟨.int .i32 0, rfl, by kernel_rfl⟩⟩
instance : ScalarT Try.prog 202 := ⟨fun _ => by kernel_rfl⟩
instance : SizeT Try.prog 202 1 := ⟨fun _ => by kernel_rfl⟩
instance : ZeroT Try.prog 202 [.int .i32 0] := ⟨fun _ => ⟨.int .i32 0, rfl, by kernel_rfl⟩⟩
instance : AggT Try.prog 203 11 := ⟨fun _ => by kernel_rfl⟩
instance : SizeT Try.prog 203 11 := ⟨fun _ => by kernel_rfl⟩
abbrev z203 : List Value := [.int .u64 0, .int .u64 0, .int .u32 0, .int .u8 0, .int .u8 0, .int .u8 0, .int .u8 0, .nilFunc, .pointer none, .int .i32 0, .int .i32 0]
instance : ZeroT Try.prog 203 [.int .u64 0, .int .u64 0, .int .u32 0, .int .u8 0, .int .u8 0, .int .u8 0, .int .u8 0, .nilFunc, .pointer none, .int .i32 0, .int .i32 0] := ⟨fun _ => ⟨valL z203, rfl, by kernel_rfl⟩⟩
instance : FieldT Try.prog 203 0 0 12 := ⟨⟨_, Try.underlying203, _, rfl, rfl, rfl⟩, ⟨1, by decide, fun _ => by kernel_rfl⟩⟩
instance : FieldT Try.prog 203 1 1 12 := ⟨⟨_, Try.underlying203, _, rfl, rfl, rfl⟩, ⟨1, by decide, fun _ => by kernel_rfl⟩⟩
instance : FieldT Try.prog 203 2 2 29 := ⟨⟨_, Try.underlying203, _, rfl, rfl, rfl⟩, ⟨1, by decide, fun _ => by kernel_rfl⟩⟩
instance : FieldT Try.prog 203 3 3 197 := ⟨⟨_, Try.underlying203, _, rfl, rfl, rfl⟩, ⟨1, by decide, fun _ => by kernel_rfl⟩⟩
instance : FieldT Try.prog 203 4 4 5 := ⟨⟨_, Try.underlying203, _, rfl, rfl, rfl⟩, ⟨1, by decide, fun _ => by kernel_rfl⟩⟩
instance : FieldT Try.prog 203 5 5 5 := ⟨⟨_, Try.underlying203, _, rfl, rfl, rfl⟩, ⟨1, by decide, fun _ => by kernel_rfl⟩⟩
instance : FieldT Try.prog 203 6 6 198 := ⟨⟨_, Try.underlying203, _, rfl, rfl, rfl⟩, ⟨1, by decide, fun _ => by kernel_rfl⟩⟩
instance : FieldT Try.prog 203 7 7 199 := ⟨⟨_, Try.underlying203, _, rfl, rfl, rfl⟩, ⟨1, by decide, fun _ => by kernel_rfl⟩⟩
instance : FieldT Try.prog 203 8 8 200 := ⟨⟨_, Try.underlying203, _, rfl, rfl, rfl⟩, ⟨1, by decide, fun _ => by kernel_rfl⟩⟩
instance : FieldT Try.prog 203 9 9 201 := ⟨⟨_, Try.underlying203, _, rfl, rfl, rfl⟩, ⟨1, by decide, fun _ => by kernel_rfl⟩⟩
instance : FieldT Try.prog 203 10 10 202 := ⟨⟨_, Try.underlying203, _, rfl, rfl, rfl⟩, ⟨1, by decide, fun _ => by kernel_rfl⟩⟩
instance : StructT Try.prog 203 (fun i => (#[(0, 1), (1, 1), (2, 1), (3, 1), (4, 1), (5, 1), (6, 1), (7, 1), (8, 1), (9, 1), (10, 1)] : Array (Nat × Nat))[i]?) [.int .u64 0, .int .u64 0, .int .u32 0, .int .u8 0, .int .u8 0, .int .u8 0, .int .u8 0, .nilFunc, .pointer none, .int .i32 0, .int .i32 0] := structT_mk Try.underlying203 (fun _ => by kernel_rfl)
instance : AggT Try.prog 204 11 := ⟨fun _ => by kernel_rfl⟩
instance : SizeT Try.prog 204 11 := ⟨fun _ => by kernel_rfl⟩
abbrev z204 : List Value := [.int .u64 0, .int .u64 0, .int .u32 0, .int .u8 0, .int .u8 0, .int .u8 0, .int .u8 0, .nilFunc, .pointer none, .int .i32 0, .int .i32 0]
instance : ZeroT Try.prog 204 [.int .u64 0, .int .u64 0, .int .u32 0, .int .u8 0, .int .u8 0, .int .u8 0, .int .u8 0, .nilFunc, .pointer none, .int .i32 0, .int .i32 0] := ⟨fun _ => ⟨valL z204, rfl, by kernel_rfl⟩⟩
instance : FieldT Try.prog 204 0 0 12 := ⟨⟨_, Try.underlying204, _, rfl, rfl, rfl⟩, ⟨1, by decide, fun _ => by kernel_rfl⟩⟩
instance : FieldT Try.prog 204 1 1 12 := ⟨⟨_, Try.underlying204, _, rfl, rfl, rfl⟩, ⟨1, by decide, fun _ => by kernel_rfl⟩⟩
instance : FieldT Try.prog 204 2 2 29 := ⟨⟨_, Try.underlying204, _, rfl, rfl, rfl⟩, ⟨1, by decide, fun _ => by kernel_rfl⟩⟩
instance : FieldT Try.prog 204 3 3 197 := ⟨⟨_, Try.underlying204, _, rfl, rfl, rfl⟩, ⟨1, by decide, fun _ => by kernel_rfl⟩⟩
instance : FieldT Try.prog 204 4 4 5 := ⟨⟨_, Try.underlying204, _, rfl, rfl, rfl⟩, ⟨1, by decide, fun _ => by kernel_rfl⟩⟩
instance : FieldT Try.prog 204 5 5 5 := ⟨⟨_, Try.underlying204, _, rfl, rfl, rfl⟩, ⟨1, by decide, fun _ => by kernel_rfl⟩⟩
instance : FieldT Try.prog 204 6 6 198 := ⟨⟨_, Try.underlying204, _, rfl, rfl, rfl⟩, ⟨1, by decide, fun _ => by kernel_rfl⟩⟩
instance : FieldT Try.prog 204 7 7 199 := ⟨⟨_, Try.underlying204, _, rfl, rfl, rfl⟩, ⟨1, by decide, fun _ => by kernel_rfl⟩⟩
instance : FieldT Try.prog 204 8 8 200 := ⟨⟨_, Try.underlying204, _, rfl, rfl, rfl⟩, ⟨1, by decide, fun _ => by kernel_rfl⟩⟩
instance : FieldT Try.prog 204 9 9 201 := ⟨⟨_, Try.underlying204, _, rfl, rfl, rfl⟩, ⟨1, by decide, fun _ => by kernel_rfl⟩⟩
instance : FieldT Try.prog 204 10 10 202 := ⟨⟨_, Try.underlying204, _, rfl, rfl, rfl⟩, ⟨1, by decide, fun _ => by kernel_rfl⟩⟩
instance : StructT Try.prog 204 (fun i => (#[(0, 1), (1, 1), (2, 1), (3, 1), (4, 1), (5, 1), (6, 1), (7, 1), (8, 1), (9, 1), (10, 1)] : Array (Nat × Nat))[i]?) [.int .u64 0, .int .u64 0, .int .u32 0, .int .u8 0, .int .u8 0, .int .u8 0, .int .u8 0, .nilFunc, .pointer none, .int .i32 0, .int .i32 0] := structT_mk Try.underlying204 (fun _ => by kernel_rfl)
instance : ScalarT Try.prog 205 := ⟨fun _ => by kernel_rfl⟩
instance : SizeT Try.prog 205 1 := ⟨fun _ => by kernel_rfl⟩
instance : ZeroT Try.prog 205 [.nilFunc] := ⟨fun _ => ⟨.nilFunc, rfl, by kernel_rfl⟩⟩
instance : ScalarT Try.prog 206 := ⟨fun _ => by kernel_rfl⟩
instance : SizeT Try.prog 206 1 := ⟨fun _ => by kernel_rfl⟩
instance : ZeroT Try.prog 206 [.nilFunc] := ⟨fun _ => ⟨.nilFunc, rfl, by kernel_rfl⟩⟩
instance : AggT Try.prog 207 4 := ⟨fun _ => by kernel_rfl⟩
instance : SizeT Try.prog 207 4 := ⟨fun _ => by kernel_rfl⟩
abbrev z207 : List Value := [.int .u8 0, .int .i64 0, .int .u64 0, .int .u64 0]
instance : ZeroT Try.prog 207 [.int .u8 0, .int .i64 0, .int .u64 0, .int .u64 0] := ⟨fun _ => ⟨valL z207, rfl, by kernel_rfl⟩⟩
instance : FieldT Try.prog 207 0 0 5 := ⟨⟨_, Try.underlying207, _, rfl, rfl, rfl⟩, ⟨1, by decide, fun _ => by kernel_rfl⟩⟩
instance : FieldT Try.prog 207 1 1 3 := ⟨⟨_, Try.underlying207, _, rfl, rfl, rfl⟩, ⟨1, by decide, fun _ => by kernel_rfl⟩⟩
instance : FieldT Try.prog 207 2 2 26 := ⟨⟨_, Try.underlying207, _, rfl, rfl, rfl⟩, ⟨1, by decide, fun _ => by kernel_rfl⟩⟩
instance : FieldT Try.prog 207 3 3 26 := ⟨⟨_, Try.underlying207, _, rfl, rfl, rfl⟩, ⟨1, by decide, fun _ => by kernel_rfl⟩⟩
instance : StructT Try.prog 207 (fun i => (#[(0, 1), (1, 1), (2, 1), (3, 1)] : Array (Nat × Nat))[i]?) [.int .u8 0, .int .i64 0, .int .u64 0, .int .u64 0] := structT_mk Try.underlying207 (fun _ => by kernel_rfl)
instance : AggT Try.prog 208 4 := ⟨fun _ => by kernel_rfl⟩
instance : SizeT Try.prog 208 4 := ⟨fun _ => by kernel_rfl⟩
abbrev z208 : List Value := [.int .u8 0, .int .i64 0, .int .u64 0, .int .u64 0]
instance : ZeroT Try.prog 208 [.int .u8 0, .int .i64 0, .int .u64 0, .int .u64 0] := ⟨fun _ => ⟨valL z208, rfl, by kernel_rfl⟩⟩
instance : FieldT Try.prog 208 0 0 5 := ⟨⟨_, Try.underlying208, _, rfl, rfl, rfl⟩, ⟨1, by decide, fun _ => by kernel_rfl⟩⟩
instance : FieldT Try.prog 208 1 1 3 := ⟨⟨_, Try.underlying208, _, rfl, rfl, rfl⟩, ⟨1, by decide, fun _ => by kernel_rfl⟩⟩
instance : FieldT Try.prog 208 2 2 26 := ⟨⟨_, Try.underlying208, _, rfl, rfl, rfl⟩, ⟨1, by decide, fun _ => by kernel_rfl⟩⟩
instance : FieldT Try.prog 208 3 3 26 := ⟨⟨_, Try.underlying208, _, rfl, rfl, rfl⟩, ⟨1, by decide, fun _ => by kernel_rfl⟩⟩
instance : StructT Try.prog 208 (fun i => (#[(0, 1), (1, 1), (2, 1), (3, 1)] : Array (Nat × Nat))[i]?) [.int .u8 0, .int .i64 0, .int .u64 0, .int .u64 0] := structT_mk Try.underlying208 (fun _ => by kernel_rfl)
instance : IntT Try.prog 2 .i64 := ⟨by kernel_rfl⟩
instance : NotIface Try.prog 2 := ⟨⟨.int .i64, by kernel_rfl, rfl⟩⟩
instance : IntT Try.prog 3 .i64 := ⟨by kernel_rfl⟩
instance : NotIface Try.prog 3 := ⟨⟨.int .i64, by kernel_rfl, rfl⟩⟩
instance : NotIface Try.prog 4 := ⟨⟨.bool, by kernel_rfl, rfl⟩⟩
instance : IntT Try.prog 5 .u8 := ⟨by kernel_rfl⟩
instance : NotIface Try.prog 5 := ⟨⟨.int .u8, by kernel_rfl, rfl⟩⟩
instance : IntT Try.prog 6 .u8 := ⟨by kernel_rfl⟩
instance : NotIface Try.prog 6 := ⟨⟨.int .u8, by kernel_rfl, rfl⟩⟩
instance : NotIface Try.prog 7 := ⟨⟨_, Try.underlying7, rfl⟩⟩
instance : NotIface Try.prog 8 := ⟨⟨_, Try.underlying8, rfl⟩⟩
instance : NotIface Try.prog 9 := ⟨⟨.string, by kernel_rfl, rfl⟩⟩
instance : NotIface Try.prog 10 := ⟨⟨.string, by kernel_rfl, rfl⟩⟩
instance : NotIface Try.prog 11 := ⟨⟨.string, by kernel_rfl, rfl⟩⟩
instance : IntT Try.prog 12 .u64 := ⟨by kernel_rfl⟩
instance : NotIface Try.prog 12 := ⟨⟨.int .u64, by kernel_rfl, rfl⟩⟩
instance : NotIface Try.prog 13 := ⟨⟨_, Try.underlying13, rfl⟩⟩
instance : NotIface Try.prog 14 := ⟨⟨_, Try.underlying14, rfl⟩⟩
instance : PtrT Try.prog 15 := ⟨⟨193, by kernel_rfl⟩⟩
instance : NotIface Try.prog 15 := ⟨⟨.pointer 193, by kernel_rfl, rfl⟩⟩
instance : MethP Try.prog 15 "Error" 102 := ⟨fun _ _ => by kernel_rfl⟩
instance : MethP Try.prog 15 "RuntimeError" 103 := ⟨fun _ _ => by kernel_rfl⟩
instance : PtrT Try.prog 16 := ⟨⟨196, by kernel_rfl⟩⟩
instance : NotIface Try.prog 16 := ⟨⟨.pointer 196, by kernel_rfl, rfl⟩⟩
instance : MethP Try.prog 16 "Error" 104 := ⟨fun _ _ => by kernel_rfl⟩
instance : MethP Try.prog 16 "RuntimeError" 105 := ⟨fun _ _ => by kernel_rfl⟩
instance : PtrT Try.prog 17 := ⟨⟨204, by kernel_rfl⟩⟩
instance : NotIface Try.prog 17 := ⟨⟨.pointer 204, by kernel_rfl, rfl⟩⟩
instance : MethP Try.prog 17 "Align" 106 := ⟨fun _ _ => by kernel_rfl⟩
instance : MethP Try.prog 17 "Len" 107 := ⟨fun _ _ => by kernel_rfl⟩
instance : NotIface Try.prog 18 := ⟨⟨_, Try.underlying18, rfl⟩⟩
instance : NotIface Try.prog 19 := ⟨⟨_, Try.underlying19, rfl⟩⟩
instance : IntT Try.prog 21 .i32 := ⟨by kernel_rfl⟩
instance : NotIface Try.prog 21 := ⟨⟨.int .i32, by kernel_rfl, rfl⟩⟩
instance : NotIface Try.prog 22 := ⟨⟨.slice 72, by kernel_rfl, rfl⟩⟩
instance : NotIface Try.prog 23 := ⟨⟨.slice 3, by kernel_rfl, rfl⟩⟩
instance : NotIface Try.prog 24 := ⟨⟨_, Try.underlying24, rfl⟩⟩
instance : NotIface Try.prog 25 := ⟨⟨_, Try.underlying25, rfl⟩⟩
instance : IntT Try.prog 26 .u64 := ⟨by kernel_rfl⟩
instance : NotIface Try.prog 26 := ⟨⟨.int .u64, by kernel_rfl, rfl⟩⟩
instance : NotIface Try.prog 27 := ⟨⟨.slice 5, by kernel_rfl, rfl⟩⟩
instance : NotIface Try.prog 28 := ⟨⟨.array 4 27, by kernel_rfl, rfl⟩⟩
instance : IntT Try.prog 29 .u32 := ⟨by kernel_rfl⟩
instance : NotIface Try.prog 29 := ⟨⟨.int .u32, by kernel_rfl, rfl⟩⟩
instance : NotIface Try.prog 30 := ⟨⟨_, Try.underlying30, rfl⟩⟩
instance : NotIface Try.prog 31 := ⟨⟨_, Try.underlying31, rfl⟩⟩
instance : IntT Try.prog 32 .i64 := ⟨by kernel_rfl⟩
instance : NotIface Try.prog 32 := ⟨⟨.int .i64, by kernel_rfl, rfl⟩⟩
instance : PtrT Try.prog 38 := ⟨⟨122, by kernel_rfl⟩⟩
instance : NotIface Try.prog 38 := ⟨⟨.pointer 122, by kernel_rfl, rfl⟩⟩
instance : MethP Try.prog 38 "Create" 16 := ⟨fun _ _ => by kernel_rfl⟩
instance : MethP Try.prog 38 "Destroy" 17 := ⟨fun _ _ => by kernel_rfl⟩
instance : MethP Try.prog 38 "Free" 18 := ⟨fun _ _ => by kernel_rfl⟩
instance : MethP Try.prog 38 "Tick" 111 := ⟨fun _ _ => by kernel_rfl⟩
instance : NotIface Try.prog 40 := ⟨⟨.array 6 3, by kernel_rfl, rfl⟩⟩
instance : NotIface Try.prog 46 := ⟨⟨.array 6 4, by kernel_rfl, rfl⟩⟩
instance : NotIface Try.prog 47 := ⟨⟨.array 6 5, by kernel_rfl, rfl⟩⟩
instance : NotIface Try.prog 48 := ⟨⟨.array 6 29, by kernel_rfl, rfl⟩⟩
instance : NotIface Try.prog 49 := ⟨⟨.array 6 26, by kernel_rfl, rfl⟩⟩
instance : NotIface Try.prog 50 := ⟨⟨.array 18 5, by kernel_rfl, rfl⟩⟩
instance : NotIface Try.prog 51 := ⟨⟨_, Try.underlying51, rfl⟩⟩
instance : NotIface Try.prog 52 := ⟨⟨_, Try.underlying52, rfl⟩⟩
instance : PtrT Try.prog 53 := ⟨⟨68, by kernel_rfl⟩⟩
instance : NotIface Try.prog 53 := ⟨⟨.pointer 68, by kernel_rfl, rfl⟩⟩
instance : MethP Try.prog 53 "Joined" 31 := ⟨fun _ _ => by kernel_rfl⟩
instance : MethP Try.prog 53 "Ready" 30 := ⟨fun _ _ => by kernel_rfl⟩
instance : MethP Try.prog 53 "Seat" 29 := ⟨fun _ _ => by kernel_rfl⟩
instance : MethP Try.prog 53 "There" 28 := ⟨fun _ _ => by kernel_rfl⟩
instance : MethP Try.prog 53 "Twin" 20 := ⟨fun _ _ => by kernel_rfl⟩
instance : NotIface Try.prog 58 := ⟨⟨.array 6 31, by kernel_rfl, rfl⟩⟩
instance : PtrT Try.prog 59 := ⟨⟨137, by kernel_rfl⟩⟩
instance : NotIface Try.prog 59 := ⟨⟨.pointer 137, by kernel_rfl, rfl⟩⟩
instance : MethP Try.prog 59 "Count" 27 := ⟨fun _ _ => by kernel_rfl⟩
instance : MethP Try.prog 59 "Donate" 24 := ⟨fun _ _ => by kernel_rfl⟩
instance : MethP Try.prog 59 "Keep" 25 := ⟨fun _ _ => by kernel_rfl⟩
instance : MethP Try.prog 59 "Twin" 49 := ⟨fun _ _ => by kernel_rfl⟩
instance : NotIface Try.prog 60 := ⟨⟨_, Try.underlying60, rfl⟩⟩
instance : NotIface Try.prog 61 := ⟨⟨_, Try.underlying61, rfl⟩⟩
instance : NotIface Try.prog 62 := ⟨⟨.array 16 61, by kernel_rfl, rfl⟩⟩
instance : NotIface Try.prog 63 := ⟨⟨.array 16 61, by kernel_rfl, rfl⟩⟩
instance : PtrT Try.prog 64 := ⟨⟨91, by kernel_rfl⟩⟩
instance : NotIface Try.prog 64 := ⟨⟨.pointer 91, by kernel_rfl, rfl⟩⟩
instance : MethP Try.prog 64 "All" 40 := ⟨fun _ _ => by kernel_rfl⟩
instance : MethP Try.prog 64 "Drop" 38 := ⟨fun _ _ => by kernel_rfl⟩
instance : MethP Try.prog 64 "DropVM" 39 := ⟨fun _ _ => by kernel_rfl⟩
instance : MethP Try.prog 64 "Due" 37 := ⟨fun _ _ => by kernel_rfl⟩
instance : MethP Try.prog 64 "Set" 36 := ⟨fun _ _ => by kernel_rfl⟩
instance : MethP Try.prog 64 "Shift" 26 := ⟨fun _ _ => by kernel_rfl⟩
instance : MethP Try.prog 64 "Twin" 41 := ⟨fun _ _ => by kernel_rfl⟩
instance : NotIface Try.prog 65 := ⟨⟨.array 18 3, by kernel_rfl, rfl⟩⟩
instance : NotIface Try.prog 66 := ⟨⟨.array 18 3, by kernel_rfl, rfl⟩⟩
instance : NotIface Try.prog 67 := ⟨⟨_, Try.underlying67, rfl⟩⟩
instance : NotIface Try.prog 68 := ⟨⟨_, Try.underlying68, rfl⟩⟩
instance : NotIface Try.prog 70 := ⟨⟨.array 16 26, by kernel_rfl, rfl⟩⟩
instance : NotIface Try.prog 71 := ⟨⟨_, Try.underlying71, rfl⟩⟩
instance : NotIface Try.prog 72 := ⟨⟨_, Try.underlying72, rfl⟩⟩
instance : PtrT Try.prog 79 := ⟨⟨72, by kernel_rfl⟩⟩
instance : NotIface Try.prog 79 := ⟨⟨.pointer 72, by kernel_rfl, rfl⟩⟩
instance : NotIface Try.prog 81 := ⟨⟨.array 18 4, by kernel_rfl, rfl⟩⟩
instance : PtrT Try.prog 83 := ⟨⟨151, by kernel_rfl⟩⟩
instance : NotIface Try.prog 83 := ⟨⟨.pointer 151, by kernel_rfl, rfl⟩⟩
instance : MethP Try.prog 83 "Frames" 33 := ⟨fun _ _ => by kernel_rfl⟩
instance : NotIface Try.prog 87 := ⟨⟨.slice 26, by kernel_rfl, rfl⟩⟩
instance : NotIface Try.prog 88 := ⟨⟨.slice 95, by kernel_rfl, rfl⟩⟩
instance : NotIface Try.prog 89 := ⟨⟨.slice 95, by kernel_rfl, rfl⟩⟩
instance : NotIface Try.prog 90 := ⟨⟨_, Try.underlying90, rfl⟩⟩
instance : NotIface Try.prog 91 := ⟨⟨_, Try.underlying91, rfl⟩⟩
instance : NotIface Try.prog 94 := ⟨⟨_, Try.underlying94, rfl⟩⟩
instance : NotIface Try.prog 95 := ⟨⟨_, Try.underlying95, rfl⟩⟩
instance : NotIface Try.prog 97 := ⟨⟨.slice 103, by kernel_rfl, rfl⟩⟩
instance : NotIface Try.prog 98 := ⟨⟨.array 3 4, by kernel_rfl, rfl⟩⟩
instance : NotIface Try.prog 99 := ⟨⟨.array 6 98, by kernel_rfl, rfl⟩⟩
instance : NotIface Try.prog 100 := ⟨⟨.array 3 26, by kernel_rfl, rfl⟩⟩
instance : NotIface Try.prog 101 := ⟨⟨.array 6 100, by kernel_rfl, rfl⟩⟩
instance : NotIface Try.prog 102 := ⟨⟨_, Try.underlying102, rfl⟩⟩
instance : NotIface Try.prog 103 := ⟨⟨_, Try.underlying103, rfl⟩⟩
instance : PtrT Try.prog 112 := ⟨⟨124, by kernel_rfl⟩⟩
instance : NotIface Try.prog 112 := ⟨⟨.pointer 124, by kernel_rfl, rfl⟩⟩
instance : NotIface Try.prog 113 := ⟨⟨_, Try.underlying113, rfl⟩⟩
instance : NotIface Try.prog 114 := ⟨⟨_, Try.underlying114, rfl⟩⟩
instance : NotIface Try.prog 115 := ⟨⟨.array 32 114, by kernel_rfl, rfl⟩⟩
instance : NotIface Try.prog 116 := ⟨⟨_, Try.underlying116, rfl⟩⟩
instance : NotIface Try.prog 117 := ⟨⟨_, Try.underlying117, rfl⟩⟩
instance : NotIface Try.prog 118 := ⟨⟨.array 6 117, by kernel_rfl, rfl⟩⟩
instance : NotIface Try.prog 119 := ⟨⟨.slice 208, by kernel_rfl, rfl⟩⟩
instance : NotIface Try.prog 120 := ⟨⟨.array 6 119, by kernel_rfl, rfl⟩⟩
instance : NotIface Try.prog 121 := ⟨⟨_, Try.underlying121, rfl⟩⟩
instance : NotIface Try.prog 122 := ⟨⟨_, Try.underlying122, rfl⟩⟩
instance : NotIface Try.prog 123 := ⟨⟨.array 256 5, by kernel_rfl, rfl⟩⟩
instance : NotIface Try.prog 124 := ⟨⟨.array 256 5, by kernel_rfl, rfl⟩⟩
instance : NotIface Try.prog 133 := ⟨⟨.slice 135, by kernel_rfl, rfl⟩⟩
instance : NotIface Try.prog 134 := ⟨⟨_, Try.underlying134, rfl⟩⟩
instance : NotIface Try.prog 135 := ⟨⟨_, Try.underlying135, rfl⟩⟩
instance : NotIface Try.prog 136 := ⟨⟨_, Try.underlying136, rfl⟩⟩
instance : NotIface Try.prog 137 := ⟨⟨_, Try.underlying137, rfl⟩⟩
instance : PtrT Try.prog 144 := ⟨⟨135, by kernel_rfl⟩⟩
instance : NotIface Try.prog 144 := ⟨⟨.pointer 135, by kernel_rfl, rfl⟩⟩
instance : PtrT Try.prog 148 := ⟨⟨89, by kernel_rfl⟩⟩
instance : NotIface Try.prog 148 := ⟨⟨.pointer 89, by kernel_rfl, rfl⟩⟩
instance : MethV Try.prog 148 "Len" 114 := methV_mk (elem := 89) (by kernel_rfl) Try.typeInfo148 (by kernel_rfl) (by kernel_rfl)
instance : MethV Try.prog 148 "Less" 115 := methV_mk (elem := 89) (by kernel_rfl) Try.typeInfo148 (by kernel_rfl) (by kernel_rfl)
instance : MethP Try.prog 148 "Pop" 117 := ⟨fun _ _ => by kernel_rfl⟩
instance : MethP Try.prog 148 "Push" 118 := ⟨fun _ _ => by kernel_rfl⟩
instance : MethV Try.prog 148 "Swap" 116 := methV_mk (elem := 89) (by kernel_rfl) Try.typeInfo148 (by kernel_rfl) (by kernel_rfl)
instance : NotIface Try.prog 150 := ⟨⟨_, Try.underlying150, rfl⟩⟩
instance : NotIface Try.prog 151 := ⟨⟨_, Try.underlying151, rfl⟩⟩
instance : IntT Try.prog 170 .u64 := ⟨by kernel_rfl⟩
instance : NotIface Try.prog 170 := ⟨⟨.int .u64, by kernel_rfl, rfl⟩⟩
instance : IntT Try.prog 173 .i64 := ⟨by kernel_rfl⟩
instance : NotIface Try.prog 173 := ⟨⟨.int .i64, by kernel_rfl, rfl⟩⟩
instance : IntT Try.prog 182 .u64 := ⟨by kernel_rfl⟩
instance : NotIface Try.prog 182 := ⟨⟨.int .u64, by kernel_rfl, rfl⟩⟩
instance : PtrT Try.prog 186 := ⟨⟨3, by kernel_rfl⟩⟩
instance : NotIface Try.prog 186 := ⟨⟨.pointer 3, by kernel_rfl, rfl⟩⟩
instance : PtrT Try.prog 188 := ⟨⟨182, by kernel_rfl⟩⟩
instance : NotIface Try.prog 188 := ⟨⟨.pointer 182, by kernel_rfl, rfl⟩⟩
instance : MethP Try.prog 188 "Next" 90 := ⟨fun _ _ => by kernel_rfl⟩
instance : NotIface Try.prog 192 := ⟨⟨_, Try.underlying192, rfl⟩⟩
instance : NotIface Try.prog 193 := ⟨⟨_, Try.underlying193, rfl⟩⟩
instance : NotIface Try.prog 194 := ⟨⟨.array 0 16, by kernel_rfl, rfl⟩⟩
instance : NotIface Try.prog 195 := ⟨⟨_, Try.underlying195, rfl⟩⟩
instance : NotIface Try.prog 196 := ⟨⟨_, Try.underlying196, rfl⟩⟩
instance : IntT Try.prog 197 .u8 := ⟨by kernel_rfl⟩
instance : NotIface Try.prog 197 := ⟨⟨.int .u8, by kernel_rfl, rfl⟩⟩
instance : IntT Try.prog 198 .u8 := ⟨by kernel_rfl⟩
instance : NotIface Try.prog 198 := ⟨⟨.int .u8, by kernel_rfl, rfl⟩⟩
instance : PtrT Try.prog 200 := ⟨⟨5, by kernel_rfl⟩⟩
instance : NotIface Try.prog 200 := ⟨⟨.pointer 5, by kernel_rfl, rfl⟩⟩
instance : IntT Try.prog 201 .i32 := ⟨by kernel_rfl⟩
instance : NotIface Try.prog 201 := ⟨⟨.int .i32, by kernel_rfl, rfl⟩⟩
instance : IntT Try.prog 202 .i32 := ⟨by kernel_rfl⟩
instance : NotIface Try.prog 202 := ⟨⟨.int .i32, by kernel_rfl, rfl⟩⟩
instance : NotIface Try.prog 203 := ⟨⟨_, Try.underlying203, rfl⟩⟩
instance : NotIface Try.prog 204 := ⟨⟨_, Try.underlying204, rfl⟩⟩
instance : NotIface Try.prog 207 := ⟨⟨_, Try.underlying207, rfl⟩⟩
instance : NotIface Try.prog 208 := ⟨⟨_, Try.underlying208, rfl⟩⟩
instance : ElemT Try.prog 22 72 z72 26 192 := ⟨by kernel_rfl, ⟨Try.t72, valL z72, by kernel_rfl, by kernel_rfl, rfl, by kernel_rfl, by kernel_rfl⟩, rfl, by decide⟩
instance : ElemT Try.prog 23 3 [.int .i64 0] 1 8 := ⟨by kernel_rfl, ⟨Try.t3, .int .i64 0, by kernel_rfl, by kernel_rfl, rfl, by kernel_rfl, by kernel_rfl⟩, rfl, by decide⟩
instance : ElemT Try.prog 27 5 [.int .u8 0] 1 1 := ⟨by kernel_rfl, ⟨Try.t5, .int .u8 0, by kernel_rfl, by kernel_rfl, rfl, by kernel_rfl, by kernel_rfl⟩, rfl, by decide⟩
instance : ElemT Try.prog 87 26 [.int .u64 0] 1 8 := ⟨by kernel_rfl, ⟨Try.t26, .int .u64 0, by kernel_rfl, by kernel_rfl, rfl, by kernel_rfl, by kernel_rfl⟩, rfl, by decide⟩
instance : ElemT Try.prog 88 95 [.int .u64 0, .int .i64 0, .int .i64 0] 3 24 := ⟨by kernel_rfl, ⟨Try.t95, valL z95, by kernel_rfl, by kernel_rfl, rfl, by kernel_rfl, by kernel_rfl⟩, rfl, by decide⟩
instance : ElemT Try.prog 89 95 [.int .u64 0, .int .i64 0, .int .i64 0] 3 24 := ⟨by kernel_rfl, ⟨Try.t95, valL z95, by kernel_rfl, by kernel_rfl, rfl, by kernel_rfl, by kernel_rfl⟩, rfl, by decide⟩
instance : ElemT Try.prog 97 103 [.int .u8 0, .int .i64 0, .int .i64 0, .int .u64 0] 4 32 := ⟨by kernel_rfl, ⟨Try.t103, valL z103, by kernel_rfl, by kernel_rfl, rfl, by kernel_rfl, by kernel_rfl⟩, rfl, by decide⟩
instance : ElemT Try.prog 119 208 [.int .u8 0, .int .i64 0, .int .u64 0, .int .u64 0] 4 32 := ⟨by kernel_rfl, ⟨Try.t208, valL z208, by kernel_rfl, by kernel_rfl, rfl, by kernel_rfl, by kernel_rfl⟩, rfl, by decide⟩
instance : ElemT Try.prog 133 135 [.int .u8 0, .int .i64 0, .int .i64 0, .int .i64 0] 4 32 := ⟨by kernel_rfl, ⟨Try.t135, valL z135, by kernel_rfl, by kernel_rfl, rfl, by kernel_rfl, by kernel_rfl⟩, rfl, by decide⟩
instance : CallT Try.prog 2 := ⟨Try.call2⟩
instance : CallT Try.prog 3 := ⟨Try.call3⟩
instance : CallT Try.prog 4 := ⟨Try.call4⟩
instance : CallT Try.prog 5 := ⟨Try.call5⟩
instance : CallT Try.prog 6 := ⟨Try.call6⟩
instance : CallT Try.prog 7 := ⟨Try.call7⟩
instance : CallT Try.prog 8 := ⟨Try.call8⟩
instance : CallT Try.prog 9 := ⟨Try.call9⟩
instance : CallT Try.prog 10 := ⟨Try.call10⟩
instance : CallT Try.prog 11 := ⟨Try.call11⟩
instance : CallT Try.prog 12 := ⟨Try.call12⟩
instance : CallT Try.prog 13 := ⟨Try.call13⟩
instance : CallT Try.prog 14 := ⟨Try.call14⟩
instance : CallT Try.prog 15 := ⟨Try.call15⟩
instance : CallT Try.prog 16 := ⟨Try.call16⟩
instance : CallT Try.prog 17 := ⟨Try.call17⟩
instance : CallT Try.prog 18 := ⟨Try.call18⟩
instance : CallT Try.prog 19 := ⟨Try.call19⟩
instance : CallT Try.prog 20 := ⟨Try.call20⟩
instance : CallT Try.prog 21 := ⟨Try.call21⟩
instance : CallT Try.prog 22 := ⟨Try.call22⟩
instance : CallT Try.prog 23 := ⟨Try.call23⟩
instance : CallT Try.prog 24 := ⟨Try.call24⟩
instance : CallT Try.prog 25 := ⟨Try.call25⟩
instance : CallT Try.prog 26 := ⟨Try.call26⟩
instance : CallT Try.prog 27 := ⟨Try.call27⟩
instance : CallT Try.prog 28 := ⟨Try.call28⟩
instance : CallT Try.prog 29 := ⟨Try.call29⟩
instance : CallT Try.prog 30 := ⟨Try.call30⟩
instance : CallT Try.prog 31 := ⟨Try.call31⟩
instance : CallT Try.prog 32 := ⟨Try.call32⟩
instance : CallT Try.prog 33 := ⟨Try.call33⟩
instance : CallT Try.prog 34 := ⟨Try.call34⟩
instance : CallT Try.prog 35 := ⟨Try.call35⟩
instance : CallT Try.prog 36 := ⟨Try.call36⟩
instance : CallT Try.prog 37 := ⟨Try.call37⟩
instance : CallT Try.prog 38 := ⟨Try.call38⟩
instance : CallT Try.prog 39 := ⟨Try.call39⟩
instance : CallT Try.prog 40 := ⟨Try.call40⟩
instance : CallT Try.prog 41 := ⟨Try.call41⟩
instance : CallT Try.prog 42 := ⟨Try.call42⟩
instance : CallT Try.prog 43 := ⟨Try.call43⟩
instance : CallT Try.prog 44 := ⟨Try.call44⟩
instance : CallT Try.prog 45 := ⟨Try.call45⟩
instance : CallT Try.prog 46 := ⟨Try.call46⟩
instance : CallT Try.prog 47 := ⟨Try.call47⟩
instance : CallT Try.prog 48 := ⟨Try.call48⟩
instance : CallT Try.prog 49 := ⟨Try.call49⟩
instance : CallT Try.prog 50 := ⟨Try.call50⟩
instance : CallT Try.prog 51 := ⟨Try.call51⟩
instance : CallT Try.prog 52 := ⟨Try.call52⟩
instance : CallT Try.prog 53 := ⟨Try.call53⟩
instance : CallT Try.prog 54 := ⟨Try.call54⟩
instance : CallT Try.prog 55 := ⟨Try.call55⟩
instance : CallT Try.prog 56 := ⟨Try.call56⟩
instance : CallT Try.prog 57 := ⟨Try.call57⟩
instance : CallT Try.prog 58 := ⟨Try.call58⟩
instance : CallT Try.prog 59 := ⟨Try.call59⟩
instance : CallT Try.prog 60 := ⟨Try.call60⟩
instance : CallT Try.prog 61 := ⟨Try.call61⟩
instance : CallT Try.prog 62 := ⟨Try.call62⟩
instance : CallT Try.prog 63 := ⟨Try.call63⟩
instance : CallT Try.prog 64 := ⟨Try.call64⟩
instance : CallT Try.prog 65 := ⟨Try.call65⟩
instance : CallT Try.prog 66 := ⟨Try.call66⟩
instance : CallT Try.prog 67 := ⟨Try.call67⟩
instance : CallT Try.prog 68 := ⟨Try.call68⟩
instance : CallT Try.prog 69 := ⟨Try.call69⟩
instance : CallT Try.prog 70 := ⟨Try.call70⟩
instance : CallT Try.prog 71 := ⟨Try.call71⟩
instance : CallT Try.prog 72 := ⟨Try.call72⟩
instance : CallT Try.prog 73 := ⟨Try.call73⟩
instance : CallT Try.prog 74 := ⟨Try.call74⟩
instance : CallT Try.prog 75 := ⟨Try.call75⟩
instance : CallT Try.prog 76 := ⟨Try.call76⟩
instance : CallT Try.prog 77 := ⟨Try.call77⟩
instance : CallT Try.prog 78 := ⟨Try.call78⟩
instance : CallT Try.prog 79 := ⟨Try.call79⟩
instance : CallT Try.prog 80 := ⟨Try.call80⟩
instance : CallT Try.prog 81 := ⟨Try.call81⟩
instance : CallT Try.prog 82 := ⟨Try.call82⟩
instance : CallT Try.prog 83 := ⟨Try.call83⟩
instance : CallT Try.prog 84 := ⟨Try.call84⟩
instance : CallT Try.prog 85 := ⟨Try.call85⟩
instance : CallT Try.prog 86 := ⟨Try.call86⟩
instance : CallT Try.prog 87 := ⟨Try.call87⟩
instance : CallT Try.prog 88 := ⟨Try.call88⟩
instance : CallT Try.prog 89 := ⟨Try.call89⟩
instance : CallT Try.prog 90 := ⟨Try.call90⟩
instance : CallT Try.prog 91 := ⟨Try.call91⟩
instance : CallT Try.prog 92 := ⟨Try.call92⟩
instance : CallT Try.prog 93 := ⟨Try.call93⟩
instance : CallT Try.prog 114 := ⟨Try.call114⟩
instance : CallT Try.prog 115 := ⟨Try.call115⟩
instance : CallT Try.prog 116 := ⟨Try.call116⟩
instance : CallT Try.prog 117 := ⟨Try.call117⟩
instance : CallT Try.prog 118 := ⟨Try.call118⟩
end Go.Proofs.Ytpilffakhkagjaa
