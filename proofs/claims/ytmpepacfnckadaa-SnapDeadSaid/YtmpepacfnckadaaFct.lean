/-
  Closed facts of the translation: sizes, zero values, offsets, functions that can be entered.
  No condition.
-/
import Derived.Test.YtmpepacfnckadaaProg
import Derived.Test.YtmpepacfnckadaaAwg
import Derived.KernelRfl
set_option linter.unusedSimpArgs false
set_option linter.unusedVariables false
namespace Go.Proofs.Ytmpepacfnckadaa
open Go Go.RowKit Go.Proofs.YtmpepacfnckadaaW
theorem s2 : szOf Try.prog 2 = some 1 := by kernel_rfl
theorem b2 : byOf Try.prog 2 = some 8 := by kernel_rfl
theorem z2 : zrOf Try.prog 2 = some (Value.int IntKind.i64 0) := by kernel_rfl
theorem a2 : agOf Try.prog 2 = some false := by kernel_rfl
theorem s3 : szOf Try.prog 3 = some 1 := by kernel_rfl
theorem b3 : byOf Try.prog 3 = some 8 := by kernel_rfl
theorem z3 : zrOf Try.prog 3 = some (Value.int IntKind.i64 0) := by kernel_rfl
theorem a3 : agOf Try.prog 3 = some false := by kernel_rfl
theorem s4 : szOf Try.prog 4 = some 1 := by kernel_rfl
theorem b4 : byOf Try.prog 4 = some 1 := by kernel_rfl
theorem z4 : zrOf Try.prog 4 = some (Value.bool false) := by kernel_rfl
theorem a4 : agOf Try.prog 4 = some false := by kernel_rfl
theorem s5 : szOf Try.prog 5 = some 1 := by kernel_rfl
theorem b5 : byOf Try.prog 5 = some 1 := by kernel_rfl
theorem z5 : zrOf Try.prog 5 = some (Value.int IntKind.u8 0) := by kernel_rfl
theorem a5 : agOf Try.prog 5 = some false := by kernel_rfl
theorem s6 : szOf Try.prog 6 = some 1 := by kernel_rfl
theorem b6 : byOf Try.prog 6 = some 1 := by kernel_rfl
theorem z6 : zrOf Try.prog 6 = some (Value.int IntKind.u8 0) := by kernel_rfl
theorem a6 : agOf Try.prog 6 = some false := by kernel_rfl
theorem s7 : szOf Try.prog 7 = some 4 := by kernel_rfl
theorem b7 : byOf Try.prog 7 = some 24 := by kernel_rfl
theorem z7 : zrOf Try.prog 7 = some (Value.agg #[Value.int IntKind.i64 0, Value.int IntKind.i64 0, Value.bool false, Value.int IntKind.u8 0]) := by kernel_rfl
theorem a7 : agOf Try.prog 7 = some true := by kernel_rfl
theorem o7_0 : fldOff Try.prog 7 0 = some 0 := by kernel_rfl
theorem o7_1 : fldOff Try.prog 7 1 = some 1 := by kernel_rfl
theorem o7_2 : fldOff Try.prog 7 2 = some 2 := by kernel_rfl
theorem o7_3 : fldOff Try.prog 7 3 = some 3 := by kernel_rfl
theorem s8 : szOf Try.prog 8 = some 4 := by kernel_rfl
theorem b8 : byOf Try.prog 8 = some 24 := by kernel_rfl
theorem z8 : zrOf Try.prog 8 = some (Value.agg #[Value.int IntKind.i64 0, Value.int IntKind.i64 0, Value.bool false, Value.int IntKind.u8 0]) := by kernel_rfl
theorem a8 : agOf Try.prog 8 = some true := by kernel_rfl
theorem o8_0 : fldOff Try.prog 8 0 = some 0 := by kernel_rfl
theorem o8_1 : fldOff Try.prog 8 1 = some 1 := by kernel_rfl
theorem o8_2 : fldOff Try.prog 8 2 = some 2 := by kernel_rfl
theorem o8_3 : fldOff Try.prog 8 3 = some 3 := by kernel_rfl
theorem s9 : szOf Try.prog 9 = some 1 := by kernel_rfl
theorem b9 : byOf Try.prog 9 = some 16 := by kernel_rfl
theorem z9 : zrOf Try.prog 9 = some (Value.string { data := #[] }) := by kernel_rfl
theorem a9 : agOf Try.prog 9 = some false := by kernel_rfl
theorem s10 : szOf Try.prog 10 = some 1 := by kernel_rfl
theorem b10 : byOf Try.prog 10 = some 16 := by kernel_rfl
theorem z10 : zrOf Try.prog 10 = some (Value.string { data := #[] }) := by kernel_rfl
theorem a10 : agOf Try.prog 10 = some false := by kernel_rfl
theorem s11 : szOf Try.prog 11 = some 1 := by kernel_rfl
theorem b11 : byOf Try.prog 11 = some 16 := by kernel_rfl
theorem z11 : zrOf Try.prog 11 = some (Value.string { data := #[] }) := by kernel_rfl
theorem a11 : agOf Try.prog 11 = some false := by kernel_rfl
theorem s12 : szOf Try.prog 12 = some 1 := by kernel_rfl
theorem b12 : byOf Try.prog 12 = some 8 := by kernel_rfl
theorem z12 : zrOf Try.prog 12 = some (Value.int IntKind.u64 0) := by kernel_rfl
theorem a12 : agOf Try.prog 12 = some false := by kernel_rfl
theorem s13 : szOf Try.prog 13 = some 2 := by kernel_rfl
theorem b13 : byOf Try.prog 13 = some 24 := by kernel_rfl
theorem z13 : zrOf Try.prog 13 = some (Value.agg #[Value.string { data := #[] }, Value.int IntKind.u64 0]) := by kernel_rfl
theorem a13 : agOf Try.prog 13 = some true := by kernel_rfl
theorem o13_0 : fldOff Try.prog 13 0 = some 0 := by kernel_rfl
theorem o13_1 : fldOff Try.prog 13 1 = some 1 := by kernel_rfl
theorem s14 : szOf Try.prog 14 = some 2 := by kernel_rfl
theorem b14 : byOf Try.prog 14 = some 24 := by kernel_rfl
theorem z14 : zrOf Try.prog 14 = some (Value.agg #[Value.string { data := #[] }, Value.int IntKind.u64 0]) := by kernel_rfl
theorem a14 : agOf Try.prog 14 = some true := by kernel_rfl
theorem o14_0 : fldOff Try.prog 14 0 = some 0 := by kernel_rfl
theorem o14_1 : fldOff Try.prog 14 1 = some 1 := by kernel_rfl
theorem s15 : szOf Try.prog 15 = some 1 := by kernel_rfl
theorem b15 : byOf Try.prog 15 = some 8 := by kernel_rfl
theorem z15 : zrOf Try.prog 15 = some (Value.pointer none) := by kernel_rfl
theorem a15 : agOf Try.prog 15 = some false := by kernel_rfl
theorem s16 : szOf Try.prog 16 = some 1 := by kernel_rfl
theorem b16 : byOf Try.prog 16 = some 8 := by kernel_rfl
theorem z16 : zrOf Try.prog 16 = some (Value.pointer none) := by kernel_rfl
theorem a16 : agOf Try.prog 16 = some false := by kernel_rfl
theorem s17 : szOf Try.prog 17 = some 1 := by kernel_rfl
theorem b17 : byOf Try.prog 17 = some 8 := by kernel_rfl
theorem z17 : zrOf Try.prog 17 = some (Value.pointer none) := by kernel_rfl
theorem a17 : agOf Try.prog 17 = some false := by kernel_rfl
theorem s18 : szOf Try.prog 18 = some 1 := by kernel_rfl
theorem b18 : byOf Try.prog 18 = some 8 := by kernel_rfl
theorem z18 : zrOf Try.prog 18 = some (Value.agg #[Value.pointer none]) := by kernel_rfl
theorem a18 : agOf Try.prog 18 = some true := by kernel_rfl
theorem o18_0 : fldOff Try.prog 18 0 = some 0 := by kernel_rfl
theorem s19 : szOf Try.prog 19 = some 1 := by kernel_rfl
theorem b19 : byOf Try.prog 19 = some 8 := by kernel_rfl
theorem z19 : zrOf Try.prog 19 = some (Value.agg #[Value.pointer none]) := by kernel_rfl
theorem a19 : agOf Try.prog 19 = some true := by kernel_rfl
theorem o19_0 : fldOff Try.prog 19 0 = some 0 := by kernel_rfl
theorem s21 : szOf Try.prog 21 = some 1 := by kernel_rfl
theorem b21 : byOf Try.prog 21 = some 4 := by kernel_rfl
theorem z21 : zrOf Try.prog 21 = some (Value.int IntKind.i32 0) := by kernel_rfl
theorem a21 : agOf Try.prog 21 = some false := by kernel_rfl
theorem s23 : szOf Try.prog 23 = some 1 := by kernel_rfl
theorem b23 : byOf Try.prog 23 = some 8 := by kernel_rfl
theorem z23 : zrOf Try.prog 23 = some (Value.int IntKind.u64 0) := by kernel_rfl
theorem a23 : agOf Try.prog 23 = some false := by kernel_rfl
theorem s24 : szOf Try.prog 24 = some 1 := by kernel_rfl
theorem b24 : byOf Try.prog 24 = some 8 := by kernel_rfl
theorem z24 : zrOf Try.prog 24 = some (Value.pointer none) := by kernel_rfl
theorem a24 : agOf Try.prog 24 = some false := by kernel_rfl
theorem s25 : szOf Try.prog 25 = some 1 := by kernel_rfl
theorem b25 : byOf Try.prog 25 = some 8 := by kernel_rfl
theorem z25 : zrOf Try.prog 25 = some (Value.int IntKind.i64 0) := by kernel_rfl
theorem a25 : agOf Try.prog 25 = some false := by kernel_rfl
theorem s30 : szOf Try.prog 30 = some 1 := by kernel_rfl
theorem b30 : byOf Try.prog 30 = some 24 := by kernel_rfl
theorem z30 : zrOf Try.prog 30 = some (Value.slice none 0 0) := by kernel_rfl
theorem a30 : agOf Try.prog 30 = some false := by kernel_rfl
theorem s35 : szOf Try.prog 35 = some 1 := by kernel_rfl
theorem b35 : byOf Try.prog 35 = some 24 := by kernel_rfl
theorem z35 : zrOf Try.prog 35 = some (Value.slice none 0 0) := by kernel_rfl
theorem a35 : agOf Try.prog 35 = some false := by kernel_rfl
theorem s36 : szOf Try.prog 36 = some 1 := by kernel_rfl
theorem b36 : byOf Try.prog 36 = some 8 := by kernel_rfl
theorem z36 : zrOf Try.prog 36 = some (Value.pointer none) := by kernel_rfl
theorem a36 : agOf Try.prog 36 = some false := by kernel_rfl
theorem s39 : szOf Try.prog 39 = some 3 := by kernel_rfl
theorem b39 : byOf Try.prog 39 = some 24 := by kernel_rfl
theorem z39 : zrOf Try.prog 39 = some (Value.agg #[Value.int IntKind.u8 0, Value.int IntKind.u64 0, Value.bool false]) := by kernel_rfl
theorem a39 : agOf Try.prog 39 = some true := by kernel_rfl
theorem o39_0 : fldOff Try.prog 39 0 = some 0 := by kernel_rfl
theorem o39_1 : fldOff Try.prog 39 1 = some 1 := by kernel_rfl
theorem o39_2 : fldOff Try.prog 39 2 = some 2 := by kernel_rfl
theorem s40 : szOf Try.prog 40 = some 3 := by kernel_rfl
theorem b40 : byOf Try.prog 40 = some 24 := by kernel_rfl
theorem z40 : zrOf Try.prog 40 = some (Value.agg #[Value.int IntKind.u8 0, Value.int IntKind.u64 0, Value.bool false]) := by kernel_rfl
theorem a40 : agOf Try.prog 40 = some true := by kernel_rfl
theorem o40_0 : fldOff Try.prog 40 0 = some 0 := by kernel_rfl
theorem o40_1 : fldOff Try.prog 40 1 = some 1 := by kernel_rfl
theorem o40_2 : fldOff Try.prog 40 2 = some 2 := by kernel_rfl
theorem s50 : szOf Try.prog 50 = some 1 := by kernel_rfl
theorem b50 : byOf Try.prog 50 = some 24 := by kernel_rfl
theorem z50 : zrOf Try.prog 50 = some (Value.slice none 0 0) := by kernel_rfl
theorem a50 : agOf Try.prog 50 = some false := by kernel_rfl
theorem s51 : szOf Try.prog 51 = some 1 := by kernel_rfl
theorem b51 : byOf Try.prog 51 = some 8 := by kernel_rfl
theorem z51 : zrOf Try.prog 51 = some (Value.map none) := by kernel_rfl
theorem a51 : agOf Try.prog 51 = some false := by kernel_rfl
theorem s52 : szOf Try.prog 52 = some 1 := by kernel_rfl
theorem b52 : byOf Try.prog 52 = some 8 := by kernel_rfl
theorem z52 : zrOf Try.prog 52 = some (Value.int IntKind.u64 0) := by kernel_rfl
theorem a52 : agOf Try.prog 52 = some false := by kernel_rfl
theorem s54 : szOf Try.prog 54 = some 1 := by kernel_rfl
theorem b54 : byOf Try.prog 54 = some 8 := by kernel_rfl
theorem z54 : zrOf Try.prog 54 = some (Value.map none) := by kernel_rfl
theorem a54 : agOf Try.prog 54 = some false := by kernel_rfl
theorem s56 : szOf Try.prog 56 = some 1 := by kernel_rfl
theorem b56 : byOf Try.prog 56 = some 24 := by kernel_rfl
theorem z56 : zrOf Try.prog 56 = some (Value.slice none 0 0) := by kernel_rfl
theorem a56 : agOf Try.prog 56 = some false := by kernel_rfl
theorem s57 : szOf Try.prog 57 = some 1 := by kernel_rfl
theorem b57 : byOf Try.prog 57 = some 8 := by kernel_rfl
theorem z57 : zrOf Try.prog 57 = some (Value.pointer none) := by kernel_rfl
theorem a57 : agOf Try.prog 57 = some false := by kernel_rfl
theorem s60 : szOf Try.prog 60 = some 1 := by kernel_rfl
theorem b60 : byOf Try.prog 60 = some 24 := by kernel_rfl
theorem z60 : zrOf Try.prog 60 = some (Value.slice none 0 0) := by kernel_rfl
theorem a60 : agOf Try.prog 60 = some false := by kernel_rfl
theorem s61 : szOf Try.prog 61 = some 1 := by kernel_rfl
theorem b61 : byOf Try.prog 61 = some 24 := by kernel_rfl
theorem z61 : zrOf Try.prog 61 = some (Value.slice none 0 0) := by kernel_rfl
theorem a61 : agOf Try.prog 61 = some false := by kernel_rfl
theorem s62 : szOf Try.prog 62 = some 1 := by kernel_rfl
theorem b62 : byOf Try.prog 62 = some 24 := by kernel_rfl
theorem z62 : zrOf Try.prog 62 = some (Value.slice none 0 0) := by kernel_rfl
theorem a62 : agOf Try.prog 62 = some false := by kernel_rfl
theorem s63 : szOf Try.prog 63 = some 4 := by kernel_rfl
theorem b63 : byOf Try.prog 63 = some 64 := by kernel_rfl
theorem z63 : zrOf Try.prog 63 = some (Value.agg #[Value.pointer none, Value.pointer none, Value.slice none 0 0, Value.slice none 0 0]) := by kernel_rfl
theorem a63 : agOf Try.prog 63 = some true := by kernel_rfl
theorem o63_0 : fldOff Try.prog 63 0 = some 0 := by kernel_rfl
theorem o63_1 : fldOff Try.prog 63 1 = some 1 := by kernel_rfl
theorem o63_2 : fldOff Try.prog 63 2 = some 2 := by kernel_rfl
theorem o63_3 : fldOff Try.prog 63 3 = some 3 := by kernel_rfl
theorem s64 : szOf Try.prog 64 = some 4 := by kernel_rfl
theorem b64 : byOf Try.prog 64 = some 64 := by kernel_rfl
theorem z64 : zrOf Try.prog 64 = some (Value.agg #[Value.pointer none, Value.pointer none, Value.slice none 0 0, Value.slice none 0 0]) := by kernel_rfl
theorem a64 : agOf Try.prog 64 = some true := by kernel_rfl
theorem o64_0 : fldOff Try.prog 64 0 = some 0 := by kernel_rfl
theorem o64_1 : fldOff Try.prog 64 1 = some 1 := by kernel_rfl
theorem o64_2 : fldOff Try.prog 64 2 = some 2 := by kernel_rfl
theorem o64_3 : fldOff Try.prog 64 3 = some 3 := by kernel_rfl
theorem s65 : szOf Try.prog 65 = some 4 := by kernel_rfl
theorem b65 : byOf Try.prog 65 = some 48 := by kernel_rfl
theorem z65 : zrOf Try.prog 65 = some (Value.agg #[Value.int IntKind.u64 0, Value.int IntKind.u64 0, Value.int IntKind.u64 0, Value.slice none 0 0]) := by kernel_rfl
theorem a65 : agOf Try.prog 65 = some true := by kernel_rfl
theorem o65_0 : fldOff Try.prog 65 0 = some 0 := by kernel_rfl
theorem o65_1 : fldOff Try.prog 65 1 = some 1 := by kernel_rfl
theorem o65_2 : fldOff Try.prog 65 2 = some 2 := by kernel_rfl
theorem o65_3 : fldOff Try.prog 65 3 = some 3 := by kernel_rfl
theorem s66 : szOf Try.prog 66 = some 4 := by kernel_rfl
theorem b66 : byOf Try.prog 66 = some 48 := by kernel_rfl
theorem z66 : zrOf Try.prog 66 = some (Value.agg #[Value.int IntKind.u64 0, Value.int IntKind.u64 0, Value.int IntKind.u64 0, Value.slice none 0 0]) := by kernel_rfl
theorem a66 : agOf Try.prog 66 = some true := by kernel_rfl
theorem o66_0 : fldOff Try.prog 66 0 = some 0 := by kernel_rfl
theorem o66_1 : fldOff Try.prog 66 1 = some 1 := by kernel_rfl
theorem o66_2 : fldOff Try.prog 66 2 = some 2 := by kernel_rfl
theorem o66_3 : fldOff Try.prog 66 3 = some 3 := by kernel_rfl
theorem s67 : szOf Try.prog 67 = some 1 := by kernel_rfl
theorem b67 : byOf Try.prog 67 = some 24 := by kernel_rfl
theorem z67 : zrOf Try.prog 67 = some (Value.slice none 0 0) := by kernel_rfl
theorem a67 : agOf Try.prog 67 = some false := by kernel_rfl
theorem s69 : szOf Try.prog 69 = some 2 := by kernel_rfl
theorem b69 : byOf Try.prog 69 = some 16 := by kernel_rfl
theorem z69 : zrOf Try.prog 69 = some (Value.agg #[Value.int IntKind.u8 0, Value.int IntKind.u64 0]) := by kernel_rfl
theorem a69 : agOf Try.prog 69 = some true := by kernel_rfl
theorem o69_0 : fldOff Try.prog 69 0 = some 0 := by kernel_rfl
theorem o69_1 : fldOff Try.prog 69 1 = some 1 := by kernel_rfl
theorem s70 : szOf Try.prog 70 = some 2 := by kernel_rfl
theorem b70 : byOf Try.prog 70 = some 16 := by kernel_rfl
theorem z70 : zrOf Try.prog 70 = some (Value.agg #[Value.int IntKind.u8 0, Value.int IntKind.u64 0]) := by kernel_rfl
theorem a70 : agOf Try.prog 70 = some true := by kernel_rfl
theorem o70_0 : fldOff Try.prog 70 0 = some 0 := by kernel_rfl
theorem o70_1 : fldOff Try.prog 70 1 = some 1 := by kernel_rfl
theorem s72 : szOf Try.prog 72 = some 1 := by kernel_rfl
theorem b72 : byOf Try.prog 72 = some 24 := by kernel_rfl
theorem z72 : zrOf Try.prog 72 = some (Value.slice none 0 0) := by kernel_rfl
theorem a72 : agOf Try.prog 72 = some false := by kernel_rfl
theorem s73 : szOf Try.prog 73 = some 2 := by kernel_rfl
theorem b73 : byOf Try.prog 73 = some 16 := by kernel_rfl
theorem z73 : zrOf Try.prog 73 = some (Value.agg #[Value.int IntKind.i64 0, Value.int IntKind.i64 0]) := by kernel_rfl
theorem a73 : agOf Try.prog 73 = some true := by kernel_rfl
theorem o73_0 : fldOff Try.prog 73 0 = some 0 := by kernel_rfl
theorem o73_1 : fldOff Try.prog 73 1 = some 1 := by kernel_rfl
theorem s74 : szOf Try.prog 74 = some 2 := by kernel_rfl
theorem b74 : byOf Try.prog 74 = some 16 := by kernel_rfl
theorem z74 : zrOf Try.prog 74 = some (Value.agg #[Value.int IntKind.i64 0, Value.int IntKind.i64 0]) := by kernel_rfl
theorem a74 : agOf Try.prog 74 = some true := by kernel_rfl
theorem o74_0 : fldOff Try.prog 74 0 = some 0 := by kernel_rfl
theorem o74_1 : fldOff Try.prog 74 1 = some 1 := by kernel_rfl
theorem s75 : szOf Try.prog 75 = some 6 := by kernel_rfl
theorem b75 : byOf Try.prog 75 = some 64 := by kernel_rfl
theorem z75 : zrOf Try.prog 75 = some (Value.agg #[Value.int IntKind.u64 0, Value.int IntKind.u64 0, Value.int IntKind.u64 0, Value.int IntKind.i64 0, Value.int IntKind.i64 0, Value.slice none 0 0]) := by kernel_rfl
theorem a75 : agOf Try.prog 75 = some true := by kernel_rfl
theorem o75_0 : fldOff Try.prog 75 0 = some 0 := by kernel_rfl
theorem o75_1 : fldOff Try.prog 75 1 = some 1 := by kernel_rfl
theorem o75_2 : fldOff Try.prog 75 2 = some 2 := by kernel_rfl
theorem o75_3 : fldOff Try.prog 75 3 = some 3 := by kernel_rfl
theorem o75_4 : fldOff Try.prog 75 4 = some 5 := by kernel_rfl
theorem s76 : szOf Try.prog 76 = some 6 := by kernel_rfl
theorem b76 : byOf Try.prog 76 = some 64 := by kernel_rfl
theorem z76 : zrOf Try.prog 76 = some (Value.agg #[Value.int IntKind.u64 0, Value.int IntKind.u64 0, Value.int IntKind.u64 0, Value.int IntKind.i64 0, Value.int IntKind.i64 0, Value.slice none 0 0]) := by kernel_rfl
theorem a76 : agOf Try.prog 76 = some true := by kernel_rfl
theorem o76_0 : fldOff Try.prog 76 0 = some 0 := by kernel_rfl
theorem o76_1 : fldOff Try.prog 76 1 = some 1 := by kernel_rfl
theorem o76_2 : fldOff Try.prog 76 2 = some 2 := by kernel_rfl
theorem o76_3 : fldOff Try.prog 76 3 = some 3 := by kernel_rfl
theorem o76_4 : fldOff Try.prog 76 4 = some 5 := by kernel_rfl
theorem s80 : szOf Try.prog 80 = some 1 := by kernel_rfl
theorem b80 : byOf Try.prog 80 = some 24 := by kernel_rfl
theorem z80 : zrOf Try.prog 80 = some (Value.slice none 0 0) := by kernel_rfl
theorem a80 : agOf Try.prog 80 = some false := by kernel_rfl
theorem s81 : szOf Try.prog 81 = some 1 := by kernel_rfl
theorem b81 : byOf Try.prog 81 = some 8 := by kernel_rfl
theorem z81 : zrOf Try.prog 81 = some (Value.map none) := by kernel_rfl
theorem a81 : agOf Try.prog 81 = some false := by kernel_rfl
theorem s86 : szOf Try.prog 86 = some 2 := by kernel_rfl
theorem b86 : byOf Try.prog 86 = some 16 := by kernel_rfl
theorem z86 : zrOf Try.prog 86 = some (Value.agg #[Value.int IntKind.u64 0, Value.int IntKind.u64 0]) := by kernel_rfl
theorem a86 : agOf Try.prog 86 = some true := by kernel_rfl
theorem s92 : szOf Try.prog 92 = some 3 := by kernel_rfl
theorem b92 : byOf Try.prog 92 = some 40 := by kernel_rfl
theorem z92 : zrOf Try.prog 92 = some (Value.agg #[Value.int IntKind.u64 0, Value.int IntKind.u64 0, Value.slice none 0 0]) := by kernel_rfl
theorem a92 : agOf Try.prog 92 = some true := by kernel_rfl
theorem o92_0 : fldOff Try.prog 92 0 = some 0 := by kernel_rfl
theorem o92_1 : fldOff Try.prog 92 1 = some 1 := by kernel_rfl
theorem o92_2 : fldOff Try.prog 92 2 = some 2 := by kernel_rfl
theorem s93 : szOf Try.prog 93 = some 3 := by kernel_rfl
theorem b93 : byOf Try.prog 93 = some 40 := by kernel_rfl
theorem z93 : zrOf Try.prog 93 = some (Value.agg #[Value.int IntKind.u64 0, Value.int IntKind.u64 0, Value.slice none 0 0]) := by kernel_rfl
theorem a93 : agOf Try.prog 93 = some true := by kernel_rfl
theorem o93_0 : fldOff Try.prog 93 0 = some 0 := by kernel_rfl
theorem o93_1 : fldOff Try.prog 93 1 = some 1 := by kernel_rfl
theorem o93_2 : fldOff Try.prog 93 2 = some 2 := by kernel_rfl
theorem s97 : szOf Try.prog 97 = some 3 := by kernel_rfl
theorem b97 : byOf Try.prog 97 = some 40 := by kernel_rfl
theorem z97 : zrOf Try.prog 97 = some (Value.agg #[Value.int IntKind.u64 0, Value.int IntKind.u64 0, Value.slice none 0 0]) := by kernel_rfl
theorem a97 : agOf Try.prog 97 = some true := by kernel_rfl
theorem o97_0 : fldOff Try.prog 97 0 = some 0 := by kernel_rfl
theorem o97_1 : fldOff Try.prog 97 1 = some 1 := by kernel_rfl
theorem o97_2 : fldOff Try.prog 97 2 = some 2 := by kernel_rfl
theorem s98 : szOf Try.prog 98 = some 3 := by kernel_rfl
theorem b98 : byOf Try.prog 98 = some 40 := by kernel_rfl
theorem z98 : zrOf Try.prog 98 = some (Value.agg #[Value.int IntKind.u64 0, Value.int IntKind.u64 0, Value.slice none 0 0]) := by kernel_rfl
theorem a98 : agOf Try.prog 98 = some true := by kernel_rfl
theorem o98_0 : fldOff Try.prog 98 0 = some 0 := by kernel_rfl
theorem o98_1 : fldOff Try.prog 98 1 = some 1 := by kernel_rfl
theorem o98_2 : fldOff Try.prog 98 2 = some 2 := by kernel_rfl
theorem s100 : szOf Try.prog 100 = some 1 := by kernel_rfl
theorem b100 : byOf Try.prog 100 = some 24 := by kernel_rfl
theorem z100 : zrOf Try.prog 100 = some (Value.slice none 0 0) := by kernel_rfl
theorem a100 : agOf Try.prog 100 = some false := by kernel_rfl
theorem s101 : szOf Try.prog 101 = some 2 := by kernel_rfl
theorem b101 : byOf Try.prog 101 = some 32 := by kernel_rfl
theorem z101 : zrOf Try.prog 101 = some (Value.agg #[Value.int IntKind.u64 0, Value.slice none 0 0]) := by kernel_rfl
theorem a101 : agOf Try.prog 101 = some true := by kernel_rfl
theorem o101_0 : fldOff Try.prog 101 0 = some 0 := by kernel_rfl
theorem o101_1 : fldOff Try.prog 101 1 = some 1 := by kernel_rfl
theorem s102 : szOf Try.prog 102 = some 2 := by kernel_rfl
theorem b102 : byOf Try.prog 102 = some 32 := by kernel_rfl
theorem z102 : zrOf Try.prog 102 = some (Value.agg #[Value.int IntKind.u64 0, Value.slice none 0 0]) := by kernel_rfl
theorem a102 : agOf Try.prog 102 = some true := by kernel_rfl
theorem o102_0 : fldOff Try.prog 102 0 = some 0 := by kernel_rfl
theorem o102_1 : fldOff Try.prog 102 1 = some 1 := by kernel_rfl
theorem s107 : szOf Try.prog 107 = some 1 := by kernel_rfl
theorem b107 : byOf Try.prog 107 = some 8 := by kernel_rfl
theorem z107 : zrOf Try.prog 107 = some (Value.pointer none) := by kernel_rfl
theorem a107 : agOf Try.prog 107 = some false := by kernel_rfl
theorem ok3 : callOk Try.prog 3 = true := by kernel_rfl
theorem r3 : Try.f3.results.toList = [.tmp 4] := by kernel_rfl
theorem ok4 : callOk Try.prog 4 = true := by kernel_rfl
theorem r4 : Try.f4.results.toList = [.tmp 6] := by kernel_rfl
theorem ok5 : callOk Try.prog 5 = true := by kernel_rfl
theorem r5 : Try.f5.results.toList = [.tmp 4] := by kernel_rfl
theorem ok6 : callOk Try.prog 6 = true := by kernel_rfl
theorem r6 : Try.f6.results.toList = [.tmp 4] := by kernel_rfl
theorem ok7 : callOk Try.prog 7 = true := by kernel_rfl
theorem r7 : Try.f7.results.toList = [.tmp 4] := by kernel_rfl
theorem ok8 : callOk Try.prog 8 = true := by kernel_rfl
theorem r8 : Try.f8.results.toList = [.tmp 4] := by kernel_rfl
theorem ok9 : callOk Try.prog 9 = true := by kernel_rfl
theorem r9 : Try.f9.results.toList = [.tmp 4] := by kernel_rfl
theorem ok10 : callOk Try.prog 10 = true := by kernel_rfl
theorem r10 : Try.f10.results.toList = [.tmp 6] := by kernel_rfl
theorem ok11 : callOk Try.prog 11 = true := by kernel_rfl
theorem r11 : Try.f11.results.toList = [.tmp 4] := by kernel_rfl
theorem ok12 : callOk Try.prog 12 = true := by kernel_rfl
theorem r12 : Try.f12.results.toList = [.tmp 0] := by kernel_rfl
theorem ok13 : callOk Try.prog 13 = true := by kernel_rfl
theorem r13 : Try.f13.results.toList = [.tmp 2, .tmp 3] := by kernel_rfl
theorem ok14 : callOk Try.prog 14 = true := by kernel_rfl
theorem r14 : Try.f14.results.toList = [.tmp 2, .tmp 3] := by kernel_rfl
theorem ok15 : callOk Try.prog 15 = true := by kernel_rfl
theorem r15 : Try.f15.results.toList = [.tmp 2] := by kernel_rfl
theorem ok16 : callOk Try.prog 16 = true := by kernel_rfl
theorem r16 : Try.f16.results.toList = [.tmp 2] := by kernel_rfl
theorem ok17 : callOk Try.prog 17 = true := by kernel_rfl
theorem r17 : Try.f17.results.toList = [.tmp 4] := by kernel_rfl
theorem ok18 : callOk Try.prog 18 = true := by kernel_rfl
theorem r18 : Try.f18.results.toList = [.tmp 2, .tmp 3] := by kernel_rfl
theorem ok19 : callOk Try.prog 19 = true := by kernel_rfl
theorem r19 : Try.f19.results.toList = [.tmp 4] := by kernel_rfl
theorem ok20 : callOk Try.prog 20 = true := by kernel_rfl
theorem r20 : Try.f20.results.toList = [.tmp 6] := by kernel_rfl
theorem ok21 : callOk Try.prog 21 = true := by kernel_rfl
theorem r21 : Try.f21.results.toList = [.tmp 4] := by kernel_rfl
theorem ok22 : callOk Try.prog 22 = true := by kernel_rfl
theorem r22 : Try.f22.results.toList = [.tmp 2, .tmp 3] := by kernel_rfl
theorem ok23 : callOk Try.prog 23 = true := by kernel_rfl
theorem r23 : Try.f23.results.toList = [.tmp 4] := by kernel_rfl
theorem ok24 : callOk Try.prog 24 = true := by kernel_rfl
theorem r24 : Try.f24.results.toList = [.tmp 2] := by kernel_rfl
theorem ok25 : callOk Try.prog 25 = true := by kernel_rfl
theorem r25 : Try.f25.results.toList = [.tmp 4] := by kernel_rfl
theorem ok26 : callOk Try.prog 26 = true := by kernel_rfl
theorem r26 : Try.f26.results.toList = [.tmp 2] := by kernel_rfl
theorem ok27 : callOk Try.prog 27 = true := by kernel_rfl
theorem r27 : Try.f27.results.toList = [.tmp 0] := by kernel_rfl
theorem ok28 : callOk Try.prog 28 = true := by kernel_rfl
theorem r28 : Try.f28.results.toList = [.tmp 4, .tmp 5] := by kernel_rfl
theorem ok29 : callOk Try.prog 29 = true := by kernel_rfl
theorem r29 : Try.f29.results.toList = [.tmp 6] := by kernel_rfl
theorem ok30 : callOk Try.prog 30 = true := by kernel_rfl
theorem r30 : Try.f30.results.toList = [.cell 4 76] := by kernel_rfl
theorem ok31 : callOk Try.prog 31 = true := by kernel_rfl
theorem r31 : Try.f31.results.toList = [.tmp 6] := by kernel_rfl
theorem ok32 : callOk Try.prog 32 = true := by kernel_rfl
theorem r32 : Try.f32.results.toList = [.cell 4 66] := by kernel_rfl
theorem ok33 : callOk Try.prog 33 = true := by kernel_rfl
theorem r33 : Try.f33.results.toList = [.tmp 4] := by kernel_rfl
theorem ok34 : callOk Try.prog 34 = true := by kernel_rfl
theorem r34 : Try.f34.results.toList = [.tmp 6] := by kernel_rfl
theorem ok35 : callOk Try.prog 35 = true := by kernel_rfl
theorem r35 : Try.f35.results.toList = [.tmp 4] := by kernel_rfl
theorem ok36 : callOk Try.prog 36 = true := by kernel_rfl
theorem r36 : Try.f36.results.toList = [.tmp 6] := by kernel_rfl
theorem ok37 : callOk Try.prog 37 = true := by kernel_rfl
theorem r37 : Try.f37.results.toList = [.tmp 6] := by kernel_rfl
theorem ok38 : callOk Try.prog 38 = true := by kernel_rfl
theorem r38 : Try.f38.results.toList = [.tmp 6] := by kernel_rfl
theorem ok39 : callOk Try.prog 39 = true := by kernel_rfl
theorem r39 : Try.f39.results.toList = [.tmp 6] := by kernel_rfl
theorem ok40 : callOk Try.prog 40 = true := by kernel_rfl
theorem r40 : Try.f40.results.toList = [.tmp 6] := by kernel_rfl
theorem ok41 : callOk Try.prog 41 = true := by kernel_rfl
theorem r41 : Try.f41.results.toList = [] := by kernel_rfl
theorem ok42 : callOk Try.prog 42 = true := by kernel_rfl
theorem r42 : Try.f42.results.toList = [.tmp 6] := by kernel_rfl
theorem ok43 : callOk Try.prog 43 = true := by kernel_rfl
theorem r43 : Try.f43.results.toList = [.cell 4 93] := by kernel_rfl
theorem ok44 : callOk Try.prog 44 = true := by kernel_rfl
theorem r44 : Try.f44.results.toList = [.tmp 2] := by kernel_rfl
theorem ok45 : callOk Try.prog 45 = true := by kernel_rfl
theorem r45 : Try.f45.results.toList = [.tmp 4] := by kernel_rfl
theorem ok46 : callOk Try.prog 46 = true := by kernel_rfl
theorem r46 : Try.f46.results.toList = [.tmp 4] := by kernel_rfl
attribute [go_sem] s2 z2 a2 s3 z3 a3 s4 z4 a4 s5 z5 a5 s9 z9 a9 s21 z21 a21 s23 z23 a23 s24 z24 a24 s25 z25 a25 s30 z30 a30 s35 z35 a35 s36 z36 a36 s39 z39 a39 o39_0 o39_1 o39_2 s40 z40 a40 o40_0 o40_1 o40_2 s50 z50 a50 s51 z51 a51 s52 z52 a52 s54 z54 a54 s56 z56 a56 s57 z57 a57 s60 z60 a60 s61 z61 a61 s62 z62 a62 s63 z63 a63 o63_0 o63_1 o63_2 o63_3 s64 z64 a64 o64_0 o64_1 o64_2 o64_3 s65 z65 a65 o65_0 o65_1 o65_2 o65_3 s66 z66 a66 o66_0 o66_1 o66_2 o66_3 s67 z67 a67 s69 z69 a69 o69_0 o69_1 s70 z70 a70 o70_0 o70_1 s72 z72 a72 s73 z73 a73 o73_0 o73_1 s74 z74 a74 o74_0 o74_1 s75 z75 a75 o75_0 o75_1 o75_2 o75_3 o75_4 s76 z76 a76 o76_0 o76_1 o76_2 o76_3 o76_4 s80 z80 a80 s81 z81 a81 s86 z86 a86 s92 z92 a92 o92_0 o92_1 o92_2 s93 z93 a93 o93_0 o93_1 o93_2 s97 z97 a97 o97_0 o97_1 o97_2 s98 z98 a98 o98_0 o98_1 o98_2 s100 z100 a100 s101 z101 a101 o101_0 o101_1 s102 z102 a102 o102_0 o102_1 s107 z107 a107 ok3 ok4 ok5 ok6 ok7 ok8 ok9 ok10 ok11 ok12 ok13 ok14 ok15 ok16 ok17 ok18 ok19 ok20 ok21 ok22 ok23 ok24 ok25 ok26 ok27 ok28 ok29 ok30 ok31 ok32 ok33 ok34 ok35 ok36 ok37 ok38 ok39 ok40 ok41 ok42 ok43 ok44 ok45 ok46 Try.underlying2 Try.underlying3 Try.underlying4 Try.underlying5 Try.underlying9 Try.underlying21 Try.underlying23 Try.underlying24 Try.underlying25 Try.underlying30 Try.underlying35 Try.underlying36 Try.underlying39 Try.underlying40 Try.underlying50 Try.underlying51 Try.underlying52 Try.underlying54 Try.underlying56 Try.underlying57 Try.underlying60 Try.underlying61 Try.underlying62 Try.underlying63 Try.underlying64 Try.underlying65 Try.underlying66 Try.underlying67 Try.underlying69 Try.underlying70 Try.underlying72 Try.underlying73 Try.underlying74 Try.underlying75 Try.underlying76 Try.underlying80 Try.underlying81 Try.underlying86 Try.underlying92 Try.underlying93 Try.underlying97 Try.underlying98 Try.underlying100 Try.underlying101 Try.underlying102 Try.underlying107
end Go.Proofs.Ytmpepacfnckadaa
