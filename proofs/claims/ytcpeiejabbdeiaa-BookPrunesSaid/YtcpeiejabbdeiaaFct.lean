/-
  Closed facts of the translation: sizes, zero values, offsets, functions that can be entered.
  No condition.
-/
import Derived.Test.YtcpeiejabbdeiaaProg
import Derived.Test.YtcpeiejabbdeiaaAwg
import Derived.KernelRfl
set_option linter.unusedSimpArgs false
set_option linter.unusedVariables false
namespace Go.Proofs.Ytcpeiejabbdeiaa
open Go Go.RowKit Go.Proofs.YtcpeiejabbdeiaaW
theorem s2 : szOf Try.prog 2 = some 1 := by kernel_rfl
theorem b2 : byOf Try.prog 2 = some 8 := by kernel_rfl
theorem z2 : zrOf Try.prog 2 = some (Value.int IntKind.i64 0) := by kernel_rfl
theorem a2 : agOf Try.prog 2 = some false := by kernel_rfl
theorem s3 : szOf Try.prog 3 = some 1 := by kernel_rfl
theorem b3 : byOf Try.prog 3 = some 8 := by kernel_rfl
theorem z3 : zrOf Try.prog 3 = some (Value.int IntKind.i64 0) := by kernel_rfl
theorem a3 : agOf Try.prog 3 = some false := by kernel_rfl
theorem s4 : szOf Try.prog 4 = some 1 := by kernel_rfl
theorem b4 : byOf Try.prog 4 = some 1 := by kernel_rfl
theorem z4 : zrOf Try.prog 4 = some (Value.bool false) := by kernel_rfl
theorem a4 : agOf Try.prog 4 = some false := by kernel_rfl
theorem s5 : szOf Try.prog 5 = some 1 := by kernel_rfl
theorem b5 : byOf Try.prog 5 = some 1 := by kernel_rfl
theorem z5 : zrOf Try.prog 5 = some (Value.int IntKind.u8 0) := by kernel_rfl
theorem a5 : agOf Try.prog 5 = some false := by kernel_rfl
theorem s6 : szOf Try.prog 6 = some 1 := by kernel_rfl
theorem b6 : byOf Try.prog 6 = some 1 := by kernel_rfl
theorem z6 : zrOf Try.prog 6 = some (Value.int IntKind.u8 0) := by kernel_rfl
theorem a6 : agOf Try.prog 6 = some false := by kernel_rfl
theorem s7 : szOf Try.prog 7 = some 4 := by kernel_rfl
theorem b7 : byOf Try.prog 7 = some 24 := by kernel_rfl
theorem z7 : zrOf Try.prog 7 = some (Value.agg #[Value.int IntKind.i64 0, Value.int IntKind.i64 0, Value.bool false, Value.int IntKind.u8 0]) := by kernel_rfl
theorem a7 : agOf Try.prog 7 = some true := by kernel_rfl
theorem o7_0 : fldOff Try.prog 7 0 = some 0 := by kernel_rfl
theorem o7_1 : fldOff Try.prog 7 1 = some 1 := by kernel_rfl
theorem o7_2 : fldOff Try.prog 7 2 = some 2 := by kernel_rfl
theorem o7_3 : fldOff Try.prog 7 3 = some 3 := by kernel_rfl
theorem s8 : szOf Try.prog 8 = some 4 := by kernel_rfl
theorem b8 : byOf Try.prog 8 = some 24 := by kernel_rfl
theorem z8 : zrOf Try.prog 8 = some (Value.agg #[Value.int IntKind.i64 0, Value.int IntKind.i64 0, Value.bool false, Value.int IntKind.u8 0]) := by kernel_rfl
theorem a8 : agOf Try.prog 8 = some true := by kernel_rfl
theorem o8_0 : fldOff Try.prog 8 0 = some 0 := by kernel_rfl
theorem o8_1 : fldOff Try.prog 8 1 = some 1 := by kernel_rfl
theorem o8_2 : fldOff Try.prog 8 2 = some 2 := by kernel_rfl
theorem o8_3 : fldOff Try.prog 8 3 = some 3 := by kernel_rfl
theorem s9 : szOf Try.prog 9 = some 1 := by kernel_rfl
theorem b9 : byOf Try.prog 9 = some 16 := by kernel_rfl
theorem z9 : zrOf Try.prog 9 = some (Value.string { data := #[] }) := by kernel_rfl
theorem a9 : agOf Try.prog 9 = some false := by kernel_rfl
theorem s10 : szOf Try.prog 10 = some 1 := by kernel_rfl
theorem b10 : byOf Try.prog 10 = some 16 := by kernel_rfl
theorem z10 : zrOf Try.prog 10 = some (Value.string { data := #[] }) := by kernel_rfl
theorem a10 : agOf Try.prog 10 = some false := by kernel_rfl
theorem s11 : szOf Try.prog 11 = some 1 := by kernel_rfl
theorem b11 : byOf Try.prog 11 = some 16 := by kernel_rfl
theorem z11 : zrOf Try.prog 11 = some (Value.string { data := #[] }) := by kernel_rfl
theorem a11 : agOf Try.prog 11 = some false := by kernel_rfl
theorem s12 : szOf Try.prog 12 = some 1 := by kernel_rfl
theorem b12 : byOf Try.prog 12 = some 8 := by kernel_rfl
theorem z12 : zrOf Try.prog 12 = some (Value.int IntKind.u64 0) := by kernel_rfl
theorem a12 : agOf Try.prog 12 = some false := by kernel_rfl
theorem s13 : szOf Try.prog 13 = some 2 := by kernel_rfl
theorem b13 : byOf Try.prog 13 = some 24 := by kernel_rfl
theorem z13 : zrOf Try.prog 13 = some (Value.agg #[Value.string { data := #[] }, Value.int IntKind.u64 0]) := by kernel_rfl
theorem a13 : agOf Try.prog 13 = some true := by kernel_rfl
theorem o13_0 : fldOff Try.prog 13 0 = some 0 := by kernel_rfl
theorem o13_1 : fldOff Try.prog 13 1 = some 1 := by kernel_rfl
theorem s14 : szOf Try.prog 14 = some 2 := by kernel_rfl
theorem b14 : byOf Try.prog 14 = some 24 := by kernel_rfl
theorem z14 : zrOf Try.prog 14 = some (Value.agg #[Value.string { data := #[] }, Value.int IntKind.u64 0]) := by kernel_rfl
theorem a14 : agOf Try.prog 14 = some true := by kernel_rfl
theorem o14_0 : fldOff Try.prog 14 0 = some 0 := by kernel_rfl
theorem o14_1 : fldOff Try.prog 14 1 = some 1 := by kernel_rfl
theorem s15 : szOf Try.prog 15 = some 1 := by kernel_rfl
theorem b15 : byOf Try.prog 15 = some 8 := by kernel_rfl
theorem z15 : zrOf Try.prog 15 = some (Value.pointer none) := by kernel_rfl
theorem a15 : agOf Try.prog 15 = some false := by kernel_rfl
theorem s16 : szOf Try.prog 16 = some 1 := by kernel_rfl
theorem b16 : byOf Try.prog 16 = some 8 := by kernel_rfl
theorem z16 : zrOf Try.prog 16 = some (Value.pointer none) := by kernel_rfl
theorem a16 : agOf Try.prog 16 = some false := by kernel_rfl
theorem s17 : szOf Try.prog 17 = some 1 := by kernel_rfl
theorem b17 : byOf Try.prog 17 = some 8 := by kernel_rfl
theorem z17 : zrOf Try.prog 17 = some (Value.pointer none) := by kernel_rfl
theorem a17 : agOf Try.prog 17 = some false := by kernel_rfl
theorem s18 : szOf Try.prog 18 = some 1 := by kernel_rfl
theorem b18 : byOf Try.prog 18 = some 8 := by kernel_rfl
theorem z18 : zrOf Try.prog 18 = some (Value.agg #[Value.pointer none]) := by kernel_rfl
theorem a18 : agOf Try.prog 18 = some true := by kernel_rfl
theorem o18_0 : fldOff Try.prog 18 0 = some 0 := by kernel_rfl
theorem s19 : szOf Try.prog 19 = some 1 := by kernel_rfl
theorem b19 : byOf Try.prog 19 = some 8 := by kernel_rfl
theorem z19 : zrOf Try.prog 19 = some (Value.agg #[Value.pointer none]) := by kernel_rfl
theorem a19 : agOf Try.prog 19 = some true := by kernel_rfl
theorem o19_0 : fldOff Try.prog 19 0 = some 0 := by kernel_rfl
theorem s21 : szOf Try.prog 21 = some 1 := by kernel_rfl
theorem b21 : byOf Try.prog 21 = some 4 := by kernel_rfl
theorem z21 : zrOf Try.prog 21 = some (Value.int IntKind.i32 0) := by kernel_rfl
theorem a21 : agOf Try.prog 21 = some false := by kernel_rfl
theorem s23 : szOf Try.prog 23 = some 1 := by kernel_rfl
theorem b23 : byOf Try.prog 23 = some 8 := by kernel_rfl
theorem z23 : zrOf Try.prog 23 = some (Value.pointer none) := by kernel_rfl
theorem a23 : agOf Try.prog 23 = some false := by kernel_rfl
theorem s24 : szOf Try.prog 24 = some 1 := by kernel_rfl
theorem b24 : byOf Try.prog 24 = some 8 := by kernel_rfl
theorem z24 : zrOf Try.prog 24 = some (Value.int IntKind.i64 0) := by kernel_rfl
theorem a24 : agOf Try.prog 24 = some false := by kernel_rfl
theorem s27 : szOf Try.prog 27 = some 1 := by kernel_rfl
theorem b27 : byOf Try.prog 27 = some 8 := by kernel_rfl
theorem z27 : zrOf Try.prog 27 = some (Value.int IntKind.u64 0) := by kernel_rfl
theorem a27 : agOf Try.prog 27 = some false := by kernel_rfl
theorem s28 : szOf Try.prog 28 = some 1 := by kernel_rfl
theorem b28 : byOf Try.prog 28 = some 8 := by kernel_rfl
theorem z28 : zrOf Try.prog 28 = some (Value.pointer none) := by kernel_rfl
theorem a28 : agOf Try.prog 28 = some false := by kernel_rfl
theorem s32 : szOf Try.prog 32 = some 1 := by kernel_rfl
theorem b32 : byOf Try.prog 32 = some 24 := by kernel_rfl
theorem z32 : zrOf Try.prog 32 = some (Value.slice none 0 0) := by kernel_rfl
theorem a32 : agOf Try.prog 32 = some false := by kernel_rfl
theorem s33 : szOf Try.prog 33 = some 4 := by kernel_rfl
theorem b33 : byOf Try.prog 33 = some 48 := by kernel_rfl
theorem z33 : zrOf Try.prog 33 = some (Value.agg #[Value.int IntKind.u64 0, Value.int IntKind.u64 0, Value.int IntKind.u64 0, Value.slice none 0 0]) := by kernel_rfl
theorem a33 : agOf Try.prog 33 = some true := by kernel_rfl
theorem o33_0 : fldOff Try.prog 33 0 = some 0 := by kernel_rfl
theorem o33_1 : fldOff Try.prog 33 1 = some 1 := by kernel_rfl
theorem o33_2 : fldOff Try.prog 33 2 = some 2 := by kernel_rfl
theorem o33_3 : fldOff Try.prog 33 3 = some 3 := by kernel_rfl
theorem s34 : szOf Try.prog 34 = some 4 := by kernel_rfl
theorem b34 : byOf Try.prog 34 = some 48 := by kernel_rfl
theorem z34 : zrOf Try.prog 34 = some (Value.agg #[Value.int IntKind.u64 0, Value.int IntKind.u64 0, Value.int IntKind.u64 0, Value.slice none 0 0]) := by kernel_rfl
theorem a34 : agOf Try.prog 34 = some true := by kernel_rfl
theorem o34_0 : fldOff Try.prog 34 0 = some 0 := by kernel_rfl
theorem o34_1 : fldOff Try.prog 34 1 = some 1 := by kernel_rfl
theorem o34_2 : fldOff Try.prog 34 2 = some 2 := by kernel_rfl
theorem o34_3 : fldOff Try.prog 34 3 = some 3 := by kernel_rfl
theorem s37 : szOf Try.prog 37 = some 1 := by kernel_rfl
theorem b37 : byOf Try.prog 37 = some 24 := by kernel_rfl
theorem z37 : zrOf Try.prog 37 = some (Value.slice none 0 0) := by kernel_rfl
theorem a37 : agOf Try.prog 37 = some false := by kernel_rfl
theorem s39 : szOf Try.prog 39 = some 6 := by kernel_rfl
theorem b39 : byOf Try.prog 39 = some 56 := by kernel_rfl
theorem z39 : zrOf Try.prog 39 = some (Value.agg #[Value.int IntKind.u64 0, Value.string { data := #[] }, Value.int IntKind.u64 0, Value.int IntKind.i64 0, Value.int IntKind.u64 0, Value.int IntKind.u64 0]) := by kernel_rfl
theorem a39 : agOf Try.prog 39 = some true := by kernel_rfl
theorem o39_0 : fldOff Try.prog 39 0 = some 0 := by kernel_rfl
theorem o39_1 : fldOff Try.prog 39 1 = some 1 := by kernel_rfl
theorem o39_2 : fldOff Try.prog 39 2 = some 2 := by kernel_rfl
theorem o39_3 : fldOff Try.prog 39 3 = some 3 := by kernel_rfl
theorem o39_4 : fldOff Try.prog 39 4 = some 4 := by kernel_rfl
theorem o39_5 : fldOff Try.prog 39 5 = some 5 := by kernel_rfl
theorem s40 : szOf Try.prog 40 = some 6 := by kernel_rfl
theorem b40 : byOf Try.prog 40 = some 56 := by kernel_rfl
theorem z40 : zrOf Try.prog 40 = some (Value.agg #[Value.int IntKind.u64 0, Value.string { data := #[] }, Value.int IntKind.u64 0, Value.int IntKind.i64 0, Value.int IntKind.u64 0, Value.int IntKind.u64 0]) := by kernel_rfl
theorem a40 : agOf Try.prog 40 = some true := by kernel_rfl
theorem o40_0 : fldOff Try.prog 40 0 = some 0 := by kernel_rfl
theorem o40_1 : fldOff Try.prog 40 1 = some 1 := by kernel_rfl
theorem o40_2 : fldOff Try.prog 40 2 = some 2 := by kernel_rfl
theorem o40_3 : fldOff Try.prog 40 3 = some 3 := by kernel_rfl
theorem o40_4 : fldOff Try.prog 40 4 = some 4 := by kernel_rfl
theorem o40_5 : fldOff Try.prog 40 5 = some 5 := by kernel_rfl
theorem s43 : szOf Try.prog 43 = some 5 := by kernel_rfl
theorem b43 : byOf Try.prog 43 = some 64 := by kernel_rfl
theorem z43 : zrOf Try.prog 43 = some (Value.agg #[Value.int IntKind.u64 0, Value.string { data := #[] }, Value.slice none 0 0, Value.int IntKind.u64 0, Value.int IntKind.u64 0]) := by kernel_rfl
theorem a43 : agOf Try.prog 43 = some true := by kernel_rfl
theorem o43_0 : fldOff Try.prog 43 0 = some 0 := by kernel_rfl
theorem o43_1 : fldOff Try.prog 43 1 = some 1 := by kernel_rfl
theorem o43_2 : fldOff Try.prog 43 2 = some 2 := by kernel_rfl
theorem o43_3 : fldOff Try.prog 43 3 = some 3 := by kernel_rfl
theorem o43_4 : fldOff Try.prog 43 4 = some 4 := by kernel_rfl
theorem s44 : szOf Try.prog 44 = some 5 := by kernel_rfl
theorem b44 : byOf Try.prog 44 = some 64 := by kernel_rfl
theorem z44 : zrOf Try.prog 44 = some (Value.agg #[Value.int IntKind.u64 0, Value.string { data := #[] }, Value.slice none 0 0, Value.int IntKind.u64 0, Value.int IntKind.u64 0]) := by kernel_rfl
theorem a44 : agOf Try.prog 44 = some true := by kernel_rfl
theorem o44_0 : fldOff Try.prog 44 0 = some 0 := by kernel_rfl
theorem o44_1 : fldOff Try.prog 44 1 = some 1 := by kernel_rfl
theorem o44_2 : fldOff Try.prog 44 2 = some 2 := by kernel_rfl
theorem o44_3 : fldOff Try.prog 44 3 = some 3 := by kernel_rfl
theorem o44_4 : fldOff Try.prog 44 4 = some 4 := by kernel_rfl
theorem s48 : szOf Try.prog 48 = some 1 := by kernel_rfl
theorem b48 : byOf Try.prog 48 = some 24 := by kernel_rfl
theorem z48 : zrOf Try.prog 48 = some (Value.slice none 0 0) := by kernel_rfl
theorem a48 : agOf Try.prog 48 = some false := by kernel_rfl
theorem s51 : szOf Try.prog 51 = some 1 := by kernel_rfl
theorem b51 : byOf Try.prog 51 = some 24 := by kernel_rfl
theorem z51 : zrOf Try.prog 51 = some (Value.slice none 0 0) := by kernel_rfl
theorem a51 : agOf Try.prog 51 = some false := by kernel_rfl
theorem s52 : szOf Try.prog 52 = some 1 := by kernel_rfl
theorem b52 : byOf Try.prog 52 = some 8 := by kernel_rfl
theorem z52 : zrOf Try.prog 52 = some (Value.map none) := by kernel_rfl
theorem a52 : agOf Try.prog 52 = some false := by kernel_rfl
theorem s53 : szOf Try.prog 53 = some 6 := by kernel_rfl
theorem b53 : byOf Try.prog 53 = some 80 := by kernel_rfl
theorem z53 : zrOf Try.prog 53 = some (Value.agg #[Value.int IntKind.u8 0, Value.int IntKind.u8 0, Value.string { data := #[] }, Value.string { data := #[] }, Value.string { data := #[] }, Value.slice none 0 0]) := by kernel_rfl
theorem a53 : agOf Try.prog 53 = some true := by kernel_rfl
theorem o53_0 : fldOff Try.prog 53 0 = some 0 := by kernel_rfl
theorem o53_1 : fldOff Try.prog 53 1 = some 1 := by kernel_rfl
theorem o53_2 : fldOff Try.prog 53 2 = some 2 := by kernel_rfl
theorem o53_3 : fldOff Try.prog 53 3 = some 3 := by kernel_rfl
theorem o53_4 : fldOff Try.prog 53 4 = some 4 := by kernel_rfl
theorem o53_5 : fldOff Try.prog 53 5 = some 5 := by kernel_rfl
theorem s54 : szOf Try.prog 54 = some 6 := by kernel_rfl
theorem b54 : byOf Try.prog 54 = some 80 := by kernel_rfl
theorem z54 : zrOf Try.prog 54 = some (Value.agg #[Value.int IntKind.u8 0, Value.int IntKind.u8 0, Value.string { data := #[] }, Value.string { data := #[] }, Value.string { data := #[] }, Value.slice none 0 0]) := by kernel_rfl
theorem a54 : agOf Try.prog 54 = some true := by kernel_rfl
theorem o54_0 : fldOff Try.prog 54 0 = some 0 := by kernel_rfl
theorem o54_1 : fldOff Try.prog 54 1 = some 1 := by kernel_rfl
theorem o54_2 : fldOff Try.prog 54 2 = some 2 := by kernel_rfl
theorem o54_3 : fldOff Try.prog 54 3 = some 3 := by kernel_rfl
theorem o54_4 : fldOff Try.prog 54 4 = some 4 := by kernel_rfl
theorem o54_5 : fldOff Try.prog 54 5 = some 5 := by kernel_rfl
theorem s58 : szOf Try.prog 58 = some 1 := by kernel_rfl
theorem b58 : byOf Try.prog 58 = some 24 := by kernel_rfl
theorem z58 : zrOf Try.prog 58 = some (Value.slice none 0 0) := by kernel_rfl
theorem a58 : agOf Try.prog 58 = some false := by kernel_rfl
theorem s59 : szOf Try.prog 59 = some 1 := by kernel_rfl
theorem b59 : byOf Try.prog 59 = some 8 := by kernel_rfl
theorem z59 : zrOf Try.prog 59 = some (Value.map none) := by kernel_rfl
theorem a59 : agOf Try.prog 59 = some false := by kernel_rfl
theorem s65 : szOf Try.prog 65 = some 1 := by kernel_rfl
theorem b65 : byOf Try.prog 65 = some 24 := by kernel_rfl
theorem z65 : zrOf Try.prog 65 = some (Value.slice none 0 0) := by kernel_rfl
theorem a65 : agOf Try.prog 65 = some false := by kernel_rfl
theorem s67 : szOf Try.prog 67 = some 1 := by kernel_rfl
theorem b67 : byOf Try.prog 67 = some 24 := by kernel_rfl
theorem z67 : zrOf Try.prog 67 = some (Value.slice none 0 0) := by kernel_rfl
theorem a67 : agOf Try.prog 67 = some false := by kernel_rfl
theorem s68 : szOf Try.prog 68 = some 3 := by kernel_rfl
theorem b68 : byOf Try.prog 68 = some 40 := by kernel_rfl
theorem z68 : zrOf Try.prog 68 = some (Value.agg #[Value.int IntKind.u64 0, Value.int IntKind.u64 0, Value.slice none 0 0]) := by kernel_rfl
theorem a68 : agOf Try.prog 68 = some true := by kernel_rfl
theorem o68_0 : fldOff Try.prog 68 0 = some 0 := by kernel_rfl
theorem o68_1 : fldOff Try.prog 68 1 = some 1 := by kernel_rfl
theorem o68_2 : fldOff Try.prog 68 2 = some 2 := by kernel_rfl
theorem s69 : szOf Try.prog 69 = some 3 := by kernel_rfl
theorem b69 : byOf Try.prog 69 = some 40 := by kernel_rfl
theorem z69 : zrOf Try.prog 69 = some (Value.agg #[Value.int IntKind.u64 0, Value.int IntKind.u64 0, Value.slice none 0 0]) := by kernel_rfl
theorem a69 : agOf Try.prog 69 = some true := by kernel_rfl
theorem o69_0 : fldOff Try.prog 69 0 = some 0 := by kernel_rfl
theorem o69_1 : fldOff Try.prog 69 1 = some 1 := by kernel_rfl
theorem o69_2 : fldOff Try.prog 69 2 = some 2 := by kernel_rfl
theorem s70 : szOf Try.prog 70 = some 1 := by kernel_rfl
theorem b70 : byOf Try.prog 70 = some 24 := by kernel_rfl
theorem z70 : zrOf Try.prog 70 = some (Value.slice none 0 0) := by kernel_rfl
theorem a70 : agOf Try.prog 70 = some false := by kernel_rfl
theorem s71 : szOf Try.prog 71 = some 1 := by kernel_rfl
theorem b71 : byOf Try.prog 71 = some 24 := by kernel_rfl
theorem z71 : zrOf Try.prog 71 = some (Value.slice none 0 0) := by kernel_rfl
theorem a71 : agOf Try.prog 71 = some false := by kernel_rfl
theorem s72 : szOf Try.prog 72 = some 3 := by kernel_rfl
theorem b72 : byOf Try.prog 72 = some 56 := by kernel_rfl
theorem z72 : zrOf Try.prog 72 = some (Value.agg #[Value.slice none 0 0, Value.slice none 0 0, Value.int IntKind.u64 0]) := by kernel_rfl
theorem a72 : agOf Try.prog 72 = some true := by kernel_rfl
theorem o72_0 : fldOff Try.prog 72 0 = some 0 := by kernel_rfl
theorem o72_1 : fldOff Try.prog 72 1 = some 1 := by kernel_rfl
theorem o72_2 : fldOff Try.prog 72 2 = some 2 := by kernel_rfl
theorem s73 : szOf Try.prog 73 = some 3 := by kernel_rfl
theorem b73 : byOf Try.prog 73 = some 56 := by kernel_rfl
theorem z73 : zrOf Try.prog 73 = some (Value.agg #[Value.slice none 0 0, Value.slice none 0 0, Value.int IntKind.u64 0]) := by kernel_rfl
theorem a73 : agOf Try.prog 73 = some true := by kernel_rfl
theorem o73_0 : fldOff Try.prog 73 0 = some 0 := by kernel_rfl
theorem o73_1 : fldOff Try.prog 73 1 = some 1 := by kernel_rfl
theorem o73_2 : fldOff Try.prog 73 2 = some 2 := by kernel_rfl
theorem s79 : szOf Try.prog 79 = some 1 := by kernel_rfl
theorem b79 : byOf Try.prog 79 = some 8 := by kernel_rfl
theorem z79 : zrOf Try.prog 79 = some (Value.pointer none) := by kernel_rfl
theorem a79 : agOf Try.prog 79 = some false := by kernel_rfl
theorem s80 : szOf Try.prog 80 = some 4 := by kernel_rfl
theorem b80 : byOf Try.prog 80 = some 40 := by kernel_rfl
theorem z80 : zrOf Try.prog 80 = some (Value.agg #[Value.int IntKind.u64 0, Value.string { data := #[] }, Value.int IntKind.u64 0, Value.int IntKind.u64 0]) := by kernel_rfl
theorem a80 : agOf Try.prog 80 = some true := by kernel_rfl
theorem o80_0 : fldOff Try.prog 80 0 = some 0 := by kernel_rfl
theorem o80_1 : fldOff Try.prog 80 1 = some 1 := by kernel_rfl
theorem o80_2 : fldOff Try.prog 80 2 = some 2 := by kernel_rfl
theorem o80_3 : fldOff Try.prog 80 3 = some 3 := by kernel_rfl
theorem s81 : szOf Try.prog 81 = some 4 := by kernel_rfl
theorem b81 : byOf Try.prog 81 = some 40 := by kernel_rfl
theorem z81 : zrOf Try.prog 81 = some (Value.agg #[Value.int IntKind.u64 0, Value.string { data := #[] }, Value.int IntKind.u64 0, Value.int IntKind.u64 0]) := by kernel_rfl
theorem a81 : agOf Try.prog 81 = some true := by kernel_rfl
theorem o81_0 : fldOff Try.prog 81 0 = some 0 := by kernel_rfl
theorem o81_1 : fldOff Try.prog 81 1 = some 1 := by kernel_rfl
theorem o81_2 : fldOff Try.prog 81 2 = some 2 := by kernel_rfl
theorem o81_3 : fldOff Try.prog 81 3 = some 3 := by kernel_rfl
theorem s84 : szOf Try.prog 84 = some 1 := by kernel_rfl
theorem b84 : byOf Try.prog 84 = some 1 := by kernel_rfl
theorem z84 : zrOf Try.prog 84 = some (Value.int IntKind.u8 0) := by kernel_rfl
theorem a84 : agOf Try.prog 84 = some false := by kernel_rfl
theorem s85 : szOf Try.prog 85 = some 2 := by kernel_rfl
theorem b85 : byOf Try.prog 85 = some 24 := by kernel_rfl
theorem z85 : zrOf Try.prog 85 = some (Value.agg #[Value.string { data := #[] }, Value.int IntKind.u8 0]) := by kernel_rfl
theorem a85 : agOf Try.prog 85 = some true := by kernel_rfl
theorem o85_0 : fldOff Try.prog 85 0 = some 0 := by kernel_rfl
theorem o85_1 : fldOff Try.prog 85 1 = some 1 := by kernel_rfl
theorem s86 : szOf Try.prog 86 = some 2 := by kernel_rfl
theorem b86 : byOf Try.prog 86 = some 24 := by kernel_rfl
theorem z86 : zrOf Try.prog 86 = some (Value.agg #[Value.string { data := #[] }, Value.int IntKind.u8 0]) := by kernel_rfl
theorem a86 : agOf Try.prog 86 = some true := by kernel_rfl
theorem o86_0 : fldOff Try.prog 86 0 = some 0 := by kernel_rfl
theorem o86_1 : fldOff Try.prog 86 1 = some 1 := by kernel_rfl
theorem s87 : szOf Try.prog 87 = some 5 := by kernel_rfl
theorem b87 : byOf Try.prog 87 = some 64 := by kernel_rfl
theorem z87 : zrOf Try.prog 87 = some (Value.agg #[Value.int IntKind.u64 0, Value.string { data := #[] }, Value.int IntKind.u64 0, Value.int IntKind.u64 0, Value.slice none 0 0]) := by kernel_rfl
theorem a87 : agOf Try.prog 87 = some true := by kernel_rfl
theorem o87_0 : fldOff Try.prog 87 0 = some 0 := by kernel_rfl
theorem o87_1 : fldOff Try.prog 87 1 = some 4 := by kernel_rfl
theorem s88 : szOf Try.prog 88 = some 5 := by kernel_rfl
theorem b88 : byOf Try.prog 88 = some 64 := by kernel_rfl
theorem z88 : zrOf Try.prog 88 = some (Value.agg #[Value.int IntKind.u64 0, Value.string { data := #[] }, Value.int IntKind.u64 0, Value.int IntKind.u64 0, Value.slice none 0 0]) := by kernel_rfl
theorem a88 : agOf Try.prog 88 = some true := by kernel_rfl
theorem o88_0 : fldOff Try.prog 88 0 = some 0 := by kernel_rfl
theorem o88_1 : fldOff Try.prog 88 1 = some 4 := by kernel_rfl
theorem s92 : szOf Try.prog 92 = some 1 := by kernel_rfl
theorem b92 : byOf Try.prog 92 = some 8 := by kernel_rfl
theorem z92 : zrOf Try.prog 92 = some (Value.pointer none) := by kernel_rfl
theorem a92 : agOf Try.prog 92 = some false := by kernel_rfl
theorem s93 : szOf Try.prog 93 = some 6 := by kernel_rfl
theorem b93 : byOf Try.prog 93 = some 56 := by kernel_rfl
theorem z93 : zrOf Try.prog 93 = some (Value.agg #[Value.int IntKind.u64 0, Value.string { data := #[] }, Value.int IntKind.u64 0, Value.int IntKind.u64 0, Value.int IntKind.u64 0, Value.int IntKind.i64 0]) := by kernel_rfl
theorem a93 : agOf Try.prog 93 = some true := by kernel_rfl
theorem o93_0 : fldOff Try.prog 93 0 = some 0 := by kernel_rfl
theorem o93_1 : fldOff Try.prog 93 1 = some 4 := by kernel_rfl
theorem o93_2 : fldOff Try.prog 93 2 = some 5 := by kernel_rfl
theorem s94 : szOf Try.prog 94 = some 6 := by kernel_rfl
theorem b94 : byOf Try.prog 94 = some 56 := by kernel_rfl
theorem z94 : zrOf Try.prog 94 = some (Value.agg #[Value.int IntKind.u64 0, Value.string { data := #[] }, Value.int IntKind.u64 0, Value.int IntKind.u64 0, Value.int IntKind.u64 0, Value.int IntKind.i64 0]) := by kernel_rfl
theorem a94 : agOf Try.prog 94 = some true := by kernel_rfl
theorem o94_0 : fldOff Try.prog 94 0 = some 0 := by kernel_rfl
theorem o94_1 : fldOff Try.prog 94 1 = some 4 := by kernel_rfl
theorem o94_2 : fldOff Try.prog 94 2 = some 5 := by kernel_rfl
theorem s99 : szOf Try.prog 99 = some 1 := by kernel_rfl
theorem b99 : byOf Try.prog 99 = some 8 := by kernel_rfl
theorem z99 : zrOf Try.prog 99 = some (Value.pointer none) := by kernel_rfl
theorem a99 : agOf Try.prog 99 = some false := by kernel_rfl
theorem s100 : szOf Try.prog 100 = some 1 := by kernel_rfl
theorem b100 : byOf Try.prog 100 = some 24 := by kernel_rfl
theorem z100 : zrOf Try.prog 100 = some (Value.slice none 0 0) := by kernel_rfl
theorem a100 : agOf Try.prog 100 = some false := by kernel_rfl
theorem s108 : szOf Try.prog 108 = some 1 := by kernel_rfl
theorem b108 : byOf Try.prog 108 = some 8 := by kernel_rfl
theorem z108 : zrOf Try.prog 108 = some (Value.pointer none) := by kernel_rfl
theorem a108 : agOf Try.prog 108 = some false := by kernel_rfl
theorem s110 : szOf Try.prog 110 = some 1 := by kernel_rfl
theorem b110 : byOf Try.prog 110 = some 8 := by kernel_rfl
theorem z110 : zrOf Try.prog 110 = some (Value.map none) := by kernel_rfl
theorem a110 : agOf Try.prog 110 = some false := by kernel_rfl
theorem s116 : szOf Try.prog 116 = some 2 := by kernel_rfl
theorem b116 : byOf Try.prog 116 = some 16 := by kernel_rfl
theorem z116 : zrOf Try.prog 116 = some (Value.agg #[Value.int IntKind.i64 0, Value.int IntKind.i64 0]) := by kernel_rfl
theorem a116 : agOf Try.prog 116 = some true := by kernel_rfl
theorem o116_0 : fldOff Try.prog 116 0 = some 0 := by kernel_rfl
theorem o116_1 : fldOff Try.prog 116 1 = some 1 := by kernel_rfl
theorem s117 : szOf Try.prog 117 = some 2 := by kernel_rfl
theorem b117 : byOf Try.prog 117 = some 16 := by kernel_rfl
theorem z117 : zrOf Try.prog 117 = some (Value.agg #[Value.int IntKind.i64 0, Value.int IntKind.i64 0]) := by kernel_rfl
theorem a117 : agOf Try.prog 117 = some true := by kernel_rfl
theorem o117_0 : fldOff Try.prog 117 0 = some 0 := by kernel_rfl
theorem o117_1 : fldOff Try.prog 117 1 = some 1 := by kernel_rfl
theorem s118 : szOf Try.prog 118 = some 6 := by kernel_rfl
theorem b118 : byOf Try.prog 118 = some 64 := by kernel_rfl
theorem z118 : zrOf Try.prog 118 = some (Value.agg #[Value.int IntKind.u64 0, Value.int IntKind.u64 0, Value.int IntKind.u64 0, Value.int IntKind.i64 0, Value.int IntKind.i64 0, Value.slice none 0 0]) := by kernel_rfl
theorem a118 : agOf Try.prog 118 = some true := by kernel_rfl
theorem o118_0 : fldOff Try.prog 118 0 = some 0 := by kernel_rfl
theorem o118_1 : fldOff Try.prog 118 1 = some 1 := by kernel_rfl
theorem o118_2 : fldOff Try.prog 118 2 = some 2 := by kernel_rfl
theorem o118_3 : fldOff Try.prog 118 3 = some 3 := by kernel_rfl
theorem o118_4 : fldOff Try.prog 118 4 = some 5 := by kernel_rfl
theorem s119 : szOf Try.prog 119 = some 6 := by kernel_rfl
theorem b119 : byOf Try.prog 119 = some 64 := by kernel_rfl
theorem z119 : zrOf Try.prog 119 = some (Value.agg #[Value.int IntKind.u64 0, Value.int IntKind.u64 0, Value.int IntKind.u64 0, Value.int IntKind.i64 0, Value.int IntKind.i64 0, Value.slice none 0 0]) := by kernel_rfl
theorem a119 : agOf Try.prog 119 = some true := by kernel_rfl
theorem o119_0 : fldOff Try.prog 119 0 = some 0 := by kernel_rfl
theorem o119_1 : fldOff Try.prog 119 1 = some 1 := by kernel_rfl
theorem o119_2 : fldOff Try.prog 119 2 = some 2 := by kernel_rfl
theorem o119_3 : fldOff Try.prog 119 3 = some 3 := by kernel_rfl
theorem o119_4 : fldOff Try.prog 119 4 = some 5 := by kernel_rfl
theorem s128 : szOf Try.prog 128 = some 4 := by kernel_rfl
theorem b128 : byOf Try.prog 128 = some 40 := by kernel_rfl
theorem z128 : zrOf Try.prog 128 = some (Value.agg #[Value.pointer none, Value.pointer none, Value.pointer none, Value.string { data := #[] }]) := by kernel_rfl
theorem a128 : agOf Try.prog 128 = some true := by kernel_rfl
theorem o128_0 : fldOff Try.prog 128 0 = some 0 := by kernel_rfl
theorem o128_1 : fldOff Try.prog 128 1 = some 1 := by kernel_rfl
theorem o128_2 : fldOff Try.prog 128 2 = some 2 := by kernel_rfl
theorem o128_3 : fldOff Try.prog 128 3 = some 3 := by kernel_rfl
theorem s129 : szOf Try.prog 129 = some 4 := by kernel_rfl
theorem b129 : byOf Try.prog 129 = some 40 := by kernel_rfl
theorem z129 : zrOf Try.prog 129 = some (Value.agg #[Value.pointer none, Value.pointer none, Value.pointer none, Value.string { data := #[] }]) := by kernel_rfl
theorem a129 : agOf Try.prog 129 = some true := by kernel_rfl
theorem o129_0 : fldOff Try.prog 129 0 = some 0 := by kernel_rfl
theorem o129_1 : fldOff Try.prog 129 1 = some 1 := by kernel_rfl
theorem o129_2 : fldOff Try.prog 129 2 = some 2 := by kernel_rfl
theorem o129_3 : fldOff Try.prog 129 3 = some 3 := by kernel_rfl
theorem s130 : szOf Try.prog 130 = some 0 := by kernel_rfl
theorem b130 : byOf Try.prog 130 = some 0 := by kernel_rfl
theorem z130 : zrOf Try.prog 130 = some (Value.agg #[]) := by kernel_rfl
theorem a130 : agOf Try.prog 130 = some true := by kernel_rfl
theorem s131 : szOf Try.prog 131 = some 0 := by kernel_rfl
theorem b131 : byOf Try.prog 131 = some 0 := by kernel_rfl
theorem z131 : zrOf Try.prog 131 = some (Value.agg #[]) := by kernel_rfl
theorem a131 : agOf Try.prog 131 = some true := by kernel_rfl
theorem s132 : szOf Try.prog 132 = some 0 := by kernel_rfl
theorem b132 : byOf Try.prog 132 = some 0 := by kernel_rfl
theorem z132 : zrOf Try.prog 132 = some (Value.agg #[]) := by kernel_rfl
theorem a132 : agOf Try.prog 132 = some true := by kernel_rfl
theorem s134 : szOf Try.prog 134 = some 1 := by kernel_rfl
theorem b134 : byOf Try.prog 134 = some 4 := by kernel_rfl
theorem z134 : zrOf Try.prog 134 = some (Value.int IntKind.u32 0) := by kernel_rfl
theorem a134 : agOf Try.prog 134 = some false := by kernel_rfl
theorem s135 : szOf Try.prog 135 = some 1 := by kernel_rfl
theorem b135 : byOf Try.prog 135 = some 1 := by kernel_rfl
theorem z135 : zrOf Try.prog 135 = some (Value.int IntKind.u8 0) := by kernel_rfl
theorem a135 : agOf Try.prog 135 = some false := by kernel_rfl
theorem s136 : szOf Try.prog 136 = some 1 := by kernel_rfl
theorem b136 : byOf Try.prog 136 = some 1 := by kernel_rfl
theorem z136 : zrOf Try.prog 136 = some (Value.int IntKind.u8 0) := by kernel_rfl
theorem a136 : agOf Try.prog 136 = some false := by kernel_rfl
theorem s138 : szOf Try.prog 138 = some 1 := by kernel_rfl
theorem b138 : byOf Try.prog 138 = some 4 := by kernel_rfl
theorem z138 : zrOf Try.prog 138 = some (Value.int IntKind.i32 0) := by kernel_rfl
theorem a138 : agOf Try.prog 138 = some false := by kernel_rfl
theorem s139 : szOf Try.prog 139 = some 1 := by kernel_rfl
theorem b139 : byOf Try.prog 139 = some 4 := by kernel_rfl
theorem z139 : zrOf Try.prog 139 = some (Value.int IntKind.i32 0) := by kernel_rfl
theorem a139 : agOf Try.prog 139 = some false := by kernel_rfl
theorem s140 : szOf Try.prog 140 = some 11 := by kernel_rfl
theorem b140 : byOf Try.prog 140 = some 48 := by kernel_rfl
theorem z140 : zrOf Try.prog 140 = some (Value.agg #[Value.int IntKind.u64 0, Value.int IntKind.u64 0, Value.int IntKind.u32 0, Value.int IntKind.u8 0, Value.int IntKind.u8 0, Value.int IntKind.u8 0, Value.int IntKind.u8 0, Value.nilFunc, Value.pointer none, Value.int IntKind.i32 0, Value.int IntKind.i32 0]) := by kernel_rfl
theorem a140 : agOf Try.prog 140 = some true := by kernel_rfl
theorem o140_0 : fldOff Try.prog 140 0 = some 0 := by kernel_rfl
theorem o140_1 : fldOff Try.prog 140 1 = some 1 := by kernel_rfl
theorem o140_2 : fldOff Try.prog 140 2 = some 2 := by kernel_rfl
theorem o140_3 : fldOff Try.prog 140 3 = some 3 := by kernel_rfl
theorem o140_4 : fldOff Try.prog 140 4 = some 4 := by kernel_rfl
theorem o140_5 : fldOff Try.prog 140 5 = some 5 := by kernel_rfl
theorem o140_6 : fldOff Try.prog 140 6 = some 6 := by kernel_rfl
theorem o140_7 : fldOff Try.prog 140 7 = some 7 := by kernel_rfl
theorem o140_8 : fldOff Try.prog 140 8 = some 8 := by kernel_rfl
theorem o140_9 : fldOff Try.prog 140 9 = some 9 := by kernel_rfl
theorem o140_10 : fldOff Try.prog 140 10 = some 10 := by kernel_rfl
theorem s141 : szOf Try.prog 141 = some 11 := by kernel_rfl
theorem b141 : byOf Try.prog 141 = some 48 := by kernel_rfl
theorem z141 : zrOf Try.prog 141 = some (Value.agg #[Value.int IntKind.u64 0, Value.int IntKind.u64 0, Value.int IntKind.u32 0, Value.int IntKind.u8 0, Value.int IntKind.u8 0, Value.int IntKind.u8 0, Value.int IntKind.u8 0, Value.nilFunc, Value.pointer none, Value.int IntKind.i32 0, Value.int IntKind.i32 0]) := by kernel_rfl
theorem a141 : agOf Try.prog 141 = some true := by kernel_rfl
theorem o141_0 : fldOff Try.prog 141 0 = some 0 := by kernel_rfl
theorem o141_1 : fldOff Try.prog 141 1 = some 1 := by kernel_rfl
theorem o141_2 : fldOff Try.prog 141 2 = some 2 := by kernel_rfl
theorem o141_3 : fldOff Try.prog 141 3 = some 3 := by kernel_rfl
theorem o141_4 : fldOff Try.prog 141 4 = some 4 := by kernel_rfl
theorem o141_5 : fldOff Try.prog 141 5 = some 5 := by kernel_rfl
theorem o141_6 : fldOff Try.prog 141 6 = some 6 := by kernel_rfl
theorem o141_7 : fldOff Try.prog 141 7 = some 7 := by kernel_rfl
theorem o141_8 : fldOff Try.prog 141 8 = some 8 := by kernel_rfl
theorem o141_9 : fldOff Try.prog 141 9 = some 9 := by kernel_rfl
theorem o141_10 : fldOff Try.prog 141 10 = some 10 := by kernel_rfl
theorem s143 : szOf Try.prog 143 = some 1 := by kernel_rfl
theorem b143 : byOf Try.prog 143 = some 8 := by kernel_rfl
theorem z143 : zrOf Try.prog 143 = some (Value.pointer none) := by kernel_rfl
theorem a143 : agOf Try.prog 143 = some false := by kernel_rfl
theorem s144 : szOf Try.prog 144 = some 1 := by kernel_rfl
theorem b144 : byOf Try.prog 144 = some 24 := by kernel_rfl
theorem z144 : zrOf Try.prog 144 = some (Value.slice none 0 0) := by kernel_rfl
theorem a144 : agOf Try.prog 144 = some false := by kernel_rfl
theorem ok2 : callOk Try.prog 2 = true := by kernel_rfl
theorem r2 : Try.f2.results.toList = [] := by kernel_rfl
theorem ok3 : callOk Try.prog 3 = true := by kernel_rfl
theorem r3 : Try.f3.results.toList = [.tmp 4] := by kernel_rfl
theorem ok4 : callOk Try.prog 4 = true := by kernel_rfl
theorem r4 : Try.f4.results.toList = [.tmp 2] := by kernel_rfl
theorem ok5 : callOk Try.prog 5 = true := by kernel_rfl
theorem r5 : Try.f5.results.toList = [.tmp 2] := by kernel_rfl
theorem ok6 : callOk Try.prog 6 = true := by kernel_rfl
theorem r6 : Try.f6.results.toList = [.tmp 6] := by kernel_rfl
theorem ok7 : callOk Try.prog 7 = true := by kernel_rfl
theorem r7 : Try.f7.results.toList = [.tmp 0] := by kernel_rfl
theorem ok8 : callOk Try.prog 8 = true := by kernel_rfl
theorem r8 : Try.f8.results.toList = [.tmp 2, .tmp 3] := by kernel_rfl
theorem ok9 : callOk Try.prog 9 = true := by kernel_rfl
theorem r9 : Try.f9.results.toList = [.tmp 0] := by kernel_rfl
theorem ok10 : callOk Try.prog 10 = true := by kernel_rfl
theorem r10 : Try.f10.results.toList = [.tmp 2, .tmp 3] := by kernel_rfl
theorem ok11 : callOk Try.prog 11 = true := by kernel_rfl
theorem r11 : Try.f11.results.toList = [.cell 4 34] := by kernel_rfl
theorem ok12 : callOk Try.prog 12 = true := by kernel_rfl
theorem r12 : Try.f12.results.toList = [.tmp 10, .tmp 11] := by kernel_rfl
theorem ok13 : callOk Try.prog 13 = true := by kernel_rfl
theorem r13 : Try.f13.results.toList = [.tmp 0] := by kernel_rfl
theorem ok14 : callOk Try.prog 14 = true := by kernel_rfl
theorem r14 : Try.f14.results.toList = [.cell 12 40, .tmp 13] := by kernel_rfl
theorem ok15 : callOk Try.prog 15 = true := by kernel_rfl
theorem r15 : Try.f15.results.toList = [.cell 8 44, .tmp 9] := by kernel_rfl
theorem ok16 : callOk Try.prog 16 = true := by kernel_rfl
theorem r16 : Try.f16.results.toList = [.tmp 4] := by kernel_rfl
theorem ok17 : callOk Try.prog 17 = true := by kernel_rfl
theorem r17 : Try.f17.results.toList = [.tmp 4] := by kernel_rfl
theorem ok18 : callOk Try.prog 18 = true := by kernel_rfl
theorem r18 : Try.f18.results.toList = [.tmp 8] := by kernel_rfl
theorem ok19 : callOk Try.prog 19 = true := by kernel_rfl
theorem r19 : Try.f19.results.toList = [.tmp 2] := by kernel_rfl
theorem ok20 : callOk Try.prog 20 = true := by kernel_rfl
theorem r20 : Try.f20.results.toList = [.tmp 8, .tmp 9] := by kernel_rfl
theorem ok21 : callOk Try.prog 21 = true := by kernel_rfl
theorem r21 : Try.f21.results.toList = [.tmp 8, .tmp 9] := by kernel_rfl
theorem ok22 : callOk Try.prog 22 = true := by kernel_rfl
theorem r22 : Try.f22.results.toList = [.tmp 6, .tmp 7] := by kernel_rfl
theorem ok23 : callOk Try.prog 23 = true := by kernel_rfl
theorem r23 : Try.f23.results.toList = [.tmp 4] := by kernel_rfl
theorem ok24 : callOk Try.prog 24 = true := by kernel_rfl
theorem r24 : Try.f24.results.toList = [.tmp 2] := by kernel_rfl
theorem ok25 : callOk Try.prog 25 = true := by kernel_rfl
theorem r25 : Try.f25.results.toList = [.tmp 2] := by kernel_rfl
theorem ok26 : callOk Try.prog 26 = true := by kernel_rfl
theorem r26 : Try.f26.results.toList = [.tmp 2] := by kernel_rfl
theorem ok27 : callOk Try.prog 27 = true := by kernel_rfl
theorem r27 : Try.f27.results.toList = [] := by kernel_rfl
theorem ok28 : callOk Try.prog 28 = true := by kernel_rfl
theorem r28 : Try.f28.results.toList = [.tmp 2] := by kernel_rfl
theorem ok29 : callOk Try.prog 29 = true := by kernel_rfl
theorem r29 : Try.f29.results.toList = [.tmp 2] := by kernel_rfl
theorem ok30 : callOk Try.prog 30 = true := by kernel_rfl
theorem r30 : Try.f30.results.toList = [.tmp 8] := by kernel_rfl
theorem ok31 : callOk Try.prog 31 = true := by kernel_rfl
theorem r31 : Try.f31.results.toList = [.cell 6 81] := by kernel_rfl
theorem ok32 : callOk Try.prog 32 = true := by kernel_rfl
theorem r32 : Try.f32.results.toList = [.tmp 2] := by kernel_rfl
theorem ok33 : callOk Try.prog 33 = true := by kernel_rfl
theorem r33 : Try.f33.results.toList = [.tmp 8] := by kernel_rfl
theorem ok34 : callOk Try.prog 34 = true := by kernel_rfl
theorem r34 : Try.f34.results.toList = [.tmp 4] := by kernel_rfl
theorem ok35 : callOk Try.prog 35 = true := by kernel_rfl
theorem r35 : Try.f35.results.toList = [.tmp 3] := by kernel_rfl
theorem ok36 : callOk Try.prog 36 = true := by kernel_rfl
theorem r36 : Try.f36.results.toList = [.cell 2 40] := by kernel_rfl
theorem ok37 : callOk Try.prog 37 = true := by kernel_rfl
theorem r37 : Try.f37.results.toList = [.cell 2 44] := by kernel_rfl
theorem ok38 : callOk Try.prog 38 = true := by kernel_rfl
theorem r38 : Try.f38.results.toList = [.tmp 6] := by kernel_rfl
theorem ok39 : callOk Try.prog 39 = true := by kernel_rfl
theorem r39 : Try.f39.results.toList = [.tmp 8] := by kernel_rfl
theorem ok40 : callOk Try.prog 40 = true := by kernel_rfl
theorem r40 : Try.f40.results.toList = [.tmp 6] := by kernel_rfl
theorem ok41 : callOk Try.prog 41 = true := by kernel_rfl
theorem r41 : Try.f41.results.toList = [.tmp 4] := by kernel_rfl
theorem ok42 : callOk Try.prog 42 = true := by kernel_rfl
theorem r42 : Try.f42.results.toList = [.tmp 5] := by kernel_rfl
theorem ok43 : callOk Try.prog 43 = true := by kernel_rfl
theorem r43 : Try.f43.results.toList = [.tmp 6] := by kernel_rfl
theorem ok44 : callOk Try.prog 44 = true := by kernel_rfl
theorem r44 : Try.f44.results.toList = [.tmp 4] := by kernel_rfl
theorem ok45 : callOk Try.prog 45 = true := by kernel_rfl
theorem r45 : Try.f45.results.toList = [.tmp 6] := by kernel_rfl
theorem ok46 : callOk Try.prog 46 = true := by kernel_rfl
theorem r46 : Try.f46.results.toList = [.tmp 4] := by kernel_rfl
theorem ok47 : callOk Try.prog 47 = true := by kernel_rfl
theorem r47 : Try.f47.results.toList = [.tmp 4] := by kernel_rfl
theorem ok48 : callOk Try.prog 48 = true := by kernel_rfl
theorem r48 : Try.f48.results.toList = [.tmp 6] := by kernel_rfl
theorem ok49 : callOk Try.prog 49 = true := by kernel_rfl
theorem r49 : Try.f49.results.toList = [.tmp 4] := by kernel_rfl
theorem ok50 : callOk Try.prog 50 = true := by kernel_rfl
theorem r50 : Try.f50.results.toList = [.tmp 6] := by kernel_rfl
theorem ok51 : callOk Try.prog 51 = true := by kernel_rfl
theorem r51 : Try.f51.results.toList = [.tmp 4] := by kernel_rfl
theorem ok52 : callOk Try.prog 52 = true := by kernel_rfl
theorem r52 : Try.f52.results.toList = [.tmp 6] := by kernel_rfl
theorem ok53 : callOk Try.prog 53 = true := by kernel_rfl
theorem r53 : Try.f53.results.toList = [.cell 2 119] := by kernel_rfl
theorem ok54 : callOk Try.prog 54 = true := by kernel_rfl
theorem r54 : Try.f54.results.toList = [.tmp 4] := by kernel_rfl
theorem ok55 : callOk Try.prog 55 = true := by kernel_rfl
theorem r55 : Try.f55.results.toList = [.tmp 6] := by kernel_rfl
theorem ok56 : callOk Try.prog 56 = true := by kernel_rfl
theorem r56 : Try.f56.results.toList = [.tmp 4] := by kernel_rfl
theorem ok57 : callOk Try.prog 57 = true := by kernel_rfl
theorem r57 : Try.f57.results.toList = [.tmp 4] := by kernel_rfl
theorem ok58 : callOk Try.prog 58 = true := by kernel_rfl
theorem r58 : Try.f58.results.toList = [.tmp 6] := by kernel_rfl
theorem ok59 : callOk Try.prog 59 = true := by kernel_rfl
theorem r59 : Try.f59.results.toList = [.tmp 6] := by kernel_rfl
attribute [go_sem] s2 z2 a2 s3 z3 a3 s4 z4 a4 s5 z5 a5 s9 z9 a9 s21 z21 a21 s23 z23 a23 s24 z24 a24 s27 z27 a27 s28 z28 a28 s32 z32 a32 s33 z33 a33 o33_0 o33_1 o33_2 o33_3 s34 z34 a34 o34_0 o34_1 o34_2 o34_3 s37 z37 a37 s39 z39 a39 o39_0 o39_1 o39_2 o39_3 o39_4 o39_5 s40 z40 a40 o40_0 o40_1 o40_2 o40_3 o40_4 o40_5 s43 z43 a43 o43_0 o43_1 o43_2 o43_3 o43_4 s44 z44 a44 o44_0 o44_1 o44_2 o44_3 o44_4 s48 z48 a48 s51 z51 a51 s52 z52 a52 s53 z53 a53 o53_0 o53_1 o53_2 o53_3 o53_4 o53_5 s54 z54 a54 o54_0 o54_1 o54_2 o54_3 o54_4 o54_5 s58 z58 a58 s59 z59 a59 s65 z65 a65 s67 z67 a67 s68 z68 a68 o68_0 o68_1 o68_2 s69 z69 a69 o69_0 o69_1 o69_2 s70 z70 a70 s71 z71 a71 s72 z72 a72 o72_0 o72_1 o72_2 s73 z73 a73 o73_0 o73_1 o73_2 s79 z79 a79 s80 z80 a80 o80_0 o80_1 o80_2 o80_3 s81 z81 a81 o81_0 o81_1 o81_2 o81_3 s84 z84 a84 s85 z85 a85 o85_0 o85_1 s86 z86 a86 o86_0 o86_1 s87 z87 a87 o87_0 o87_1 s88 z88 a88 o88_0 o88_1 s92 z92 a92 s93 z93 a93 o93_0 o93_1 o93_2 s94 z94 a94 o94_0 o94_1 o94_2 s99 z99 a99 s100 z100 a100 s108 z108 a108 s110 z110 a110 s116 z116 a116 o116_0 o116_1 s117 z117 a117 o117_0 o117_1 s118 z118 a118 o118_0 o118_1 o118_2 o118_3 o118_4 s119 z119 a119 o119_0 o119_1 o119_2 o119_3 o119_4 s134 z134 a134 s144 z144 a144 ok2 ok3 ok4 ok5 ok6 ok7 ok8 ok9 ok10 ok11 ok12 ok13 ok14 ok15 ok16 ok17 ok18 ok19 ok20 ok21 ok22 ok23 ok24 ok25 ok26 ok27 ok28 ok29 ok30 ok31 ok32 ok33 ok34 ok35 ok36 ok37 ok38 ok39 ok40 ok41 ok42 ok43 ok44 ok45 ok46 ok47 ok48 ok49 ok50 ok51 ok52 ok53 ok54 ok55 ok56 ok57 ok58 ok59 Try.underlying2 Try.underlying3 Try.underlying4 Try.underlying5 Try.underlying9 Try.underlying21 Try.underlying23 Try.underlying24 Try.underlying27 Try.underlying28 Try.underlying32 Try.underlying33 Try.underlying34 Try.underlying37 Try.underlying39 Try.underlying40 Try.underlying43 Try.underlying44 Try.underlying48 Try.underlying51 Try.underlying52 Try.underlying53 Try.underlying54 Try.underlying58 Try.underlying59 Try.underlying65 Try.underlying67 Try.underlying68 Try.underlying69 Try.underlying70 Try.underlying71 Try.underlying72 Try.underlying73 Try.underlying79 Try.underlying80 Try.underlying81 Try.underlying84 Try.underlying85 Try.underlying86 Try.underlying87 Try.underlying88 Try.underlying92 Try.underlying93 Try.underlying94 Try.underlying99 Try.underlying100 Try.underlying108 Try.underlying110 Try.underlying116 Try.underlying117 Try.underlying118 Try.underlying119 Try.underlying134 Try.underlying144
end Go.Proofs.Ytcpeiejabbdeiaa
