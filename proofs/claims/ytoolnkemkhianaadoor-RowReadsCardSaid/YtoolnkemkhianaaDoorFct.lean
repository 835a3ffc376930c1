/-
  Closed facts of the translation: sizes, zero values, offsets, functions that can be entered.
  No condition.
-/
import Derived.Test.YtoolnkemkhianaaDoorProg
import Derived.Test.YtoolnkemkhianaaDoorAwg
import Derived.KernelRfl
set_option linter.unusedSimpArgs false
set_option linter.unusedVariables false
namespace Go.Proofs.YtoolnkemkhianaaDoor
open Go Go.RowKit Go.Proofs.YtoolnkemkhianaaDoorW
theorem s2 : szOf Tryd.prog 2 = some 1 := by kernel_rfl
theorem b2 : byOf Tryd.prog 2 = some 8 := by kernel_rfl
theorem z2 : zrOf Tryd.prog 2 = some (Value.int IntKind.i64 0) := by kernel_rfl
theorem a2 : agOf Tryd.prog 2 = some false := by kernel_rfl
theorem s3 : szOf Tryd.prog 3 = some 1 := by kernel_rfl
theorem b3 : byOf Tryd.prog 3 = some 8 := by kernel_rfl
theorem z3 : zrOf Tryd.prog 3 = some (Value.int IntKind.i64 0) := by kernel_rfl
theorem a3 : agOf Tryd.prog 3 = some false := by kernel_rfl
theorem s4 : szOf Tryd.prog 4 = some 1 := by kernel_rfl
theorem b4 : byOf Tryd.prog 4 = some 1 := by kernel_rfl
theorem z4 : zrOf Tryd.prog 4 = some (Value.bool false) := by kernel_rfl
theorem a4 : agOf Tryd.prog 4 = some false := by kernel_rfl
theorem s5 : szOf Tryd.prog 5 = some 1 := by kernel_rfl
theorem b5 : byOf Tryd.prog 5 = some 1 := by kernel_rfl
theorem z5 : zrOf Tryd.prog 5 = some (Value.int IntKind.u8 0) := by kernel_rfl
theorem a5 : agOf Tryd.prog 5 = some false := by kernel_rfl
theorem s6 : szOf Tryd.prog 6 = some 1 := by kernel_rfl
theorem b6 : byOf Tryd.prog 6 = some 1 := by kernel_rfl
theorem z6 : zrOf Tryd.prog 6 = some (Value.int IntKind.u8 0) := by kernel_rfl
theorem a6 : agOf Tryd.prog 6 = some false := by kernel_rfl
theorem s7 : szOf Tryd.prog 7 = some 4 := by kernel_rfl
theorem b7 : byOf Tryd.prog 7 = some 24 := by kernel_rfl
theorem z7 : zrOf Tryd.prog 7 = some (Value.agg #[Value.int IntKind.i64 0, Value.int IntKind.i64 0, Value.bool false, Value.int IntKind.u8 0]) := by kernel_rfl
theorem a7 : agOf Tryd.prog 7 = some true := by kernel_rfl
theorem o7_0 : fldOff Tryd.prog 7 0 = some 0 := by kernel_rfl
theorem o7_1 : fldOff Tryd.prog 7 1 = some 1 := by kernel_rfl
theorem o7_2 : fldOff Tryd.prog 7 2 = some 2 := by kernel_rfl
theorem o7_3 : fldOff Tryd.prog 7 3 = some 3 := by kernel_rfl
theorem s8 : szOf Tryd.prog 8 = some 4 := by kernel_rfl
theorem b8 : byOf Tryd.prog 8 = some 24 := by kernel_rfl
theorem z8 : zrOf Tryd.prog 8 = some (Value.agg #[Value.int IntKind.i64 0, Value.int IntKind.i64 0, Value.bool false, Value.int IntKind.u8 0]) := by kernel_rfl
theorem a8 : agOf Tryd.prog 8 = some true := by kernel_rfl
theorem o8_0 : fldOff Tryd.prog 8 0 = some 0 := by kernel_rfl
theorem o8_1 : fldOff Tryd.prog 8 1 = some 1 := by kernel_rfl
theorem o8_2 : fldOff Tryd.prog 8 2 = some 2 := by kernel_rfl
theorem o8_3 : fldOff Tryd.prog 8 3 = some 3 := by kernel_rfl
theorem s9 : szOf Tryd.prog 9 = some 1 := by kernel_rfl
theorem b9 : byOf Tryd.prog 9 = some 16 := by kernel_rfl
theorem z9 : zrOf Tryd.prog 9 = some (Value.string { data := #[] }) := by kernel_rfl
theorem a9 : agOf Tryd.prog 9 = some false := by kernel_rfl
theorem s10 : szOf Tryd.prog 10 = some 1 := by kernel_rfl
theorem b10 : byOf Tryd.prog 10 = some 16 := by kernel_rfl
theorem z10 : zrOf Tryd.prog 10 = some (Value.string { data := #[] }) := by kernel_rfl
theorem a10 : agOf Tryd.prog 10 = some false := by kernel_rfl
theorem s11 : szOf Tryd.prog 11 = some 1 := by kernel_rfl
theorem b11 : byOf Tryd.prog 11 = some 16 := by kernel_rfl
theorem z11 : zrOf Tryd.prog 11 = some (Value.string { data := #[] }) := by kernel_rfl
theorem a11 : agOf Tryd.prog 11 = some false := by kernel_rfl
theorem s12 : szOf Tryd.prog 12 = some 1 := by kernel_rfl
theorem b12 : byOf Tryd.prog 12 = some 8 := by kernel_rfl
theorem z12 : zrOf Tryd.prog 12 = some (Value.int IntKind.u64 0) := by kernel_rfl
theorem a12 : agOf Tryd.prog 12 = some false := by kernel_rfl
theorem s13 : szOf Tryd.prog 13 = some 2 := by kernel_rfl
theorem b13 : byOf Tryd.prog 13 = some 24 := by kernel_rfl
theorem z13 : zrOf Tryd.prog 13 = some (Value.agg #[Value.string { data := #[] }, Value.int IntKind.u64 0]) := by kernel_rfl
theorem a13 : agOf Tryd.prog 13 = some true := by kernel_rfl
theorem o13_0 : fldOff Tryd.prog 13 0 = some 0 := by kernel_rfl
theorem o13_1 : fldOff Tryd.prog 13 1 = some 1 := by kernel_rfl
theorem s14 : szOf Tryd.prog 14 = some 2 := by kernel_rfl
theorem b14 : byOf Tryd.prog 14 = some 24 := by kernel_rfl
theorem z14 : zrOf Tryd.prog 14 = some (Value.agg #[Value.string { data := #[] }, Value.int IntKind.u64 0]) := by kernel_rfl
theorem a14 : agOf Tryd.prog 14 = some true := by kernel_rfl
theorem o14_0 : fldOff Tryd.prog 14 0 = some 0 := by kernel_rfl
theorem o14_1 : fldOff Tryd.prog 14 1 = some 1 := by kernel_rfl
theorem s15 : szOf Tryd.prog 15 = some 1 := by kernel_rfl
theorem b15 : byOf Tryd.prog 15 = some 8 := by kernel_rfl
theorem z15 : zrOf Tryd.prog 15 = some (Value.pointer none) := by kernel_rfl
theorem a15 : agOf Tryd.prog 15 = some false := by kernel_rfl
theorem s16 : szOf Tryd.prog 16 = some 1 := by kernel_rfl
theorem b16 : byOf Tryd.prog 16 = some 8 := by kernel_rfl
theorem z16 : zrOf Tryd.prog 16 = some (Value.pointer none) := by kernel_rfl
theorem a16 : agOf Tryd.prog 16 = some false := by kernel_rfl
theorem s17 : szOf Tryd.prog 17 = some 1 := by kernel_rfl
theorem b17 : byOf Tryd.prog 17 = some 8 := by kernel_rfl
theorem z17 : zrOf Tryd.prog 17 = some (Value.pointer none) := by kernel_rfl
theorem a17 : agOf Tryd.prog 17 = some false := by kernel_rfl
theorem s18 : szOf Tryd.prog 18 = some 1 := by kernel_rfl
theorem b18 : byOf Tryd.prog 18 = some 8 := by kernel_rfl
theorem z18 : zrOf Tryd.prog 18 = some (Value.agg #[Value.pointer none]) := by kernel_rfl
theorem a18 : agOf Tryd.prog 18 = some true := by kernel_rfl
theorem o18_0 : fldOff Tryd.prog 18 0 = some 0 := by kernel_rfl
theorem s19 : szOf Tryd.prog 19 = some 1 := by kernel_rfl
theorem b19 : byOf Tryd.prog 19 = some 8 := by kernel_rfl
theorem z19 : zrOf Tryd.prog 19 = some (Value.agg #[Value.pointer none]) := by kernel_rfl
theorem a19 : agOf Tryd.prog 19 = some true := by kernel_rfl
theorem o19_0 : fldOff Tryd.prog 19 0 = some 0 := by kernel_rfl
theorem s21 : szOf Tryd.prog 21 = some 1 := by kernel_rfl
theorem b21 : byOf Tryd.prog 21 = some 4 := by kernel_rfl
theorem z21 : zrOf Tryd.prog 21 = some (Value.int IntKind.i32 0) := by kernel_rfl
theorem a21 : agOf Tryd.prog 21 = some false := by kernel_rfl
theorem s22 : szOf Tryd.prog 22 = some 1 := by kernel_rfl
theorem b22 : byOf Tryd.prog 22 = some 24 := by kernel_rfl
theorem z22 : zrOf Tryd.prog 22 = some (Value.slice none 0 0) := by kernel_rfl
theorem a22 : agOf Tryd.prog 22 = some false := by kernel_rfl
theorem s28 : szOf Tryd.prog 28 = some 1 := by kernel_rfl
theorem b28 : byOf Tryd.prog 28 = some 24 := by kernel_rfl
theorem z28 : zrOf Tryd.prog 28 = some (Value.slice none 0 0) := by kernel_rfl
theorem a28 : agOf Tryd.prog 28 = some false := by kernel_rfl
theorem s29 : szOf Tryd.prog 29 = some 1 := by kernel_rfl
theorem b29 : byOf Tryd.prog 29 = some 8 := by kernel_rfl
theorem z29 : zrOf Tryd.prog 29 = some (Value.int IntKind.i64 0) := by kernel_rfl
theorem a29 : agOf Tryd.prog 29 = some false := by kernel_rfl
theorem s34 : szOf Tryd.prog 34 = some 1 := by kernel_rfl
theorem b34 : byOf Tryd.prog 34 = some 1 := by kernel_rfl
theorem z34 : zrOf Tryd.prog 34 = some (Value.int IntKind.u8 0) := by kernel_rfl
theorem a34 : agOf Tryd.prog 34 = some false := by kernel_rfl
theorem s35 : szOf Tryd.prog 35 = some 4 := by kernel_rfl
theorem b35 : byOf Tryd.prog 35 = some 40 := by kernel_rfl
theorem z35 : zrOf Tryd.prog 35 = some (Value.agg #[Value.int IntKind.u8 0, Value.int IntKind.i64 0, Value.string { data := #[] }, Value.bool false]) := by kernel_rfl
theorem a35 : agOf Tryd.prog 35 = some true := by kernel_rfl
theorem o35_0 : fldOff Tryd.prog 35 0 = some 0 := by kernel_rfl
theorem o35_1 : fldOff Tryd.prog 35 1 = some 1 := by kernel_rfl
theorem o35_2 : fldOff Tryd.prog 35 2 = some 2 := by kernel_rfl
theorem o35_3 : fldOff Tryd.prog 35 3 = some 3 := by kernel_rfl
theorem s36 : szOf Tryd.prog 36 = some 4 := by kernel_rfl
theorem b36 : byOf Tryd.prog 36 = some 40 := by kernel_rfl
theorem z36 : zrOf Tryd.prog 36 = some (Value.agg #[Value.int IntKind.u8 0, Value.int IntKind.i64 0, Value.string { data := #[] }, Value.bool false]) := by kernel_rfl
theorem a36 : agOf Tryd.prog 36 = some true := by kernel_rfl
theorem o36_0 : fldOff Tryd.prog 36 0 = some 0 := by kernel_rfl
theorem o36_1 : fldOff Tryd.prog 36 1 = some 1 := by kernel_rfl
theorem o36_2 : fldOff Tryd.prog 36 2 = some 2 := by kernel_rfl
theorem o36_3 : fldOff Tryd.prog 36 3 = some 3 := by kernel_rfl
theorem s37 : szOf Tryd.prog 37 = some 1 := by kernel_rfl
theorem b37 : byOf Tryd.prog 37 = some 24 := by kernel_rfl
theorem z37 : zrOf Tryd.prog 37 = some (Value.slice none 0 0) := by kernel_rfl
theorem a37 : agOf Tryd.prog 37 = some false := by kernel_rfl
theorem s49 : szOf Tryd.prog 49 = some 1 := by kernel_rfl
theorem b49 : byOf Tryd.prog 49 = some 24 := by kernel_rfl
theorem z49 : zrOf Tryd.prog 49 = some (Value.slice none 0 0) := by kernel_rfl
theorem a49 : agOf Tryd.prog 49 = some false := by kernel_rfl
theorem s59 : szOf Tryd.prog 59 = some 1 := by kernel_rfl
theorem b59 : byOf Tryd.prog 59 = some 8 := by kernel_rfl
theorem z59 : zrOf Tryd.prog 59 = some (Value.int IntKind.u64 0) := by kernel_rfl
theorem a59 : agOf Tryd.prog 59 = some false := by kernel_rfl
theorem s69 : szOf Tryd.prog 69 = some 1 := by kernel_rfl
theorem b69 : byOf Tryd.prog 69 = some 8 := by kernel_rfl
theorem z69 : zrOf Tryd.prog 69 = some (Value.int IntKind.u64 0) := by kernel_rfl
theorem a69 : agOf Tryd.prog 69 = some false := by kernel_rfl
theorem s74 : szOf Tryd.prog 74 = some 256 := by kernel_rfl
theorem b74 : byOf Tryd.prog 74 = some 256 := by kernel_rfl
theorem z74 : zrOf Tryd.prog 74 = some (Value.agg (([Value.int IntKind.u8 0, Value.int IntKind.u8 0, Value.int IntKind.u8 0, Value.int IntKind.u8 0, Value.int IntKind.u8 0, Value.int IntKind.u8 0, Value.int IntKind.u8 0, Value.int IntKind.u8 0, Value.int IntKind.u8 0, Value.int IntKind.u8 0, Value.int IntKind.u8 0, Value.int IntKind.u8 0, Value.int IntKind.u8 0, Value.int IntKind.u8 0, Value.int IntKind.u8 0, Value.int IntKind.u8 0, Value.int IntKind.u8 0, Value.int IntKind.u8 0, Value.int IntKind.u8 0, Value.int IntKind.u8 0, Value.int IntKind.u8 0, Value.int IntKind.u8 0, Value.int IntKind.u8 0, Value.int IntKind.u8 0, Value.int IntKind.u8 0, Value.int IntKind.u8 0, Value.int IntKind.u8 0, Value.int IntKind.u8 0, Value.int IntKind.u8 0, Value.int IntKind.u8 0, Value.int IntKind.u8 0, Value.int IntKind.u8 0, Value.int IntKind.u8 0, Value.int IntKind.u8 0, Value.int IntKind.u8 0, Value.int IntKind.u8 0, Value.int IntKind.u8 0, Value.int IntKind.u8 0, Value.int IntKind.u8 0, Value.int IntKind.u8 0, Value.int IntKind.u8 0, Value.int IntKind.u8 0, Value.int IntKind.u8 0, Value.int IntKind.u8 0, Value.int IntKind.u8 0, Value.int IntKind.u8 0, Value.int IntKind.u8 0, Value.int IntKind.u8 0, Value.int IntKind.u8 0, Value.int IntKind.u8 0, Value.int IntKind.u8 0, Value.int IntKind.u8 0, Value.int IntKind.u8 0, Value.int IntKind.u8 0, Value.int IntKind.u8 0, Value.int IntKind.u8 0, Value.int IntKind.u8 0, Value.int IntKind.u8 0, Value.int IntKind.u8 0, Value.int IntKind.u8 0, Value.int IntKind.u8 0, Value.int IntKind.u8 0, Value.int IntKind.u8 0, Value.int IntKind.u8 0].append [Value.int IntKind.u8 0, Value.int IntKind.u8 0, Value.int IntKind.u8 0, Value.int IntKind.u8 0, Value.int IntKind.u8 0, Value.int IntKind.u8 0, Value.int IntKind.u8 0, Value.int IntKind.u8 0, Value.int IntKind.u8 0, Value.int IntKind.u8 0, Value.int IntKind.u8 0, Value.int IntKind.u8 0, Value.int IntKind.u8 0, Value.int IntKind.u8 0, Value.int IntKind.u8 0, Value.int IntKind.u8 0, Value.int IntKind.u8 0, Value.int IntKind.u8 0, Value.int IntKind.u8 0, Value.int IntKind.u8 0, Value.int IntKind.u8 0, Value.int IntKind.u8 0, Value.int IntKind.u8 0, Value.int IntKind.u8 0, Value.int IntKind.u8 0, Value.int IntKind.u8 0, Value.int IntKind.u8 0, Value.int IntKind.u8 0, Value.int IntKind.u8 0, Value.int IntKind.u8 0, Value.int IntKind.u8 0, Value.int IntKind.u8 0, Value.int IntKind.u8 0, Value.int IntKind.u8 0, Value.int IntKind.u8 0, Value.int IntKind.u8 0, Value.int IntKind.u8 0, Value.int IntKind.u8 0, Value.int IntKind.u8 0, Value.int IntKind.u8 0, Value.int IntKind.u8 0, Value.int IntKind.u8 0, Value.int IntKind.u8 0, Value.int IntKind.u8 0, Value.int IntKind.u8 0, Value.int IntKind.u8 0, Value.int IntKind.u8 0, Value.int IntKind.u8 0, Value.int IntKind.u8 0, Value.int IntKind.u8 0, Value.int IntKind.u8 0, Value.int IntKind.u8 0, Value.int IntKind.u8 0, Value.int IntKind.u8 0, Value.int IntKind.u8 0, Value.int IntKind.u8 0, Value.int IntKind.u8 0, Value.int IntKind.u8 0, Value.int IntKind.u8 0, Value.int IntKind.u8 0, Value.int IntKind.u8 0, Value.int IntKind.u8 0, Value.int IntKind.u8 0, Value.int IntKind.u8 0]).append ([Value.int IntKind.u8 0, Value.int IntKind.u8 0, Value.int IntKind.u8 0, Value.int IntKind.u8 0, Value.int IntKind.u8 0, Value.int IntKind.u8 0, Value.int IntKind.u8 0, Value.int IntKind.u8 0, Value.int IntKind.u8 0, Value.int IntKind.u8 0, Value.int IntKind.u8 0, Value.int IntKind.u8 0, Value.int IntKind.u8 0, Value.int IntKind.u8 0, Value.int IntKind.u8 0, Value.int IntKind.u8 0, Value.int IntKind.u8 0, Value.int IntKind.u8 0, Value.int IntKind.u8 0, Value.int IntKind.u8 0, Value.int IntKind.u8 0, Value.int IntKind.u8 0, Value.int IntKind.u8 0, Value.int IntKind.u8 0, Value.int IntKind.u8 0, Value.int IntKind.u8 0, Value.int IntKind.u8 0, Value.int IntKind.u8 0, Value.int IntKind.u8 0, Value.int IntKind.u8 0, Value.int IntKind.u8 0, Value.int IntKind.u8 0, Value.int IntKind.u8 0, Value.int IntKind.u8 0, Value.int IntKind.u8 0, Value.int IntKind.u8 0, Value.int IntKind.u8 0, Value.int IntKind.u8 0, Value.int IntKind.u8 0, Value.int IntKind.u8 0, Value.int IntKind.u8 0, Value.int IntKind.u8 0, Value.int IntKind.u8 0, Value.int IntKind.u8 0, Value.int IntKind.u8 0, Value.int IntKind.u8 0, Value.int IntKind.u8 0, Value.int IntKind.u8 0, Value.int IntKind.u8 0, Value.int IntKind.u8 0, Value.int IntKind.u8 0, Value.int IntKind.u8 0, Value.int IntKind.u8 0, Value.int IntKind.u8 0, Value.int IntKind.u8 0, Value.int IntKind.u8 0, Value.int IntKind.u8 0, Value.int IntKind.u8 0, Value.int IntKind.u8 0, Value.int IntKind.u8 0, Value.int IntKind.u8 0, Value.int IntKind.u8 0, Value.int IntKind.u8 0, Value.int IntKind.u8 0].append [Value.int IntKind.u8 0, Value.int IntKind.u8 0, Value.int IntKind.u8 0, Value.int IntKind.u8 0, Value.int IntKind.u8 0, Value.int IntKind.u8 0, Value.int IntKind.u8 0, Value.int IntKind.u8 0, Value.int IntKind.u8 0, Value.int IntKind.u8 0, Value.int IntKind.u8 0, Value.int IntKind.u8 0, Value.int IntKind.u8 0, Value.int IntKind.u8 0, Value.int IntKind.u8 0, Value.int IntKind.u8 0, Value.int IntKind.u8 0, Value.int IntKind.u8 0, Value.int IntKind.u8 0, Value.int IntKind.u8 0, Value.int IntKind.u8 0, Value.int IntKind.u8 0, Value.int IntKind.u8 0, Value.int IntKind.u8 0, Value.int IntKind.u8 0, Value.int IntKind.u8 0, Value.int IntKind.u8 0, Value.int IntKind.u8 0, Value.int IntKind.u8 0, Value.int IntKind.u8 0, Value.int IntKind.u8 0, Value.int IntKind.u8 0, Value.int IntKind.u8 0, Value.int IntKind.u8 0, Value.int IntKind.u8 0, Value.int IntKind.u8 0, Value.int IntKind.u8 0, Value.int IntKind.u8 0, Value.int IntKind.u8 0, Value.int IntKind.u8 0, Value.int IntKind.u8 0, Value.int IntKind.u8 0, Value.int IntKind.u8 0, Value.int IntKind.u8 0, Value.int IntKind.u8 0, Value.int IntKind.u8 0, Value.int IntKind.u8 0, Value.int IntKind.u8 0, Value.int IntKind.u8 0, Value.int IntKind.u8 0, Value.int IntKind.u8 0, Value.int IntKind.u8 0, Value.int IntKind.u8 0, Value.int IntKind.u8 0, Value.int IntKind.u8 0, Value.int IntKind.u8 0, Value.int IntKind.u8 0, Value.int IntKind.u8 0, Value.int IntKind.u8 0, Value.int IntKind.u8 0, Value.int IntKind.u8 0, Value.int IntKind.u8 0, Value.int IntKind.u8 0, Value.int IntKind.u8 0])).toArray) := by kernel_rfl
theorem a74 : agOf Tryd.prog 74 = some true := by kernel_rfl
theorem s75 : szOf Tryd.prog 75 = some 2 := by kernel_rfl
theorem b75 : byOf Tryd.prog 75 = some 2 := by kernel_rfl
theorem z75 : zrOf Tryd.prog 75 = some (Value.agg #[Value.int IntKind.u8 0, Value.int IntKind.u8 0]) := by kernel_rfl
theorem a75 : agOf Tryd.prog 75 = some true := by kernel_rfl
theorem o75_0 : fldOff Tryd.prog 75 0 = some 0 := by kernel_rfl
theorem o75_1 : fldOff Tryd.prog 75 1 = some 1 := by kernel_rfl
theorem s76 : szOf Tryd.prog 76 = some 2 := by kernel_rfl
theorem b76 : byOf Tryd.prog 76 = some 2 := by kernel_rfl
theorem z76 : zrOf Tryd.prog 76 = some (Value.agg #[Value.int IntKind.u8 0, Value.int IntKind.u8 0]) := by kernel_rfl
theorem a76 : agOf Tryd.prog 76 = some true := by kernel_rfl
theorem o76_0 : fldOff Tryd.prog 76 0 = some 0 := by kernel_rfl
theorem o76_1 : fldOff Tryd.prog 76 1 = some 1 := by kernel_rfl
theorem s77 : szOf Tryd.prog 77 = some 32 := by kernel_rfl
theorem b77 : byOf Tryd.prog 77 = some 32 := by kernel_rfl
theorem z77 : zrOf Tryd.prog 77 = some (Value.agg #[Value.int IntKind.u8 0, Value.int IntKind.u8 0, Value.int IntKind.u8 0, Value.int IntKind.u8 0, Value.int IntKind.u8 0, Value.int IntKind.u8 0, Value.int IntKind.u8 0, Value.int IntKind.u8 0, Value.int IntKind.u8 0, Value.int IntKind.u8 0, Value.int IntKind.u8 0, Value.int IntKind.u8 0, Value.int IntKind.u8 0, Value.int IntKind.u8 0, Value.int IntKind.u8 0, Value.int IntKind.u8 0, Value.int IntKind.u8 0, Value.int IntKind.u8 0, Value.int IntKind.u8 0, Value.int IntKind.u8 0, Value.int IntKind.u8 0, Value.int IntKind.u8 0, Value.int IntKind.u8 0, Value.int IntKind.u8 0, Value.int IntKind.u8 0, Value.int IntKind.u8 0, Value.int IntKind.u8 0, Value.int IntKind.u8 0, Value.int IntKind.u8 0, Value.int IntKind.u8 0, Value.int IntKind.u8 0, Value.int IntKind.u8 0]) := by kernel_rfl
theorem a77 : agOf Tryd.prog 77 = some true := by kernel_rfl
theorem s80 : szOf Tryd.prog 80 = some 4 := by kernel_rfl
theorem b80 : byOf Tryd.prog 80 = some 40 := by kernel_rfl
theorem z80 : zrOf Tryd.prog 80 = some (Value.agg #[Value.pointer none, Value.pointer none, Value.pointer none, Value.string { data := #[] }]) := by kernel_rfl
theorem a80 : agOf Tryd.prog 80 = some true := by kernel_rfl
theorem o80_0 : fldOff Tryd.prog 80 0 = some 0 := by kernel_rfl
theorem o80_1 : fldOff Tryd.prog 80 1 = some 1 := by kernel_rfl
theorem o80_2 : fldOff Tryd.prog 80 2 = some 2 := by kernel_rfl
theorem o80_3 : fldOff Tryd.prog 80 3 = some 3 := by kernel_rfl
theorem s81 : szOf Tryd.prog 81 = some 4 := by kernel_rfl
theorem b81 : byOf Tryd.prog 81 = some 40 := by kernel_rfl
theorem z81 : zrOf Tryd.prog 81 = some (Value.agg #[Value.pointer none, Value.pointer none, Value.pointer none, Value.string { data := #[] }]) := by kernel_rfl
theorem a81 : agOf Tryd.prog 81 = some true := by kernel_rfl
theorem o81_0 : fldOff Tryd.prog 81 0 = some 0 := by kernel_rfl
theorem o81_1 : fldOff Tryd.prog 81 1 = some 1 := by kernel_rfl
theorem o81_2 : fldOff Tryd.prog 81 2 = some 2 := by kernel_rfl
theorem o81_3 : fldOff Tryd.prog 81 3 = some 3 := by kernel_rfl
theorem s82 : szOf Tryd.prog 82 = some 0 := by kernel_rfl
theorem b82 : byOf Tryd.prog 82 = some 0 := by kernel_rfl
theorem z82 : zrOf Tryd.prog 82 = some (Value.agg #[]) := by kernel_rfl
theorem a82 : agOf Tryd.prog 82 = some true := by kernel_rfl
theorem s83 : szOf Tryd.prog 83 = some 0 := by kernel_rfl
theorem b83 : byOf Tryd.prog 83 = some 0 := by kernel_rfl
theorem z83 : zrOf Tryd.prog 83 = some (Value.agg #[]) := by kernel_rfl
theorem a83 : agOf Tryd.prog 83 = some true := by kernel_rfl
theorem s84 : szOf Tryd.prog 84 = some 0 := by kernel_rfl
theorem b84 : byOf Tryd.prog 84 = some 0 := by kernel_rfl
theorem z84 : zrOf Tryd.prog 84 = some (Value.agg #[]) := by kernel_rfl
theorem a84 : agOf Tryd.prog 84 = some true := by kernel_rfl
theorem s86 : szOf Tryd.prog 86 = some 1 := by kernel_rfl
theorem b86 : byOf Tryd.prog 86 = some 4 := by kernel_rfl
theorem z86 : zrOf Tryd.prog 86 = some (Value.int IntKind.u32 0) := by kernel_rfl
theorem a86 : agOf Tryd.prog 86 = some false := by kernel_rfl
theorem s87 : szOf Tryd.prog 87 = some 1 := by kernel_rfl
theorem b87 : byOf Tryd.prog 87 = some 1 := by kernel_rfl
theorem z87 : zrOf Tryd.prog 87 = some (Value.int IntKind.u8 0) := by kernel_rfl
theorem a87 : agOf Tryd.prog 87 = some false := by kernel_rfl
theorem s88 : szOf Tryd.prog 88 = some 1 := by kernel_rfl
theorem b88 : byOf Tryd.prog 88 = some 1 := by kernel_rfl
theorem z88 : zrOf Tryd.prog 88 = some (Value.int IntKind.u8 0) := by kernel_rfl
theorem a88 : agOf Tryd.prog 88 = some false := by kernel_rfl
theorem s90 : szOf Tryd.prog 90 = some 1 := by kernel_rfl
theorem b90 : byOf Tryd.prog 90 = some 8 := by kernel_rfl
theorem z90 : zrOf Tryd.prog 90 = some (Value.pointer none) := by kernel_rfl
theorem a90 : agOf Tryd.prog 90 = some false := by kernel_rfl
theorem s91 : szOf Tryd.prog 91 = some 1 := by kernel_rfl
theorem b91 : byOf Tryd.prog 91 = some 4 := by kernel_rfl
theorem z91 : zrOf Tryd.prog 91 = some (Value.int IntKind.i32 0) := by kernel_rfl
theorem a91 : agOf Tryd.prog 91 = some false := by kernel_rfl
theorem s92 : szOf Tryd.prog 92 = some 1 := by kernel_rfl
theorem b92 : byOf Tryd.prog 92 = some 4 := by kernel_rfl
theorem z92 : zrOf Tryd.prog 92 = some (Value.int IntKind.i32 0) := by kernel_rfl
theorem a92 : agOf Tryd.prog 92 = some false := by kernel_rfl
theorem s93 : szOf Tryd.prog 93 = some 11 := by kernel_rfl
theorem b93 : byOf Tryd.prog 93 = some 48 := by kernel_rfl
theorem z93 : zrOf Tryd.prog 93 = some (Value.agg #[Value.int IntKind.u64 0, Value.int IntKind.u64 0, Value.int IntKind.u32 0, Value.int IntKind.u8 0, Value.int IntKind.u8 0, Value.int IntKind.u8 0, Value.int IntKind.u8 0, Value.nilFunc, Value.pointer none, Value.int IntKind.i32 0, Value.int IntKind.i32 0]) := by kernel_rfl
theorem a93 : agOf Tryd.prog 93 = some true := by kernel_rfl
theorem o93_0 : fldOff Tryd.prog 93 0 = some 0 := by kernel_rfl
theorem o93_1 : fldOff Tryd.prog 93 1 = some 1 := by kernel_rfl
theorem o93_2 : fldOff Tryd.prog 93 2 = some 2 := by kernel_rfl
theorem o93_3 : fldOff Tryd.prog 93 3 = some 3 := by kernel_rfl
theorem o93_4 : fldOff Tryd.prog 93 4 = some 4 := by kernel_rfl
theorem o93_5 : fldOff Tryd.prog 93 5 = some 5 := by kernel_rfl
theorem o93_6 : fldOff Tryd.prog 93 6 = some 6 := by kernel_rfl
theorem o93_7 : fldOff Tryd.prog 93 7 = some 7 := by kernel_rfl
theorem o93_8 : fldOff Tryd.prog 93 8 = some 8 := by kernel_rfl
theorem o93_9 : fldOff Tryd.prog 93 9 = some 9 := by kernel_rfl
theorem o93_10 : fldOff Tryd.prog 93 10 = some 10 := by kernel_rfl
theorem s94 : szOf Tryd.prog 94 = some 11 := by kernel_rfl
theorem b94 : byOf Tryd.prog 94 = some 48 := by kernel_rfl
theorem z94 : zrOf Tryd.prog 94 = some (Value.agg #[Value.int IntKind.u64 0, Value.int IntKind.u64 0, Value.int IntKind.u32 0, Value.int IntKind.u8 0, Value.int IntKind.u8 0, Value.int IntKind.u8 0, Value.int IntKind.u8 0, Value.nilFunc, Value.pointer none, Value.int IntKind.i32 0, Value.int IntKind.i32 0]) := by kernel_rfl
theorem a94 : agOf Tryd.prog 94 = some true := by kernel_rfl
theorem o94_0 : fldOff Tryd.prog 94 0 = some 0 := by kernel_rfl
theorem o94_1 : fldOff Tryd.prog 94 1 = some 1 := by kernel_rfl
theorem o94_2 : fldOff Tryd.prog 94 2 = some 2 := by kernel_rfl
theorem o94_3 : fldOff Tryd.prog 94 3 = some 3 := by kernel_rfl
theorem o94_4 : fldOff Tryd.prog 94 4 = some 4 := by kernel_rfl
theorem o94_5 : fldOff Tryd.prog 94 5 = some 5 := by kernel_rfl
theorem o94_6 : fldOff Tryd.prog 94 6 = some 6 := by kernel_rfl
theorem o94_7 : fldOff Tryd.prog 94 7 = some 7 := by kernel_rfl
theorem o94_8 : fldOff Tryd.prog 94 8 = some 8 := by kernel_rfl
theorem o94_9 : fldOff Tryd.prog 94 9 = some 9 := by kernel_rfl
theorem o94_10 : fldOff Tryd.prog 94 10 = some 10 := by kernel_rfl
theorem s95 : szOf Tryd.prog 95 = some 1 := by kernel_rfl
theorem b95 : byOf Tryd.prog 95 = some 8 := by kernel_rfl
theorem z95 : zrOf Tryd.prog 95 = some (Value.pointer none) := by kernel_rfl
theorem a95 : agOf Tryd.prog 95 = some false := by kernel_rfl
theorem ok2 : callOk Tryd.prog 2 = true := by kernel_rfl
theorem r2 : Tryd.f2.results.toList = [] := by kernel_rfl
theorem ok3 : callOk Tryd.prog 3 = true := by kernel_rfl
theorem r3 : Tryd.f3.results.toList = [.tmp 6] := by kernel_rfl
theorem ok4 : callOk Tryd.prog 4 = true := by kernel_rfl
theorem r4 : Tryd.f4.results.toList = [.tmp 4] := by kernel_rfl
theorem ok5 : callOk Tryd.prog 5 = true := by kernel_rfl
theorem r5 : Tryd.f5.results.toList = [.tmp 4] := by kernel_rfl
theorem ok6 : callOk Tryd.prog 6 = true := by kernel_rfl
theorem r6 : Tryd.f6.results.toList = [.tmp 4] := by kernel_rfl
theorem ok7 : callOk Tryd.prog 7 = true := by kernel_rfl
theorem r7 : Tryd.f7.results.toList = [.tmp 2] := by kernel_rfl
theorem ok8 : callOk Tryd.prog 8 = true := by kernel_rfl
theorem r8 : Tryd.f8.results.toList = [.tmp 2] := by kernel_rfl
theorem ok9 : callOk Tryd.prog 9 = true := by kernel_rfl
theorem r9 : Tryd.f9.results.toList = [.tmp 6] := by kernel_rfl
theorem ok10 : callOk Tryd.prog 10 = true := by kernel_rfl
theorem r10 : Tryd.f10.results.toList = [.tmp 2] := by kernel_rfl
theorem ok11 : callOk Tryd.prog 11 = true := by kernel_rfl
theorem r11 : Tryd.f11.results.toList = [.tmp 4] := by kernel_rfl
theorem ok12 : callOk Tryd.prog 12 = true := by kernel_rfl
theorem r12 : Tryd.f12.results.toList = [.tmp 4] := by kernel_rfl
theorem ok13 : callOk Tryd.prog 13 = true := by kernel_rfl
theorem r13 : Tryd.f13.results.toList = [.tmp 4] := by kernel_rfl
theorem ok14 : callOk Tryd.prog 14 = true := by kernel_rfl
theorem r14 : Tryd.f14.results.toList = [.tmp 8] := by kernel_rfl
theorem ok15 : callOk Tryd.prog 15 = true := by kernel_rfl
theorem r15 : Tryd.f15.results.toList = [.tmp 0] := by kernel_rfl
theorem ok16 : callOk Tryd.prog 16 = true := by kernel_rfl
theorem r16 : Tryd.f16.results.toList = [.tmp 4] := by kernel_rfl
theorem ok17 : callOk Tryd.prog 17 = true := by kernel_rfl
theorem r17 : Tryd.f17.results.toList = [.tmp 2] := by kernel_rfl
theorem ok18 : callOk Tryd.prog 18 = true := by kernel_rfl
theorem r18 : Tryd.f18.results.toList = [.tmp 2] := by kernel_rfl
theorem ok19 : callOk Tryd.prog 19 = true := by kernel_rfl
theorem r19 : Tryd.f19.results.toList = [.tmp 4] := by kernel_rfl
theorem ok20 : callOk Tryd.prog 20 = true := by kernel_rfl
theorem r20 : Tryd.f20.results.toList = [.tmp 4] := by kernel_rfl
theorem ok21 : callOk Tryd.prog 21 = true := by kernel_rfl
theorem r21 : Tryd.f21.results.toList = [.tmp 4] := by kernel_rfl
theorem ok22 : callOk Tryd.prog 22 = true := by kernel_rfl
theorem r22 : Tryd.f22.results.toList = [.tmp 2, .tmp 3] := by kernel_rfl
theorem ok23 : callOk Tryd.prog 23 = true := by kernel_rfl
theorem r23 : Tryd.f23.results.toList = [.tmp 4] := by kernel_rfl
theorem ok24 : callOk Tryd.prog 24 = true := by kernel_rfl
theorem r24 : Tryd.f24.results.toList = [.tmp 4] := by kernel_rfl
theorem ok25 : callOk Tryd.prog 25 = true := by kernel_rfl
theorem r25 : Tryd.f25.results.toList = [.tmp 4] := by kernel_rfl
theorem ok26 : callOk Tryd.prog 26 = true := by kernel_rfl
theorem r26 : Tryd.f26.results.toList = [.tmp 2] := by kernel_rfl
theorem ok27 : callOk Tryd.prog 27 = true := by kernel_rfl
theorem r27 : Tryd.f27.results.toList = [.tmp 2, .tmp 3] := by kernel_rfl
theorem ok28 : callOk Tryd.prog 28 = true := by kernel_rfl
theorem r28 : Tryd.f28.results.toList = [.tmp 2, .tmp 3] := by kernel_rfl
theorem ok29 : callOk Tryd.prog 29 = true := by kernel_rfl
theorem r29 : Tryd.f29.results.toList = [.tmp 4] := by kernel_rfl
theorem ok30 : callOk Tryd.prog 30 = true := by kernel_rfl
theorem r30 : Tryd.f30.results.toList = [.tmp 2, .tmp 3] := by kernel_rfl
theorem ok31 : callOk Tryd.prog 31 = true := by kernel_rfl
theorem r31 : Tryd.f31.results.toList = [.tmp 0] := by kernel_rfl
theorem ok32 : callOk Tryd.prog 32 = true := by kernel_rfl
theorem r32 : Tryd.f32.results.toList = [.tmp 4, .tmp 5] := by kernel_rfl
theorem ok33 : callOk Tryd.prog 33 = true := by kernel_rfl
theorem r33 : Tryd.f33.results.toList = [.tmp 2] := by kernel_rfl
theorem ok34 : callOk Tryd.prog 34 = true := by kernel_rfl
theorem r34 : Tryd.f34.results.toList = [.tmp 4] := by kernel_rfl
theorem ok35 : callOk Tryd.prog 35 = true := by kernel_rfl
theorem r35 : Tryd.f35.results.toList = [.tmp 4, .tmp 5] := by kernel_rfl
theorem ok36 : callOk Tryd.prog 36 = true := by kernel_rfl
theorem r36 : Tryd.f36.results.toList = [.tmp 4, .tmp 5] := by kernel_rfl
theorem ok37 : callOk Tryd.prog 37 = true := by kernel_rfl
theorem r37 : Tryd.f37.results.toList = [.tmp 4, .tmp 5] := by kernel_rfl
theorem ok38 : callOk Tryd.prog 38 = true := by kernel_rfl
theorem r38 : Tryd.f38.results.toList = [.tmp 2] := by kernel_rfl
theorem ok39 : callOk Tryd.prog 39 = true := by kernel_rfl
theorem r39 : Tryd.f39.results.toList = [.tmp 2] := by kernel_rfl
theorem ok40 : callOk Tryd.prog 40 = true := by kernel_rfl
theorem r40 : Tryd.f40.results.toList = [.tmp 2] := by kernel_rfl
theorem ok41 : callOk Tryd.prog 41 = true := by kernel_rfl
theorem r41 : Tryd.f41.results.toList = [.tmp 4] := by kernel_rfl
theorem ok42 : callOk Tryd.prog 42 = true := by kernel_rfl
theorem r42 : Tryd.f42.results.toList = [.tmp 2] := by kernel_rfl
theorem ok43 : callOk Tryd.prog 43 = true := by kernel_rfl
theorem r43 : Tryd.f43.results.toList = [.cell 2 36, .tmp 3, .tmp 4] := by kernel_rfl
theorem ok44 : callOk Tryd.prog 44 = true := by kernel_rfl
theorem r44 : Tryd.f44.results.toList = [.cell 2 36] := by kernel_rfl
theorem ok45 : callOk Tryd.prog 45 = true := by kernel_rfl
theorem r45 : Tryd.f45.results.toList = [.tmp 2] := by kernel_rfl
theorem ok46 : callOk Tryd.prog 46 = true := by kernel_rfl
theorem r46 : Tryd.f46.results.toList = [.tmp 2] := by kernel_rfl
theorem ok47 : callOk Tryd.prog 47 = true := by kernel_rfl
theorem r47 : Tryd.f47.results.toList = [.tmp 2] := by kernel_rfl
theorem ok48 : callOk Tryd.prog 48 = true := by kernel_rfl
theorem r48 : Tryd.f48.results.toList = [.cell 4 36, .tmp 5, .tmp 6] := by kernel_rfl
theorem ok49 : callOk Tryd.prog 49 = true := by kernel_rfl
theorem r49 : Tryd.f49.results.toList = [.tmp 2] := by kernel_rfl
theorem ok50 : callOk Tryd.prog 50 = true := by kernel_rfl
theorem r50 : Tryd.f50.results.toList = [.tmp 4] := by kernel_rfl
theorem ok52 : callOk Tryd.prog 52 = true := by kernel_rfl
theorem r52 : Tryd.f52.results.toList = [.tmp 4] := by kernel_rfl
theorem ok53 : callOk Tryd.prog 53 = true := by kernel_rfl
theorem r53 : Tryd.f53.results.toList = [.tmp 4] := by kernel_rfl
theorem ok54 : callOk Tryd.prog 54 = true := by kernel_rfl
theorem r54 : Tryd.f54.results.toList = [.tmp 2] := by kernel_rfl
theorem ok55 : callOk Tryd.prog 55 = true := by kernel_rfl
theorem r55 : Tryd.f55.results.toList = [.tmp 2] := by kernel_rfl
theorem ok56 : callOk Tryd.prog 56 = true := by kernel_rfl
theorem r56 : Tryd.f56.results.toList = [.tmp 4] := by kernel_rfl
theorem ok58 : callOk Tryd.prog 58 = true := by kernel_rfl
theorem r58 : Tryd.f58.results.toList = [.tmp 4] := by kernel_rfl
theorem ok80 : callOk Tryd.prog 80 = true := by kernel_rfl
theorem r80 : Tryd.f80.results.toList = [] := by kernel_rfl
attribute [go_sem] s2 z2 a2 s3 z3 a3 s4 z4 a4 s5 z5 a5 s9 z9 a9 s21 z21 a21 s22 z22 a22 s28 z28 a28 s29 z29 a29 s34 z34 a34 s35 z35 a35 o35_0 o35_1 o35_2 o35_3 s36 z36 a36 o36_0 o36_1 o36_2 o36_3 s37 z37 a37 s49 z49 a49 s59 z59 a59 s69 z69 a69 s74 z74 a74 s75 z75 a75 o75_0 o75_1 s76 z76 a76 o76_0 o76_1 s77 z77 a77 s86 z86 a86 s90 z90 a90 ok2 ok3 ok4 ok5 ok6 ok7 ok8 ok9 ok10 ok11 ok12 ok13 ok14 ok15 ok16 ok17 ok18 ok19 ok20 ok21 ok22 ok23 ok24 ok25 ok26 ok27 ok28 ok29 ok30 ok31 ok32 ok33 ok34 ok35 ok36 ok37 ok38 ok39 ok40 ok41 ok42 ok43 ok44 ok45 ok46 ok47 ok48 ok49 ok50 ok52 ok53 ok54 ok55 ok56 ok58 ok80 Tryd.underlying2 Tryd.underlying3 Tryd.underlying4 Tryd.underlying5 Tryd.underlying9 Tryd.underlying21 Tryd.underlying22 Tryd.underlying28 Tryd.underlying29 Tryd.underlying34 Tryd.underlying35 Tryd.underlying36 Tryd.underlying37 Tryd.underlying49 Tryd.underlying59 Tryd.underlying69 Tryd.underlying74 Tryd.underlying75 Tryd.underlying76 Tryd.underlying77 Tryd.underlying86 Tryd.underlying90
end Go.Proofs.YtoolnkemkhianaaDoor
