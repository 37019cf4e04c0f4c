import Derived.Test.YtpnjpjibccmkiaaAf19
import Derived.Test.YtpnjpjibccmkiaaProg
set_option linter.all false
set_option linter.unusedSimpArgs false
set_option linter.unusedVariables false
set_option linter.unusedSectionVars false
open Go Go.Proofs AF
set_option maxRecDepth 100000
/-- apograph/paragraph.Check -/
def c35 : C :=
  ((C.ops [⟨some 2, none, .mv, [.c (.int .i64 0)]⟩]).seq (((C.ops [⟨some 7, none, .mv, [.t 0]⟩, ⟨some 8, none, .len, [.t 7]⟩, ⟨some 9, none, .bin .gtr, [.t 8, .c (.int .i64
  4096)]⟩]).seq (C.cond (.t 9) ((C.ops [⟨some 2, none, .mv, [.c (.int .i64 4)]⟩]).seq C.ret) C.skip)).seq ((C.ops [⟨some 3, none, .mv, [.c (.int .i64 0)]⟩]).seq (((C.ops [⟨some 10,
  none, .mv, [.t 0]⟩, ⟨some 11, none, .len, [.t 10]⟩, ⟨some 12, none, .mv, [.c (.int .i64 0)]⟩]).seq (C.block 0 ((C.ops [⟨some 13, none, .bin .lss, [.t 12, .t 11]⟩]).seq ((C.cond (.t
  13) C.skip (C.exit 0)).seq ((C.block 1 ((C.ops [⟨some 14, none, .idxA 6, [.t 10, .t 12]⟩, ⟨some 15, none, .load (some 6), [.t 14]⟩, ⟨some 5, none, .alloc 0 28 [.int .i64 0, .int
  .i64 0, .int .i64 0, .int .i64 0, .int .i64 0, .str []], []⟩, ⟨none, none, .store 6, [.t 5, .t 15]⟩]).seq (((C.ops [⟨some 16, none, .load (some 6), [.t 5]⟩, ⟨some 17, none, .call
  72 true, [.t 16]⟩, ⟨some 6, none, .mv, [.t 17]⟩]).seq ((C.ops [⟨some 18, none, .mv, [.t 6]⟩, ⟨some 19, none, .bin .neq, [.t 18, .c (.int .i64 0)]⟩]).seq (C.cond (.t 19) ((C.ops
  [⟨some 20, none, .mv, [.t 6]⟩, ⟨some 2, none, .mv, [.t 20]⟩]).seq C.ret) C.skip))).seq (C.ops [⟨some 21, none, .mv, [.t 3]⟩, ⟨some 22, none, .fldA 1, [.t 5]⟩, ⟨some 23, none, .load
  none, [.t 22]⟩, ⟨some 24, none, .fldA 2, [.t 5]⟩, ⟨some 25, none, .load none, [.t 24]⟩, ⟨some 26, none, .bin .add, [.t 23, .t 25]⟩, ⟨some 27, none, .fldA 3, [.t 5]⟩, ⟨some 28,
  none, .load none, [.t 27]⟩, ⟨some 29, none, .bin .add, [.t 26, .t 28]⟩, ⟨some 30, none, .bin .add, [.t 21, .t 29]⟩, ⟨some 3, none, .mv, [.t 30]⟩])))).seq (C.ops [⟨some 31, none,
  .bin .add, [.t 12, .c (.int .i64 1)]⟩, ⟨some 12, none, .mv, [.t 31]⟩])))).loop)).seq (((C.ops [⟨some 32, none, .mv, [.t 3]⟩, ⟨some 33, none, .bin .gtr, [.t 32, .c (.int .i64
  1073741824)]⟩]).seq (C.cond (.t 33) ((C.ops [⟨some 2, none, .mv, [.c (.int .i64 4)]⟩]).seq C.ret) C.skip)).seq ((C.ops [⟨some 2, none, .mv, [.c (.int .i64 0)]⟩]).seq
  C.ret))))))
theorem fn35 : FnIs Try.prog 35 34 1 [RV.tmp 2] c35 := ⟨Try.f35, Try.f35.body.getD .skip, [5], [77, 78, 79, 80, 97], [], by kernel_rfl, by kernel_rfl, by kernel_rfl, by kernel_rfl, by kernel_rfl, by kernel_rfl, by kernel_rfl⟩
/-- apograph/apographref48.Check -/
def c36 : C :=
  ((C.ops [⟨some 2, none, .mv, [.c (.int .i64 0)]⟩]).seq (((C.ops [⟨some 7, none, .mv, [.t 0]⟩, ⟨some 8, none, .len, [.t 7]⟩, ⟨some 9, none, .bin .gtr, [.t 8, .c (.int .i64
  4096)]⟩]).seq (C.cond (.t 9) ((C.ops [⟨some 2, none, .mv, [.c (.int .i64 4)]⟩]).seq C.ret) C.skip)).seq (((C.ops [⟨some 3, none, .mv, [.c (.int .i64 0)]⟩]).seq (C.block 0 (((C.ops
  [⟨some 10, none, .mv, [.t 3]⟩, ⟨some 11, none, .mv, [.t 0]⟩, ⟨some 12, none, .len, [.t 11]⟩, ⟨some 13, none, .bin .lss, [.t 10, .t 12]⟩]).seq (C.cond (.t 13) C.skip (C.exit
  0))).seq ((C.block 1 ((C.ops [⟨some 16, none, .mv, [.t 0]⟩, ⟨some 17, none, .mv, [.t 3]⟩, ⟨some 18, none, .idxA 6, [.t 16, .t 17]⟩, ⟨some 19, none, .load (some 6), [.t 18]⟩, ⟨some
  20, none, .call 73 true, [.t 19]⟩, ⟨some 4, none, .mv, [.t 20]⟩]).seq ((C.ops [⟨some 21, none, .mv, [.t 4]⟩, ⟨some 22, none, .bin .neq, [.t 21, .c (.int .i64 0)]⟩]).seq (C.cond (.t
  22) ((C.ops [⟨some 23, none, .mv, [.t 4]⟩, ⟨some 2, none, .mv, [.t 23]⟩]).seq C.ret) C.skip)))).seq (C.ops [⟨some 14, none, .mv, [.t 3]⟩, ⟨some 15, none, .bin .add, [.t 14, .c
  (.int .i64 1)]⟩, ⟨some 3, none, .mv, [.t 15]⟩]))).loop)).seq ((C.ops [⟨some 5, none, .mv, [.c (.int .i64 0)]⟩]).seq (((C.ops [⟨some 6, none, .mv, [.c (.int .i64 0)]⟩]).seq (C.block
  2 (((C.ops [⟨some 24, none, .mv, [.t 6]⟩, ⟨some 25, none, .mv, [.t 0]⟩, ⟨some 26, none, .len, [.t 25]⟩, ⟨some 27, none, .bin .lss, [.t 24, .t 26]⟩]).seq (C.cond (.t 27) C.skip
  (C.exit 2))).seq ((C.block 3 ((C.ops [⟨some 30, none, .mv, [.t 5]⟩, ⟨some 31, none, .mv, [.t 0]⟩, ⟨some 32, none, .mv, [.t 6]⟩, ⟨some 33, none, .idxA 6, [.t 31, .t 32]⟩, ⟨some 34,
  none, .fldA 1, [.t 33]⟩, ⟨some 35, none, .load none, [.t 34]⟩, ⟨some 36, none, .bin .add, [.t 30, .t 35]⟩, ⟨some 37, none, .mv, [.t 0]⟩, ⟨some 38, none, .mv, [.t 6]⟩, ⟨some 39,
  none, .idxA 6, [.t 37, .t 38]⟩, ⟨some 40, none, .fldA 2, [.t 39]⟩, ⟨some 41, none, .load none, [.t 40]⟩, ⟨some 42, none, .bin .add, [.t 36, .t 41]⟩, ⟨some 43, none, .mv, [.t 0]⟩,
  ⟨some 44, none, .mv, [.t 6]⟩, ⟨some 45, none, .idxA 6, [.t 43, .t 44]⟩, ⟨some 46, none, .fldA 3, [.t 45]⟩, ⟨some 47, none, .load none, [.t 46]⟩, ⟨some 48, none, .bin .add, [.t 42,
  .t 47]⟩, ⟨some 5, none, .mv, [.t 48]⟩]).seq ((C.ops [⟨some 49, none, .mv, [.t 5]⟩, ⟨some 50, none, .bin .gtr, [.t 49, .c (.int .i64 1073741824)]⟩]).seq (C.cond (.t 50) ((C.ops
  [⟨some 2, none, .mv, [.c (.int .i64 4)]⟩]).seq C.ret) C.skip)))).seq (C.ops [⟨some 28, none, .mv, [.t 6]⟩, ⟨some 29, none, .bin .add, [.t 28, .c (.int .i64 1)]⟩, ⟨some 6, none,
  .mv, [.t 29]⟩]))).loop)).seq ((C.ops [⟨some 2, none, .mv, [.c (.int .i64 0)]⟩]).seq
  C.ret))))))
theorem fn36 : FnIs Try.prog 36 51 0 [RV.tmp 2] c36 := ⟨Try.f36, Try.f36.body.getD .skip, [], [77, 78, 79, 80, 97], [], by kernel_rfl, by kernel_rfl, by kernel_rfl, by kernel_rfl, by kernel_rfl, by kernel_rfl, by kernel_rfl⟩
/-- apograph/apographlaw48.three -/
def c37 : C :=
  ((C.ops [⟨some 0, none, .nilo 0 6 28, []⟩]).seq ((C.ops [⟨some 3, none, .build [.int .i64 0, .int .i64 0, .int .i64 0, .int .i64 0, .int .i64 0, .str []] [(0, 1), (1, 1), (5, 1)],
  [.c (.int .i64 1), .c (.int .i64 30), .c (.str [97, 98, 99])]⟩, ⟨some 4, none, .build [.int .i64 0, .int .i64 0, .int .i64 0, .int .i64 0, .int .i64 0, .str []] [(0, 1), (1, 1),
  (2, 1), (3, 1)], [.c (.int .i64 2), .c (.int .i64 10), .c (.int .i64 5), .c (.int .i64 3)]⟩, ⟨some 1, none, .alloc 1 28 [.int .i64 0, .int .i64 0, .int .i64 0, .int .i64 0, .int
  .i64 0, .str []], []⟩, ⟨some 2, none, .alloc 2 28 [.int .i64 0, .int .i64 0, .int .i64 0, .int .i64 0, .int .i64 0, .str []], []⟩, ⟨none, none, .store 6, [.t 1, .t 3]⟩, ⟨none,
  none, .store 6, [.t 2, .t 4]⟩]).seq ((C.ops [⟨some 5, none, .load (some 6), [.t 1]⟩, ⟨some 6, none, .load (some 6), [.t 2]⟩, ⟨some 7, none, .load (some 6), [.t 1]⟩, ⟨some 8, none,
  .load (some 6), [.t 2]⟩, ⟨some 9, none, .load (some 6), [.t 1]⟩, ⟨some 10, none, .bslc 3 6 5 28 [.int .i64 0, .int .i64 0, .int .i64 0, .int .i64 0, .int .i64 0, .str []] [(0, 6),
  (6, 6), (12, 6), (18, 6), (24, 6)], [.t 5, .t 6, .t 7, .t 8, .t 9]⟩, ⟨some 0, none, .mv, [.t 10]⟩]).seq
  C.ret)))
theorem fn37 : FnIs Try.prog 37 11 4 [RV.tmp 0] c37 := ⟨Try.f37, Try.f37.body.getD .skip, [0, 1, 2, 10], [77, 78, 79, 80, 97], [], by kernel_rfl, by kernel_rfl, by kernel_rfl, by kernel_rfl, by kernel_rfl, by kernel_rfl, by kernel_rfl⟩
/-- apograph/paragraph.check -/
def c38 : C :=
  ((C.ops [⟨some 4, none, .mv, [.c (.int .i64 0)]⟩]).seq ((C.block 0 ((C.ops [⟨some 6, none, .mv, [.t 0]⟩, ⟨some 7, none, .call 35 true, [.t 6]⟩, ⟨some 8, none, .bin .neq, [.t 7, .c
  (.int .i64 0)]⟩, ⟨some 5, none, .mv, [.t 8]⟩]).seq (C.cond (.t 5) ((C.ops [⟨some 4, none, .mv, [.c (.int .i64 1)]⟩]).seq C.ret) ((C.ops [⟨some 10, none, .mv, [.t 1]⟩, ⟨some 11,
  none, .call 63 true, [.t 10]⟩, ⟨some 12, none, .un UnOp.not, [.t 11]⟩, ⟨some 9, none, .mv, [.t 12]⟩]).seq (C.cond (.t 9) ((C.ops [⟨some 4, none, .mv, [.c (.int .i64 2)]⟩]).seq
  C.ret) C.skip))))).seq ((C.ops [⟨some 4, none, .mv, [.c (.int .i64 0)]⟩]).seq
  C.ret)))
theorem fn38 : FnIs Try.prog 38 13 0 [RV.tmp 4] c38 := ⟨Try.f38, Try.f38.body.getD .skip, [], [77, 78, 79, 80, 97], [], by kernel_rfl, by kernel_rfl, by kernel_rfl, by kernel_rfl, by kernel_rfl, by kernel_rfl, by kernel_rfl⟩
/-- apograph/paragraph.length -/
def c63 : C :=
  ((C.ops [⟨some 2, none, .mv, [.c (.bool false)]⟩]).seq ((C.ops [⟨some 3, none, .mv, [.t 0]⟩, ⟨some 4, none, .bin .geq, [.t 3, .c (.int .i64 0)]⟩, ⟨some 5, none, .mv, [.t 4]⟩, ⟨some
  6, some (5, true), .mv, [.t 0]⟩, ⟨some 7, some (5, true), .bin .leq, [.t 6, .c (.int .i64 1073741824)]⟩, ⟨some 8, none, .pick, [.t 5, .t 7, .c (.bool false)]⟩, ⟨some 2, none, .mv,
  [.t 8]⟩]).seq
  C.ret))
theorem fn63 : FnIs Try.prog 63 9 0 [RV.tmp 2] c63 := ⟨Try.f63, Try.f63.body.getD .skip, [], [77, 78, 79, 80, 97], [], by kernel_rfl, by kernel_rfl, by kernel_rfl, by kernel_rfl, by kernel_rfl, by kernel_rfl, by kernel_rfl⟩
/-- apograph/apographref48.within -/
def c68 : C :=
  ((C.ops [⟨some 2, none, .mv, [.c (.bool false)]⟩]).seq ((C.ops [⟨some 3, none, .mv, [.t 0]⟩, ⟨some 4, none, .bin .geq, [.t 3, .c (.int .i64 0)]⟩, ⟨some 5, none, .mv, [.t 4]⟩, ⟨some
  6, some (5, true), .mv, [.t 0]⟩, ⟨some 7, some (5, true), .bin .leq, [.t 6, .c (.int .i64 1073741824)]⟩, ⟨some 8, none, .pick, [.t 5, .t 7, .c (.bool false)]⟩, ⟨some 2, none, .mv,
  [.t 8]⟩]).seq
  C.ret))
theorem fn68 : FnIs Try.prog 68 9 0 [RV.tmp 2] c68 := ⟨Try.f68, Try.f68.body.getD .skip, [], [77, 78, 79, 80, 97], [], by kernel_rfl, by kernel_rfl, by kernel_rfl, by kernel_rfl, by kernel_rfl, by kernel_rfl, by kernel_rfl⟩
/-- apograph/paragraph.checkItem -/
def c72 : C :=
  ((C.ops [⟨some 1, none, .box 0 28, [.t 0]⟩, ⟨some 2, none, .mv, [.c (.int .i64 0)]⟩]).seq ((C.block 0 ((C.ops [⟨some 4, none, .fldA 0, [.t 1]⟩, ⟨some 5, none, .load none, [.t 4]⟩,
  ⟨some 6, none, .bin .lss, [.t 5, .c (.int .i64 1)]⟩, ⟨some 7, none, .mv, [.t 6]⟩, ⟨some 8, some (7, false), .fldA 0, [.t 1]⟩, ⟨some 9, some (7, false), .load none, [.t 8]⟩, ⟨some
  10, some (7, false), .bin .gtr, [.t 9, .c (.int .i64 3)]⟩, ⟨some 11, none, .pick, [.t 7, .c (.bool true), .t 10]⟩, ⟨some 3, none, .mv, [.t 11]⟩]).seq (C.cond (.t 3) ((C.ops [⟨some
  2, none, .mv, [.c (.int .i64 8)]⟩]).seq C.ret) ((C.ops [⟨some 13, none, .fldA 1, [.t 1]⟩, ⟨some 14, none, .load none, [.t 13]⟩, ⟨some 15, none, .call 63 true, [.t 14]⟩, ⟨some 16,
  none, .un UnOp.not, [.t 15]⟩, ⟨some 17, none, .mv, [.t 16]⟩, ⟨some 18, some (17, false), .fldA 2, [.t 1]⟩, ⟨some 19, some (17, false), .load none, [.t 18]⟩, ⟨some 20, some (17,
  false), .call 63 true, [.t 19]⟩, ⟨some 21, some (17, false), .un UnOp.not, [.t 20]⟩, ⟨some 22, none, .pick, [.t 17, .c (.bool true), .t 21]⟩, ⟨some 23, none, .mv, [.t 22]⟩, ⟨some
  24, some (23, false), .fldA 3, [.t 1]⟩, ⟨some 25, some (23, false), .load none, [.t 24]⟩, ⟨some 26, some (23, false), .call 63 true, [.t 25]⟩, ⟨some 27, some (23, false), .un
  UnOp.not, [.t 26]⟩, ⟨some 28, none, .pick, [.t 23, .c (.bool true), .t 27]⟩, ⟨some 12, none, .mv, [.t 28]⟩]).seq (C.cond (.t 12) ((C.ops [⟨some 2, none, .mv, [.c (.int .i64
  2)]⟩]).seq C.ret) ((C.ops [⟨some 30, none, .fldA 4, [.t 1]⟩, ⟨some 31, none, .load none, [.t 30]⟩, ⟨some 32, none, .bin .neq, [.t 31, .c (.int .i64 (-10000))]⟩, ⟨some 33, none,
  .mv, [.t 32]⟩, ⟨some 34, some (33, true), .fldA 4, [.t 1]⟩, ⟨some 35, some (33, true), .load none, [.t 34]⟩, ⟨some 36, some (33, true), .bin .lss, [.t 35, .c (.int .i64 0)]⟩, ⟨some
  37, some (33, true), .mv, [.t 36]⟩, ⟨some 38, some (37, false), .fldA 4, [.t 1]⟩, ⟨some 39, some (37, false), .load none, [.t 38]⟩, ⟨some 40, some (37, false), .bin .gtr, [.t 39,
  .c (.int .i64 10000)]⟩, ⟨some 41, some (33, true), .pick, [.t 37, .c (.bool true), .t 40]⟩, ⟨some 42, none, .pick, [.t 33, .t 41, .c (.bool false)]⟩, ⟨some 29, none, .mv, [.t
  42]⟩]).seq (C.cond (.t 29) ((C.ops [⟨some 2, none, .mv, [.c (.int .i64 2)]⟩]).seq C.ret) C.skip))))))).seq (((C.ops [⟨some 43, none, .fldA 0, [.t 1]⟩, ⟨some 44, none, .load none,
  [.t 43]⟩, ⟨some 45, none, .bin .neq, [.t 44, .c (.int .i64 2)]⟩, ⟨some 46, none, .mv, [.t 45]⟩, ⟨some 47, some (46, true), .fldA 2, [.t 1]⟩, ⟨some 48, some (46, true), .load none,
  [.t 47]⟩, ⟨some 49, some (46, true), .bin .neq, [.t 48, .c (.int .i64 0)]⟩, ⟨some 50, some (46, true), .mv, [.t 49]⟩, ⟨some 51, some (50, false), .fldA 3, [.t 1]⟩, ⟨some 52, some
  (50, false), .load none, [.t 51]⟩, ⟨some 53, some (50, false), .bin .neq, [.t 52, .c (.int .i64 0)]⟩, ⟨some 54, some (46, true), .pick, [.t 50, .c (.bool true), .t 53]⟩, ⟨some 55,
  none, .pick, [.t 46, .t 54, .c (.bool false)]⟩, ⟨some 56, none, .mv, [.t 55]⟩, ⟨some 57, some (56, false), .fldA 0, [.t 1]⟩, ⟨some 58, some (56, false), .load none, [.t 57]⟩, ⟨some
  59, some (56, false), .bin .neq, [.t 58, .c (.int .i64 3)]⟩, ⟨some 60, some (56, false), .mv, [.t 59]⟩, ⟨some 61, some (60, true), .fldA 4, [.t 1]⟩, ⟨some 62, some (60, true),
  .load none, [.t 61]⟩, ⟨some 63, some (60, true), .bin .neq, [.t 62, .c (.int .i64 0)]⟩, ⟨some 64, some (56, false), .pick, [.t 60, .t 63, .c (.bool false)]⟩, ⟨some 65, none, .pick,
  [.t 56, .c (.bool true), .t 64]⟩, ⟨some 66, none, .mv, [.t 65]⟩, ⟨some 67, some (66, false), .fldA 0, [.t 1]⟩, ⟨some 68, some (66, false), .load none, [.t 67]⟩, ⟨some 69, some (66,
  false), .bin .eql, [.t 68, .c (.int .i64 2)]⟩, ⟨some 70, some (66, false), .mv, [.t 69]⟩, ⟨some 71, some (70, true), .fldA 5, [.t 1]⟩, ⟨some 72, some (70, true), .load none, [.t
  71]⟩, ⟨some 73, some (70, true), .bin .neq, [.t 72, .c (.str [])]⟩, ⟨some 74, some (66, false), .pick, [.t 70, .t 73, .c (.bool false)]⟩, ⟨some 75, none, .pick, [.t 66, .c (.bool
  true), .t 74]⟩]).seq (C.cond (.t 75) ((C.ops [⟨some 2, none, .mv, [.c (.int .i64 1)]⟩]).seq C.ret) C.skip)).seq ((C.ops [⟨some 2, none, .mv, [.c (.int .i64 0)]⟩]).seq
  C.ret))))
theorem fn72 : FnIs Try.prog 72 76 1 [RV.tmp 2] c72 := ⟨Try.f72, Try.f72.body.getD .skip, [1], [77, 78, 79, 80, 97], [], by kernel_rfl, by kernel_rfl, by kernel_rfl, by kernel_rfl, by kernel_rfl, by kernel_rfl, by kernel_rfl⟩
/-- apograph/apographref48.checkItem -/
def c73 : C :=
  ((C.ops [⟨some 1, none, .box 0 28, [.t 0]⟩, ⟨some 2, none, .mv, [.c (.int .i64 0)]⟩]).seq (((C.ops [⟨some 3, none, .fldA 0, [.t 1]⟩, ⟨some 4, none, .load none, [.t 3]⟩, ⟨some 5,
  none, .bin .neq, [.t 4, .c (.int .i64 1)]⟩, ⟨some 6, none, .mv, [.t 5]⟩, ⟨some 7, some (6, true), .fldA 0, [.t 1]⟩, ⟨some 8, some (6, true), .load none, [.t 7]⟩, ⟨some 9, some (6,
  true), .bin .neq, [.t 8, .c (.int .i64 2)]⟩, ⟨some 10, none, .pick, [.t 6, .t 9, .c (.bool false)]⟩, ⟨some 11, none, .mv, [.t 10]⟩, ⟨some 12, some (11, true), .fldA 0, [.t 1]⟩,
  ⟨some 13, some (11, true), .load none, [.t 12]⟩, ⟨some 14, some (11, true), .bin .neq, [.t 13, .c (.int .i64 3)]⟩, ⟨some 15, none, .pick, [.t 11, .t 14, .c (.bool false)]⟩]).seq
  (C.cond (.t 15) ((C.ops [⟨some 2, none, .mv, [.c (.int .i64 8)]⟩]).seq C.ret) C.skip)).seq (((C.ops [⟨some 16, none, .fldA 1, [.t 1]⟩, ⟨some 17, none, .load none, [.t 16]⟩, ⟨some
  18, none, .call 68 true, [.t 17]⟩, ⟨some 19, none, .un UnOp.not, [.t 18]⟩, ⟨some 20, none, .mv, [.t 19]⟩, ⟨some 21, some (20, false), .fldA 2, [.t 1]⟩, ⟨some 22, some (20, false),
  .load none, [.t 21]⟩, ⟨some 23, some (20, false), .call 68 true, [.t 22]⟩, ⟨some 24, some (20, false), .un UnOp.not, [.t 23]⟩, ⟨some 25, none, .pick, [.t 20, .c (.bool true), .t
  24]⟩, ⟨some 26, none, .mv, [.t 25]⟩, ⟨some 27, some (26, false), .fldA 3, [.t 1]⟩, ⟨some 28, some (26, false), .load none, [.t 27]⟩, ⟨some 29, some (26, false), .call 68 true, [.t
  28]⟩, ⟨some 30, some (26, false), .un UnOp.not, [.t 29]⟩, ⟨some 31, none, .pick, [.t 26, .c (.bool true), .t 30]⟩, ⟨some 32, none, .mv, [.t 31]⟩, ⟨some 33, some (32, false), .fldA
  4, [.t 1]⟩, ⟨some 34, some (32, false), .load none, [.t 33]⟩, ⟨some 35, some (32, false), .bin .lss, [.t 34, .c (.int .i64 0)]⟩, ⟨some 36, some (32, false), .mv, [.t 35]⟩, ⟨some
  37, some (36, true), .fldA 4, [.t 1]⟩, ⟨some 38, some (36, true), .load none, [.t 37]⟩, ⟨some 39, some (36, true), .bin .neq, [.t 38, .c (.int .i64 (-10000))]⟩, ⟨some 40, some (32,
  false), .pick, [.t 36, .t 39, .c (.bool false)]⟩, ⟨some 41, none, .pick, [.t 32, .c (.bool true), .t 40]⟩, ⟨some 42, none, .mv, [.t 41]⟩, ⟨some 43, some (42, false), .fldA 4, [.t
  1]⟩, ⟨some 44, some (42, false), .load none, [.t 43]⟩, ⟨some 45, some (42, false), .bin .gtr, [.t 44, .c (.int .i64 10000)]⟩, ⟨some 46, none, .pick, [.t 42, .c (.bool true), .t
  45]⟩]).seq (C.cond (.t 46) ((C.ops [⟨some 2, none, .mv, [.c (.int .i64 2)]⟩]).seq C.ret) C.skip)).seq (((C.ops [⟨some 47, none, .fldA 0, [.t 1]⟩, ⟨some 48, none, .load none, [.t
  47]⟩, ⟨some 49, none, .bin .neq, [.t 48, .c (.int .i64 2)]⟩, ⟨some 50, none, .mv, [.t 49]⟩, ⟨some 51, some (50, true), .fldA 2, [.t 1]⟩, ⟨some 52, some (50, true), .load none, [.t
  51]⟩, ⟨some 53, some (50, true), .bin .neq, [.t 52, .c (.int .i64 0)]⟩, ⟨some 54, some (50, true), .mv, [.t 53]⟩, ⟨some 55, some (54, false), .fldA 3, [.t 1]⟩, ⟨some 56, some (54,
  false), .load none, [.t 55]⟩, ⟨some 57, some (54, false), .bin .neq, [.t 56, .c (.int .i64 0)]⟩, ⟨some 58, some (50, true), .pick, [.t 54, .c (.bool true), .t 57]⟩, ⟨some 59, none,
  .pick, [.t 50, .t 58, .c (.bool false)]⟩, ⟨some 60, none, .mv, [.t 59]⟩, ⟨some 61, some (60, false), .fldA 0, [.t 1]⟩, ⟨some 62, some (60, false), .load none, [.t 61]⟩, ⟨some 63,
  some (60, false), .bin .neq, [.t 62, .c (.int .i64 3)]⟩, ⟨some 64, some (60, false), .mv, [.t 63]⟩, ⟨some 65, some (64, true), .fldA 4, [.t 1]⟩, ⟨some 66, some (64, true), .load
  none, [.t 65]⟩, ⟨some 67, some (64, true), .bin .neq, [.t 66, .c (.int .i64 0)]⟩, ⟨some 68, some (60, false), .pick, [.t 64, .t 67, .c (.bool false)]⟩, ⟨some 69, none, .pick, [.t
  60, .c (.bool true), .t 68]⟩, ⟨some 70, none, .mv, [.t 69]⟩, ⟨some 71, some (70, false), .fldA 0, [.t 1]⟩, ⟨some 72, some (70, false), .load none, [.t 71]⟩, ⟨some 73, some (70,
  false), .bin .eql, [.t 72, .c (.int .i64 2)]⟩, ⟨some 74, some (70, false), .mv, [.t 73]⟩, ⟨some 75, some (74, true), .fldA 5, [.t 1]⟩, ⟨some 76, some (74, true), .load none, [.t
  75]⟩, ⟨some 77, some (74, true), .bin .neq, [.t 76, .c (.str [])]⟩, ⟨some 78, some (70, false), .pick, [.t 74, .t 77, .c (.bool false)]⟩, ⟨some 79, none, .pick, [.t 70, .c (.bool
  true), .t 78]⟩]).seq (C.cond (.t 79) ((C.ops [⟨some 2, none, .mv, [.c (.int .i64 1)]⟩]).seq C.ret) C.skip)).seq ((C.ops [⟨some 2, none, .mv, [.c (.int .i64 0)]⟩]).seq
  C.ret)))))
theorem fn73 : FnIs Try.prog 73 80 1 [RV.tmp 2] c73 := ⟨Try.f73, Try.f73.body.getD .skip, [1], [77, 78, 79, 80, 97], [], by kernel_rfl, by kernel_rfl, by kernel_rfl, by kernel_rfl, by kernel_rfl, by kernel_rfl, by kernel_rfl⟩
/-- apograph/apographref48.SameItems -/
def c34 : C :=
  ((C.ops [⟨some 4, none, .mv, [.c (.bool false)]⟩]).seq (((C.ops [⟨some 6, none, .mv, [.t 0]⟩, ⟨some 7, none, .len, [.t 6]⟩, ⟨some 8, none, .mv, [.t 1]⟩, ⟨some 9, none, .len, [.t
  8]⟩, ⟨some 10, none, .bin .neq, [.t 7, .t 9]⟩]).seq (C.cond (.t 10) ((C.ops [⟨some 4, none, .mv, [.c (.bool false)]⟩]).seq C.ret) C.skip)).seq (((C.ops [⟨some 5, none, .mv, [.c
  (.int .i64 0)]⟩]).seq (C.block 0 (((C.ops [⟨some 11, none, .mv, [.t 5]⟩, ⟨some 12, none, .mv, [.t 0]⟩, ⟨some 13, none, .len, [.t 12]⟩, ⟨some 14, none, .bin .lss, [.t 11, .t
  13]⟩]).seq (C.cond (.t 14) C.skip (C.exit 0))).seq ((C.block 1 ((C.ops [⟨some 17, none, .mv, [.t 0]⟩, ⟨some 18, none, .mv, [.t 5]⟩, ⟨some 19, none, .idxA 6, [.t 17, .t 18]⟩, ⟨some
  20, none, .load (some 6), [.t 19]⟩, ⟨some 21, none, .mv, [.t 1]⟩, ⟨some 22, none, .mv, [.t 5]⟩, ⟨some 23, none, .idxA 6, [.t 21, .t 22]⟩, ⟨some 24, none, .load (some 6), [.t 23]⟩,
  ⟨some 25, none, .aeq [.int, .int, .int, .int, .int, .str] true, [.t 20, .t 24]⟩]).seq (C.cond (.t 25) ((C.ops [⟨some 4, none, .mv, [.c (.bool false)]⟩]).seq C.ret) C.skip))).seq
  (C.ops [⟨some 15, none, .mv, [.t 5]⟩, ⟨some 16, none, .bin .add, [.t 15, .c (.int .i64 1)]⟩, ⟨some 5, none, .mv, [.t 16]⟩]))).loop)).seq ((C.ops [⟨some 4, none, .mv, [.c (.bool
  true)]⟩]).seq
  C.ret))))
theorem fn34 : FnIs Try.prog 34 26 0 [RV.tmp 4] c34 := ⟨Try.f34, Try.f34.body.getD .skip, [], [77, 78, 79, 80, 97], [], by kernel_rfl, by kernel_rfl, by kernel_rfl, by kernel_rfl, by kernel_rfl, by kernel_rfl, by kernel_rfl⟩
/-- slices.Clone[[]int,int] -/
def c90 : C :=
  ((C.ops [⟨some 2, none, .nilo 0 1 3, []⟩]).seq (((C.ops [⟨some 3, none, .mv, [.t 0]⟩, ⟨some 4, none, .isnil .slice false, [.t 3]⟩]).seq (C.cond (.t 4) ((C.ops [⟨some 2, none, .nilo
  0 1 3, []⟩]).seq C.ret) C.skip)).seq ((C.ops [⟨some 5, none, .bslc 1 1 0 3 [.int .i64 0] [], []⟩, ⟨some 6, none, .mv, [.t 0]⟩, ⟨some 7, none, .app 2 1 3 8, [.t 5, .t 6]⟩, ⟨some 2,
  none, .mv, [.t 7]⟩]).seq
  C.ret)))
theorem fn90 : FnIs Try.prog 90 8 3 [RV.tmp 2] c90 := ⟨Try.f90, Try.f90.body.getD .skip, [2, 5, 7], [77, 78, 79, 80, 97], [], by kernel_rfl, by kernel_rfl, by kernel_rfl, by kernel_rfl, by kernel_rfl, by kernel_rfl, by kernel_rfl⟩
/-- (*strings.Builder).WriteString -/
def c78 : C :=
  ((C.ops [⟨some 4, none, .mv, [.c (.int .i64 0)]⟩, ⟨some 5, none, .mv, [.c .nilif]⟩]).seq ((C.ops [⟨some 6, none, .mv, [.t 0]⟩, ⟨some 7, none, .call 97 false, [.t 6]⟩]).seq ((C.ops
  [⟨some 8, none, .mv, [.t 0]⟩, ⟨some 9, none, .mv, [.t 0]⟩, ⟨some 10, none, .nilchk, [.t 9]⟩, ⟨some 11, none, .fldA 1, [.t 10]⟩, ⟨some 12, none, .load none, [.t 11]⟩, ⟨some 13,
  none, .mv, [.t 1]⟩, ⟨some 14, none, .apps 0 5, [.t 12, .t 13]⟩, ⟨some 15, none, .nilchk, [.t 8]⟩, ⟨some 16, none, .fldA 1, [.t 15]⟩, ⟨none, none, .store 1, [.t 16, .t 14]⟩]).seq
  ((C.ops [⟨some 17, none, .mv, [.t 1]⟩, ⟨some 18, none, .slen, [.t 17]⟩, ⟨some 4, none, .mv, [.t 18]⟩, ⟨some 5, none, .mv, [.c .nilif]⟩]).seq
  C.ret))))
theorem fn78 : FnIs Try.prog 78 19 1 [RV.tmp 4, RV.tmp 5] c78 := ⟨Try.f78, Try.f78.body.getD .skip, [14], [77, 78, 79, 80, 97], [], by kernel_rfl, by kernel_rfl, by kernel_rfl, by kernel_rfl, by kernel_rfl, by kernel_rfl, by kernel_rfl⟩
/-- (*strings.Builder).WriteByte -/
def c79 : C :=
  ((C.ops [⟨some 4, none, .mv, [.c .nilif]⟩]).seq ((C.ops [⟨some 5, none, .mv, [.t 0]⟩, ⟨some 6, none, .call 97 false, [.t 5]⟩]).seq ((C.ops [⟨some 7, none, .mv, [.t 0]⟩, ⟨some 8,
  none, .mv, [.t 0]⟩, ⟨some 9, none, .nilchk, [.t 8]⟩, ⟨some 10, none, .fldA 1, [.t 9]⟩, ⟨some 11, none, .load none, [.t 10]⟩, ⟨some 12, none, .mv, [.t 1]⟩, ⟨some 13, none, .bslc 0 1
  1 5 [.int .u8 0] [(0, 1)], [.t 12]⟩, ⟨some 14, none, .app 1 1 5 1, [.t 11, .t 13]⟩, ⟨some 15, none, .nilchk, [.t 7]⟩, ⟨some 16, none, .fldA 1, [.t 15]⟩, ⟨none, none, .store 1, [.t
  16, .t 14]⟩]).seq ((C.ops [⟨some 4, none, .mv, [.c .nilif]⟩]).seq
  C.ret))))
theorem fn79 : FnIs Try.prog 79 17 2 [RV.tmp 4] c79 := ⟨Try.f79, Try.f79.body.getD .skip, [13, 14], [77, 78, 79, 80, 97], [], by kernel_rfl, by kernel_rfl, by kernel_rfl, by kernel_rfl, by kernel_rfl, by kernel_rfl, by kernel_rfl⟩
/-- (*strings.Builder).String -/
def c80 : C :=
  ((C.ops [⟨some 2, none, .mv, [.c (.str [])]⟩]).seq (C.bad.seq
  C.ret))
theorem fn80 : FnIs Try.prog 80 14 0 [RV.tmp 2] c80 := ⟨Try.f80, Try.f80.body.getD .skip, [], [77, 78, 79, 80, 97], [], by kernel_rfl, by kernel_rfl, by kernel_rfl, by kernel_rfl, by kernel_rfl, by kernel_rfl, by kernel_rfl⟩
/-- (*strings.Builder).copyCheck -/
def c97 : C :=
  ((C.ops [⟨some 2, none, .mv, [.t 0]⟩, ⟨some 3, none, .nilchk, [.t 2]⟩, ⟨some 4, none, .fldA 0, [.t 3]⟩, ⟨some 5, none, .load none, [.t 4]⟩, ⟨some 6, none, .isnil .ptr false, [.t
  5]⟩]).seq (C.cond (.t 6) C.bad (C.bad.seq (C.cond (.t 19) C.bad
  C.skip))))
theorem fn97 : FnIs Try.prog 97 20 0 [] c97 := ⟨Try.f97, Try.f97.body.getD .skip, [], [77, 78, 79, 80, 97], [], by kernel_rfl, by kernel_rfl, by kernel_rfl, by kernel_rfl, by kernel_rfl, by kernel_rfl, by kernel_rfl⟩
