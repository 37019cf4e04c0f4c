import Derived.Test.YtbccfgnihmfgmaaG1
import Derived.Test.YtbccfgnihmfgmaaProg
set_option linter.all false
set_option linter.unusedSimpArgs false
set_option linter.unusedVariables false
set_option linter.unusedSectionVars false
section
/-! the text PgCode -/
open Go Go.Proofs AF
set_option maxRecDepth 100000
/-- apograph/apographlaw48.fine -/
def c10 : C :=
  ((C.ops [⟨some 4, none, .mv, [.c (.bool false)]⟩]).seq ((C.ops [⟨some 5, none, .mv, [.t 0]⟩, ⟨some 6, none, .call 22 true, [.t 5]⟩, ⟨some 7, none, .un UnOp.not, [.t 6]⟩, ⟨some 8,
  none, .mv, [.t 7]⟩, ⟨some 9, some (8, true), .mv, [.t 0]⟩, ⟨some 10, some (8, true), .call 36 true, [.t 9]⟩, ⟨some 11, some (8, true), .bin .eql, [.t 10, .c (.int .i64 0)]⟩, ⟨some
  12, none, .pick, [.t 8, .t 11, .c (.bool false)]⟩, ⟨some 13, none, .mv, [.t 12]⟩, ⟨some 14, some (13, true), .mv, [.t 1]⟩, ⟨some 15, some (13, true), .bin .geq, [.t 14, .c (.int
  .i64 0)]⟩, ⟨some 16, none, .pick, [.t 13, .t 15, .c (.bool false)]⟩, ⟨some 17, none, .mv, [.t 16]⟩, ⟨some 18, some (17, true), .mv, [.t 1]⟩, ⟨some 19, some (17, true), .bin .leq,
  [.t 18, .c (.int .i64 1073741824)]⟩, ⟨some 20, none, .pick, [.t 17, .t 19, .c (.bool false)]⟩, ⟨some 4, none, .mv, [.t 20]⟩]).seq
  C.ret))
theorem fn10 : FnIs Try.prog 10 21 0 [RV.tmp 4] c10 := ⟨Try.f10, Try.f10.body.getD .skip, [], [77], [], by kernel_rfl, by kernel_rfl, by kernel_rfl, by kernel_rfl, by kernel_rfl, by kernel_rfl, by kernel_rfl⟩
/-- apograph/apographlaw48.awake -/
def c11 : C :=
  ((C.ops [⟨some 0, none, .mv, [.c (.bool false)]⟩]).seq ((C.ops [⟨some 11, none, .call 37 true, []⟩, ⟨some 12, none, .call 13 true, [.t 11, .c (.int .i64 70)]⟩, ⟨some 10, none, .mv,
  [.t 12]⟩, ⟨some 13, none, .ext 0, [.t 10]⟩, ⟨some 14, none, .ext 1, [.t 10]⟩, ⟨some 15, none, .ext 2, [.t 10]⟩, ⟨some 1, none, .mv, [.t 13]⟩, ⟨some 2, none, .mv, [.t 14]⟩, ⟨some 3,
  none, .mv, [.t 15]⟩]).seq ((C.ops [⟨some 17, none, .call 37 true, []⟩, ⟨some 18, none, .call 13 true, [.t 17, .c (.int .i64 72)]⟩, ⟨some 16, none, .mv, [.t 18]⟩, ⟨some 19, none,
  .ext 0, [.t 16]⟩, ⟨some 20, none, .ext 1, [.t 16]⟩, ⟨some 21, none, .ext 2, [.t 16]⟩, ⟨some 4, none, .mv, [.t 19]⟩, ⟨some 5, none, .mv, [.t 20]⟩, ⟨some 6, none, .mv, [.t 21]⟩]).seq
  ((C.ops [⟨some 23, none, .call 13 true, [.c .nl, .c (.int .i64 5)]⟩, ⟨some 22, none, .mv, [.t 23]⟩, ⟨some 24, none, .ext 0, [.t 22]⟩, ⟨some 25, none, .ext 1, [.t 22]⟩, ⟨some 26,
  none, .ext 2, [.t 22]⟩, ⟨some 7, none, .mv, [.t 24]⟩, ⟨some 8, none, .mv, [.t 25]⟩, ⟨some 9, none, .mv, [.t 26]⟩]).seq ((C.ops [⟨some 27, none, .mv, [.t 3]⟩, ⟨some 28, none, .mv,
  [.t 6]⟩, ⟨some 29, none, .mv, [.t 9]⟩, ⟨some 30, none, .mm true, [.t 27, .t 28, .t 29]⟩, ⟨some 31, none, .bin .eql, [.t 30, .c (.int .i64 0)]⟩, ⟨some 32, none, .mv, [.t 31]⟩, ⟨some
  33, some (32, true), .mv, [.t 1]⟩, ⟨some 34, some (32, true), .bslc 0 1 2 3 [.int .i64 0] [(0, 1), (1, 1)], [.c (.int .i64 3), .c (.int .i64 5)]⟩, ⟨some 35, some (32, true), .call
  28 true, [.t 33, .t 34]⟩, ⟨some 36, none, .pick, [.t 32, .t 35, .c (.bool false)]⟩, ⟨some 37, none, .mv, [.t 36]⟩, ⟨some 38, some (37, true), .mv, [.t 2]⟩, ⟨some 39, some (37,
  true), .bin .eql, [.t 38, .c (.int .i64 0)]⟩, ⟨some 40, none, .pick, [.t 37, .t 39, .c (.bool false)]⟩, ⟨some 41, none, .mv, [.t 40]⟩, ⟨some 42, some (41, true), .mv, [.t 4]⟩,
  ⟨some 43, some (41, true), .bslc 1 1 2 3 [.int .i64 0] [(0, 1), (1, 1)], [.c (.int .i64 3), .c (.int .i64 5)]⟩, ⟨some 44, some (41, true), .call 28 true, [.t 42, .t 43]⟩, ⟨some 45,
  none, .pick, [.t 41, .t 44, .c (.bool false)]⟩, ⟨some 46, none, .mv, [.t 45]⟩, ⟨some 47, some (46, true), .mv, [.t 5]⟩, ⟨some 48, some (46, true), .bin .eql, [.t 47, .c (.int .i64
  6)]⟩, ⟨some 49, none, .pick, [.t 46, .t 48, .c (.bool false)]⟩, ⟨some 50, none, .mv, [.t 49]⟩, ⟨some 51, some (50, true), .mv, [.t 7]⟩, ⟨some 52, some (50, true), .bslc 2 1 1 3
  [.int .i64 0] [(0, 1)], [.c (.int .i64 0)]⟩, ⟨some 53, some (50, true), .call 28 true, [.t 51, .t 52]⟩, ⟨some 54, none, .pick, [.t 50, .t 53, .c (.bool false)]⟩, ⟨some 55, none,
  .mv, [.t 54]⟩, ⟨some 56, some (55, true), .mv, [.t 8]⟩, ⟨some 57, some (55, true), .bin .eql, [.t 56, .c (.int .i64 0)]⟩, ⟨some 58, none, .pick, [.t 55, .t 57, .c (.bool false)]⟩,
  ⟨some 0, none, .mv, [.t 58]⟩]).seq
  C.ret)))))
theorem fn11 : FnIs Try.prog 11 59 3 [RV.tmp 0] c11 := ⟨Try.f11, Try.f11.body.getD .skip, [34, 43, 52], [77], [], by kernel_rfl, by kernel_rfl, by kernel_rfl, by kernel_rfl, by kernel_rfl, by kernel_rfl, by kernel_rfl⟩
/-- slices.Clone[[]apograph/api.Item,apograph/api.Item] -/
def c12 : C :=
  ((C.ops [⟨some 2, none, .nilo 0 6 28, []⟩]).seq (((C.ops [⟨some 3, none, .mv, [.t 0]⟩, ⟨some 4, none, .isnil .slice false, [.t 3]⟩]).seq (C.cond (.t 4) ((C.ops [⟨some 2, none,
  .nilo 0 6 28, []⟩]).seq C.ret) C.skip)).seq ((C.ops [⟨some 5, none, .bslc 1 6 0 28 [.int .i64 0, .int .i64 0, .int .i64 0, .int .i64 0, .int .i64 0, .str []] [], []⟩, ⟨some 6,
  none, .mv, [.t 0]⟩, ⟨some 7, none, .app 2 6 28 56, [.t 5, .t 6]⟩, ⟨some 2, none, .mv, [.t 7]⟩]).seq
  C.ret)))
theorem fn12 : FnIs Try.prog 12 8 3 [RV.tmp 2] c12 := ⟨Try.f12, Try.f12.body.getD .skip, [2, 5, 7], [77], [], by kernel_rfl, by kernel_rfl, by kernel_rfl, by kernel_rfl, by kernel_rfl, by kernel_rfl, by kernel_rfl⟩
/-- apograph/paragraph.Break -/
def c13 : C :=
  ((C.ops [⟨some 4, none, .nilo 0 1 3, []⟩, ⟨some 5, none, .mv, [.c (.int .i64 0)]⟩, ⟨some 6, none, .mv, [.c (.int .i64 0)]⟩]).seq (((C.ops [⟨some 14, none, .mv, [.t 0]⟩, ⟨some 15,
  none, .mv, [.t 1]⟩, ⟨some 16, none, .call 38 true, [.t 14, .t 15]⟩, ⟨some 7, none, .mv, [.t 16]⟩]).seq ((C.ops [⟨some 17, none, .mv, [.t 7]⟩, ⟨some 18, none, .bin .neq, [.t 17, .c
  (.int .i64 0)]⟩]).seq (C.cond (.t 18) ((C.ops [⟨some 19, none, .mv, [.t 7]⟩, ⟨some 4, none, .nilo 0 1 3, []⟩, ⟨some 5, none, .mv, [.c (.int .i64 0)]⟩, ⟨some 6, none, .mv, [.t
  19]⟩]).seq C.ret) C.skip))).seq ((C.ops [⟨some 20, none, .mv, [.t 0]⟩, ⟨some 21, none, .mv, [.t 1]⟩, ⟨some 22, none, .call 39 true, [.t 20, .t 21]⟩, ⟨some 8, none, .alloc 1 29
  [.nl], []⟩, ⟨none, none, .store 1, [.t 8, .t 22]⟩]).seq (((C.ops [⟨some 23, none, .load none, [.t 8]⟩, ⟨some 24, none, .idxA 1, [.t 23, .c (.int .i64 0)]⟩, ⟨some 25, none, .load
  none, [.t 24]⟩, ⟨some 26, none, .bin .lss, [.t 25, .c (.int .i64 0)]⟩]).seq (C.cond (.t 26) ((C.ops [⟨some 4, none, .nilo 0 1 3, []⟩, ⟨some 5, none, .mv, [.c (.int .i64 0)]⟩, ⟨some
  6, none, .mv, [.c (.int .i64 23)]⟩]).seq C.ret) C.skip)).seq ((C.ops [⟨some 9, none, .alloc 2 29 [.nl], []⟩]).seq (((C.ops [⟨some 10, none, .alloc 3 3 [.int .i64 0], []⟩, ⟨none,
  none, .store 1, [.t 10, .c (.int .i64 0)]⟩]).seq (C.block 0 (((C.ops [⟨some 27, none, .load none, [.t 9]⟩, ⟨some 28, none, .len, [.t 27]⟩, ⟨some 29, none, .bin .eql, [.t 28, .c
  (.int .i64 0)]⟩, ⟨some 30, none, .mv, [.t 29]⟩, ⟨some 31, some (30, false), .load none, [.t 9]⟩, ⟨some 32, some (30, false), .load none, [.t 9]⟩, ⟨some 33, some (30, false), .len,
  [.t 32]⟩, ⟨some 34, some (30, false), .bin .sub, [.t 33, .c (.int .i64 1)]⟩, ⟨some 35, some (30, false), .idxA 1, [.t 31, .t 34]⟩, ⟨some 36, some (30, false), .load none, [.t 35]⟩,
  ⟨some 37, some (30, false), .mv, [.t 0]⟩, ⟨some 38, some (30, false), .len, [.t 37]⟩, ⟨some 39, some (30, false), .bin .lss, [.t 36, .t 38]⟩, ⟨some 40, none, .pick, [.t 30, .c
  (.bool true), .t 39]⟩]).seq (C.cond (.t 40) C.skip (C.exit 0))).seq ((C.block 1 ((C.ops [⟨some 41, none, .mv, [.t 0]⟩, ⟨some 42, none, .mv, [.t 1]⟩, ⟨some 43, none, .load none, [.t
  10]⟩, ⟨some 44, none, .call 40 true, [.t 41, .t 42, .t 43]⟩]).seq (C.block 2 (C.range (.t 44) [45, 46] ((C.ops [⟨some 11, none, .mv, [.t 45]⟩]).seq (C.ops [⟨some 12, none, .mv, [.t
  46]⟩])) (C.block 3 ((C.ops [⟨some 47, none, .load none, [.t 8]⟩, ⟨some 48, none, .mv, [.t 11]⟩, ⟨some 49, none, .call 41 true, [.t 47, .t 48]⟩, ⟨some 13, none, .mv, [.t 49]⟩]).seq
  ((C.ops [⟨some 50, none, .mv, [.t 13]⟩, ⟨some 51, none, .bin .geq, [.t 50, .c (.int .i64 0)]⟩, ⟨some 52, none, .mv, [.t 51]⟩, ⟨some 53, some (52, true), .mv, [.t 12]⟩, ⟨some 54,
  some (52, true), .mv, [.t 13]⟩, ⟨some 55, some (52, true), .bin .add, [.t 53, .t 54]⟩, ⟨some 56, some (52, true), .load none, [.t 8]⟩, ⟨some 57, some (52, true), .load none, [.t
  10]⟩, ⟨some 58, some (52, true), .idxA 1, [.t 56, .t 57]⟩, ⟨some 59, some (52, true), .load none, [.t 58]⟩, ⟨some 60, some (52, true), .bin .eql, [.t 55, .t 59]⟩, ⟨some 61, none,
  .pick, [.t 52, .t 60, .c (.bool false)]⟩]).seq (C.cond (.t 61) ((C.ops [⟨some 62, none, .load none, [.t 9]⟩, ⟨some 63, none, .mv, [.t 11]⟩, ⟨some 64, none, .bslc 4 1 1 3 [.int .i64
  0] [(0, 1)], [.t 63]⟩, ⟨some 65, none, .app 5 1 3 8, [.t 62, .t 64]⟩, ⟨none, none, .store 1, [.t 9, .t 65]⟩]).seq ((C.ops [⟨some 66, none, .mv, [.t 11]⟩, ⟨some 67, none, .bin .add,
  [.t 66, .c (.int .i64 1)]⟩, ⟨none, none, .store 1, [.t 10, .t 67]⟩]).seq (C.exit 2))) C.skip)))))))).seq ((C.ops [⟨some 68, none, .load none, [.t 10]⟩]).seq (C.ops [⟨some 10, none,
  .alloc 3 3 [.int .i64 0], []⟩, ⟨none, none, .store 1, [.t 10, .t 68]⟩])))).loop)).seq ((C.ops [⟨some 69, none, .load none, [.t 9]⟩, ⟨some 70, none, .load none, [.t 8]⟩, ⟨some 71,
  none, .idxA 1, [.t 70, .c (.int .i64 0)]⟩, ⟨some 72, none, .load none, [.t 71]⟩, ⟨some 4, none, .mv, [.t 69]⟩, ⟨some 5, none, .mv, [.t 72]⟩, ⟨some 6, none, .mv, [.c (.int .i64
  0)]⟩]).seq
  C.ret)))))))
theorem fn13 : FnIs Try.prog 13 73 6 [RV.tmp 4, RV.tmp 5, RV.tmp 6] c13 := ⟨Try.f13, Try.f13.body.getD .skip, [4, 8, 9, 10, 64, 65], [77], [], by kernel_rfl, by kernel_rfl, by kernel_rfl, by kernel_rfl, by kernel_rfl, by kernel_rfl, by kernel_rfl⟩
/-- apograph/apographref48.Great -/
def c22 : C :=
  ((C.ops [⟨some 2, none, .mv, [.c (.bool false)]⟩]).seq (((C.ops [⟨some 3, none, .mv, [.c (.int .i64 0)]⟩]).seq (C.block 0 (((C.ops [⟨some 4, none, .mv, [.t 3]⟩, ⟨some 5, none, .mv,
  [.t 0]⟩, ⟨some 6, none, .len, [.t 5]⟩, ⟨some 7, none, .bin .lss, [.t 4, .t 6]⟩]).seq (C.cond (.t 7) C.skip (C.exit 0))).seq ((C.block 1 ((C.ops [⟨some 10, none, .mv, [.t 0]⟩, ⟨some
  11, none, .mv, [.t 3]⟩, ⟨some 12, none, .idxA 6, [.t 10, .t 11]⟩, ⟨some 13, none, .fldA 5, [.t 12]⟩, ⟨some 14, none, .load none, [.t 13]⟩, ⟨some 15, none, .slen, [.t 14]⟩, ⟨some
  16, none, .bin .gtr, [.t 15, .c (.int .i64 20)]⟩]).seq (C.cond (.t 16) ((C.ops [⟨some 2, none, .mv, [.c (.bool true)]⟩]).seq C.ret) C.skip))).seq (C.ops [⟨some 8, none, .mv, [.t
  3]⟩, ⟨some 9, none, .bin .add, [.t 8, .c (.int .i64 1)]⟩, ⟨some 3, none, .mv, [.t 9]⟩]))).loop)).seq ((C.ops [⟨some 17, none, .mv, [.t 0]⟩, ⟨some 18, none, .len, [.t 17]⟩, ⟨some
  19, none, .bin .gtr, [.t 18, .c (.int .i64 14)]⟩, ⟨some 2, none, .mv, [.t 19]⟩]).seq
  C.ret)))
theorem fn22 : FnIs Try.prog 22 20 0 [RV.tmp 2] c22 := ⟨Try.f22, Try.f22.body.getD .skip, [], [77], [], by kernel_rfl, by kernel_rfl, by kernel_rfl, by kernel_rfl, by kernel_rfl, by kernel_rfl, by kernel_rfl⟩
/-- slices.Equal[[]int,int] -/
def c28 : C :=
  ((C.ops [⟨some 4, none, .mv, [.c (.bool false)]⟩]).seq (((C.ops [⟨some 6, none, .mv, [.t 0]⟩, ⟨some 7, none, .len, [.t 6]⟩, ⟨some 8, none, .mv, [.t 1]⟩, ⟨some 9, none, .len, [.t
  8]⟩, ⟨some 10, none, .bin .neq, [.t 7, .t 9]⟩]).seq (C.cond (.t 10) ((C.ops [⟨some 4, none, .mv, [.c (.bool false)]⟩]).seq C.ret) C.skip)).seq (((C.ops [⟨some 11, none, .mv, [.t
  0]⟩, ⟨some 12, none, .len, [.t 11]⟩, ⟨some 13, none, .mv, [.c (.int .i64 0)]⟩]).seq (C.block 0 ((C.ops [⟨some 14, none, .bin .lss, [.t 13, .t 12]⟩]).seq ((C.cond (.t 14) C.skip
  (C.exit 0)).seq ((C.block 1 ((C.ops [⟨some 15, none, .mv, [.t 13]⟩, ⟨some 5, none, .mv, [.t 15]⟩]).seq ((C.ops [⟨some 16, none, .mv, [.t 0]⟩, ⟨some 17, none, .mv, [.t 5]⟩, ⟨some
  18, none, .idxA 1, [.t 16, .t 17]⟩, ⟨some 19, none, .load none, [.t 18]⟩, ⟨some 20, none, .mv, [.t 1]⟩, ⟨some 21, none, .mv, [.t 5]⟩, ⟨some 22, none, .idxA 1, [.t 20, .t 21]⟩,
  ⟨some 23, none, .load none, [.t 22]⟩, ⟨some 24, none, .bin .neq, [.t 19, .t 23]⟩]).seq (C.cond (.t 24) ((C.ops [⟨some 4, none, .mv, [.c (.bool false)]⟩]).seq C.ret) C.skip)))).seq
  (C.ops [⟨some 25, none, .bin .add, [.t 13, .c (.int .i64 1)]⟩, ⟨some 13, none, .mv, [.t 25]⟩])))).loop)).seq ((C.ops [⟨some 4, none, .mv, [.c (.bool true)]⟩]).seq
  C.ret))))
theorem fn28 : FnIs Try.prog 28 26 0 [RV.tmp 4] c28 := ⟨Try.f28, Try.f28.body.getD .skip, [], [77], [], by kernel_rfl, by kernel_rfl, by kernel_rfl, by kernel_rfl, by kernel_rfl, by kernel_rfl, by kernel_rfl⟩
/-- apograph/apographlaw48.great -/
def c31 : C :=
  ((C.ops [⟨some 1, none, .box 0 62, [.t 0]⟩, ⟨some 2, none, .mv, [.c (.bool false)]⟩]).seq ((C.ops [⟨some 3, none, .fldA 13, [.t 1]⟩, ⟨some 4, none, .load none, [.t 3]⟩, ⟨some 5,
  none, .len, [.t 4]⟩, ⟨some 6, none, .bin .gtr, [.t 5, .c (.int .i64 5)]⟩, ⟨some 7, none, .mv, [.t 6]⟩, ⟨some 8, some (7, false), .fldA 14, [.t 1]⟩, ⟨some 9, some (7, false), .load
  none, [.t 8]⟩, ⟨some 10, some (7, false), .len, [.t 9]⟩, ⟨some 11, some (7, false), .bin .gtr, [.t 10, .c (.int .i64 6)]⟩, ⟨some 12, none, .pick, [.t 7, .c (.bool true), .t 11]⟩,
  ⟨some 13, none, .mv, [.t 12]⟩, ⟨some 14, some (13, false), .fldA 14, [.t 1]⟩, ⟨some 15, some (13, false), .load none, [.t 14]⟩, ⟨some 16, some (13, false), .call 59 true, [.t 15,
  .c (.fn (Fn.func 60) [] [])]⟩, ⟨some 17, none, .pick, [.t 13, .c (.bool true), .t 16]⟩, ⟨some 18, none, .mv, [.t 17]⟩, ⟨some 19, some (18, false), .fldA 13, [.t 1]⟩, ⟨some 20, some
  (18, false), .load none, [.t 19]⟩, ⟨some 21, some (18, false), .call 61 true, [.t 20, .c (.fn (Fn.func 62) [] [])]⟩, ⟨some 22, none, .pick, [.t 18, .c (.bool true), .t 21]⟩, ⟨some
  2, none, .mv, [.t 22]⟩]).seq
  C.ret))
theorem fn31 : FnIs Try.prog 31 23 1 [RV.tmp 2] c31 := ⟨Try.f31, Try.f31.body.getD .skip, [1], [77], [], by kernel_rfl, by kernel_rfl, by kernel_rfl, by kernel_rfl, by kernel_rfl, by kernel_rfl, by kernel_rfl⟩
/-- apograph/paragraph.potentials -/
def c39 : C :=
  ((C.ops [⟨some 4, none, .nilo 0 1 3, []⟩]).seq ((C.ops [⟨some 11, none, .mv, [.t 0]⟩, ⟨some 12, none, .len, [.t 11]⟩, ⟨some 13, none, .bin .add, [.t 12, .c (.int .i64 1)]⟩, ⟨some
  14, none, .mkslc 1 1 3 [.int .i64 0] 8, [.t 13, .t 13]⟩, ⟨some 5, none, .alloc 2 29 [.nl], []⟩, ⟨none, none, .store 1, [.t 5, .t 14]⟩]).seq (((C.ops [⟨some 15, none, .mv, [.t 0]⟩,
  ⟨some 16, none, .len, [.t 15]⟩, ⟨some 6, none, .mv, [.t 16]⟩]).seq (C.block 0 (((C.ops [⟨some 17, none, .mv, [.t 6]⟩, ⟨some 18, none, .bin .geq, [.t 17, .c (.int .i64 0)]⟩]).seq
  (C.cond (.t 18) C.skip (C.exit 0))).seq ((C.block 1 ((C.ops [⟨some 7, none, .alloc 3 3 [.int .i64 0], []⟩, ⟨none, none, .store 1, [.t 7, .c (.int .i64 (-1))]⟩]).seq (((C.ops [⟨some
  21, none, .mv, [.t 0]⟩, ⟨some 22, none, .mv, [.t 1]⟩, ⟨some 23, none, .mv, [.t 6]⟩, ⟨some 24, none, .call 40 true, [.t 21, .t 22, .t 23]⟩]).seq (C.block 2 (C.range (.t 24) [25, 26]
  ((C.ops [⟨some 8, none, .mv, [.t 25]⟩]).seq (C.ops [⟨some 9, none, .mv, [.t 26]⟩])) (C.block 3 ((C.ops [⟨some 27, none, .load none, [.t 5]⟩, ⟨some 28, none, .mv, [.t 8]⟩, ⟨some 29,
  none, .call 41 true, [.t 27, .t 28]⟩, ⟨some 10, none, .mv, [.t 29]⟩]).seq ((C.ops [⟨some 30, none, .mv, [.t 10]⟩, ⟨some 31, none, .bin .geq, [.t 30, .c (.int .i64 0)]⟩, ⟨some 32,
  none, .mv, [.t 31]⟩, ⟨some 33, some (32, true), .load none, [.t 7]⟩, ⟨some 34, some (32, true), .bin .lss, [.t 33, .c (.int .i64 0)]⟩, ⟨some 35, some (32, true), .mv, [.t 34]⟩,
  ⟨some 36, some (35, false), .mv, [.t 9]⟩, ⟨some 37, some (35, false), .mv, [.t 10]⟩, ⟨some 38, some (35, false), .bin .add, [.t 36, .t 37]⟩, ⟨some 39, some (35, false), .load none,
  [.t 7]⟩, ⟨some 40, some (35, false), .bin .lss, [.t 38, .t 39]⟩, ⟨some 41, some (32, true), .pick, [.t 35, .c (.bool true), .t 40]⟩, ⟨some 42, none, .pick, [.t 32, .t 41, .c (.bool
  false)]⟩]).seq (C.cond (.t 42) (C.ops [⟨some 43, none, .mv, [.t 9]⟩, ⟨some 44, none, .mv, [.t 10]⟩, ⟨some 45, none, .bin .add, [.t 43, .t 44]⟩, ⟨none, none, .store 1, [.t 7, .t
  45]⟩]) C.skip))))))).seq (C.ops [⟨some 46, none, .load none, [.t 5]⟩, ⟨some 47, none, .mv, [.t 6]⟩, ⟨some 48, none, .load none, [.t 7]⟩, ⟨some 49, none, .idxA 1, [.t 46, .t 47]⟩,
  ⟨none, none, .store 1, [.t 49, .t 48]⟩])))).seq (C.ops [⟨some 19, none, .mv, [.t 6]⟩, ⟨some 20, none, .bin .sub, [.t 19, .c (.int .i64 1)]⟩, ⟨some 6, none, .mv, [.t
  20]⟩]))).loop)).seq ((C.ops [⟨some 50, none, .load none, [.t 5]⟩, ⟨some 4, none, .mv, [.t 50]⟩]).seq
  C.ret))))
theorem fn39 : FnIs Try.prog 39 51 4 [RV.tmp 4] c39 := ⟨Try.f39, Try.f39.body.getD .skip, [4, 14, 5, 7], [77], [], by kernel_rfl, by kernel_rfl, by kernel_rfl, by kernel_rfl, by kernel_rfl, by kernel_rfl, by kernel_rfl⟩
/-- apograph/paragraph.lines -/
def c40 : C :=
  ((C.ops [⟨some 3, none, .box 0 22, [.t 0]⟩, ⟨some 4, none, .box 1 3, [.t 1]⟩, ⟨some 5, none, .box 2 3, [.t 2]⟩, ⟨some 6, none, .mv, [.c .nilfn]⟩]).seq ((C.ops [⟨some 7, none, .mkfn
  (Fn.func 74) 0, [.t 3, .t 5, .t 4]⟩, ⟨some 6, none, .mv, [.t 7]⟩]).seq
  C.ret))
theorem fn40 : FnIs Try.prog 40 8 3 [RV.tmp 6] c40 := ⟨Try.f40, Try.f40.body.getD .skip, [3, 4, 5], [77], [], by kernel_rfl, by kernel_rfl, by kernel_rfl, by kernel_rfl, by kernel_rfl, by kernel_rfl, by kernel_rfl⟩
/-- apograph/paragraph.behind -/
def c41 : C :=
  ((C.ops [⟨some 4, none, .mv, [.c (.int .i64 0)]⟩]).seq (((C.ops [⟨some 5, none, .mv, [.t 1]⟩, ⟨some 6, none, .mv, [.t 0]⟩, ⟨some 7, none, .len, [.t 6]⟩, ⟨some 8, none, .bin .sub,
  [.t 7, .c (.int .i64 1)]⟩, ⟨some 9, none, .bin .eql, [.t 5, .t 8]⟩]).seq (C.cond (.t 9) ((C.ops [⟨some 4, none, .mv, [.c (.int .i64 0)]⟩]).seq C.ret) C.skip)).seq ((C.ops [⟨some
  10, none, .mv, [.t 0]⟩, ⟨some 11, none, .mv, [.t 1]⟩, ⟨some 12, none, .bin .add, [.t 11, .c (.int .i64 1)]⟩, ⟨some 13, none, .idxA 1, [.t 10, .t 12]⟩, ⟨some 14, none, .load none,
  [.t 13]⟩, ⟨some 4, none, .mv, [.t 14]⟩]).seq
  C.ret)))
theorem fn41 : FnIs Try.prog 41 15 0 [RV.tmp 4] c41 := ⟨Try.f41, Try.f41.body.getD .skip, [], [77], [], by kernel_rfl, by kernel_rfl, by kernel_rfl, by kernel_rfl, by kernel_rfl, by kernel_rfl, by kernel_rfl⟩
/-- apograph/paragraph.ends -/
def c42 : C :=
  ((C.ops [⟨some 4, none, .mv, [.c (.bool false)]⟩]).seq (((C.ops [⟨some 5, none, .mv, [.t 1]⟩, ⟨some 6, none, .mv, [.t 0]⟩, ⟨some 7, none, .len, [.t 6]⟩, ⟨some 8, none, .bin .eql,
  [.t 5, .t 7]⟩]).seq (C.cond (.t 8) ((C.ops [⟨some 4, none, .mv, [.c (.bool true)]⟩]).seq C.ret) C.skip)).seq (((C.ops [⟨some 9, none, .mv, [.t 0]⟩, ⟨some 10, none, .mv, [.t 1]⟩,
  ⟨some 11, none, .idxA 6, [.t 9, .t 10]⟩, ⟨some 12, none, .fldA 0, [.t 11]⟩, ⟨some 13, none, .load none, [.t 12]⟩]).seq (C.block 0 ((C.ops [⟨some 15, none, .bin .eql, [.t 13, .c
  (.int .i64 2)]⟩, ⟨some 14, none, .mv, [.t 15]⟩]).seq (C.cond (.t 14) ((C.ops [⟨some 16, none, .mv, [.t 1]⟩, ⟨some 17, none, .bin .gtr, [.t 16, .c (.int .i64 0)]⟩, ⟨some 18, none,
  .mv, [.t 17]⟩, ⟨some 19, some (18, true), .mv, [.t 0]⟩, ⟨some 20, some (18, true), .mv, [.t 1]⟩, ⟨some 21, some (18, true), .bin .sub, [.t 20, .c (.int .i64 1)]⟩, ⟨some 22, some
  (18, true), .idxA 6, [.t 19, .t 21]⟩, ⟨some 23, some (18, true), .fldA 0, [.t 22]⟩, ⟨some 24, some (18, true), .load none, [.t 23]⟩, ⟨some 25, some (18, true), .bin .eql, [.t 24,
  .c (.int .i64 1)]⟩, ⟨some 26, none, .pick, [.t 18, .t 25, .c (.bool false)]⟩, ⟨some 4, none, .mv, [.t 26]⟩]).seq C.ret) ((C.ops [⟨some 28, none, .bin .eql, [.t 13, .c (.int .i64
  3)]⟩, ⟨some 27, none, .mv, [.t 28]⟩]).seq (C.cond (.t 27) ((C.ops [⟨some 29, none, .mv, [.t 0]⟩, ⟨some 30, none, .mv, [.t 1]⟩, ⟨some 31, none, .idxA 6, [.t 29, .t 30]⟩, ⟨some 32,
  none, .fldA 4, [.t 31]⟩, ⟨some 33, none, .load none, [.t 32]⟩, ⟨some 34, none, .bin .neq, [.t 33, .c (.int .i64 10000)]⟩, ⟨some 4, none, .mv, [.t 34]⟩]).seq C.ret) C.skip)))))).seq
  ((C.ops [⟨some 4, none, .mv, [.c (.bool false)]⟩]).seq
  C.ret))))
theorem fn42 : FnIs Try.prog 42 35 0 [RV.tmp 4] c42 := ⟨Try.f42, Try.f42.body.getD .skip, [], [77], [], by kernel_rfl, by kernel_rfl, by kernel_rfl, by kernel_rfl, by kernel_rfl, by kernel_rfl, by kernel_rfl⟩
/-- apograph/paragraph.forced -/
def c43 : C :=
  ((C.ops [⟨some 4, none, .mv, [.c (.bool false)]⟩]).seq ((C.ops [⟨some 5, none, .mv, [.t 1]⟩, ⟨some 6, none, .mv, [.t 0]⟩, ⟨some 7, none, .len, [.t 6]⟩, ⟨some 8, none, .bin .lss,
  [.t 5, .t 7]⟩, ⟨some 9, none, .mv, [.t 8]⟩, ⟨some 10, some (9, true), .mv, [.t 0]⟩, ⟨some 11, some (9, true), .mv, [.t 1]⟩, ⟨some 12, some (9, true), .idxA 6, [.t 10, .t 11]⟩,
  ⟨some 13, some (9, true), .fldA 0, [.t 12]⟩, ⟨some 14, some (9, true), .load none, [.t 13]⟩, ⟨some 15, some (9, true), .bin .eql, [.t 14, .c (.int .i64 3)]⟩, ⟨some 16, none, .pick,
  [.t 9, .t 15, .c (.bool false)]⟩, ⟨some 17, none, .mv, [.t 16]⟩, ⟨some 18, some (17, true), .mv, [.t 0]⟩, ⟨some 19, some (17, true), .mv, [.t 1]⟩, ⟨some 20, some (17, true), .idxA
  6, [.t 18, .t 19]⟩, ⟨some 21, some (17, true), .fldA 4, [.t 20]⟩, ⟨some 22, some (17, true), .load none, [.t 21]⟩, ⟨some 23, some (17, true), .bin .eql, [.t 22, .c (.int .i64
  (-10000))]⟩, ⟨some 24, none, .pick, [.t 17, .t 23, .c (.bool false)]⟩, ⟨some 4, none, .mv, [.t 24]⟩]).seq
  C.ret))
theorem fn43 : FnIs Try.prog 43 25 0 [RV.tmp 4] c43 := ⟨Try.f43, Try.f43.body.getD .skip, [], [77], [], by kernel_rfl, by kernel_rfl, by kernel_rfl, by kernel_rfl, by kernel_rfl, by kernel_rfl, by kernel_rfl⟩
/-- apograph/paragraph.penalty -/
def c45 : C :=
  ((C.ops [⟨some 4, none, .mv, [.c (.int .i64 0)]⟩]).seq (((C.ops [⟨some 5, none, .mv, [.t 1]⟩, ⟨some 6, none, .mv, [.t 0]⟩, ⟨some 7, none, .len, [.t 6]⟩, ⟨some 8, none, .bin .lss,
  [.t 5, .t 7]⟩, ⟨some 9, none, .mv, [.t 8]⟩, ⟨some 10, some (9, true), .mv, [.t 0]⟩, ⟨some 11, some (9, true), .mv, [.t 1]⟩, ⟨some 12, some (9, true), .idxA 6, [.t 10, .t 11]⟩,
  ⟨some 13, some (9, true), .fldA 0, [.t 12]⟩, ⟨some 14, some (9, true), .load none, [.t 13]⟩, ⟨some 15, some (9, true), .bin .eql, [.t 14, .c (.int .i64 3)]⟩, ⟨some 16, none, .pick,
  [.t 9, .t 15, .c (.bool false)]⟩, ⟨some 17, none, .mv, [.t 16]⟩, ⟨some 18, some (17, true), .mv, [.t 0]⟩, ⟨some 19, some (17, true), .mv, [.t 1]⟩, ⟨some 20, some (17, true), .call
  43 true, [.t 18, .t 19]⟩, ⟨some 21, some (17, true), .un UnOp.not, [.t 20]⟩, ⟨some 22, none, .pick, [.t 17, .t 21, .c (.bool false)]⟩]).seq (C.cond (.t 22) ((C.ops [⟨some 23, none,
  .mv, [.t 0]⟩, ⟨some 24, none, .mv, [.t 1]⟩, ⟨some 25, none, .idxA 6, [.t 23, .t 24]⟩, ⟨some 26, none, .fldA 4, [.t 25]⟩, ⟨some 27, none, .load none, [.t 26]⟩, ⟨some 4, none, .mv,
  [.t 27]⟩]).seq C.ret) C.skip)).seq ((C.ops [⟨some 4, none, .mv, [.c (.int .i64 0)]⟩]).seq
  C.ret)))
theorem fn45 : FnIs Try.prog 45 28 0 [RV.tmp 4] c45 := ⟨Try.f45, Try.f45.body.getD .skip, [], [77], [], by kernel_rfl, by kernel_rfl, by kernel_rfl, by kernel_rfl, by kernel_rfl, by kernel_rfl, by kernel_rfl⟩
/-- apograph/paragraph.lines$1 -/
def c74 : C :=
  ((C.ops [⟨some 5, none, .alloc 0 106 [.int .i64 0, .int .i64 0, .int .i64 0], []⟩]).seq ((C.ops [⟨some 11, none, .load none, [.t 1]⟩, ⟨some 12, none, .load none, [.t 2]⟩, ⟨some 13,
  none, .load none, [.t 1]⟩, ⟨some 14, none, .len, [.t 13]⟩, ⟨some 15, none, .call 75 true, [.t 11, .t 12, .t 14]⟩, ⟨some 6, none, .mv, [.t 15]⟩]).seq ((C.ops [⟨some 16, none, .load
  none, [.t 2]⟩, ⟨some 7, none, .mv, [.t 16]⟩]).seq (C.block 0 (((C.ops [⟨some 17, none, .mv, [.t 7]⟩, ⟨some 18, none, .load none, [.t 1]⟩, ⟨some 19, none, .len, [.t 18]⟩, ⟨some 20,
  none, .bin .leq, [.t 17, .t 19]⟩]).seq (C.cond (.t 20) C.skip (C.exit 0))).seq ((C.block 1 (((C.ops [⟨some 23, none, .load none, [.t 1]⟩, ⟨some 24, none, .mv, [.t 7]⟩, ⟨some 25,
  none, .call 42 true, [.t 23, .t 24]⟩]).seq (C.cond (.t 25) ((C.ops [⟨some 27, none, .load none, [.t 1]⟩, ⟨some 28, none, .load none, [.t 3]⟩, ⟨some 29, none, .load (some 3), [.t
  5]⟩, ⟨some 30, none, .mv, [.t 7]⟩, ⟨some 31, none, .call 76 true, [.t 27, .t 28, .t 29, .t 30]⟩, ⟨some 26, none, .mv, [.t 31]⟩, ⟨some 32, none, .ext 0, [.t 26]⟩, ⟨some 33, none,
  .ext 1, [.t 26]⟩, ⟨some 34, none, .ext 2, [.t 26]⟩, ⟨some 8, none, .mv, [.t 32]⟩, ⟨some 9, none, .mv, [.t 33]⟩, ⟨some 10, none, .mv, [.t 34]⟩]).seq ((C.ops [⟨some 35, none, .mv,
  [.t 10]⟩, ⟨some 36, none, .mv, [.t 35]⟩, ⟨some 37, some (36, true), .mv, [.t 0]⟩, ⟨some 38, some (36, true), .mv, [.t 7]⟩, ⟨some 39, some (36, true), .mv, [.t 8]⟩, ⟨some 40, some
  (36, true), .load none, [.t 1]⟩, ⟨some 41, some (36, true), .mv, [.t 7]⟩, ⟨some 42, some (36, true), .call 45 true, [.t 40, .t 41]⟩, ⟨some 43, some (36, true), .bin .add, [.t 39,
  .t 42]⟩, ⟨some 44, some (36, true), .callv, [.t 37, .t 38, .t 43]⟩, ⟨some 45, some (36, true), .un UnOp.not, [.t 44]⟩, ⟨some 46, none, .pick, [.t 36, .t 45, .c (.bool
  false)]⟩]).seq (C.cond (.t 46) C.ret C.skip))) C.skip)).seq (((C.ops [⟨some 47, none, .load none, [.t 1]⟩, ⟨some 48, none, .mv, [.t 7]⟩, ⟨some 49, none, .call 43 true, [.t 47, .t
  48]⟩]).seq (C.cond (.t 49) C.ret C.skip)).seq ((C.ops [⟨some 50, none, .mv, [.t 7]⟩, ⟨some 51, none, .load none, [.t 1]⟩, ⟨some 52, none, .len, [.t 51]⟩, ⟨some 53, none, .bin .lss,
  [.t 50, .t 52]⟩, ⟨some 54, none, .mv, [.t 53]⟩, ⟨some 55, some (54, true), .mv, [.t 7]⟩, ⟨some 56, some (54, true), .mv, [.t 6]⟩, ⟨some 57, some (54, true), .bin .geq, [.t 55, .t
  56]⟩, ⟨some 58, none, .pick, [.t 54, .t 57, .c (.bool false)]⟩]).seq (C.cond (.t 58) (C.ops [⟨some 59, none, .load none, [.t 1]⟩, ⟨some 60, none, .mv, [.t 7]⟩, ⟨some 61, none,
  .idxA 6, [.t 59, .t 60]⟩, ⟨some 62, none, .load (some 6), [.t 61]⟩, ⟨some 63, none, .call 77 false, [.t 5, .t 62]⟩]) C.skip))))).seq (C.ops [⟨some 21, none, .mv, [.t 7]⟩, ⟨some 22,
  none, .bin .add, [.t 21, .c (.int .i64 1)]⟩, ⟨some 7, none, .mv, [.t
  22]⟩]))).loop))))
theorem fn74 : FnIs Try.prog 74 64 1 [] c74 := ⟨Try.f74, Try.f74.body.getD .skip, [5], [77], [], by kernel_rfl, by kernel_rfl, by kernel_rfl, by kernel_rfl, by kernel_rfl, by kernel_rfl, by kernel_rfl⟩
/-- apograph/paragraph.begin -/
def c75 : C :=
  ((C.ops [⟨some 6, none, .mv, [.c (.int .i64 0)]⟩]).seq ((C.block 0 (((C.ops [⟨some 7, none, .mv, [.t 1]⟩, ⟨some 8, none, .mv, [.t 2]⟩, ⟨some 9, none, .bin .lss, [.t 7, .t 8]⟩,
  ⟨some 10, none, .mv, [.t 9]⟩, ⟨some 11, some (10, true), .mv, [.t 0]⟩, ⟨some 12, some (10, true), .mv, [.t 1]⟩, ⟨some 13, some (10, true), .idxA 6, [.t 11, .t 12]⟩, ⟨some 14, some
  (10, true), .fldA 0, [.t 13]⟩, ⟨some 15, some (10, true), .load none, [.t 14]⟩, ⟨some 16, some (10, true), .bin .eql, [.t 15, .c (.int .i64 2)]⟩, ⟨some 17, none, .pick, [.t 10, .t
  16, .c (.bool false)]⟩]).seq (C.cond (.t 17) C.skip (C.exit 0))).seq (C.block 1 (C.ops [⟨some 18, none, .mv, [.t 1]⟩, ⟨some 19, none, .bin .add, [.t 18, .c (.int .i64 1)]⟩, ⟨some
  1, none, .mv, [.t 19]⟩]))).loop).seq ((C.ops [⟨some 20, none, .mv, [.t 1]⟩, ⟨some 6, none, .mv, [.t 20]⟩]).seq
  C.ret)))
theorem fn75 : FnIs Try.prog 75 21 0 [RV.tmp 6] c75 := ⟨Try.f75, Try.f75.body.getD .skip, [], [77], [], by kernel_rfl, by kernel_rfl, by kernel_rfl, by kernel_rfl, by kernel_rfl, by kernel_rfl, by kernel_rfl⟩
/-- apograph/paragraph.fit -/
def c76 : C :=
  ((C.ops [⟨some 6, none, .box 0 106, [.t 2]⟩, ⟨some 8, none, .mv, [.c (.int .i64 0)]⟩, ⟨some 9, none, .mv, [.c (.int .i64 0)]⟩, ⟨some 10, none, .mv, [.c (.bool false)]⟩]).seq
  (((C.ops [⟨some 11, none, .mv, [.t 3]⟩, ⟨some 12, none, .mv, [.t 0]⟩, ⟨some 13, none, .len, [.t 12]⟩, ⟨some 14, none, .bin .lss, [.t 11, .t 13]⟩, ⟨some 15, none, .mv, [.t 14]⟩,
  ⟨some 16, some (15, true), .mv, [.t 0]⟩, ⟨some 17, some (15, true), .mv, [.t 3]⟩, ⟨some 18, some (15, true), .idxA 6, [.t 16, .t 17]⟩, ⟨some 19, some (15, true), .fldA 0, [.t 18]⟩,
  ⟨some 20, some (15, true), .load none, [.t 19]⟩, ⟨some 21, some (15, true), .bin .eql, [.t 20, .c (.int .i64 3)]⟩, ⟨some 22, none, .pick, [.t 15, .t 21, .c (.bool false)]⟩]).seq
  (C.cond (.t 22) (C.ops [⟨some 23, none, .fldA 0, [.t 6]⟩, ⟨some 24, none, .load none, [.t 23]⟩, ⟨some 25, none, .mv, [.t 0]⟩, ⟨some 26, none, .mv, [.t 3]⟩, ⟨some 27, none, .idxA 6,
  [.t 25, .t 26]⟩, ⟨some 28, none, .fldA 1, [.t 27]⟩, ⟨some 29, none, .load none, [.t 28]⟩, ⟨some 30, none, .bin .add, [.t 24, .t 29]⟩, ⟨some 31, none, .fldA 0, [.t 6]⟩, ⟨none, none,
  .store 1, [.t 31, .t 30]⟩]) C.skip)).seq ((C.ops [⟨some 32, none, .mv, [.t 1]⟩, ⟨some 33, none, .fldA 0, [.t 6]⟩, ⟨some 34, none, .load none, [.t 33]⟩, ⟨some 35, none, .bin .sub,
  [.t 32, .t 34]⟩, ⟨some 9, none, .mv, [.t 35]⟩]).seq ((C.block 0 ((C.ops [⟨some 37, none, .mv, [.t 9]⟩, ⟨some 38, none, .bin .geq, [.t 37, .c (.int .i64 0)]⟩, ⟨some 39, none, .mv,
  [.t 38]⟩, ⟨some 40, some (39, true), .mv, [.t 3]⟩, ⟨some 41, some (39, true), .mv, [.t 0]⟩, ⟨some 42, some (39, true), .len, [.t 41]⟩, ⟨some 43, some (39, true), .bin .eql, [.t 40,
  .t 42]⟩, ⟨some 44, some (39, true), .mv, [.t 43]⟩, ⟨some 45, some (44, false), .mv, [.t 0]⟩, ⟨some 46, some (44, false), .mv, [.t 3]⟩, ⟨some 47, some (44, false), .call 43 true,
  [.t 45, .t 46]⟩, ⟨some 48, some (39, true), .pick, [.t 44, .c (.bool true), .t 47]⟩, ⟨some 49, none, .pick, [.t 39, .t 48, .c (.bool false)]⟩, ⟨some 36, none, .mv, [.t 49]⟩]).seq
  (C.cond (.t 36) ((C.ops [⟨some 8, none, .mv, [.c (.int .i64 0)]⟩, ⟨some 9, none, .mv, [.c (.int .i64 0)]⟩, ⟨some 10, none, .mv, [.c (.bool true)]⟩]).seq C.ret) ((C.ops [⟨some 51,
  none, .mv, [.t 9]⟩, ⟨some 52, none, .bin .geq, [.t 51, .c (.int .i64 0)]⟩, ⟨some 50, none, .mv, [.t 52]⟩]).seq (C.cond (.t 50) ((C.ops [⟨some 53, none, .mv, [.t 9]⟩, ⟨some 54,
  none, .fldA 1, [.t 6]⟩, ⟨some 55, none, .load none, [.t 54]⟩, ⟨some 56, none, .call 96 true, [.t 53, .t 55]⟩, ⟨some 57, none, .mv, [.t 9]⟩, ⟨some 8, none, .mv, [.t 56]⟩, ⟨some 9,
  none, .mv, [.t 57]⟩, ⟨some 10, none, .mv, [.c (.bool true)]⟩]).seq C.ret) ((C.ops [⟨some 59, none, .mv, [.t 9]⟩, ⟨some 60, none, .un UnOp.neg, [.t 59]⟩, ⟨some 61, none, .fldA 2,
  [.t 6]⟩, ⟨some 62, none, .load none, [.t 61]⟩, ⟨some 63, none, .bin .leq, [.t 60, .t 62]⟩, ⟨some 58, none, .mv, [.t 63]⟩]).seq (C.cond (.t 58) ((C.ops [⟨some 64, none, .mv, [.t
  9]⟩, ⟨some 65, none, .un UnOp.neg, [.t 64]⟩, ⟨some 66, none, .fldA 2, [.t 6]⟩, ⟨some 67, none, .load none, [.t 66]⟩, ⟨some 68, none, .call 96 true, [.t 65, .t 67]⟩, ⟨some 69, none,
  .mv, [.t 9]⟩, ⟨some 8, none, .mv, [.t 68]⟩, ⟨some 9, none, .mv, [.t 69]⟩, ⟨some 10, none, .mv, [.c (.bool true)]⟩]).seq C.ret) C.skip))))))).seq ((C.ops [⟨some 8, none, .mv, [.c
  (.int .i64 0)]⟩, ⟨some 9, none, .mv, [.c (.int .i64 0)]⟩, ⟨some 10, none, .mv, [.c (.bool false)]⟩]).seq
  C.ret)))))
theorem fn76 : FnIs Try.prog 76 70 1 [RV.tmp 8, RV.tmp 9, RV.tmp 10] c76 := ⟨Try.f76, Try.f76.body.getD .skip, [6], [77], [], by kernel_rfl, by kernel_rfl, by kernel_rfl, by kernel_rfl, by kernel_rfl, by kernel_rfl, by kernel_rfl⟩
/-- (*apograph/paragraph.measure).add -/
def c77 : C :=
  ((C.ops [⟨some 3, none, .box 0 28, [.t 1]⟩]).seq ((C.ops [⟨some 4, none, .fldA 0, [.t 3]⟩, ⟨some 5, none, .load none, [.t 4]⟩, ⟨some 6, none, .bin .neq, [.t 5, .c (.int .i64
  3)]⟩]).seq (C.cond (.t 6) ((C.ops [⟨some 7, none, .mv, [.t 0]⟩, ⟨some 8, none, .nilchk, [.t 7]⟩, ⟨some 9, none, .fldA 0, [.t 8]⟩, ⟨some 10, none, .load none, [.t 9]⟩, ⟨some 11,
  none, .fldA 1, [.t 3]⟩, ⟨some 12, none, .load none, [.t 11]⟩, ⟨some 13, none, .bin .add, [.t 10, .t 12]⟩, ⟨some 14, none, .nilchk, [.t 7]⟩, ⟨some 15, none, .fldA 0, [.t 14]⟩,
  ⟨none, none, .store 1, [.t 15, .t 13]⟩]).seq ((C.ops [⟨some 16, none, .mv, [.t 0]⟩, ⟨some 17, none, .nilchk, [.t 16]⟩, ⟨some 18, none, .fldA 1, [.t 17]⟩, ⟨some 19, none, .load
  none, [.t 18]⟩, ⟨some 20, none, .fldA 2, [.t 3]⟩, ⟨some 21, none, .load none, [.t 20]⟩, ⟨some 22, none, .bin .add, [.t 19, .t 21]⟩, ⟨some 23, none, .nilchk, [.t 16]⟩, ⟨some 24,
  none, .fldA 1, [.t 23]⟩, ⟨none, none, .store 1, [.t 24, .t 22]⟩]).seq (C.ops [⟨some 25, none, .mv, [.t 0]⟩, ⟨some 26, none, .nilchk, [.t 25]⟩, ⟨some 27, none, .fldA 2, [.t 26]⟩,
  ⟨some 28, none, .load none, [.t 27]⟩, ⟨some 29, none, .fldA 3, [.t 3]⟩, ⟨some 30, none, .load none, [.t 29]⟩, ⟨some 31, none, .bin .add, [.t 28, .t 30]⟩, ⟨some 32, none, .nilchk,
  [.t 25]⟩, ⟨some 33, none, .fldA 2, [.t 32]⟩, ⟨none, none, .store 1, [.t 33, .t 31]⟩])))
  C.skip)))
theorem fn77 : FnIs Try.prog 77 34 1 [] c77 := ⟨Try.f77, Try.f77.body.getD .skip, [3], [77], [], by kernel_rfl, by kernel_rfl, by kernel_rfl, by kernel_rfl, by kernel_rfl, by kernel_rfl, by kernel_rfl⟩
/-- apograph/fixedpoint.Badness -/
def c96 : C :=
  ((C.ops [⟨some 4, none, .mv, [.c (.int .i64 0)]⟩]).seq ((C.ops [⟨some 12, none, .mv, [.t 0]⟩, ⟨some 13, none, .conv .u64, [.t 12]⟩, ⟨some 5, none, .mv, [.t 13]⟩]).seq (((C.ops
  [⟨some 14, none, .mv, [.t 0]⟩, ⟨some 15, none, .bin .lss, [.t 14, .c (.int .i64 0)]⟩]).seq (C.cond (.t 15) (C.ops [⟨some 16, none, .mv, [.t 5]⟩, ⟨some 17, none, .un UnOp.neg, [.t
  16]⟩, ⟨some 5, none, .mv, [.t 17]⟩]) C.skip)).seq ((C.ops [⟨some 18, none, .mv, [.t 5]⟩, ⟨some 19, none, .mm false, [.t 18, .c (.int .u64 1073741824)]⟩, ⟨some 5, none, .mv, [.t
  19]⟩]).seq (((C.ops [⟨some 20, none, .mv, [.t 5]⟩, ⟨some 21, none, .bin .eql, [.t 20, .c (.int .u64 0)]⟩]).seq (C.cond (.t 21) ((C.ops [⟨some 4, none, .mv, [.c (.int .i64
  0)]⟩]).seq C.ret) C.skip)).seq (((C.ops [⟨some 22, none, .mv, [.t 1]⟩, ⟨some 23, none, .bin .leq, [.t 22, .c (.int .i64 0)]⟩]).seq (C.cond (.t 23) ((C.ops [⟨some 4, none, .mv, [.c
  (.int .i64 10000)]⟩]).seq C.ret) C.skip)).seq ((C.ops [⟨some 24, none, .mv, [.t 1]⟩, ⟨some 25, none, .mm false, [.t 24, .c (.int .i64 1073741824)]⟩, ⟨some 26, none, .conv .u64, [.t
  25]⟩, ⟨some 6, none, .mv, [.t 26]⟩]).seq ((C.ops [⟨some 27, none, .mv, [.t 6]⟩, ⟨some 28, none, .build [.int .u64 0, .int .u64 0] [(0, 1), (1, 1)], [.c (.int .u64 0), .t 27]⟩,
  ⟨some 29, none, .mv, [.t 6]⟩, ⟨some 30, none, .call 121 true, [.t 28, .t 29]⟩, ⟨some 31, none, .mv, [.t 6]⟩, ⟨some 32, none, .call 121 true, [.t 30, .t 31]⟩, ⟨some 7, none, .alloc
  0 150 [.int .u64 0, .int .u64 0], []⟩, ⟨none, none, .store 2, [.t 7, .t 32]⟩]).seq ((C.ops [⟨some 33, none, .mv, [.t 5]⟩, ⟨some 34, none, .build [.int .u64 0, .int .u64 0] [(0, 1),
  (1, 1)], [.c (.int .u64 0), .t 33]⟩, ⟨some 35, none, .mv, [.t 5]⟩, ⟨some 36, none, .call 121 true, [.t 34, .t 35]⟩, ⟨some 37, none, .mv, [.t 5]⟩, ⟨some 38, none, .call 121 true,
  [.t 36, .t 37]⟩, ⟨some 39, none, .call 121 true, [.t 38, .c (.int .u64 100)]⟩, ⟨some 8, none, .alloc 1 150 [.int .u64 0, .int .u64 0], []⟩, ⟨none, none, .store 2, [.t 8, .t
  39]⟩]).seq ((C.ops [⟨some 9, none, .mv, [.c (.int .i64 0)]⟩, ⟨some 10, none, .mv, [.c (.int .i64 10001)]⟩]).seq ((C.block 0 (((C.ops [⟨some 40, none, .mv, [.t 10]⟩, ⟨some 41, none,
  .mv, [.t 9]⟩, ⟨some 42, none, .bin .sub, [.t 40, .t 41]⟩, ⟨some 43, none, .bin .gtr, [.t 42, .c (.int .i64 1)]⟩]).seq (C.cond (.t 43) C.skip (C.exit 0))).seq (C.block 1 ((C.ops
  [⟨some 44, none, .mv, [.t 9]⟩, ⟨some 45, none, .mv, [.t 10]⟩, ⟨some 46, none, .bin .add, [.t 44, .t 45]⟩, ⟨some 47, none, .bin .quo, [.t 46, .c (.int .i64 2)]⟩, ⟨some 11, none,
  .mv, [.t 47]⟩]).seq ((C.ops [⟨some 48, none, .load (some 2), [.t 7]⟩, ⟨some 49, none, .mv, [.t 11]⟩, ⟨some 50, none, .conv .u64, [.t 49]⟩, ⟨some 51, none, .call 121 true, [.t 48,
  .t 50]⟩, ⟨some 52, none, .load (some 2), [.t 8]⟩, ⟨some 53, none, .call 122 true, [.t 51, .t 52]⟩]).seq (C.cond (.t 53) (C.ops [⟨some 54, none, .mv, [.t 11]⟩, ⟨some 10, none, .mv,
  [.t 54]⟩]) (C.ops [⟨some 55, none, .mv, [.t 11]⟩, ⟨some 9, none, .mv, [.t 55]⟩])))))).loop).seq ((C.ops [⟨some 56, none, .mv, [.t 9]⟩, ⟨some 4, none, .mv, [.t 56]⟩]).seq
  C.ret))))))))))))
theorem fn96 : FnIs Try.prog 96 57 2 [RV.tmp 4] c96 := ⟨Try.f96, Try.f96.body.getD .skip, [7, 8], [77], [], by kernel_rfl, by kernel_rfl, by kernel_rfl, by kernel_rfl, by kernel_rfl, by kernel_rfl, by kernel_rfl⟩
/-- (apograph/fixedpoint.wide).times -/
def c121 : C :=
  ((C.ops [⟨some 2, none, .box 0 150, [.t 0]⟩, ⟨some 4, none, .alloc 1 150 [.int .u64 0, .int .u64 0], []⟩]).seq ((C.ops [⟨some 8, none, .fldA 1, [.t 2]⟩, ⟨some 9, none, .load none,
  [.t 8]⟩, ⟨some 10, none, .mv, [.t 1]⟩, ⟨some 11, none, .call 133 true, [.t 9, .t 10]⟩, ⟨some 7, none, .mv, [.t 11]⟩, ⟨some 12, none, .ext 0, [.t 7]⟩, ⟨some 13, none, .ext 1, [.t
  7]⟩, ⟨some 5, none, .mv, [.t 12]⟩, ⟨some 6, none, .mv, [.t 13]⟩]).seq ((C.ops [⟨some 14, none, .mv, [.t 5]⟩, ⟨some 15, none, .fldA 0, [.t 2]⟩, ⟨some 16, none, .load none, [.t 15]⟩,
  ⟨some 17, none, .mv, [.t 1]⟩, ⟨some 18, none, .bin .mul, [.t 16, .t 17]⟩, ⟨some 19, none, .bin .add, [.t 14, .t 18]⟩, ⟨some 20, none, .mv, [.t 6]⟩, ⟨some 21, none, .build [.int
  .u64 0, .int .u64 0] [(0, 1), (1, 1)], [.t 19, .t 20]⟩, ⟨none, none, .store 2, [.t 4, .t 21]⟩]).seq
  C.ret)))
theorem fn121 : FnIs Try.prog 121 22 2 [RV.cell 4 (some 2)] c121 := ⟨Try.f121, Try.f121.body.getD .skip, [2, 4], [77], [], by kernel_rfl, by kernel_rfl, by kernel_rfl, by kernel_rfl, by kernel_rfl, by kernel_rfl, by kernel_rfl⟩
/-- (apograph/fixedpoint.wide).above -/
def c122 : C :=
  ((C.ops [⟨some 2, none, .box 0 150, [.t 0]⟩, ⟨some 3, none, .box 1 150, [.t 1]⟩, ⟨some 4, none, .mv, [.c (.bool false)]⟩]).seq (((C.ops [⟨some 5, none, .fldA 0, [.t 2]⟩, ⟨some 6,
  none, .load none, [.t 5]⟩, ⟨some 7, none, .fldA 0, [.t 3]⟩, ⟨some 8, none, .load none, [.t 7]⟩, ⟨some 9, none, .bin .neq, [.t 6, .t 8]⟩]).seq (C.cond (.t 9) ((C.ops [⟨some 10,
  none, .fldA 0, [.t 2]⟩, ⟨some 11, none, .load none, [.t 10]⟩, ⟨some 12, none, .fldA 0, [.t 3]⟩, ⟨some 13, none, .load none, [.t 12]⟩, ⟨some 14, none, .bin .gtr, [.t 11, .t 13]⟩,
  ⟨some 4, none, .mv, [.t 14]⟩]).seq C.ret) C.skip)).seq ((C.ops [⟨some 15, none, .load (some 2), [.t 2]⟩, ⟨some 16, none, .load (some 2), [.t 3]⟩, ⟨some 17, none, .aeq [.int, .int]
  true, [.t 15, .t 16]⟩, ⟨some 18, none, .mv, [.t 17]⟩, ⟨some 19, some (18, true), .fldA 1, [.t 2]⟩, ⟨some 20, some (18, true), .load none, [.t 19]⟩, ⟨some 21, some (18, true), .fldA
  1, [.t 3]⟩, ⟨some 22, some (18, true), .load none, [.t 21]⟩, ⟨some 23, some (18, true), .bin .gtr, [.t 20, .t 22]⟩, ⟨some 24, none, .pick, [.t 18, .t 23, .c (.bool false)]⟩, ⟨some
  4, none, .mv, [.t 24]⟩]).seq
  C.ret)))
theorem fn122 : FnIs Try.prog 122 25 2 [RV.tmp 4] c122 := ⟨Try.f122, Try.f122.body.getD .skip, [2, 3], [77], [], by kernel_rfl, by kernel_rfl, by kernel_rfl, by kernel_rfl, by kernel_rfl, by kernel_rfl, by kernel_rfl⟩
/-- math/bits.Mul64 -/
def c133 : C :=
  ((C.ops [⟨some 4, none, .mv, [.c (.int .u64 0)]⟩, ⟨some 5, none, .mv, [.c (.int .u64 0)]⟩]).seq ((C.ops [⟨some 14, none, .mv, [.t 0]⟩, ⟨some 15, none, .bin .and, [.t 14, .c (.int
  .u64 4294967295)]⟩, ⟨some 6, none, .mv, [.t 15]⟩]).seq ((C.ops [⟨some 16, none, .mv, [.t 0]⟩, ⟨some 17, none, .bin .shr, [.t 16, .c (.int .u64 32)]⟩, ⟨some 7, none, .mv, [.t
  17]⟩]).seq ((C.ops [⟨some 18, none, .mv, [.t 1]⟩, ⟨some 19, none, .bin .and, [.t 18, .c (.int .u64 4294967295)]⟩, ⟨some 8, none, .mv, [.t 19]⟩]).seq ((C.ops [⟨some 20, none, .mv,
  [.t 1]⟩, ⟨some 21, none, .bin .shr, [.t 20, .c (.int .u64 32)]⟩, ⟨some 9, none, .mv, [.t 21]⟩]).seq ((C.ops [⟨some 22, none, .mv, [.t 6]⟩, ⟨some 23, none, .mv, [.t 8]⟩, ⟨some 24,
  none, .bin .mul, [.t 22, .t 23]⟩, ⟨some 10, none, .mv, [.t 24]⟩]).seq ((C.ops [⟨some 25, none, .mv, [.t 7]⟩, ⟨some 26, none, .mv, [.t 8]⟩, ⟨some 27, none, .bin .mul, [.t 25, .t
  26]⟩, ⟨some 28, none, .mv, [.t 10]⟩, ⟨some 29, none, .bin .shr, [.t 28, .c (.int .u64 32)]⟩, ⟨some 30, none, .bin .add, [.t 27, .t 29]⟩, ⟨some 11, none, .mv, [.t 30]⟩]).seq ((C.ops
  [⟨some 31, none, .mv, [.t 11]⟩, ⟨some 32, none, .bin .and, [.t 31, .c (.int .u64 4294967295)]⟩, ⟨some 12, none, .mv, [.t 32]⟩]).seq ((C.ops [⟨some 33, none, .mv, [.t 11]⟩, ⟨some
  34, none, .bin .shr, [.t 33, .c (.int .u64 32)]⟩, ⟨some 13, none, .mv, [.t 34]⟩]).seq ((C.ops [⟨some 35, none, .mv, [.t 12]⟩, ⟨some 36, none, .mv, [.t 6]⟩, ⟨some 37, none, .mv, [.t
  9]⟩, ⟨some 38, none, .bin .mul, [.t 36, .t 37]⟩, ⟨some 39, none, .bin .add, [.t 35, .t 38]⟩, ⟨some 12, none, .mv, [.t 39]⟩]).seq ((C.ops [⟨some 40, none, .mv, [.t 7]⟩, ⟨some 41,
  none, .mv, [.t 9]⟩, ⟨some 42, none, .bin .mul, [.t 40, .t 41]⟩, ⟨some 43, none, .mv, [.t 13]⟩, ⟨some 44, none, .bin .add, [.t 42, .t 43]⟩, ⟨some 45, none, .mv, [.t 12]⟩, ⟨some 46,
  none, .bin .shr, [.t 45, .c (.int .u64 32)]⟩, ⟨some 47, none, .bin .add, [.t 44, .t 46]⟩, ⟨some 4, none, .mv, [.t 47]⟩]).seq ((C.ops [⟨some 48, none, .mv, [.t 0]⟩, ⟨some 49, none,
  .mv, [.t 1]⟩, ⟨some 50, none, .bin .mul, [.t 48, .t 49]⟩, ⟨some 5, none, .mv, [.t 50]⟩]).seq
  C.ret))))))))))))
theorem fn133 : FnIs Try.prog 133 51 0 [RV.tmp 4, RV.tmp 5] c133 := ⟨Try.f133, Try.f133.body.getD .skip, [], [77], [], by kernel_rfl, by kernel_rfl, by kernel_rfl, by kernel_rfl, by kernel_rfl, by kernel_rfl, by kernel_rfl⟩
end

section
/-! the text PgCode2 -/
open Go Go.Proofs AF
set_option maxRecDepth 100000
/-- apograph/paragraph.Check -/
def c35 : C :=
  ((C.ops [⟨some 2, none, .mv, [.c (.int .i64 0)]⟩]).seq (((C.ops [⟨some 7, none, .mv, [.t 0]⟩, ⟨some 8, none, .len, [.t 7]⟩, ⟨some 9, none, .bin .gtr, [.t 8, .c (.int .i64
  4096)]⟩]).seq (C.cond (.t 9) ((C.ops [⟨some 2, none, .mv, [.c (.int .i64 4)]⟩]).seq C.ret) C.skip)).seq ((C.ops [⟨some 3, none, .mv, [.c (.int .i64 0)]⟩]).seq (((C.ops [⟨some 10,
  none, .mv, [.t 0]⟩, ⟨some 11, none, .len, [.t 10]⟩, ⟨some 12, none, .mv, [.c (.int .i64 0)]⟩]).seq (C.block 0 ((C.ops [⟨some 13, none, .bin .lss, [.t 12, .t 11]⟩]).seq ((C.cond (.t
  13) C.skip (C.exit 0)).seq ((C.block 1 ((C.ops [⟨some 14, none, .idxA 6, [.t 10, .t 12]⟩, ⟨some 15, none, .load (some 6), [.t 14]⟩, ⟨some 5, none, .alloc 0 28 [.int .i64 0, .int
  .i64 0, .int .i64 0, .int .i64 0, .int .i64 0, .str []], []⟩, ⟨none, none, .store 6, [.t 5, .t 15]⟩]).seq (((C.ops [⟨some 16, none, .load (some 6), [.t 5]⟩, ⟨some 17, none, .call
  72 true, [.t 16]⟩, ⟨some 6, none, .mv, [.t 17]⟩]).seq ((C.ops [⟨some 18, none, .mv, [.t 6]⟩, ⟨some 19, none, .bin .neq, [.t 18, .c (.int .i64 0)]⟩]).seq (C.cond (.t 19) ((C.ops
  [⟨some 20, none, .mv, [.t 6]⟩, ⟨some 2, none, .mv, [.t 20]⟩]).seq C.ret) C.skip))).seq (C.ops [⟨some 21, none, .mv, [.t 3]⟩, ⟨some 22, none, .fldA 1, [.t 5]⟩, ⟨some 23, none, .load
  none, [.t 22]⟩, ⟨some 24, none, .fldA 2, [.t 5]⟩, ⟨some 25, none, .load none, [.t 24]⟩, ⟨some 26, none, .bin .add, [.t 23, .t 25]⟩, ⟨some 27, none, .fldA 3, [.t 5]⟩, ⟨some 28,
  none, .load none, [.t 27]⟩, ⟨some 29, none, .bin .add, [.t 26, .t 28]⟩, ⟨some 30, none, .bin .add, [.t 21, .t 29]⟩, ⟨some 3, none, .mv, [.t 30]⟩])))).seq (C.ops [⟨some 31, none,
  .bin .add, [.t 12, .c (.int .i64 1)]⟩, ⟨some 12, none, .mv, [.t 31]⟩])))).loop)).seq (((C.ops [⟨some 32, none, .mv, [.t 3]⟩, ⟨some 33, none, .bin .gtr, [.t 32, .c (.int .i64
  1073741824)]⟩]).seq (C.cond (.t 33) ((C.ops [⟨some 2, none, .mv, [.c (.int .i64 4)]⟩]).seq C.ret) C.skip)).seq ((C.ops [⟨some 2, none, .mv, [.c (.int .i64 0)]⟩]).seq
  C.ret))))))
theorem fn35 : FnIs Try.prog 35 34 1 [RV.tmp 2] c35 := ⟨Try.f35, Try.f35.body.getD .skip, [5], [77, 78, 79, 80, 97], [], by kernel_rfl, by kernel_rfl, by kernel_rfl, by kernel_rfl, by kernel_rfl, by kernel_rfl, by kernel_rfl⟩
/-- apograph/apographref48.Check -/
def c36 : C :=
  ((C.ops [⟨some 2, none, .mv, [.c (.int .i64 0)]⟩]).seq (((C.ops [⟨some 7, none, .mv, [.t 0]⟩, ⟨some 8, none, .len, [.t 7]⟩, ⟨some 9, none, .bin .gtr, [.t 8, .c (.int .i64
  4096)]⟩]).seq (C.cond (.t 9) ((C.ops [⟨some 2, none, .mv, [.c (.int .i64 4)]⟩]).seq C.ret) C.skip)).seq (((C.ops [⟨some 3, none, .mv, [.c (.int .i64 0)]⟩]).seq (C.block 0 (((C.ops
  [⟨some 10, none, .mv, [.t 3]⟩, ⟨some 11, none, .mv, [.t 0]⟩, ⟨some 12, none, .len, [.t 11]⟩, ⟨some 13, none, .bin .lss, [.t 10, .t 12]⟩]).seq (C.cond (.t 13) C.skip (C.exit
  0))).seq ((C.block 1 ((C.ops [⟨some 16, none, .mv, [.t 0]⟩, ⟨some 17, none, .mv, [.t 3]⟩, ⟨some 18, none, .idxA 6, [.t 16, .t 17]⟩, ⟨some 19, none, .load (some 6), [.t 18]⟩, ⟨some
  20, none, .call 73 true, [.t 19]⟩, ⟨some 4, none, .mv, [.t 20]⟩]).seq ((C.ops [⟨some 21, none, .mv, [.t 4]⟩, ⟨some 22, none, .bin .neq, [.t 21, .c (.int .i64 0)]⟩]).seq (C.cond (.t
  22) ((C.ops [⟨some 23, none, .mv, [.t 4]⟩, ⟨some 2, none, .mv, [.t 23]⟩]).seq C.ret) C.skip)))).seq (C.ops [⟨some 14, none, .mv, [.t 3]⟩, ⟨some 15, none, .bin .add, [.t 14, .c
  (.int .i64 1)]⟩, ⟨some 3, none, .mv, [.t 15]⟩]))).loop)).seq ((C.ops [⟨some 5, none, .mv, [.c (.int .i64 0)]⟩]).seq (((C.ops [⟨some 6, none, .mv, [.c (.int .i64 0)]⟩]).seq (C.block
  2 (((C.ops [⟨some 24, none, .mv, [.t 6]⟩, ⟨some 25, none, .mv, [.t 0]⟩, ⟨some 26, none, .len, [.t 25]⟩, ⟨some 27, none, .bin .lss, [.t 24, .t 26]⟩]).seq (C.cond (.t 27) C.skip
  (C.exit 2))).seq ((C.block 3 ((C.ops [⟨some 30, none, .mv, [.t 5]⟩, ⟨some 31, none, .mv, [.t 0]⟩, ⟨some 32, none, .mv, [.t 6]⟩, ⟨some 33, none, .idxA 6, [.t 31, .t 32]⟩, ⟨some 34,
  none, .fldA 1, [.t 33]⟩, ⟨some 35, none, .load none, [.t 34]⟩, ⟨some 36, none, .bin .add, [.t 30, .t 35]⟩, ⟨some 37, none, .mv, [.t 0]⟩, ⟨some 38, none, .mv, [.t 6]⟩, ⟨some 39,
  none, .idxA 6, [.t 37, .t 38]⟩, ⟨some 40, none, .fldA 2, [.t 39]⟩, ⟨some 41, none, .load none, [.t 40]⟩, ⟨some 42, none, .bin .add, [.t 36, .t 41]⟩, ⟨some 43, none, .mv, [.t 0]⟩,
  ⟨some 44, none, .mv, [.t 6]⟩, ⟨some 45, none, .idxA 6, [.t 43, .t 44]⟩, ⟨some 46, none, .fldA 3, [.t 45]⟩, ⟨some 47, none, .load none, [.t 46]⟩, ⟨some 48, none, .bin .add, [.t 42,
  .t 47]⟩, ⟨some 5, none, .mv, [.t 48]⟩]).seq ((C.ops [⟨some 49, none, .mv, [.t 5]⟩, ⟨some 50, none, .bin .gtr, [.t 49, .c (.int .i64 1073741824)]⟩]).seq (C.cond (.t 50) ((C.ops
  [⟨some 2, none, .mv, [.c (.int .i64 4)]⟩]).seq C.ret) C.skip)))).seq (C.ops [⟨some 28, none, .mv, [.t 6]⟩, ⟨some 29, none, .bin .add, [.t 28, .c (.int .i64 1)]⟩, ⟨some 6, none,
  .mv, [.t 29]⟩]))).loop)).seq ((C.ops [⟨some 2, none, .mv, [.c (.int .i64 0)]⟩]).seq
  C.ret))))))
theorem fn36 : FnIs Try.prog 36 51 0 [RV.tmp 2] c36 := ⟨Try.f36, Try.f36.body.getD .skip, [], [77, 78, 79, 80, 97], [], by kernel_rfl, by kernel_rfl, by kernel_rfl, by kernel_rfl, by kernel_rfl, by kernel_rfl, by kernel_rfl⟩
/-- apograph/apographlaw48.three -/
def c37 : C :=
  ((C.ops [⟨some 0, none, .nilo 0 6 28, []⟩]).seq ((C.ops [⟨some 3, none, .build [.int .i64 0, .int .i64 0, .int .i64 0, .int .i64 0, .int .i64 0, .str []] [(0, 1), (1, 1), (5, 1)],
  [.c (.int .i64 1), .c (.int .i64 30), .c (.str [97, 98, 99])]⟩, ⟨some 4, none, .build [.int .i64 0, .int .i64 0, .int .i64 0, .int .i64 0, .int .i64 0, .str []] [(0, 1), (1, 1),
  (2, 1), (3, 1)], [.c (.int .i64 2), .c (.int .i64 10), .c (.int .i64 5), .c (.int .i64 3)]⟩, ⟨some 1, none, .alloc 1 28 [.int .i64 0, .int .i64 0, .int .i64 0, .int .i64 0, .int
  .i64 0, .str []], []⟩, ⟨some 2, none, .alloc 2 28 [.int .i64 0, .int .i64 0, .int .i64 0, .int .i64 0, .int .i64 0, .str []], []⟩, ⟨none, none, .store 6, [.t 1, .t 3]⟩, ⟨none,
  none, .store 6, [.t 2, .t 4]⟩]).seq ((C.ops [⟨some 5, none, .load (some 6), [.t 1]⟩, ⟨some 6, none, .load (some 6), [.t 2]⟩, ⟨some 7, none, .load (some 6), [.t 1]⟩, ⟨some 8, none,
  .load (some 6), [.t 2]⟩, ⟨some 9, none, .load (some 6), [.t 1]⟩, ⟨some 10, none, .bslc 3 6 5 28 [.int .i64 0, .int .i64 0, .int .i64 0, .int .i64 0, .int .i64 0, .str []] [(0, 6),
  (6, 6), (12, 6), (18, 6), (24, 6)], [.t 5, .t 6, .t 7, .t 8, .t 9]⟩, ⟨some 0, none, .mv, [.t 10]⟩]).seq
  C.ret)))
theorem fn37 : FnIs Try.prog 37 11 4 [RV.tmp 0] c37 := ⟨Try.f37, Try.f37.body.getD .skip, [0, 1, 2, 10], [77, 78, 79, 80, 97], [], by kernel_rfl, by kernel_rfl, by kernel_rfl, by kernel_rfl, by kernel_rfl, by kernel_rfl, by kernel_rfl⟩
/-- apograph/paragraph.check -/
def c38 : C :=
  ((C.ops [⟨some 4, none, .mv, [.c (.int .i64 0)]⟩]).seq ((C.block 0 ((C.ops [⟨some 6, none, .mv, [.t 0]⟩, ⟨some 7, none, .call 35 true, [.t 6]⟩, ⟨some 8, none, .bin .neq, [.t 7, .c
  (.int .i64 0)]⟩, ⟨some 5, none, .mv, [.t 8]⟩]).seq (C.cond (.t 5) ((C.ops [⟨some 4, none, .mv, [.c (.int .i64 1)]⟩]).seq C.ret) ((C.ops [⟨some 10, none, .mv, [.t 1]⟩, ⟨some 11,
  none, .call 63 true, [.t 10]⟩, ⟨some 12, none, .un UnOp.not, [.t 11]⟩, ⟨some 9, none, .mv, [.t 12]⟩]).seq (C.cond (.t 9) ((C.ops [⟨some 4, none, .mv, [.c (.int .i64 2)]⟩]).seq
  C.ret) C.skip))))).seq ((C.ops [⟨some 4, none, .mv, [.c (.int .i64 0)]⟩]).seq
  C.ret)))
theorem fn38 : FnIs Try.prog 38 13 0 [RV.tmp 4] c38 := ⟨Try.f38, Try.f38.body.getD .skip, [], [77, 78, 79, 80, 97], [], by kernel_rfl, by kernel_rfl, by kernel_rfl, by kernel_rfl, by kernel_rfl, by kernel_rfl, by kernel_rfl⟩
/-- apograph/paragraph.length -/
def c63 : C :=
  ((C.ops [⟨some 2, none, .mv, [.c (.bool false)]⟩]).seq ((C.ops [⟨some 3, none, .mv, [.t 0]⟩, ⟨some 4, none, .bin .geq, [.t 3, .c (.int .i64 0)]⟩, ⟨some 5, none, .mv, [.t 4]⟩, ⟨some
  6, some (5, true), .mv, [.t 0]⟩, ⟨some 7, some (5, true), .bin .leq, [.t 6, .c (.int .i64 1073741824)]⟩, ⟨some 8, none, .pick, [.t 5, .t 7, .c (.bool false)]⟩, ⟨some 2, none, .mv,
  [.t 8]⟩]).seq
  C.ret))
theorem fn63 : FnIs Try.prog 63 9 0 [RV.tmp 2] c63 := ⟨Try.f63, Try.f63.body.getD .skip, [], [77, 78, 79, 80, 97], [], by kernel_rfl, by kernel_rfl, by kernel_rfl, by kernel_rfl, by kernel_rfl, by kernel_rfl, by kernel_rfl⟩
/-- apograph/apographref48.within -/
def c68 : C :=
  ((C.ops [⟨some 2, none, .mv, [.c (.bool false)]⟩]).seq ((C.ops [⟨some 3, none, .mv, [.t 0]⟩, ⟨some 4, none, .bin .geq, [.t 3, .c (.int .i64 0)]⟩, ⟨some 5, none, .mv, [.t 4]⟩, ⟨some
  6, some (5, true), .mv, [.t 0]⟩, ⟨some 7, some (5, true), .bin .leq, [.t 6, .c (.int .i64 1073741824)]⟩, ⟨some 8, none, .pick, [.t 5, .t 7, .c (.bool false)]⟩, ⟨some 2, none, .mv,
  [.t 8]⟩]).seq
  C.ret))
theorem fn68 : FnIs Try.prog 68 9 0 [RV.tmp 2] c68 := ⟨Try.f68, Try.f68.body.getD .skip, [], [77, 78, 79, 80, 97], [], by kernel_rfl, by kernel_rfl, by kernel_rfl, by kernel_rfl, by kernel_rfl, by kernel_rfl, by kernel_rfl⟩
/-- apograph/paragraph.checkItem -/
def c72 : C :=
  ((C.ops [⟨some 1, none, .box 0 28, [.t 0]⟩, ⟨some 2, none, .mv, [.c (.int .i64 0)]⟩]).seq ((C.block 0 ((C.ops [⟨some 4, none, .fldA 0, [.t 1]⟩, ⟨some 5, none, .load none, [.t 4]⟩,
  ⟨some 6, none, .bin .lss, [.t 5, .c (.int .i64 1)]⟩, ⟨some 7, none, .mv, [.t 6]⟩, ⟨some 8, some (7, false), .fldA 0, [.t 1]⟩, ⟨some 9, some (7, false), .load none, [.t 8]⟩, ⟨some
  10, some (7, false), .bin .gtr, [.t 9, .c (.int .i64 3)]⟩, ⟨some 11, none, .pick, [.t 7, .c (.bool true), .t 10]⟩, ⟨some 3, none, .mv, [.t 11]⟩]).seq (C.cond (.t 3) ((C.ops [⟨some
  2, none, .mv, [.c (.int .i64 8)]⟩]).seq C.ret) ((C.ops [⟨some 13, none, .fldA 1, [.t 1]⟩, ⟨some 14, none, .load none, [.t 13]⟩, ⟨some 15, none, .call 63 true, [.t 14]⟩, ⟨some 16,
  none, .un UnOp.not, [.t 15]⟩, ⟨some 17, none, .mv, [.t 16]⟩, ⟨some 18, some (17, false), .fldA 2, [.t 1]⟩, ⟨some 19, some (17, false), .load none, [.t 18]⟩, ⟨some 20, some (17,
  false), .call 63 true, [.t 19]⟩, ⟨some 21, some (17, false), .un UnOp.not, [.t 20]⟩, ⟨some 22, none, .pick, [.t 17, .c (.bool true), .t 21]⟩, ⟨some 23, none, .mv, [.t 22]⟩, ⟨some
  24, some (23, false), .fldA 3, [.t 1]⟩, ⟨some 25, some (23, false), .load none, [.t 24]⟩, ⟨some 26, some (23, false), .call 63 true, [.t 25]⟩, ⟨some 27, some (23, false), .un
  UnOp.not, [.t 26]⟩, ⟨some 28, none, .pick, [.t 23, .c (.bool true), .t 27]⟩, ⟨some 12, none, .mv, [.t 28]⟩]).seq (C.cond (.t 12) ((C.ops [⟨some 2, none, .mv, [.c (.int .i64
  2)]⟩]).seq C.ret) ((C.ops [⟨some 30, none, .fldA 4, [.t 1]⟩, ⟨some 31, none, .load none, [.t 30]⟩, ⟨some 32, none, .bin .neq, [.t 31, .c (.int .i64 (-10000))]⟩, ⟨some 33, none,
  .mv, [.t 32]⟩, ⟨some 34, some (33, true), .fldA 4, [.t 1]⟩, ⟨some 35, some (33, true), .load none, [.t 34]⟩, ⟨some 36, some (33, true), .bin .lss, [.t 35, .c (.int .i64 0)]⟩, ⟨some
  37, some (33, true), .mv, [.t 36]⟩, ⟨some 38, some (37, false), .fldA 4, [.t 1]⟩, ⟨some 39, some (37, false), .load none, [.t 38]⟩, ⟨some 40, some (37, false), .bin .gtr, [.t 39,
  .c (.int .i64 10000)]⟩, ⟨some 41, some (33, true), .pick, [.t 37, .c (.bool true), .t 40]⟩, ⟨some 42, none, .pick, [.t 33, .t 41, .c (.bool false)]⟩, ⟨some 29, none, .mv, [.t
  42]⟩]).seq (C.cond (.t 29) ((C.ops [⟨some 2, none, .mv, [.c (.int .i64 2)]⟩]).seq C.ret) C.skip))))))).seq (((C.ops [⟨some 43, none, .fldA 0, [.t 1]⟩, ⟨some 44, none, .load none,
  [.t 43]⟩, ⟨some 45, none, .bin .neq, [.t 44, .c (.int .i64 2)]⟩, ⟨some 46, none, .mv, [.t 45]⟩, ⟨some 47, some (46, true), .fldA 2, [.t 1]⟩, ⟨some 48, some (46, true), .load none,
  [.t 47]⟩, ⟨some 49, some (46, true), .bin .neq, [.t 48, .c (.int .i64 0)]⟩, ⟨some 50, some (46, true), .mv, [.t 49]⟩, ⟨some 51, some (50, false), .fldA 3, [.t 1]⟩, ⟨some 52, some
  (50, false), .load none, [.t 51]⟩, ⟨some 53, some (50, false), .bin .neq, [.t 52, .c (.int .i64 0)]⟩, ⟨some 54, some (46, true), .pick, [.t 50, .c (.bool true), .t 53]⟩, ⟨some 55,
  none, .pick, [.t 46, .t 54, .c (.bool false)]⟩, ⟨some 56, none, .mv, [.t 55]⟩, ⟨some 57, some (56, false), .fldA 0, [.t 1]⟩, ⟨some 58, some (56, false), .load none, [.t 57]⟩, ⟨some
  59, some (56, false), .bin .neq, [.t 58, .c (.int .i64 3)]⟩, ⟨some 60, some (56, false), .mv, [.t 59]⟩, ⟨some 61, some (60, true), .fldA 4, [.t 1]⟩, ⟨some 62, some (60, true),
  .load none, [.t 61]⟩, ⟨some 63, some (60, true), .bin .neq, [.t 62, .c (.int .i64 0)]⟩, ⟨some 64, some (56, false), .pick, [.t 60, .t 63, .c (.bool false)]⟩, ⟨some 65, none, .pick,
  [.t 56, .c (.bool true), .t 64]⟩, ⟨some 66, none, .mv, [.t 65]⟩, ⟨some 67, some (66, false), .fldA 0, [.t 1]⟩, ⟨some 68, some (66, false), .load none, [.t 67]⟩, ⟨some 69, some (66,
  false), .bin .eql, [.t 68, .c (.int .i64 2)]⟩, ⟨some 70, some (66, false), .mv, [.t 69]⟩, ⟨some 71, some (70, true), .fldA 5, [.t 1]⟩, ⟨some 72, some (70, true), .load none, [.t
  71]⟩, ⟨some 73, some (70, true), .bin .neq, [.t 72, .c (.str [])]⟩, ⟨some 74, some (66, false), .pick, [.t 70, .t 73, .c (.bool false)]⟩, ⟨some 75, none, .pick, [.t 66, .c (.bool
  true), .t 74]⟩]).seq (C.cond (.t 75) ((C.ops [⟨some 2, none, .mv, [.c (.int .i64 1)]⟩]).seq C.ret) C.skip)).seq ((C.ops [⟨some 2, none, .mv, [.c (.int .i64 0)]⟩]).seq
  C.ret))))
theorem fn72 : FnIs Try.prog 72 76 1 [RV.tmp 2] c72 := ⟨Try.f72, Try.f72.body.getD .skip, [1], [77, 78, 79, 80, 97], [], by kernel_rfl, by kernel_rfl, by kernel_rfl, by kernel_rfl, by kernel_rfl, by kernel_rfl, by kernel_rfl⟩
/-- apograph/apographref48.checkItem -/
def c73 : C :=
  ((C.ops [⟨some 1, none, .box 0 28, [.t 0]⟩, ⟨some 2, none, .mv, [.c (.int .i64 0)]⟩]).seq (((C.ops [⟨some 3, none, .fldA 0, [.t 1]⟩, ⟨some 4, none, .load none, [.t 3]⟩, ⟨some 5,
  none, .bin .neq, [.t 4, .c (.int .i64 1)]⟩, ⟨some 6, none, .mv, [.t 5]⟩, ⟨some 7, some (6, true), .fldA 0, [.t 1]⟩, ⟨some 8, some (6, true), .load none, [.t 7]⟩, ⟨some 9, some (6,
  true), .bin .neq, [.t 8, .c (.int .i64 2)]⟩, ⟨some 10, none, .pick, [.t 6, .t 9, .c (.bool false)]⟩, ⟨some 11, none, .mv, [.t 10]⟩, ⟨some 12, some (11, true), .fldA 0, [.t 1]⟩,
  ⟨some 13, some (11, true), .load none, [.t 12]⟩, ⟨some 14, some (11, true), .bin .neq, [.t 13, .c (.int .i64 3)]⟩, ⟨some 15, none, .pick, [.t 11, .t 14, .c (.bool false)]⟩]).seq
  (C.cond (.t 15) ((C.ops [⟨some 2, none, .mv, [.c (.int .i64 8)]⟩]).seq C.ret) C.skip)).seq (((C.ops [⟨some 16, none, .fldA 1, [.t 1]⟩, ⟨some 17, none, .load none, [.t 16]⟩, ⟨some
  18, none, .call 68 true, [.t 17]⟩, ⟨some 19, none, .un UnOp.not, [.t 18]⟩, ⟨some 20, none, .mv, [.t 19]⟩, ⟨some 21, some (20, false), .fldA 2, [.t 1]⟩, ⟨some 22, some (20, false),
  .load none, [.t 21]⟩, ⟨some 23, some (20, false), .call 68 true, [.t 22]⟩, ⟨some 24, some (20, false), .un UnOp.not, [.t 23]⟩, ⟨some 25, none, .pick, [.t 20, .c (.bool true), .t
  24]⟩, ⟨some 26, none, .mv, [.t 25]⟩, ⟨some 27, some (26, false), .fldA 3, [.t 1]⟩, ⟨some 28, some (26, false), .load none, [.t 27]⟩, ⟨some 29, some (26, false), .call 68 true, [.t
  28]⟩, ⟨some 30, some (26, false), .un UnOp.not, [.t 29]⟩, ⟨some 31, none, .pick, [.t 26, .c (.bool true), .t 30]⟩, ⟨some 32, none, .mv, [.t 31]⟩, ⟨some 33, some (32, false), .fldA
  4, [.t 1]⟩, ⟨some 34, some (32, false), .load none, [.t 33]⟩, ⟨some 35, some (32, false), .bin .lss, [.t 34, .c (.int .i64 0)]⟩, ⟨some 36, some (32, false), .mv, [.t 35]⟩, ⟨some
  37, some (36, true), .fldA 4, [.t 1]⟩, ⟨some 38, some (36, true), .load none, [.t 37]⟩, ⟨some 39, some (36, true), .bin .neq, [.t 38, .c (.int .i64 (-10000))]⟩, ⟨some 40, some (32,
  false), .pick, [.t 36, .t 39, .c (.bool false)]⟩, ⟨some 41, none, .pick, [.t 32, .c (.bool true), .t 40]⟩, ⟨some 42, none, .mv, [.t 41]⟩, ⟨some 43, some (42, false), .fldA 4, [.t
  1]⟩, ⟨some 44, some (42, false), .load none, [.t 43]⟩, ⟨some 45, some (42, false), .bin .gtr, [.t 44, .c (.int .i64 10000)]⟩, ⟨some 46, none, .pick, [.t 42, .c (.bool true), .t
  45]⟩]).seq (C.cond (.t 46) ((C.ops [⟨some 2, none, .mv, [.c (.int .i64 2)]⟩]).seq C.ret) C.skip)).seq (((C.ops [⟨some 47, none, .fldA 0, [.t 1]⟩, ⟨some 48, none, .load none, [.t
  47]⟩, ⟨some 49, none, .bin .neq, [.t 48, .c (.int .i64 2)]⟩, ⟨some 50, none, .mv, [.t 49]⟩, ⟨some 51, some (50, true), .fldA 2, [.t 1]⟩, ⟨some 52, some (50, true), .load none, [.t
  51]⟩, ⟨some 53, some (50, true), .bin .neq, [.t 52, .c (.int .i64 0)]⟩, ⟨some 54, some (50, true), .mv, [.t 53]⟩, ⟨some 55, some (54, false), .fldA 3, [.t 1]⟩, ⟨some 56, some (54,
  false), .load none, [.t 55]⟩, ⟨some 57, some (54, false), .bin .neq, [.t 56, .c (.int .i64 0)]⟩, ⟨some 58, some (50, true), .pick, [.t 54, .c (.bool true), .t 57]⟩, ⟨some 59, none,
  .pick, [.t 50, .t 58, .c (.bool false)]⟩, ⟨some 60, none, .mv, [.t 59]⟩, ⟨some 61, some (60, false), .fldA 0, [.t 1]⟩, ⟨some 62, some (60, false), .load none, [.t 61]⟩, ⟨some 63,
  some (60, false), .bin .neq, [.t 62, .c (.int .i64 3)]⟩, ⟨some 64, some (60, false), .mv, [.t 63]⟩, ⟨some 65, some (64, true), .fldA 4, [.t 1]⟩, ⟨some 66, some (64, true), .load
  none, [.t 65]⟩, ⟨some 67, some (64, true), .bin .neq, [.t 66, .c (.int .i64 0)]⟩, ⟨some 68, some (60, false), .pick, [.t 64, .t 67, .c (.bool false)]⟩, ⟨some 69, none, .pick, [.t
  60, .c (.bool true), .t 68]⟩, ⟨some 70, none, .mv, [.t 69]⟩, ⟨some 71, some (70, false), .fldA 0, [.t 1]⟩, ⟨some 72, some (70, false), .load none, [.t 71]⟩, ⟨some 73, some (70,
  false), .bin .eql, [.t 72, .c (.int .i64 2)]⟩, ⟨some 74, some (70, false), .mv, [.t 73]⟩, ⟨some 75, some (74, true), .fldA 5, [.t 1]⟩, ⟨some 76, some (74, true), .load none, [.t
  75]⟩, ⟨some 77, some (74, true), .bin .neq, [.t 76, .c (.str [])]⟩, ⟨some 78, some (70, false), .pick, [.t 74, .t 77, .c (.bool false)]⟩, ⟨some 79, none, .pick, [.t 70, .c (.bool
  true), .t 78]⟩]).seq (C.cond (.t 79) ((C.ops [⟨some 2, none, .mv, [.c (.int .i64 1)]⟩]).seq C.ret) C.skip)).seq ((C.ops [⟨some 2, none, .mv, [.c (.int .i64 0)]⟩]).seq
  C.ret)))))
theorem fn73 : FnIs Try.prog 73 80 1 [RV.tmp 2] c73 := ⟨Try.f73, Try.f73.body.getD .skip, [1], [77, 78, 79, 80, 97], [], by kernel_rfl, by kernel_rfl, by kernel_rfl, by kernel_rfl, by kernel_rfl, by kernel_rfl, by kernel_rfl⟩
/-- apograph/apographref48.SameItems -/
def c34 : C :=
  ((C.ops [⟨some 4, none, .mv, [.c (.bool false)]⟩]).seq (((C.ops [⟨some 6, none, .mv, [.t 0]⟩, ⟨some 7, none, .len, [.t 6]⟩, ⟨some 8, none, .mv, [.t 1]⟩, ⟨some 9, none, .len, [.t
  8]⟩, ⟨some 10, none, .bin .neq, [.t 7, .t 9]⟩]).seq (C.cond (.t 10) ((C.ops [⟨some 4, none, .mv, [.c (.bool false)]⟩]).seq C.ret) C.skip)).seq (((C.ops [⟨some 5, none, .mv, [.c
  (.int .i64 0)]⟩]).seq (C.block 0 (((C.ops [⟨some 11, none, .mv, [.t 5]⟩, ⟨some 12, none, .mv, [.t 0]⟩, ⟨some 13, none, .len, [.t 12]⟩, ⟨some 14, none, .bin .lss, [.t 11, .t
  13]⟩]).seq (C.cond (.t 14) C.skip (C.exit 0))).seq ((C.block 1 ((C.ops [⟨some 17, none, .mv, [.t 0]⟩, ⟨some 18, none, .mv, [.t 5]⟩, ⟨some 19, none, .idxA 6, [.t 17, .t 18]⟩, ⟨some
  20, none, .load (some 6), [.t 19]⟩, ⟨some 21, none, .mv, [.t 1]⟩, ⟨some 22, none, .mv, [.t 5]⟩, ⟨some 23, none, .idxA 6, [.t 21, .t 22]⟩, ⟨some 24, none, .load (some 6), [.t 23]⟩,
  ⟨some 25, none, .aeq [.int, .int, .int, .int, .int, .str] true, [.t 20, .t 24]⟩]).seq (C.cond (.t 25) ((C.ops [⟨some 4, none, .mv, [.c (.bool false)]⟩]).seq C.ret) C.skip))).seq
  (C.ops [⟨some 15, none, .mv, [.t 5]⟩, ⟨some 16, none, .bin .add, [.t 15, .c (.int .i64 1)]⟩, ⟨some 5, none, .mv, [.t 16]⟩]))).loop)).seq ((C.ops [⟨some 4, none, .mv, [.c (.bool
  true)]⟩]).seq
  C.ret))))
theorem fn34 : FnIs Try.prog 34 26 0 [RV.tmp 4] c34 := ⟨Try.f34, Try.f34.body.getD .skip, [], [77, 78, 79, 80, 97], [], by kernel_rfl, by kernel_rfl, by kernel_rfl, by kernel_rfl, by kernel_rfl, by kernel_rfl, by kernel_rfl⟩
/-- slices.Clone[[]int,int] -/
def c90 : C :=
  ((C.ops [⟨some 2, none, .nilo 0 1 3, []⟩]).seq (((C.ops [⟨some 3, none, .mv, [.t 0]⟩, ⟨some 4, none, .isnil .slice false, [.t 3]⟩]).seq (C.cond (.t 4) ((C.ops [⟨some 2, none, .nilo
  0 1 3, []⟩]).seq C.ret) C.skip)).seq ((C.ops [⟨some 5, none, .bslc 1 1 0 3 [.int .i64 0] [], []⟩, ⟨some 6, none, .mv, [.t 0]⟩, ⟨some 7, none, .app 2 1 3 8, [.t 5, .t 6]⟩, ⟨some 2,
  none, .mv, [.t 7]⟩]).seq
  C.ret)))
theorem fn90 : FnIs Try.prog 90 8 3 [RV.tmp 2] c90 := ⟨Try.f90, Try.f90.body.getD .skip, [2, 5, 7], [77, 78, 79, 80, 97], [], by kernel_rfl, by kernel_rfl, by kernel_rfl, by kernel_rfl, by kernel_rfl, by kernel_rfl, by kernel_rfl⟩
end
