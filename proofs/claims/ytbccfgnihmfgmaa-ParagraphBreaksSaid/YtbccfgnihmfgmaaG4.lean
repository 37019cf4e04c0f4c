import Derived.Test.YtbccfgnihmfgmaaG1
import Derived.Test.YtbccfgnihmfgmaaProg
set_option linter.all false
set_option linter.unusedSimpArgs false
set_option linter.unusedVariables false
set_option linter.unusedSectionVars false
section
/-! the text PgCode -/
open Go Go.Proofs AF
set_option maxRecDepth 100000
/-- apograph/apographlaw48.ParagraphPenalties -/
def c3 : C :=
  ((C.ops [⟨some 6, none, .mv, [.c (.bool false)]⟩]).seq (((C.ops [⟨some 18, none, .mv, [.t 0]⟩, ⟨some 19, none, .mv, [.t 1]⟩, ⟨some 20, none, .call 10 true, [.t 18, .t 19]⟩, ⟨some
  21, none, .un UnOp.not, [.t 20]⟩]).seq (C.cond (.t 21) ((C.ops [⟨some 22, none, .call 11 true, []⟩, ⟨some 6, none, .mv, [.t 22]⟩]).seq C.ret) C.skip)).seq ((C.ops [⟨some 23, none,
  .mv, [.t 2]⟩, ⟨some 24, none, .conv .i64, [.t 23]⟩, ⟨some 25, none, .bin .rem, [.t 24, .c (.int .i64 1001)]⟩, ⟨some 7, none, .mv, [.t 25]⟩]).seq ((C.ops [⟨some 26, none, .mv, [.t
  0]⟩, ⟨some 27, none, .call 12 true, [.t 26]⟩, ⟨some 8, none, .mv, [.t 27]⟩]).seq ((C.ops [⟨some 9, none, .mv, [.c (.int .i64 0)]⟩]).seq (((C.ops [⟨some 28, none, .mv, [.t 0]⟩,
  ⟨some 29, none, .len, [.t 28]⟩, ⟨some 30, none, .mv, [.c (.int .i64 0)]⟩]).seq (C.block 0 ((C.ops [⟨some 31, none, .bin .lss, [.t 30, .t 29]⟩]).seq ((C.cond (.t 31) C.skip (C.exit
  0)).seq ((C.block 1 ((C.ops [⟨some 32, none, .mv, [.t 30]⟩, ⟨some 33, none, .idxA 6, [.t 28, .t 30]⟩, ⟨some 34, none, .load (some 6), [.t 33]⟩, ⟨some 11, none, .alloc 0 28 [.int
  .i64 0, .int .i64 0, .int .i64 0, .int .i64 0, .int .i64 0, .str []], []⟩, ⟨some 10, none, .mv, [.t 32]⟩, ⟨none, none, .store 6, [.t 11, .t 34]⟩]).seq ((C.ops [⟨some 35, none,
  .fldA 0, [.t 11]⟩, ⟨some 36, none, .load none, [.t 35]⟩, ⟨some 37, none, .bin .eql, [.t 36, .c (.int .i64 3)]⟩, ⟨some 38, none, .mv, [.t 37]⟩, ⟨some 39, some (38, true), .fldA 4,
  [.t 11]⟩, ⟨some 40, some (38, true), .load none, [.t 39]⟩, ⟨some 41, some (38, true), .bin .geq, [.t 40, .c (.int .i64 0)]⟩, ⟨some 42, none, .pick, [.t 38, .t 41, .c (.bool
  false)]⟩, ⟨some 43, none, .mv, [.t 42]⟩, ⟨some 44, some (43, true), .fldA 4, [.t 11]⟩, ⟨some 45, some (43, true), .load none, [.t 44]⟩, ⟨some 46, some (43, true), .mv, [.t 7]⟩,
  ⟨some 47, some (43, true), .bin .add, [.t 45, .t 46]⟩, ⟨some 48, some (43, true), .bin .lss, [.t 47, .c (.int .i64 10000)]⟩, ⟨some 49, none, .pick, [.t 43, .t 48, .c (.bool
  false)]⟩]).seq (C.cond (.t 49) ((C.ops [⟨some 50, none, .mv, [.t 8]⟩, ⟨some 51, none, .mv, [.t 10]⟩, ⟨some 52, none, .idxA 6, [.t 50, .t 51]⟩, ⟨some 53, none, .fldA 4, [.t 52]⟩,
  ⟨some 54, none, .load none, [.t 53]⟩, ⟨some 55, none, .mv, [.t 7]⟩, ⟨some 56, none, .bin .add, [.t 54, .t 55]⟩, ⟨some 57, none, .idxA 6, [.t 50, .t 51]⟩, ⟨some 58, none, .fldA 4,
  [.t 57]⟩, ⟨none, none, .store 1, [.t 58, .t 56]⟩]).seq (C.ops [⟨some 59, none, .mv, [.t 9]⟩, ⟨some 60, none, .bin .add, [.t 59, .c (.int .i64 1)]⟩, ⟨some 9, none, .mv, [.t 60]⟩]))
  C.skip)))).seq (C.ops [⟨some 61, none, .bin .add, [.t 30, .c (.int .i64 1)]⟩, ⟨some 30, none, .mv, [.t 61]⟩])))).loop)).seq ((C.ops [⟨some 63, none, .mv, [.t 0]⟩, ⟨some 64, none,
  .mv, [.t 1]⟩, ⟨some 65, none, .call 13 true, [.t 63, .t 64]⟩, ⟨some 62, none, .mv, [.t 65]⟩, ⟨some 66, none, .ext 0, [.t 62]⟩, ⟨some 67, none, .ext 1, [.t 62]⟩, ⟨some 68, none,
  .ext 2, [.t 62]⟩, ⟨some 12, none, .mv, [.t 66]⟩, ⟨some 13, none, .mv, [.t 67]⟩, ⟨some 14, none, .mv, [.t 68]⟩]).seq ((C.ops [⟨some 70, none, .mv, [.t 8]⟩, ⟨some 71, none, .mv, [.t
  1]⟩, ⟨some 72, none, .call 13 true, [.t 70, .t 71]⟩, ⟨some 69, none, .mv, [.t 72]⟩, ⟨some 73, none, .ext 0, [.t 69]⟩, ⟨some 74, none, .ext 1, [.t 69]⟩, ⟨some 75, none, .ext 2, [.t
  69]⟩, ⟨some 15, none, .mv, [.t 73]⟩, ⟨some 16, none, .mv, [.t 74]⟩, ⟨some 17, none, .mv, [.t 75]⟩]).seq ((C.ops [⟨some 76, none, .mv, [.t 14]⟩, ⟨some 77, none, .mv, [.t 17]⟩, ⟨some
  78, none, .bin .eql, [.t 76, .t 77]⟩, ⟨some 79, none, .mv, [.t 78]⟩, ⟨some 80, some (79, true), .mv, [.t 16]⟩, ⟨some 81, some (79, true), .mv, [.t 13]⟩, ⟨some 82, some (79, true),
  .bin .geq, [.t 80, .t 81]⟩, ⟨some 83, none, .pick, [.t 79, .t 82, .c (.bool false)]⟩, ⟨some 84, none, .mv, [.t 83]⟩, ⟨some 85, some (84, true), .mv, [.t 16]⟩, ⟨some 86, some (84,
  true), .mv, [.t 13]⟩, ⟨some 87, some (84, true), .mv, [.t 7]⟩, ⟨some 88, some (84, true), .mv, [.t 9]⟩, ⟨some 89, some (84, true), .bin .mul, [.t 87, .t 88]⟩, ⟨some 90, some (84,
  true), .bin .add, [.t 86, .t 89]⟩, ⟨some 91, some (84, true), .bin .leq, [.t 85, .t 90]⟩, ⟨some 92, none, .pick, [.t 84, .t 91, .c (.bool false)]⟩, ⟨some 93, none, .mv, [.t 92]⟩,
  ⟨some 94, some (93, true), .call 11 true, []⟩, ⟨some 95, none, .pick, [.t 93, .t 94, .c (.bool false)]⟩, ⟨some 6, none, .mv, [.t 95]⟩]).seq
  C.ret)))))))))
theorem fn3 : FnIs Try.prog 3 96 1 [RV.tmp 6] c3 := ⟨Try.f3, Try.f3.body.getD .skip, [11], [77], [], by kernel_rfl, by kernel_rfl, by kernel_rfl, by kernel_rfl, by kernel_rfl, by kernel_rfl, by kernel_rfl⟩
/-- apograph/apographlaw48.fine -/
def c10 : C :=
  ((C.ops [⟨some 4, none, .mv, [.c (.bool false)]⟩]).seq ((C.ops [⟨some 5, none, .mv, [.t 0]⟩, ⟨some 6, none, .call 22 true, [.t 5]⟩, ⟨some 7, none, .un UnOp.not, [.t 6]⟩, ⟨some 8,
  none, .mv, [.t 7]⟩, ⟨some 9, some (8, true), .mv, [.t 0]⟩, ⟨some 10, some (8, true), .call 36 true, [.t 9]⟩, ⟨some 11, some (8, true), .bin .eql, [.t 10, .c (.int .i64 0)]⟩, ⟨some
  12, none, .pick, [.t 8, .t 11, .c (.bool false)]⟩, ⟨some 13, none, .mv, [.t 12]⟩, ⟨some 14, some (13, true), .mv, [.t 1]⟩, ⟨some 15, some (13, true), .bin .geq, [.t 14, .c (.int
  .i64 0)]⟩, ⟨some 16, none, .pick, [.t 13, .t 15, .c (.bool false)]⟩, ⟨some 17, none, .mv, [.t 16]⟩, ⟨some 18, some (17, true), .mv, [.t 1]⟩, ⟨some 19, some (17, true), .bin .leq,
  [.t 18, .c (.int .i64 1073741824)]⟩, ⟨some 20, none, .pick, [.t 17, .t 19, .c (.bool false)]⟩, ⟨some 4, none, .mv, [.t 20]⟩]).seq
  C.ret))
theorem fn10 : FnIs Try.prog 10 21 0 [RV.tmp 4] c10 := ⟨Try.f10, Try.f10.body.getD .skip, [], [77], [], by kernel_rfl, by kernel_rfl, by kernel_rfl, by kernel_rfl, by kernel_rfl, by kernel_rfl, by kernel_rfl⟩
/-- apograph/apographlaw48.awake -/
def c11 : C :=
  ((C.ops [⟨some 0, none, .mv, [.c (.bool false)]⟩]).seq ((C.ops [⟨some 11, none, .call 37 true, []⟩, ⟨some 12, none, .call 13 true, [.t 11, .c (.int .i64 70)]⟩, ⟨some 10, none, .mv,
  [.t 12]⟩, ⟨some 13, none, .ext 0, [.t 10]⟩, ⟨some 14, none, .ext 1, [.t 10]⟩, ⟨some 15, none, .ext 2, [.t 10]⟩, ⟨some 1, none, .mv, [.t 13]⟩, ⟨some 2, none, .mv, [.t 14]⟩, ⟨some 3,
  none, .mv, [.t 15]⟩]).seq ((C.ops [⟨some 17, none, .call 37 true, []⟩, ⟨some 18, none, .call 13 true, [.t 17, .c (.int .i64 72)]⟩, ⟨some 16, none, .mv, [.t 18]⟩, ⟨some 19, none,
  .ext 0, [.t 16]⟩, ⟨some 20, none, .ext 1, [.t 16]⟩, ⟨some 21, none, .ext 2, [.t 16]⟩, ⟨some 4, none, .mv, [.t 19]⟩, ⟨some 5, none, .mv, [.t 20]⟩, ⟨some 6, none, .mv, [.t 21]⟩]).seq
  ((C.ops [⟨some 23, none, .call 13 true, [.c .nl, .c (.int .i64 5)]⟩, ⟨some 22, none, .mv, [.t 23]⟩, ⟨some 24, none, .ext 0, [.t 22]⟩, ⟨some 25, none, .ext 1, [.t 22]⟩, ⟨some 26,
  none, .ext 2, [.t 22]⟩, ⟨some 7, none, .mv, [.t 24]⟩, ⟨some 8, none, .mv, [.t 25]⟩, ⟨some 9, none, .mv, [.t 26]⟩]).seq ((C.ops [⟨some 27, none, .mv, [.t 3]⟩, ⟨some 28, none, .mv,
  [.t 6]⟩, ⟨some 29, none, .mv, [.t 9]⟩, ⟨some 30, none, .mm true, [.t 27, .t 28, .t 29]⟩, ⟨some 31, none, .bin .eql, [.t 30, .c (.int .i64 0)]⟩, ⟨some 32, none, .mv, [.t 31]⟩, ⟨some
  33, some (32, true), .mv, [.t 1]⟩, ⟨some 34, some (32, true), .bslc 0 1 2 3 [.int .i64 0] [(0, 1), (1, 1)], [.c (.int .i64 3), .c (.int .i64 5)]⟩, ⟨some 35, some (32, true), .call
  28 true, [.t 33, .t 34]⟩, ⟨some 36, none, .pick, [.t 32, .t 35, .c (.bool false)]⟩, ⟨some 37, none, .mv, [.t 36]⟩, ⟨some 38, some (37, true), .mv, [.t 2]⟩, ⟨some 39, some (37,
  true), .bin .eql, [.t 38, .c (.int .i64 0)]⟩, ⟨some 40, none, .pick, [.t 37, .t 39, .c (.bool false)]⟩, ⟨some 41, none, .mv, [.t 40]⟩, ⟨some 42, some (41, true), .mv, [.t 4]⟩,
  ⟨some 43, some (41, true), .bslc 1 1 2 3 [.int .i64 0] [(0, 1), (1, 1)], [.c (.int .i64 3), .c (.int .i64 5)]⟩, ⟨some 44, some (41, true), .call 28 true, [.t 42, .t 43]⟩, ⟨some 45,
  none, .pick, [.t 41, .t 44, .c (.bool false)]⟩, ⟨some 46, none, .mv, [.t 45]⟩, ⟨some 47, some (46, true), .mv, [.t 5]⟩, ⟨some 48, some (46, true), .bin .eql, [.t 47, .c (.int .i64
  6)]⟩, ⟨some 49, none, .pick, [.t 46, .t 48, .c (.bool false)]⟩, ⟨some 50, none, .mv, [.t 49]⟩, ⟨some 51, some (50, true), .mv, [.t 7]⟩, ⟨some 52, some (50, true), .bslc 2 1 1 3
  [.int .i64 0] [(0, 1)], [.c (.int .i64 0)]⟩, ⟨some 53, some (50, true), .call 28 true, [.t 51, .t 52]⟩, ⟨some 54, none, .pick, [.t 50, .t 53, .c (.bool false)]⟩, ⟨some 55, none,
  .mv, [.t 54]⟩, ⟨some 56, some (55, true), .mv, [.t 8]⟩, ⟨some 57, some (55, true), .bin .eql, [.t 56, .c (.int .i64 0)]⟩, ⟨some 58, none, .pick, [.t 55, .t 57, .c (.bool false)]⟩,
  ⟨some 0, none, .mv, [.t 58]⟩]).seq
  C.ret)))))
theorem fn11 : FnIs Try.prog 11 59 3 [RV.tmp 0] c11 := ⟨Try.f11, Try.f11.body.getD .skip, [34, 43, 52], [77], [], by kernel_rfl, by kernel_rfl, by kernel_rfl, by kernel_rfl, by kernel_rfl, by kernel_rfl, by kernel_rfl⟩
/-- slices.Clone[[]apograph/api.Item,apograph/api.Item] -/
def c12 : C :=
  ((C.ops [⟨some 2, none, .nilo 0 6 28, []⟩]).seq (((C.ops [⟨some 3, none, .mv, [.t 0]⟩, ⟨some 4, none, .isnil .slice false, [.t 3]⟩]).seq (C.cond (.t 4) ((C.ops [⟨some 2, none,
  .nilo 0 6 28, []⟩]).seq C.ret) C.skip)).seq ((C.ops [⟨some 5, none, .bslc 1 6 0 28 [.int .i64 0, .int .i64 0, .int .i64 0, .int .i64 0, .int .i64 0, .str []] [], []⟩, ⟨some 6,
  none, .mv, [.t 0]⟩, ⟨some 7, none, .app 2 6 28 56, [.t 5, .t 6]⟩, ⟨some 2, none, .mv, [.t 7]⟩]).seq
  C.ret)))
theorem fn12 : FnIs Try.prog 12 8 3 [RV.tmp 2] c12 := ⟨Try.f12, Try.f12.body.getD .skip, [2, 5, 7], [77], [], by kernel_rfl, by kernel_rfl, by kernel_rfl, by kernel_rfl, by kernel_rfl, by kernel_rfl, by kernel_rfl⟩
/-- apograph/paragraph.Break -/
def c13 : C :=
  ((C.ops [⟨some 4, none, .nilo 0 1 3, []⟩, ⟨some 5, none, .mv, [.c (.int .i64 0)]⟩, ⟨some 6, none, .mv, [.c (.int .i64 0)]⟩]).seq (((C.ops [⟨some 14, none, .mv, [.t 0]⟩, ⟨some 15,
  none, .mv, [.t 1]⟩, ⟨some 16, none, .call 38 true, [.t 14, .t 15]⟩, ⟨some 7, none, .mv, [.t 16]⟩]).seq ((C.ops [⟨some 17, none, .mv, [.t 7]⟩, ⟨some 18, none, .bin .neq, [.t 17, .c
  (.int .i64 0)]⟩]).seq (C.cond (.t 18) ((C.ops [⟨some 19, none, .mv, [.t 7]⟩, ⟨some 4, none, .nilo 0 1 3, []⟩, ⟨some 5, none, .mv, [.c (.int .i64 0)]⟩, ⟨some 6, none, .mv, [.t
  19]⟩]).seq C.ret) C.skip))).seq ((C.ops [⟨some 20, none, .mv, [.t 0]⟩, ⟨some 21, none, .mv, [.t 1]⟩, ⟨some 22, none, .call 39 true, [.t 20, .t 21]⟩, ⟨some 8, none, .alloc 1 29
  [.nl], []⟩, ⟨none, none, .store 1, [.t 8, .t 22]⟩]).seq (((C.ops [⟨some 23, none, .load none, [.t 8]⟩, ⟨some 24, none, .idxA 1, [.t 23, .c (.int .i64 0)]⟩, ⟨some 25, none, .load
  none, [.t 24]⟩, ⟨some 26, none, .bin .lss, [.t 25, .c (.int .i64 0)]⟩]).seq (C.cond (.t 26) ((C.ops [⟨some 4, none, .nilo 0 1 3, []⟩, ⟨some 5, none, .mv, [.c (.int .i64 0)]⟩, ⟨some
  6, none, .mv, [.c (.int .i64 23)]⟩]).seq C.ret) C.skip)).seq ((C.ops [⟨some 9, none, .alloc 2 29 [.nl], []⟩]).seq (((C.ops [⟨some 10, none, .alloc 3 3 [.int .i64 0], []⟩, ⟨none,
  none, .store 1, [.t 10, .c (.int .i64 0)]⟩]).seq (C.block 0 (((C.ops [⟨some 27, none, .load none, [.t 9]⟩, ⟨some 28, none, .len, [.t 27]⟩, ⟨some 29, none, .bin .eql, [.t 28, .c
  (.int .i64 0)]⟩, ⟨some 30, none, .mv, [.t 29]⟩, ⟨some 31, some (30, false), .load none, [.t 9]⟩, ⟨some 32, some (30, false), .load none, [.t 9]⟩, ⟨some 33, some (30, false), .len,
  [.t 32]⟩, ⟨some 34, some (30, false), .bin .sub, [.t 33, .c (.int .i64 1)]⟩, ⟨some 35, some (30, false), .idxA 1, [.t 31, .t 34]⟩, ⟨some 36, some (30, false), .load none, [.t 35]⟩,
  ⟨some 37, some (30, false), .mv, [.t 0]⟩, ⟨some 38, some (30, false), .len, [.t 37]⟩, ⟨some 39, some (30, false), .bin .lss, [.t 36, .t 38]⟩, ⟨some 40, none, .pick, [.t 30, .c
  (.bool true), .t 39]⟩]).seq (C.cond (.t 40) C.skip (C.exit 0))).seq ((C.block 1 ((C.ops [⟨some 41, none, .mv, [.t 0]⟩, ⟨some 42, none, .mv, [.t 1]⟩, ⟨some 43, none, .load none, [.t
  10]⟩, ⟨some 44, none, .call 40 true, [.t 41, .t 42, .t 43]⟩]).seq (C.block 2 (C.range (.t 44) [45, 46] ((C.ops [⟨some 11, none, .mv, [.t 45]⟩]).seq (C.ops [⟨some 12, none, .mv, [.t
  46]⟩])) (C.block 3 ((C.ops [⟨some 47, none, .load none, [.t 8]⟩, ⟨some 48, none, .mv, [.t 11]⟩, ⟨some 49, none, .call 41 true, [.t 47, .t 48]⟩, ⟨some 13, none, .mv, [.t 49]⟩]).seq
  ((C.ops [⟨some 50, none, .mv, [.t 13]⟩, ⟨some 51, none, .bin .geq, [.t 50, .c (.int .i64 0)]⟩, ⟨some 52, none, .mv, [.t 51]⟩, ⟨some 53, some (52, true), .mv, [.t 12]⟩, ⟨some 54,
  some (52, true), .mv, [.t 13]⟩, ⟨some 55, some (52, true), .bin .add, [.t 53, .t 54]⟩, ⟨some 56, some (52, true), .load none, [.t 8]⟩, ⟨some 57, some (52, true), .load none, [.t
  10]⟩, ⟨some 58, some (52, true), .idxA 1, [.t 56, .t 57]⟩, ⟨some 59, some (52, true), .load none, [.t 58]⟩, ⟨some 60, some (52, true), .bin .eql, [.t 55, .t 59]⟩, ⟨some 61, none,
  .pick, [.t 52, .t 60, .c (.bool false)]⟩]).seq (C.cond (.t 61) ((C.ops [⟨some 62, none, .load none, [.t 9]⟩, ⟨some 63, none, .mv, [.t 11]⟩, ⟨some 64, none, .bslc 4 1 1 3 [.int .i64
  0] [(0, 1)], [.t 63]⟩, ⟨some 65, none, .app 5 1 3 8, [.t 62, .t 64]⟩, ⟨none, none, .store 1, [.t 9, .t 65]⟩]).seq ((C.ops [⟨some 66, none, .mv, [.t 11]⟩, ⟨some 67, none, .bin .add,
  [.t 66, .c (.int .i64 1)]⟩, ⟨none, none, .store 1, [.t 10, .t 67]⟩]).seq (C.exit 2))) C.skip)))))))).seq ((C.ops [⟨some 68, none, .load none, [.t 10]⟩]).seq (C.ops [⟨some 10, none,
  .alloc 3 3 [.int .i64 0], []⟩, ⟨none, none, .store 1, [.t 10, .t 68]⟩])))).loop)).seq ((C.ops [⟨some 69, none, .load none, [.t 9]⟩, ⟨some 70, none, .load none, [.t 8]⟩, ⟨some 71,
  none, .idxA 1, [.t 70, .c (.int .i64 0)]⟩, ⟨some 72, none, .load none, [.t 71]⟩, ⟨some 4, none, .mv, [.t 69]⟩, ⟨some 5, none, .mv, [.t 72]⟩, ⟨some 6, none, .mv, [.c (.int .i64
  0)]⟩]).seq
  C.ret)))))))
theorem fn13 : FnIs Try.prog 13 73 6 [RV.tmp 4, RV.tmp 5, RV.tmp 6] c13 := ⟨Try.f13, Try.f13.body.getD .skip, [4, 8, 9, 10, 64, 65], [77], [], by kernel_rfl, by kernel_rfl, by kernel_rfl, by kernel_rfl, by kernel_rfl, by kernel_rfl, by kernel_rfl⟩
/-- apograph/paragraph.Potentials -/
def c14 : C :=
  ((C.ops [⟨some 4, none, .nilo 0 1 3, []⟩, ⟨some 5, none, .mv, [.c (.int .i64 0)]⟩]).seq (((C.ops [⟨some 7, none, .mv, [.t 0]⟩, ⟨some 8, none, .mv, [.t 1]⟩, ⟨some 9, none, .call 38
  true, [.t 7, .t 8]⟩, ⟨some 6, none, .mv, [.t 9]⟩]).seq ((C.ops [⟨some 10, none, .mv, [.t 6]⟩, ⟨some 11, none, .bin .neq, [.t 10, .c (.int .i64 0)]⟩]).seq (C.cond (.t 11) ((C.ops
  [⟨some 12, none, .mv, [.t 6]⟩, ⟨some 4, none, .nilo 0 1 3, []⟩, ⟨some 5, none, .mv, [.t 12]⟩]).seq C.ret) C.skip))).seq ((C.ops [⟨some 13, none, .mv, [.t 0]⟩, ⟨some 14, none, .mv,
  [.t 1]⟩, ⟨some 15, none, .call 39 true, [.t 13, .t 14]⟩, ⟨some 4, none, .mv, [.t 15]⟩, ⟨some 5, none, .mv, [.c (.int .i64 0)]⟩]).seq
  C.ret)))
theorem fn14 : FnIs Try.prog 14 16 1 [RV.tmp 4, RV.tmp 5] c14 := ⟨Try.f14, Try.f14.body.getD .skip, [4], [77], [], by kernel_rfl, by kernel_rfl, by kernel_rfl, by kernel_rfl, by kernel_rfl, by kernel_rfl, by kernel_rfl⟩
/-- apograph/paragraph.Feasible -/
def c15 : C :=
  ((C.ops [⟨some 8, none, .mv, [.c (.int .i64 0)]⟩, ⟨some 9, none, .mv, [.c (.bool false)]⟩, ⟨some 10, none, .mv, [.c (.int .i64 0)]⟩]).seq (((C.ops [⟨some 15, none, .mv, [.t 0]⟩,
  ⟨some 16, none, .mv, [.t 1]⟩, ⟨some 17, none, .call 38 true, [.t 15, .t 16]⟩, ⟨some 11, none, .mv, [.t 17]⟩]).seq ((C.ops [⟨some 18, none, .mv, [.t 11]⟩, ⟨some 19, none, .bin .neq,
  [.t 18, .c (.int .i64 0)]⟩]).seq (C.cond (.t 19) ((C.ops [⟨some 20, none, .mv, [.t 11]⟩, ⟨some 8, none, .mv, [.c (.int .i64 0)]⟩, ⟨some 9, none, .mv, [.c (.bool false)]⟩, ⟨some 10,
  none, .mv, [.t 20]⟩]).seq C.ret) C.skip))).seq (((C.ops [⟨some 21, none, .mv, [.t 2]⟩, ⟨some 22, none, .bin .lss, [.t 21, .c (.int .i64 0)]⟩, ⟨some 23, none, .mv, [.t 22]⟩, ⟨some
  24, some (23, false), .mv, [.t 2]⟩, ⟨some 25, some (23, false), .mv, [.t 0]⟩, ⟨some 26, some (23, false), .len, [.t 25]⟩, ⟨some 27, some (23, false), .bin .gtr, [.t 24, .t 26]⟩,
  ⟨some 28, none, .pick, [.t 23, .c (.bool true), .t 27]⟩, ⟨some 29, none, .mv, [.t 28]⟩, ⟨some 30, some (29, false), .mv, [.t 3]⟩, ⟨some 31, some (29, false), .mv, [.t 2]⟩, ⟨some
  32, some (29, false), .bin .lss, [.t 30, .t 31]⟩, ⟨some 33, none, .pick, [.t 29, .c (.bool true), .t 32]⟩, ⟨some 34, none, .mv, [.t 33]⟩, ⟨some 35, some (34, false), .mv, [.t 3]⟩,
  ⟨some 36, some (34, false), .mv, [.t 0]⟩, ⟨some 37, some (34, false), .len, [.t 36]⟩, ⟨some 38, some (34, false), .bin .gtr, [.t 35, .t 37]⟩, ⟨some 39, none, .pick, [.t 34, .c
  (.bool true), .t 38]⟩]).seq (C.cond (.t 39) ((C.ops [⟨some 8, none, .mv, [.c (.int .i64 0)]⟩, ⟨some 9, none, .mv, [.c (.bool false)]⟩, ⟨some 10, none, .mv, [.c (.int .i64
  2)]⟩]).seq C.ret) C.skip)).seq (((C.ops [⟨some 40, none, .mv, [.t 0]⟩, ⟨some 41, none, .mv, [.t 3]⟩, ⟨some 42, none, .call 42 true, [.t 40, .t 41]⟩, ⟨some 43, none, .un UnOp.not,
  [.t 42]⟩]).seq (C.cond (.t 43) ((C.ops [⟨some 8, none, .mv, [.c (.int .i64 0)]⟩, ⟨some 9, none, .mv, [.c (.bool false)]⟩, ⟨some 10, none, .mv, [.c (.int .i64 23)]⟩]).seq C.ret)
  C.skip)).seq (((C.ops [⟨some 44, none, .mv, [.t 2]⟩, ⟨some 12, none, .mv, [.t 44]⟩]).seq (C.block 0 (((C.ops [⟨some 45, none, .mv, [.t 12]⟩, ⟨some 46, none, .mv, [.t 3]⟩, ⟨some 47,
  none, .bin .lss, [.t 45, .t 46]⟩]).seq (C.cond (.t 47) C.skip (C.exit 0))).seq ((C.block 1 ((C.ops [⟨some 50, none, .mv, [.t 0]⟩, ⟨some 51, none, .mv, [.t 12]⟩, ⟨some 52, none,
  .call 43 true, [.t 50, .t 51]⟩]).seq (C.cond (.t 52) ((C.ops [⟨some 8, none, .mv, [.c (.int .i64 0)]⟩, ⟨some 9, none, .mv, [.c (.bool false)]⟩, ⟨some 10, none, .mv, [.c (.int .i64
  23)]⟩]).seq C.ret) C.skip))).seq (C.ops [⟨some 48, none, .mv, [.t 12]⟩, ⟨some 49, none, .bin .add, [.t 48, .c (.int .i64 1)]⟩, ⟨some 12, none, .mv, [.t 49]⟩]))).loop)).seq ((C.ops
  [⟨some 54, none, .mv, [.t 0]⟩, ⟨some 55, none, .mv, [.t 1]⟩, ⟨some 56, none, .mv, [.t 2]⟩, ⟨some 57, none, .mv, [.t 3]⟩, ⟨some 58, none, .call 44 true, [.t 54, .t 55, .t 56, .t
  57]⟩, ⟨some 53, none, .mv, [.t 58]⟩, ⟨some 59, none, .ext 0, [.t 53]⟩, ⟨some 60, none, .ext 1, [.t 53]⟩, ⟨some 13, none, .alloc 0 44 [.int .i64 0, .int .i64 0, .int .i64 0, .int
  .i64 0, .str []], []⟩, ⟨none, none, .store 5, [.t 13, .t 59]⟩, ⟨some 14, none, .mv, [.t 60]⟩]).seq (((C.ops [⟨some 61, none, .mv, [.t 14]⟩, ⟨some 62, none, .un UnOp.not, [.t
  61]⟩]).seq (C.cond (.t 62) ((C.ops [⟨some 8, none, .mv, [.c (.int .i64 0)]⟩, ⟨some 9, none, .mv, [.c (.bool false)]⟩, ⟨some 10, none, .mv, [.c (.int .i64 0)]⟩]).seq C.ret)
  C.skip)).seq ((C.ops [⟨some 63, none, .fldA 2, [.t 13]⟩, ⟨some 64, none, .load none, [.t 63]⟩, ⟨some 65, none, .mv, [.t 0]⟩, ⟨some 66, none, .mv, [.t 3]⟩, ⟨some 67, none, .call 45
  true, [.t 65, .t 66]⟩, ⟨some 68, none, .bin .add, [.t 64, .t 67]⟩, ⟨some 8, none, .mv, [.t 68]⟩, ⟨some 9, none, .mv, [.c (.bool true)]⟩, ⟨some 10, none, .mv, [.c (.int .i64
  0)]⟩]).seq
  C.ret))))))))
theorem fn15 : FnIs Try.prog 15 69 1 [RV.tmp 8, RV.tmp 9, RV.tmp 10] c15 := ⟨Try.f15, Try.f15.body.getD .skip, [13], [77], [], by kernel_rfl, by kernel_rfl, by kernel_rfl, by kernel_rfl, by kernel_rfl, by kernel_rfl, by kernel_rfl⟩
/-- apograph/paragraph.Lines -/
def c16 : C :=
  ((C.ops [⟨some 6, none, .nilo 0 5 44, []⟩, ⟨some 7, none, .mv, [.c (.int .i64 0)]⟩]).seq (((C.ops [⟨some 15, none, .mv, [.t 0]⟩, ⟨some 16, none, .mv, [.t 1]⟩, ⟨some 17, none, .call
  38 true, [.t 15, .t 16]⟩, ⟨some 8, none, .mv, [.t 17]⟩]).seq ((C.ops [⟨some 18, none, .mv, [.t 8]⟩, ⟨some 19, none, .bin .neq, [.t 18, .c (.int .i64 0)]⟩]).seq (C.cond (.t 19)
  ((C.ops [⟨some 20, none, .mv, [.t 8]⟩, ⟨some 6, none, .nilo 0 5 44, []⟩, ⟨some 7, none, .mv, [.t 20]⟩]).seq C.ret) C.skip))).seq (((C.ops [⟨some 21, none, .mv, [.t 0]⟩, ⟨some 22,
  none, .mv, [.t 2]⟩, ⟨some 23, none, .call 46 true, [.t 21, .t 22]⟩, ⟨some 24, none, .un UnOp.not, [.t 23]⟩]).seq (C.cond (.t 24) ((C.ops [⟨some 6, none, .nilo 0 5 44, []⟩, ⟨some 7,
  none, .mv, [.c (.int .i64 23)]⟩]).seq C.ret) C.skip)).seq ((C.ops [⟨some 9, none, .nilo 1 5 44, []⟩]).seq ((C.ops [⟨some 10, none, .mv, [.c (.int .i64 0)]⟩]).seq (((C.ops [⟨some
  25, none, .mv, [.t 2]⟩, ⟨some 26, none, .len, [.t 25]⟩, ⟨some 27, none, .mv, [.c (.int .i64 0)]⟩]).seq (C.block 0 ((C.ops [⟨some 28, none, .bin .lss, [.t 27, .t 26]⟩]).seq ((C.cond
  (.t 28) C.skip (C.exit 0)).seq ((C.block 1 ((C.ops [⟨some 29, none, .idxA 1, [.t 25, .t 27]⟩, ⟨some 30, none, .load none, [.t 29]⟩, ⟨some 12, none, .mv, [.t 30]⟩]).seq ((C.ops
  [⟨some 32, none, .mv, [.t 0]⟩, ⟨some 33, none, .mv, [.t 1]⟩, ⟨some 34, none, .mv, [.t 10]⟩, ⟨some 35, none, .mv, [.t 12]⟩, ⟨some 36, none, .call 44 true, [.t 32, .t 33, .t 34, .t
  35]⟩, ⟨some 31, none, .mv, [.t 36]⟩, ⟨some 37, none, .ext 0, [.t 31]⟩, ⟨some 38, none, .ext 1, [.t 31]⟩, ⟨some 13, none, .alloc 2 44 [.int .i64 0, .int .i64 0, .int .i64 0, .int
  .i64 0, .str []], []⟩, ⟨none, none, .store 5, [.t 13, .t 37]⟩, ⟨some 14, none, .mv, [.t 38]⟩]).seq (((C.ops [⟨some 39, none, .mv, [.t 14]⟩, ⟨some 40, none, .un UnOp.not, [.t
  39]⟩]).seq (C.cond (.t 40) ((C.ops [⟨some 6, none, .nilo 0 5 44, []⟩, ⟨some 7, none, .mv, [.c (.int .i64 21)]⟩]).seq C.ret) C.skip)).seq ((C.ops [⟨some 41, none, .mv, [.t 9]⟩,
  ⟨some 42, none, .load (some 5), [.t 13]⟩, ⟨some 43, none, .bslc 3 5 1 44 [.int .i64 0, .int .i64 0, .int .i64 0, .int .i64 0, .str []] [(0, 5)], [.t 42]⟩, ⟨some 44, none, .app 4 5
  44 48, [.t 41, .t 43]⟩, ⟨some 9, none, .mv, [.t 44]⟩]).seq (C.ops [⟨some 45, none, .mv, [.t 12]⟩, ⟨some 46, none, .bin .add, [.t 45, .c (.int .i64 1)]⟩, ⟨some 10, none, .mv, [.t
  46]⟩])))))).seq (C.ops [⟨some 47, none, .bin .add, [.t 27, .c (.int .i64 1)]⟩, ⟨some 27, none, .mv, [.t 47]⟩])))).loop)).seq ((C.ops [⟨some 48, none, .mv, [.t 9]⟩, ⟨some 6, none,
  .mv, [.t 48]⟩, ⟨some 7, none, .mv, [.c (.int .i64 0)]⟩]).seq
  C.ret)))))))
theorem fn16 : FnIs Try.prog 16 49 5 [RV.tmp 6, RV.tmp 7] c16 := ⟨Try.f16, Try.f16.body.getD .skip, [6, 9, 13, 43, 44], [77], [], by kernel_rfl, by kernel_rfl, by kernel_rfl, by kernel_rfl, by kernel_rfl, by kernel_rfl, by kernel_rfl⟩
/-- slices.Contains[[]int,int] -/
def c17 : C :=
  ((C.ops [⟨some 4, none, .mv, [.c (.bool false)]⟩]).seq ((C.ops [⟨some 5, none, .mv, [.t 0]⟩, ⟨some 6, none, .mv, [.t 1]⟩, ⟨some 7, none, .call 47 true, [.t 5, .t 6]⟩, ⟨some 8,
  none, .bin .geq, [.t 7, .c (.int .i64 0)]⟩, ⟨some 4, none, .mv, [.t 8]⟩]).seq
  C.ret))
theorem fn17 : FnIs Try.prog 17 9 0 [RV.tmp 4] c17 := ⟨Try.f17, Try.f17.body.getD .skip, [], [77], [], by kernel_rfl, by kernel_rfl, by kernel_rfl, by kernel_rfl, by kernel_rfl, by kernel_rfl, by kernel_rfl⟩
/-- apograph/paragraph.Verify -/
def c18 : C :=
  ((C.ops [⟨some 7, none, .box 0 29, [.t 3]⟩, ⟨some 8, none, .alloc 1 30 [.int .i64 0], []⟩]).seq ((C.ops [⟨some 17, none, .mv, [.t 0]⟩, ⟨some 18, none, .mv, [.t 1]⟩, ⟨some 19, none,
  .mv, [.t 2]⟩, ⟨some 20, none, .call 20 true, [.t 17, .t 18, .t 19]⟩, ⟨some 16, none, .mv, [.t 20]⟩, ⟨some 21, none, .ext 0, [.t 16]⟩, ⟨some 22, none, .ext 1, [.t 16]⟩, ⟨some 9,
  none, .mv, [.t 21]⟩, ⟨some 10, none, .mv, [.t 22]⟩]).seq (((C.ops [⟨some 23, none, .mv, [.t 10]⟩, ⟨some 24, none, .bin .neq, [.t 23, .c (.int .i64 0)]⟩]).seq (C.cond (.t 24)
  ((C.ops [⟨some 25, none, .mv, [.t 10]⟩, ⟨none, none, .store 1, [.t 8, .t 25]⟩]).seq C.ret) C.skip)).seq (((C.ops [⟨some 26, none, .load none, [.t 7]⟩, ⟨some 27, none, .len, [.t
  26]⟩, ⟨some 28, none, .mv, [.t 0]⟩, ⟨some 29, none, .len, [.t 28]⟩, ⟨some 30, none, .bin .add, [.t 29, .c (.int .i64 1)]⟩, ⟨some 31, none, .bin .neq, [.t 27, .t 30]⟩, ⟨some 32,
  none, .mv, [.t 31]⟩, ⟨some 33, some (32, false), .load none, [.t 7]⟩, ⟨some 34, some (32, false), .call 48 true, [.t 33]⟩, ⟨some 35, some (32, false), .bin .lss, [.t 34, .c (.int
  .i64 (-1))]⟩, ⟨some 36, none, .pick, [.t 32, .c (.bool true), .t 35]⟩, ⟨some 37, none, .mv, [.t 36]⟩, ⟨some 38, some (37, false), .load none, [.t 7]⟩, ⟨some 39, some (37, false),
  .idxA 1, [.t 38, .c (.int .i64 0)]⟩, ⟨some 40, some (37, false), .load none, [.t 39]⟩, ⟨some 41, some (37, false), .mv, [.t 9]⟩, ⟨some 42, some (37, false), .bin .neq, [.t 40, .t
  41]⟩, ⟨some 43, none, .pick, [.t 37, .c (.bool true), .t 42]⟩]).seq (C.cond (.t 43) ((C.ops [⟨none, none, .store 1, [.t 8, .c (.int .i64 18)]⟩]).seq C.ret) C.skip)).seq (((C.ops
  [⟨some 44, none, .load none, [.t 7]⟩, ⟨some 45, none, .len, [.t 44]⟩, ⟨some 46, none, .mv, [.c (.int .i64 0)]⟩]).seq (C.block 0 ((C.ops [⟨some 47, none, .bin .lss, [.t 46, .t
  45]⟩]).seq ((C.cond (.t 47) C.skip (C.exit 0)).seq ((C.block 1 ((C.ops [⟨some 48, none, .mv, [.t 46]⟩, ⟨some 49, none, .idxA 1, [.t 44, .t 46]⟩, ⟨some 50, none, .load none, [.t
  49]⟩, ⟨some 12, none, .alloc 2 3 [.int .i64 0], []⟩, ⟨some 11, none, .mv, [.t 48]⟩, ⟨none, none, .store 1, [.t 12, .t 50]⟩]).seq ((C.ops [⟨some 51, none, .mv, [.t 0]⟩, ⟨some 52,
  none, .mv, [.t 1]⟩, ⟨some 53, none, .mv, [.t 11]⟩, ⟨some 54, none, .call 40 true, [.t 51, .t 52, .t 53]⟩]).seq (C.block 2 (C.range (.t 54) [55, 56] ((C.ops [⟨some 13, none, .mv,
  [.t 55]⟩]).seq (C.ops [⟨some 14, none, .mv, [.t 56]⟩])) (C.block 3 ((C.ops [⟨some 57, none, .load none, [.t 7]⟩, ⟨some 58, none, .mv, [.t 13]⟩, ⟨some 59, none, .call 41 true, [.t
  57, .t 58]⟩, ⟨some 15, none, .mv, [.t 59]⟩]).seq ((C.ops [⟨some 60, none, .mv, [.t 15]⟩, ⟨some 61, none, .bin .geq, [.t 60, .c (.int .i64 0)]⟩, ⟨some 62, none, .mv, [.t 61]⟩, ⟨some
  63, some (62, true), .load none, [.t 12]⟩, ⟨some 64, some (62, true), .bin .lss, [.t 63, .c (.int .i64 0)]⟩, ⟨some 65, some (62, true), .mv, [.t 64]⟩, ⟨some 66, some (65, false),
  .load none, [.t 12]⟩, ⟨some 67, some (65, false), .mv, [.t 14]⟩, ⟨some 68, some (65, false), .bin .sub, [.t 66, .t 67]⟩, ⟨some 69, some (65, false), .mv, [.t 15]⟩, ⟨some 70, some
  (65, false), .bin .gtr, [.t 68, .t 69]⟩, ⟨some 71, some (62, true), .pick, [.t 65, .c (.bool true), .t 70]⟩, ⟨some 72, none, .pick, [.t 62, .t 71, .c (.bool false)]⟩]).seq (C.cond
  (.t 72) ((C.ops [⟨none, none, .store 1, [.t 8, .c (.int .i64 18)]⟩]).seq C.ret) C.skip))))))))).seq (C.ops [⟨some 73, none, .bin .add, [.t 46, .c (.int .i64 1)]⟩, ⟨some 46, none,
  .mv, [.t 73]⟩])))).loop)).seq ((C.ops [⟨none, none, .store 1, [.t 8, .c (.int .i64 0)]⟩]).seq
  C.ret))))))
theorem fn18 : FnIs Try.prog 18 74 3 [RV.cell 8 none] c18 := ⟨Try.f18, Try.f18.body.getD .skip, [7, 8, 12], [77], [], by kernel_rfl, by kernel_rfl, by kernel_rfl, by kernel_rfl, by kernel_rfl, by kernel_rfl, by kernel_rfl⟩
/-- apograph/apographlaw48.chosen -/
def c19 : C :=
  ((C.ops [⟨some 4, none, .nilo 0 1 3, []⟩]).seq ((C.ops [⟨some 5, none, .nilo 1 1 3, []⟩]).seq (((C.ops [⟨some 7, none, .mv, [.t 0]⟩, ⟨some 8, none, .len, [.t 7]⟩, ⟨some 9, none,
  .mv, [.c (.int .i64 0)]⟩]).seq (C.block 0 ((C.ops [⟨some 10, none, .bin .lss, [.t 9, .t 8]⟩]).seq ((C.cond (.t 10) C.skip (C.exit 0)).seq ((C.block 1 ((C.ops [⟨some 11, none, .mv,
  [.t 9]⟩, ⟨some 6, none, .mv, [.t 11]⟩]).seq ((C.ops [⟨some 12, none, .mv, [.t 1]⟩, ⟨some 13, none, .mv, [.t 6]⟩, ⟨some 14, none, .bin .shr, [.t 12, .t 13]⟩, ⟨some 15, none, .bin
  .and, [.t 14, .c (.int .u16 1)]⟩, ⟨some 16, none, .bin .eql, [.t 15, .c (.int .u16 1)]⟩]).seq (C.cond (.t 16) (C.ops [⟨some 17, none, .mv, [.t 5]⟩, ⟨some 18, none, .mv, [.t 6]⟩,
  ⟨some 19, none, .bslc 2 1 1 3 [.int .i64 0] [(0, 1)], [.t 18]⟩, ⟨some 20, none, .app 3 1 3 8, [.t 17, .t 19]⟩, ⟨some 5, none, .mv, [.t 20]⟩]) C.skip)))).seq (C.ops [⟨some 21, none,
  .bin .add, [.t 9, .c (.int .i64 1)]⟩, ⟨some 9, none, .mv, [.t 21]⟩])))).loop)).seq ((C.ops [⟨some 22, none, .mv, [.t 5]⟩, ⟨some 23, none, .mv, [.t 0]⟩, ⟨some 24, none, .len, [.t
  23]⟩, ⟨some 25, none, .bslc 4 1 1 3 [.int .i64 0] [(0, 1)], [.t 24]⟩, ⟨some 26, none, .app 5 1 3 8, [.t 22, .t 25]⟩, ⟨some 4, none, .mv, [.t 26]⟩]).seq
  C.ret))))
theorem fn19 : FnIs Try.prog 19 27 6 [RV.tmp 4] c19 := ⟨Try.f19, Try.f19.body.getD .skip, [4, 5, 19, 20, 25, 26], [77], [], by kernel_rfl, by kernel_rfl, by kernel_rfl, by kernel_rfl, by kernel_rfl, by kernel_rfl, by kernel_rfl⟩
/-- apograph/paragraph.Cost -/
def c20 : C :=
  ((C.ops [⟨some 6, none, .mv, [.c (.int .i64 0)]⟩, ⟨some 7, none, .mv, [.c (.int .i64 0)]⟩]).seq ((C.ops [⟨some 14, none, .mv, [.t 0]⟩, ⟨some 15, none, .mv, [.t 1]⟩, ⟨some 16, none,
  .mv, [.t 2]⟩, ⟨some 17, none, .call 16 true, [.t 14, .t 15, .t 16]⟩, ⟨some 13, none, .mv, [.t 17]⟩, ⟨some 18, none, .ext 0, [.t 13]⟩, ⟨some 19, none, .ext 1, [.t 13]⟩, ⟨some 8,
  none, .mv, [.t 18]⟩, ⟨some 9, none, .mv, [.t 19]⟩]).seq (((C.ops [⟨some 20, none, .mv, [.t 9]⟩, ⟨some 21, none, .bin .neq, [.t 20, .c (.int .i64 0)]⟩]).seq (C.cond (.t 21) ((C.ops
  [⟨some 22, none, .mv, [.t 9]⟩, ⟨some 6, none, .mv, [.c (.int .i64 0)]⟩, ⟨some 7, none, .mv, [.t 22]⟩]).seq C.ret) C.skip)).seq ((C.ops [⟨some 10, none, .mv, [.c (.int .i64
  0)]⟩]).seq (((C.ops [⟨some 23, none, .mv, [.t 8]⟩, ⟨some 24, none, .len, [.t 23]⟩, ⟨some 25, none, .mv, [.c (.int .i64 0)]⟩]).seq (C.block 0 ((C.ops [⟨some 26, none, .bin .lss, [.t
  25, .t 24]⟩]).seq ((C.cond (.t 26) C.skip (C.exit 0)).seq ((C.block 1 ((C.ops [⟨some 27, none, .idxA 5, [.t 23, .t 25]⟩, ⟨some 28, none, .load (some 5), [.t 27]⟩, ⟨some 12, none,
  .alloc 0 44 [.int .i64 0, .int .i64 0, .int .i64 0, .int .i64 0, .str []], []⟩, ⟨none, none, .store 5, [.t 12, .t 28]⟩]).seq (C.ops [⟨some 29, none, .mv, [.t 10]⟩, ⟨some 30, none,
  .fldA 2, [.t 12]⟩, ⟨some 31, none, .load none, [.t 30]⟩, ⟨some 32, none, .mv, [.t 0]⟩, ⟨some 33, none, .fldA 1, [.t 12]⟩, ⟨some 34, none, .load none, [.t 33]⟩, ⟨some 35, none,
  .call 45 true, [.t 32, .t 34]⟩, ⟨some 36, none, .bin .add, [.t 31, .t 35]⟩, ⟨some 37, none, .bin .add, [.t 29, .t 36]⟩, ⟨some 10, none, .mv, [.t 37]⟩]))).seq (C.ops [⟨some 38,
  none, .bin .add, [.t 25, .c (.int .i64 1)]⟩, ⟨some 25, none, .mv, [.t 38]⟩])))).loop)).seq ((C.ops [⟨some 39, none, .mv, [.t 10]⟩, ⟨some 6, none, .mv, [.t 39]⟩, ⟨some 7, none, .mv,
  [.c (.int .i64 0)]⟩]).seq
  C.ret))))))
theorem fn20 : FnIs Try.prog 20 40 1 [RV.tmp 6, RV.tmp 7] c20 := ⟨Try.f20, Try.f20.body.getD .skip, [12], [77], [], by kernel_rfl, by kernel_rfl, by kernel_rfl, by kernel_rfl, by kernel_rfl, by kernel_rfl, by kernel_rfl⟩
/-- slices.Compare[[]int,int] -/
def c21 : C :=
  ((C.ops [⟨some 4, none, .mv, [.c (.int .i64 0)]⟩]).seq (((C.ops [⟨some 9, none, .mv, [.t 0]⟩, ⟨some 10, none, .len, [.t 9]⟩, ⟨some 11, none, .mv, [.c (.int .i64 0)]⟩]).seq (C.block
  0 ((C.ops [⟨some 12, none, .bin .lss, [.t 11, .t 10]⟩]).seq ((C.cond (.t 12) C.skip (C.exit 0)).seq ((C.block 1 ((C.ops [⟨some 13, none, .mv, [.t 11]⟩, ⟨some 14, none, .idxA 1, [.t
  9, .t 11]⟩, ⟨some 15, none, .load none, [.t 14]⟩, ⟨some 5, none, .mv, [.t 13]⟩, ⟨some 6, none, .mv, [.t 15]⟩]).seq (((C.ops [⟨some 16, none, .mv, [.t 5]⟩, ⟨some 17, none, .mv, [.t
  1]⟩, ⟨some 18, none, .len, [.t 17]⟩, ⟨some 19, none, .bin .geq, [.t 16, .t 18]⟩]).seq (C.cond (.t 19) ((C.ops [⟨some 4, none, .mv, [.c (.int .i64 1)]⟩]).seq C.ret) C.skip)).seq
  ((C.ops [⟨some 20, none, .mv, [.t 1]⟩, ⟨some 21, none, .mv, [.t 5]⟩, ⟨some 22, none, .idxA 1, [.t 20, .t 21]⟩, ⟨some 23, none, .load none, [.t 22]⟩, ⟨some 7, none, .mv, [.t
  23]⟩]).seq ((C.ops [⟨some 24, none, .mv, [.t 6]⟩, ⟨some 25, none, .mv, [.t 7]⟩, ⟨some 26, none, .call 49 true, [.t 24, .t 25]⟩, ⟨some 8, none, .mv, [.t 26]⟩]).seq ((C.ops [⟨some
  27, none, .mv, [.t 8]⟩, ⟨some 28, none, .bin .neq, [.t 27, .c (.int .i64 0)]⟩]).seq (C.cond (.t 28) ((C.ops [⟨some 29, none, .mv, [.t 8]⟩, ⟨some 4, none, .mv, [.t 29]⟩]).seq C.ret)
  C.skip))))))).seq (C.ops [⟨some 30, none, .bin .add, [.t 11, .c (.int .i64 1)]⟩, ⟨some 11, none, .mv, [.t 30]⟩])))).loop)).seq (((C.ops [⟨some 31, none, .mv, [.t 0]⟩, ⟨some 32,
  none, .len, [.t 31]⟩, ⟨some 33, none, .mv, [.t 1]⟩, ⟨some 34, none, .len, [.t 33]⟩, ⟨some 35, none, .bin .lss, [.t 32, .t 34]⟩]).seq (C.cond (.t 35) ((C.ops [⟨some 4, none, .mv,
  [.c (.int .i64 (-1))]⟩]).seq C.ret) C.skip)).seq ((C.ops [⟨some 4, none, .mv, [.c (.int .i64 0)]⟩]).seq
  C.ret))))
theorem fn21 : FnIs Try.prog 21 36 0 [RV.tmp 4] c21 := ⟨Try.f21, Try.f21.body.getD .skip, [], [77], [], by kernel_rfl, by kernel_rfl, by kernel_rfl, by kernel_rfl, by kernel_rfl, by kernel_rfl, by kernel_rfl⟩
/-- apograph/apographref48.Great -/
def c22 : C :=
  ((C.ops [⟨some 2, none, .mv, [.c (.bool false)]⟩]).seq (((C.ops [⟨some 3, none, .mv, [.c (.int .i64 0)]⟩]).seq (C.block 0 (((C.ops [⟨some 4, none, .mv, [.t 3]⟩, ⟨some 5, none, .mv,
  [.t 0]⟩, ⟨some 6, none, .len, [.t 5]⟩, ⟨some 7, none, .bin .lss, [.t 4, .t 6]⟩]).seq (C.cond (.t 7) C.skip (C.exit 0))).seq ((C.block 1 ((C.ops [⟨some 10, none, .mv, [.t 0]⟩, ⟨some
  11, none, .mv, [.t 3]⟩, ⟨some 12, none, .idxA 6, [.t 10, .t 11]⟩, ⟨some 13, none, .fldA 5, [.t 12]⟩, ⟨some 14, none, .load none, [.t 13]⟩, ⟨some 15, none, .slen, [.t 14]⟩, ⟨some
  16, none, .bin .gtr, [.t 15, .c (.int .i64 20)]⟩]).seq (C.cond (.t 16) ((C.ops [⟨some 2, none, .mv, [.c (.bool true)]⟩]).seq C.ret) C.skip))).seq (C.ops [⟨some 8, none, .mv, [.t
  3]⟩, ⟨some 9, none, .bin .add, [.t 8, .c (.int .i64 1)]⟩, ⟨some 3, none, .mv, [.t 9]⟩]))).loop)).seq ((C.ops [⟨some 17, none, .mv, [.t 0]⟩, ⟨some 18, none, .len, [.t 17]⟩, ⟨some
  19, none, .bin .gtr, [.t 18, .c (.int .i64 14)]⟩, ⟨some 2, none, .mv, [.t 19]⟩]).seq
  C.ret)))
theorem fn22 : FnIs Try.prog 22 20 0 [RV.tmp 2] c22 := ⟨Try.f22, Try.f22.body.getD .skip, [], [77], [], by kernel_rfl, by kernel_rfl, by kernel_rfl, by kernel_rfl, by kernel_rfl, by kernel_rfl, by kernel_rfl⟩
/-- apograph/apographref48.Lines -/
def c23 : C :=
  ((C.ops [⟨some 6, none, .nilo 0 5 44, []⟩, ⟨some 7, none, .mv, [.c (.int .i64 0)]⟩]).seq (((C.ops [⟨some 18, none, .mv, [.t 0]⟩, ⟨some 19, none, .mv, [.t 1]⟩, ⟨some 20, none, .call
  50 true, [.t 18, .t 19]⟩, ⟨some 8, none, .mv, [.t 20]⟩]).seq ((C.ops [⟨some 21, none, .mv, [.t 8]⟩, ⟨some 22, none, .bin .neq, [.t 21, .c (.int .i64 0)]⟩]).seq (C.cond (.t 22)
  ((C.ops [⟨some 23, none, .mv, [.t 8]⟩, ⟨some 6, none, .nilo 0 5 44, []⟩, ⟨some 7, none, .mv, [.t 23]⟩]).seq C.ret) C.skip))).seq (((C.ops [⟨some 24, none, .mv, [.t 0]⟩, ⟨some 25,
  none, .mv, [.t 2]⟩, ⟨some 26, none, .call 51 true, [.t 24, .t 25]⟩, ⟨some 27, none, .un UnOp.not, [.t 26]⟩]).seq (C.cond (.t 27) ((C.ops [⟨some 6, none, .nilo 0 5 44, []⟩, ⟨some 7,
  none, .mv, [.c (.int .i64 23)]⟩]).seq C.ret) C.skip)).seq ((C.ops [⟨some 28, none, .bslc 1 5 0 44 [.int .i64 0, .int .i64 0, .int .i64 0, .int .i64 0, .str []] [], []⟩, ⟨some 9,
  none, .mv, [.t 28]⟩]).seq ((C.ops [⟨some 10, none, .mv, [.c (.int .i64 0)]⟩]).seq (((C.ops [⟨some 11, none, .mv, [.c (.int .i64 0)]⟩]).seq (C.block 0 (((C.ops [⟨some 29, none, .mv,
  [.t 11]⟩, ⟨some 30, none, .mv, [.t 2]⟩, ⟨some 31, none, .len, [.t 30]⟩, ⟨some 32, none, .bin .lss, [.t 29, .t 31]⟩]).seq (C.cond (.t 32) C.skip (C.exit 0))).seq ((C.block 1 ((C.ops
  [⟨some 35, none, .mv, [.t 2]⟩, ⟨some 36, none, .mv, [.t 11]⟩, ⟨some 37, none, .idxA 1, [.t 35, .t 36]⟩, ⟨some 38, none, .load none, [.t 37]⟩, ⟨some 12, none, .mv, [.t 38]⟩]).seq
  ((C.ops [⟨some 40, none, .mv, [.t 0]⟩, ⟨some 41, none, .mv, [.t 1]⟩, ⟨some 42, none, .mv, [.t 10]⟩, ⟨some 43, none, .mv, [.t 12]⟩, ⟨some 44, none, .call 52 true, [.t 40, .t 41, .t
  42, .t 43]⟩, ⟨some 39, none, .mv, [.t 44]⟩, ⟨some 45, none, .ext 0, [.t 39]⟩, ⟨some 46, none, .ext 1, [.t 39]⟩, ⟨some 47, none, .ext 2, [.t 39]⟩, ⟨some 13, none, .mv, [.t 45]⟩,
  ⟨some 14, none, .mv, [.t 46]⟩, ⟨some 15, none, .mv, [.t 47]⟩]).seq (((C.ops [⟨some 48, none, .mv, [.t 15]⟩, ⟨some 49, none, .un UnOp.not, [.t 48]⟩]).seq (C.cond (.t 49) ((C.ops
  [⟨some 6, none, .nilo 0 5 44, []⟩, ⟨some 7, none, .mv, [.c (.int .i64 21)]⟩]).seq C.ret) C.skip)).seq ((C.ops [⟨some 50, none, .mv, [.t 0]⟩, ⟨some 51, none, .mv, [.t 10]⟩, ⟨some
  52, none, .mv, [.t 12]⟩, ⟨some 53, none, .call 53 true, [.t 50, .t 51, .t 52]⟩, ⟨some 54, none, .mv, [.t 12]⟩, ⟨some 55, none, .mv, [.t 13]⟩, ⟨some 56, none, .mv, [.t 14]⟩, ⟨some
  57, none, .build [.int .i64 0, .int .i64 0, .int .i64 0, .int .i64 0, .str []] [(0, 1), (1, 1), (2, 1), (3, 1)], [.t 53, .t 54, .t 55, .t 56]⟩, ⟨some 16, none, .alloc 2 44 [.int
  .i64 0, .int .i64 0, .int .i64 0, .int .i64 0, .str []], []⟩, ⟨none, none, .store 5, [.t 16, .t 57]⟩]).seq (((C.ops [⟨some 58, none, .fldA 0, [.t 16]⟩, ⟨some 59, none, .load none,
  [.t 58]⟩, ⟨some 17, none, .mv, [.t 59]⟩]).seq (C.block 2 (((C.ops [⟨some 60, none, .mv, [.t 17]⟩, ⟨some 61, none, .mv, [.t 12]⟩, ⟨some 62, none, .bin .lss, [.t 60, .t 61]⟩]).seq
  (C.cond (.t 62) C.skip (C.exit 2))).seq ((C.block 3 (((C.ops [⟨some 65, none, .mv, [.t 0]⟩, ⟨some 66, none, .mv, [.t 17]⟩, ⟨some 67, none, .idxA 6, [.t 65, .t 66]⟩, ⟨some 68, none,
  .fldA 0, [.t 67]⟩, ⟨some 69, none, .load none, [.t 68]⟩, ⟨some 70, none, .bin .eql, [.t 69, .c (.int .i64 1)]⟩]).seq (C.cond (.t 70) (C.ops [⟨some 71, none, .fldA 4, [.t 16]⟩,
  ⟨some 72, none, .load none, [.t 71]⟩, ⟨some 73, none, .mv, [.t 0]⟩, ⟨some 74, none, .mv, [.t 17]⟩, ⟨some 75, none, .idxA 6, [.t 73, .t 74]⟩, ⟨some 76, none, .fldA 5, [.t 75]⟩,
  ⟨some 77, none, .load none, [.t 76]⟩, ⟨some 78, none, .bin .add, [.t 72, .t 77]⟩, ⟨some 79, none, .fldA 4, [.t 16]⟩, ⟨none, none, .store 1, [.t 79, .t 78]⟩]) C.skip)).seq ((C.ops
  [⟨some 80, none, .mv, [.t 0]⟩, ⟨some 81, none, .mv, [.t 17]⟩, ⟨some 82, none, .idxA 6, [.t 80, .t 81]⟩, ⟨some 83, none, .fldA 0, [.t 82]⟩, ⟨some 84, none, .load none, [.t 83]⟩,
  ⟨some 85, none, .bin .eql, [.t 84, .c (.int .i64 2)]⟩]).seq (C.cond (.t 85) (C.ops [⟨some 86, none, .fldA 4, [.t 16]⟩, ⟨some 87, none, .load none, [.t 86]⟩, ⟨some 88, none, .bin
  .add, [.t 87, .c (.str [32])]⟩, ⟨some 89, none, .fldA 4, [.t 16]⟩, ⟨none, none, .store 1, [.t 89, .t 88]⟩]) C.skip)))).seq (C.ops [⟨some 63, none, .mv, [.t 17]⟩, ⟨some 64, none,
  .bin .add, [.t 63, .c (.int .i64 1)]⟩, ⟨some 17, none, .mv, [.t 64]⟩]))).loop)).seq (((C.ops [⟨some 90, none, .mv, [.t 12]⟩, ⟨some 91, none, .mv, [.t 0]⟩, ⟨some 92, none, .len, [.t
  91]⟩, ⟨some 93, none, .bin .lss, [.t 90, .t 92]⟩, ⟨some 94, none, .mv, [.t 93]⟩, ⟨some 95, some (94, true), .mv, [.t 0]⟩, ⟨some 96, some (94, true), .mv, [.t 12]⟩, ⟨some 97, some
  (94, true), .idxA 6, [.t 95, .t 96]⟩, ⟨some 98, some (94, true), .fldA 0, [.t 97]⟩, ⟨some 99, some (94, true), .load none, [.t 98]⟩, ⟨some 100, some (94, true), .bin .eql, [.t 99,
  .c (.int .i64 3)]⟩, ⟨some 101, none, .pick, [.t 94, .t 100, .c (.bool false)]⟩]).seq (C.cond (.t 101) (C.ops [⟨some 102, none, .fldA 4, [.t 16]⟩, ⟨some 103, none, .load none, [.t
  102]⟩, ⟨some 104, none, .mv, [.t 0]⟩, ⟨some 105, none, .mv, [.t 12]⟩, ⟨some 106, none, .idxA 6, [.t 104, .t 105]⟩, ⟨some 107, none, .fldA 5, [.t 106]⟩, ⟨some 108, none, .load none,
  [.t 107]⟩, ⟨some 109, none, .bin .add, [.t 103, .t 108]⟩, ⟨some 110, none, .fldA 4, [.t 16]⟩, ⟨none, none, .store 1, [.t 110, .t 109]⟩]) C.skip)).seq ((C.ops [⟨some 111, none, .mv,
  [.t 9]⟩, ⟨some 112, none, .load (some 5), [.t 16]⟩, ⟨some 113, none, .bslc 3 5 1 44 [.int .i64 0, .int .i64 0, .int .i64 0, .int .i64 0, .str []] [(0, 5)], [.t 112]⟩, ⟨some 114,
  none, .app 4 5 44 48, [.t 111, .t 113]⟩, ⟨some 9, none, .mv, [.t 114]⟩]).seq (C.ops [⟨some 115, none, .mv, [.t 12]⟩, ⟨some 116, none, .bin .add, [.t 115, .c (.int .i64 1)]⟩, ⟨some
  10, none, .mv, [.t 116]⟩]))))))))).seq (C.ops [⟨some 33, none, .mv, [.t 11]⟩, ⟨some 34, none, .bin .add, [.t 33, .c (.int .i64 1)]⟩, ⟨some 11, none, .mv, [.t 34]⟩]))).loop)).seq
  ((C.ops [⟨some 117, none, .mv, [.t 9]⟩, ⟨some 6, none, .mv, [.t 117]⟩, ⟨some 7, none, .mv, [.c (.int .i64 0)]⟩]).seq
  C.ret)))))))
theorem fn23 : FnIs Try.prog 23 118 5 [RV.tmp 6, RV.tmp 7] c23 := ⟨Try.f23, Try.f23.body.getD .skip, [6, 28, 16, 113, 114], [77], [], by kernel_rfl, by kernel_rfl, by kernel_rfl, by kernel_rfl, by kernel_rfl, by kernel_rfl, by kernel_rfl⟩
/-- apograph/apographref48.Cost -/
def c24 : C :=
  ((C.ops [⟨some 6, none, .mv, [.c (.int .i64 0)]⟩, ⟨some 7, none, .mv, [.c (.int .i64 0)]⟩]).seq (((C.ops [⟨some 14, none, .mv, [.t 0]⟩, ⟨some 15, none, .mv, [.t 1]⟩, ⟨some 16,
  none, .call 50 true, [.t 14, .t 15]⟩, ⟨some 8, none, .mv, [.t 16]⟩]).seq ((C.ops [⟨some 17, none, .mv, [.t 8]⟩, ⟨some 18, none, .bin .neq, [.t 17, .c (.int .i64 0)]⟩]).seq (C.cond
  (.t 18) ((C.ops [⟨some 19, none, .mv, [.t 8]⟩, ⟨some 6, none, .mv, [.c (.int .i64 0)]⟩, ⟨some 7, none, .mv, [.t 19]⟩]).seq C.ret) C.skip))).seq (((C.ops [⟨some 20, none, .mv, [.t
  0]⟩, ⟨some 21, none, .mv, [.t 2]⟩, ⟨some 22, none, .call 51 true, [.t 20, .t 21]⟩, ⟨some 23, none, .un UnOp.not, [.t 22]⟩]).seq (C.cond (.t 23) ((C.ops [⟨some 6, none, .mv, [.c
  (.int .i64 0)]⟩, ⟨some 7, none, .mv, [.c (.int .i64 23)]⟩]).seq C.ret) C.skip)).seq ((C.ops [⟨some 9, none, .mv, [.c (.int .i64 0)]⟩, ⟨some 10, none, .mv, [.c (.int .i64 0)]⟩]).seq
  (((C.ops [⟨some 11, none, .mv, [.c (.int .i64 0)]⟩]).seq (C.block 0 (((C.ops [⟨some 24, none, .mv, [.t 11]⟩, ⟨some 25, none, .mv, [.t 2]⟩, ⟨some 26, none, .len, [.t 25]⟩, ⟨some 27,
  none, .bin .lss, [.t 24, .t 26]⟩]).seq (C.cond (.t 27) C.skip (C.exit 0))).seq ((C.block 1 ((C.ops [⟨some 31, none, .mv, [.t 0]⟩, ⟨some 32, none, .mv, [.t 1]⟩, ⟨some 33, none, .mv,
  [.t 10]⟩, ⟨some 34, none, .mv, [.t 2]⟩, ⟨some 35, none, .mv, [.t 11]⟩, ⟨some 36, none, .idxA 1, [.t 34, .t 35]⟩, ⟨some 37, none, .load none, [.t 36]⟩, ⟨some 38, none, .call 54
  true, [.t 31, .t 32, .t 33, .t 37]⟩, ⟨some 30, none, .mv, [.t 38]⟩, ⟨some 39, none, .ext 0, [.t 30]⟩, ⟨some 40, none, .ext 1, [.t 30]⟩, ⟨some 12, none, .mv, [.t 39]⟩, ⟨some 13,
  none, .mv, [.t 40]⟩]).seq (((C.ops [⟨some 41, none, .mv, [.t 13]⟩, ⟨some 42, none, .un UnOp.not, [.t 41]⟩]).seq (C.cond (.t 42) ((C.ops [⟨some 6, none, .mv, [.c (.int .i64 0)]⟩,
  ⟨some 7, none, .mv, [.c (.int .i64 21)]⟩]).seq C.ret) C.skip)).seq ((C.ops [⟨some 43, none, .mv, [.t 9]⟩, ⟨some 44, none, .mv, [.t 12]⟩, ⟨some 45, none, .bin .add, [.t 43, .t 44]⟩,
  ⟨some 9, none, .mv, [.t 45]⟩]).seq (C.ops [⟨some 46, none, .mv, [.t 2]⟩, ⟨some 47, none, .mv, [.t 11]⟩, ⟨some 48, none, .idxA 1, [.t 46, .t 47]⟩, ⟨some 49, none, .load none, [.t
  48]⟩, ⟨some 50, none, .bin .add, [.t 49, .c (.int .i64 1)]⟩, ⟨some 10, none, .mv, [.t 50]⟩]))))).seq (C.ops [⟨some 28, none, .mv, [.t 11]⟩, ⟨some 29, none, .bin .add, [.t 28, .c
  (.int .i64 1)]⟩, ⟨some 11, none, .mv, [.t 29]⟩]))).loop)).seq ((C.ops [⟨some 51, none, .mv, [.t 9]⟩, ⟨some 6, none, .mv, [.t 51]⟩, ⟨some 7, none, .mv, [.c (.int .i64 0)]⟩]).seq
  C.ret))))))
theorem fn24 : FnIs Try.prog 24 52 0 [RV.tmp 6, RV.tmp 7] c24 := ⟨Try.f24, Try.f24.body.getD .skip, [], [77], [], by kernel_rfl, by kernel_rfl, by kernel_rfl, by kernel_rfl, by kernel_rfl, by kernel_rfl, by kernel_rfl⟩
/-- apograph/apographref48.SameLines -/
def c25 : C :=
  ((C.ops [⟨some 4, none, .mv, [.c (.bool false)]⟩]).seq (((C.ops [⟨some 6, none, .mv, [.t 0]⟩, ⟨some 7, none, .len, [.t 6]⟩, ⟨some 8, none, .mv, [.t 1]⟩, ⟨some 9, none, .len, [.t
  8]⟩, ⟨some 10, none, .bin .neq, [.t 7, .t 9]⟩]).seq (C.cond (.t 10) ((C.ops [⟨some 4, none, .mv, [.c (.bool false)]⟩]).seq C.ret) C.skip)).seq (((C.ops [⟨some 5, none, .mv, [.c
  (.int .i64 0)]⟩]).seq (C.block 0 (((C.ops [⟨some 11, none, .mv, [.t 5]⟩, ⟨some 12, none, .mv, [.t 0]⟩, ⟨some 13, none, .len, [.t 12]⟩, ⟨some 14, none, .bin .lss, [.t 11, .t
  13]⟩]).seq (C.cond (.t 14) C.skip (C.exit 0))).seq ((C.block 1 ((C.ops [⟨some 17, none, .mv, [.t 0]⟩, ⟨some 18, none, .mv, [.t 5]⟩, ⟨some 19, none, .idxA 5, [.t 17, .t 18]⟩, ⟨some
  20, none, .load (some 5), [.t 19]⟩, ⟨some 21, none, .mv, [.t 1]⟩, ⟨some 22, none, .mv, [.t 5]⟩, ⟨some 23, none, .idxA 5, [.t 21, .t 22]⟩, ⟨some 24, none, .load (some 5), [.t 23]⟩,
  ⟨some 25, none, .aeq [.int, .int, .int, .int, .str] true, [.t 20, .t 24]⟩]).seq (C.cond (.t 25) ((C.ops [⟨some 4, none, .mv, [.c (.bool false)]⟩]).seq C.ret) C.skip))).seq (C.ops
  [⟨some 15, none, .mv, [.t 5]⟩, ⟨some 16, none, .bin .add, [.t 15, .c (.int .i64 1)]⟩, ⟨some 5, none, .mv, [.t 16]⟩]))).loop)).seq ((C.ops [⟨some 4, none, .mv, [.c (.bool
  true)]⟩]).seq
  C.ret))))
theorem fn25 : FnIs Try.prog 25 26 0 [RV.tmp 4] c25 := ⟨Try.f25, Try.f25.body.getD .skip, [], [77], [], by kernel_rfl, by kernel_rfl, by kernel_rfl, by kernel_rfl, by kernel_rfl, by kernel_rfl, by kernel_rfl⟩
/-- apograph/apographref48.Break -/
def c26 : C :=
  ((C.ops [⟨some 4, none, .nilo 0 1 3, []⟩, ⟨some 5, none, .mv, [.c (.int .i64 0)]⟩, ⟨some 6, none, .mv, [.c (.int .i64 0)]⟩]).seq (((C.ops [⟨some 15, none, .mv, [.t 0]⟩, ⟨some 16,
  none, .mv, [.t 1]⟩, ⟨some 17, none, .call 50 true, [.t 15, .t 16]⟩, ⟨some 7, none, .mv, [.t 17]⟩]).seq ((C.ops [⟨some 18, none, .mv, [.t 7]⟩, ⟨some 19, none, .bin .neq, [.t 18, .c
  (.int .i64 0)]⟩]).seq (C.cond (.t 19) ((C.ops [⟨some 20, none, .mv, [.t 7]⟩, ⟨some 4, none, .nilo 0 1 3, []⟩, ⟨some 5, none, .mv, [.c (.int .i64 0)]⟩, ⟨some 6, none, .mv, [.t
  20]⟩]).seq C.ret) C.skip))).seq ((C.ops [⟨some 21, none, .mv, [.t 0]⟩, ⟨some 22, none, .mv, [.t 1]⟩, ⟨some 23, none, .call 55 true, [.t 21, .t 22]⟩, ⟨some 8, none, .mv, [.t
  23]⟩]).seq (((C.ops [⟨some 24, none, .mv, [.t 8]⟩, ⟨some 25, none, .idxA 1, [.t 24, .c (.int .i64 0)]⟩, ⟨some 26, none, .load none, [.t 25]⟩, ⟨some 27, none, .bin .lss, [.t 26, .c
  (.int .i64 0)]⟩]).seq (C.cond (.t 27) ((C.ops [⟨some 4, none, .nilo 0 1 3, []⟩, ⟨some 5, none, .mv, [.c (.int .i64 0)]⟩, ⟨some 6, none, .mv, [.c (.int .i64 23)]⟩]).seq C.ret)
  C.skip)).seq ((C.ops [⟨some 28, none, .bslc 1 1 0 3 [.int .i64 0] [], []⟩, ⟨some 9, none, .mv, [.t 28]⟩]).seq ((C.ops [⟨some 10, none, .mv, [.c (.int .i64 0)]⟩]).seq ((C.block 0
  (((C.ops [⟨some 29, none, .mv, [.t 9]⟩, ⟨some 30, none, .len, [.t 29]⟩, ⟨some 31, none, .bin .eql, [.t 30, .c (.int .i64 0)]⟩, ⟨some 32, none, .mv, [.t 31]⟩, ⟨some 33, some (32,
  false), .mv, [.t 9]⟩, ⟨some 34, some (32, false), .mv, [.t 9]⟩, ⟨some 35, some (32, false), .len, [.t 34]⟩, ⟨some 36, some (32, false), .bin .sub, [.t 35, .c (.int .i64 1)]⟩, ⟨some
  37, some (32, false), .idxA 1, [.t 33, .t 36]⟩, ⟨some 38, some (32, false), .load none, [.t 37]⟩, ⟨some 39, some (32, false), .mv, [.t 0]⟩, ⟨some 40, some (32, false), .len, [.t
  39]⟩, ⟨some 41, some (32, false), .bin .lss, [.t 38, .t 40]⟩, ⟨some 42, none, .pick, [.t 32, .c (.bool true), .t 41]⟩]).seq (C.cond (.t 42) C.skip (C.exit 0))).seq (C.block 1
  ((C.ops [⟨some 11, none, .mv, [.c (.int .i64 (-1))]⟩]).seq (((C.ops [⟨some 43, none, .mv, [.t 10]⟩, ⟨some 12, none, .mv, [.t 43]⟩]).seq (C.block 2 (((C.ops [⟨some 44, none, .mv,
  [.t 12]⟩, ⟨some 45, none, .mv, [.t 0]⟩, ⟨some 46, none, .len, [.t 45]⟩, ⟨some 47, none, .bin .leq, [.t 44, .t 46]⟩, ⟨some 48, none, .mv, [.t 47]⟩, ⟨some 49, some (48, true), .mv,
  [.t 11]⟩, ⟨some 50, some (48, true), .bin .lss, [.t 49, .c (.int .i64 0)]⟩, ⟨some 51, none, .pick, [.t 48, .t 50, .c (.bool false)]⟩]).seq (C.cond (.t 51) C.skip (C.exit 2))).seq
  ((C.block 3 (((C.ops [⟨some 54, none, .mv, [.t 0]⟩, ⟨some 55, none, .mv, [.t 12]⟩, ⟨some 56, none, .call 56 true, [.t 54, .t 55]⟩, ⟨some 57, none, .un UnOp.not, [.t 56]⟩, ⟨some 58,
  none, .mv, [.t 57]⟩, ⟨some 59, some (58, false), .mv, [.t 0]⟩, ⟨some 60, some (58, false), .mv, [.t 10]⟩, ⟨some 61, some (58, false), .mv, [.t 12]⟩, ⟨some 62, some (58, false),
  .call 57 true, [.t 59, .t 60, .t 61]⟩, ⟨some 63, some (58, false), .un UnOp.not, [.t 62]⟩, ⟨some 64, none, .pick, [.t 58, .c (.bool true), .t 63]⟩]).seq (C.cond (.t 64) (C.exit 3)
  C.skip)).seq ((C.ops [⟨some 66, none, .mv, [.t 0]⟩, ⟨some 67, none, .mv, [.t 1]⟩, ⟨some 68, none, .mv, [.t 10]⟩, ⟨some 69, none, .mv, [.t 12]⟩, ⟨some 70, none, .call 54 true, [.t
  66, .t 67, .t 68, .t 69]⟩, ⟨some 65, none, .mv, [.t 70]⟩, ⟨some 71, none, .ext 0, [.t 65]⟩, ⟨some 72, none, .ext 1, [.t 65]⟩, ⟨some 13, none, .mv, [.t 71]⟩, ⟨some 14, none, .mv,
  [.t 72]⟩]).seq (((C.ops [⟨some 73, none, .mv, [.t 14]⟩, ⟨some 74, none, .un UnOp.not, [.t 73]⟩, ⟨some 75, none, .mv, [.t 74]⟩, ⟨some 76, some (75, false), .mv, [.t 12]⟩, ⟨some 77,
  some (75, false), .mv, [.t 0]⟩, ⟨some 78, some (75, false), .len, [.t 77]⟩, ⟨some 79, some (75, false), .bin .lss, [.t 76, .t 78]⟩, ⟨some 80, some (75, false), .mv, [.t 79]⟩, ⟨some
  81, some (80, true), .mv, [.t 8]⟩, ⟨some 82, some (80, true), .mv, [.t 12]⟩, ⟨some 83, some (80, true), .bin .add, [.t 82, .c (.int .i64 1)]⟩, ⟨some 84, some (80, true), .idxA 1,
  [.t 81, .t 83]⟩, ⟨some 85, some (80, true), .load none, [.t 84]⟩, ⟨some 86, some (80, true), .bin .lss, [.t 85, .c (.int .i64 0)]⟩, ⟨some 87, some (75, false), .pick, [.t 80, .t
  86, .c (.bool false)]⟩, ⟨some 88, none, .pick, [.t 75, .c (.bool true), .t 87]⟩]).seq (C.cond (.t 88) (C.exit 3) C.skip)).seq (((C.ops [⟨some 89, none, .mv, [.t 12]⟩, ⟨some 90,
  none, .mv, [.t 0]⟩, ⟨some 91, none, .len, [.t 90]⟩, ⟨some 92, none, .bin .lss, [.t 89, .t 91]⟩]).seq (C.cond (.t 92) (C.ops [⟨some 93, none, .mv, [.t 13]⟩, ⟨some 94, none, .mv, [.t
  8]⟩, ⟨some 95, none, .mv, [.t 12]⟩, ⟨some 96, none, .bin .add, [.t 95, .c (.int .i64 1)]⟩, ⟨some 97, none, .idxA 1, [.t 94, .t 96]⟩, ⟨some 98, none, .load none, [.t 97]⟩, ⟨some 99,
  none, .bin .add, [.t 93, .t 98]⟩, ⟨some 13, none, .mv, [.t 99]⟩]) C.skip)).seq ((C.ops [⟨some 100, none, .mv, [.t 13]⟩, ⟨some 101, none, .mv, [.t 8]⟩, ⟨some 102, none, .mv, [.t
  10]⟩, ⟨some 103, none, .idxA 1, [.t 101, .t 102]⟩, ⟨some 104, none, .load none, [.t 103]⟩, ⟨some 105, none, .bin .eql, [.t 100, .t 104]⟩]).seq (C.cond (.t 105) (C.ops [⟨some 106,
  none, .mv, [.t 12]⟩, ⟨some 11, none, .mv, [.t 106]⟩]) C.skip))))))).seq (C.ops [⟨some 52, none, .mv, [.t 12]⟩, ⟨some 53, none, .bin .add, [.t 52, .c (.int .i64 1)]⟩, ⟨some 12,
  none, .mv, [.t 53]⟩]))).loop)).seq ((C.ops [⟨some 107, none, .mv, [.t 9]⟩, ⟨some 108, none, .mv, [.t 11]⟩, ⟨some 109, none, .bslc 2 1 1 3 [.int .i64 0] [(0, 1)], [.t 108]⟩, ⟨some
  110, none, .app 3 1 3 8, [.t 107, .t 109]⟩, ⟨some 9, none, .mv, [.t 110]⟩]).seq (C.ops [⟨some 111, none, .mv, [.t 11]⟩, ⟨some 112, none, .bin .add, [.t 111, .c (.int .i64 1)]⟩,
  ⟨some 10, none, .mv, [.t 112]⟩])))))).loop).seq ((C.ops [⟨some 113, none, .mv, [.t 9]⟩, ⟨some 114, none, .mv, [.t 8]⟩, ⟨some 115, none, .idxA 1, [.t 114, .c (.int .i64 0)]⟩, ⟨some
  116, none, .load none, [.t 115]⟩, ⟨some 4, none, .mv, [.t 113]⟩, ⟨some 5, none, .mv, [.t 116]⟩, ⟨some 6, none, .mv, [.c (.int .i64 0)]⟩]).seq
  C.ret))))))))
theorem fn26 : FnIs Try.prog 26 117 4 [RV.tmp 4, RV.tmp 5, RV.tmp 6] c26 := ⟨Try.f26, Try.f26.body.getD .skip, [4, 28, 109, 110], [77], [], by kernel_rfl, by kernel_rfl, by kernel_rfl, by kernel_rfl, by kernel_rfl, by kernel_rfl, by kernel_rfl⟩
/-- apograph/apographref48.Feasible -/
def c27 : C :=
  ((C.ops [⟨some 8, none, .mv, [.c (.int .i64 0)]⟩, ⟨some 9, none, .mv, [.c (.bool false)]⟩, ⟨some 10, none, .mv, [.c (.int .i64 0)]⟩]).seq (((C.ops [⟨some 14, none, .mv, [.t 0]⟩,
  ⟨some 15, none, .mv, [.t 1]⟩, ⟨some 16, none, .call 50 true, [.t 14, .t 15]⟩, ⟨some 11, none, .mv, [.t 16]⟩]).seq ((C.ops [⟨some 17, none, .mv, [.t 11]⟩, ⟨some 18, none, .bin .neq,
  [.t 17, .c (.int .i64 0)]⟩]).seq (C.cond (.t 18) ((C.ops [⟨some 19, none, .mv, [.t 11]⟩, ⟨some 8, none, .mv, [.c (.int .i64 0)]⟩, ⟨some 9, none, .mv, [.c (.bool false)]⟩, ⟨some 10,
  none, .mv, [.t 19]⟩]).seq C.ret) C.skip))).seq (((C.ops [⟨some 20, none, .mv, [.t 2]⟩, ⟨some 21, none, .bin .lss, [.t 20, .c (.int .i64 0)]⟩, ⟨some 22, none, .mv, [.t 21]⟩, ⟨some
  23, some (22, false), .mv, [.t 2]⟩, ⟨some 24, some (22, false), .mv, [.t 0]⟩, ⟨some 25, some (22, false), .len, [.t 24]⟩, ⟨some 26, some (22, false), .bin .gtr, [.t 23, .t 25]⟩,
  ⟨some 27, none, .pick, [.t 22, .c (.bool true), .t 26]⟩, ⟨some 28, none, .mv, [.t 27]⟩, ⟨some 29, some (28, false), .mv, [.t 3]⟩, ⟨some 30, some (28, false), .mv, [.t 2]⟩, ⟨some
  31, some (28, false), .bin .lss, [.t 29, .t 30]⟩, ⟨some 32, none, .pick, [.t 28, .c (.bool true), .t 31]⟩, ⟨some 33, none, .mv, [.t 32]⟩, ⟨some 34, some (33, false), .mv, [.t 3]⟩,
  ⟨some 35, some (33, false), .mv, [.t 0]⟩, ⟨some 36, some (33, false), .len, [.t 35]⟩, ⟨some 37, some (33, false), .bin .gtr, [.t 34, .t 36]⟩, ⟨some 38, none, .pick, [.t 33, .c
  (.bool true), .t 37]⟩]).seq (C.cond (.t 38) ((C.ops [⟨some 8, none, .mv, [.c (.int .i64 0)]⟩, ⟨some 9, none, .mv, [.c (.bool false)]⟩, ⟨some 10, none, .mv, [.c (.int .i64
  2)]⟩]).seq C.ret) C.skip)).seq (((C.ops [⟨some 39, none, .mv, [.t 0]⟩, ⟨some 40, none, .mv, [.t 3]⟩, ⟨some 41, none, .call 56 true, [.t 39, .t 40]⟩, ⟨some 42, none, .un UnOp.not,
  [.t 41]⟩, ⟨some 43, none, .mv, [.t 42]⟩, ⟨some 44, some (43, false), .mv, [.t 0]⟩, ⟨some 45, some (43, false), .mv, [.t 2]⟩, ⟨some 46, some (43, false), .mv, [.t 3]⟩, ⟨some 47,
  some (43, false), .call 57 true, [.t 44, .t 45, .t 46]⟩, ⟨some 48, some (43, false), .un UnOp.not, [.t 47]⟩, ⟨some 49, none, .pick, [.t 43, .c (.bool true), .t 48]⟩]).seq (C.cond
  (.t 49) ((C.ops [⟨some 8, none, .mv, [.c (.int .i64 0)]⟩, ⟨some 9, none, .mv, [.c (.bool false)]⟩, ⟨some 10, none, .mv, [.c (.int .i64 23)]⟩]).seq C.ret) C.skip)).seq ((C.ops
  [⟨some 51, none, .mv, [.t 0]⟩, ⟨some 52, none, .mv, [.t 1]⟩, ⟨some 53, none, .mv, [.t 2]⟩, ⟨some 54, none, .mv, [.t 3]⟩, ⟨some 55, none, .call 54 true, [.t 51, .t 52, .t 53, .t
  54]⟩, ⟨some 50, none, .mv, [.t 55]⟩, ⟨some 56, none, .ext 0, [.t 50]⟩, ⟨some 57, none, .ext 1, [.t 50]⟩, ⟨some 12, none, .mv, [.t 56]⟩, ⟨some 13, none, .mv, [.t 57]⟩]).seq ((C.ops
  [⟨some 58, none, .mv, [.t 12]⟩, ⟨some 59, none, .mv, [.t 13]⟩, ⟨some 8, none, .mv, [.t 58]⟩, ⟨some 9, none, .mv, [.t 59]⟩, ⟨some 10, none, .mv, [.c (.int .i64 0)]⟩]).seq
  C.ret))))))
theorem fn27 : FnIs Try.prog 27 60 0 [RV.tmp 8, RV.tmp 9, RV.tmp 10] c27 := ⟨Try.f27, Try.f27.body.getD .skip, [], [77], [], by kernel_rfl, by kernel_rfl, by kernel_rfl, by kernel_rfl, by kernel_rfl, by kernel_rfl, by kernel_rfl⟩
/-- slices.Equal[[]int,int] -/
def c28 : C :=
  ((C.ops [⟨some 4, none, .mv, [.c (.bool false)]⟩]).seq (((C.ops [⟨some 6, none, .mv, [.t 0]⟩, ⟨some 7, none, .len, [.t 6]⟩, ⟨some 8, none, .mv, [.t 1]⟩, ⟨some 9, none, .len, [.t
  8]⟩, ⟨some 10, none, .bin .neq, [.t 7, .t 9]⟩]).seq (C.cond (.t 10) ((C.ops [⟨some 4, none, .mv, [.c (.bool false)]⟩]).seq C.ret) C.skip)).seq (((C.ops [⟨some 11, none, .mv, [.t
  0]⟩, ⟨some 12, none, .len, [.t 11]⟩, ⟨some 13, none, .mv, [.c (.int .i64 0)]⟩]).seq (C.block 0 ((C.ops [⟨some 14, none, .bin .lss, [.t 13, .t 12]⟩]).seq ((C.cond (.t 14) C.skip
  (C.exit 0)).seq ((C.block 1 ((C.ops [⟨some 15, none, .mv, [.t 13]⟩, ⟨some 5, none, .mv, [.t 15]⟩]).seq ((C.ops [⟨some 16, none, .mv, [.t 0]⟩, ⟨some 17, none, .mv, [.t 5]⟩, ⟨some
  18, none, .idxA 1, [.t 16, .t 17]⟩, ⟨some 19, none, .load none, [.t 18]⟩, ⟨some 20, none, .mv, [.t 1]⟩, ⟨some 21, none, .mv, [.t 5]⟩, ⟨some 22, none, .idxA 1, [.t 20, .t 21]⟩,
  ⟨some 23, none, .load none, [.t 22]⟩, ⟨some 24, none, .bin .neq, [.t 19, .t 23]⟩]).seq (C.cond (.t 24) ((C.ops [⟨some 4, none, .mv, [.c (.bool false)]⟩]).seq C.ret) C.skip)))).seq
  (C.ops [⟨some 25, none, .bin .add, [.t 13, .c (.int .i64 1)]⟩, ⟨some 13, none, .mv, [.t 25]⟩])))).loop)).seq ((C.ops [⟨some 4, none, .mv, [.c (.bool true)]⟩]).seq
  C.ret))))
theorem fn28 : FnIs Try.prog 28 26 0 [RV.tmp 4] c28 := ⟨Try.f28, Try.f28.body.getD .skip, [], [77], [], by kernel_rfl, by kernel_rfl, by kernel_rfl, by kernel_rfl, by kernel_rfl, by kernel_rfl, by kernel_rfl⟩
/-- apograph/apographref48.Potentials -/
def c29 : C :=
  ((C.ops [⟨some 4, none, .nilo 0 1 3, []⟩, ⟨some 5, none, .mv, [.c (.int .i64 0)]⟩]).seq (((C.ops [⟨some 7, none, .mv, [.t 0]⟩, ⟨some 8, none, .mv, [.t 1]⟩, ⟨some 9, none, .call 50
  true, [.t 7, .t 8]⟩, ⟨some 6, none, .mv, [.t 9]⟩]).seq ((C.ops [⟨some 10, none, .mv, [.t 6]⟩, ⟨some 11, none, .bin .neq, [.t 10, .c (.int .i64 0)]⟩]).seq (C.cond (.t 11) ((C.ops
  [⟨some 12, none, .mv, [.t 6]⟩, ⟨some 4, none, .nilo 0 1 3, []⟩, ⟨some 5, none, .mv, [.t 12]⟩]).seq C.ret) C.skip))).seq ((C.ops [⟨some 13, none, .mv, [.t 0]⟩, ⟨some 14, none, .mv,
  [.t 1]⟩, ⟨some 15, none, .call 55 true, [.t 13, .t 14]⟩, ⟨some 4, none, .mv, [.t 15]⟩, ⟨some 5, none, .mv, [.c (.int .i64 0)]⟩]).seq
  C.ret)))
theorem fn29 : FnIs Try.prog 29 16 1 [RV.tmp 4, RV.tmp 5] c29 := ⟨Try.f29, Try.f29.body.getD .skip, [4], [77], [], by kernel_rfl, by kernel_rfl, by kernel_rfl, by kernel_rfl, by kernel_rfl, by kernel_rfl, by kernel_rfl⟩
/-- apograph/apographref48.Verify -/
def c30 : C :=
  ((C.ops [⟨some 8, none, .mv, [.c (.int .i64 0)]⟩]).seq ((C.ops [⟨some 12, none, .mv, [.t 0]⟩, ⟨some 13, none, .mv, [.t 1]⟩, ⟨some 14, none, .mv, [.t 2]⟩, ⟨some 15, none, .call 24
  true, [.t 12, .t 13, .t 14]⟩, ⟨some 11, none, .mv, [.t 15]⟩, ⟨some 16, none, .ext 0, [.t 11]⟩, ⟨some 17, none, .ext 1, [.t 11]⟩, ⟨some 9, none, .mv, [.t 16]⟩, ⟨some 10, none, .mv,
  [.t 17]⟩]).seq (((C.ops [⟨some 18, none, .mv, [.t 10]⟩, ⟨some 19, none, .bin .neq, [.t 18, .c (.int .i64 0)]⟩]).seq (C.cond (.t 19) ((C.ops [⟨some 20, none, .mv, [.t 10]⟩, ⟨some 8,
  none, .mv, [.t 20]⟩]).seq C.ret) C.skip)).seq (((C.ops [⟨some 21, none, .mv, [.t 0]⟩, ⟨some 22, none, .mv, [.t 1]⟩, ⟨some 23, none, .mv, [.t 3]⟩, ⟨some 24, none, .call 58 true, [.t
  21, .t 22, .t 23]⟩, ⟨some 25, none, .un UnOp.not, [.t 24]⟩, ⟨some 26, none, .mv, [.t 25]⟩, ⟨some 27, some (26, false), .mv, [.t 9]⟩, ⟨some 28, some (26, false), .mv, [.t 3]⟩, ⟨some
  29, some (26, false), .idxA 1, [.t 28, .c (.int .i64 0)]⟩, ⟨some 30, some (26, false), .load none, [.t 29]⟩, ⟨some 31, some (26, false), .bin .neq, [.t 27, .t 30]⟩, ⟨some 32, none,
  .pick, [.t 26, .c (.bool true), .t 31]⟩]).seq (C.cond (.t 32) ((C.ops [⟨some 8, none, .mv, [.c (.int .i64 18)]⟩]).seq C.ret) C.skip)).seq ((C.ops [⟨some 8, none, .mv, [.c (.int
  .i64 0)]⟩]).seq
  C.ret)))))
theorem fn30 : FnIs Try.prog 30 33 0 [RV.tmp 8] c30 := ⟨Try.f30, Try.f30.body.getD .skip, [], [77], [], by kernel_rfl, by kernel_rfl, by kernel_rfl, by kernel_rfl, by kernel_rfl, by kernel_rfl, by kernel_rfl⟩
/-- apograph/apographlaw48.great -/
def c31 : C :=
  ((C.ops [⟨some 1, none, .box 0 62, [.t 0]⟩, ⟨some 2, none, .mv, [.c (.bool false)]⟩]).seq ((C.ops [⟨some 3, none, .fldA 13, [.t 1]⟩, ⟨some 4, none, .load none, [.t 3]⟩, ⟨some 5,
  none, .len, [.t 4]⟩, ⟨some 6, none, .bin .gtr, [.t 5, .c (.int .i64 5)]⟩, ⟨some 7, none, .mv, [.t 6]⟩, ⟨some 8, some (7, false), .fldA 14, [.t 1]⟩, ⟨some 9, some (7, false), .load
  none, [.t 8]⟩, ⟨some 10, some (7, false), .len, [.t 9]⟩, ⟨some 11, some (7, false), .bin .gtr, [.t 10, .c (.int .i64 6)]⟩, ⟨some 12, none, .pick, [.t 7, .c (.bool true), .t 11]⟩,
  ⟨some 13, none, .mv, [.t 12]⟩, ⟨some 14, some (13, false), .fldA 14, [.t 1]⟩, ⟨some 15, some (13, false), .load none, [.t 14]⟩, ⟨some 16, some (13, false), .call 59 true, [.t 15,
  .c (.fn (Fn.func 60) [] [])]⟩, ⟨some 17, none, .pick, [.t 13, .c (.bool true), .t 16]⟩, ⟨some 18, none, .mv, [.t 17]⟩, ⟨some 19, some (18, false), .fldA 13, [.t 1]⟩, ⟨some 20, some
  (18, false), .load none, [.t 19]⟩, ⟨some 21, some (18, false), .call 61 true, [.t 20, .c (.fn (Fn.func 62) [] [])]⟩, ⟨some 22, none, .pick, [.t 18, .c (.bool true), .t 21]⟩, ⟨some
  2, none, .mv, [.t 22]⟩]).seq
  C.ret))
theorem fn31 : FnIs Try.prog 31 23 1 [RV.tmp 2] c31 := ⟨Try.f31, Try.f31.body.getD .skip, [1], [77], [], by kernel_rfl, by kernel_rfl, by kernel_rfl, by kernel_rfl, by kernel_rfl, by kernel_rfl, by kernel_rfl⟩
/-- apograph/paragraph.potentials -/
def c39 : C :=
  ((C.ops [⟨some 4, none, .nilo 0 1 3, []⟩]).seq ((C.ops [⟨some 11, none, .mv, [.t 0]⟩, ⟨some 12, none, .len, [.t 11]⟩, ⟨some 13, none, .bin .add, [.t 12, .c (.int .i64 1)]⟩, ⟨some
  14, none, .mkslc 1 1 3 [.int .i64 0] 8, [.t 13, .t 13]⟩, ⟨some 5, none, .alloc 2 29 [.nl], []⟩, ⟨none, none, .store 1, [.t 5, .t 14]⟩]).seq (((C.ops [⟨some 15, none, .mv, [.t 0]⟩,
  ⟨some 16, none, .len, [.t 15]⟩, ⟨some 6, none, .mv, [.t 16]⟩]).seq (C.block 0 (((C.ops [⟨some 17, none, .mv, [.t 6]⟩, ⟨some 18, none, .bin .geq, [.t 17, .c (.int .i64 0)]⟩]).seq
  (C.cond (.t 18) C.skip (C.exit 0))).seq ((C.block 1 ((C.ops [⟨some 7, none, .alloc 3 3 [.int .i64 0], []⟩, ⟨none, none, .store 1, [.t 7, .c (.int .i64 (-1))]⟩]).seq (((C.ops [⟨some
  21, none, .mv, [.t 0]⟩, ⟨some 22, none, .mv, [.t 1]⟩, ⟨some 23, none, .mv, [.t 6]⟩, ⟨some 24, none, .call 40 true, [.t 21, .t 22, .t 23]⟩]).seq (C.block 2 (C.range (.t 24) [25, 26]
  ((C.ops [⟨some 8, none, .mv, [.t 25]⟩]).seq (C.ops [⟨some 9, none, .mv, [.t 26]⟩])) (C.block 3 ((C.ops [⟨some 27, none, .load none, [.t 5]⟩, ⟨some 28, none, .mv, [.t 8]⟩, ⟨some 29,
  none, .call 41 true, [.t 27, .t 28]⟩, ⟨some 10, none, .mv, [.t 29]⟩]).seq ((C.ops [⟨some 30, none, .mv, [.t 10]⟩, ⟨some 31, none, .bin .geq, [.t 30, .c (.int .i64 0)]⟩, ⟨some 32,
  none, .mv, [.t 31]⟩, ⟨some 33, some (32, true), .load none, [.t 7]⟩, ⟨some 34, some (32, true), .bin .lss, [.t 33, .c (.int .i64 0)]⟩, ⟨some 35, some (32, true), .mv, [.t 34]⟩,
  ⟨some 36, some (35, false), .mv, [.t 9]⟩, ⟨some 37, some (35, false), .mv, [.t 10]⟩, ⟨some 38, some (35, false), .bin .add, [.t 36, .t 37]⟩, ⟨some 39, some (35, false), .load none,
  [.t 7]⟩, ⟨some 40, some (35, false), .bin .lss, [.t 38, .t 39]⟩, ⟨some 41, some (32, true), .pick, [.t 35, .c (.bool true), .t 40]⟩, ⟨some 42, none, .pick, [.t 32, .t 41, .c (.bool
  false)]⟩]).seq (C.cond (.t 42) (C.ops [⟨some 43, none, .mv, [.t 9]⟩, ⟨some 44, none, .mv, [.t 10]⟩, ⟨some 45, none, .bin .add, [.t 43, .t 44]⟩, ⟨none, none, .store 1, [.t 7, .t
  45]⟩]) C.skip))))))).seq (C.ops [⟨some 46, none, .load none, [.t 5]⟩, ⟨some 47, none, .mv, [.t 6]⟩, ⟨some 48, none, .load none, [.t 7]⟩, ⟨some 49, none, .idxA 1, [.t 46, .t 47]⟩,
  ⟨none, none, .store 1, [.t 49, .t 48]⟩])))).seq (C.ops [⟨some 19, none, .mv, [.t 6]⟩, ⟨some 20, none, .bin .sub, [.t 19, .c (.int .i64 1)]⟩, ⟨some 6, none, .mv, [.t
  20]⟩]))).loop)).seq ((C.ops [⟨some 50, none, .load none, [.t 5]⟩, ⟨some 4, none, .mv, [.t 50]⟩]).seq
  C.ret))))
theorem fn39 : FnIs Try.prog 39 51 4 [RV.tmp 4] c39 := ⟨Try.f39, Try.f39.body.getD .skip, [4, 14, 5, 7], [77], [], by kernel_rfl, by kernel_rfl, by kernel_rfl, by kernel_rfl, by kernel_rfl, by kernel_rfl, by kernel_rfl⟩
/-- apograph/paragraph.lines -/
def c40 : C :=
  ((C.ops [⟨some 3, none, .box 0 22, [.t 0]⟩, ⟨some 4, none, .box 1 3, [.t 1]⟩, ⟨some 5, none, .box 2 3, [.t 2]⟩, ⟨some 6, none, .mv, [.c .nilfn]⟩]).seq ((C.ops [⟨some 7, none, .mkfn
  (Fn.func 74) 0, [.t 3, .t 5, .t 4]⟩, ⟨some 6, none, .mv, [.t 7]⟩]).seq
  C.ret))
theorem fn40 : FnIs Try.prog 40 8 3 [RV.tmp 6] c40 := ⟨Try.f40, Try.f40.body.getD .skip, [3, 4, 5], [77], [], by kernel_rfl, by kernel_rfl, by kernel_rfl, by kernel_rfl, by kernel_rfl, by kernel_rfl, by kernel_rfl⟩
/-- apograph/paragraph.behind -/
def c41 : C :=
  ((C.ops [⟨some 4, none, .mv, [.c (.int .i64 0)]⟩]).seq (((C.ops [⟨some 5, none, .mv, [.t 1]⟩, ⟨some 6, none, .mv, [.t 0]⟩, ⟨some 7, none, .len, [.t 6]⟩, ⟨some 8, none, .bin .sub,
  [.t 7, .c (.int .i64 1)]⟩, ⟨some 9, none, .bin .eql, [.t 5, .t 8]⟩]).seq (C.cond (.t 9) ((C.ops [⟨some 4, none, .mv, [.c (.int .i64 0)]⟩]).seq C.ret) C.skip)).seq ((C.ops [⟨some
  10, none, .mv, [.t 0]⟩, ⟨some 11, none, .mv, [.t 1]⟩, ⟨some 12, none, .bin .add, [.t 11, .c (.int .i64 1)]⟩, ⟨some 13, none, .idxA 1, [.t 10, .t 12]⟩, ⟨some 14, none, .load none,
  [.t 13]⟩, ⟨some 4, none, .mv, [.t 14]⟩]).seq
  C.ret)))
theorem fn41 : FnIs Try.prog 41 15 0 [RV.tmp 4] c41 := ⟨Try.f41, Try.f41.body.getD .skip, [], [77], [], by kernel_rfl, by kernel_rfl, by kernel_rfl, by kernel_rfl, by kernel_rfl, by kernel_rfl, by kernel_rfl⟩
/-- apograph/paragraph.ends -/
def c42 : C :=
  ((C.ops [⟨some 4, none, .mv, [.c (.bool false)]⟩]).seq (((C.ops [⟨some 5, none, .mv, [.t 1]⟩, ⟨some 6, none, .mv, [.t 0]⟩, ⟨some 7, none, .len, [.t 6]⟩, ⟨some 8, none, .bin .eql,
  [.t 5, .t 7]⟩]).seq (C.cond (.t 8) ((C.ops [⟨some 4, none, .mv, [.c (.bool true)]⟩]).seq C.ret) C.skip)).seq (((C.ops [⟨some 9, none, .mv, [.t 0]⟩, ⟨some 10, none, .mv, [.t 1]⟩,
  ⟨some 11, none, .idxA 6, [.t 9, .t 10]⟩, ⟨some 12, none, .fldA 0, [.t 11]⟩, ⟨some 13, none, .load none, [.t 12]⟩]).seq (C.block 0 ((C.ops [⟨some 15, none, .bin .eql, [.t 13, .c
  (.int .i64 2)]⟩, ⟨some 14, none, .mv, [.t 15]⟩]).seq (C.cond (.t 14) ((C.ops [⟨some 16, none, .mv, [.t 1]⟩, ⟨some 17, none, .bin .gtr, [.t 16, .c (.int .i64 0)]⟩, ⟨some 18, none,
  .mv, [.t 17]⟩, ⟨some 19, some (18, true), .mv, [.t 0]⟩, ⟨some 20, some (18, true), .mv, [.t 1]⟩, ⟨some 21, some (18, true), .bin .sub, [.t 20, .c (.int .i64 1)]⟩, ⟨some 22, some
  (18, true), .idxA 6, [.t 19, .t 21]⟩, ⟨some 23, some (18, true), .fldA 0, [.t 22]⟩, ⟨some 24, some (18, true), .load none, [.t 23]⟩, ⟨some 25, some (18, true), .bin .eql, [.t 24,
  .c (.int .i64 1)]⟩, ⟨some 26, none, .pick, [.t 18, .t 25, .c (.bool false)]⟩, ⟨some 4, none, .mv, [.t 26]⟩]).seq C.ret) ((C.ops [⟨some 28, none, .bin .eql, [.t 13, .c (.int .i64
  3)]⟩, ⟨some 27, none, .mv, [.t 28]⟩]).seq (C.cond (.t 27) ((C.ops [⟨some 29, none, .mv, [.t 0]⟩, ⟨some 30, none, .mv, [.t 1]⟩, ⟨some 31, none, .idxA 6, [.t 29, .t 30]⟩, ⟨some 32,
  none, .fldA 4, [.t 31]⟩, ⟨some 33, none, .load none, [.t 32]⟩, ⟨some 34, none, .bin .neq, [.t 33, .c (.int .i64 10000)]⟩, ⟨some 4, none, .mv, [.t 34]⟩]).seq C.ret) C.skip)))))).seq
  ((C.ops [⟨some 4, none, .mv, [.c (.bool false)]⟩]).seq
  C.ret))))
theorem fn42 : FnIs Try.prog 42 35 0 [RV.tmp 4] c42 := ⟨Try.f42, Try.f42.body.getD .skip, [], [77], [], by kernel_rfl, by kernel_rfl, by kernel_rfl, by kernel_rfl, by kernel_rfl, by kernel_rfl, by kernel_rfl⟩
/-- apograph/paragraph.forced -/
def c43 : C :=
  ((C.ops [⟨some 4, none, .mv, [.c (.bool false)]⟩]).seq ((C.ops [⟨some 5, none, .mv, [.t 1]⟩, ⟨some 6, none, .mv, [.t 0]⟩, ⟨some 7, none, .len, [.t 6]⟩, ⟨some 8, none, .bin .lss,
  [.t 5, .t 7]⟩, ⟨some 9, none, .mv, [.t 8]⟩, ⟨some 10, some (9, true), .mv, [.t 0]⟩, ⟨some 11, some (9, true), .mv, [.t 1]⟩, ⟨some 12, some (9, true), .idxA 6, [.t 10, .t 11]⟩,
  ⟨some 13, some (9, true), .fldA 0, [.t 12]⟩, ⟨some 14, some (9, true), .load none, [.t 13]⟩, ⟨some 15, some (9, true), .bin .eql, [.t 14, .c (.int .i64 3)]⟩, ⟨some 16, none, .pick,
  [.t 9, .t 15, .c (.bool false)]⟩, ⟨some 17, none, .mv, [.t 16]⟩, ⟨some 18, some (17, true), .mv, [.t 0]⟩, ⟨some 19, some (17, true), .mv, [.t 1]⟩, ⟨some 20, some (17, true), .idxA
  6, [.t 18, .t 19]⟩, ⟨some 21, some (17, true), .fldA 4, [.t 20]⟩, ⟨some 22, some (17, true), .load none, [.t 21]⟩, ⟨some 23, some (17, true), .bin .eql, [.t 22, .c (.int .i64
  (-10000))]⟩, ⟨some 24, none, .pick, [.t 17, .t 23, .c (.bool false)]⟩, ⟨some 4, none, .mv, [.t 24]⟩]).seq
  C.ret))
theorem fn43 : FnIs Try.prog 43 25 0 [RV.tmp 4] c43 := ⟨Try.f43, Try.f43.body.getD .skip, [], [77], [], by kernel_rfl, by kernel_rfl, by kernel_rfl, by kernel_rfl, by kernel_rfl, by kernel_rfl, by kernel_rfl⟩
/-- apograph/paragraph.line -/
def c44 : C :=
  ((C.ops [⟨some 8, none, .alloc 0 44 [.int .i64 0, .int .i64 0, .int .i64 0, .int .i64 0, .str []], []⟩, ⟨some 9, none, .mv, [.c (.bool false)]⟩]).seq ((C.ops [⟨some 17, none, .mv,
  [.t 0]⟩, ⟨some 18, none, .mv, [.t 2]⟩, ⟨some 19, none, .mv, [.t 3]⟩, ⟨some 20, none, .call 75 true, [.t 17, .t 18, .t 19]⟩, ⟨some 2, none, .mv, [.t 20]⟩]).seq ((C.ops [⟨some 10,
  none, .alloc 1 106 [.int .i64 0, .int .i64 0, .int .i64 0], []⟩]).seq ((C.ops [⟨some 11, none, .alloc 2 112 [.nilp, .nl], []⟩]).seq (((C.ops [⟨some 21, none, .mv, [.t 0]⟩, ⟨some
  22, none, .mv, [.t 2]⟩, ⟨some 23, none, .mv, [.t 3]⟩, ⟨some 24, none, .slc 6 true true, [.t 21, .t 22, .t 23]⟩, ⟨some 25, none, .len, [.t 24]⟩, ⟨some 26, none, .mv, [.c (.int .i64
  0)]⟩]).seq (C.block 0 ((C.ops [⟨some 27, none, .bin .lss, [.t 26, .t 25]⟩]).seq ((C.cond (.t 27) C.skip (C.exit 0)).seq ((C.block 1 ((C.ops [⟨some 28, none, .idxA 6, [.t 24, .t
  26]⟩, ⟨some 29, none, .load (some 6), [.t 28]⟩, ⟨some 13, none, .alloc 3 28 [.int .i64 0, .int .i64 0, .int .i64 0, .int .i64 0, .int .i64 0, .str []], []⟩, ⟨none, none, .store 6,
  [.t 13, .t 29]⟩]).seq ((C.ops [⟨some 30, none, .load (some 6), [.t 13]⟩, ⟨some 31, none, .call 77 false, [.t 10, .t 30]⟩]).seq ((C.ops [⟨some 32, none, .fldA 0, [.t 13]⟩, ⟨some 33,
  none, .load none, [.t 32]⟩]).seq (C.block 2 ((C.ops [⟨some 35, none, .bin .eql, [.t 33, .c (.int .i64 1)]⟩, ⟨some 34, none, .mv, [.t 35]⟩]).seq (C.cond (.t 34) (C.ops [⟨some 36,
  none, .fldA 5, [.t 13]⟩, ⟨some 37, none, .load none, [.t 36]⟩, ⟨some 38, none, .call 78 true, [.t 11, .t 37]⟩]) ((C.ops [⟨some 40, none, .bin .eql, [.t 33, .c (.int .i64 2)]⟩,
  ⟨some 39, none, .mv, [.t 40]⟩]).seq (C.cond (.t 39) (C.ops [⟨some 41, none, .call 79 true, [.t 11, .c (.int .u8 32)]⟩]) C.skip))))))))).seq (C.ops [⟨some 42, none, .bin .add, [.t
  26, .c (.int .i64 1)]⟩, ⟨some 26, none, .mv, [.t 42]⟩])))).loop)).seq (((C.ops [⟨some 43, none, .mv, [.t 3]⟩, ⟨some 44, none, .mv, [.t 0]⟩, ⟨some 45, none, .len, [.t 44]⟩, ⟨some
  46, none, .bin .lss, [.t 43, .t 45]⟩, ⟨some 47, none, .mv, [.t 46]⟩, ⟨some 48, some (47, true), .mv, [.t 0]⟩, ⟨some 49, some (47, true), .mv, [.t 3]⟩, ⟨some 50, some (47, true),
  .idxA 6, [.t 48, .t 49]⟩, ⟨some 51, some (47, true), .fldA 0, [.t 50]⟩, ⟨some 52, some (47, true), .load none, [.t 51]⟩, ⟨some 53, some (47, true), .bin .eql, [.t 52, .c (.int .i64
  3)]⟩, ⟨some 54, none, .pick, [.t 47, .t 53, .c (.bool false)]⟩]).seq (C.cond (.t 54) (C.ops [⟨some 55, none, .mv, [.t 0]⟩, ⟨some 56, none, .mv, [.t 3]⟩, ⟨some 57, none, .idxA 6,
  [.t 55, .t 56]⟩, ⟨some 58, none, .fldA 5, [.t 57]⟩, ⟨some 59, none, .load none, [.t 58]⟩, ⟨some 60, none, .call 78 true, [.t 11, .t 59]⟩]) C.skip)).seq ((C.ops [⟨some 62, none,
  .mv, [.t 0]⟩, ⟨some 63, none, .mv, [.t 1]⟩, ⟨some 64, none, .load (some 3), [.t 10]⟩, ⟨some 65, none, .mv, [.t 3]⟩, ⟨some 66, none, .call 76 true, [.t 62, .t 63, .t 64, .t 65]⟩,
  ⟨some 61, none, .mv, [.t 66]⟩, ⟨some 67, none, .ext 0, [.t 61]⟩, ⟨some 68, none, .ext 1, [.t 61]⟩, ⟨some 69, none, .ext 2, [.t 61]⟩, ⟨some 14, none, .mv, [.t 67]⟩, ⟨some 15, none,
  .mv, [.t 68]⟩, ⟨some 16, none, .mv, [.t 69]⟩]).seq ((C.ops [⟨some 70, none, .mv, [.t 2]⟩, ⟨some 71, none, .mv, [.t 3]⟩, ⟨some 72, none, .mv, [.t 14]⟩, ⟨some 73, none, .mv, [.t
  15]⟩, ⟨some 74, none, .call 80 true, [.t 11]⟩, ⟨some 75, none, .build [.int .i64 0, .int .i64 0, .int .i64 0, .int .i64 0, .str []] [(0, 1), (1, 1), (2, 1), (3, 1), (4, 1)], [.t
  70, .t 71, .t 72, .t 73, .t 74]⟩, ⟨some 76, none, .mv, [.t 16]⟩, ⟨none, none, .store 5, [.t 8, .t 75]⟩, ⟨some 9, none, .mv, [.t 76]⟩]).seq
  C.ret))))))))
theorem fn44 : FnIs Try.prog 44 77 4 [RV.cell 8 (some 5), RV.tmp 9] c44 := ⟨Try.f44, Try.f44.body.getD .skip, [8, 10, 11, 13], [77], [], by kernel_rfl, by kernel_rfl, by kernel_rfl, by kernel_rfl, by kernel_rfl, by kernel_rfl, by kernel_rfl⟩
/-- apograph/paragraph.penalty -/
def c45 : C :=
  ((C.ops [⟨some 4, none, .mv, [.c (.int .i64 0)]⟩]).seq (((C.ops [⟨some 5, none, .mv, [.t 1]⟩, ⟨some 6, none, .mv, [.t 0]⟩, ⟨some 7, none, .len, [.t 6]⟩, ⟨some 8, none, .bin .lss,
  [.t 5, .t 7]⟩, ⟨some 9, none, .mv, [.t 8]⟩, ⟨some 10, some (9, true), .mv, [.t 0]⟩, ⟨some 11, some (9, true), .mv, [.t 1]⟩, ⟨some 12, some (9, true), .idxA 6, [.t 10, .t 11]⟩,
  ⟨some 13, some (9, true), .fldA 0, [.t 12]⟩, ⟨some 14, some (9, true), .load none, [.t 13]⟩, ⟨some 15, some (9, true), .bin .eql, [.t 14, .c (.int .i64 3)]⟩, ⟨some 16, none, .pick,
  [.t 9, .t 15, .c (.bool false)]⟩, ⟨some 17, none, .mv, [.t 16]⟩, ⟨some 18, some (17, true), .mv, [.t 0]⟩, ⟨some 19, some (17, true), .mv, [.t 1]⟩, ⟨some 20, some (17, true), .call
  43 true, [.t 18, .t 19]⟩, ⟨some 21, some (17, true), .un UnOp.not, [.t 20]⟩, ⟨some 22, none, .pick, [.t 17, .t 21, .c (.bool false)]⟩]).seq (C.cond (.t 22) ((C.ops [⟨some 23, none,
  .mv, [.t 0]⟩, ⟨some 24, none, .mv, [.t 1]⟩, ⟨some 25, none, .idxA 6, [.t 23, .t 24]⟩, ⟨some 26, none, .fldA 4, [.t 25]⟩, ⟨some 27, none, .load none, [.t 26]⟩, ⟨some 4, none, .mv,
  [.t 27]⟩]).seq C.ret) C.skip)).seq ((C.ops [⟨some 4, none, .mv, [.c (.int .i64 0)]⟩]).seq
  C.ret)))
theorem fn45 : FnIs Try.prog 45 28 0 [RV.tmp 4] c45 := ⟨Try.f45, Try.f45.body.getD .skip, [], [77], [], by kernel_rfl, by kernel_rfl, by kernel_rfl, by kernel_rfl, by kernel_rfl, by kernel_rfl, by kernel_rfl⟩
/-- apograph/paragraph.broken -/
def c46 : C :=
  ((C.ops [⟨some 4, none, .mv, [.c (.bool false)]⟩]).seq (((C.ops [⟨some 8, none, .mv, [.t 1]⟩, ⟨some 9, none, .len, [.t 8]⟩, ⟨some 10, none, .bin .eql, [.t 9, .c (.int .i64 0)]⟩,
  ⟨some 11, none, .mv, [.t 10]⟩, ⟨some 12, some (11, false), .mv, [.t 1]⟩, ⟨some 13, some (11, false), .mv, [.t 1]⟩, ⟨some 14, some (11, false), .len, [.t 13]⟩, ⟨some 15, some (11,
  false), .bin .sub, [.t 14, .c (.int .i64 1)]⟩, ⟨some 16, some (11, false), .idxA 1, [.t 12, .t 15]⟩, ⟨some 17, some (11, false), .load none, [.t 16]⟩, ⟨some 18, some (11, false),
  .mv, [.t 0]⟩, ⟨some 19, some (11, false), .len, [.t 18]⟩, ⟨some 20, some (11, false), .bin .neq, [.t 17, .t 19]⟩, ⟨some 21, none, .pick, [.t 11, .c (.bool true), .t 20]⟩]).seq
  (C.cond (.t 21) ((C.ops [⟨some 4, none, .mv, [.c (.bool false)]⟩]).seq C.ret) C.skip)).seq (((C.ops [⟨some 22, none, .mv, [.t 1]⟩, ⟨some 23, none, .len, [.t 22]⟩, ⟨some 24, none,
  .mv, [.c (.int .i64 0)]⟩]).seq (C.block 0 ((C.ops [⟨some 25, none, .bin .lss, [.t 24, .t 23]⟩]).seq ((C.cond (.t 25) C.skip (C.exit 0)).seq ((C.block 1 ((C.ops [⟨some 26, none,
  .mv, [.t 24]⟩, ⟨some 27, none, .idxA 1, [.t 22, .t 24]⟩, ⟨some 28, none, .load none, [.t 27]⟩, ⟨some 5, none, .mv, [.t 26]⟩, ⟨some 6, none, .mv, [.t 28]⟩]).seq ((C.ops [⟨some 29,
  none, .mv, [.t 6]⟩, ⟨some 30, none, .bin .lss, [.t 29, .c (.int .i64 0)]⟩, ⟨some 31, none, .mv, [.t 30]⟩, ⟨some 32, some (31, false), .mv, [.t 6]⟩, ⟨some 33, some (31, false), .mv,
  [.t 0]⟩, ⟨some 34, some (31, false), .len, [.t 33]⟩, ⟨some 35, some (31, false), .bin .gtr, [.t 32, .t 34]⟩, ⟨some 36, none, .pick, [.t 31, .c (.bool true), .t 35]⟩, ⟨some 37,
  none, .mv, [.t 36]⟩, ⟨some 38, some (37, false), .mv, [.t 5]⟩, ⟨some 39, some (37, false), .bin .gtr, [.t 38, .c (.int .i64 0)]⟩, ⟨some 40, some (37, false), .mv, [.t 39]⟩, ⟨some
  41, some (40, true), .mv, [.t 6]⟩, ⟨some 42, some (40, true), .mv, [.t 1]⟩, ⟨some 43, some (40, true), .mv, [.t 5]⟩, ⟨some 44, some (40, true), .bin .sub, [.t 43, .c (.int .i64
  1)]⟩, ⟨some 45, some (40, true), .idxA 1, [.t 42, .t 44]⟩, ⟨some 46, some (40, true), .load none, [.t 45]⟩, ⟨some 47, some (40, true), .bin .leq, [.t 41, .t 46]⟩, ⟨some 48, some
  (37, false), .pick, [.t 40, .t 47, .c (.bool false)]⟩, ⟨some 49, none, .pick, [.t 37, .c (.bool true), .t 48]⟩, ⟨some 50, none, .mv, [.t 49]⟩, ⟨some 51, some (50, false), .mv, [.t
  0]⟩, ⟨some 52, some (50, false), .mv, [.t 6]⟩, ⟨some 53, some (50, false), .call 42 true, [.t 51, .t 52]⟩, ⟨some 54, some (50, false), .un UnOp.not, [.t 53]⟩, ⟨some 55, none,
  .pick, [.t 50, .c (.bool true), .t 54]⟩]).seq (C.cond (.t 55) ((C.ops [⟨some 4, none, .mv, [.c (.bool false)]⟩]).seq C.ret) C.skip)))).seq (C.ops [⟨some 56, none, .bin .add, [.t
  24, .c (.int .i64 1)]⟩, ⟨some 24, none, .mv, [.t 56]⟩])))).loop)).seq (((C.ops [⟨some 57, none, .mv, [.t 0]⟩, ⟨some 58, none, .len, [.t 57]⟩, ⟨some 59, none, .mv, [.c (.int .i64
  0)]⟩]).seq (C.block 2 ((C.ops [⟨some 60, none, .bin .lss, [.t 59, .t 58]⟩]).seq ((C.cond (.t 60) C.skip (C.exit 2)).seq ((C.block 3 ((C.ops [⟨some 61, none, .mv, [.t 59]⟩, ⟨some 7,
  none, .mv, [.t 61]⟩]).seq ((C.ops [⟨some 62, none, .mv, [.t 0]⟩, ⟨some 63, none, .mv, [.t 7]⟩, ⟨some 64, none, .call 43 true, [.t 62, .t 63]⟩, ⟨some 65, none, .mv, [.t 64]⟩, ⟨some
  66, some (65, true), .mv, [.t 1]⟩, ⟨some 67, some (65, true), .mv, [.t 7]⟩, ⟨some 68, some (65, true), .call 17 true, [.t 66, .t 67]⟩, ⟨some 69, some (65, true), .un UnOp.not, [.t
  68]⟩, ⟨some 70, none, .pick, [.t 65, .t 69, .c (.bool false)]⟩]).seq (C.cond (.t 70) ((C.ops [⟨some 4, none, .mv, [.c (.bool false)]⟩]).seq C.ret) C.skip)))).seq (C.ops [⟨some 71,
  none, .bin .add, [.t 59, .c (.int .i64 1)]⟩, ⟨some 59, none, .mv, [.t 71]⟩])))).loop)).seq ((C.ops [⟨some 4, none, .mv, [.c (.bool true)]⟩]).seq
  C.ret)))))
theorem fn46 : FnIs Try.prog 46 72 0 [RV.tmp 4] c46 := ⟨Try.f46, Try.f46.body.getD .skip, [], [77], [], by kernel_rfl, by kernel_rfl, by kernel_rfl, by kernel_rfl, by kernel_rfl, by kernel_rfl, by kernel_rfl⟩
/-- slices.Index[[]int,int] -/
def c47 : C :=
  ((C.ops [⟨some 4, none, .mv, [.c (.int .i64 0)]⟩]).seq (((C.ops [⟨some 6, none, .mv, [.t 0]⟩, ⟨some 7, none, .len, [.t 6]⟩, ⟨some 8, none, .mv, [.c (.int .i64 0)]⟩]).seq (C.block 0
  ((C.ops [⟨some 9, none, .bin .lss, [.t 8, .t 7]⟩]).seq ((C.cond (.t 9) C.skip (C.exit 0)).seq ((C.block 1 ((C.ops [⟨some 10, none, .mv, [.t 8]⟩, ⟨some 5, none, .mv, [.t 10]⟩]).seq
  ((C.ops [⟨some 11, none, .mv, [.t 1]⟩, ⟨some 12, none, .mv, [.t 0]⟩, ⟨some 13, none, .mv, [.t 5]⟩, ⟨some 14, none, .idxA 1, [.t 12, .t 13]⟩, ⟨some 15, none, .load none, [.t 14]⟩,
  ⟨some 16, none, .bin .eql, [.t 11, .t 15]⟩]).seq (C.cond (.t 16) ((C.ops [⟨some 17, none, .mv, [.t 5]⟩, ⟨some 4, none, .mv, [.t 17]⟩]).seq C.ret) C.skip)))).seq (C.ops [⟨some 18,
  none, .bin .add, [.t 8, .c (.int .i64 1)]⟩, ⟨some 8, none, .mv, [.t 18]⟩])))).loop)).seq ((C.ops [⟨some 4, none, .mv, [.c (.int .i64 (-1))]⟩]).seq
  C.ret)))
theorem fn47 : FnIs Try.prog 47 19 0 [RV.tmp 4] c47 := ⟨Try.f47, Try.f47.body.getD .skip, [], [77], [], by kernel_rfl, by kernel_rfl, by kernel_rfl, by kernel_rfl, by kernel_rfl, by kernel_rfl, by kernel_rfl⟩
/-- slices.Min[[]int,int] -/
def c48 : C :=
  ((C.ops [⟨some 2, none, .mv, [.c (.int .i64 0)]⟩]).seq (((C.ops [⟨some 5, none, .mv, [.t 0]⟩, ⟨some 6, none, .len, [.t 5]⟩, ⟨some 7, none, .bin .lss, [.t 6, .c (.int .i64
  1)]⟩]).seq (C.cond (.t 7) C.bad C.skip)).seq ((C.ops [⟨some 9, none, .mv, [.t 0]⟩, ⟨some 10, none, .idxA 1, [.t 9, .c (.int .i64 0)]⟩, ⟨some 11, none, .load none, [.t 10]⟩, ⟨some
  3, none, .mv, [.t 11]⟩]).seq (((C.ops [⟨some 4, none, .mv, [.c (.int .i64 1)]⟩]).seq (C.block 0 (((C.ops [⟨some 12, none, .mv, [.t 4]⟩, ⟨some 13, none, .mv, [.t 0]⟩, ⟨some 14,
  none, .len, [.t 13]⟩, ⟨some 15, none, .bin .lss, [.t 12, .t 14]⟩]).seq (C.cond (.t 15) C.skip (C.exit 0))).seq ((C.block 1 (C.ops [⟨some 18, none, .mv, [.t 3]⟩, ⟨some 19, none,
  .mv, [.t 0]⟩, ⟨some 20, none, .mv, [.t 4]⟩, ⟨some 21, none, .idxA 1, [.t 19, .t 20]⟩, ⟨some 22, none, .load none, [.t 21]⟩, ⟨some 23, none, .mm false, [.t 18, .t 22]⟩, ⟨some 3,
  none, .mv, [.t 23]⟩])).seq (C.ops [⟨some 16, none, .mv, [.t 4]⟩, ⟨some 17, none, .bin .add, [.t 16, .c (.int .i64 1)]⟩, ⟨some 4, none, .mv, [.t 17]⟩]))).loop)).seq ((C.ops [⟨some
  24, none, .mv, [.t 3]⟩, ⟨some 2, none, .mv, [.t 24]⟩]).seq
  C.ret)))))
theorem fn48 : FnIs Try.prog 48 25 0 [RV.tmp 2] c48 := ⟨Try.f48, Try.f48.body.getD .skip, [], [77], [], by kernel_rfl, by kernel_rfl, by kernel_rfl, by kernel_rfl, by kernel_rfl, by kernel_rfl, by kernel_rfl⟩
/-- cmp.Compare[int] -/
def c49 : C :=
  ((C.ops [⟨some 4, none, .mv, [.c (.int .i64 0)]⟩]).seq ((C.ops [⟨some 7, none, .mv, [.t 0]⟩, ⟨some 8, none, .call 81 true, [.t 7]⟩, ⟨some 5, none, .mv, [.t 8]⟩]).seq ((C.ops [⟨some
  9, none, .mv, [.t 1]⟩, ⟨some 10, none, .call 81 true, [.t 9]⟩, ⟨some 6, none, .mv, [.t 10]⟩]).seq (((C.ops [⟨some 11, none, .mv, [.t 5]⟩]).seq (C.cond (.t 11) (((C.ops [⟨some 12,
  none, .mv, [.t 6]⟩]).seq (C.cond (.t 12) ((C.ops [⟨some 4, none, .mv, [.c (.int .i64 0)]⟩]).seq C.ret) C.skip)).seq ((C.ops [⟨some 4, none, .mv, [.c (.int .i64 (-1))]⟩]).seq
  C.ret)) C.skip)).seq (((C.ops [⟨some 13, none, .mv, [.t 6]⟩]).seq (C.cond (.t 13) ((C.ops [⟨some 4, none, .mv, [.c (.int .i64 1)]⟩]).seq C.ret) C.skip)).seq (((C.ops [⟨some 14,
  none, .mv, [.t 0]⟩, ⟨some 15, none, .mv, [.t 1]⟩, ⟨some 16, none, .bin .lss, [.t 14, .t 15]⟩]).seq (C.cond (.t 16) ((C.ops [⟨some 4, none, .mv, [.c (.int .i64 (-1))]⟩]).seq C.ret)
  C.skip)).seq (((C.ops [⟨some 17, none, .mv, [.t 0]⟩, ⟨some 18, none, .mv, [.t 1]⟩, ⟨some 19, none, .bin .gtr, [.t 17, .t 18]⟩]).seq (C.cond (.t 19) ((C.ops [⟨some 4, none, .mv, [.c
  (.int .i64 1)]⟩]).seq C.ret) C.skip)).seq ((C.ops [⟨some 4, none, .mv, [.c (.int .i64 0)]⟩]).seq
  C.ret))))))))
theorem fn49 : FnIs Try.prog 49 20 0 [RV.tmp 4] c49 := ⟨Try.f49, Try.f49.body.getD .skip, [], [77], [], by kernel_rfl, by kernel_rfl, by kernel_rfl, by kernel_rfl, by kernel_rfl, by kernel_rfl, by kernel_rfl⟩
/-- apograph/apographref48.check -/
def c50 : C :=
  ((C.ops [⟨some 4, none, .mv, [.c (.int .i64 0)]⟩]).seq (((C.ops [⟨some 5, none, .mv, [.t 0]⟩, ⟨some 6, none, .call 36 true, [.t 5]⟩, ⟨some 7, none, .bin .neq, [.t 6, .c (.int .i64
  0)]⟩]).seq (C.cond (.t 7) ((C.ops [⟨some 4, none, .mv, [.c (.int .i64 1)]⟩]).seq C.ret) C.skip)).seq (((C.ops [⟨some 8, none, .mv, [.t 1]⟩, ⟨some 9, none, .call 68 true, [.t 8]⟩,
  ⟨some 10, none, .un UnOp.not, [.t 9]⟩]).seq (C.cond (.t 10) ((C.ops [⟨some 4, none, .mv, [.c (.int .i64 2)]⟩]).seq C.ret) C.skip)).seq ((C.ops [⟨some 4, none, .mv, [.c (.int .i64
  0)]⟩]).seq
  C.ret))))
theorem fn50 : FnIs Try.prog 50 11 0 [RV.tmp 4] c50 := ⟨Try.f50, Try.f50.body.getD .skip, [], [77], [], by kernel_rfl, by kernel_rfl, by kernel_rfl, by kernel_rfl, by kernel_rfl, by kernel_rfl, by kernel_rfl⟩
/-- apograph/apographref48.list -/
def c51 : C :=
  ((C.ops [⟨some 4, none, .mv, [.c (.bool false)]⟩]).seq ((C.ops [⟨some 5, none, .mv, [.c (.int .i64 0)]⟩]).seq (((C.ops [⟨some 6, none, .mv, [.c (.int .i64 0)]⟩]).seq (C.block 0
  (((C.ops [⟨some 8, none, .mv, [.t 6]⟩, ⟨some 9, none, .mv, [.t 1]⟩, ⟨some 10, none, .len, [.t 9]⟩, ⟨some 11, none, .bin .lss, [.t 8, .t 10]⟩]).seq (C.cond (.t 11) C.skip (C.exit
  0))).seq ((C.block 1 ((C.ops [⟨some 14, none, .mv, [.t 1]⟩, ⟨some 15, none, .mv, [.t 6]⟩, ⟨some 16, none, .idxA 1, [.t 14, .t 15]⟩, ⟨some 17, none, .load none, [.t 16]⟩, ⟨some 7,
  none, .mv, [.t 17]⟩]).seq (((C.ops [⟨some 18, none, .mv, [.t 7]⟩, ⟨some 19, none, .mv, [.t 5]⟩, ⟨some 20, none, .bin .lss, [.t 18, .t 19]⟩, ⟨some 21, none, .mv, [.t 20]⟩, ⟨some 22,
  some (21, false), .mv, [.t 7]⟩, ⟨some 23, some (21, false), .mv, [.t 0]⟩, ⟨some 24, some (21, false), .len, [.t 23]⟩, ⟨some 25, some (21, false), .bin .gtr, [.t 22, .t 24]⟩, ⟨some
  26, none, .pick, [.t 21, .c (.bool true), .t 25]⟩, ⟨some 27, none, .mv, [.t 26]⟩, ⟨some 28, some (27, false), .mv, [.t 0]⟩, ⟨some 29, some (27, false), .mv, [.t 7]⟩, ⟨some 30, some
  (27, false), .call 56 true, [.t 28, .t 29]⟩, ⟨some 31, some (27, false), .un UnOp.not, [.t 30]⟩, ⟨some 32, none, .pick, [.t 27, .c (.bool true), .t 31]⟩, ⟨some 33, none, .mv, [.t
  32]⟩, ⟨some 34, some (33, false), .mv, [.t 0]⟩, ⟨some 35, some (33, false), .mv, [.t 5]⟩, ⟨some 36, some (33, false), .mv, [.t 7]⟩, ⟨some 37, some (33, false), .call 57 true, [.t
  34, .t 35, .t 36]⟩, ⟨some 38, some (33, false), .un UnOp.not, [.t 37]⟩, ⟨some 39, none, .pick, [.t 33, .c (.bool true), .t 38]⟩]).seq (C.cond (.t 39) ((C.ops [⟨some 4, none, .mv,
  [.c (.bool false)]⟩]).seq C.ret) C.skip)).seq (C.ops [⟨some 40, none, .mv, [.t 7]⟩, ⟨some 41, none, .bin .add, [.t 40, .c (.int .i64 1)]⟩, ⟨some 5, none, .mv, [.t 41]⟩])))).seq
  (C.ops [⟨some 12, none, .mv, [.t 6]⟩, ⟨some 13, none, .bin .add, [.t 12, .c (.int .i64 1)]⟩, ⟨some 6, none, .mv, [.t 13]⟩]))).loop)).seq ((C.ops [⟨some 42, none, .mv, [.t 1]⟩,
  ⟨some 43, none, .len, [.t 42]⟩, ⟨some 44, none, .bin .gtr, [.t 43, .c (.int .i64 0)]⟩, ⟨some 45, none, .mv, [.t 44]⟩, ⟨some 46, some (45, true), .mv, [.t 1]⟩, ⟨some 47, some (45,
  true), .mv, [.t 1]⟩, ⟨some 48, some (45, true), .len, [.t 47]⟩, ⟨some 49, some (45, true), .bin .sub, [.t 48, .c (.int .i64 1)]⟩, ⟨some 50, some (45, true), .idxA 1, [.t 46, .t
  49]⟩, ⟨some 51, some (45, true), .load none, [.t 50]⟩, ⟨some 52, some (45, true), .mv, [.t 0]⟩, ⟨some 53, some (45, true), .len, [.t 52]⟩, ⟨some 54, some (45, true), .bin .eql, [.t
  51, .t 53]⟩, ⟨some 55, none, .pick, [.t 45, .t 54, .c (.bool false)]⟩, ⟨some 4, none, .mv, [.t 55]⟩]).seq
  C.ret))))
theorem fn51 : FnIs Try.prog 51 56 0 [RV.tmp 4] c51 := ⟨Try.f51, Try.f51.body.getD .skip, [], [77], [], by kernel_rfl, by kernel_rfl, by kernel_rfl, by kernel_rfl, by kernel_rfl, by kernel_rfl, by kernel_rfl⟩
/-- apograph/apographref48.badness -/
def c52 : C :=
  ((C.ops [⟨some 8, none, .mv, [.c (.int .i64 0)]⟩, ⟨some 9, none, .mv, [.c (.int .i64 0)]⟩, ⟨some 10, none, .mv, [.c (.bool false)]⟩]).seq ((C.ops [⟨some 15, none, .mv, [.t 0]⟩,
  ⟨some 16, none, .mv, [.t 2]⟩, ⟨some 17, none, .mv, [.t 3]⟩, ⟨some 18, none, .call 82 true, [.t 15, .t 16, .t 17]⟩, ⟨some 14, none, .mv, [.t 18]⟩, ⟨some 19, none, .ext 0, [.t 14]⟩,
  ⟨some 20, none, .ext 1, [.t 14]⟩, ⟨some 21, none, .ext 2, [.t 14]⟩, ⟨some 11, none, .mv, [.t 19]⟩, ⟨some 12, none, .mv, [.t 20]⟩, ⟨some 13, none, .mv, [.t 21]⟩]).seq (((C.ops
  [⟨some 22, none, .mv, [.t 11]⟩, ⟨some 23, none, .mv, [.t 1]⟩, ⟨some 24, none, .bin .leq, [.t 22, .t 23]⟩]).seq (C.cond (.t 24) (((C.ops [⟨some 25, none, .mv, [.t 3]⟩, ⟨some 26,
  none, .mv, [.t 0]⟩, ⟨some 27, none, .len, [.t 26]⟩, ⟨some 28, none, .bin .eql, [.t 25, .t 27]⟩, ⟨some 29, none, .mv, [.t 28]⟩, ⟨some 30, some (29, false), .mv, [.t 0]⟩, ⟨some 31,
  some (29, false), .mv, [.t 3]⟩, ⟨some 32, some (29, false), .call 83 true, [.t 30, .t 31]⟩, ⟨some 33, none, .pick, [.t 29, .c (.bool true), .t 32]⟩]).seq (C.cond (.t 33) ((C.ops
  [⟨some 8, none, .mv, [.c (.int .i64 0)]⟩, ⟨some 9, none, .mv, [.c (.int .i64 0)]⟩, ⟨some 10, none, .mv, [.c (.bool true)]⟩]).seq C.ret) C.skip)).seq ((C.ops [⟨some 34, none, .mv,
  [.t 1]⟩, ⟨some 35, none, .mv, [.t 11]⟩, ⟨some 36, none, .bin .sub, [.t 34, .t 35]⟩, ⟨some 37, none, .mv, [.t 12]⟩, ⟨some 38, none, .call 84 true, [.t 36, .t 37]⟩, ⟨some 39, none,
  .mv, [.t 1]⟩, ⟨some 40, none, .mv, [.t 11]⟩, ⟨some 41, none, .bin .sub, [.t 39, .t 40]⟩, ⟨some 8, none, .mv, [.t 38]⟩, ⟨some 9, none, .mv, [.t 41]⟩, ⟨some 10, none, .mv, [.c (.bool
  true)]⟩]).seq C.ret)) C.skip)).seq (((C.ops [⟨some 42, none, .mv, [.t 11]⟩, ⟨some 43, none, .mv, [.t 1]⟩, ⟨some 44, none, .bin .sub, [.t 42, .t 43]⟩, ⟨some 45, none, .mv, [.t 13]⟩,
  ⟨some 46, none, .bin .gtr, [.t 44, .t 45]⟩]).seq (C.cond (.t 46) ((C.ops [⟨some 8, none, .mv, [.c (.int .i64 0)]⟩, ⟨some 9, none, .mv, [.c (.int .i64 0)]⟩, ⟨some 10, none, .mv, [.c
  (.bool false)]⟩]).seq C.ret) C.skip)).seq ((C.ops [⟨some 47, none, .mv, [.t 11]⟩, ⟨some 48, none, .mv, [.t 1]⟩, ⟨some 49, none, .bin .sub, [.t 47, .t 48]⟩, ⟨some 50, none, .mv, [.t
  13]⟩, ⟨some 51, none, .call 84 true, [.t 49, .t 50]⟩, ⟨some 52, none, .mv, [.t 1]⟩, ⟨some 53, none, .mv, [.t 11]⟩, ⟨some 54, none, .bin .sub, [.t 52, .t 53]⟩, ⟨some 8, none, .mv,
  [.t 51]⟩, ⟨some 9, none, .mv, [.t 54]⟩, ⟨some 10, none, .mv, [.c (.bool true)]⟩]).seq
  C.ret)))))
theorem fn52 : FnIs Try.prog 52 55 0 [RV.tmp 8, RV.tmp 9, RV.tmp 10] c52 := ⟨Try.f52, Try.f52.body.getD .skip, [], [77], [], by kernel_rfl, by kernel_rfl, by kernel_rfl, by kernel_rfl, by kernel_rfl, by kernel_rfl, by kernel_rfl⟩
/-- apograph/apographref48.begin -/
def c53 : C :=
  ((C.ops [⟨some 6, none, .mv, [.c (.int .i64 0)]⟩]).seq ((C.block 0 (((C.ops [⟨some 7, none, .mv, [.t 1]⟩, ⟨some 8, none, .mv, [.t 2]⟩, ⟨some 9, none, .bin .lss, [.t 7, .t 8]⟩,
  ⟨some 10, none, .mv, [.t 9]⟩, ⟨some 11, some (10, true), .mv, [.t 0]⟩, ⟨some 12, some (10, true), .mv, [.t 1]⟩, ⟨some 13, some (10, true), .idxA 6, [.t 11, .t 12]⟩, ⟨some 14, some
  (10, true), .fldA 0, [.t 13]⟩, ⟨some 15, some (10, true), .load none, [.t 14]⟩, ⟨some 16, some (10, true), .bin .eql, [.t 15, .c (.int .i64 2)]⟩, ⟨some 17, none, .pick, [.t 10, .t
  16, .c (.bool false)]⟩]).seq (C.cond (.t 17) C.skip (C.exit 0))).seq (C.block 1 (C.ops [⟨some 18, none, .mv, [.t 1]⟩, ⟨some 19, none, .bin .add, [.t 18, .c (.int .i64 1)]⟩, ⟨some
  1, none, .mv, [.t 19]⟩]))).loop).seq ((C.ops [⟨some 20, none, .mv, [.t 1]⟩, ⟨some 6, none, .mv, [.t 20]⟩]).seq
  C.ret)))
theorem fn53 : FnIs Try.prog 53 21 0 [RV.tmp 6] c53 := ⟨Try.f53, Try.f53.body.getD .skip, [], [77], [], by kernel_rfl, by kernel_rfl, by kernel_rfl, by kernel_rfl, by kernel_rfl, by kernel_rfl, by kernel_rfl⟩
/-- apograph/apographref48.cost -/
def c54 : C :=
  ((C.ops [⟨some 8, none, .mv, [.c (.int .i64 0)]⟩, ⟨some 9, none, .mv, [.c (.bool false)]⟩]).seq ((C.ops [⟨some 14, none, .mv, [.t 0]⟩, ⟨some 15, none, .mv, [.t 1]⟩, ⟨some 16, none,
  .mv, [.t 2]⟩, ⟨some 17, none, .mv, [.t 3]⟩, ⟨some 18, none, .call 52 true, [.t 14, .t 15, .t 16, .t 17]⟩, ⟨some 13, none, .mv, [.t 18]⟩, ⟨some 19, none, .ext 0, [.t 13]⟩, ⟨some 20,
  none, .ext 1, [.t 13]⟩, ⟨some 21, none, .ext 2, [.t 13]⟩, ⟨some 10, none, .mv, [.t 19]⟩, ⟨some 11, none, .mv, [.t 20]⟩, ⟨some 12, none, .mv, [.t 21]⟩]).seq (((C.ops [⟨some 22,
  none, .mv, [.t 12]⟩, ⟨some 23, none, .un UnOp.not, [.t 22]⟩]).seq (C.cond (.t 23) ((C.ops [⟨some 8, none, .mv, [.c (.int .i64 0)]⟩, ⟨some 9, none, .mv, [.c (.bool false)]⟩]).seq
  C.ret) C.skip)).seq (((C.ops [⟨some 24, none, .mv, [.t 3]⟩, ⟨some 25, none, .mv, [.t 0]⟩, ⟨some 26, none, .len, [.t 25]⟩, ⟨some 27, none, .bin .lss, [.t 24, .t 26]⟩, ⟨some 28,
  none, .mv, [.t 27]⟩, ⟨some 29, some (28, true), .mv, [.t 0]⟩, ⟨some 30, some (28, true), .mv, [.t 3]⟩, ⟨some 31, some (28, true), .idxA 6, [.t 29, .t 30]⟩, ⟨some 32, some (28,
  true), .fldA 0, [.t 31]⟩, ⟨some 33, some (28, true), .load none, [.t 32]⟩, ⟨some 34, some (28, true), .bin .eql, [.t 33, .c (.int .i64 3)]⟩, ⟨some 35, none, .pick, [.t 28, .t 34,
  .c (.bool false)]⟩, ⟨some 36, none, .mv, [.t 35]⟩, ⟨some 37, some (36, true), .mv, [.t 0]⟩, ⟨some 38, some (36, true), .mv, [.t 3]⟩, ⟨some 39, some (36, true), .call 83 true, [.t
  37, .t 38]⟩, ⟨some 40, some (36, true), .un UnOp.not, [.t 39]⟩, ⟨some 41, none, .pick, [.t 36, .t 40, .c (.bool false)]⟩]).seq (C.cond (.t 41) (C.ops [⟨some 42, none, .mv, [.t
  10]⟩, ⟨some 43, none, .mv, [.t 0]⟩, ⟨some 44, none, .mv, [.t 3]⟩, ⟨some 45, none, .idxA 6, [.t 43, .t 44]⟩, ⟨some 46, none, .fldA 4, [.t 45]⟩, ⟨some 47, none, .load none, [.t 46]⟩,
  ⟨some 48, none, .bin .add, [.t 42, .t 47]⟩, ⟨some 10, none, .mv, [.t 48]⟩]) C.skip)).seq ((C.ops [⟨some 49, none, .mv, [.t 10]⟩, ⟨some 8, none, .mv, [.t 49]⟩, ⟨some 9, none, .mv,
  [.c (.bool true)]⟩]).seq
  C.ret)))))
theorem fn54 : FnIs Try.prog 54 50 0 [RV.tmp 8, RV.tmp 9] c54 := ⟨Try.f54, Try.f54.body.getD .skip, [], [77], [], by kernel_rfl, by kernel_rfl, by kernel_rfl, by kernel_rfl, by kernel_rfl, by kernel_rfl, by kernel_rfl⟩
/-- apograph/apographref48.potentials -/
def c55 : C :=
  ((C.ops [⟨some 4, none, .nilo 0 1 3, []⟩]).seq ((C.ops [⟨some 10, none, .mv, [.t 0]⟩, ⟨some 11, none, .len, [.t 10]⟩, ⟨some 12, none, .bin .add, [.t 11, .c (.int .i64 1)]⟩, ⟨some
  13, none, .mkslc 1 1 3 [.int .i64 0] 8, [.t 12, .t 12]⟩, ⟨some 5, none, .mv, [.t 13]⟩]).seq (((C.ops [⟨some 14, none, .mv, [.t 0]⟩, ⟨some 15, none, .len, [.t 14]⟩, ⟨some 6, none,
  .mv, [.t 15]⟩]).seq (C.block 0 (((C.ops [⟨some 16, none, .mv, [.t 6]⟩, ⟨some 17, none, .bin .geq, [.t 16, .c (.int .i64 0)]⟩]).seq (C.cond (.t 17) C.skip (C.exit 0))).seq ((C.block
  1 ((C.ops [⟨some 20, none, .mv, [.t 5]⟩, ⟨some 21, none, .mv, [.t 6]⟩, ⟨some 22, none, .idxA 1, [.t 20, .t 21]⟩, ⟨none, none, .store 1, [.t 22, .c (.int .i64 (-1))]⟩]).seq ((C.ops
  [⟨some 23, none, .mv, [.t 6]⟩, ⟨some 7, none, .mv, [.t 23]⟩]).seq (C.block 2 (((C.ops [⟨some 24, none, .mv, [.t 7]⟩, ⟨some 25, none, .mv, [.t 0]⟩, ⟨some 26, none, .len, [.t 25]⟩,
  ⟨some 27, none, .bin .leq, [.t 24, .t 26]⟩]).seq (C.cond (.t 27) C.skip (C.exit 2))).seq ((C.block 3 (((C.ops [⟨some 30, none, .mv, [.t 0]⟩, ⟨some 31, none, .mv, [.t 7]⟩, ⟨some 32,
  none, .call 56 true, [.t 30, .t 31]⟩, ⟨some 33, none, .un UnOp.not, [.t 32]⟩, ⟨some 34, none, .mv, [.t 33]⟩, ⟨some 35, some (34, false), .mv, [.t 0]⟩, ⟨some 36, some (34, false),
  .mv, [.t 6]⟩, ⟨some 37, some (34, false), .mv, [.t 7]⟩, ⟨some 38, some (34, false), .call 57 true, [.t 35, .t 36, .t 37]⟩, ⟨some 39, some (34, false), .un UnOp.not, [.t 38]⟩, ⟨some
  40, none, .pick, [.t 34, .c (.bool true), .t 39]⟩]).seq (C.cond (.t 40) (C.exit 3) C.skip)).seq ((C.ops [⟨some 42, none, .mv, [.t 0]⟩, ⟨some 43, none, .mv, [.t 1]⟩, ⟨some 44, none,
  .mv, [.t 6]⟩, ⟨some 45, none, .mv, [.t 7]⟩, ⟨some 46, none, .call 54 true, [.t 42, .t 43, .t 44, .t 45]⟩, ⟨some 41, none, .mv, [.t 46]⟩, ⟨some 47, none, .ext 0, [.t 41]⟩, ⟨some 48,
  none, .ext 1, [.t 41]⟩, ⟨some 8, none, .mv, [.t 47]⟩, ⟨some 9, none, .mv, [.t 48]⟩]).seq (((C.ops [⟨some 49, none, .mv, [.t 9]⟩, ⟨some 50, none, .un UnOp.not, [.t 49]⟩]).seq
  (C.cond (.t 50) (C.exit 3) C.skip)).seq (((C.ops [⟨some 51, none, .mv, [.t 7]⟩, ⟨some 52, none, .mv, [.t 0]⟩, ⟨some 53, none, .len, [.t 52]⟩, ⟨some 54, none, .bin .lss, [.t 51, .t
  53]⟩]).seq (C.cond (.t 54) (((C.ops [⟨some 55, none, .mv, [.t 5]⟩, ⟨some 56, none, .mv, [.t 7]⟩, ⟨some 57, none, .bin .add, [.t 56, .c (.int .i64 1)]⟩, ⟨some 58, none, .idxA 1, [.t
  55, .t 57]⟩, ⟨some 59, none, .load none, [.t 58]⟩, ⟨some 60, none, .bin .lss, [.t 59, .c (.int .i64 0)]⟩]).seq (C.cond (.t 60) (C.exit 3) C.skip)).seq (C.ops [⟨some 61, none, .mv,
  [.t 8]⟩, ⟨some 62, none, .mv, [.t 5]⟩, ⟨some 63, none, .mv, [.t 7]⟩, ⟨some 64, none, .bin .add, [.t 63, .c (.int .i64 1)]⟩, ⟨some 65, none, .idxA 1, [.t 62, .t 64]⟩, ⟨some 66,
  none, .load none, [.t 65]⟩, ⟨some 67, none, .bin .add, [.t 61, .t 66]⟩, ⟨some 8, none, .mv, [.t 67]⟩])) C.skip)).seq ((C.ops [⟨some 68, none, .mv, [.t 5]⟩, ⟨some 69, none, .mv, [.t
  6]⟩, ⟨some 70, none, .idxA 1, [.t 68, .t 69]⟩, ⟨some 71, none, .load none, [.t 70]⟩, ⟨some 72, none, .bin .lss, [.t 71, .c (.int .i64 0)]⟩, ⟨some 73, none, .mv, [.t 72]⟩, ⟨some 74,
  some (73, false), .mv, [.t 8]⟩, ⟨some 75, some (73, false), .mv, [.t 5]⟩, ⟨some 76, some (73, false), .mv, [.t 6]⟩, ⟨some 77, some (73, false), .idxA 1, [.t 75, .t 76]⟩, ⟨some 78,
  some (73, false), .load none, [.t 77]⟩, ⟨some 79, some (73, false), .bin .lss, [.t 74, .t 78]⟩, ⟨some 80, none, .pick, [.t 73, .c (.bool true), .t 79]⟩]).seq (C.cond (.t 80) (C.ops
  [⟨some 81, none, .mv, [.t 5]⟩, ⟨some 82, none, .mv, [.t 6]⟩, ⟨some 83, none, .mv, [.t 8]⟩, ⟨some 84, none, .idxA 1, [.t 81, .t 82]⟩, ⟨none, none, .store 1, [.t 84, .t 83]⟩])
  C.skip))))))).seq (C.ops [⟨some 28, none, .mv, [.t 7]⟩, ⟨some 29, none, .bin .add, [.t 28, .c (.int .i64 1)]⟩, ⟨some 7, none, .mv, [.t 29]⟩]))).loop)))).seq (C.ops [⟨some 18, none,
  .mv, [.t 6]⟩, ⟨some 19, none, .bin .sub, [.t 18, .c (.int .i64 1)]⟩, ⟨some 6, none, .mv, [.t 19]⟩]))).loop)).seq ((C.ops [⟨some 85, none, .mv, [.t 5]⟩, ⟨some 4, none, .mv, [.t
  85]⟩]).seq
  C.ret))))
theorem fn55 : FnIs Try.prog 55 86 2 [RV.tmp 4] c55 := ⟨Try.f55, Try.f55.body.getD .skip, [4, 13], [77], [], by kernel_rfl, by kernel_rfl, by kernel_rfl, by kernel_rfl, by kernel_rfl, by kernel_rfl, by kernel_rfl⟩
/-- apograph/apographref48.legal -/
def c56 : C :=
  ((C.ops [⟨some 4, none, .mv, [.c (.bool false)]⟩]).seq (((C.ops [⟨some 5, none, .mv, [.t 1]⟩, ⟨some 6, none, .mv, [.t 0]⟩, ⟨some 7, none, .len, [.t 6]⟩, ⟨some 8, none, .bin .eql,
  [.t 5, .t 7]⟩]).seq (C.cond (.t 8) ((C.ops [⟨some 4, none, .mv, [.c (.bool true)]⟩]).seq C.ret) C.skip)).seq (((C.ops [⟨some 9, none, .mv, [.t 0]⟩, ⟨some 10, none, .mv, [.t 1]⟩,
  ⟨some 11, none, .idxA 6, [.t 9, .t 10]⟩, ⟨some 12, none, .fldA 0, [.t 11]⟩, ⟨some 13, none, .load none, [.t 12]⟩, ⟨some 14, none, .bin .eql, [.t 13, .c (.int .i64 3)]⟩]).seq
  (C.cond (.t 14) ((C.ops [⟨some 15, none, .mv, [.t 0]⟩, ⟨some 16, none, .mv, [.t 1]⟩, ⟨some 17, none, .idxA 6, [.t 15, .t 16]⟩, ⟨some 18, none, .fldA 4, [.t 17]⟩, ⟨some 19, none,
  .load none, [.t 18]⟩, ⟨some 20, none, .bin .neq, [.t 19, .c (.int .i64 10000)]⟩, ⟨some 4, none, .mv, [.t 20]⟩]).seq C.ret) C.skip)).seq ((C.ops [⟨some 21, none, .mv, [.t 0]⟩, ⟨some
  22, none, .mv, [.t 1]⟩, ⟨some 23, none, .idxA 6, [.t 21, .t 22]⟩, ⟨some 24, none, .fldA 0, [.t 23]⟩, ⟨some 25, none, .load none, [.t 24]⟩, ⟨some 26, none, .bin .eql, [.t 25, .c
  (.int .i64 2)]⟩, ⟨some 27, none, .mv, [.t 26]⟩, ⟨some 28, some (27, true), .mv, [.t 1]⟩, ⟨some 29, some (27, true), .bin .gtr, [.t 28, .c (.int .i64 0)]⟩, ⟨some 30, none, .pick,
  [.t 27, .t 29, .c (.bool false)]⟩, ⟨some 31, none, .mv, [.t 30]⟩, ⟨some 32, some (31, true), .mv, [.t 0]⟩, ⟨some 33, some (31, true), .mv, [.t 1]⟩, ⟨some 34, some (31, true), .bin
  .sub, [.t 33, .c (.int .i64 1)]⟩, ⟨some 35, some (31, true), .idxA 6, [.t 32, .t 34]⟩, ⟨some 36, some (31, true), .fldA 0, [.t 35]⟩, ⟨some 37, some (31, true), .load none, [.t
  36]⟩, ⟨some 38, some (31, true), .bin .eql, [.t 37, .c (.int .i64 1)]⟩, ⟨some 39, none, .pick, [.t 31, .t 38, .c (.bool false)]⟩, ⟨some 4, none, .mv, [.t 39]⟩]).seq
  C.ret))))
theorem fn56 : FnIs Try.prog 56 40 0 [RV.tmp 4] c56 := ⟨Try.f56, Try.f56.body.getD .skip, [], [77], [], by kernel_rfl, by kernel_rfl, by kernel_rfl, by kernel_rfl, by kernel_rfl, by kernel_rfl, by kernel_rfl⟩
/-- apograph/apographref48.free -/
def c57 : C :=
  ((C.ops [⟨some 6, none, .mv, [.c (.bool false)]⟩]).seq (((C.ops [⟨some 8, none, .mv, [.t 1]⟩, ⟨some 7, none, .mv, [.t 8]⟩]).seq (C.block 0 (((C.ops [⟨some 9, none, .mv, [.t 7]⟩,
  ⟨some 10, none, .mv, [.t 2]⟩, ⟨some 11, none, .bin .lss, [.t 9, .t 10]⟩]).seq (C.cond (.t 11) C.skip (C.exit 0))).seq ((C.block 1 ((C.ops [⟨some 14, none, .mv, [.t 0]⟩, ⟨some 15,
  none, .mv, [.t 7]⟩, ⟨some 16, none, .call 83 true, [.t 14, .t 15]⟩]).seq (C.cond (.t 16) ((C.ops [⟨some 6, none, .mv, [.c (.bool false)]⟩]).seq C.ret) C.skip))).seq (C.ops [⟨some
  12, none, .mv, [.t 7]⟩, ⟨some 13, none, .bin .add, [.t 12, .c (.int .i64 1)]⟩, ⟨some 7, none, .mv, [.t 13]⟩]))).loop)).seq ((C.ops [⟨some 6, none, .mv, [.c (.bool true)]⟩]).seq
  C.ret)))
theorem fn57 : FnIs Try.prog 57 17 0 [RV.tmp 6] c57 := ⟨Try.f57, Try.f57.body.getD .skip, [], [77], [], by kernel_rfl, by kernel_rfl, by kernel_rfl, by kernel_rfl, by kernel_rfl, by kernel_rfl, by kernel_rfl⟩
/-- apograph/apographref48.bounds -/
def c58 : C :=
  ((C.ops [⟨some 6, none, .mv, [.c (.bool false)]⟩]).seq (((C.ops [⟨some 11, none, .mv, [.t 2]⟩, ⟨some 12, none, .len, [.t 11]⟩, ⟨some 13, none, .mv, [.t 0]⟩, ⟨some 14, none, .len,
  [.t 13]⟩, ⟨some 15, none, .bin .add, [.t 14, .c (.int .i64 1)]⟩, ⟨some 16, none, .bin .neq, [.t 12, .t 15]⟩]).seq (C.cond (.t 16) ((C.ops [⟨some 6, none, .mv, [.c (.bool
  false)]⟩]).seq C.ret) C.skip)).seq (((C.ops [⟨some 7, none, .mv, [.c (.int .i64 0)]⟩]).seq (C.block 0 (((C.ops [⟨some 17, none, .mv, [.t 7]⟩, ⟨some 18, none, .mv, [.t 0]⟩, ⟨some
  19, none, .len, [.t 18]⟩, ⟨some 20, none, .bin .leq, [.t 17, .t 19]⟩]).seq (C.cond (.t 20) C.skip (C.exit 0))).seq ((C.block 1 (((C.ops [⟨some 23, none, .mv, [.t 2]⟩, ⟨some 24,
  none, .mv, [.t 7]⟩, ⟨some 25, none, .idxA 1, [.t 23, .t 24]⟩, ⟨some 26, none, .load none, [.t 25]⟩, ⟨some 27, none, .bin .lss, [.t 26, .c (.int .i64 (-1))]⟩]).seq (C.cond (.t 27)
  ((C.ops [⟨some 6, none, .mv, [.c (.bool false)]⟩]).seq C.ret) C.skip)).seq ((C.ops [⟨some 28, none, .mv, [.t 7]⟩, ⟨some 8, none, .mv, [.t 28]⟩]).seq (C.block 2 (((C.ops [⟨some 29,
  none, .mv, [.t 8]⟩, ⟨some 30, none, .mv, [.t 0]⟩, ⟨some 31, none, .len, [.t 30]⟩, ⟨some 32, none, .bin .leq, [.t 29, .t 31]⟩]).seq (C.cond (.t 32) C.skip (C.exit 2))).seq ((C.block
  3 (((C.ops [⟨some 35, none, .mv, [.t 0]⟩, ⟨some 36, none, .mv, [.t 8]⟩, ⟨some 37, none, .call 56 true, [.t 35, .t 36]⟩, ⟨some 38, none, .un UnOp.not, [.t 37]⟩, ⟨some 39, none, .mv,
  [.t 38]⟩, ⟨some 40, some (39, false), .mv, [.t 0]⟩, ⟨some 41, some (39, false), .mv, [.t 7]⟩, ⟨some 42, some (39, false), .mv, [.t 8]⟩, ⟨some 43, some (39, false), .call 57 true,
  [.t 40, .t 41, .t 42]⟩, ⟨some 44, some (39, false), .un UnOp.not, [.t 43]⟩, ⟨some 45, none, .pick, [.t 39, .c (.bool true), .t 44]⟩]).seq (C.cond (.t 45) (C.exit 3) C.skip)).seq
  ((C.ops [⟨some 47, none, .mv, [.t 0]⟩, ⟨some 48, none, .mv, [.t 1]⟩, ⟨some 49, none, .mv, [.t 7]⟩, ⟨some 50, none, .mv, [.t 8]⟩, ⟨some 51, none, .call 54 true, [.t 47, .t 48, .t
  49, .t 50]⟩, ⟨some 46, none, .mv, [.t 51]⟩, ⟨some 52, none, .ext 0, [.t 46]⟩, ⟨some 53, none, .ext 1, [.t 46]⟩, ⟨some 9, none, .mv, [.t 52]⟩, ⟨some 10, none, .mv, [.t 53]⟩]).seq
  (((C.ops [⟨some 54, none, .mv, [.t 10]⟩, ⟨some 55, none, .un UnOp.not, [.t 54]⟩]).seq (C.cond (.t 55) (C.exit 3) C.skip)).seq (((C.ops [⟨some 56, none, .mv, [.t 8]⟩, ⟨some 57,
  none, .mv, [.t 0]⟩, ⟨some 58, none, .len, [.t 57]⟩, ⟨some 59, none, .bin .lss, [.t 56, .t 58]⟩]).seq (C.cond (.t 59) (((C.ops [⟨some 60, none, .mv, [.t 2]⟩, ⟨some 61, none, .mv,
  [.t 8]⟩, ⟨some 62, none, .bin .add, [.t 61, .c (.int .i64 1)]⟩, ⟨some 63, none, .idxA 1, [.t 60, .t 62]⟩, ⟨some 64, none, .load none, [.t 63]⟩, ⟨some 65, none, .bin .eql, [.t 64,
  .c (.int .i64 (-1))]⟩]).seq (C.cond (.t 65) (C.exit 3) C.skip)).seq (((C.ops [⟨some 66, none, .mv, [.t 2]⟩, ⟨some 67, none, .mv, [.t 7]⟩, ⟨some 68, none, .idxA 1, [.t 66, .t 67]⟩,
  ⟨some 69, none, .load none, [.t 68]⟩, ⟨some 70, none, .bin .eql, [.t 69, .c (.int .i64 (-1))]⟩, ⟨some 71, none, .mv, [.t 70]⟩, ⟨some 72, some (71, false), .mv, [.t 2]⟩, ⟨some 73,
  some (71, false), .mv, [.t 7]⟩, ⟨some 74, some (71, false), .idxA 1, [.t 72, .t 73]⟩, ⟨some 75, some (71, false), .load none, [.t 74]⟩, ⟨some 76, some (71, false), .mv, [.t 9]⟩,
  ⟨some 77, some (71, false), .bin .sub, [.t 75, .t 76]⟩, ⟨some 78, some (71, false), .mv, [.t 2]⟩, ⟨some 79, some (71, false), .mv, [.t 8]⟩, ⟨some 80, some (71, false), .bin .add,
  [.t 79, .c (.int .i64 1)]⟩, ⟨some 81, some (71, false), .idxA 1, [.t 78, .t 80]⟩, ⟨some 82, some (71, false), .load none, [.t 81]⟩, ⟨some 83, some (71, false), .bin .gtr, [.t 77,
  .t 82]⟩, ⟨some 84, none, .pick, [.t 71, .c (.bool true), .t 83]⟩]).seq (C.cond (.t 84) ((C.ops [⟨some 6, none, .mv, [.c (.bool false)]⟩]).seq C.ret) C.skip)).seq (C.exit 3)))
  C.skip)).seq ((C.ops [⟨some 85, none, .mv, [.t 2]⟩, ⟨some 86, none, .mv, [.t 7]⟩, ⟨some 87, none, .idxA 1, [.t 85, .t 86]⟩, ⟨some 88, none, .load none, [.t 87]⟩, ⟨some 89, none,
  .bin .eql, [.t 88, .c (.int .i64 (-1))]⟩, ⟨some 90, none, .mv, [.t 89]⟩, ⟨some 91, some (90, false), .mv, [.t 2]⟩, ⟨some 92, some (90, false), .mv, [.t 7]⟩, ⟨some 93, some (90,
  false), .idxA 1, [.t 91, .t 92]⟩, ⟨some 94, some (90, false), .load none, [.t 93]⟩, ⟨some 95, some (90, false), .mv, [.t 9]⟩, ⟨some 96, some (90, false), .bin .gtr, [.t 94, .t
  95]⟩, ⟨some 97, none, .pick, [.t 90, .c (.bool true), .t 96]⟩]).seq (C.cond (.t 97) ((C.ops [⟨some 6, none, .mv, [.c (.bool false)]⟩]).seq C.ret) C.skip))))))).seq (C.ops [⟨some
  33, none, .mv, [.t 8]⟩, ⟨some 34, none, .bin .add, [.t 33, .c (.int .i64 1)]⟩, ⟨some 8, none, .mv, [.t 34]⟩]))).loop)))).seq (C.ops [⟨some 21, none, .mv, [.t 7]⟩, ⟨some 22, none,
  .bin .add, [.t 21, .c (.int .i64 1)]⟩, ⟨some 7, none, .mv, [.t 22]⟩]))).loop)).seq ((C.ops [⟨some 6, none, .mv, [.c (.bool true)]⟩]).seq
  C.ret))))
theorem fn58 : FnIs Try.prog 58 98 0 [RV.tmp 6] c58 := ⟨Try.f58, Try.f58.body.getD .skip, [], [77], [], by kernel_rfl, by kernel_rfl, by kernel_rfl, by kernel_rfl, by kernel_rfl, by kernel_rfl, by kernel_rfl⟩
/-- apograph/apographlaw48.ParagraphPotentials -/
def c4 : C :=
  ((C.ops [⟨some 6, none, .mv, [.c (.bool false)]⟩]).seq (((C.ops [⟨some 15, none, .mv, [.t 0]⟩, ⟨some 16, none, .mv, [.t 1]⟩, ⟨some 17, none, .call 10 true, [.t 15, .t 16]⟩, ⟨some
  18, none, .un UnOp.not, [.t 17]⟩]).seq (C.cond (.t 18) ((C.ops [⟨some 19, none, .call 11 true, []⟩, ⟨some 6, none, .mv, [.t 19]⟩]).seq C.ret) C.skip)).seq ((C.ops [⟨some 21, none,
  .mv, [.t 0]⟩, ⟨some 22, none, .mv, [.t 1]⟩, ⟨some 23, none, .call 14 true, [.t 21, .t 22]⟩, ⟨some 20, none, .mv, [.t 23]⟩, ⟨some 24, none, .ext 0, [.t 20]⟩, ⟨some 25, none, .ext 1,
  [.t 20]⟩, ⟨some 7, none, .mv, [.t 24]⟩, ⟨some 8, none, .mv, [.t 25]⟩]).seq (((C.ops [⟨some 26, none, .mv, [.t 8]⟩, ⟨some 27, none, .bin .neq, [.t 26, .c (.int .i64 0)]⟩, ⟨some 28,
  none, .mv, [.t 27]⟩, ⟨some 29, some (28, false), .mv, [.t 7]⟩, ⟨some 30, some (28, false), .len, [.t 29]⟩, ⟨some 31, some (28, false), .mv, [.t 0]⟩, ⟨some 32, some (28, false),
  .len, [.t 31]⟩, ⟨some 33, some (28, false), .bin .add, [.t 32, .c (.int .i64 1)]⟩, ⟨some 34, some (28, false), .bin .neq, [.t 30, .t 33]⟩, ⟨some 35, none, .pick, [.t 28, .c (.bool
  true), .t 34]⟩]).seq (C.cond (.t 35) ((C.ops [⟨some 6, none, .mv, [.c (.bool false)]⟩]).seq C.ret) C.skip)).seq ((C.ops [⟨some 36, none, .mv, [.t 2]⟩, ⟨some 37, none, .conv .i64,
  [.t 36]⟩, ⟨some 38, none, .mv, [.t 0]⟩, ⟨some 39, none, .len, [.t 38]⟩, ⟨some 40, none, .bin .add, [.t 39, .c (.int .i64 1)]⟩, ⟨some 41, none, .bin .rem, [.t 37, .t 40]⟩, ⟨some 9,
  none, .mv, [.t 41]⟩]).seq ((C.ops [⟨some 10, none, .mv, [.c (.int .i64 (-1))]⟩]).seq (((C.ops [⟨some 42, none, .mv, [.t 9]⟩, ⟨some 11, none, .mv, [.t 42]⟩]).seq (C.block 0 (((C.ops
  [⟨some 43, none, .mv, [.t 11]⟩, ⟨some 44, none, .mv, [.t 0]⟩, ⟨some 45, none, .len, [.t 44]⟩, ⟨some 46, none, .bin .leq, [.t 43, .t 45]⟩]).seq (C.cond (.t 46) C.skip (C.exit
  0))).seq ((C.block 1 ((C.ops [⟨some 50, none, .mv, [.t 0]⟩, ⟨some 51, none, .mv, [.t 1]⟩, ⟨some 52, none, .mv, [.t 9]⟩, ⟨some 53, none, .mv, [.t 11]⟩, ⟨some 54, none, .call 15
  true, [.t 50, .t 51, .t 52, .t 53]⟩, ⟨some 49, none, .mv, [.t 54]⟩, ⟨some 55, none, .ext 0, [.t 49]⟩, ⟨some 56, none, .ext 1, [.t 49]⟩, ⟨some 57, none, .ext 2, [.t 49]⟩, ⟨some 12,
  none, .mv, [.t 55]⟩, ⟨some 13, none, .mv, [.t 56]⟩, ⟨some 14, none, .mv, [.t 57]⟩]).seq (((C.ops [⟨some 58, none, .mv, [.t 14]⟩, ⟨some 59, none, .bin .neq, [.t 58, .c (.int .i64
  0)]⟩, ⟨some 60, none, .mv, [.t 59]⟩, ⟨some 61, some (60, true), .mv, [.t 14]⟩, ⟨some 62, some (60, true), .bin .neq, [.t 61, .c (.int .i64 23)]⟩, ⟨some 63, none, .pick, [.t 60, .t
  62, .c (.bool false)]⟩]).seq (C.cond (.t 63) ((C.ops [⟨some 6, none, .mv, [.c (.bool false)]⟩]).seq C.ret) C.skip)).seq (((C.ops [⟨some 64, none, .mv, [.t 14]⟩, ⟨some 65, none,
  .bin .neq, [.t 64, .c (.int .i64 0)]⟩, ⟨some 66, none, .mv, [.t 65]⟩, ⟨some 67, some (66, false), .mv, [.t 13]⟩, ⟨some 68, some (66, false), .un UnOp.not, [.t 67]⟩, ⟨some 69, none,
  .pick, [.t 66, .c (.bool true), .t 68]⟩]).seq (C.cond (.t 69) (C.exit 1) C.skip)).seq (((C.ops [⟨some 70, none, .mv, [.t 11]⟩, ⟨some 71, none, .mv, [.t 0]⟩, ⟨some 72, none, .len,
  [.t 71]⟩, ⟨some 73, none, .bin .lss, [.t 70, .t 72]⟩]).seq (C.cond (.t 73) (((C.ops [⟨some 74, none, .mv, [.t 7]⟩, ⟨some 75, none, .mv, [.t 11]⟩, ⟨some 76, none, .bin .add, [.t 75,
  .c (.int .i64 1)]⟩, ⟨some 77, none, .idxA 1, [.t 74, .t 76]⟩, ⟨some 78, none, .load none, [.t 77]⟩, ⟨some 79, none, .bin .lss, [.t 78, .c (.int .i64 0)]⟩]).seq (C.cond (.t 79)
  (C.exit 1) C.skip)).seq (C.ops [⟨some 80, none, .mv, [.t 12]⟩, ⟨some 81, none, .mv, [.t 7]⟩, ⟨some 82, none, .mv, [.t 11]⟩, ⟨some 83, none, .bin .add, [.t 82, .c (.int .i64 1)]⟩,
  ⟨some 84, none, .idxA 1, [.t 81, .t 83]⟩, ⟨some 85, none, .load none, [.t 84]⟩, ⟨some 86, none, .bin .add, [.t 80, .t 85]⟩, ⟨some 12, none, .mv, [.t 86]⟩])) C.skip)).seq ((C.ops
  [⟨some 87, none, .mv, [.t 10]⟩, ⟨some 88, none, .bin .lss, [.t 87, .c (.int .i64 0)]⟩, ⟨some 89, none, .mv, [.t 88]⟩, ⟨some 90, some (89, false), .mv, [.t 12]⟩, ⟨some 91, some (89,
  false), .mv, [.t 10]⟩, ⟨some 92, some (89, false), .bin .lss, [.t 90, .t 91]⟩, ⟨some 93, none, .pick, [.t 89, .c (.bool true), .t 92]⟩]).seq (C.cond (.t 93) (C.ops [⟨some 94, none,
  .mv, [.t 12]⟩, ⟨some 10, none, .mv, [.t 94]⟩]) C.skip))))))).seq (C.ops [⟨some 47, none, .mv, [.t 11]⟩, ⟨some 48, none, .bin .add, [.t 47, .c (.int .i64 1)]⟩, ⟨some 11, none, .mv,
  [.t 48]⟩]))).loop)).seq ((C.ops [⟨some 95, none, .mv, [.t 7]⟩, ⟨some 96, none, .mv, [.t 9]⟩, ⟨some 97, none, .idxA 1, [.t 95, .t 96]⟩, ⟨some 98, none, .load none, [.t 97]⟩, ⟨some
  99, none, .mv, [.t 10]⟩, ⟨some 100, none, .bin .eql, [.t 98, .t 99]⟩, ⟨some 101, none, .mv, [.t 100]⟩, ⟨some 102, some (101, true), .call 11 true, []⟩, ⟨some 103, none, .pick, [.t
  101, .t 102, .c (.bool false)]⟩, ⟨some 6, none, .mv, [.t 103]⟩]).seq
  C.ret))))))))
theorem fn4 : FnIs Try.prog 4 104 0 [RV.tmp 6] c4 := ⟨Try.f4, Try.f4.body.getD .skip, [], [77], [], by kernel_rfl, by kernel_rfl, by kernel_rfl, by kernel_rfl, by kernel_rfl, by kernel_rfl, by kernel_rfl⟩
/-- apograph/apographlaw48.ParagraphPlaces -/
def c5 : C :=
  ((C.ops [⟨some 4, none, .mv, [.c (.bool false)]⟩]).seq (((C.ops [⟨some 19, none, .mv, [.t 0]⟩, ⟨some 20, none, .mv, [.t 1]⟩, ⟨some 21, none, .call 10 true, [.t 19, .t 20]⟩, ⟨some
  22, none, .un UnOp.not, [.t 21]⟩]).seq (C.cond (.t 22) ((C.ops [⟨some 23, none, .call 11 true, []⟩, ⟨some 4, none, .mv, [.t 23]⟩]).seq C.ret) C.skip)).seq ((C.ops [⟨some 25, none,
  .mv, [.t 0]⟩, ⟨some 26, none, .mv, [.t 1]⟩, ⟨some 27, none, .call 13 true, [.t 25, .t 26]⟩, ⟨some 24, none, .mv, [.t 27]⟩, ⟨some 28, none, .ext 0, [.t 24]⟩, ⟨some 29, none, .ext 1,
  [.t 24]⟩, ⟨some 30, none, .ext 2, [.t 24]⟩, ⟨some 5, none, .mv, [.t 28]⟩, ⟨some 6, none, .mv, [.t 29]⟩, ⟨some 7, none, .mv, [.t 30]⟩]).seq (((C.ops [⟨some 31, none, .mv, [.t 7]⟩,
  ⟨some 32, none, .bin .neq, [.t 31, .c (.int .i64 0)]⟩]).seq (C.cond (.t 32) ((C.ops [⟨some 33, none, .mv, [.t 7]⟩, ⟨some 34, none, .bin .eql, [.t 33, .c (.int .i64 23)]⟩, ⟨some 35,
  none, .mv, [.t 34]⟩, ⟨some 36, some (35, true), .call 11 true, []⟩, ⟨some 37, none, .pick, [.t 35, .t 36, .c (.bool false)]⟩, ⟨some 4, none, .mv, [.t 37]⟩]).seq C.ret) C.skip)).seq
  ((C.ops [⟨some 39, none, .mv, [.t 0]⟩, ⟨some 40, none, .mv, [.t 1]⟩, ⟨some 41, none, .mv, [.t 5]⟩, ⟨some 42, none, .call 16 true, [.t 39, .t 40, .t 41]⟩, ⟨some 38, none, .mv, [.t
  42]⟩, ⟨some 43, none, .ext 0, [.t 38]⟩, ⟨some 44, none, .ext 1, [.t 38]⟩, ⟨some 8, none, .mv, [.t 43]⟩, ⟨some 9, none, .mv, [.t 44]⟩]).seq (((C.ops [⟨some 45, none, .mv, [.t 9]⟩,
  ⟨some 46, none, .bin .neq, [.t 45, .c (.int .i64 0)]⟩, ⟨some 47, none, .mv, [.t 46]⟩, ⟨some 48, some (47, false), .mv, [.t 8]⟩, ⟨some 49, some (47, false), .len, [.t 48]⟩, ⟨some
  50, some (47, false), .mv, [.t 5]⟩, ⟨some 51, some (47, false), .len, [.t 50]⟩, ⟨some 52, some (47, false), .bin .neq, [.t 49, .t 51]⟩, ⟨some 53, none, .pick, [.t 47, .c (.bool
  true), .t 52]⟩, ⟨some 54, none, .mv, [.t 53]⟩, ⟨some 55, some (54, false), .mv, [.t 5]⟩, ⟨some 56, some (54, false), .len, [.t 55]⟩, ⟨some 57, some (54, false), .bin .eql, [.t 56,
  .c (.int .i64 0)]⟩, ⟨some 58, none, .pick, [.t 54, .c (.bool true), .t 57]⟩, ⟨some 59, none, .mv, [.t 58]⟩, ⟨some 60, some (59, false), .mv, [.t 5]⟩, ⟨some 61, some (59, false),
  .mv, [.t 5]⟩, ⟨some 62, some (59, false), .len, [.t 61]⟩, ⟨some 63, some (59, false), .bin .sub, [.t 62, .c (.int .i64 1)]⟩, ⟨some 64, some (59, false), .idxA 1, [.t 60, .t 63]⟩,
  ⟨some 65, some (59, false), .load none, [.t 64]⟩, ⟨some 66, some (59, false), .mv, [.t 0]⟩, ⟨some 67, some (59, false), .len, [.t 66]⟩, ⟨some 68, some (59, false), .bin .neq, [.t
  65, .t 67]⟩, ⟨some 69, none, .pick, [.t 59, .c (.bool true), .t 68]⟩]).seq (C.cond (.t 69) ((C.ops [⟨some 4, none, .mv, [.c (.bool false)]⟩]).seq C.ret) C.skip)).seq (((C.ops
  [⟨some 70, none, .mv, [.t 0]⟩, ⟨some 71, none, .len, [.t 70]⟩, ⟨some 72, none, .mv, [.c (.int .i64 0)]⟩]).seq (C.block 0 ((C.ops [⟨some 73, none, .bin .lss, [.t 72, .t 71]⟩]).seq
  ((C.cond (.t 73) C.skip (C.exit 0)).seq ((C.block 1 ((C.ops [⟨some 74, none, .mv, [.t 72]⟩, ⟨some 75, none, .idxA 6, [.t 70, .t 72]⟩, ⟨some 76, none, .load (some 6), [.t 75]⟩,
  ⟨some 11, none, .alloc 0 28 [.int .i64 0, .int .i64 0, .int .i64 0, .int .i64 0, .int .i64 0, .str []], []⟩, ⟨some 10, none, .mv, [.t 74]⟩, ⟨none, none, .store 6, [.t 11, .t
  76]⟩]).seq ((C.ops [⟨some 77, none, .fldA 0, [.t 11]⟩, ⟨some 78, none, .load none, [.t 77]⟩, ⟨some 79, none, .bin .eql, [.t 78, .c (.int .i64 3)]⟩, ⟨some 80, none, .mv, [.t 79]⟩,
  ⟨some 81, some (80, true), .fldA 4, [.t 11]⟩, ⟨some 82, some (80, true), .load none, [.t 81]⟩, ⟨some 83, some (80, true), .bin .eql, [.t 82, .c (.int .i64 (-10000))]⟩, ⟨some 84,
  none, .pick, [.t 80, .t 83, .c (.bool false)]⟩, ⟨some 85, none, .mv, [.t 84]⟩, ⟨some 86, some (85, true), .mv, [.t 5]⟩, ⟨some 87, some (85, true), .mv, [.t 10]⟩, ⟨some 88, some
  (85, true), .call 17 true, [.t 86, .t 87]⟩, ⟨some 89, some (85, true), .un UnOp.not, [.t 88]⟩, ⟨some 90, none, .pick, [.t 85, .t 89, .c (.bool false)]⟩]).seq (C.cond (.t 90)
  ((C.ops [⟨some 4, none, .mv, [.c (.bool false)]⟩]).seq C.ret) C.skip)))).seq (C.ops [⟨some 91, none, .bin .add, [.t 72, .c (.int .i64 1)]⟩, ⟨some 72, none, .mv, [.t
  91]⟩])))).loop)).seq (((C.ops [⟨some 92, none, .mv, [.t 5]⟩, ⟨some 93, none, .len, [.t 92]⟩, ⟨some 94, none, .mv, [.c (.int .i64 0)]⟩]).seq (C.block 2 ((C.ops [⟨some 95, none, .bin
  .lss, [.t 94, .t 93]⟩]).seq ((C.cond (.t 95) C.skip (C.exit 2)).seq ((C.block 3 ((C.ops [⟨some 96, none, .mv, [.t 94]⟩, ⟨some 97, none, .idxA 1, [.t 92, .t 94]⟩, ⟨some 98, none,
  .load none, [.t 97]⟩, ⟨some 12, none, .mv, [.t 96]⟩, ⟨some 13, none, .mv, [.t 98]⟩]).seq (((C.ops [⟨some 99, none, .mv, [.t 13]⟩, ⟨some 100, none, .bin .lss, [.t 99, .c (.int .i64
  0)]⟩, ⟨some 101, none, .mv, [.t 100]⟩, ⟨some 102, some (101, false), .mv, [.t 12]⟩, ⟨some 103, some (101, false), .bin .gtr, [.t 102, .c (.int .i64 0)]⟩, ⟨some 104, some (101,
  false), .mv, [.t 103]⟩, ⟨some 105, some (104, true), .mv, [.t 13]⟩, ⟨some 106, some (104, true), .mv, [.t 5]⟩, ⟨some 107, some (104, true), .mv, [.t 12]⟩, ⟨some 108, some (104,
  true), .bin .sub, [.t 107, .c (.int .i64 1)]⟩, ⟨some 109, some (104, true), .idxA 1, [.t 106, .t 108]⟩, ⟨some 110, some (104, true), .load none, [.t 109]⟩, ⟨some 111, some (104,
  true), .bin .leq, [.t 105, .t 110]⟩, ⟨some 112, some (101, false), .pick, [.t 104, .t 111, .c (.bool false)]⟩, ⟨some 113, none, .pick, [.t 101, .c (.bool true), .t 112]⟩]).seq
  (C.cond (.t 113) ((C.ops [⟨some 4, none, .mv, [.c (.bool false)]⟩]).seq C.ret) C.skip)).seq (((C.ops [⟨some 114, none, .mv, [.t 13]⟩, ⟨some 115, none, .mv, [.t 0]⟩, ⟨some 116,
  none, .len, [.t 115]⟩, ⟨some 117, none, .bin .eql, [.t 114, .t 116]⟩]).seq (C.cond (.t 117) (C.exit 3) C.skip)).seq ((C.ops [⟨some 118, none, .mv, [.t 13]⟩, ⟨some 119, none, .mv,
  [.t 0]⟩, ⟨some 120, none, .len, [.t 119]⟩, ⟨some 121, none, .bin .gtr, [.t 118, .t 120]⟩, ⟨some 122, none, .mv, [.t 121]⟩, ⟨some 123, some (122, false), .mv, [.t 0]⟩, ⟨some 124,
  some (122, false), .mv, [.t 13]⟩, ⟨some 125, some (122, false), .idxA 6, [.t 123, .t 124]⟩, ⟨some 126, some (122, false), .fldA 0, [.t 125]⟩, ⟨some 127, some (122, false), .load
  none, [.t 126]⟩, ⟨some 128, some (122, false), .bin .eql, [.t 127, .c (.int .i64 1)]⟩, ⟨some 129, none, .pick, [.t 122, .c (.bool true), .t 128]⟩, ⟨some 130, none, .mv, [.t 129]⟩,
  ⟨some 131, some (130, false), .mv, [.t 0]⟩, ⟨some 132, some (130, false), .mv, [.t 13]⟩, ⟨some 133, some (130, false), .idxA 6, [.t 131, .t 132]⟩, ⟨some 134, some (130, false),
  .fldA 4, [.t 133]⟩, ⟨some 135, some (130, false), .load none, [.t 134]⟩, ⟨some 136, some (130, false), .bin .eql, [.t 135, .c (.int .i64 10000)]⟩, ⟨some 137, none, .pick, [.t 130,
  .c (.bool true), .t 136]⟩, ⟨some 138, none, .mv, [.t 137]⟩, ⟨some 139, some (138, false), .mv, [.t 0]⟩, ⟨some 140, some (138, false), .mv, [.t 13]⟩, ⟨some 141, some (138, false),
  .idxA 6, [.t 139, .t 140]⟩, ⟨some 142, some (138, false), .fldA 0, [.t 141]⟩, ⟨some 143, some (138, false), .load none, [.t 142]⟩, ⟨some 144, some (138, false), .bin .eql, [.t 143,
  .c (.int .i64 2)]⟩, ⟨some 145, some (138, false), .mv, [.t 144]⟩, ⟨some 146, some (145, true), .mv, [.t 13]⟩, ⟨some 147, some (145, true), .bin .eql, [.t 146, .c (.int .i64 0)]⟩,
  ⟨some 148, some (145, true), .mv, [.t 147]⟩, ⟨some 149, some (148, false), .mv, [.t 0]⟩, ⟨some 150, some (148, false), .mv, [.t 13]⟩, ⟨some 151, some (148, false), .bin .sub, [.t
  150, .c (.int .i64 1)]⟩, ⟨some 152, some (148, false), .idxA 6, [.t 149, .t 151]⟩, ⟨some 153, some (148, false), .fldA 0, [.t 152]⟩, ⟨some 154, some (148, false), .load none, [.t
  153]⟩, ⟨some 155, some (148, false), .bin .neq, [.t 154, .c (.int .i64 1)]⟩, ⟨some 156, some (145, true), .pick, [.t 148, .c (.bool true), .t 155]⟩, ⟨some 157, some (138, false),
  .pick, [.t 145, .t 156, .c (.bool false)]⟩, ⟨some 158, none, .pick, [.t 138, .c (.bool true), .t 157]⟩]).seq (C.cond (.t 158) ((C.ops [⟨some 4, none, .mv, [.c (.bool false)]⟩]).seq
  C.ret) C.skip)))))).seq (C.ops [⟨some 159, none, .bin .add, [.t 94, .c (.int .i64 1)]⟩, ⟨some 94, none, .mv, [.t 159]⟩])))).loop)).seq (((C.ops [⟨some 160, none, .mv, [.t 8]⟩,
  ⟨some 161, none, .len, [.t 160]⟩, ⟨some 162, none, .mv, [.c (.int .i64 0)]⟩]).seq (C.block 4 ((C.ops [⟨some 163, none, .bin .lss, [.t 162, .t 161]⟩]).seq ((C.cond (.t 163) C.skip
  (C.exit 4)).seq ((C.block 5 ((C.ops [⟨some 164, none, .mv, [.t 162]⟩, ⟨some 165, none, .idxA 5, [.t 160, .t 162]⟩, ⟨some 166, none, .load (some 5), [.t 165]⟩, ⟨some 15, none,
  .alloc 1 44 [.int .i64 0, .int .i64 0, .int .i64 0, .int .i64 0, .str []], []⟩, ⟨some 14, none, .mv, [.t 164]⟩, ⟨none, none, .store 5, [.t 15, .t 166]⟩]).seq ((C.ops [⟨some 16,
  none, .mv, [.c (.int .i64 0)]⟩, ⟨some 17, none, .mv, [.c (.int .i64 0)]⟩]).seq (((C.ops [⟨some 167, none, .fldA 0, [.t 15]⟩, ⟨some 168, none, .load none, [.t 167]⟩, ⟨some 18, none,
  .mv, [.t 168]⟩]).seq (C.block 6 (((C.ops [⟨some 169, none, .mv, [.t 18]⟩, ⟨some 170, none, .fldA 1, [.t 15]⟩, ⟨some 171, none, .load none, [.t 170]⟩, ⟨some 172, none, .bin .lss,
  [.t 169, .t 171]⟩, ⟨some 173, none, .mv, [.t 172]⟩, ⟨some 174, some (173, true), .mv, [.t 18]⟩, ⟨some 175, some (173, true), .bin .geq, [.t 174, .c (.int .i64 0)]⟩, ⟨some 176,
  none, .pick, [.t 173, .t 175, .c (.bool false)]⟩, ⟨some 177, none, .mv, [.t 176]⟩, ⟨some 178, some (177, true), .mv, [.t 18]⟩, ⟨some 179, some (177, true), .mv, [.t 0]⟩, ⟨some 180,
  some (177, true), .len, [.t 179]⟩, ⟨some 181, some (177, true), .bin .lss, [.t 178, .t 180]⟩, ⟨some 182, none, .pick, [.t 177, .t 181, .c (.bool false)]⟩]).seq (C.cond (.t 182)
  C.skip (C.exit 6))).seq ((C.block 7 ((C.ops [⟨some 185, none, .mv, [.t 0]⟩, ⟨some 186, none, .mv, [.t 18]⟩, ⟨some 187, none, .idxA 6, [.t 185, .t 186]⟩, ⟨some 188, none, .fldA 0,
  [.t 187]⟩, ⟨some 189, none, .load none, [.t 188]⟩, ⟨some 190, none, .bin .neq, [.t 189, .c (.int .i64 3)]⟩]).seq (C.cond (.t 190) (C.ops [⟨some 191, none, .mv, [.t 16]⟩, ⟨some 192,
  none, .mv, [.t 0]⟩, ⟨some 193, none, .mv, [.t 18]⟩, ⟨some 194, none, .idxA 6, [.t 192, .t 193]⟩, ⟨some 195, none, .fldA 1, [.t 194]⟩, ⟨some 196, none, .load none, [.t 195]⟩, ⟨some
  197, none, .bin .add, [.t 191, .t 196]⟩, ⟨some 198, none, .mv, [.t 17]⟩, ⟨some 199, none, .mv, [.t 0]⟩, ⟨some 200, none, .mv, [.t 18]⟩, ⟨some 201, none, .idxA 6, [.t 199, .t 200]⟩,
  ⟨some 202, none, .fldA 3, [.t 201]⟩, ⟨some 203, none, .load none, [.t 202]⟩, ⟨some 204, none, .bin .add, [.t 198, .t 203]⟩, ⟨some 16, none, .mv, [.t 197]⟩, ⟨some 17, none, .mv, [.t
  204]⟩]) C.skip))).seq (C.ops [⟨some 183, none, .mv, [.t 18]⟩, ⟨some 184, none, .bin .add, [.t 183, .c (.int .i64 1)]⟩, ⟨some 18, none, .mv, [.t 184]⟩]))).loop)).seq (((C.ops [⟨some
  205, none, .fldA 1, [.t 15]⟩, ⟨some 206, none, .load none, [.t 205]⟩, ⟨some 207, none, .mv, [.t 0]⟩, ⟨some 208, none, .len, [.t 207]⟩, ⟨some 209, none, .bin .lss, [.t 206, .t
  208]⟩, ⟨some 210, none, .mv, [.t 209]⟩, ⟨some 211, some (210, true), .fldA 1, [.t 15]⟩, ⟨some 212, some (210, true), .load none, [.t 211]⟩, ⟨some 213, some (210, true), .bin .geq,
  [.t 212, .c (.int .i64 0)]⟩, ⟨some 214, none, .pick, [.t 210, .t 213, .c (.bool false)]⟩, ⟨some 215, none, .mv, [.t 214]⟩, ⟨some 216, some (215, true), .mv, [.t 0]⟩, ⟨some 217,
  some (215, true), .fldA 1, [.t 15]⟩, ⟨some 218, some (215, true), .load none, [.t 217]⟩, ⟨some 219, some (215, true), .idxA 6, [.t 216, .t 218]⟩, ⟨some 220, some (215, true), .fldA
  0, [.t 219]⟩, ⟨some 221, some (215, true), .load none, [.t 220]⟩, ⟨some 222, some (215, true), .bin .eql, [.t 221, .c (.int .i64 3)]⟩, ⟨some 223, none, .pick, [.t 215, .t 222, .c
  (.bool false)]⟩]).seq (C.cond (.t 223) (C.ops [⟨some 224, none, .mv, [.t 16]⟩, ⟨some 225, none, .mv, [.t 0]⟩, ⟨some 226, none, .fldA 1, [.t 15]⟩, ⟨some 227, none, .load none, [.t
  226]⟩, ⟨some 228, none, .idxA 6, [.t 225, .t 227]⟩, ⟨some 229, none, .fldA 1, [.t 228]⟩, ⟨some 230, none, .load none, [.t 229]⟩, ⟨some 231, none, .bin .add, [.t 224, .t 230]⟩,
  ⟨some 16, none, .mv, [.t 231]⟩]) C.skip)).seq ((C.ops [⟨some 232, none, .fldA 1, [.t 15]⟩, ⟨some 233, none, .load none, [.t 232]⟩, ⟨some 234, none, .mv, [.t 5]⟩, ⟨some 235, none,
  .mv, [.t 14]⟩, ⟨some 236, none, .idxA 1, [.t 234, .t 235]⟩, ⟨some 237, none, .load none, [.t 236]⟩, ⟨some 238, none, .bin .neq, [.t 233, .t 237]⟩, ⟨some 239, none, .mv, [.t 238]⟩,
  ⟨some 240, some (239, false), .mv, [.t 16]⟩, ⟨some 241, some (239, false), .mv, [.t 17]⟩, ⟨some 242, some (239, false), .bin .sub, [.t 240, .t 241]⟩, ⟨some 243, some (239, false),
  .mv, [.t 1]⟩, ⟨some 244, some (239, false), .bin .gtr, [.t 242, .t 243]⟩, ⟨some 245, none, .pick, [.t 239, .c (.bool true), .t 244]⟩, ⟨some 246, none, .mv, [.t 245]⟩, ⟨some 247,
  some (246, false), .fldA 2, [.t 15]⟩, ⟨some 248, some (246, false), .load none, [.t 247]⟩, ⟨some 249, some (246, false), .bin .lss, [.t 248, .c (.int .i64 0)]⟩, ⟨some 250, none,
  .pick, [.t 246, .c (.bool true), .t 249]⟩, ⟨some 251, none, .mv, [.t 250]⟩, ⟨some 252, some (251, false), .fldA 2, [.t 15]⟩, ⟨some 253, some (251, false), .load none, [.t 252]⟩,
  ⟨some 254, some (251, false), .bin .gtr, [.t 253, .c (.int .i64 10000)]⟩, ⟨some 255, none, .pick, [.t 251, .c (.bool true), .t 254]⟩]).seq (C.cond (.t 255) ((C.ops [⟨some 4, none,
  .mv, [.c (.bool false)]⟩]).seq C.ret) C.skip))))))).seq (C.ops [⟨some 256, none, .bin .add, [.t 162, .c (.int .i64 1)]⟩, ⟨some 162, none, .mv, [.t 256]⟩])))).loop)).seq ((C.ops
  [⟨some 257, none, .call 11 true, []⟩, ⟨some 4, none, .mv, [.t 257]⟩]).seq
  C.ret))))))))))
theorem fn5 : FnIs Try.prog 5 258 2 [RV.tmp 4] c5 := ⟨Try.f5, Try.f5.body.getD .skip, [11, 15], [77], [], by kernel_rfl, by kernel_rfl, by kernel_rfl, by kernel_rfl, by kernel_rfl, by kernel_rfl, by kernel_rfl⟩
/-- apograph/apographlaw48.ParagraphProofs -/
def c6 : C :=
  ((C.ops [⟨some 8, none, .mv, [.c (.bool false)]⟩]).seq (((C.ops [⟨some 19, none, .mv, [.t 0]⟩, ⟨some 20, none, .mv, [.t 1]⟩, ⟨some 21, none, .call 10 true, [.t 19, .t 20]⟩, ⟨some
  22, none, .un UnOp.not, [.t 21]⟩, ⟨some 23, none, .mv, [.t 22]⟩, ⟨some 24, some (23, false), .mv, [.t 3]⟩, ⟨some 25, some (23, false), .len, [.t 24]⟩, ⟨some 26, some (23, false),
  .bin .gtr, [.t 25, .c (.int .i64 16)]⟩, ⟨some 27, none, .pick, [.t 23, .c (.bool true), .t 26]⟩]).seq (C.cond (.t 27) ((C.ops [⟨some 28, none, .call 11 true, []⟩, ⟨some 8, none,
  .mv, [.t 28]⟩]).seq C.ret) C.skip)).seq ((C.ops [⟨some 30, none, .mv, [.t 0]⟩, ⟨some 31, none, .mv, [.t 1]⟩, ⟨some 32, none, .call 13 true, [.t 30, .t 31]⟩, ⟨some 29, none, .mv,
  [.t 32]⟩, ⟨some 33, none, .ext 0, [.t 29]⟩, ⟨some 34, none, .ext 1, [.t 29]⟩, ⟨some 35, none, .ext 2, [.t 29]⟩, ⟨some 9, none, .mv, [.t 33]⟩, ⟨some 10, none, .mv, [.t 34]⟩, ⟨some
  11, none, .mv, [.t 35]⟩]).seq ((C.ops [⟨some 37, none, .mv, [.t 0]⟩, ⟨some 38, none, .mv, [.t 1]⟩, ⟨some 39, none, .call 14 true, [.t 37, .t 38]⟩, ⟨some 36, none, .mv, [.t 39]⟩,
  ⟨some 40, none, .ext 0, [.t 36]⟩, ⟨some 41, none, .ext 1, [.t 36]⟩, ⟨some 12, none, .mv, [.t 40]⟩, ⟨some 13, none, .mv, [.t 41]⟩]).seq (((C.ops [⟨some 42, none, .mv, [.t 13]⟩,
  ⟨some 43, none, .bin .neq, [.t 42, .c (.int .i64 0)]⟩, ⟨some 44, none, .mv, [.t 43]⟩, ⟨some 45, some (44, false), .mv, [.t 12]⟩, ⟨some 46, some (44, false), .len, [.t 45]⟩, ⟨some
  47, some (44, false), .mv, [.t 0]⟩, ⟨some 48, some (44, false), .len, [.t 47]⟩, ⟨some 49, some (44, false), .bin .add, [.t 48, .c (.int .i64 1)]⟩, ⟨some 50, some (44, false), .bin
  .neq, [.t 46, .t 49]⟩, ⟨some 51, none, .pick, [.t 44, .c (.bool true), .t 50]⟩, ⟨some 52, none, .mv, [.t 51]⟩, ⟨some 53, some (52, false), .mv, [.t 11]⟩, ⟨some 54, some (52,
  false), .bin .eql, [.t 53, .c (.int .i64 0)]⟩, ⟨some 55, some (52, false), .mv, [.t 12]⟩, ⟨some 56, some (52, false), .idxA 1, [.t 55, .c (.int .i64 0)]⟩, ⟨some 57, some (52,
  false), .load none, [.t 56]⟩, ⟨some 58, some (52, false), .bin .geq, [.t 57, .c (.int .i64 0)]⟩, ⟨some 59, some (52, false), .bool true, [.t 54, .t 58]⟩, ⟨some 60, none, .pick, [.t
  52, .c (.bool true), .t 59]⟩]).seq (C.cond (.t 60) ((C.ops [⟨some 8, none, .mv, [.c (.bool false)]⟩]).seq C.ret) C.skip)).seq (((C.ops [⟨some 61, none, .mv, [.t 11]⟩, ⟨some 62,
  none, .bin .eql, [.t 61, .c (.int .i64 0)]⟩, ⟨some 63, none, .mv, [.t 62]⟩, ⟨some 64, some (63, true), .mv, [.t 0]⟩, ⟨some 65, some (63, true), .mv, [.t 1]⟩, ⟨some 66, some (63,
  true), .mv, [.t 9]⟩, ⟨some 67, some (63, true), .mv, [.t 12]⟩, ⟨some 68, some (63, true), .call 18 true, [.t 64, .t 65, .t 66, .t 67]⟩, ⟨some 69, some (63, true), .bin .neq, [.t
  68, .c (.int .i64 0)]⟩, ⟨some 70, some (63, true), .mv, [.t 69]⟩, ⟨some 71, some (70, false), .mv, [.t 12]⟩, ⟨some 72, some (70, false), .idxA 1, [.t 71, .c (.int .i64 0)]⟩, ⟨some
  73, some (70, false), .load none, [.t 72]⟩, ⟨some 74, some (70, false), .mv, [.t 10]⟩, ⟨some 75, some (70, false), .bin .neq, [.t 73, .t 74]⟩, ⟨some 76, some (63, true), .pick, [.t
  70, .c (.bool true), .t 75]⟩, ⟨some 77, none, .pick, [.t 63, .t 76, .c (.bool false)]⟩]).seq (C.cond (.t 77) ((C.ops [⟨some 8, none, .mv, [.c (.bool false)]⟩]).seq C.ret)
  C.skip)).seq ((C.ops [⟨some 78, none, .mv, [.t 0]⟩, ⟨some 79, none, .mv, [.t 2]⟩, ⟨some 80, none, .call 19 true, [.t 78, .t 79]⟩, ⟨some 14, none, .mv, [.t 80]⟩]).seq (((C.ops
  [⟨some 81, none, .mv, [.t 0]⟩, ⟨some 82, none, .mv, [.t 1]⟩, ⟨some 83, none, .mv, [.t 14]⟩, ⟨some 84, none, .mv, [.t 3]⟩, ⟨some 85, none, .call 18 true, [.t 81, .t 82, .t 83, .t
  84]⟩, ⟨some 86, none, .bin .eql, [.t 85, .c (.int .i64 0)]⟩]).seq (C.cond (.t 86) ((C.ops [⟨some 88, none, .mv, [.t 0]⟩, ⟨some 89, none, .mv, [.t 1]⟩, ⟨some 90, none, .mv, [.t
  14]⟩, ⟨some 91, none, .call 20 true, [.t 88, .t 89, .t 90]⟩, ⟨some 87, none, .mv, [.t 91]⟩, ⟨some 92, none, .ext 0, [.t 87]⟩, ⟨some 93, none, .ext 1, [.t 87]⟩, ⟨some 15, none, .mv,
  [.t 92]⟩, ⟨some 16, none, .mv, [.t 93]⟩]).seq ((C.ops [⟨some 94, none, .mv, [.t 11]⟩, ⟨some 95, none, .bin .eql, [.t 94, .c (.int .i64 0)]⟩, ⟨some 96, none, .mv, [.t 95]⟩, ⟨some
  97, some (96, true), .mv, [.t 16]⟩, ⟨some 98, some (96, true), .bin .eql, [.t 97, .c (.int .i64 0)]⟩, ⟨some 99, none, .pick, [.t 96, .t 98, .c (.bool false)]⟩, ⟨some 100, none,
  .mv, [.t 99]⟩, ⟨some 101, some (100, true), .mv, [.t 15]⟩, ⟨some 102, some (100, true), .mv, [.t 10]⟩, ⟨some 103, some (100, true), .bin .eql, [.t 101, .t 102]⟩, ⟨some 104, none,
  .pick, [.t 100, .t 103, .c (.bool false)]⟩, ⟨some 105, none, .mv, [.t 104]⟩, ⟨some 106, some (105, true), .call 11 true, []⟩, ⟨some 107, none, .pick, [.t 105, .t 106, .c (.bool
  false)]⟩, ⟨some 8, none, .mv, [.t 107]⟩]).seq C.ret)) C.skip)).seq ((C.ops [⟨some 109, none, .mv, [.t 0]⟩, ⟨some 110, none, .mv, [.t 1]⟩, ⟨some 111, none, .mv, [.t 14]⟩, ⟨some 112,
  none, .call 20 true, [.t 109, .t 110, .t 111]⟩, ⟨some 108, none, .mv, [.t 112]⟩, ⟨some 113, none, .ext 0, [.t 108]⟩, ⟨some 114, none, .ext 1, [.t 108]⟩, ⟨some 17, none, .mv, [.t
  113]⟩, ⟨some 18, none, .mv, [.t 114]⟩]).seq ((C.ops [⟨some 115, none, .mv, [.t 18]⟩, ⟨some 116, none, .bin .neq, [.t 115, .c (.int .i64 0)]⟩, ⟨some 117, none, .mv, [.t 116]⟩, ⟨some
  118, some (117, false), .mv, [.t 0]⟩, ⟨some 119, some (117, false), .mv, [.t 1]⟩, ⟨some 120, some (117, false), .mv, [.t 14]⟩, ⟨some 121, some (117, false), .mv, [.t 12]⟩, ⟨some
  122, some (117, false), .call 18 true, [.t 118, .t 119, .t 120, .t 121]⟩, ⟨some 123, some (117, false), .bin .eql, [.t 122, .c (.int .i64 0)]⟩, ⟨some 124, some (117, false), .mv,
  [.t 17]⟩, ⟨some 125, some (117, false), .mv, [.t 12]⟩, ⟨some 126, some (117, false), .idxA 1, [.t 125, .c (.int .i64 0)]⟩, ⟨some 127, some (117, false), .load none, [.t 126]⟩,
  ⟨some 128, some (117, false), .bin .eql, [.t 124, .t 127]⟩, ⟨some 129, some (117, false), .bool false, [.t 123, .t 128]⟩, ⟨some 130, none, .pick, [.t 117, .c (.bool true), .t
  129]⟩, ⟨some 131, none, .mv, [.t 130]⟩, ⟨some 132, some (131, true), .call 11 true, []⟩, ⟨some 133, none, .pick, [.t 131, .t 132, .c (.bool false)]⟩, ⟨some 8, none, .mv, [.t
  133]⟩]).seq
  C.ret))))))))))
theorem fn6 : FnIs Try.prog 6 134 0 [RV.tmp 8] c6 := ⟨Try.f6, Try.f6.body.getD .skip, [], [77], [], by kernel_rfl, by kernel_rfl, by kernel_rfl, by kernel_rfl, by kernel_rfl, by kernel_rfl, by kernel_rfl⟩
/-- apograph/apographlaw48.ParagraphLeast -/
def c7 : C :=
  ((C.ops [⟨some 6, none, .mv, [.c (.bool false)]⟩]).seq (((C.ops [⟨some 15, none, .mv, [.t 0]⟩, ⟨some 16, none, .mv, [.t 1]⟩, ⟨some 17, none, .call 10 true, [.t 15, .t 16]⟩, ⟨some
  18, none, .un UnOp.not, [.t 17]⟩]).seq (C.cond (.t 18) ((C.ops [⟨some 19, none, .call 11 true, []⟩, ⟨some 6, none, .mv, [.t 19]⟩]).seq C.ret) C.skip)).seq ((C.ops [⟨some 20, none,
  .mv, [.t 0]⟩, ⟨some 21, none, .mv, [.t 2]⟩, ⟨some 22, none, .call 19 true, [.t 20, .t 21]⟩, ⟨some 7, none, .mv, [.t 22]⟩]).seq ((C.ops [⟨some 24, none, .mv, [.t 0]⟩, ⟨some 25,
  none, .mv, [.t 1]⟩, ⟨some 26, none, .mv, [.t 7]⟩, ⟨some 27, none, .call 20 true, [.t 24, .t 25, .t 26]⟩, ⟨some 23, none, .mv, [.t 27]⟩, ⟨some 28, none, .ext 0, [.t 23]⟩, ⟨some 29,
  none, .ext 1, [.t 23]⟩, ⟨some 8, none, .mv, [.t 28]⟩, ⟨some 9, none, .mv, [.t 29]⟩]).seq ((C.ops [⟨some 31, none, .mv, [.t 0]⟩, ⟨some 32, none, .mv, [.t 1]⟩, ⟨some 33, none, .call
  13 true, [.t 31, .t 32]⟩, ⟨some 30, none, .mv, [.t 33]⟩, ⟨some 34, none, .ext 0, [.t 30]⟩, ⟨some 35, none, .ext 1, [.t 30]⟩, ⟨some 36, none, .ext 2, [.t 30]⟩, ⟨some 10, none, .mv,
  [.t 34]⟩, ⟨some 11, none, .mv, [.t 35]⟩, ⟨some 12, none, .mv, [.t 36]⟩]).seq (((C.ops [⟨some 37, none, .mv, [.t 12]⟩, ⟨some 38, none, .bin .neq, [.t 37, .c (.int .i64 0)]⟩]).seq
  (C.cond (.t 38) ((C.ops [⟨some 39, none, .mv, [.t 12]⟩, ⟨some 40, none, .bin .eql, [.t 39, .c (.int .i64 23)]⟩, ⟨some 41, none, .mv, [.t 40]⟩, ⟨some 42, some (41, true), .mv, [.t
  10]⟩, ⟨some 43, some (41, true), .len, [.t 42]⟩, ⟨some 44, some (41, true), .bin .eql, [.t 43, .c (.int .i64 0)]⟩, ⟨some 45, none, .pick, [.t 41, .t 44, .c (.bool false)]⟩, ⟨some
  46, none, .mv, [.t 45]⟩, ⟨some 47, some (46, true), .mv, [.t 11]⟩, ⟨some 48, some (46, true), .bin .eql, [.t 47, .c (.int .i64 0)]⟩, ⟨some 49, none, .pick, [.t 46, .t 48, .c (.bool
  false)]⟩, ⟨some 50, none, .mv, [.t 49]⟩, ⟨some 51, some (50, true), .mv, [.t 9]⟩, ⟨some 52, some (50, true), .bin .neq, [.t 51, .c (.int .i64 0)]⟩, ⟨some 53, none, .pick, [.t 50,
  .t 52, .c (.bool false)]⟩, ⟨some 54, none, .mv, [.t 53]⟩, ⟨some 55, some (54, true), .call 11 true, []⟩, ⟨some 56, none, .pick, [.t 54, .t 55, .c (.bool false)]⟩, ⟨some 6, none,
  .mv, [.t 56]⟩]).seq C.ret) C.skip)).seq ((C.ops [⟨some 58, none, .mv, [.t 0]⟩, ⟨some 59, none, .mv, [.t 1]⟩, ⟨some 60, none, .mv, [.t 10]⟩, ⟨some 61, none, .call 20 true, [.t 58,
  .t 59, .t 60]⟩, ⟨some 57, none, .mv, [.t 61]⟩, ⟨some 62, none, .ext 0, [.t 57]⟩, ⟨some 63, none, .ext 1, [.t 57]⟩, ⟨some 13, none, .mv, [.t 62]⟩, ⟨some 14, none, .mv, [.t
  63]⟩]).seq (((C.ops [⟨some 64, none, .mv, [.t 14]⟩, ⟨some 65, none, .bin .neq, [.t 64, .c (.int .i64 0)]⟩, ⟨some 66, none, .mv, [.t 65]⟩, ⟨some 67, some (66, false), .mv, [.t 13]⟩,
  ⟨some 68, some (66, false), .mv, [.t 11]⟩, ⟨some 69, some (66, false), .bin .neq, [.t 67, .t 68]⟩, ⟨some 70, none, .pick, [.t 66, .c (.bool true), .t 69]⟩]).seq (C.cond (.t 70)
  ((C.ops [⟨some 6, none, .mv, [.c (.bool false)]⟩]).seq C.ret) C.skip)).seq ((C.ops [⟨some 71, none, .mv, [.t 9]⟩, ⟨some 72, none, .bin .neq, [.t 71, .c (.int .i64 0)]⟩, ⟨some 73,
  none, .mv, [.t 72]⟩, ⟨some 74, some (73, false), .mv, [.t 8]⟩, ⟨some 75, some (73, false), .mv, [.t 11]⟩, ⟨some 76, some (73, false), .bin .gtr, [.t 74, .t 75]⟩, ⟨some 77, none,
  .pick, [.t 73, .c (.bool true), .t 76]⟩, ⟨some 78, none, .mv, [.t 77]⟩, ⟨some 79, some (78, false), .mv, [.t 8]⟩, ⟨some 80, some (78, false), .mv, [.t 11]⟩, ⟨some 81, some (78,
  false), .bin .eql, [.t 79, .t 80]⟩, ⟨some 82, some (78, false), .mv, [.t 81]⟩, ⟨some 83, some (82, true), .mv, [.t 10]⟩, ⟨some 84, some (82, true), .mv, [.t 7]⟩, ⟨some 85, some
  (82, true), .call 21 true, [.t 83, .t 84]⟩, ⟨some 86, some (82, true), .bin .leq, [.t 85, .c (.int .i64 0)]⟩, ⟨some 87, some (78, false), .pick, [.t 82, .t 86, .c (.bool false)]⟩,
  ⟨some 88, none, .pick, [.t 78, .c (.bool true), .t 87]⟩, ⟨some 89, none, .mv, [.t 88]⟩, ⟨some 90, some (89, true), .call 11 true, []⟩, ⟨some 91, none, .pick, [.t 89, .t 90, .c
  (.bool false)]⟩, ⟨some 6, none, .mv, [.t 91]⟩]).seq
  C.ret)))))))))
theorem fn7 : FnIs Try.prog 7 92 0 [RV.tmp 6] c7 := ⟨Try.f7, Try.f7.body.getD .skip, [], [77], [], by kernel_rfl, by kernel_rfl, by kernel_rfl, by kernel_rfl, by kernel_rfl, by kernel_rfl, by kernel_rfl⟩
/-- apograph/apographlaw48.ParagraphBreaks -/
def c8 : C :=
  ((C.ops [⟨some 12, none, .mv, [.c (.bool false)]⟩]).seq (((C.ops [⟨some 31, none, .mv, [.t 0]⟩, ⟨some 32, none, .call 22 true, [.t 31]⟩, ⟨some 33, none, .mv, [.t 32]⟩, ⟨some 34,
  some (33, false), .mv, [.t 4]⟩, ⟨some 35, some (33, false), .len, [.t 34]⟩, ⟨some 36, some (33, false), .bin .gtr, [.t 35, .c (.int .i64 16)]⟩, ⟨some 37, none, .pick, [.t 33, .c
  (.bool true), .t 36]⟩, ⟨some 38, none, .mv, [.t 37]⟩, ⟨some 39, some (38, false), .mv, [.t 5]⟩, ⟨some 40, some (38, false), .len, [.t 39]⟩, ⟨some 41, some (38, false), .bin .gtr,
  [.t 40, .c (.int .i64 16)]⟩, ⟨some 42, none, .pick, [.t 38, .c (.bool true), .t 41]⟩]).seq (C.cond (.t 42) ((C.ops [⟨some 43, none, .call 11 true, []⟩, ⟨some 12, none, .mv, [.t
  43]⟩]).seq C.ret) C.skip)).seq ((C.ops [⟨some 45, none, .mv, [.t 0]⟩, ⟨some 46, none, .mv, [.t 1]⟩, ⟨some 47, none, .mv, [.t 4]⟩, ⟨some 48, none, .call 16 true, [.t 45, .t 46, .t
  47]⟩, ⟨some 44, none, .mv, [.t 48]⟩, ⟨some 49, none, .ext 0, [.t 44]⟩, ⟨some 50, none, .ext 1, [.t 44]⟩, ⟨some 13, none, .mv, [.t 49]⟩, ⟨some 14, none, .mv, [.t 50]⟩]).seq ((C.ops
  [⟨some 52, none, .mv, [.t 0]⟩, ⟨some 53, none, .mv, [.t 1]⟩, ⟨some 54, none, .mv, [.t 4]⟩, ⟨some 55, none, .call 23 true, [.t 52, .t 53, .t 54]⟩, ⟨some 51, none, .mv, [.t 55]⟩,
  ⟨some 56, none, .ext 0, [.t 51]⟩, ⟨some 57, none, .ext 1, [.t 51]⟩, ⟨some 15, none, .mv, [.t 56]⟩, ⟨some 16, none, .mv, [.t 57]⟩]).seq ((C.ops [⟨some 59, none, .mv, [.t 0]⟩, ⟨some
  60, none, .mv, [.t 1]⟩, ⟨some 61, none, .mv, [.t 4]⟩, ⟨some 62, none, .call 20 true, [.t 59, .t 60, .t 61]⟩, ⟨some 58, none, .mv, [.t 62]⟩, ⟨some 63, none, .ext 0, [.t 58]⟩, ⟨some
  64, none, .ext 1, [.t 58]⟩, ⟨some 17, none, .mv, [.t 63]⟩, ⟨some 18, none, .mv, [.t 64]⟩]).seq ((C.ops [⟨some 66, none, .mv, [.t 0]⟩, ⟨some 67, none, .mv, [.t 1]⟩, ⟨some 68, none,
  .mv, [.t 4]⟩, ⟨some 69, none, .call 24 true, [.t 66, .t 67, .t 68]⟩, ⟨some 65, none, .mv, [.t 69]⟩, ⟨some 70, none, .ext 0, [.t 65]⟩, ⟨some 71, none, .ext 1, [.t 65]⟩, ⟨some 19,
  none, .mv, [.t 70]⟩, ⟨some 20, none, .mv, [.t 71]⟩]).seq (((C.ops [⟨some 72, none, .mv, [.t 13]⟩, ⟨some 73, none, .mv, [.t 15]⟩, ⟨some 74, none, .call 25 true, [.t 72, .t 73]⟩,
  ⟨some 75, none, .un UnOp.not, [.t 74]⟩, ⟨some 76, none, .mv, [.t 75]⟩, ⟨some 77, some (76, false), .mv, [.t 14]⟩, ⟨some 78, some (76, false), .mv, [.t 16]⟩, ⟨some 79, some (76,
  false), .bin .neq, [.t 77, .t 78]⟩, ⟨some 80, none, .pick, [.t 76, .c (.bool true), .t 79]⟩, ⟨some 81, none, .mv, [.t 80]⟩, ⟨some 82, some (81, false), .mv, [.t 17]⟩, ⟨some 83,
  some (81, false), .mv, [.t 19]⟩, ⟨some 84, some (81, false), .bin .neq, [.t 82, .t 83]⟩, ⟨some 85, none, .pick, [.t 81, .c (.bool true), .t 84]⟩, ⟨some 86, none, .mv, [.t 85]⟩,
  ⟨some 87, some (86, false), .mv, [.t 18]⟩, ⟨some 88, some (86, false), .mv, [.t 20]⟩, ⟨some 89, some (86, false), .bin .neq, [.t 87, .t 88]⟩, ⟨some 90, none, .pick, [.t 86, .c
  (.bool true), .t 89]⟩]).seq (C.cond (.t 90) ((C.ops [⟨some 12, none, .mv, [.c (.bool false)]⟩]).seq C.ret) C.skip)).seq ((C.ops [⟨some 92, none, .mv, [.t 0]⟩, ⟨some 93, none, .mv,
  [.t 1]⟩, ⟨some 94, none, .call 13 true, [.t 92, .t 93]⟩, ⟨some 91, none, .mv, [.t 94]⟩, ⟨some 95, none, .ext 0, [.t 91]⟩, ⟨some 96, none, .ext 1, [.t 91]⟩, ⟨some 97, none, .ext 2,
  [.t 91]⟩, ⟨some 21, none, .mv, [.t 95]⟩, ⟨some 22, none, .mv, [.t 96]⟩, ⟨some 14, none, .mv, [.t 97]⟩]).seq ((C.ops [⟨some 99, none, .mv, [.t 0]⟩, ⟨some 100, none, .mv, [.t 1]⟩,
  ⟨some 101, none, .call 26 true, [.t 99, .t 100]⟩, ⟨some 98, none, .mv, [.t 101]⟩, ⟨some 102, none, .ext 0, [.t 98]⟩, ⟨some 103, none, .ext 1, [.t 98]⟩, ⟨some 104, none, .ext 2, [.t
  98]⟩, ⟨some 23, none, .mv, [.t 102]⟩, ⟨some 24, none, .mv, [.t 103]⟩, ⟨some 16, none, .mv, [.t 104]⟩]).seq ((C.ops [⟨some 106, none, .mv, [.t 0]⟩, ⟨some 107, none, .mv, [.t 1]⟩,
  ⟨some 108, none, .mv, [.t 2]⟩, ⟨some 109, none, .mv, [.t 3]⟩, ⟨some 110, none, .call 15 true, [.t 106, .t 107, .t 108, .t 109]⟩, ⟨some 105, none, .mv, [.t 110]⟩, ⟨some 111, none,
  .ext 0, [.t 105]⟩, ⟨some 112, none, .ext 1, [.t 105]⟩, ⟨some 113, none, .ext 2, [.t 105]⟩, ⟨some 25, none, .mv, [.t 111]⟩, ⟨some 26, none, .mv, [.t 112]⟩, ⟨some 18, none, .mv, [.t
  113]⟩]).seq ((C.ops [⟨some 115, none, .mv, [.t 0]⟩, ⟨some 116, none, .mv, [.t 1]⟩, ⟨some 117, none, .mv, [.t 2]⟩, ⟨some 118, none, .mv, [.t 3]⟩, ⟨some 119, none, .call 27 true, [.t
  115, .t 116, .t 117, .t 118]⟩, ⟨some 114, none, .mv, [.t 119]⟩, ⟨some 120, none, .ext 0, [.t 114]⟩, ⟨some 121, none, .ext 1, [.t 114]⟩, ⟨some 122, none, .ext 2, [.t 114]⟩, ⟨some
  27, none, .mv, [.t 120]⟩, ⟨some 28, none, .mv, [.t 121]⟩, ⟨some 20, none, .mv, [.t 122]⟩]).seq (((C.ops [⟨some 123, none, .mv, [.t 21]⟩, ⟨some 124, none, .mv, [.t 23]⟩, ⟨some 125,
  none, .call 28 true, [.t 123, .t 124]⟩, ⟨some 126, none, .un UnOp.not, [.t 125]⟩, ⟨some 127, none, .mv, [.t 126]⟩, ⟨some 128, some (127, false), .mv, [.t 22]⟩, ⟨some 129, some
  (127, false), .mv, [.t 24]⟩, ⟨some 130, some (127, false), .bin .neq, [.t 128, .t 129]⟩, ⟨some 131, none, .pick, [.t 127, .c (.bool true), .t 130]⟩, ⟨some 132, none, .mv, [.t
  131]⟩, ⟨some 133, some (132, false), .mv, [.t 14]⟩, ⟨some 134, some (132, false), .mv, [.t 16]⟩, ⟨some 135, some (132, false), .bin .neq, [.t 133, .t 134]⟩, ⟨some 136, none, .pick,
  [.t 132, .c (.bool true), .t 135]⟩, ⟨some 137, none, .mv, [.t 136]⟩, ⟨some 138, some (137, false), .mv, [.t 25]⟩, ⟨some 139, some (137, false), .mv, [.t 27]⟩, ⟨some 140, some (137,
  false), .bin .neq, [.t 138, .t 139]⟩, ⟨some 141, none, .pick, [.t 137, .c (.bool true), .t 140]⟩, ⟨some 142, none, .mv, [.t 141]⟩, ⟨some 143, some (142, false), .mv, [.t 26]⟩,
  ⟨some 144, some (142, false), .mv, [.t 28]⟩, ⟨some 145, some (142, false), .bool true, [.t 143, .t 144]⟩, ⟨some 146, none, .pick, [.t 142, .c (.bool true), .t 145]⟩, ⟨some 147,
  none, .mv, [.t 146]⟩, ⟨some 148, some (147, false), .mv, [.t 18]⟩, ⟨some 149, some (147, false), .mv, [.t 20]⟩, ⟨some 150, some (147, false), .bin .neq, [.t 148, .t 149]⟩, ⟨some
  151, none, .pick, [.t 147, .c (.bool true), .t 150]⟩]).seq (C.cond (.t 151) ((C.ops [⟨some 12, none, .mv, [.c (.bool false)]⟩]).seq C.ret) C.skip)).seq ((C.ops [⟨some 153, none,
  .mv, [.t 0]⟩, ⟨some 154, none, .mv, [.t 1]⟩, ⟨some 155, none, .call 14 true, [.t 153, .t 154]⟩, ⟨some 152, none, .mv, [.t 155]⟩, ⟨some 156, none, .ext 0, [.t 152]⟩, ⟨some 157,
  none, .ext 1, [.t 152]⟩, ⟨some 29, none, .mv, [.t 156]⟩, ⟨some 14, none, .mv, [.t 157]⟩]).seq ((C.ops [⟨some 159, none, .mv, [.t 0]⟩, ⟨some 160, none, .mv, [.t 1]⟩, ⟨some 161,
  none, .call 29 true, [.t 159, .t 160]⟩, ⟨some 158, none, .mv, [.t 161]⟩, ⟨some 162, none, .ext 0, [.t 158]⟩, ⟨some 163, none, .ext 1, [.t 158]⟩, ⟨some 30, none, .mv, [.t 162]⟩,
  ⟨some 16, none, .mv, [.t 163]⟩]).seq ((C.ops [⟨some 164, none, .mv, [.t 29]⟩, ⟨some 165, none, .mv, [.t 30]⟩, ⟨some 166, none, .call 28 true, [.t 164, .t 165]⟩, ⟨some 167, none,
  .mv, [.t 166]⟩, ⟨some 168, some (167, true), .mv, [.t 14]⟩, ⟨some 169, some (167, true), .mv, [.t 16]⟩, ⟨some 170, some (167, true), .bin .eql, [.t 168, .t 169]⟩, ⟨some 171, none,
  .pick, [.t 167, .t 170, .c (.bool false)]⟩, ⟨some 172, none, .mv, [.t 171]⟩, ⟨some 173, some (172, true), .mv, [.t 0]⟩, ⟨some 174, some (172, true), .mv, [.t 1]⟩, ⟨some 175, some
  (172, true), .mv, [.t 4]⟩, ⟨some 176, some (172, true), .mv, [.t 5]⟩, ⟨some 177, some (172, true), .call 18 true, [.t 173, .t 174, .t 175, .t 176]⟩, ⟨some 178, some (172, true),
  .mv, [.t 0]⟩, ⟨some 179, some (172, true), .mv, [.t 1]⟩, ⟨some 180, some (172, true), .mv, [.t 4]⟩, ⟨some 181, some (172, true), .mv, [.t 5]⟩, ⟨some 182, some (172, true), .call 30
  true, [.t 178, .t 179, .t 180, .t 181]⟩, ⟨some 183, some (172, true), .bin .eql, [.t 177, .t 182]⟩, ⟨some 184, none, .pick, [.t 172, .t 183, .c (.bool false)]⟩, ⟨some 185, none,
  .mv, [.t 184]⟩, ⟨some 186, some (185, true), .call 11 true, []⟩, ⟨some 187, none, .pick, [.t 185, .t 186, .c (.bool false)]⟩, ⟨some 12, none, .mv, [.t 187]⟩]).seq
  C.ret)))))))))))))))
theorem fn8 : FnIs Try.prog 8 188 0 [RV.tmp 12] c8 := ⟨Try.f8, Try.f8.body.getD .skip, [], [77], [], by kernel_rfl, by kernel_rfl, by kernel_rfl, by kernel_rfl, by kernel_rfl, by kernel_rfl, by kernel_rfl⟩
/-- apograph/paragraph.lines$1 -/
def c74 : C :=
  ((C.ops [⟨some 5, none, .alloc 0 106 [.int .i64 0, .int .i64 0, .int .i64 0], []⟩]).seq ((C.ops [⟨some 11, none, .load none, [.t 1]⟩, ⟨some 12, none, .load none, [.t 2]⟩, ⟨some 13,
  none, .load none, [.t 1]⟩, ⟨some 14, none, .len, [.t 13]⟩, ⟨some 15, none, .call 75 true, [.t 11, .t 12, .t 14]⟩, ⟨some 6, none, .mv, [.t 15]⟩]).seq ((C.ops [⟨some 16, none, .load
  none, [.t 2]⟩, ⟨some 7, none, .mv, [.t 16]⟩]).seq (C.block 0 (((C.ops [⟨some 17, none, .mv, [.t 7]⟩, ⟨some 18, none, .load none, [.t 1]⟩, ⟨some 19, none, .len, [.t 18]⟩, ⟨some 20,
  none, .bin .leq, [.t 17, .t 19]⟩]).seq (C.cond (.t 20) C.skip (C.exit 0))).seq ((C.block 1 (((C.ops [⟨some 23, none, .load none, [.t 1]⟩, ⟨some 24, none, .mv, [.t 7]⟩, ⟨some 25,
  none, .call 42 true, [.t 23, .t 24]⟩]).seq (C.cond (.t 25) ((C.ops [⟨some 27, none, .load none, [.t 1]⟩, ⟨some 28, none, .load none, [.t 3]⟩, ⟨some 29, none, .load (some 3), [.t
  5]⟩, ⟨some 30, none, .mv, [.t 7]⟩, ⟨some 31, none, .call 76 true, [.t 27, .t 28, .t 29, .t 30]⟩, ⟨some 26, none, .mv, [.t 31]⟩, ⟨some 32, none, .ext 0, [.t 26]⟩, ⟨some 33, none,
  .ext 1, [.t 26]⟩, ⟨some 34, none, .ext 2, [.t 26]⟩, ⟨some 8, none, .mv, [.t 32]⟩, ⟨some 9, none, .mv, [.t 33]⟩, ⟨some 10, none, .mv, [.t 34]⟩]).seq ((C.ops [⟨some 35, none, .mv,
  [.t 10]⟩, ⟨some 36, none, .mv, [.t 35]⟩, ⟨some 37, some (36, true), .mv, [.t 0]⟩, ⟨some 38, some (36, true), .mv, [.t 7]⟩, ⟨some 39, some (36, true), .mv, [.t 8]⟩, ⟨some 40, some
  (36, true), .load none, [.t 1]⟩, ⟨some 41, some (36, true), .mv, [.t 7]⟩, ⟨some 42, some (36, true), .call 45 true, [.t 40, .t 41]⟩, ⟨some 43, some (36, true), .bin .add, [.t 39,
  .t 42]⟩, ⟨some 44, some (36, true), .callv, [.t 37, .t 38, .t 43]⟩, ⟨some 45, some (36, true), .un UnOp.not, [.t 44]⟩, ⟨some 46, none, .pick, [.t 36, .t 45, .c (.bool
  false)]⟩]).seq (C.cond (.t 46) C.ret C.skip))) C.skip)).seq (((C.ops [⟨some 47, none, .load none, [.t 1]⟩, ⟨some 48, none, .mv, [.t 7]⟩, ⟨some 49, none, .call 43 true, [.t 47, .t
  48]⟩]).seq (C.cond (.t 49) C.ret C.skip)).seq ((C.ops [⟨some 50, none, .mv, [.t 7]⟩, ⟨some 51, none, .load none, [.t 1]⟩, ⟨some 52, none, .len, [.t 51]⟩, ⟨some 53, none, .bin .lss,
  [.t 50, .t 52]⟩, ⟨some 54, none, .mv, [.t 53]⟩, ⟨some 55, some (54, true), .mv, [.t 7]⟩, ⟨some 56, some (54, true), .mv, [.t 6]⟩, ⟨some 57, some (54, true), .bin .geq, [.t 55, .t
  56]⟩, ⟨some 58, none, .pick, [.t 54, .t 57, .c (.bool false)]⟩]).seq (C.cond (.t 58) (C.ops [⟨some 59, none, .load none, [.t 1]⟩, ⟨some 60, none, .mv, [.t 7]⟩, ⟨some 61, none,
  .idxA 6, [.t 59, .t 60]⟩, ⟨some 62, none, .load (some 6), [.t 61]⟩, ⟨some 63, none, .call 77 false, [.t 5, .t 62]⟩]) C.skip))))).seq (C.ops [⟨some 21, none, .mv, [.t 7]⟩, ⟨some 22,
  none, .bin .add, [.t 21, .c (.int .i64 1)]⟩, ⟨some 7, none, .mv, [.t
  22]⟩]))).loop))))
theorem fn74 : FnIs Try.prog 74 64 1 [] c74 := ⟨Try.f74, Try.f74.body.getD .skip, [5], [77], [], by kernel_rfl, by kernel_rfl, by kernel_rfl, by kernel_rfl, by kernel_rfl, by kernel_rfl, by kernel_rfl⟩
/-- apograph/paragraph.begin -/
def c75 : C :=
  ((C.ops [⟨some 6, none, .mv, [.c (.int .i64 0)]⟩]).seq ((C.block 0 (((C.ops [⟨some 7, none, .mv, [.t 1]⟩, ⟨some 8, none, .mv, [.t 2]⟩, ⟨some 9, none, .bin .lss, [.t 7, .t 8]⟩,
  ⟨some 10, none, .mv, [.t 9]⟩, ⟨some 11, some (10, true), .mv, [.t 0]⟩, ⟨some 12, some (10, true), .mv, [.t 1]⟩, ⟨some 13, some (10, true), .idxA 6, [.t 11, .t 12]⟩, ⟨some 14, some
  (10, true), .fldA 0, [.t 13]⟩, ⟨some 15, some (10, true), .load none, [.t 14]⟩, ⟨some 16, some (10, true), .bin .eql, [.t 15, .c (.int .i64 2)]⟩, ⟨some 17, none, .pick, [.t 10, .t
  16, .c (.bool false)]⟩]).seq (C.cond (.t 17) C.skip (C.exit 0))).seq (C.block 1 (C.ops [⟨some 18, none, .mv, [.t 1]⟩, ⟨some 19, none, .bin .add, [.t 18, .c (.int .i64 1)]⟩, ⟨some
  1, none, .mv, [.t 19]⟩]))).loop).seq ((C.ops [⟨some 20, none, .mv, [.t 1]⟩, ⟨some 6, none, .mv, [.t 20]⟩]).seq
  C.ret)))
theorem fn75 : FnIs Try.prog 75 21 0 [RV.tmp 6] c75 := ⟨Try.f75, Try.f75.body.getD .skip, [], [77], [], by kernel_rfl, by kernel_rfl, by kernel_rfl, by kernel_rfl, by kernel_rfl, by kernel_rfl, by kernel_rfl⟩
/-- apograph/paragraph.fit -/
def c76 : C :=
  ((C.ops [⟨some 6, none, .box 0 106, [.t 2]⟩, ⟨some 8, none, .mv, [.c (.int .i64 0)]⟩, ⟨some 9, none, .mv, [.c (.int .i64 0)]⟩, ⟨some 10, none, .mv, [.c (.bool false)]⟩]).seq
  (((C.ops [⟨some 11, none, .mv, [.t 3]⟩, ⟨some 12, none, .mv, [.t 0]⟩, ⟨some 13, none, .len, [.t 12]⟩, ⟨some 14, none, .bin .lss, [.t 11, .t 13]⟩, ⟨some 15, none, .mv, [.t 14]⟩,
  ⟨some 16, some (15, true), .mv, [.t 0]⟩, ⟨some 17, some (15, true), .mv, [.t 3]⟩, ⟨some 18, some (15, true), .idxA 6, [.t 16, .t 17]⟩, ⟨some 19, some (15, true), .fldA 0, [.t 18]⟩,
  ⟨some 20, some (15, true), .load none, [.t 19]⟩, ⟨some 21, some (15, true), .bin .eql, [.t 20, .c (.int .i64 3)]⟩, ⟨some 22, none, .pick, [.t 15, .t 21, .c (.bool false)]⟩]).seq
  (C.cond (.t 22) (C.ops [⟨some 23, none, .fldA 0, [.t 6]⟩, ⟨some 24, none, .load none, [.t 23]⟩, ⟨some 25, none, .mv, [.t 0]⟩, ⟨some 26, none, .mv, [.t 3]⟩, ⟨some 27, none, .idxA 6,
  [.t 25, .t 26]⟩, ⟨some 28, none, .fldA 1, [.t 27]⟩, ⟨some 29, none, .load none, [.t 28]⟩, ⟨some 30, none, .bin .add, [.t 24, .t 29]⟩, ⟨some 31, none, .fldA 0, [.t 6]⟩, ⟨none, none,
  .store 1, [.t 31, .t 30]⟩]) C.skip)).seq ((C.ops [⟨some 32, none, .mv, [.t 1]⟩, ⟨some 33, none, .fldA 0, [.t 6]⟩, ⟨some 34, none, .load none, [.t 33]⟩, ⟨some 35, none, .bin .sub,
  [.t 32, .t 34]⟩, ⟨some 9, none, .mv, [.t 35]⟩]).seq ((C.block 0 ((C.ops [⟨some 37, none, .mv, [.t 9]⟩, ⟨some 38, none, .bin .geq, [.t 37, .c (.int .i64 0)]⟩, ⟨some 39, none, .mv,
  [.t 38]⟩, ⟨some 40, some (39, true), .mv, [.t 3]⟩, ⟨some 41, some (39, true), .mv, [.t 0]⟩, ⟨some 42, some (39, true), .len, [.t 41]⟩, ⟨some 43, some (39, true), .bin .eql, [.t 40,
  .t 42]⟩, ⟨some 44, some (39, true), .mv, [.t 43]⟩, ⟨some 45, some (44, false), .mv, [.t 0]⟩, ⟨some 46, some (44, false), .mv, [.t 3]⟩, ⟨some 47, some (44, false), .call 43 true,
  [.t 45, .t 46]⟩, ⟨some 48, some (39, true), .pick, [.t 44, .c (.bool true), .t 47]⟩, ⟨some 49, none, .pick, [.t 39, .t 48, .c (.bool false)]⟩, ⟨some 36, none, .mv, [.t 49]⟩]).seq
  (C.cond (.t 36) ((C.ops [⟨some 8, none, .mv, [.c (.int .i64 0)]⟩, ⟨some 9, none, .mv, [.c (.int .i64 0)]⟩, ⟨some 10, none, .mv, [.c (.bool true)]⟩]).seq C.ret) ((C.ops [⟨some 51,
  none, .mv, [.t 9]⟩, ⟨some 52, none, .bin .geq, [.t 51, .c (.int .i64 0)]⟩, ⟨some 50, none, .mv, [.t 52]⟩]).seq (C.cond (.t 50) ((C.ops [⟨some 53, none, .mv, [.t 9]⟩, ⟨some 54,
  none, .fldA 1, [.t 6]⟩, ⟨some 55, none, .load none, [.t 54]⟩, ⟨some 56, none, .call 96 true, [.t 53, .t 55]⟩, ⟨some 57, none, .mv, [.t 9]⟩, ⟨some 8, none, .mv, [.t 56]⟩, ⟨some 9,
  none, .mv, [.t 57]⟩, ⟨some 10, none, .mv, [.c (.bool true)]⟩]).seq C.ret) ((C.ops [⟨some 59, none, .mv, [.t 9]⟩, ⟨some 60, none, .un UnOp.neg, [.t 59]⟩, ⟨some 61, none, .fldA 2,
  [.t 6]⟩, ⟨some 62, none, .load none, [.t 61]⟩, ⟨some 63, none, .bin .leq, [.t 60, .t 62]⟩, ⟨some 58, none, .mv, [.t 63]⟩]).seq (C.cond (.t 58) ((C.ops [⟨some 64, none, .mv, [.t
  9]⟩, ⟨some 65, none, .un UnOp.neg, [.t 64]⟩, ⟨some 66, none, .fldA 2, [.t 6]⟩, ⟨some 67, none, .load none, [.t 66]⟩, ⟨some 68, none, .call 96 true, [.t 65, .t 67]⟩, ⟨some 69, none,
  .mv, [.t 9]⟩, ⟨some 8, none, .mv, [.t 68]⟩, ⟨some 9, none, .mv, [.t 69]⟩, ⟨some 10, none, .mv, [.c (.bool true)]⟩]).seq C.ret) C.skip))))))).seq ((C.ops [⟨some 8, none, .mv, [.c
  (.int .i64 0)]⟩, ⟨some 9, none, .mv, [.c (.int .i64 0)]⟩, ⟨some 10, none, .mv, [.c (.bool false)]⟩]).seq
  C.ret)))))
theorem fn76 : FnIs Try.prog 76 70 1 [RV.tmp 8, RV.tmp 9, RV.tmp 10] c76 := ⟨Try.f76, Try.f76.body.getD .skip, [6], [77], [], by kernel_rfl, by kernel_rfl, by kernel_rfl, by kernel_rfl, by kernel_rfl, by kernel_rfl, by kernel_rfl⟩
/-- (*apograph/paragraph.measure).add -/
def c77 : C :=
  ((C.ops [⟨some 3, none, .box 0 28, [.t 1]⟩]).seq ((C.ops [⟨some 4, none, .fldA 0, [.t 3]⟩, ⟨some 5, none, .load none, [.t 4]⟩, ⟨some 6, none, .bin .neq, [.t 5, .c (.int .i64
  3)]⟩]).seq (C.cond (.t 6) ((C.ops [⟨some 7, none, .mv, [.t 0]⟩, ⟨some 8, none, .nilchk, [.t 7]⟩, ⟨some 9, none, .fldA 0, [.t 8]⟩, ⟨some 10, none, .load none, [.t 9]⟩, ⟨some 11,
  none, .fldA 1, [.t 3]⟩, ⟨some 12, none, .load none, [.t 11]⟩, ⟨some 13, none, .bin .add, [.t 10, .t 12]⟩, ⟨some 14, none, .nilchk, [.t 7]⟩, ⟨some 15, none, .fldA 0, [.t 14]⟩,
  ⟨none, none, .store 1, [.t 15, .t 13]⟩]).seq ((C.ops [⟨some 16, none, .mv, [.t 0]⟩, ⟨some 17, none, .nilchk, [.t 16]⟩, ⟨some 18, none, .fldA 1, [.t 17]⟩, ⟨some 19, none, .load
  none, [.t 18]⟩, ⟨some 20, none, .fldA 2, [.t 3]⟩, ⟨some 21, none, .load none, [.t 20]⟩, ⟨some 22, none, .bin .add, [.t 19, .t 21]⟩, ⟨some 23, none, .nilchk, [.t 16]⟩, ⟨some 24,
  none, .fldA 1, [.t 23]⟩, ⟨none, none, .store 1, [.t 24, .t 22]⟩]).seq (C.ops [⟨some 25, none, .mv, [.t 0]⟩, ⟨some 26, none, .nilchk, [.t 25]⟩, ⟨some 27, none, .fldA 2, [.t 26]⟩,
  ⟨some 28, none, .load none, [.t 27]⟩, ⟨some 29, none, .fldA 3, [.t 3]⟩, ⟨some 30, none, .load none, [.t 29]⟩, ⟨some 31, none, .bin .add, [.t 28, .t 30]⟩, ⟨some 32, none, .nilchk,
  [.t 25]⟩, ⟨some 33, none, .fldA 2, [.t 32]⟩, ⟨none, none, .store 1, [.t 33, .t 31]⟩])))
  C.skip)))
theorem fn77 : FnIs Try.prog 77 34 1 [] c77 := ⟨Try.f77, Try.f77.body.getD .skip, [3], [77], [], by kernel_rfl, by kernel_rfl, by kernel_rfl, by kernel_rfl, by kernel_rfl, by kernel_rfl, by kernel_rfl⟩
/-- cmp.isNaN[int] -/
def c81 : C :=
  ((C.ops [⟨some 2, none, .mv, [.c (.bool false)]⟩]).seq ((C.ops [⟨some 3, none, .mv, [.t 0]⟩, ⟨some 4, none, .mv, [.t 0]⟩, ⟨some 5, none, .bin .neq, [.t 3, .t 4]⟩, ⟨some 2, none,
  .mv, [.t 5]⟩]).seq
  C.ret))
theorem fn81 : FnIs Try.prog 81 6 0 [RV.tmp 2] c81 := ⟨Try.f81, Try.f81.body.getD .skip, [], [77], [], by kernel_rfl, by kernel_rfl, by kernel_rfl, by kernel_rfl, by kernel_rfl, by kernel_rfl, by kernel_rfl⟩
/-- apograph/apographref48.measure -/
def c82 : C :=
  ((C.ops [⟨some 6, none, .mv, [.c (.int .i64 0)]⟩, ⟨some 7, none, .mv, [.c (.int .i64 0)]⟩, ⟨some 8, none, .mv, [.c (.int .i64 0)]⟩]).seq ((C.ops [⟨some 9, none, .mv, [.c (.int .i64
  0)]⟩, ⟨some 10, none, .mv, [.c (.int .i64 0)]⟩, ⟨some 11, none, .mv, [.c (.int .i64 0)]⟩]).seq (((C.ops [⟨some 13, none, .mv, [.t 0]⟩, ⟨some 14, none, .mv, [.t 1]⟩, ⟨some 15, none,
  .mv, [.t 2]⟩, ⟨some 16, none, .call 53 true, [.t 13, .t 14, .t 15]⟩, ⟨some 12, none, .mv, [.t 16]⟩]).seq (C.block 0 (((C.ops [⟨some 17, none, .mv, [.t 12]⟩, ⟨some 18, none, .mv,
  [.t 2]⟩, ⟨some 19, none, .bin .lss, [.t 17, .t 18]⟩]).seq (C.cond (.t 19) C.skip (C.exit 0))).seq ((C.block 1 ((C.ops [⟨some 22, none, .mv, [.t 0]⟩, ⟨some 23, none, .mv, [.t 12]⟩,
  ⟨some 24, none, .idxA 6, [.t 22, .t 23]⟩, ⟨some 25, none, .fldA 0, [.t 24]⟩, ⟨some 26, none, .load none, [.t 25]⟩, ⟨some 27, none, .bin .neq, [.t 26, .c (.int .i64 3)]⟩]).seq
  (C.cond (.t 27) ((C.ops [⟨some 28, none, .mv, [.t 9]⟩, ⟨some 29, none, .mv, [.t 0]⟩, ⟨some 30, none, .mv, [.t 12]⟩, ⟨some 31, none, .idxA 6, [.t 29, .t 30]⟩, ⟨some 32, none, .fldA
  1, [.t 31]⟩, ⟨some 33, none, .load none, [.t 32]⟩, ⟨some 34, none, .bin .add, [.t 28, .t 33]⟩, ⟨some 9, none, .mv, [.t 34]⟩]).seq ((C.ops [⟨some 35, none, .mv, [.t 10]⟩, ⟨some 36,
  none, .mv, [.t 0]⟩, ⟨some 37, none, .mv, [.t 12]⟩, ⟨some 38, none, .idxA 6, [.t 36, .t 37]⟩, ⟨some 39, none, .fldA 2, [.t 38]⟩, ⟨some 40, none, .load none, [.t 39]⟩, ⟨some 41,
  none, .bin .add, [.t 35, .t 40]⟩, ⟨some 10, none, .mv, [.t 41]⟩]).seq (C.ops [⟨some 42, none, .mv, [.t 11]⟩, ⟨some 43, none, .mv, [.t 0]⟩, ⟨some 44, none, .mv, [.t 12]⟩, ⟨some 45,
  none, .idxA 6, [.t 43, .t 44]⟩, ⟨some 46, none, .fldA 3, [.t 45]⟩, ⟨some 47, none, .load none, [.t 46]⟩, ⟨some 48, none, .bin .add, [.t 42, .t 47]⟩, ⟨some 11, none, .mv, [.t
  48]⟩]))) C.skip))).seq (C.ops [⟨some 20, none, .mv, [.t 12]⟩, ⟨some 21, none, .bin .add, [.t 20, .c (.int .i64 1)]⟩, ⟨some 12, none, .mv, [.t 21]⟩]))).loop)).seq (((C.ops [⟨some
  49, none, .mv, [.t 2]⟩, ⟨some 50, none, .mv, [.t 0]⟩, ⟨some 51, none, .len, [.t 50]⟩, ⟨some 52, none, .bin .lss, [.t 49, .t 51]⟩, ⟨some 53, none, .mv, [.t 52]⟩, ⟨some 54, some (53,
  true), .mv, [.t 0]⟩, ⟨some 55, some (53, true), .mv, [.t 2]⟩, ⟨some 56, some (53, true), .idxA 6, [.t 54, .t 55]⟩, ⟨some 57, some (53, true), .fldA 0, [.t 56]⟩, ⟨some 58, some (53,
  true), .load none, [.t 57]⟩, ⟨some 59, some (53, true), .bin .eql, [.t 58, .c (.int .i64 3)]⟩, ⟨some 60, none, .pick, [.t 53, .t 59, .c (.bool false)]⟩]).seq (C.cond (.t 60) (C.ops
  [⟨some 61, none, .mv, [.t 9]⟩, ⟨some 62, none, .mv, [.t 0]⟩, ⟨some 63, none, .mv, [.t 2]⟩, ⟨some 64, none, .idxA 6, [.t 62, .t 63]⟩, ⟨some 65, none, .fldA 1, [.t 64]⟩, ⟨some 66,
  none, .load none, [.t 65]⟩, ⟨some 67, none, .bin .add, [.t 61, .t 66]⟩, ⟨some 9, none, .mv, [.t 67]⟩]) C.skip)).seq ((C.ops [⟨some 68, none, .mv, [.t 9]⟩, ⟨some 69, none, .mv, [.t
  10]⟩, ⟨some 70, none, .mv, [.t 11]⟩, ⟨some 6, none, .mv, [.t 68]⟩, ⟨some 7, none, .mv, [.t 69]⟩, ⟨some 8, none, .mv, [.t 70]⟩]).seq
  C.ret)))))
theorem fn82 : FnIs Try.prog 82 71 0 [RV.tmp 6, RV.tmp 7, RV.tmp 8] c82 := ⟨Try.f82, Try.f82.body.getD .skip, [], [77], [], by kernel_rfl, by kernel_rfl, by kernel_rfl, by kernel_rfl, by kernel_rfl, by kernel_rfl, by kernel_rfl⟩
/-- apograph/apographref48.forced -/
def c83 : C :=
  ((C.ops [⟨some 4, none, .mv, [.c (.bool false)]⟩]).seq ((C.ops [⟨some 5, none, .mv, [.t 1]⟩, ⟨some 6, none, .mv, [.t 0]⟩, ⟨some 7, none, .len, [.t 6]⟩, ⟨some 8, none, .bin .lss,
  [.t 5, .t 7]⟩, ⟨some 9, none, .mv, [.t 8]⟩, ⟨some 10, some (9, true), .mv, [.t 0]⟩, ⟨some 11, some (9, true), .mv, [.t 1]⟩, ⟨some 12, some (9, true), .idxA 6, [.t 10, .t 11]⟩,
  ⟨some 13, some (9, true), .fldA 0, [.t 12]⟩, ⟨some 14, some (9, true), .load none, [.t 13]⟩, ⟨some 15, some (9, true), .bin .eql, [.t 14, .c (.int .i64 3)]⟩, ⟨some 16, none, .pick,
  [.t 9, .t 15, .c (.bool false)]⟩, ⟨some 17, none, .mv, [.t 16]⟩, ⟨some 18, some (17, true), .mv, [.t 0]⟩, ⟨some 19, some (17, true), .mv, [.t 1]⟩, ⟨some 20, some (17, true), .idxA
  6, [.t 18, .t 19]⟩, ⟨some 21, some (17, true), .fldA 4, [.t 20]⟩, ⟨some 22, some (17, true), .load none, [.t 21]⟩, ⟨some 23, some (17, true), .bin .eql, [.t 22, .c (.int .i64
  (-10000))]⟩, ⟨some 24, none, .pick, [.t 17, .t 23, .c (.bool false)]⟩, ⟨some 4, none, .mv, [.t 24]⟩]).seq
  C.ret))
theorem fn83 : FnIs Try.prog 83 25 0 [RV.tmp 4] c83 := ⟨Try.f83, Try.f83.body.getD .skip, [], [77], [], by kernel_rfl, by kernel_rfl, by kernel_rfl, by kernel_rfl, by kernel_rfl, by kernel_rfl, by kernel_rfl⟩
/-- apograph/apographref02.Badness -/
def c84 : C :=
  ((C.ops [⟨some 4, none, .mv, [.c (.int .i64 0)]⟩]).seq (((C.ops [⟨some 12, none, .mv, [.t 0]⟩, ⟨some 13, none, .bin .eql, [.t 12, .c (.int .i64 0)]⟩]).seq (C.cond (.t 13) ((C.ops
  [⟨some 4, none, .mv, [.c (.int .i64 0)]⟩]).seq C.ret) C.skip)).seq (((C.ops [⟨some 14, none, .mv, [.t 1]⟩, ⟨some 15, none, .bin .leq, [.t 14, .c (.int .i64 0)]⟩]).seq (C.cond (.t
  15) ((C.ops [⟨some 4, none, .mv, [.c (.int .i64 10000)]⟩]).seq C.ret) C.skip)).seq ((C.ops [⟨some 16, none, .mv, [.t 0]⟩, ⟨some 17, none, .mm false, [.c (.int .i64 1073741824), .t
  16]⟩, ⟨some 18, none, .mm true, [.c (.int .i64 (-1073741824)), .t 17]⟩, ⟨some 0, none, .mv, [.t 18]⟩]).seq ((C.ops [⟨some 19, none, .mv, [.t 0]⟩, ⟨some 20, none, .mv, [.t 0]⟩,
  ⟨some 21, none, .un UnOp.neg, [.t 20]⟩, ⟨some 22, none, .mm true, [.t 19, .t 21]⟩, ⟨some 5, none, .mv, [.t 22]⟩]).seq ((C.ops [⟨some 23, none, .mv, [.t 1]⟩, ⟨some 24, none, .mm
  false, [.t 23, .c (.int .i64 1073741824)]⟩, ⟨some 6, none, .mv, [.t 24]⟩]).seq ((C.ops [⟨some 25, none, .mv, [.t 5]⟩, ⟨some 26, none, .bslc 0 1 1 3 [.int .i64 0] [(0, 1)], [.t
  25]⟩, ⟨some 27, none, .mv, [.t 5]⟩, ⟨some 28, none, .call 98 true, [.t 26, .t 27]⟩, ⟨some 29, none, .mv, [.t 5]⟩, ⟨some 30, none, .call 98 true, [.t 28, .t 29]⟩, ⟨some 31, none,
  .call 98 true, [.t 30, .c (.int .i64 100)]⟩, ⟨some 7, none, .mv, [.t 31]⟩]).seq ((C.ops [⟨some 32, none, .mv, [.t 6]⟩, ⟨some 33, none, .bslc 1 1 1 3 [.int .i64 0] [(0, 1)], [.t
  32]⟩, ⟨some 34, none, .mv, [.t 6]⟩, ⟨some 35, none, .call 98 true, [.t 33, .t 34]⟩, ⟨some 36, none, .mv, [.t 6]⟩, ⟨some 37, none, .call 98 true, [.t 35, .t 36]⟩, ⟨some 8, none,
  .mv, [.t 37]⟩]).seq ((C.ops [⟨some 9, none, .mv, [.c (.int .i64 0)]⟩, ⟨some 10, none, .mv, [.c (.int .i64 10000)]⟩]).seq ((C.block 0 (((C.ops [⟨some 38, none, .mv, [.t 9]⟩, ⟨some
  39, none, .mv, [.t 10]⟩, ⟨some 40, none, .bin .lss, [.t 38, .t 39]⟩]).seq (C.cond (.t 40) C.skip (C.exit 0))).seq (C.block 1 ((C.ops [⟨some 41, none, .mv, [.t 9]⟩, ⟨some 42, none,
  .mv, [.t 10]⟩, ⟨some 43, none, .bin .add, [.t 41, .t 42]⟩, ⟨some 44, none, .bin .add, [.t 43, .c (.int .i64 1)]⟩, ⟨some 45, none, .bin .quo, [.t 44, .c (.int .i64 2)]⟩, ⟨some 11,
  none, .mv, [.t 45]⟩]).seq ((C.ops [⟨some 46, none, .mv, [.t 8]⟩, ⟨some 47, none, .mv, [.t 11]⟩, ⟨some 48, none, .call 98 true, [.t 46, .t 47]⟩, ⟨some 49, none, .mv, [.t 7]⟩, ⟨some
  50, none, .call 99 true, [.t 48, .t 49]⟩]).seq (C.cond (.t 50) (C.ops [⟨some 51, none, .mv, [.t 11]⟩, ⟨some 9, none, .mv, [.t 51]⟩]) (C.ops [⟨some 52, none, .mv, [.t 11]⟩, ⟨some
  53, none, .bin .sub, [.t 52, .c (.int .i64 1)]⟩, ⟨some 10, none, .mv, [.t 53]⟩])))))).loop).seq ((C.ops [⟨some 54, none, .mv, [.t 9]⟩, ⟨some 4, none, .mv, [.t 54]⟩]).seq
  C.ret)))))))))))
theorem fn84 : FnIs Try.prog 84 55 2 [RV.tmp 4] c84 := ⟨Try.f84, Try.f84.body.getD .skip, [26, 33], [77], [], by kernel_rfl, by kernel_rfl, by kernel_rfl, by kernel_rfl, by kernel_rfl, by kernel_rfl, by kernel_rfl⟩
/-- apograph/fixedpoint.Badness -/
def c96 : C :=
  ((C.ops [⟨some 4, none, .mv, [.c (.int .i64 0)]⟩]).seq ((C.ops [⟨some 12, none, .mv, [.t 0]⟩, ⟨some 13, none, .conv .u64, [.t 12]⟩, ⟨some 5, none, .mv, [.t 13]⟩]).seq (((C.ops
  [⟨some 14, none, .mv, [.t 0]⟩, ⟨some 15, none, .bin .lss, [.t 14, .c (.int .i64 0)]⟩]).seq (C.cond (.t 15) (C.ops [⟨some 16, none, .mv, [.t 5]⟩, ⟨some 17, none, .un UnOp.neg, [.t
  16]⟩, ⟨some 5, none, .mv, [.t 17]⟩]) C.skip)).seq ((C.ops [⟨some 18, none, .mv, [.t 5]⟩, ⟨some 19, none, .mm false, [.t 18, .c (.int .u64 1073741824)]⟩, ⟨some 5, none, .mv, [.t
  19]⟩]).seq (((C.ops [⟨some 20, none, .mv, [.t 5]⟩, ⟨some 21, none, .bin .eql, [.t 20, .c (.int .u64 0)]⟩]).seq (C.cond (.t 21) ((C.ops [⟨some 4, none, .mv, [.c (.int .i64
  0)]⟩]).seq C.ret) C.skip)).seq (((C.ops [⟨some 22, none, .mv, [.t 1]⟩, ⟨some 23, none, .bin .leq, [.t 22, .c (.int .i64 0)]⟩]).seq (C.cond (.t 23) ((C.ops [⟨some 4, none, .mv, [.c
  (.int .i64 10000)]⟩]).seq C.ret) C.skip)).seq ((C.ops [⟨some 24, none, .mv, [.t 1]⟩, ⟨some 25, none, .mm false, [.t 24, .c (.int .i64 1073741824)]⟩, ⟨some 26, none, .conv .u64, [.t
  25]⟩, ⟨some 6, none, .mv, [.t 26]⟩]).seq ((C.ops [⟨some 27, none, .mv, [.t 6]⟩, ⟨some 28, none, .build [.int .u64 0, .int .u64 0] [(0, 1), (1, 1)], [.c (.int .u64 0), .t 27]⟩,
  ⟨some 29, none, .mv, [.t 6]⟩, ⟨some 30, none, .call 121 true, [.t 28, .t 29]⟩, ⟨some 31, none, .mv, [.t 6]⟩, ⟨some 32, none, .call 121 true, [.t 30, .t 31]⟩, ⟨some 7, none, .alloc
  0 150 [.int .u64 0, .int .u64 0], []⟩, ⟨none, none, .store 2, [.t 7, .t 32]⟩]).seq ((C.ops [⟨some 33, none, .mv, [.t 5]⟩, ⟨some 34, none, .build [.int .u64 0, .int .u64 0] [(0, 1),
  (1, 1)], [.c (.int .u64 0), .t 33]⟩, ⟨some 35, none, .mv, [.t 5]⟩, ⟨some 36, none, .call 121 true, [.t 34, .t 35]⟩, ⟨some 37, none, .mv, [.t 5]⟩, ⟨some 38, none, .call 121 true,
  [.t 36, .t 37]⟩, ⟨some 39, none, .call 121 true, [.t 38, .c (.int .u64 100)]⟩, ⟨some 8, none, .alloc 1 150 [.int .u64 0, .int .u64 0], []⟩, ⟨none, none, .store 2, [.t 8, .t
  39]⟩]).seq ((C.ops [⟨some 9, none, .mv, [.c (.int .i64 0)]⟩, ⟨some 10, none, .mv, [.c (.int .i64 10001)]⟩]).seq ((C.block 0 (((C.ops [⟨some 40, none, .mv, [.t 10]⟩, ⟨some 41, none,
  .mv, [.t 9]⟩, ⟨some 42, none, .bin .sub, [.t 40, .t 41]⟩, ⟨some 43, none, .bin .gtr, [.t 42, .c (.int .i64 1)]⟩]).seq (C.cond (.t 43) C.skip (C.exit 0))).seq (C.block 1 ((C.ops
  [⟨some 44, none, .mv, [.t 9]⟩, ⟨some 45, none, .mv, [.t 10]⟩, ⟨some 46, none, .bin .add, [.t 44, .t 45]⟩, ⟨some 47, none, .bin .quo, [.t 46, .c (.int .i64 2)]⟩, ⟨some 11, none,
  .mv, [.t 47]⟩]).seq ((C.ops [⟨some 48, none, .load (some 2), [.t 7]⟩, ⟨some 49, none, .mv, [.t 11]⟩, ⟨some 50, none, .conv .u64, [.t 49]⟩, ⟨some 51, none, .call 121 true, [.t 48,
  .t 50]⟩, ⟨some 52, none, .load (some 2), [.t 8]⟩, ⟨some 53, none, .call 122 true, [.t 51, .t 52]⟩]).seq (C.cond (.t 53) (C.ops [⟨some 54, none, .mv, [.t 11]⟩, ⟨some 10, none, .mv,
  [.t 54]⟩]) (C.ops [⟨some 55, none, .mv, [.t 11]⟩, ⟨some 9, none, .mv, [.t 55]⟩])))))).loop).seq ((C.ops [⟨some 56, none, .mv, [.t 9]⟩, ⟨some 4, none, .mv, [.t 56]⟩]).seq
  C.ret))))))))))))
theorem fn96 : FnIs Try.prog 96 57 2 [RV.tmp 4] c96 := ⟨Try.f96, Try.f96.body.getD .skip, [7, 8], [77], [], by kernel_rfl, by kernel_rfl, by kernel_rfl, by kernel_rfl, by kernel_rfl, by kernel_rfl, by kernel_rfl⟩
/-- apograph/apographref02.times -/
def c98 : C :=
  ((C.ops [⟨some 4, none, .nilo 0 1 3, []⟩]).seq ((C.ops [⟨some 9, none, .bslc 1 1 0 3 [.int .i64 0] [], []⟩, ⟨some 5, none, .mv, [.t 9]⟩]).seq ((C.ops [⟨some 6, none, .mv, [.c (.int
  .i64 0)]⟩]).seq (((C.ops [⟨some 7, none, .mv, [.c (.int .i64 0)]⟩]).seq (C.block 0 (((C.ops [⟨some 10, none, .mv, [.t 7]⟩, ⟨some 11, none, .mv, [.t 0]⟩, ⟨some 12, none, .len, [.t
  11]⟩, ⟨some 13, none, .bin .lss, [.t 10, .t 12]⟩]).seq (C.cond (.t 13) C.skip (C.exit 0))).seq ((C.block 1 ((C.ops [⟨some 16, none, .mv, [.t 0]⟩, ⟨some 17, none, .mv, [.t 7]⟩,
  ⟨some 18, none, .idxA 1, [.t 16, .t 17]⟩, ⟨some 19, none, .load none, [.t 18]⟩, ⟨some 20, none, .mv, [.t 1]⟩, ⟨some 21, none, .bin .mul, [.t 19, .t 20]⟩, ⟨some 22, none, .mv, [.t
  6]⟩, ⟨some 23, none, .bin .add, [.t 21, .t 22]⟩, ⟨some 8, none, .mv, [.t 23]⟩]).seq ((C.ops [⟨some 24, none, .mv, [.t 5]⟩, ⟨some 25, none, .mv, [.t 8]⟩, ⟨some 26, none, .bin .rem,
  [.t 25, .c (.int .i64 1073741824)]⟩, ⟨some 27, none, .bslc 2 1 1 3 [.int .i64 0] [(0, 1)], [.t 26]⟩, ⟨some 28, none, .app 3 1 3 8, [.t 24, .t 27]⟩, ⟨some 5, none, .mv, [.t
  28]⟩]).seq (C.ops [⟨some 29, none, .mv, [.t 8]⟩, ⟨some 30, none, .bin .quo, [.t 29, .c (.int .i64 1073741824)]⟩, ⟨some 6, none, .mv, [.t 30]⟩])))).seq (C.ops [⟨some 14, none, .mv,
  [.t 7]⟩, ⟨some 15, none, .bin .add, [.t 14, .c (.int .i64 1)]⟩, ⟨some 7, none, .mv, [.t 15]⟩]))).loop)).seq ((C.ops [⟨some 31, none, .mv, [.t 5]⟩, ⟨some 32, none, .mv, [.t 6]⟩,
  ⟨some 33, none, .bslc 4 1 1 3 [.int .i64 0] [(0, 1)], [.t 32]⟩, ⟨some 34, none, .app 5 1 3 8, [.t 31, .t 33]⟩, ⟨some 4, none, .mv, [.t 34]⟩]).seq
  C.ret)))))
theorem fn98 : FnIs Try.prog 98 35 6 [RV.tmp 4] c98 := ⟨Try.f98, Try.f98.body.getD .skip, [4, 9, 27, 28, 33, 34], [77], [], by kernel_rfl, by kernel_rfl, by kernel_rfl, by kernel_rfl, by kernel_rfl, by kernel_rfl, by kernel_rfl⟩
/-- apograph/apographref02.most -/
def c99 : C :=
  ((C.ops [⟨some 4, none, .mv, [.c (.bool false)]⟩]).seq (((C.ops [⟨some 8, none, .mv, [.t 0]⟩, ⟨some 9, none, .len, [.t 8]⟩, ⟨some 10, none, .mv, [.t 1]⟩, ⟨some 11, none, .len, [.t
  10]⟩, ⟨some 12, none, .mm true, [.t 9, .t 11]⟩, ⟨some 13, none, .bin .sub, [.t 12, .c (.int .i64 1)]⟩, ⟨some 5, none, .mv, [.t 13]⟩]).seq (C.block 0 (((C.ops [⟨some 14, none, .mv,
  [.t 5]⟩, ⟨some 15, none, .bin .geq, [.t 14, .c (.int .i64 0)]⟩]).seq (C.cond (.t 15) C.skip (C.exit 0))).seq ((C.block 1 ((C.ops [⟨some 6, none, .mv, [.c (.int .i64 0)]⟩, ⟨some 7,
  none, .mv, [.c (.int .i64 0)]⟩]).seq (((C.ops [⟨some 18, none, .mv, [.t 5]⟩, ⟨some 19, none, .mv, [.t 0]⟩, ⟨some 20, none, .len, [.t 19]⟩, ⟨some 21, none, .bin .lss, [.t 18, .t
  20]⟩]).seq (C.cond (.t 21) (C.ops [⟨some 22, none, .mv, [.t 0]⟩, ⟨some 23, none, .mv, [.t 5]⟩, ⟨some 24, none, .idxA 1, [.t 22, .t 23]⟩, ⟨some 25, none, .load none, [.t 24]⟩, ⟨some
  6, none, .mv, [.t 25]⟩]) C.skip)).seq (((C.ops [⟨some 26, none, .mv, [.t 5]⟩, ⟨some 27, none, .mv, [.t 1]⟩, ⟨some 28, none, .len, [.t 27]⟩, ⟨some 29, none, .bin .lss, [.t 26, .t
  28]⟩]).seq (C.cond (.t 29) (C.ops [⟨some 30, none, .mv, [.t 1]⟩, ⟨some 31, none, .mv, [.t 5]⟩, ⟨some 32, none, .idxA 1, [.t 30, .t 31]⟩, ⟨some 33, none, .load none, [.t 32]⟩, ⟨some
  7, none, .mv, [.t 33]⟩]) C.skip)).seq ((C.ops [⟨some 34, none, .mv, [.t 6]⟩, ⟨some 35, none, .mv, [.t 7]⟩, ⟨some 36, none, .bin .neq, [.t 34, .t 35]⟩]).seq (C.cond (.t 36) ((C.ops
  [⟨some 37, none, .mv, [.t 6]⟩, ⟨some 38, none, .mv, [.t 7]⟩, ⟨some 39, none, .bin .lss, [.t 37, .t 38]⟩, ⟨some 4, none, .mv, [.t 39]⟩]).seq C.ret) C.skip)))))).seq (C.ops [⟨some
  16, none, .mv, [.t 5]⟩, ⟨some 17, none, .bin .sub, [.t 16, .c (.int .i64 1)]⟩, ⟨some 5, none, .mv, [.t 17]⟩]))).loop)).seq ((C.ops [⟨some 4, none, .mv, [.c (.bool true)]⟩]).seq
  C.ret)))
theorem fn99 : FnIs Try.prog 99 40 0 [RV.tmp 4] c99 := ⟨Try.f99, Try.f99.body.getD .skip, [], [77], [], by kernel_rfl, by kernel_rfl, by kernel_rfl, by kernel_rfl, by kernel_rfl, by kernel_rfl, by kernel_rfl⟩
/-- (apograph/fixedpoint.wide).times -/
def c121 : C :=
  ((C.ops [⟨some 2, none, .box 0 150, [.t 0]⟩, ⟨some 4, none, .alloc 1 150 [.int .u64 0, .int .u64 0], []⟩]).seq ((C.ops [⟨some 8, none, .fldA 1, [.t 2]⟩, ⟨some 9, none, .load none,
  [.t 8]⟩, ⟨some 10, none, .mv, [.t 1]⟩, ⟨some 11, none, .call 133 true, [.t 9, .t 10]⟩, ⟨some 7, none, .mv, [.t 11]⟩, ⟨some 12, none, .ext 0, [.t 7]⟩, ⟨some 13, none, .ext 1, [.t
  7]⟩, ⟨some 5, none, .mv, [.t 12]⟩, ⟨some 6, none, .mv, [.t 13]⟩]).seq ((C.ops [⟨some 14, none, .mv, [.t 5]⟩, ⟨some 15, none, .fldA 0, [.t 2]⟩, ⟨some 16, none, .load none, [.t 15]⟩,
  ⟨some 17, none, .mv, [.t 1]⟩, ⟨some 18, none, .bin .mul, [.t 16, .t 17]⟩, ⟨some 19, none, .bin .add, [.t 14, .t 18]⟩, ⟨some 20, none, .mv, [.t 6]⟩, ⟨some 21, none, .build [.int
  .u64 0, .int .u64 0] [(0, 1), (1, 1)], [.t 19, .t 20]⟩, ⟨none, none, .store 2, [.t 4, .t 21]⟩]).seq
  C.ret)))
theorem fn121 : FnIs Try.prog 121 22 2 [RV.cell 4 (some 2)] c121 := ⟨Try.f121, Try.f121.body.getD .skip, [2, 4], [77], [], by kernel_rfl, by kernel_rfl, by kernel_rfl, by kernel_rfl, by kernel_rfl, by kernel_rfl, by kernel_rfl⟩
/-- (apograph/fixedpoint.wide).above -/
def c122 : C :=
  ((C.ops [⟨some 2, none, .box 0 150, [.t 0]⟩, ⟨some 3, none, .box 1 150, [.t 1]⟩, ⟨some 4, none, .mv, [.c (.bool false)]⟩]).seq (((C.ops [⟨some 5, none, .fldA 0, [.t 2]⟩, ⟨some 6,
  none, .load none, [.t 5]⟩, ⟨some 7, none, .fldA 0, [.t 3]⟩, ⟨some 8, none, .load none, [.t 7]⟩, ⟨some 9, none, .bin .neq, [.t 6, .t 8]⟩]).seq (C.cond (.t 9) ((C.ops [⟨some 10,
  none, .fldA 0, [.t 2]⟩, ⟨some 11, none, .load none, [.t 10]⟩, ⟨some 12, none, .fldA 0, [.t 3]⟩, ⟨some 13, none, .load none, [.t 12]⟩, ⟨some 14, none, .bin .gtr, [.t 11, .t 13]⟩,
  ⟨some 4, none, .mv, [.t 14]⟩]).seq C.ret) C.skip)).seq ((C.ops [⟨some 15, none, .load (some 2), [.t 2]⟩, ⟨some 16, none, .load (some 2), [.t 3]⟩, ⟨some 17, none, .aeq [.int, .int]
  true, [.t 15, .t 16]⟩, ⟨some 18, none, .mv, [.t 17]⟩, ⟨some 19, some (18, true), .fldA 1, [.t 2]⟩, ⟨some 20, some (18, true), .load none, [.t 19]⟩, ⟨some 21, some (18, true), .fldA
  1, [.t 3]⟩, ⟨some 22, some (18, true), .load none, [.t 21]⟩, ⟨some 23, some (18, true), .bin .gtr, [.t 20, .t 22]⟩, ⟨some 24, none, .pick, [.t 18, .t 23, .c (.bool false)]⟩, ⟨some
  4, none, .mv, [.t 24]⟩]).seq
  C.ret)))
theorem fn122 : FnIs Try.prog 122 25 2 [RV.tmp 4] c122 := ⟨Try.f122, Try.f122.body.getD .skip, [2, 3], [77], [], by kernel_rfl, by kernel_rfl, by kernel_rfl, by kernel_rfl, by kernel_rfl, by kernel_rfl, by kernel_rfl⟩
/-- math/bits.Mul64 -/
def c133 : C :=
  ((C.ops [⟨some 4, none, .mv, [.c (.int .u64 0)]⟩, ⟨some 5, none, .mv, [.c (.int .u64 0)]⟩]).seq ((C.ops [⟨some 14, none, .mv, [.t 0]⟩, ⟨some 15, none, .bin .and, [.t 14, .c (.int
  .u64 4294967295)]⟩, ⟨some 6, none, .mv, [.t 15]⟩]).seq ((C.ops [⟨some 16, none, .mv, [.t 0]⟩, ⟨some 17, none, .bin .shr, [.t 16, .c (.int .u64 32)]⟩, ⟨some 7, none, .mv, [.t
  17]⟩]).seq ((C.ops [⟨some 18, none, .mv, [.t 1]⟩, ⟨some 19, none, .bin .and, [.t 18, .c (.int .u64 4294967295)]⟩, ⟨some 8, none, .mv, [.t 19]⟩]).seq ((C.ops [⟨some 20, none, .mv,
  [.t 1]⟩, ⟨some 21, none, .bin .shr, [.t 20, .c (.int .u64 32)]⟩, ⟨some 9, none, .mv, [.t 21]⟩]).seq ((C.ops [⟨some 22, none, .mv, [.t 6]⟩, ⟨some 23, none, .mv, [.t 8]⟩, ⟨some 24,
  none, .bin .mul, [.t 22, .t 23]⟩, ⟨some 10, none, .mv, [.t 24]⟩]).seq ((C.ops [⟨some 25, none, .mv, [.t 7]⟩, ⟨some 26, none, .mv, [.t 8]⟩, ⟨some 27, none, .bin .mul, [.t 25, .t
  26]⟩, ⟨some 28, none, .mv, [.t 10]⟩, ⟨some 29, none, .bin .shr, [.t 28, .c (.int .u64 32)]⟩, ⟨some 30, none, .bin .add, [.t 27, .t 29]⟩, ⟨some 11, none, .mv, [.t 30]⟩]).seq ((C.ops
  [⟨some 31, none, .mv, [.t 11]⟩, ⟨some 32, none, .bin .and, [.t 31, .c (.int .u64 4294967295)]⟩, ⟨some 12, none, .mv, [.t 32]⟩]).seq ((C.ops [⟨some 33, none, .mv, [.t 11]⟩, ⟨some
  34, none, .bin .shr, [.t 33, .c (.int .u64 32)]⟩, ⟨some 13, none, .mv, [.t 34]⟩]).seq ((C.ops [⟨some 35, none, .mv, [.t 12]⟩, ⟨some 36, none, .mv, [.t 6]⟩, ⟨some 37, none, .mv, [.t
  9]⟩, ⟨some 38, none, .bin .mul, [.t 36, .t 37]⟩, ⟨some 39, none, .bin .add, [.t 35, .t 38]⟩, ⟨some 12, none, .mv, [.t 39]⟩]).seq ((C.ops [⟨some 40, none, .mv, [.t 7]⟩, ⟨some 41,
  none, .mv, [.t 9]⟩, ⟨some 42, none, .bin .mul, [.t 40, .t 41]⟩, ⟨some 43, none, .mv, [.t 13]⟩, ⟨some 44, none, .bin .add, [.t 42, .t 43]⟩, ⟨some 45, none, .mv, [.t 12]⟩, ⟨some 46,
  none, .bin .shr, [.t 45, .c (.int .u64 32)]⟩, ⟨some 47, none, .bin .add, [.t 44, .t 46]⟩, ⟨some 4, none, .mv, [.t 47]⟩]).seq ((C.ops [⟨some 48, none, .mv, [.t 0]⟩, ⟨some 49, none,
  .mv, [.t 1]⟩, ⟨some 50, none, .bin .mul, [.t 48, .t 49]⟩, ⟨some 5, none, .mv, [.t 50]⟩]).seq
  C.ret))))))))))))
theorem fn133 : FnIs Try.prog 133 51 0 [RV.tmp 4, RV.tmp 5] c133 := ⟨Try.f133, Try.f133.body.getD .skip, [], [77], [], by kernel_rfl, by kernel_rfl, by kernel_rfl, by kernel_rfl, by kernel_rfl, by kernel_rfl, by kernel_rfl⟩
end

section
/-! the text PgCode2 -/
open Go Go.Proofs AF
set_option maxRecDepth 100000
/-- apograph/paragraph.Check -/
def c35 : C :=
  ((C.ops [⟨some 2, none, .mv, [.c (.int .i64 0)]⟩]).seq (((C.ops [⟨some 7, none, .mv, [.t 0]⟩, ⟨some 8, none, .len, [.t 7]⟩, ⟨some 9, none, .bin .gtr, [.t 8, .c (.int .i64
  4096)]⟩]).seq (C.cond (.t 9) ((C.ops [⟨some 2, none, .mv, [.c (.int .i64 4)]⟩]).seq C.ret) C.skip)).seq ((C.ops [⟨some 3, none, .mv, [.c (.int .i64 0)]⟩]).seq (((C.ops [⟨some 10,
  none, .mv, [.t 0]⟩, ⟨some 11, none, .len, [.t 10]⟩, ⟨some 12, none, .mv, [.c (.int .i64 0)]⟩]).seq (C.block 0 ((C.ops [⟨some 13, none, .bin .lss, [.t 12, .t 11]⟩]).seq ((C.cond (.t
  13) C.skip (C.exit 0)).seq ((C.block 1 ((C.ops [⟨some 14, none, .idxA 6, [.t 10, .t 12]⟩, ⟨some 15, none, .load (some 6), [.t 14]⟩, ⟨some 5, none, .alloc 0 28 [.int .i64 0, .int
  .i64 0, .int .i64 0, .int .i64 0, .int .i64 0, .str []], []⟩, ⟨none, none, .store 6, [.t 5, .t 15]⟩]).seq (((C.ops [⟨some 16, none, .load (some 6), [.t 5]⟩, ⟨some 17, none, .call
  72 true, [.t 16]⟩, ⟨some 6, none, .mv, [.t 17]⟩]).seq ((C.ops [⟨some 18, none, .mv, [.t 6]⟩, ⟨some 19, none, .bin .neq, [.t 18, .c (.int .i64 0)]⟩]).seq (C.cond (.t 19) ((C.ops
  [⟨some 20, none, .mv, [.t 6]⟩, ⟨some 2, none, .mv, [.t 20]⟩]).seq C.ret) C.skip))).seq (C.ops [⟨some 21, none, .mv, [.t 3]⟩, ⟨some 22, none, .fldA 1, [.t 5]⟩, ⟨some 23, none, .load
  none, [.t 22]⟩, ⟨some 24, none, .fldA 2, [.t 5]⟩, ⟨some 25, none, .load none, [.t 24]⟩, ⟨some 26, none, .bin .add, [.t 23, .t 25]⟩, ⟨some 27, none, .fldA 3, [.t 5]⟩, ⟨some 28,
  none, .load none, [.t 27]⟩, ⟨some 29, none, .bin .add, [.t 26, .t 28]⟩, ⟨some 30, none, .bin .add, [.t 21, .t 29]⟩, ⟨some 3, none, .mv, [.t 30]⟩])))).seq (C.ops [⟨some 31, none,
  .bin .add, [.t 12, .c (.int .i64 1)]⟩, ⟨some 12, none, .mv, [.t 31]⟩])))).loop)).seq (((C.ops [⟨some 32, none, .mv, [.t 3]⟩, ⟨some 33, none, .bin .gtr, [.t 32, .c (.int .i64
  1073741824)]⟩]).seq (C.cond (.t 33) ((C.ops [⟨some 2, none, .mv, [.c (.int .i64 4)]⟩]).seq C.ret) C.skip)).seq ((C.ops [⟨some 2, none, .mv, [.c (.int .i64 0)]⟩]).seq
  C.ret))))))
theorem fn35 : FnIs Try.prog 35 34 1 [RV.tmp 2] c35 := ⟨Try.f35, Try.f35.body.getD .skip, [5], [77, 78, 79, 80, 97], [], by kernel_rfl, by kernel_rfl, by kernel_rfl, by kernel_rfl, by kernel_rfl, by kernel_rfl, by kernel_rfl⟩
/-- apograph/apographref48.Check -/
def c36 : C :=
  ((C.ops [⟨some 2, none, .mv, [.c (.int .i64 0)]⟩]).seq (((C.ops [⟨some 7, none, .mv, [.t 0]⟩, ⟨some 8, none, .len, [.t 7]⟩, ⟨some 9, none, .bin .gtr, [.t 8, .c (.int .i64
  4096)]⟩]).seq (C.cond (.t 9) ((C.ops [⟨some 2, none, .mv, [.c (.int .i64 4)]⟩]).seq C.ret) C.skip)).seq (((C.ops [⟨some 3, none, .mv, [.c (.int .i64 0)]⟩]).seq (C.block 0 (((C.ops
  [⟨some 10, none, .mv, [.t 3]⟩, ⟨some 11, none, .mv, [.t 0]⟩, ⟨some 12, none, .len, [.t 11]⟩, ⟨some 13, none, .bin .lss, [.t 10, .t 12]⟩]).seq (C.cond (.t 13) C.skip (C.exit
  0))).seq ((C.block 1 ((C.ops [⟨some 16, none, .mv, [.t 0]⟩, ⟨some 17, none, .mv, [.t 3]⟩, ⟨some 18, none, .idxA 6, [.t 16, .t 17]⟩, ⟨some 19, none, .load (some 6), [.t 18]⟩, ⟨some
  20, none, .call 73 true, [.t 19]⟩, ⟨some 4, none, .mv, [.t 20]⟩]).seq ((C.ops [⟨some 21, none, .mv, [.t 4]⟩, ⟨some 22, none, .bin .neq, [.t 21, .c (.int .i64 0)]⟩]).seq (C.cond (.t
  22) ((C.ops [⟨some 23, none, .mv, [.t 4]⟩, ⟨some 2, none, .mv, [.t 23]⟩]).seq C.ret) C.skip)))).seq (C.ops [⟨some 14, none, .mv, [.t 3]⟩, ⟨some 15, none, .bin .add, [.t 14, .c
  (.int .i64 1)]⟩, ⟨some 3, none, .mv, [.t 15]⟩]))).loop)).seq ((C.ops [⟨some 5, none, .mv, [.c (.int .i64 0)]⟩]).seq (((C.ops [⟨some 6, none, .mv, [.c (.int .i64 0)]⟩]).seq (C.block
  2 (((C.ops [⟨some 24, none, .mv, [.t 6]⟩, ⟨some 25, none, .mv, [.t 0]⟩, ⟨some 26, none, .len, [.t 25]⟩, ⟨some 27, none, .bin .lss, [.t 24, .t 26]⟩]).seq (C.cond (.t 27) C.skip
  (C.exit 2))).seq ((C.block 3 ((C.ops [⟨some 30, none, .mv, [.t 5]⟩, ⟨some 31, none, .mv, [.t 0]⟩, ⟨some 32, none, .mv, [.t 6]⟩, ⟨some 33, none, .idxA 6, [.t 31, .t 32]⟩, ⟨some 34,
  none, .fldA 1, [.t 33]⟩, ⟨some 35, none, .load none, [.t 34]⟩, ⟨some 36, none, .bin .add, [.t 30, .t 35]⟩, ⟨some 37, none, .mv, [.t 0]⟩, ⟨some 38, none, .mv, [.t 6]⟩, ⟨some 39,
  none, .idxA 6, [.t 37, .t 38]⟩, ⟨some 40, none, .fldA 2, [.t 39]⟩, ⟨some 41, none, .load none, [.t 40]⟩, ⟨some 42, none, .bin .add, [.t 36, .t 41]⟩, ⟨some 43, none, .mv, [.t 0]⟩,
  ⟨some 44, none, .mv, [.t 6]⟩, ⟨some 45, none, .idxA 6, [.t 43, .t 44]⟩, ⟨some 46, none, .fldA 3, [.t 45]⟩, ⟨some 47, none, .load none, [.t 46]⟩, ⟨some 48, none, .bin .add, [.t 42,
  .t 47]⟩, ⟨some 5, none, .mv, [.t 48]⟩]).seq ((C.ops [⟨some 49, none, .mv, [.t 5]⟩, ⟨some 50, none, .bin .gtr, [.t 49, .c (.int .i64 1073741824)]⟩]).seq (C.cond (.t 50) ((C.ops
  [⟨some 2, none, .mv, [.c (.int .i64 4)]⟩]).seq C.ret) C.skip)))).seq (C.ops [⟨some 28, none, .mv, [.t 6]⟩, ⟨some 29, none, .bin .add, [.t 28, .c (.int .i64 1)]⟩, ⟨some 6, none,
  .mv, [.t 29]⟩]))).loop)).seq ((C.ops [⟨some 2, none, .mv, [.c (.int .i64 0)]⟩]).seq
  C.ret))))))
theorem fn36 : FnIs Try.prog 36 51 0 [RV.tmp 2] c36 := ⟨Try.f36, Try.f36.body.getD .skip, [], [77, 78, 79, 80, 97], [], by kernel_rfl, by kernel_rfl, by kernel_rfl, by kernel_rfl, by kernel_rfl, by kernel_rfl, by kernel_rfl⟩
/-- apograph/apographlaw48.three -/
def c37 : C :=
  ((C.ops [⟨some 0, none, .nilo 0 6 28, []⟩]).seq ((C.ops [⟨some 3, none, .build [.int .i64 0, .int .i64 0, .int .i64 0, .int .i64 0, .int .i64 0, .str []] [(0, 1), (1, 1), (5, 1)],
  [.c (.int .i64 1), .c (.int .i64 30), .c (.str [97, 98, 99])]⟩, ⟨some 4, none, .build [.int .i64 0, .int .i64 0, .int .i64 0, .int .i64 0, .int .i64 0, .str []] [(0, 1), (1, 1),
  (2, 1), (3, 1)], [.c (.int .i64 2), .c (.int .i64 10), .c (.int .i64 5), .c (.int .i64 3)]⟩, ⟨some 1, none, .alloc 1 28 [.int .i64 0, .int .i64 0, .int .i64 0, .int .i64 0, .int
  .i64 0, .str []], []⟩, ⟨some 2, none, .alloc 2 28 [.int .i64 0, .int .i64 0, .int .i64 0, .int .i64 0, .int .i64 0, .str []], []⟩, ⟨none, none, .store 6, [.t 1, .t 3]⟩, ⟨none,
  none, .store 6, [.t 2, .t 4]⟩]).seq ((C.ops [⟨some 5, none, .load (some 6), [.t 1]⟩, ⟨some 6, none, .load (some 6), [.t 2]⟩, ⟨some 7, none, .load (some 6), [.t 1]⟩, ⟨some 8, none,
  .load (some 6), [.t 2]⟩, ⟨some 9, none, .load (some 6), [.t 1]⟩, ⟨some 10, none, .bslc 3 6 5 28 [.int .i64 0, .int .i64 0, .int .i64 0, .int .i64 0, .int .i64 0, .str []] [(0, 6),
  (6, 6), (12, 6), (18, 6), (24, 6)], [.t 5, .t 6, .t 7, .t 8, .t 9]⟩, ⟨some 0, none, .mv, [.t 10]⟩]).seq
  C.ret)))
theorem fn37 : FnIs Try.prog 37 11 4 [RV.tmp 0] c37 := ⟨Try.f37, Try.f37.body.getD .skip, [0, 1, 2, 10], [77, 78, 79, 80, 97], [], by kernel_rfl, by kernel_rfl, by kernel_rfl, by kernel_rfl, by kernel_rfl, by kernel_rfl, by kernel_rfl⟩
/-- apograph/paragraph.check -/
def c38 : C :=
  ((C.ops [⟨some 4, none, .mv, [.c (.int .i64 0)]⟩]).seq ((C.block 0 ((C.ops [⟨some 6, none, .mv, [.t 0]⟩, ⟨some 7, none, .call 35 true, [.t 6]⟩, ⟨some 8, none, .bin .neq, [.t 7, .c
  (.int .i64 0)]⟩, ⟨some 5, none, .mv, [.t 8]⟩]).seq (C.cond (.t 5) ((C.ops [⟨some 4, none, .mv, [.c (.int .i64 1)]⟩]).seq C.ret) ((C.ops [⟨some 10, none, .mv, [.t 1]⟩, ⟨some 11,
  none, .call 63 true, [.t 10]⟩, ⟨some 12, none, .un UnOp.not, [.t 11]⟩, ⟨some 9, none, .mv, [.t 12]⟩]).seq (C.cond (.t 9) ((C.ops [⟨some 4, none, .mv, [.c (.int .i64 2)]⟩]).seq
  C.ret) C.skip))))).seq ((C.ops [⟨some 4, none, .mv, [.c (.int .i64 0)]⟩]).seq
  C.ret)))
theorem fn38 : FnIs Try.prog 38 13 0 [RV.tmp 4] c38 := ⟨Try.f38, Try.f38.body.getD .skip, [], [77, 78, 79, 80, 97], [], by kernel_rfl, by kernel_rfl, by kernel_rfl, by kernel_rfl, by kernel_rfl, by kernel_rfl, by kernel_rfl⟩
/-- apograph/paragraph.length -/
def c63 : C :=
  ((C.ops [⟨some 2, none, .mv, [.c (.bool false)]⟩]).seq ((C.ops [⟨some 3, none, .mv, [.t 0]⟩, ⟨some 4, none, .bin .geq, [.t 3, .c (.int .i64 0)]⟩, ⟨some 5, none, .mv, [.t 4]⟩, ⟨some
  6, some (5, true), .mv, [.t 0]⟩, ⟨some 7, some (5, true), .bin .leq, [.t 6, .c (.int .i64 1073741824)]⟩, ⟨some 8, none, .pick, [.t 5, .t 7, .c (.bool false)]⟩, ⟨some 2, none, .mv,
  [.t 8]⟩]).seq
  C.ret))
theorem fn63 : FnIs Try.prog 63 9 0 [RV.tmp 2] c63 := ⟨Try.f63, Try.f63.body.getD .skip, [], [77, 78, 79, 80, 97], [], by kernel_rfl, by kernel_rfl, by kernel_rfl, by kernel_rfl, by kernel_rfl, by kernel_rfl, by kernel_rfl⟩
/-- apograph/apographref48.within -/
def c68 : C :=
  ((C.ops [⟨some 2, none, .mv, [.c (.bool false)]⟩]).seq ((C.ops [⟨some 3, none, .mv, [.t 0]⟩, ⟨some 4, none, .bin .geq, [.t 3, .c (.int .i64 0)]⟩, ⟨some 5, none, .mv, [.t 4]⟩, ⟨some
  6, some (5, true), .mv, [.t 0]⟩, ⟨some 7, some (5, true), .bin .leq, [.t 6, .c (.int .i64 1073741824)]⟩, ⟨some 8, none, .pick, [.t 5, .t 7, .c (.bool false)]⟩, ⟨some 2, none, .mv,
  [.t 8]⟩]).seq
  C.ret))
theorem fn68 : FnIs Try.prog 68 9 0 [RV.tmp 2] c68 := ⟨Try.f68, Try.f68.body.getD .skip, [], [77, 78, 79, 80, 97], [], by kernel_rfl, by kernel_rfl, by kernel_rfl, by kernel_rfl, by kernel_rfl, by kernel_rfl, by kernel_rfl⟩
/-- apograph/paragraph.checkItem -/
def c72 : C :=
  ((C.ops [⟨some 1, none, .box 0 28, [.t 0]⟩, ⟨some 2, none, .mv, [.c (.int .i64 0)]⟩]).seq ((C.block 0 ((C.ops [⟨some 4, none, .fldA 0, [.t 1]⟩, ⟨some 5, none, .load none, [.t 4]⟩,
  ⟨some 6, none, .bin .lss, [.t 5, .c (.int .i64 1)]⟩, ⟨some 7, none, .mv, [.t 6]⟩, ⟨some 8, some (7, false), .fldA 0, [.t 1]⟩, ⟨some 9, some (7, false), .load none, [.t 8]⟩, ⟨some
  10, some (7, false), .bin .gtr, [.t 9, .c (.int .i64 3)]⟩, ⟨some 11, none, .pick, [.t 7, .c (.bool true), .t 10]⟩, ⟨some 3, none, .mv, [.t 11]⟩]).seq (C.cond (.t 3) ((C.ops [⟨some
  2, none, .mv, [.c (.int .i64 8)]⟩]).seq C.ret) ((C.ops [⟨some 13, none, .fldA 1, [.t 1]⟩, ⟨some 14, none, .load none, [.t 13]⟩, ⟨some 15, none, .call 63 true, [.t 14]⟩, ⟨some 16,
  none, .un UnOp.not, [.t 15]⟩, ⟨some 17, none, .mv, [.t 16]⟩, ⟨some 18, some (17, false), .fldA 2, [.t 1]⟩, ⟨some 19, some (17, false), .load none, [.t 18]⟩, ⟨some 20, some (17,
  false), .call 63 true, [.t 19]⟩, ⟨some 21, some (17, false), .un UnOp.not, [.t 20]⟩, ⟨some 22, none, .pick, [.t 17, .c (.bool true), .t 21]⟩, ⟨some 23, none, .mv, [.t 22]⟩, ⟨some
  24, some (23, false), .fldA 3, [.t 1]⟩, ⟨some 25, some (23, false), .load none, [.t 24]⟩, ⟨some 26, some (23, false), .call 63 true, [.t 25]⟩, ⟨some 27, some (23, false), .un
  UnOp.not, [.t 26]⟩, ⟨some 28, none, .pick, [.t 23, .c (.bool true), .t 27]⟩, ⟨some 12, none, .mv, [.t 28]⟩]).seq (C.cond (.t 12) ((C.ops [⟨some 2, none, .mv, [.c (.int .i64
  2)]⟩]).seq C.ret) ((C.ops [⟨some 30, none, .fldA 4, [.t 1]⟩, ⟨some 31, none, .load none, [.t 30]⟩, ⟨some 32, none, .bin .neq, [.t 31, .c (.int .i64 (-10000))]⟩, ⟨some 33, none,
  .mv, [.t 32]⟩, ⟨some 34, some (33, true), .fldA 4, [.t 1]⟩, ⟨some 35, some (33, true), .load none, [.t 34]⟩, ⟨some 36, some (33, true), .bin .lss, [.t 35, .c (.int .i64 0)]⟩, ⟨some
  37, some (33, true), .mv, [.t 36]⟩, ⟨some 38, some (37, false), .fldA 4, [.t 1]⟩, ⟨some 39, some (37, false), .load none, [.t 38]⟩, ⟨some 40, some (37, false), .bin .gtr, [.t 39,
  .c (.int .i64 10000)]⟩, ⟨some 41, some (33, true), .pick, [.t 37, .c (.bool true), .t 40]⟩, ⟨some 42, none, .pick, [.t 33, .t 41, .c (.bool false)]⟩, ⟨some 29, none, .mv, [.t
  42]⟩]).seq (C.cond (.t 29) ((C.ops [⟨some 2, none, .mv, [.c (.int .i64 2)]⟩]).seq C.ret) C.skip))))))).seq (((C.ops [⟨some 43, none, .fldA 0, [.t 1]⟩, ⟨some 44, none, .load none,
  [.t 43]⟩, ⟨some 45, none, .bin .neq, [.t 44, .c (.int .i64 2)]⟩, ⟨some 46, none, .mv, [.t 45]⟩, ⟨some 47, some (46, true), .fldA 2, [.t 1]⟩, ⟨some 48, some (46, true), .load none,
  [.t 47]⟩, ⟨some 49, some (46, true), .bin .neq, [.t 48, .c (.int .i64 0)]⟩, ⟨some 50, some (46, true), .mv, [.t 49]⟩, ⟨some 51, some (50, false), .fldA 3, [.t 1]⟩, ⟨some 52, some
  (50, false), .load none, [.t 51]⟩, ⟨some 53, some (50, false), .bin .neq, [.t 52, .c (.int .i64 0)]⟩, ⟨some 54, some (46, true), .pick, [.t 50, .c (.bool true), .t 53]⟩, ⟨some 55,
  none, .pick, [.t 46, .t 54, .c (.bool false)]⟩, ⟨some 56, none, .mv, [.t 55]⟩, ⟨some 57, some (56, false), .fldA 0, [.t 1]⟩, ⟨some 58, some (56, false), .load none, [.t 57]⟩, ⟨some
  59, some (56, false), .bin .neq, [.t 58, .c (.int .i64 3)]⟩, ⟨some 60, some (56, false), .mv, [.t 59]⟩, ⟨some 61, some (60, true), .fldA 4, [.t 1]⟩, ⟨some 62, some (60, true),
  .load none, [.t 61]⟩, ⟨some 63, some (60, true), .bin .neq, [.t 62, .c (.int .i64 0)]⟩, ⟨some 64, some (56, false), .pick, [.t 60, .t 63, .c (.bool false)]⟩, ⟨some 65, none, .pick,
  [.t 56, .c (.bool true), .t 64]⟩, ⟨some 66, none, .mv, [.t 65]⟩, ⟨some 67, some (66, false), .fldA 0, [.t 1]⟩, ⟨some 68, some (66, false), .load none, [.t 67]⟩, ⟨some 69, some (66,
  false), .bin .eql, [.t 68, .c (.int .i64 2)]⟩, ⟨some 70, some (66, false), .mv, [.t 69]⟩, ⟨some 71, some (70, true), .fldA 5, [.t 1]⟩, ⟨some 72, some (70, true), .load none, [.t
  71]⟩, ⟨some 73, some (70, true), .bin .neq, [.t 72, .c (.str [])]⟩, ⟨some 74, some (66, false), .pick, [.t 70, .t 73, .c (.bool false)]⟩, ⟨some 75, none, .pick, [.t 66, .c (.bool
  true), .t 74]⟩]).seq (C.cond (.t 75) ((C.ops [⟨some 2, none, .mv, [.c (.int .i64 1)]⟩]).seq C.ret) C.skip)).seq ((C.ops [⟨some 2, none, .mv, [.c (.int .i64 0)]⟩]).seq
  C.ret))))
theorem fn72 : FnIs Try.prog 72 76 1 [RV.tmp 2] c72 := ⟨Try.f72, Try.f72.body.getD .skip, [1], [77, 78, 79, 80, 97], [], by kernel_rfl, by kernel_rfl, by kernel_rfl, by kernel_rfl, by kernel_rfl, by kernel_rfl, by kernel_rfl⟩
/-- apograph/apographref48.checkItem -/
def c73 : C :=
  ((C.ops [⟨some 1, none, .box 0 28, [.t 0]⟩, ⟨some 2, none, .mv, [.c (.int .i64 0)]⟩]).seq (((C.ops [⟨some 3, none, .fldA 0, [.t 1]⟩, ⟨some 4, none, .load none, [.t 3]⟩, ⟨some 5,
  none, .bin .neq, [.t 4, .c (.int .i64 1)]⟩, ⟨some 6, none, .mv, [.t 5]⟩, ⟨some 7, some (6, true), .fldA 0, [.t 1]⟩, ⟨some 8, some (6, true), .load none, [.t 7]⟩, ⟨some 9, some (6,
  true), .bin .neq, [.t 8, .c (.int .i64 2)]⟩, ⟨some 10, none, .pick, [.t 6, .t 9, .c (.bool false)]⟩, ⟨some 11, none, .mv, [.t 10]⟩, ⟨some 12, some (11, true), .fldA 0, [.t 1]⟩,
  ⟨some 13, some (11, true), .load none, [.t 12]⟩, ⟨some 14, some (11, true), .bin .neq, [.t 13, .c (.int .i64 3)]⟩, ⟨some 15, none, .pick, [.t 11, .t 14, .c (.bool false)]⟩]).seq
  (C.cond (.t 15) ((C.ops [⟨some 2, none, .mv, [.c (.int .i64 8)]⟩]).seq C.ret) C.skip)).seq (((C.ops [⟨some 16, none, .fldA 1, [.t 1]⟩, ⟨some 17, none, .load none, [.t 16]⟩, ⟨some
  18, none, .call 68 true, [.t 17]⟩, ⟨some 19, none, .un UnOp.not, [.t 18]⟩, ⟨some 20, none, .mv, [.t 19]⟩, ⟨some 21, some (20, false), .fldA 2, [.t 1]⟩, ⟨some 22, some (20, false),
  .load none, [.t 21]⟩, ⟨some 23, some (20, false), .call 68 true, [.t 22]⟩, ⟨some 24, some (20, false), .un UnOp.not, [.t 23]⟩, ⟨some 25, none, .pick, [.t 20, .c (.bool true), .t
  24]⟩, ⟨some 26, none, .mv, [.t 25]⟩, ⟨some 27, some (26, false), .fldA 3, [.t 1]⟩, ⟨some 28, some (26, false), .load none, [.t 27]⟩, ⟨some 29, some (26, false), .call 68 true, [.t
  28]⟩, ⟨some 30, some (26, false), .un UnOp.not, [.t 29]⟩, ⟨some 31, none, .pick, [.t 26, .c (.bool true), .t 30]⟩, ⟨some 32, none, .mv, [.t 31]⟩, ⟨some 33, some (32, false), .fldA
  4, [.t 1]⟩, ⟨some 34, some (32, false), .load none, [.t 33]⟩, ⟨some 35, some (32, false), .bin .lss, [.t 34, .c (.int .i64 0)]⟩, ⟨some 36, some (32, false), .mv, [.t 35]⟩, ⟨some
  37, some (36, true), .fldA 4, [.t 1]⟩, ⟨some 38, some (36, true), .load none, [.t 37]⟩, ⟨some 39, some (36, true), .bin .neq, [.t 38, .c (.int .i64 (-10000))]⟩, ⟨some 40, some (32,
  false), .pick, [.t 36, .t 39, .c (.bool false)]⟩, ⟨some 41, none, .pick, [.t 32, .c (.bool true), .t 40]⟩, ⟨some 42, none, .mv, [.t 41]⟩, ⟨some 43, some (42, false), .fldA 4, [.t
  1]⟩, ⟨some 44, some (42, false), .load none, [.t 43]⟩, ⟨some 45, some (42, false), .bin .gtr, [.t 44, .c (.int .i64 10000)]⟩, ⟨some 46, none, .pick, [.t 42, .c (.bool true), .t
  45]⟩]).seq (C.cond (.t 46) ((C.ops [⟨some 2, none, .mv, [.c (.int .i64 2)]⟩]).seq C.ret) C.skip)).seq (((C.ops [⟨some 47, none, .fldA 0, [.t 1]⟩, ⟨some 48, none, .load none, [.t
  47]⟩, ⟨some 49, none, .bin .neq, [.t 48, .c (.int .i64 2)]⟩, ⟨some 50, none, .mv, [.t 49]⟩, ⟨some 51, some (50, true), .fldA 2, [.t 1]⟩, ⟨some 52, some (50, true), .load none, [.t
  51]⟩, ⟨some 53, some (50, true), .bin .neq, [.t 52, .c (.int .i64 0)]⟩, ⟨some 54, some (50, true), .mv, [.t 53]⟩, ⟨some 55, some (54, false), .fldA 3, [.t 1]⟩, ⟨some 56, some (54,
  false), .load none, [.t 55]⟩, ⟨some 57, some (54, false), .bin .neq, [.t 56, .c (.int .i64 0)]⟩, ⟨some 58, some (50, true), .pick, [.t 54, .c (.bool true), .t 57]⟩, ⟨some 59, none,
  .pick, [.t 50, .t 58, .c (.bool false)]⟩, ⟨some 60, none, .mv, [.t 59]⟩, ⟨some 61, some (60, false), .fldA 0, [.t 1]⟩, ⟨some 62, some (60, false), .load none, [.t 61]⟩, ⟨some 63,
  some (60, false), .bin .neq, [.t 62, .c (.int .i64 3)]⟩, ⟨some 64, some (60, false), .mv, [.t 63]⟩, ⟨some 65, some (64, true), .fldA 4, [.t 1]⟩, ⟨some 66, some (64, true), .load
  none, [.t 65]⟩, ⟨some 67, some (64, true), .bin .neq, [.t 66, .c (.int .i64 0)]⟩, ⟨some 68, some (60, false), .pick, [.t 64, .t 67, .c (.bool false)]⟩, ⟨some 69, none, .pick, [.t
  60, .c (.bool true), .t 68]⟩, ⟨some 70, none, .mv, [.t 69]⟩, ⟨some 71, some (70, false), .fldA 0, [.t 1]⟩, ⟨some 72, some (70, false), .load none, [.t 71]⟩, ⟨some 73, some (70,
  false), .bin .eql, [.t 72, .c (.int .i64 2)]⟩, ⟨some 74, some (70, false), .mv, [.t 73]⟩, ⟨some 75, some (74, true), .fldA 5, [.t 1]⟩, ⟨some 76, some (74, true), .load none, [.t
  75]⟩, ⟨some 77, some (74, true), .bin .neq, [.t 76, .c (.str [])]⟩, ⟨some 78, some (70, false), .pick, [.t 74, .t 77, .c (.bool false)]⟩, ⟨some 79, none, .pick, [.t 70, .c (.bool
  true), .t 78]⟩]).seq (C.cond (.t 79) ((C.ops [⟨some 2, none, .mv, [.c (.int .i64 1)]⟩]).seq C.ret) C.skip)).seq ((C.ops [⟨some 2, none, .mv, [.c (.int .i64 0)]⟩]).seq
  C.ret)))))
theorem fn73 : FnIs Try.prog 73 80 1 [RV.tmp 2] c73 := ⟨Try.f73, Try.f73.body.getD .skip, [1], [77, 78, 79, 80, 97], [], by kernel_rfl, by kernel_rfl, by kernel_rfl, by kernel_rfl, by kernel_rfl, by kernel_rfl, by kernel_rfl⟩
/-- apograph/apographref48.SameItems -/
def c34 : C :=
  ((C.ops [⟨some 4, none, .mv, [.c (.bool false)]⟩]).seq (((C.ops [⟨some 6, none, .mv, [.t 0]⟩, ⟨some 7, none, .len, [.t 6]⟩, ⟨some 8, none, .mv, [.t 1]⟩, ⟨some 9, none, .len, [.t
  8]⟩, ⟨some 10, none, .bin .neq, [.t 7, .t 9]⟩]).seq (C.cond (.t 10) ((C.ops [⟨some 4, none, .mv, [.c (.bool false)]⟩]).seq C.ret) C.skip)).seq (((C.ops [⟨some 5, none, .mv, [.c
  (.int .i64 0)]⟩]).seq (C.block 0 (((C.ops [⟨some 11, none, .mv, [.t 5]⟩, ⟨some 12, none, .mv, [.t 0]⟩, ⟨some 13, none, .len, [.t 12]⟩, ⟨some 14, none, .bin .lss, [.t 11, .t
  13]⟩]).seq (C.cond (.t 14) C.skip (C.exit 0))).seq ((C.block 1 ((C.ops [⟨some 17, none, .mv, [.t 0]⟩, ⟨some 18, none, .mv, [.t 5]⟩, ⟨some 19, none, .idxA 6, [.t 17, .t 18]⟩, ⟨some
  20, none, .load (some 6), [.t 19]⟩, ⟨some 21, none, .mv, [.t 1]⟩, ⟨some 22, none, .mv, [.t 5]⟩, ⟨some 23, none, .idxA 6, [.t 21, .t 22]⟩, ⟨some 24, none, .load (some 6), [.t 23]⟩,
  ⟨some 25, none, .aeq [.int, .int, .int, .int, .int, .str] true, [.t 20, .t 24]⟩]).seq (C.cond (.t 25) ((C.ops [⟨some 4, none, .mv, [.c (.bool false)]⟩]).seq C.ret) C.skip))).seq
  (C.ops [⟨some 15, none, .mv, [.t 5]⟩, ⟨some 16, none, .bin .add, [.t 15, .c (.int .i64 1)]⟩, ⟨some 5, none, .mv, [.t 16]⟩]))).loop)).seq ((C.ops [⟨some 4, none, .mv, [.c (.bool
  true)]⟩]).seq
  C.ret))))
theorem fn34 : FnIs Try.prog 34 26 0 [RV.tmp 4] c34 := ⟨Try.f34, Try.f34.body.getD .skip, [], [77, 78, 79, 80, 97], [], by kernel_rfl, by kernel_rfl, by kernel_rfl, by kernel_rfl, by kernel_rfl, by kernel_rfl, by kernel_rfl⟩
/-- slices.Clone[[]int,int] -/
def c90 : C :=
  ((C.ops [⟨some 2, none, .nilo 0 1 3, []⟩]).seq (((C.ops [⟨some 3, none, .mv, [.t 0]⟩, ⟨some 4, none, .isnil .slice false, [.t 3]⟩]).seq (C.cond (.t 4) ((C.ops [⟨some 2, none, .nilo
  0 1 3, []⟩]).seq C.ret) C.skip)).seq ((C.ops [⟨some 5, none, .bslc 1 1 0 3 [.int .i64 0] [], []⟩, ⟨some 6, none, .mv, [.t 0]⟩, ⟨some 7, none, .app 2 1 3 8, [.t 5, .t 6]⟩, ⟨some 2,
  none, .mv, [.t 7]⟩]).seq
  C.ret)))
theorem fn90 : FnIs Try.prog 90 8 3 [RV.tmp 2] c90 := ⟨Try.f90, Try.f90.body.getD .skip, [2, 5, 7], [77, 78, 79, 80, 97], [], by kernel_rfl, by kernel_rfl, by kernel_rfl, by kernel_rfl, by kernel_rfl, by kernel_rfl, by kernel_rfl⟩
/-- (*strings.Builder).WriteString -/
def c78 : C :=
  ((C.ops [⟨some 4, none, .mv, [.c (.int .i64 0)]⟩, ⟨some 5, none, .mv, [.c .nilif]⟩]).seq ((C.ops [⟨some 6, none, .mv, [.t 0]⟩, ⟨some 7, none, .call 97 false, [.t 6]⟩]).seq ((C.ops
  [⟨some 8, none, .mv, [.t 0]⟩, ⟨some 9, none, .mv, [.t 0]⟩, ⟨some 10, none, .nilchk, [.t 9]⟩, ⟨some 11, none, .fldA 1, [.t 10]⟩, ⟨some 12, none, .load none, [.t 11]⟩, ⟨some 13,
  none, .mv, [.t 1]⟩, ⟨some 14, none, .apps 0 5, [.t 12, .t 13]⟩, ⟨some 15, none, .nilchk, [.t 8]⟩, ⟨some 16, none, .fldA 1, [.t 15]⟩, ⟨none, none, .store 1, [.t 16, .t 14]⟩]).seq
  ((C.ops [⟨some 17, none, .mv, [.t 1]⟩, ⟨some 18, none, .slen, [.t 17]⟩, ⟨some 4, none, .mv, [.t 18]⟩, ⟨some 5, none, .mv, [.c .nilif]⟩]).seq
  C.ret))))
theorem fn78 : FnIs Try.prog 78 19 1 [RV.tmp 4, RV.tmp 5] c78 := ⟨Try.f78, Try.f78.body.getD .skip, [14], [77, 78, 79, 80, 97], [], by kernel_rfl, by kernel_rfl, by kernel_rfl, by kernel_rfl, by kernel_rfl, by kernel_rfl, by kernel_rfl⟩
/-- (*strings.Builder).WriteByte -/
def c79 : C :=
  ((C.ops [⟨some 4, none, .mv, [.c .nilif]⟩]).seq ((C.ops [⟨some 5, none, .mv, [.t 0]⟩, ⟨some 6, none, .call 97 false, [.t 5]⟩]).seq ((C.ops [⟨some 7, none, .mv, [.t 0]⟩, ⟨some 8,
  none, .mv, [.t 0]⟩, ⟨some 9, none, .nilchk, [.t 8]⟩, ⟨some 10, none, .fldA 1, [.t 9]⟩, ⟨some 11, none, .load none, [.t 10]⟩, ⟨some 12, none, .mv, [.t 1]⟩, ⟨some 13, none, .bslc 0 1
  1 5 [.int .u8 0] [(0, 1)], [.t 12]⟩, ⟨some 14, none, .app 1 1 5 1, [.t 11, .t 13]⟩, ⟨some 15, none, .nilchk, [.t 7]⟩, ⟨some 16, none, .fldA 1, [.t 15]⟩, ⟨none, none, .store 1, [.t
  16, .t 14]⟩]).seq ((C.ops [⟨some 4, none, .mv, [.c .nilif]⟩]).seq
  C.ret))))
theorem fn79 : FnIs Try.prog 79 17 2 [RV.tmp 4] c79 := ⟨Try.f79, Try.f79.body.getD .skip, [13, 14], [77, 78, 79, 80, 97], [], by kernel_rfl, by kernel_rfl, by kernel_rfl, by kernel_rfl, by kernel_rfl, by kernel_rfl, by kernel_rfl⟩
/-- (*strings.Builder).String -/
def c80 : C :=
  ((C.ops [⟨some 2, none, .mv, [.c (.str [])]⟩]).seq (C.bad.seq
  C.ret))
theorem fn80 : FnIs Try.prog 80 14 0 [RV.tmp 2] c80 := ⟨Try.f80, Try.f80.body.getD .skip, [], [77, 78, 79, 80, 97], [], by kernel_rfl, by kernel_rfl, by kernel_rfl, by kernel_rfl, by kernel_rfl, by kernel_rfl, by kernel_rfl⟩
/-- (*strings.Builder).copyCheck -/
def c97 : C :=
  ((C.ops [⟨some 2, none, .mv, [.t 0]⟩, ⟨some 3, none, .nilchk, [.t 2]⟩, ⟨some 4, none, .fldA 0, [.t 3]⟩, ⟨some 5, none, .load none, [.t 4]⟩, ⟨some 6, none, .isnil .ptr false, [.t
  5]⟩]).seq (C.cond (.t 6) C.bad (C.bad.seq (C.cond (.t 19) C.bad
  C.skip))))
theorem fn97 : FnIs Try.prog 97 20 0 [] c97 := ⟨Try.f97, Try.f97.body.getD .skip, [], [77, 78, 79, 80, 97], [], by kernel_rfl, by kernel_rfl, by kernel_rfl, by kernel_rfl, by kernel_rfl, by kernel_rfl, by kernel_rfl⟩
end
