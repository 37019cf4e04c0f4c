import Derived.Test.YtbccfgnihmfgmaaG1
import Derived.Test.YtbccfgnihmfgmaaProg
import Derived.Shelf.Strings.BuilderX
import Derived.Shelf.RegionOpenPlain
import Derived.Lib.Strings
import Derived.Lib.Slices
import Derived.Lib.Walk
import Derived.Lib.Bytealg
import Derived.WalkKit
import Derived.Laws.Externs
import Derived.Test.YtbccfgnihmfgmaaG2
set_option linter.all false
set_option linter.unusedSimpArgs false
set_option linter.unusedVariables false
set_option linter.unusedSectionVars false
section
/-! the text PgCode6 -/
open Go Go.Proofs AF
namespace HY
set_option maxRecDepth 100000
/-- apograph/apographlaw48.ParagraphItems -/
def c9 : C :=
  ((C.ops [⟨some 2, none, .box 0 62, [.t 0]⟩, ⟨some 4, none, .mv, [.c (.bool false)]⟩]).seq (((C.ops [⟨some 9, none, .load (some 15), [.t 2]⟩, ⟨some 10, none, .call 31 true, [.t 9]⟩,
  ⟨some 11, none, .mv, [.t 10]⟩, ⟨some 12, some (11, false), .mv, [.t 1]⟩, ⟨some 13, some (11, false), .call 22 true, [.t 12]⟩, ⟨some 14, none, .pick, [.t 11, .c (.bool true), .t
  13]⟩]).seq (C.cond (.t 14) ((C.ops [⟨some 15, none, .call 11 true, []⟩, ⟨some 4, none, .mv, [.t 15]⟩]).seq C.ret) C.skip)).seq ((C.ops [⟨some 17, none, .fldA 0, [.t 2]⟩, ⟨some 18,
  none, .load (some 13), [.t 17]⟩, ⟨some 19, none, .fldA 13, [.t 2]⟩, ⟨some 20, none, .load none, [.t 19]⟩, ⟨some 21, none, .fldA 14, [.t 2]⟩, ⟨some 22, none, .load none, [.t 21]⟩,
  ⟨some 23, none, .call 32 true, [.t 18, .t 20, .t 22]⟩, ⟨some 16, none, .mv, [.t 23]⟩, ⟨some 24, none, .ext 0, [.t 16]⟩, ⟨some 25, none, .ext 1, [.t 16]⟩, ⟨some 5, none, .mv, [.t
  24]⟩, ⟨some 6, none, .mv, [.t 25]⟩]).seq ((C.ops [⟨some 27, none, .fldA 0, [.t 2]⟩, ⟨some 28, none, .load (some 13), [.t 27]⟩, ⟨some 29, none, .fldA 13, [.t 2]⟩, ⟨some 30, none,
  .load none, [.t 29]⟩, ⟨some 31, none, .fldA 14, [.t 2]⟩, ⟨some 32, none, .load none, [.t 31]⟩, ⟨some 33, none, .call 33 true, [.t 28, .t 30, .t 32]⟩, ⟨some 26, none, .mv, [.t 33]⟩,
  ⟨some 34, none, .ext 0, [.t 26]⟩, ⟨some 35, none, .ext 1, [.t 26]⟩, ⟨some 7, none, .mv, [.t 34]⟩, ⟨some 8, none, .mv, [.t 35]⟩]).seq ((C.ops [⟨some 36, none, .mv, [.t 5]⟩, ⟨some
  37, none, .mv, [.t 7]⟩, ⟨some 38, none, .call 34 true, [.t 36, .t 37]⟩, ⟨some 39, none, .mv, [.t 38]⟩, ⟨some 40, some (39, true), .mv, [.t 6]⟩, ⟨some 41, some (39, true), .mv, [.t
  8]⟩, ⟨some 42, some (39, true), .bin .eql, [.t 40, .t 41]⟩, ⟨some 43, none, .pick, [.t 39, .t 42, .c (.bool false)]⟩, ⟨some 44, none, .mv, [.t 43]⟩, ⟨some 45, some (44, true), .mv,
  [.t 1]⟩, ⟨some 46, some (44, true), .call 35 true, [.t 45]⟩, ⟨some 47, some (44, true), .mv, [.t 1]⟩, ⟨some 48, some (44, true), .call 36 true, [.t 47]⟩, ⟨some 49, some (44, true),
  .bin .eql, [.t 46, .t 48]⟩, ⟨some 50, none, .pick, [.t 44, .t 49, .c (.bool false)]⟩, ⟨some 51, none, .mv, [.t 50]⟩, ⟨some 52, some (51, true), .call 11 true, []⟩, ⟨some 53, none,
  .pick, [.t 51, .t 52, .c (.bool false)]⟩, ⟨some 4, none, .mv, [.t 53]⟩]).seq
  C.ret)))))
theorem fn9 : FnIs Try.prog 9 54 1 [RV.tmp 4] c9 := ⟨Try.f9, Try.f9.body.getD .skip, [2], [77, 137, 140, 90], [], by kernel_rfl, by kernel_rfl, by kernel_rfl, by kernel_rfl, by kernel_rfl, by kernel_rfl, by kernel_rfl⟩
/-- apograph/paragraph.Items -/
def c32 : C :=
  ((C.ops [⟨some 3, none, .box 0 58, [.t 0]⟩, ⟨some 6, none, .nilo 1 6 28, []⟩, ⟨some 7, none, .mv, [.c (.int .i64 0)]⟩]).seq (((C.ops [⟨some 15, none, .fldA 8, [.t 3]⟩, ⟨some 16,
  none, .load none, [.t 15]⟩, ⟨some 17, none, .call 63 true, [.t 16]⟩, ⟨some 18, none, .un UnOp.not, [.t 17]⟩, ⟨some 19, none, .mv, [.t 18]⟩, ⟨some 20, some (19, false), .fldA 5, [.t
  3]⟩, ⟨some 21, some (19, false), .load none, [.t 20]⟩, ⟨some 22, some (19, false), .call 63 true, [.t 21]⟩, ⟨some 23, some (19, false), .un UnOp.not, [.t 22]⟩, ⟨some 24, none,
  .pick, [.t 19, .c (.bool true), .t 23]⟩, ⟨some 25, none, .mv, [.t 24]⟩, ⟨some 26, some (25, false), .fldA 6, [.t 3]⟩, ⟨some 27, some (25, false), .load none, [.t 26]⟩, ⟨some 28,
  some (25, false), .call 63 true, [.t 27]⟩, ⟨some 29, some (25, false), .un UnOp.not, [.t 28]⟩, ⟨some 30, none, .pick, [.t 25, .c (.bool true), .t 29]⟩, ⟨some 31, none, .mv, [.t
  30]⟩, ⟨some 32, some (31, false), .fldA 7, [.t 3]⟩, ⟨some 33, some (31, false), .load none, [.t 32]⟩, ⟨some 34, some (31, false), .call 63 true, [.t 33]⟩, ⟨some 35, some (31,
  false), .un UnOp.not, [.t 34]⟩, ⟨some 36, none, .pick, [.t 31, .c (.bool true), .t 35]⟩, ⟨some 37, none, .mv, [.t 36]⟩, ⟨some 38, some (37, false), .fldA 9, [.t 3]⟩, ⟨some 39, some
  (37, false), .load none, [.t 38]⟩, ⟨some 40, some (37, false), .bin .lss, [.t 39, .c (.int .i64 0)]⟩, ⟨some 41, none, .pick, [.t 37, .c (.bool true), .t 40]⟩, ⟨some 42, none, .mv,
  [.t 41]⟩, ⟨some 43, some (42, false), .fldA 9, [.t 3]⟩, ⟨some 44, some (42, false), .load none, [.t 43]⟩, ⟨some 45, some (42, false), .bin .gtr, [.t 44, .c (.int .i64 10000)]⟩,
  ⟨some 46, none, .pick, [.t 42, .c (.bool true), .t 45]⟩]).seq (C.cond (.t 46) ((C.ops [⟨some 6, none, .nilo 1 6 28, []⟩, ⟨some 7, none, .mv, [.c (.int .i64 2)]⟩]).seq C.ret)
  C.skip)).seq (((C.ops [⟨some 47, none, .mv, [.t 1]⟩, ⟨some 48, none, .call 64 true, [.t 47]⟩, ⟨some 49, none, .bin .neq, [.t 48, .c (.int .i64 0)]⟩, ⟨some 50, none, .mv, [.t 49]⟩,
  ⟨some 51, some (50, false), .mv, [.t 2]⟩, ⟨some 52, some (50, false), .call 59 true, [.t 51, .c (.fn (Fn.func 65) [] [])]⟩, ⟨some 53, none, .pick, [.t 50, .c (.bool true), .t
  52]⟩]).seq (C.cond (.t 53) ((C.ops [⟨some 6, none, .nilo 1 6 28, []⟩, ⟨some 7, none, .mv, [.c (.int .i64 1)]⟩]).seq C.ret) C.skip)).seq (((C.ops [⟨some 54, none, .mv, [.t 2]⟩,
  ⟨some 55, none, .len, [.t 54]⟩, ⟨some 56, none, .bin .gtr, [.t 55, .c (.int .i64 4096)]⟩]).seq (C.cond (.t 56) ((C.ops [⟨some 6, none, .nilo 1 6 28, []⟩, ⟨some 7, none, .mv, [.c
  (.int .i64 4)]⟩]).seq C.ret) C.skip)).seq ((C.ops [⟨some 8, none, .nilo 2 6 28, []⟩]).seq (((C.ops [⟨some 57, none, .mv, [.t 2]⟩, ⟨some 58, none, .len, [.t 57]⟩, ⟨some 59, none,
  .mv, [.c (.int .i64 0)]⟩]).seq (C.block 0 ((C.ops [⟨some 60, none, .bin .lss, [.t 59, .t 58]⟩]).seq ((C.cond (.t 60) C.skip (C.exit 0)).seq ((C.block 1 ((C.ops [⟨some 61, none,
  .mv, [.t 59]⟩, ⟨some 62, none, .idxA 7, [.t 57, .t 59]⟩, ⟨some 63, none, .load (some 7), [.t 62]⟩, ⟨some 10, none, .alloc 3 91 [.str [], .int .i64 0, .int .i64 0, .int .i64 0,
  .bool false, .bool false, .str []], []⟩, ⟨some 9, none, .mv, [.t 61]⟩, ⟨none, none, .store 7, [.t 10, .t 63]⟩]).seq ((C.block 2 ((C.ops [⟨some 65, none, .mv, [.t 9]⟩, ⟨some 66,
  none, .bin .eql, [.t 65, .c (.int .i64 0)]⟩, ⟨some 64, none, .mv, [.t 66]⟩]).seq (C.cond (.t 64) C.skip ((C.ops [⟨some 68, none, .fldA 5, [.t 10]⟩, ⟨some 69, none, .load none, [.t
  68]⟩, ⟨some 67, none, .mv, [.t 69]⟩]).seq (C.cond (.t 67) (C.ops [⟨some 70, none, .mv, [.t 8]⟩, ⟨some 71, none, .build [.int .i64 0, .int .i64 0, .int .i64 0, .int .i64 0, .int
  .i64 0, .str []] [(0, 1), (4, 1)], [.c (.int .i64 3), .c (.int .i64 (-10000))]⟩, ⟨some 72, none, .bslc 4 6 1 28 [.int .i64 0, .int .i64 0, .int .i64 0, .int .i64 0, .int .i64 0,
  .str []] [(0, 6)], [.t 71]⟩, ⟨some 73, none, .app 5 6 28 56, [.t 70, .t 72]⟩, ⟨some 8, none, .mv, [.t 73]⟩]) ((C.ops [⟨some 75, none, .fldA 4, [.t 10]⟩, ⟨some 76, none, .load none,
  [.t 75]⟩, ⟨some 77, none, .un UnOp.not, [.t 76]⟩, ⟨some 74, none, .mv, [.t 77]⟩]).seq (C.cond (.t 74) (C.ops [⟨some 78, none, .mv, [.t 8]⟩, ⟨some 79, none, .fldA 5, [.t 3]⟩, ⟨some
  80, none, .load none, [.t 79]⟩, ⟨some 81, none, .fldA 6, [.t 3]⟩, ⟨some 82, none, .load none, [.t 81]⟩, ⟨some 83, none, .fldA 7, [.t 3]⟩, ⟨some 84, none, .load none, [.t 83]⟩,
  ⟨some 85, none, .build [.int .i64 0, .int .i64 0, .int .i64 0, .int .i64 0, .int .i64 0, .str []] [(0, 1), (1, 1), (2, 1), (3, 1)], [.c (.int .i64 2), .t 80, .t 82, .t 84]⟩, ⟨some
  86, none, .bslc 6 6 1 28 [.int .i64 0, .int .i64 0, .int .i64 0, .int .i64 0, .int .i64 0, .str []] [(0, 6)], [.t 85]⟩, ⟨some 87, none, .app 7 6 28 56, [.t 78, .t 86]⟩, ⟨some 8,
  none, .mv, [.t 87]⟩]) C.skip))))))).seq ((C.ops [⟨some 89, none, .mv, [.t 1]⟩, ⟨some 90, none, .fldA 0, [.t 10]⟩, ⟨some 91, none, .load none, [.t 90]⟩, ⟨some 92, none, .call 66
  true, [.t 89, .t 91]⟩, ⟨some 88, none, .mv, [.t 92]⟩, ⟨some 93, none, .ext 0, [.t 88]⟩, ⟨some 94, none, .ext 1, [.t 88]⟩, ⟨some 11, none, .mv, [.t 93]⟩, ⟨some 12, none, .mv, [.t
  94]⟩]).seq (((C.ops [⟨some 95, none, .mv, [.t 12]⟩, ⟨some 96, none, .bin .neq, [.t 95, .c (.int .i64 0)]⟩]).seq (C.cond (.t 96) ((C.ops [⟨some 97, none, .mv, [.t 12]⟩, ⟨some 6,
  none, .nilo 1 6 28, []⟩, ⟨some 7, none, .mv, [.t 97]⟩]).seq C.ret) C.skip)).seq ((C.ops [⟨some 98, none, .mv, [.t 11]⟩, ⟨some 99, none, .len, [.t 98]⟩, ⟨some 100, none, .mv, [.c
  (.int .i64 0)]⟩]).seq (C.block 3 ((C.ops [⟨some 101, none, .bin .lss, [.t 100, .t 99]⟩]).seq ((C.cond (.t 101) C.skip (C.exit 3)).seq ((C.block 4 ((C.ops [⟨some 102, none, .mv, [.t
  100]⟩, ⟨some 103, none, .idxA 1, [.t 98, .t 100]⟩, ⟨some 104, none, .load none, [.t 103]⟩, ⟨some 13, none, .mv, [.t 102]⟩, ⟨some 14, none, .mv, [.t 104]⟩]).seq (((C.ops [⟨some 105,
  none, .mv, [.t 13]⟩, ⟨some 106, none, .bin .gtr, [.t 105, .c (.int .i64 0)]⟩]).seq (C.cond (.t 106) (C.ops [⟨some 107, none, .mv, [.t 8]⟩, ⟨some 108, none, .fldA 8, [.t 3]⟩, ⟨some
  109, none, .load none, [.t 108]⟩, ⟨some 110, none, .fldA 9, [.t 3]⟩, ⟨some 111, none, .load none, [.t 110]⟩, ⟨some 112, none, .build [.int .i64 0, .int .i64 0, .int .i64 0, .int
  .i64 0, .int .i64 0, .str []] [(0, 1), (1, 1), (4, 1), (5, 1)], [.c (.int .i64 3), .t 109, .t 111, .c (.str [61])]⟩, ⟨some 113, none, .bslc 8 6 1 28 [.int .i64 0, .int .i64 0, .int
  .i64 0, .int .i64 0, .int .i64 0, .str []] [(0, 6)], [.t 112]⟩, ⟨some 114, none, .app 9 6 28 56, [.t 107, .t 113]⟩, ⟨some 8, none, .mv, [.t 114]⟩]) C.skip)).seq (C.ops [⟨some 115,
  none, .mv, [.t 8]⟩, ⟨some 116, none, .fldA 8, [.t 3]⟩, ⟨some 117, none, .load none, [.t 116]⟩, ⟨some 118, none, .mv, [.t 14]⟩, ⟨some 119, none, .call 67 true, [.t 118]⟩, ⟨some 120,
  none, .len, [.t 119]⟩, ⟨some 121, none, .bin .mul, [.t 117, .t 120]⟩, ⟨some 122, none, .mv, [.t 14]⟩, ⟨some 123, none, .build [.int .i64 0, .int .i64 0, .int .i64 0, .int .i64 0,
  .int .i64 0, .str []] [(0, 1), (1, 1), (5, 1)], [.c (.int .i64 1), .t 121, .t 122]⟩, ⟨some 124, none, .bslc 10 6 1 28 [.int .i64 0, .int .i64 0, .int .i64 0, .int .i64 0, .int .i64
  0, .str []] [(0, 6)], [.t 123]⟩, ⟨some 125, none, .app 11 6 28 56, [.t 115, .t 124]⟩, ⟨some 8, none, .mv, [.t 125]⟩])))).seq (C.ops [⟨some 126, none, .bin .add, [.t 100, .c (.int
  .i64 1)]⟩, ⟨some 100, none, .mv, [.t 126]⟩])))).loop))))))).seq (C.ops [⟨some 127, none, .bin .add, [.t 59, .c (.int .i64 1)]⟩, ⟨some 59, none, .mv, [.t 127]⟩])))).loop)).seq
  (((C.ops [⟨some 128, none, .mv, [.t 8]⟩, ⟨some 129, none, .call 35 true, [.t 128]⟩, ⟨some 130, none, .bin .neq, [.t 129, .c (.int .i64 0)]⟩]).seq (C.cond (.t 130) ((C.ops [⟨some 6,
  none, .nilo 1 6 28, []⟩, ⟨some 7, none, .mv, [.c (.int .i64 4)]⟩]).seq C.ret) C.skip)).seq ((C.ops [⟨some 131, none, .mv, [.t 8]⟩, ⟨some 6, none, .mv, [.t 131]⟩, ⟨some 7, none,
  .mv, [.c (.int .i64 0)]⟩]).seq
  C.ret))))))))
theorem fn32 : FnIs Try.prog 32 132 12 [RV.tmp 6, RV.tmp 7] c32 := ⟨Try.f32, Try.f32.body.getD .skip, [3, 6, 8, 10, 72, 73, 86, 87, 113, 114, 124, 125], [77, 137, 140, 90], [], by kernel_rfl, by kernel_rfl, by kernel_rfl, by kernel_rfl, by kernel_rfl, by kernel_rfl, by kernel_rfl⟩
/-- apograph/apographref48.Items -/
def c33 : C :=
  ((C.ops [⟨some 3, none, .box 0 58, [.t 0]⟩, ⟨some 6, none, .nilo 1 6 28, []⟩, ⟨some 7, none, .mv, [.c (.int .i64 0)]⟩]).seq (((C.ops [⟨some 14, none, .fldA 8, [.t 3]⟩, ⟨some 15,
  none, .load none, [.t 14]⟩, ⟨some 16, none, .call 68 true, [.t 15]⟩, ⟨some 17, none, .un UnOp.not, [.t 16]⟩, ⟨some 18, none, .mv, [.t 17]⟩, ⟨some 19, some (18, false), .fldA 5, [.t
  3]⟩, ⟨some 20, some (18, false), .load none, [.t 19]⟩, ⟨some 21, some (18, false), .call 68 true, [.t 20]⟩, ⟨some 22, some (18, false), .un UnOp.not, [.t 21]⟩, ⟨some 23, none,
  .pick, [.t 18, .c (.bool true), .t 22]⟩, ⟨some 24, none, .mv, [.t 23]⟩, ⟨some 25, some (24, false), .fldA 6, [.t 3]⟩, ⟨some 26, some (24, false), .load none, [.t 25]⟩, ⟨some 27,
  some (24, false), .call 68 true, [.t 26]⟩, ⟨some 28, some (24, false), .un UnOp.not, [.t 27]⟩, ⟨some 29, none, .pick, [.t 24, .c (.bool true), .t 28]⟩, ⟨some 30, none, .mv, [.t
  29]⟩, ⟨some 31, some (30, false), .fldA 7, [.t 3]⟩, ⟨some 32, some (30, false), .load none, [.t 31]⟩, ⟨some 33, some (30, false), .call 68 true, [.t 32]⟩, ⟨some 34, some (30,
  false), .un UnOp.not, [.t 33]⟩, ⟨some 35, none, .pick, [.t 30, .c (.bool true), .t 34]⟩, ⟨some 36, none, .mv, [.t 35]⟩, ⟨some 37, some (36, false), .fldA 9, [.t 3]⟩, ⟨some 38, some
  (36, false), .load none, [.t 37]⟩, ⟨some 39, some (36, false), .bin .lss, [.t 38, .c (.int .i64 0)]⟩, ⟨some 40, none, .pick, [.t 36, .c (.bool true), .t 39]⟩, ⟨some 41, none, .mv,
  [.t 40]⟩, ⟨some 42, some (41, false), .fldA 9, [.t 3]⟩, ⟨some 43, some (41, false), .load none, [.t 42]⟩, ⟨some 44, some (41, false), .bin .gtr, [.t 43, .c (.int .i64 10000)]⟩,
  ⟨some 45, none, .pick, [.t 41, .c (.bool true), .t 44]⟩]).seq (C.cond (.t 45) ((C.ops [⟨some 6, none, .nilo 1 6 28, []⟩, ⟨some 7, none, .mv, [.c (.int .i64 2)]⟩]).seq C.ret)
  C.skip)).seq (((C.ops [⟨some 46, none, .mv, [.t 1]⟩, ⟨some 47, none, .call 69 true, [.t 46]⟩, ⟨some 48, none, .bin .neq, [.t 47, .c (.int .i64 0)]⟩]).seq (C.cond (.t 48) ((C.ops
  [⟨some 6, none, .nilo 1 6 28, []⟩, ⟨some 7, none, .mv, [.c (.int .i64 1)]⟩]).seq C.ret) C.skip)).seq (((C.ops [⟨some 8, none, .mv, [.c (.int .i64 0)]⟩]).seq (C.block 0 (((C.ops
  [⟨some 49, none, .mv, [.t 8]⟩, ⟨some 50, none, .mv, [.t 2]⟩, ⟨some 51, none, .len, [.t 50]⟩, ⟨some 52, none, .bin .lss, [.t 49, .t 51]⟩]).seq (C.cond (.t 52) C.skip (C.exit
  0))).seq ((C.block 1 ((C.ops [⟨some 55, none, .mv, [.t 2]⟩, ⟨some 56, none, .mv, [.t 8]⟩, ⟨some 57, none, .idxA 7, [.t 55, .t 56]⟩, ⟨some 58, none, .fldA 0, [.t 57]⟩, ⟨some 59,
  none, .load none, [.t 58]⟩, ⟨some 60, none, .bin .eql, [.t 59, .c (.str [])]⟩, ⟨some 61, none, .mv, [.t 60]⟩, ⟨some 62, some (61, false), .mv, [.t 2]⟩, ⟨some 63, some (61, false),
  .mv, [.t 8]⟩, ⟨some 64, some (61, false), .idxA 7, [.t 62, .t 63]⟩, ⟨some 65, some (61, false), .fldA 0, [.t 64]⟩, ⟨some 66, some (61, false), .load none, [.t 65]⟩, ⟨some 67, some
  (61, false), .slen, [.t 66]⟩, ⟨some 68, some (61, false), .bin .gtr, [.t 67, .c (.int .i64 64)]⟩, ⟨some 69, none, .pick, [.t 61, .c (.bool true), .t 68]⟩]).seq (C.cond (.t 69)
  ((C.ops [⟨some 6, none, .nilo 1 6 28, []⟩, ⟨some 7, none, .mv, [.c (.int .i64 1)]⟩]).seq C.ret) C.skip))).seq (C.ops [⟨some 53, none, .mv, [.t 8]⟩, ⟨some 54, none, .bin .add, [.t
  53, .c (.int .i64 1)]⟩, ⟨some 8, none, .mv, [.t 54]⟩]))).loop)).seq (((C.ops [⟨some 70, none, .mv, [.t 2]⟩, ⟨some 71, none, .len, [.t 70]⟩, ⟨some 72, none, .bin .gtr, [.t 71, .c
  (.int .i64 4096)]⟩]).seq (C.cond (.t 72) ((C.ops [⟨some 6, none, .nilo 1 6 28, []⟩, ⟨some 7, none, .mv, [.c (.int .i64 4)]⟩]).seq C.ret) C.skip)).seq ((C.ops [⟨some 73, none, .bslc
  2 6 0 28 [.int .i64 0, .int .i64 0, .int .i64 0, .int .i64 0, .int .i64 0, .str []] [], []⟩, ⟨some 9, none, .mv, [.t 73]⟩]).seq (((C.ops [⟨some 10, none, .mv, [.c (.int .i64
  0)]⟩]).seq (C.block 2 (((C.ops [⟨some 74, none, .mv, [.t 10]⟩, ⟨some 75, none, .mv, [.t 2]⟩, ⟨some 76, none, .len, [.t 75]⟩, ⟨some 77, none, .bin .lss, [.t 74, .t 76]⟩]).seq
  (C.cond (.t 77) C.skip (C.exit 2))).seq ((C.block 3 (((C.ops [⟨some 80, none, .mv, [.t 10]⟩, ⟨some 81, none, .bin .gtr, [.t 80, .c (.int .i64 0)]⟩, ⟨some 82, none, .mv, [.t 81]⟩,
  ⟨some 83, some (82, true), .mv, [.t 2]⟩, ⟨some 84, some (82, true), .mv, [.t 10]⟩, ⟨some 85, some (82, true), .idxA 7, [.t 83, .t 84]⟩, ⟨some 86, some (82, true), .fldA 5, [.t
  85]⟩, ⟨some 87, some (82, true), .load none, [.t 86]⟩, ⟨some 88, none, .pick, [.t 82, .t 87, .c (.bool false)]⟩]).seq (C.cond (.t 88) (C.ops [⟨some 89, none, .mv, [.t 9]⟩, ⟨some
  90, none, .build [.int .i64 0, .int .i64 0, .int .i64 0, .int .i64 0, .int .i64 0, .str []] [(0, 1), (4, 1)], [.c (.int .i64 3), .c (.int .i64 (-10000))]⟩, ⟨some 91, none, .bslc 3
  6 1 28 [.int .i64 0, .int .i64 0, .int .i64 0, .int .i64 0, .int .i64 0, .str []] [(0, 6)], [.t 90]⟩, ⟨some 92, none, .app 4 6 28 56, [.t 89, .t 91]⟩, ⟨some 9, none, .mv, [.t
  92]⟩]) ((C.ops [⟨some 93, none, .mv, [.t 10]⟩, ⟨some 94, none, .bin .gtr, [.t 93, .c (.int .i64 0)]⟩, ⟨some 95, none, .mv, [.t 94]⟩, ⟨some 96, some (95, true), .mv, [.t 2]⟩, ⟨some
  97, some (95, true), .mv, [.t 10]⟩, ⟨some 98, some (95, true), .idxA 7, [.t 96, .t 97]⟩, ⟨some 99, some (95, true), .fldA 4, [.t 98]⟩, ⟨some 100, some (95, true), .load none, [.t
  99]⟩, ⟨some 101, some (95, true), .un UnOp.not, [.t 100]⟩, ⟨some 102, none, .pick, [.t 95, .t 101, .c (.bool false)]⟩]).seq (C.cond (.t 102) (C.ops [⟨some 103, none, .mv, [.t 9]⟩,
  ⟨some 104, none, .fldA 5, [.t 3]⟩, ⟨some 105, none, .load none, [.t 104]⟩, ⟨some 106, none, .fldA 6, [.t 3]⟩, ⟨some 107, none, .load none, [.t 106]⟩, ⟨some 108, none, .fldA 7, [.t
  3]⟩, ⟨some 109, none, .load none, [.t 108]⟩, ⟨some 110, none, .build [.int .i64 0, .int .i64 0, .int .i64 0, .int .i64 0, .int .i64 0, .str []] [(0, 1), (1, 1), (2, 1), (3, 1)],
  [.c (.int .i64 2), .t 105, .t 107, .t 109]⟩, ⟨some 111, none, .bslc 5 6 1 28 [.int .i64 0, .int .i64 0, .int .i64 0, .int .i64 0, .int .i64 0, .str []] [(0, 6)], [.t 110]⟩, ⟨some
  112, none, .app 6 6 28 56, [.t 103, .t 111]⟩, ⟨some 9, none, .mv, [.t 112]⟩]) C.skip)))).seq ((C.ops [⟨some 113, none, .mv, [.t 1]⟩, ⟨some 114, none, .mv, [.t 2]⟩, ⟨some 115, none,
  .mv, [.t 10]⟩, ⟨some 116, none, .idxA 7, [.t 114, .t 115]⟩, ⟨some 117, none, .fldA 0, [.t 116]⟩, ⟨some 118, none, .load none, [.t 117]⟩, ⟨some 119, none, .call 70 true, [.t 113, .t
  118]⟩, ⟨some 11, none, .mv, [.t 119]⟩]).seq ((C.ops [⟨some 12, none, .mv, [.c (.int .i64 0)]⟩]).seq (C.block 4 (((C.ops [⟨some 120, none, .mv, [.t 12]⟩, ⟨some 121, none, .mv, [.t
  11]⟩, ⟨some 122, none, .len, [.t 121]⟩, ⟨some 123, none, .bin .lss, [.t 120, .t 122]⟩]).seq (C.cond (.t 123) C.skip (C.exit 4))).seq ((C.block 5 (((C.ops [⟨some 126, none, .mv, [.t
  12]⟩, ⟨some 127, none, .bin .gtr, [.t 126, .c (.int .i64 0)]⟩]).seq (C.cond (.t 127) (C.ops [⟨some 128, none, .mv, [.t 9]⟩, ⟨some 129, none, .fldA 8, [.t 3]⟩, ⟨some 130, none,
  .load none, [.t 129]⟩, ⟨some 131, none, .fldA 9, [.t 3]⟩, ⟨some 132, none, .load none, [.t 131]⟩, ⟨some 133, none, .build [.int .i64 0, .int .i64 0, .int .i64 0, .int .i64 0, .int
  .i64 0, .str []] [(0, 1), (1, 1), (4, 1), (5, 1)], [.c (.int .i64 3), .t 130, .t 132, .c (.str [61])]⟩, ⟨some 134, none, .bslc 7 6 1 28 [.int .i64 0, .int .i64 0, .int .i64 0, .int
  .i64 0, .int .i64 0, .str []] [(0, 6)], [.t 133]⟩, ⟨some 135, none, .app 8 6 28 56, [.t 128, .t 134]⟩, ⟨some 9, none, .mv, [.t 135]⟩]) C.skip)).seq ((C.ops [⟨some 136, none, .mv,
  [.t 11]⟩, ⟨some 137, none, .mv, [.t 12]⟩, ⟨some 138, none, .idxA 1, [.t 136, .t 137]⟩, ⟨some 139, none, .load none, [.t 138]⟩, ⟨some 140, none, .call 71 true, [.t 139]⟩, ⟨some 141,
  none, .len, [.t 140]⟩, ⟨some 13, none, .mv, [.t 141]⟩]).seq (((C.ops [⟨some 142, none, .mv, [.t 13]⟩, ⟨some 143, none, .bin .gtr, [.t 142, .c (.int .i64 0)]⟩, ⟨some 144, none, .mv,
  [.t 143]⟩, ⟨some 145, some (144, true), .fldA 8, [.t 3]⟩, ⟨some 146, some (144, true), .load none, [.t 145]⟩, ⟨some 147, some (144, true), .mv, [.t 13]⟩, ⟨some 148, some (144,
  true), .bin .quo, [.c (.int .i64 1073741824), .t 147]⟩, ⟨some 149, some (144, true), .bin .gtr, [.t 146, .t 148]⟩, ⟨some 150, none, .pick, [.t 144, .t 149, .c (.bool false)]⟩]).seq
  (C.cond (.t 150) ((C.ops [⟨some 6, none, .nilo 1 6 28, []⟩, ⟨some 7, none, .mv, [.c (.int .i64 4)]⟩]).seq C.ret) C.skip)).seq (C.ops [⟨some 151, none, .mv, [.t 9]⟩, ⟨some 152,
  none, .mv, [.t 13]⟩, ⟨some 153, none, .fldA 8, [.t 3]⟩, ⟨some 154, none, .load none, [.t 153]⟩, ⟨some 155, none, .bin .mul, [.t 152, .t 154]⟩, ⟨some 156, none, .mv, [.t 11]⟩, ⟨some
  157, none, .mv, [.t 12]⟩, ⟨some 158, none, .idxA 1, [.t 156, .t 157]⟩, ⟨some 159, none, .load none, [.t 158]⟩, ⟨some 160, none, .build [.int .i64 0, .int .i64 0, .int .i64 0, .int
  .i64 0, .int .i64 0, .str []] [(0, 1), (1, 1), (5, 1)], [.c (.int .i64 1), .t 155, .t 159]⟩, ⟨some 161, none, .bslc 9 6 1 28 [.int .i64 0, .int .i64 0, .int .i64 0, .int .i64 0,
  .int .i64 0, .str []] [(0, 6)], [.t 160]⟩, ⟨some 162, none, .app 10 6 28 56, [.t 151, .t 161]⟩, ⟨some 9, none, .mv, [.t 162]⟩]))))).seq (C.ops [⟨some 124, none, .mv, [.t 12]⟩,
  ⟨some 125, none, .bin .add, [.t 124, .c (.int .i64 1)]⟩, ⟨some 12, none, .mv, [.t 125]⟩]))).loop))))).seq (C.ops [⟨some 78, none, .mv, [.t 10]⟩, ⟨some 79, none, .bin .add, [.t 78,
  .c (.int .i64 1)]⟩, ⟨some 10, none, .mv, [.t 79]⟩]))).loop)).seq (((C.ops [⟨some 163, none, .mv, [.t 9]⟩, ⟨some 164, none, .call 36 true, [.t 163]⟩, ⟨some 165, none, .bin .neq, [.t
  164, .c (.int .i64 0)]⟩]).seq (C.cond (.t 165) ((C.ops [⟨some 6, none, .nilo 1 6 28, []⟩, ⟨some 7, none, .mv, [.c (.int .i64 4)]⟩]).seq C.ret) C.skip)).seq ((C.ops [⟨some 166,
  none, .mv, [.t 9]⟩, ⟨some 6, none, .mv, [.t 166]⟩, ⟨some 7, none, .mv, [.c (.int .i64 0)]⟩]).seq
  C.ret)))))))))
theorem fn33 : FnIs Try.prog 33 167 11 [RV.tmp 6, RV.tmp 7] c33 := ⟨Try.f33, Try.f33.body.getD .skip, [3, 6, 73, 91, 92, 111, 112, 134, 135, 161, 162], [77, 137, 140, 90], [], by kernel_rfl, by kernel_rfl, by kernel_rfl, by kernel_rfl, by kernel_rfl, by kernel_rfl, by kernel_rfl⟩
/-- slices.ContainsFunc[[]apograph/api.Word,apograph/api.Word] -/
def c59 : C :=
  ((C.ops [⟨some 4, none, .mv, [.c (.bool false)]⟩]).seq ((C.ops [⟨some 5, none, .mv, [.t 0]⟩, ⟨some 6, none, .mv, [.t 1]⟩, ⟨some 7, none, .call 85 true, [.t 5, .t 6]⟩, ⟨some 8,
  none, .bin .geq, [.t 7, .c (.int .i64 0)]⟩, ⟨some 4, none, .mv, [.t 8]⟩]).seq
  C.ret))
theorem fn59 : FnIs Try.prog 59 9 0 [RV.tmp 4] c59 := ⟨Try.f59, Try.f59.body.getD .skip, [], [77, 137, 140, 90], [], by kernel_rfl, by kernel_rfl, by kernel_rfl, by kernel_rfl, by kernel_rfl, by kernel_rfl, by kernel_rfl⟩
/-- apograph/apographlaw48.great$1 -/
def c60 : C :=
  ((C.ops [⟨some 1, none, .box 0 91, [.t 0]⟩, ⟨some 2, none, .mv, [.c (.bool false)]⟩]).seq ((C.ops [⟨some 3, none, .fldA 0, [.t 1]⟩, ⟨some 4, none, .load none, [.t 3]⟩, ⟨some 5,
  none, .slen, [.t 4]⟩, ⟨some 6, none, .bin .gtr, [.t 5, .c (.int .i64 10)]⟩, ⟨some 7, none, .mv, [.t 6]⟩, ⟨some 8, some (7, true), .fldA 0, [.t 1]⟩, ⟨some 9, some (7, true), .load
  none, [.t 8]⟩, ⟨some 10, some (7, true), .slen, [.t 9]⟩, ⟨some 11, some (7, true), .bin .leq, [.t 10, .c (.int .i64 64)]⟩, ⟨some 12, none, .pick, [.t 7, .t 11, .c (.bool false)]⟩,
  ⟨some 13, none, .mv, [.t 12]⟩, ⟨some 14, some (13, false), .fldA 0, [.t 1]⟩, ⟨some 15, some (13, false), .load none, [.t 14]⟩, ⟨some 16, some (13, false), .slen, [.t 15]⟩, ⟨some
  17, some (13, false), .bin .gtr, [.t 16, .c (.int .i64 67)]⟩, ⟨some 18, none, .pick, [.t 13, .c (.bool true), .t 17]⟩, ⟨some 2, none, .mv, [.t 18]⟩]).seq
  C.ret))
theorem fn60 : FnIs Try.prog 60 19 1 [RV.tmp 2] c60 := ⟨Try.f60, Try.f60.body.getD .skip, [1], [77, 137, 140, 90], [], by kernel_rfl, by kernel_rfl, by kernel_rfl, by kernel_rfl, by kernel_rfl, by kernel_rfl, by kernel_rfl⟩
/-- slices.ContainsFunc[[]apograph/api.Pattern,apograph/api.Pattern] -/
def c61 : C :=
  ((C.ops [⟨some 4, none, .mv, [.c (.bool false)]⟩]).seq ((C.ops [⟨some 5, none, .mv, [.t 0]⟩, ⟨some 6, none, .mv, [.t 1]⟩, ⟨some 7, none, .call 86 true, [.t 5, .t 6]⟩, ⟨some 8,
  none, .bin .geq, [.t 7, .c (.int .i64 0)]⟩, ⟨some 4, none, .mv, [.t 8]⟩]).seq
  C.ret))
theorem fn61 : FnIs Try.prog 61 9 0 [RV.tmp 4] c61 := ⟨Try.f61, Try.f61.body.getD .skip, [], [77, 137, 140, 90], [], by kernel_rfl, by kernel_rfl, by kernel_rfl, by kernel_rfl, by kernel_rfl, by kernel_rfl, by kernel_rfl⟩
/-- apograph/apographlaw48.great$2 -/
def c62 : C :=
  ((C.ops [⟨some 1, none, .box 0 95, [.t 0]⟩, ⟨some 2, none, .mv, [.c (.bool false)]⟩]).seq ((C.ops [⟨some 3, none, .fldA 0, [.t 1]⟩, ⟨some 4, none, .load none, [.t 3]⟩, ⟨some 5,
  none, .slen, [.t 4]⟩, ⟨some 6, none, .bin .gtr, [.t 5, .c (.int .i64 12)]⟩, ⟨some 7, none, .mv, [.t 6]⟩, ⟨some 8, some (7, false), .fldA 1, [.t 1]⟩, ⟨some 9, some (7, false), .load
  none, [.t 8]⟩, ⟨some 10, some (7, false), .len, [.t 9]⟩, ⟨some 11, some (7, false), .bin .gtr, [.t 10, .c (.int .i64 14)]⟩, ⟨some 12, none, .pick, [.t 7, .c (.bool true), .t 11]⟩,
  ⟨some 2, none, .mv, [.t 12]⟩]).seq
  C.ret))
theorem fn62 : FnIs Try.prog 62 13 1 [RV.tmp 2] c62 := ⟨Try.f62, Try.f62.body.getD .skip, [1], [77, 137, 140, 90], [], by kernel_rfl, by kernel_rfl, by kernel_rfl, by kernel_rfl, by kernel_rfl, by kernel_rfl, by kernel_rfl⟩
/-- apograph/hyphenation.Check -/
def c64 : C :=
  ((C.ops [⟨some 2, none, .mv, [.c (.int .i64 0)]⟩]).seq (((C.ops [⟨some 6, none, .mv, [.t 0]⟩, ⟨some 7, none, .len, [.t 6]⟩, ⟨some 8, none, .bin .gtr, [.t 7, .c (.int .i64
  4096)]⟩]).seq (C.cond (.t 8) ((C.ops [⟨some 2, none, .mv, [.c (.int .i64 4)]⟩]).seq C.ret) C.skip)).seq (((C.ops [⟨some 9, none, .mv, [.t 0]⟩, ⟨some 10, none, .len, [.t 9]⟩, ⟨some
  11, none, .mv, [.c (.int .i64 0)]⟩]).seq (C.block 0 ((C.ops [⟨some 12, none, .bin .lss, [.t 11, .t 10]⟩]).seq ((C.cond (.t 12) C.skip (C.exit 0)).seq ((C.block 1 ((C.ops [⟨some 13,
  none, .idxA 2, [.t 9, .t 11]⟩, ⟨some 14, none, .load (some 2), [.t 13]⟩, ⟨some 4, none, .alloc 0 95 [.str [], .nl], []⟩, ⟨none, none, .store 2, [.t 4, .t 14]⟩]).seq ((C.ops [⟨some
  15, none, .load (some 2), [.t 4]⟩, ⟨some 16, none, .call 87 true, [.t 15]⟩, ⟨some 5, none, .mv, [.t 16]⟩]).seq ((C.ops [⟨some 17, none, .mv, [.t 5]⟩, ⟨some 18, none, .bin .neq, [.t
  17, .c (.int .i64 0)]⟩]).seq (C.cond (.t 18) ((C.ops [⟨some 19, none, .mv, [.t 5]⟩, ⟨some 2, none, .mv, [.t 19]⟩]).seq C.ret) C.skip))))).seq (C.ops [⟨some 20, none, .bin .add, [.t
  11, .c (.int .i64 1)]⟩, ⟨some 11, none, .mv, [.t 20]⟩])))).loop)).seq ((C.ops [⟨some 2, none, .mv, [.c (.int .i64 0)]⟩]).seq
  C.ret))))
theorem fn64 : FnIs Try.prog 64 21 1 [RV.tmp 2] c64 := ⟨Try.f64, Try.f64.body.getD .skip, [4], [77, 137, 140, 90], [], by kernel_rfl, by kernel_rfl, by kernel_rfl, by kernel_rfl, by kernel_rfl, by kernel_rfl, by kernel_rfl⟩
/-- apograph/paragraph.Items$1 -/
def c65 : C :=
  ((C.ops [⟨some 1, none, .box 0 91, [.t 0]⟩, ⟨some 2, none, .mv, [.c (.bool false)]⟩]).seq ((C.ops [⟨some 3, none, .fldA 0, [.t 1]⟩, ⟨some 4, none, .load none, [.t 3]⟩, ⟨some 5,
  none, .bin .eql, [.t 4, .c (.str [])]⟩, ⟨some 6, none, .mv, [.t 5]⟩, ⟨some 7, some (6, false), .fldA 0, [.t 1]⟩, ⟨some 8, some (6, false), .load none, [.t 7]⟩, ⟨some 9, some (6,
  false), .slen, [.t 8]⟩, ⟨some 10, some (6, false), .bin .gtr, [.t 9, .c (.int .i64 64)]⟩, ⟨some 11, none, .pick, [.t 6, .c (.bool true), .t 10]⟩, ⟨some 2, none, .mv, [.t 11]⟩]).seq
  C.ret))
theorem fn65 : FnIs Try.prog 65 12 1 [RV.tmp 2] c65 := ⟨Try.f65, Try.f65.body.getD .skip, [1], [77, 137, 140, 90], [], by kernel_rfl, by kernel_rfl, by kernel_rfl, by kernel_rfl, by kernel_rfl, by kernel_rfl, by kernel_rfl⟩
/-- apograph/paragraph.parts -/
def c66 : C :=
  ((C.ops [⟨some 4, none, .nilo 0 1 9, []⟩, ⟨some 5, none, .mv, [.c (.int .i64 0)]⟩]).seq (((C.ops [⟨some 12, none, .mv, [.t 1]⟩, ⟨some 13, none, .call 88 true, [.t 12]⟩, ⟨some 14,
  none, .un UnOp.not, [.t 13]⟩]).seq (C.cond (.t 14) ((C.ops [⟨some 15, none, .mv, [.t 1]⟩, ⟨some 16, none, .bslc 1 1 1 9 [.str []] [(0, 1)], [.t 15]⟩, ⟨some 4, none, .mv, [.t 16]⟩,
  ⟨some 5, none, .mv, [.c (.int .i64 0)]⟩]).seq C.ret) C.skip)).seq ((C.ops [⟨some 18, none, .mv, [.t 0]⟩, ⟨some 19, none, .mv, [.t 1]⟩, ⟨some 20, none, .call 89 true, [.t 18, .t
  19]⟩, ⟨some 17, none, .mv, [.t 20]⟩, ⟨some 21, none, .ext 0, [.t 17]⟩, ⟨some 22, none, .ext 1, [.t 17]⟩, ⟨some 6, none, .mv, [.t 21]⟩, ⟨some 7, none, .mv, [.t 22]⟩]).seq (((C.ops
  [⟨some 23, none, .mv, [.t 7]⟩, ⟨some 24, none, .bin .neq, [.t 23, .c (.int .i64 0)]⟩]).seq (C.cond (.t 24) ((C.ops [⟨some 25, none, .mv, [.t 7]⟩, ⟨some 4, none, .nilo 0 1 9, []⟩,
  ⟨some 5, none, .mv, [.t 25]⟩]).seq C.ret) C.skip)).seq ((C.ops [⟨some 8, none, .nilo 2 1 9, []⟩]).seq ((C.ops [⟨some 9, none, .mv, [.c (.int .i64 0)]⟩]).seq (((C.ops [⟨some 26,
  none, .mv, [.t 6]⟩, ⟨some 27, none, .call 90 false, [.t 26]⟩, ⟨some 28, none, .mv, [.t 1]⟩, ⟨some 29, none, .slen, [.t 28]⟩, ⟨some 30, none, .bslc 3 1 1 3 [.int .i64 0] [(0, 1)],
  [.t 29]⟩, ⟨some 31, none, .app 4 1 3 8, [.t 27, .t 30]⟩, ⟨some 32, none, .len, [.t 31]⟩, ⟨some 33, none, .mv, [.c (.int .i64 0)]⟩]).seq (C.block 0 ((C.ops [⟨some 34, none, .bin
  .lss, [.t 33, .t 32]⟩]).seq ((C.cond (.t 34) C.skip (C.exit 0)).seq ((C.block 1 ((C.ops [⟨some 35, none, .idxA 1, [.t 31, .t 33]⟩, ⟨some 36, none, .load none, [.t 35]⟩, ⟨some 11,
  none, .mv, [.t 36]⟩]).seq ((C.ops [⟨some 37, none, .mv, [.t 8]⟩, ⟨some 38, none, .mv, [.t 1]⟩, ⟨some 39, none, .mv, [.t 9]⟩, ⟨some 40, none, .mv, [.t 11]⟩, ⟨some 41, none, .sslc
  true true, [.t 38, .t 39, .t 40]⟩, ⟨some 42, none, .bslc 5 1 1 9 [.str []] [(0, 1)], [.t 41]⟩, ⟨some 43, none, .app 6 1 9 16, [.t 37, .t 42]⟩, ⟨some 8, none, .mv, [.t 43]⟩]).seq
  (C.ops [⟨some 44, none, .mv, [.t 11]⟩, ⟨some 9, none, .mv, [.t 44]⟩])))).seq (C.ops [⟨some 45, none, .bin .add, [.t 33, .c (.int .i64 1)]⟩, ⟨some 33, none, .mv, [.t
  45]⟩])))).loop)).seq ((C.ops [⟨some 46, none, .mv, [.t 8]⟩, ⟨some 4, none, .mv, [.t 46]⟩, ⟨some 5, none, .mv, [.c (.int .i64 0)]⟩]).seq
  C.ret))))))))
theorem fn66 : FnIs Try.prog 66 47 8 [RV.tmp 4, RV.tmp 5] c66 := ⟨Try.f66, Try.f66.body.getD .skip, [4, 16, 8, 30, 31, 42, 43, 27], [77, 137, 140, 90], [], by kernel_rfl, by kernel_rfl, by kernel_rfl, by kernel_rfl, by kernel_rfl, by kernel_rfl, by kernel_rfl⟩
/-- apograph/charset.Clusters -/
def c67 : C :=
  ((C.ops [⟨some 2, none, .nilo 0 1 9, []⟩]).seq ((C.ops [⟨some 3, none, .alloc 1 56 [.nl], []⟩]).seq (((C.ops [⟨some 6, none, .mv, [.t 0]⟩, ⟨some 7, none, .call 91 true, [.t
  6]⟩]).seq (C.block 0 (C.range (.t 7) [8, 9] (C.ops [⟨some 5, none, .mv, [.t 9]⟩]) (C.block 1 (C.ops [⟨some 10, none, .load none, [.t 3]⟩, ⟨some 11, none, .mv, [.t 5]⟩, ⟨some 12,
  none, .bslc 2 1 1 9 [.str []] [(0, 1)], [.t 11]⟩, ⟨some 13, none, .app 3 1 9 16, [.t 10, .t 12]⟩, ⟨none, none, .store 1, [.t 3, .t 13]⟩]))))).seq ((C.ops [⟨some 14, none, .load
  none, [.t 3]⟩, ⟨some 2, none, .mv, [.t 14]⟩]).seq
  C.ret))))
theorem fn67 : FnIs Try.prog 67 15 4 [RV.tmp 2] c67 := ⟨Try.f67, Try.f67.body.getD .skip, [2, 3, 12, 13], [77, 137, 140, 90], [], by kernel_rfl, by kernel_rfl, by kernel_rfl, by kernel_rfl, by kernel_rfl, by kernel_rfl, by kernel_rfl⟩
/-- apograph/apographref47.Check -/
def c69 : C :=
  ((C.ops [⟨some 2, none, .mv, [.c (.int .i64 0)]⟩]).seq (((C.ops [⟨some 5, none, .mv, [.t 0]⟩, ⟨some 6, none, .len, [.t 5]⟩, ⟨some 7, none, .bin .gtr, [.t 6, .c (.int .i64
  4096)]⟩]).seq (C.cond (.t 7) ((C.ops [⟨some 2, none, .mv, [.c (.int .i64 4)]⟩]).seq C.ret) C.skip)).seq (((C.ops [⟨some 3, none, .mv, [.c (.int .i64 0)]⟩]).seq (C.block 0 (((C.ops
  [⟨some 8, none, .mv, [.t 3]⟩, ⟨some 9, none, .mv, [.t 0]⟩, ⟨some 10, none, .len, [.t 9]⟩, ⟨some 11, none, .bin .lss, [.t 8, .t 10]⟩]).seq (C.cond (.t 11) C.skip (C.exit 0))).seq
  ((C.block 1 ((C.ops [⟨some 14, none, .mv, [.t 0]⟩, ⟨some 15, none, .mv, [.t 3]⟩, ⟨some 16, none, .idxA 2, [.t 14, .t 15]⟩, ⟨some 17, none, .load (some 2), [.t 16]⟩, ⟨some 18, none,
  .call 92 true, [.t 17]⟩, ⟨some 4, none, .mv, [.t 18]⟩]).seq ((C.ops [⟨some 19, none, .mv, [.t 4]⟩, ⟨some 20, none, .bin .neq, [.t 19, .c (.int .i64 0)]⟩]).seq (C.cond (.t 20)
  ((C.ops [⟨some 21, none, .mv, [.t 4]⟩, ⟨some 2, none, .mv, [.t 21]⟩]).seq C.ret) C.skip)))).seq (C.ops [⟨some 12, none, .mv, [.t 3]⟩, ⟨some 13, none, .bin .add, [.t 12, .c (.int
  .i64 1)]⟩, ⟨some 3, none, .mv, [.t 13]⟩]))).loop)).seq ((C.ops [⟨some 2, none, .mv, [.c (.int .i64 0)]⟩]).seq
  C.ret))))
theorem fn69 : FnIs Try.prog 69 22 0 [RV.tmp 2] c69 := ⟨Try.f69, Try.f69.body.getD .skip, [], [77, 137, 140, 90], [], by kernel_rfl, by kernel_rfl, by kernel_rfl, by kernel_rfl, by kernel_rfl, by kernel_rfl, by kernel_rfl⟩
/-- apograph/apographref48.parts -/
def c70 : C :=
  ((C.ops [⟨some 4, none, .nilo 0 1 9, []⟩]).seq (((C.ops [⟨some 10, none, .mv, [.t 1]⟩, ⟨some 11, none, .call 93 true, [.t 10]⟩, ⟨some 12, none, .un UnOp.not, [.t 11]⟩]).seq (C.cond
  (.t 12) ((C.ops [⟨some 13, none, .mv, [.t 1]⟩, ⟨some 14, none, .bslc 1 1 1 9 [.str []] [(0, 1)], [.t 13]⟩, ⟨some 4, none, .mv, [.t 14]⟩]).seq C.ret) C.skip)).seq ((C.ops [⟨some 16,
  none, .mv, [.t 0]⟩, ⟨some 17, none, .mv, [.t 1]⟩, ⟨some 18, none, .call 94 true, [.t 16, .t 17]⟩, ⟨some 15, none, .mv, [.t 18]⟩, ⟨some 19, none, .ext 0, [.t 15]⟩, ⟨some 20, none,
  .ext 1, [.t 15]⟩, ⟨some 5, none, .mv, [.t 19]⟩, ⟨some 6, none, .mv, [.t 20]⟩]).seq (((C.ops [⟨some 21, none, .mv, [.t 6]⟩, ⟨some 22, none, .bin .neq, [.t 21, .c (.int .i64
  0)]⟩]).seq (C.cond (.t 22) ((C.ops [⟨some 23, none, .mv, [.t 1]⟩, ⟨some 24, none, .bslc 2 1 1 9 [.str []] [(0, 1)], [.t 23]⟩, ⟨some 4, none, .mv, [.t 24]⟩]).seq C.ret) C.skip)).seq
  ((C.ops [⟨some 25, none, .bslc 3 1 0 9 [.str []] [], []⟩, ⟨some 7, none, .mv, [.t 25]⟩]).seq ((C.ops [⟨some 8, none, .mv, [.c (.int .i64 0)]⟩]).seq (((C.ops [⟨some 9, none, .mv,
  [.c (.int .i64 0)]⟩]).seq (C.block 0 (((C.ops [⟨some 26, none, .mv, [.t 9]⟩, ⟨some 27, none, .mv, [.t 5]⟩, ⟨some 28, none, .len, [.t 27]⟩, ⟨some 29, none, .bin .lss, [.t 26, .t
  28]⟩]).seq (C.cond (.t 29) C.skip (C.exit 0))).seq ((C.block 1 ((C.ops [⟨some 32, none, .mv, [.t 7]⟩, ⟨some 33, none, .mv, [.t 1]⟩, ⟨some 34, none, .mv, [.t 8]⟩, ⟨some 35, none,
  .mv, [.t 5]⟩, ⟨some 36, none, .mv, [.t 9]⟩, ⟨some 37, none, .idxA 1, [.t 35, .t 36]⟩, ⟨some 38, none, .load none, [.t 37]⟩, ⟨some 39, none, .sslc true true, [.t 33, .t 34, .t 38]⟩,
  ⟨some 40, none, .bslc 4 1 1 9 [.str []] [(0, 1)], [.t 39]⟩, ⟨some 41, none, .app 5 1 9 16, [.t 32, .t 40]⟩, ⟨some 7, none, .mv, [.t 41]⟩]).seq (C.ops [⟨some 42, none, .mv, [.t 5]⟩,
  ⟨some 43, none, .mv, [.t 9]⟩, ⟨some 44, none, .idxA 1, [.t 42, .t 43]⟩, ⟨some 45, none, .load none, [.t 44]⟩, ⟨some 8, none, .mv, [.t 45]⟩]))).seq (C.ops [⟨some 30, none, .mv, [.t
  9]⟩, ⟨some 31, none, .bin .add, [.t 30, .c (.int .i64 1)]⟩, ⟨some 9, none, .mv, [.t 31]⟩]))).loop)).seq ((C.ops [⟨some 46, none, .mv, [.t 7]⟩, ⟨some 47, none, .mv, [.t 1]⟩, ⟨some
  48, none, .mv, [.t 8]⟩, ⟨some 49, none, .sslc true false, [.t 47, .t 48]⟩, ⟨some 50, none, .bslc 6 1 1 9 [.str []] [(0, 1)], [.t 49]⟩, ⟨some 51, none, .app 7 1 9 16, [.t 46, .t
  50]⟩, ⟨some 4, none, .mv, [.t 51]⟩]).seq
  C.ret))))))))
theorem fn70 : FnIs Try.prog 70 52 8 [RV.tmp 4] c70 := ⟨Try.f70, Try.f70.body.getD .skip, [4, 14, 24, 25, 40, 41, 50, 51], [77, 137, 140, 90], [], by kernel_rfl, by kernel_rfl, by kernel_rfl, by kernel_rfl, by kernel_rfl, by kernel_rfl, by kernel_rfl⟩
/-- apograph/apographref01.Clusters -/
def c71 : C :=
  ((C.ops [⟨some 2, none, .nilo 0 1 9, []⟩]).seq ((C.ops [⟨some 6, none, .bslc 1 1 0 9 [.str []] [], []⟩, ⟨some 3, none, .mv, [.t 6]⟩]).seq ((C.ops [⟨some 7, none, .mv, [.t 0]⟩,
  ⟨some 8, none, .call 95 true, [.t 7]⟩, ⟨some 4, none, .mv, [.t 8]⟩]).seq (((C.ops [⟨some 5, none, .mv, [.c (.int .i64 0)]⟩]).seq (C.block 0 (((C.ops [⟨some 9, none, .mv, [.t 5]⟩,
  ⟨some 10, none, .mv, [.t 0]⟩, ⟨some 11, none, .slen, [.t 10]⟩, ⟨some 12, none, .bin .lss, [.t 9, .t 11]⟩]).seq (C.cond (.t 12) C.skip (C.exit 0))).seq ((C.block 1 ((C.ops [⟨some
  15, none, .mv, [.t 4]⟩, ⟨some 16, none, .mv, [.t 5]⟩, ⟨some 17, none, .idxA 1, [.t 15, .t 16]⟩, ⟨some 18, none, .load none, [.t 17]⟩]).seq (C.cond (.t 18) (C.ops [⟨some 19, none,
  .mv, [.t 3]⟩, ⟨some 20, none, .mv, [.t 3]⟩, ⟨some 21, none, .len, [.t 20]⟩, ⟨some 22, none, .bin .sub, [.t 21, .c (.int .i64 1)]⟩, ⟨some 23, none, .mv, [.t 3]⟩, ⟨some 24, none,
  .mv, [.t 3]⟩, ⟨some 25, none, .len, [.t 24]⟩, ⟨some 26, none, .bin .sub, [.t 25, .c (.int .i64 1)]⟩, ⟨some 27, none, .idxA 1, [.t 23, .t 26]⟩, ⟨some 28, none, .load none, [.t 27]⟩,
  ⟨some 29, none, .mv, [.t 0]⟩, ⟨some 30, none, .mv, [.t 5]⟩, ⟨some 31, none, .mv, [.t 5]⟩, ⟨some 32, none, .bin .add, [.t 31, .c (.int .i64 1)]⟩, ⟨some 33, none, .sslc true true,
  [.t 29, .t 30, .t 32]⟩, ⟨some 34, none, .bin .add, [.t 28, .t 33]⟩, ⟨some 35, none, .idxA 1, [.t 19, .t 22]⟩, ⟨none, none, .store 1, [.t 35, .t 34]⟩]) (C.ops [⟨some 36, none, .mv,
  [.t 3]⟩, ⟨some 37, none, .mv, [.t 0]⟩, ⟨some 38, none, .mv, [.t 5]⟩, ⟨some 39, none, .mv, [.t 5]⟩, ⟨some 40, none, .bin .add, [.t 39, .c (.int .i64 1)]⟩, ⟨some 41, none, .sslc true
  true, [.t 37, .t 38, .t 40]⟩, ⟨some 42, none, .bslc 2 1 1 9 [.str []] [(0, 1)], [.t 41]⟩, ⟨some 43, none, .app 3 1 9 16, [.t 36, .t 42]⟩, ⟨some 3, none, .mv, [.t 43]⟩])))).seq
  (C.ops [⟨some 13, none, .mv, [.t 5]⟩, ⟨some 14, none, .bin .add, [.t 13, .c (.int .i64 1)]⟩, ⟨some 5, none, .mv, [.t 14]⟩]))).loop)).seq ((C.ops [⟨some 44, none, .mv, [.t 3]⟩,
  ⟨some 2, none, .mv, [.t 44]⟩]).seq
  C.ret)))))
theorem fn71 : FnIs Try.prog 71 45 4 [RV.tmp 2] c71 := ⟨Try.f71, Try.f71.body.getD .skip, [2, 6, 42, 43], [77, 137, 140, 90], [], by kernel_rfl, by kernel_rfl, by kernel_rfl, by kernel_rfl, by kernel_rfl, by kernel_rfl, by kernel_rfl⟩
/-- slices.IndexFunc[[]apograph/api.Word,apograph/api.Word] -/
def c85 : C :=
  ((C.ops [⟨some 4, none, .mv, [.c (.int .i64 0)]⟩]).seq (((C.ops [⟨some 6, none, .mv, [.t 0]⟩, ⟨some 7, none, .len, [.t 6]⟩, ⟨some 8, none, .mv, [.c (.int .i64 0)]⟩]).seq (C.block 0
  ((C.ops [⟨some 9, none, .bin .lss, [.t 8, .t 7]⟩]).seq ((C.cond (.t 9) C.skip (C.exit 0)).seq ((C.block 1 ((C.ops [⟨some 10, none, .mv, [.t 8]⟩, ⟨some 5, none, .mv, [.t 10]⟩]).seq
  ((C.ops [⟨some 11, none, .mv, [.t 1]⟩, ⟨some 12, none, .mv, [.t 0]⟩, ⟨some 13, none, .mv, [.t 5]⟩, ⟨some 14, none, .idxA 7, [.t 12, .t 13]⟩, ⟨some 15, none, .load (some 7), [.t
  14]⟩, ⟨some 16, none, .callv, [.t 11, .t 15]⟩]).seq (C.cond (.t 16) ((C.ops [⟨some 17, none, .mv, [.t 5]⟩, ⟨some 4, none, .mv, [.t 17]⟩]).seq C.ret) C.skip)))).seq (C.ops [⟨some
  18, none, .bin .add, [.t 8, .c (.int .i64 1)]⟩, ⟨some 8, none, .mv, [.t 18]⟩])))).loop)).seq ((C.ops [⟨some 4, none, .mv, [.c (.int .i64 (-1))]⟩]).seq
  C.ret)))
theorem fn85 : FnIs Try.prog 85 19 0 [RV.tmp 4] c85 := ⟨Try.f85, Try.f85.body.getD .skip, [], [77, 137, 140, 90], [], by kernel_rfl, by kernel_rfl, by kernel_rfl, by kernel_rfl, by kernel_rfl, by kernel_rfl, by kernel_rfl⟩
/-- slices.IndexFunc[[]apograph/api.Pattern,apograph/api.Pattern] -/
def c86 : C :=
  ((C.ops [⟨some 4, none, .mv, [.c (.int .i64 0)]⟩]).seq (((C.ops [⟨some 6, none, .mv, [.t 0]⟩, ⟨some 7, none, .len, [.t 6]⟩, ⟨some 8, none, .mv, [.c (.int .i64 0)]⟩]).seq (C.block 0
  ((C.ops [⟨some 9, none, .bin .lss, [.t 8, .t 7]⟩]).seq ((C.cond (.t 9) C.skip (C.exit 0)).seq ((C.block 1 ((C.ops [⟨some 10, none, .mv, [.t 8]⟩, ⟨some 5, none, .mv, [.t 10]⟩]).seq
  ((C.ops [⟨some 11, none, .mv, [.t 1]⟩, ⟨some 12, none, .mv, [.t 0]⟩, ⟨some 13, none, .mv, [.t 5]⟩, ⟨some 14, none, .idxA 2, [.t 12, .t 13]⟩, ⟨some 15, none, .load (some 2), [.t
  14]⟩, ⟨some 16, none, .callv, [.t 11, .t 15]⟩]).seq (C.cond (.t 16) ((C.ops [⟨some 17, none, .mv, [.t 5]⟩, ⟨some 4, none, .mv, [.t 17]⟩]).seq C.ret) C.skip)))).seq (C.ops [⟨some
  18, none, .bin .add, [.t 8, .c (.int .i64 1)]⟩, ⟨some 8, none, .mv, [.t 18]⟩])))).loop)).seq ((C.ops [⟨some 4, none, .mv, [.c (.int .i64 (-1))]⟩]).seq
  C.ret)))
theorem fn86 : FnIs Try.prog 86 19 0 [RV.tmp 4] c86 := ⟨Try.f86, Try.f86.body.getD .skip, [], [77, 137, 140, 90], [], by kernel_rfl, by kernel_rfl, by kernel_rfl, by kernel_rfl, by kernel_rfl, by kernel_rfl, by kernel_rfl⟩
/-- apograph/hyphenation.checkPattern -/
def c87 : C :=
  ((C.ops [⟨some 1, none, .box 0 95, [.t 0]⟩, ⟨some 2, none, .mv, [.c (.int .i64 0)]⟩]).seq (((C.ops [⟨some 7, none, .fldA 0, [.t 1]⟩, ⟨some 8, none, .load none, [.t 7]⟩, ⟨some 9,
  none, .slen, [.t 8]⟩, ⟨some 10, none, .bin .gtr, [.t 9, .c (.int .i64 64)]⟩]).seq (C.cond (.t 10) ((C.ops [⟨some 2, none, .mv, [.c (.int .i64 4)]⟩]).seq C.ret) C.skip)).seq ((C.ops
  [⟨some 11, none, .fldA 0, [.t 1]⟩, ⟨some 12, none, .load none, [.t 11]⟩, ⟨some 13, none, .call 101 true, [.t 12, .c (.str [46])]⟩, ⟨some 14, none, .call 100 true, [.t 13, .c (.str
  [46])]⟩, ⟨some 3, none, .mv, [.t 14]⟩]).seq ((C.ops [⟨some 4, none, .mv, [.c (.fn (Fn.func 102) [] [])]⟩]).seq ((C.ops [⟨some 5, none, .mv, [.c (.bool false)]⟩]).seq (((C.ops
  [⟨some 15, none, .mv, [.t 3]⟩, ⟨some 16, none, .slen, [.t 15]⟩, ⟨some 17, none, .mv, [.c (.int .i64 0)]⟩]).seq (C.block 0 ((C.ops [⟨some 18, none, .bin .lss, [.t 17, .t 16]⟩]).seq
  ((C.cond (.t 18) C.skip (C.exit 0)).seq ((C.block 1 ((C.ops [⟨some 19, none, .mv, [.t 17]⟩, ⟨some 6, none, .mv, [.t 19]⟩]).seq (((C.ops [⟨some 20, none, .mv, [.t 4]⟩, ⟨some 21,
  none, .mv, [.t 3]⟩, ⟨some 22, none, .mv, [.t 6]⟩, ⟨some 23, none, .sidx, [.t 21, .t 22]⟩, ⟨some 24, none, .callv, [.t 20, .t 23]⟩, ⟨some 25, none, .un UnOp.not, [.t 24]⟩]).seq
  (C.cond (.t 25) ((C.ops [⟨some 2, none, .mv, [.c (.int .i64 11)]⟩]).seq C.ret) C.skip)).seq (C.ops [⟨some 26, none, .mv, [.t 5]⟩, ⟨some 27, none, .mv, [.t 26]⟩, ⟨some 28, some (27,
  false), .mv, [.t 3]⟩, ⟨some 29, some (27, false), .mv, [.t 6]⟩, ⟨some 30, some (27, false), .sidx, [.t 28, .t 29]⟩, ⟨some 31, some (27, false), .call 103 true, [.t 30]⟩, ⟨some 32,
  some (27, false), .bin .neq, [.t 31, .c (.int .i64 2)]⟩, ⟨some 33, none, .pick, [.t 27, .c (.bool true), .t 32]⟩, ⟨some 5, none, .mv, [.t 33]⟩])))).seq (C.ops [⟨some 34, none, .bin
  .add, [.t 17, .c (.int .i64 1)]⟩, ⟨some 17, none, .mv, [.t 34]⟩])))).loop)).seq (((C.ops [⟨some 35, none, .mv, [.t 3]⟩, ⟨some 36, none, .call 104 true, [.t 35]⟩, ⟨some 37, none,
  .bin .neq, [.t 36, .c (.int .i64 0)]⟩]).seq (C.cond (.t 37) ((C.ops [⟨some 2, none, .mv, [.c (.int .i64 11)]⟩]).seq C.ret) C.skip)).seq (((C.ops [⟨some 38, none, .mv, [.t 5]⟩,
  ⟨some 39, none, .un UnOp.not, [.t 38]⟩]).seq (C.cond (.t 39) ((C.ops [⟨some 2, none, .mv, [.c (.int .i64 5)]⟩]).seq C.ret) C.skip)).seq (((C.ops [⟨some 40, none, .fldA 1, [.t 1]⟩,
  ⟨some 41, none, .load none, [.t 40]⟩, ⟨some 42, none, .len, [.t 41]⟩, ⟨some 43, none, .fldA 0, [.t 1]⟩, ⟨some 44, none, .load none, [.t 43]⟩, ⟨some 45, none, .call 105 true, [.t
  44]⟩, ⟨some 46, none, .len, [.t 45]⟩, ⟨some 47, none, .bin .add, [.t 46, .c (.int .i64 1)]⟩, ⟨some 48, none, .bin .neq, [.t 42, .t 47]⟩]).seq (C.cond (.t 48) ((C.ops [⟨some 2,
  none, .mv, [.c (.int .i64 9)]⟩]).seq C.ret) C.skip)).seq (((C.ops [⟨some 49, none, .fldA 1, [.t 1]⟩, ⟨some 50, none, .load none, [.t 49]⟩, ⟨some 51, none, .call 106 true, [.t 50,
  .c (.fn (Fn.func 107) [] [])]⟩, ⟨some 52, none, .mv, [.t 51]⟩, ⟨some 53, some (52, false), .fldA 0, [.t 1]⟩, ⟨some 54, some (52, false), .load none, [.t 53]⟩, ⟨some 55, some (52,
  false), .call 108 true, [.t 54, .c (.str [46])]⟩, ⟨some 56, some (52, false), .mv, [.t 55]⟩, ⟨some 57, some (56, true), .fldA 1, [.t 1]⟩, ⟨some 58, some (56, true), .load none, [.t
  57]⟩, ⟨some 59, some (56, true), .idxA 1, [.t 58, .c (.int .i64 0)]⟩, ⟨some 60, some (56, true), .load none, [.t 59]⟩, ⟨some 61, some (56, true), .bin .neq, [.t 60, .c (.int .i64
  0)]⟩, ⟨some 62, some (52, false), .pick, [.t 56, .t 61, .c (.bool false)]⟩, ⟨some 63, none, .pick, [.t 52, .c (.bool true), .t 62]⟩, ⟨some 64, none, .mv, [.t 63]⟩, ⟨some 65, some
  (64, false), .fldA 0, [.t 1]⟩, ⟨some 66, some (64, false), .load none, [.t 65]⟩, ⟨some 67, some (64, false), .call 109 true, [.t 66, .c (.str [46])]⟩, ⟨some 68, some (64, false),
  .mv, [.t 67]⟩, ⟨some 69, some (68, true), .fldA 1, [.t 1]⟩, ⟨some 70, some (68, true), .load none, [.t 69]⟩, ⟨some 71, some (68, true), .fldA 1, [.t 1]⟩, ⟨some 72, some (68, true),
  .load none, [.t 71]⟩, ⟨some 73, some (68, true), .len, [.t 72]⟩, ⟨some 74, some (68, true), .bin .sub, [.t 73, .c (.int .i64 1)]⟩, ⟨some 75, some (68, true), .idxA 1, [.t 70, .t
  74]⟩, ⟨some 76, some (68, true), .load none, [.t 75]⟩, ⟨some 77, some (68, true), .bin .neq, [.t 76, .c (.int .i64 0)]⟩, ⟨some 78, some (64, false), .pick, [.t 68, .t 77, .c (.bool
  false)]⟩, ⟨some 79, none, .pick, [.t 64, .c (.bool true), .t 78]⟩]).seq (C.cond (.t 79) ((C.ops [⟨some 2, none, .mv, [.c (.int .i64 2)]⟩]).seq C.ret) C.skip)).seq ((C.ops [⟨some 2,
  none, .mv, [.c (.int .i64 0)]⟩]).seq
  C.ret)))))))))))
theorem fn87 : FnIs Try.prog 87 80 1 [RV.tmp 2] c87 := ⟨Try.f87, Try.f87.body.getD .skip, [1], [77, 137, 140, 90], [], by kernel_rfl, by kernel_rfl, by kernel_rfl, by kernel_rfl, by kernel_rfl, by kernel_rfl, by kernel_rfl⟩
/-- apograph/charset.IsWord -/
def c88 : C :=
  ((C.ops [⟨some 2, none, .mv, [.c (.bool false)]⟩]).seq (((C.ops [⟨some 4, none, .mv, [.t 0]⟩, ⟨some 5, none, .bin .eql, [.t 4, .c (.str [])]⟩, ⟨some 6, none, .mv, [.t 5]⟩, ⟨some 7,
  some (6, false), .mv, [.t 0]⟩, ⟨some 8, some (6, false), .slen, [.t 7]⟩, ⟨some 9, some (6, false), .bin .gtr, [.t 8, .c (.int .i64 64)]⟩, ⟨some 10, none, .pick, [.t 6, .c (.bool
  true), .t 9]⟩, ⟨some 11, none, .mv, [.t 10]⟩, ⟨some 12, some (11, false), .mv, [.t 0]⟩, ⟨some 13, some (11, false), .call 104 true, [.t 12]⟩, ⟨some 14, some (11, false), .bin .neq,
  [.t 13, .c (.int .i64 0)]⟩, ⟨some 15, none, .pick, [.t 11, .c (.bool true), .t 14]⟩]).seq (C.cond (.t 15) ((C.ops [⟨some 2, none, .mv, [.c (.bool false)]⟩]).seq C.ret) C.skip)).seq
  (((C.ops [⟨some 16, none, .mv, [.t 0]⟩, ⟨some 17, none, .sidx, [.t 16, .c (.int .i64 0)]⟩, ⟨some 18, none, .call 103 true, [.t 17]⟩, ⟨some 3, none, .mv, [.t 18]⟩]).seq ((C.ops
  [⟨some 19, none, .mv, [.t 3]⟩, ⟨some 20, none, .bin .neq, [.t 19, .c (.int .i64 1)]⟩, ⟨some 21, none, .mv, [.t 20]⟩, ⟨some 22, some (21, true), .mv, [.t 3]⟩, ⟨some 23, some (21,
  true), .bin .neq, [.t 22, .c (.int .i64 3)]⟩, ⟨some 24, none, .pick, [.t 21, .t 23, .c (.bool false)]⟩]).seq (C.cond (.t 24) ((C.ops [⟨some 2, none, .mv, [.c (.bool false)]⟩]).seq
  C.ret) C.skip))).seq ((C.ops [⟨some 25, none, .mv, [.t 0]⟩, ⟨some 26, none, .s2b, [.t 25]⟩, ⟨some 27, none, .call 110 true, [.t 26, .c (.fn (Fn.func 111) [] [])]⟩, ⟨some 28, none,
  .un UnOp.not, [.t 27]⟩, ⟨some 2, none, .mv, [.t 28]⟩]).seq
  C.ret))))
theorem fn88 : FnIs Try.prog 88 29 0 [RV.tmp 2] c88 := ⟨Try.f88, Try.f88.body.getD .skip, [], [77, 137, 140, 90], [], by kernel_rfl, by kernel_rfl, by kernel_rfl, by kernel_rfl, by kernel_rfl, by kernel_rfl, by kernel_rfl⟩
/-- apograph/hyphenation.Points -/
def c89 : C :=
  ((C.ops [⟨some 4, none, .nilo 0 1 3, []⟩, ⟨some 5, none, .mv, [.c (.int .i64 0)]⟩]).seq (((C.ops [⟨some 9, none, .mv, [.t 0]⟩, ⟨some 10, none, .mv, [.t 1]⟩, ⟨some 11, none, .call
  112 true, [.t 9, .t 10]⟩, ⟨some 6, none, .mv, [.t 11]⟩]).seq ((C.ops [⟨some 12, none, .mv, [.t 6]⟩, ⟨some 13, none, .bin .neq, [.t 12, .c (.int .i64 0)]⟩]).seq (C.cond (.t 13)
  ((C.ops [⟨some 14, none, .mv, [.t 6]⟩, ⟨some 4, none, .nilo 0 1 3, []⟩, ⟨some 5, none, .mv, [.t 14]⟩]).seq C.ret) C.skip))).seq ((C.ops [⟨some 16, none, .mv, [.t 0]⟩, ⟨some 17,
  none, .mv, [.t 1]⟩, ⟨some 18, none, .call 113 true, [.t 16, .t 17]⟩, ⟨some 15, none, .mv, [.t 18]⟩, ⟨some 19, none, .ext 0, [.t 15]⟩, ⟨some 20, none, .ext 1, [.t 15]⟩, ⟨some 7,
  none, .mv, [.t 19]⟩, ⟨some 8, none, .mv, [.t 20]⟩]).seq ((C.ops [⟨some 21, none, .mv, [.t 7]⟩, ⟨some 4, none, .mv, [.t 21]⟩, ⟨some 5, none, .mv, [.c (.int .i64 0)]⟩]).seq
  C.ret))))
theorem fn89 : FnIs Try.prog 89 22 1 [RV.tmp 4, RV.tmp 5] c89 := ⟨Try.f89, Try.f89.body.getD .skip, [4], [77, 137, 140, 90], [], by kernel_rfl, by kernel_rfl, by kernel_rfl, by kernel_rfl, by kernel_rfl, by kernel_rfl, by kernel_rfl⟩
/-- slices.Clone[[]int,int] -/
def c90 : C :=
  ((C.ops [⟨some 2, none, .nilo 0 1 3, []⟩]).seq (((C.ops [⟨some 3, none, .mv, [.t 0]⟩, ⟨some 4, none, .isnil .slice false, [.t 3]⟩]).seq (C.cond (.t 4) ((C.ops [⟨some 2, none, .nilo
  0 1 3, []⟩]).seq C.ret) C.skip)).seq ((C.ops [⟨some 5, none, .bslc 1 1 0 3 [.int .i64 0] [], []⟩, ⟨some 6, none, .mv, [.t 0]⟩, ⟨some 7, none, .app 2 1 3 8, [.t 5, .t 6]⟩, ⟨some 2,
  none, .mv, [.t 7]⟩]).seq
  C.ret)))
theorem fn90 : FnIs Try.prog 90 8 3 [RV.tmp 2] c90 := ⟨Try.f90, Try.f90.body.getD .skip, [2, 5, 7], [77, 137, 140, 90], [], by kernel_rfl, by kernel_rfl, by kernel_rfl, by kernel_rfl, by kernel_rfl, by kernel_rfl, by kernel_rfl⟩
/-- apograph/charset.clusters -/
def c91 : C :=
  ((C.ops [⟨some 1, none, .box 0 9, [.t 0]⟩, ⟨some 2, none, .mv, [.c .nilfn]⟩]).seq ((C.ops [⟨some 3, none, .mkfn (Fn.func 114) 0, [.t 1]⟩, ⟨some 2, none, .mv, [.t 3]⟩]).seq
  C.ret))
theorem fn91 : FnIs Try.prog 91 4 1 [RV.tmp 2] c91 := ⟨Try.f91, Try.f91.body.getD .skip, [1], [77, 137, 140, 90], [], by kernel_rfl, by kernel_rfl, by kernel_rfl, by kernel_rfl, by kernel_rfl, by kernel_rfl, by kernel_rfl⟩
/-- apograph/apographref47.check -/
def c92 : C :=
  ((C.ops [⟨some 1, none, .box 0 95, [.t 0]⟩, ⟨some 2, none, .mv, [.c (.int .i64 0)]⟩]).seq (((C.ops [⟨some 7, none, .fldA 0, [.t 1]⟩, ⟨some 8, none, .load none, [.t 7]⟩, ⟨some 9,
  none, .slen, [.t 8]⟩, ⟨some 10, none, .bin .gtr, [.t 9, .c (.int .i64 64)]⟩]).seq (C.cond (.t 10) ((C.ops [⟨some 2, none, .mv, [.c (.int .i64 4)]⟩]).seq C.ret) C.skip)).seq ((C.ops
  [⟨some 11, none, .fldA 0, [.t 1]⟩, ⟨some 12, none, .load none, [.t 11]⟩, ⟨some 13, none, .call 116 true, [.t 12]⟩, ⟨some 3, none, .mv, [.t 13]⟩]).seq (((C.ops [⟨some 4, none, .mv,
  [.c (.int .i64 0)]⟩]).seq (C.block 0 (((C.ops [⟨some 14, none, .mv, [.t 4]⟩, ⟨some 15, none, .mv, [.t 3]⟩, ⟨some 16, none, .slen, [.t 15]⟩, ⟨some 17, none, .bin .lss, [.t 14, .t
  16]⟩]).seq (C.cond (.t 17) C.skip (C.exit 0))).seq ((C.block 1 ((C.ops [⟨some 20, none, .mv, [.t 3]⟩, ⟨some 21, none, .mv, [.t 4]⟩, ⟨some 22, none, .sidx, [.t 20, .t 21]⟩, ⟨some
  23, none, .call 117 true, [.t 22]⟩, ⟨some 5, none, .mv, [.t 23]⟩]).seq ((C.ops [⟨some 24, none, .mv, [.t 5]⟩, ⟨some 25, none, .bin .neq, [.t 24, .c (.int .i64 1)]⟩, ⟨some 26, none,
  .mv, [.t 25]⟩, ⟨some 27, some (26, true), .mv, [.t 5]⟩, ⟨some 28, some (26, true), .bin .neq, [.t 27, .c (.int .i64 2)]⟩, ⟨some 29, none, .pick, [.t 26, .t 28, .c (.bool false)]⟩,
  ⟨some 30, none, .mv, [.t 29]⟩, ⟨some 31, some (30, true), .mv, [.t 5]⟩, ⟨some 32, some (30, true), .bin .neq, [.t 31, .c (.int .i64 4)]⟩, ⟨some 33, none, .pick, [.t 30, .t 32, .c
  (.bool false)]⟩]).seq (C.cond (.t 33) ((C.ops [⟨some 2, none, .mv, [.c (.int .i64 11)]⟩]).seq C.ret) C.skip)))).seq (C.ops [⟨some 18, none, .mv, [.t 4]⟩, ⟨some 19, none, .bin .add,
  [.t 18, .c (.int .i64 1)]⟩, ⟨some 4, none, .mv, [.t 19]⟩]))).loop)).seq (((C.ops [⟨some 34, none, .fldA 0, [.t 1]⟩, ⟨some 35, none, .load none, [.t 34]⟩, ⟨some 36, none, .call 118
  true, [.t 35]⟩, ⟨some 37, none, .bin .neq, [.t 36, .c (.int .i64 0)]⟩]).seq (C.cond (.t 37) ((C.ops [⟨some 2, none, .mv, [.c (.int .i64 11)]⟩]).seq C.ret) C.skip)).seq (((C.ops
  [⟨some 38, none, .mv, [.t 3]⟩, ⟨some 39, none, .bin .eql, [.t 38, .c (.str [])]⟩]).seq (C.cond (.t 39) ((C.ops [⟨some 2, none, .mv, [.c (.int .i64 5)]⟩]).seq C.ret) C.skip)).seq
  (((C.ops [⟨some 40, none, .fldA 1, [.t 1]⟩, ⟨some 41, none, .load none, [.t 40]⟩, ⟨some 42, none, .len, [.t 41]⟩, ⟨some 43, none, .fldA 0, [.t 1]⟩, ⟨some 44, none, .load none, [.t
  43]⟩, ⟨some 45, none, .call 71 true, [.t 44]⟩, ⟨some 46, none, .len, [.t 45]⟩, ⟨some 47, none, .bin .add, [.t 46, .c (.int .i64 1)]⟩, ⟨some 48, none, .bin .neq, [.t 42, .t
  47]⟩]).seq (C.cond (.t 48) ((C.ops [⟨some 2, none, .mv, [.c (.int .i64 9)]⟩]).seq C.ret) C.skip)).seq (((C.ops [⟨some 6, none, .mv, [.c (.int .i64 0)]⟩]).seq (C.block 2 (((C.ops
  [⟨some 49, none, .mv, [.t 6]⟩, ⟨some 50, none, .fldA 1, [.t 1]⟩, ⟨some 51, none, .load none, [.t 50]⟩, ⟨some 52, none, .len, [.t 51]⟩, ⟨some 53, none, .bin .lss, [.t 49, .t
  52]⟩]).seq (C.cond (.t 53) C.skip (C.exit 2))).seq ((C.block 3 ((C.ops [⟨some 56, none, .fldA 1, [.t 1]⟩, ⟨some 57, none, .load none, [.t 56]⟩, ⟨some 58, none, .mv, [.t 6]⟩, ⟨some
  59, none, .idxA 1, [.t 57, .t 58]⟩, ⟨some 60, none, .load none, [.t 59]⟩, ⟨some 61, none, .bin .lss, [.t 60, .c (.int .i64 0)]⟩, ⟨some 62, none, .mv, [.t 61]⟩, ⟨some 63, some (62,
  false), .fldA 1, [.t 1]⟩, ⟨some 64, some (62, false), .load none, [.t 63]⟩, ⟨some 65, some (62, false), .mv, [.t 6]⟩, ⟨some 66, some (62, false), .idxA 1, [.t 64, .t 65]⟩, ⟨some
  67, some (62, false), .load none, [.t 66]⟩, ⟨some 68, some (62, false), .bin .gtr, [.t 67, .c (.int .i64 9)]⟩, ⟨some 69, none, .pick, [.t 62, .c (.bool true), .t 68]⟩]).seq (C.cond
  (.t 69) ((C.ops [⟨some 2, none, .mv, [.c (.int .i64 2)]⟩]).seq C.ret) C.skip))).seq (C.ops [⟨some 54, none, .mv, [.t 6]⟩, ⟨some 55, none, .bin .add, [.t 54, .c (.int .i64 1)]⟩,
  ⟨some 6, none, .mv, [.t 55]⟩]))).loop)).seq (((C.ops [⟨some 70, none, .fldA 0, [.t 1]⟩, ⟨some 71, none, .load none, [.t 70]⟩, ⟨some 72, none, .sidx, [.t 71, .c (.int .i64 0)]⟩,
  ⟨some 73, none, .bin .eql, [.t 72, .c (.int .u8 46)]⟩, ⟨some 74, none, .mv, [.t 73]⟩, ⟨some 75, some (74, true), .fldA 1, [.t 1]⟩, ⟨some 76, some (74, true), .load none, [.t 75]⟩,
  ⟨some 77, some (74, true), .idxA 1, [.t 76, .c (.int .i64 0)]⟩, ⟨some 78, some (74, true), .load none, [.t 77]⟩, ⟨some 79, some (74, true), .bin .neq, [.t 78, .c (.int .i64 0)]⟩,
  ⟨some 80, none, .pick, [.t 74, .t 79, .c (.bool false)]⟩, ⟨some 81, none, .mv, [.t 80]⟩, ⟨some 82, some (81, false), .fldA 0, [.t 1]⟩, ⟨some 83, some (81, false), .load none, [.t
  82]⟩, ⟨some 84, some (81, false), .fldA 0, [.t 1]⟩, ⟨some 85, some (81, false), .load none, [.t 84]⟩, ⟨some 86, some (81, false), .slen, [.t 85]⟩, ⟨some 87, some (81, false), .bin
  .sub, [.t 86, .c (.int .i64 1)]⟩, ⟨some 88, some (81, false), .sidx, [.t 83, .t 87]⟩, ⟨some 89, some (81, false), .bin .eql, [.t 88, .c (.int .u8 46)]⟩, ⟨some 90, some (81, false),
  .mv, [.t 89]⟩, ⟨some 91, some (90, true), .fldA 1, [.t 1]⟩, ⟨some 92, some (90, true), .load none, [.t 91]⟩, ⟨some 93, some (90, true), .fldA 1, [.t 1]⟩, ⟨some 94, some (90, true),
  .load none, [.t 93]⟩, ⟨some 95, some (90, true), .len, [.t 94]⟩, ⟨some 96, some (90, true), .bin .sub, [.t 95, .c (.int .i64 1)]⟩, ⟨some 97, some (90, true), .idxA 1, [.t 92, .t
  96]⟩, ⟨some 98, some (90, true), .load none, [.t 97]⟩, ⟨some 99, some (90, true), .bin .neq, [.t 98, .c (.int .i64 0)]⟩, ⟨some 100, some (81, false), .pick, [.t 90, .t 99, .c
  (.bool false)]⟩, ⟨some 101, none, .pick, [.t 81, .c (.bool true), .t 100]⟩]).seq (C.cond (.t 101) ((C.ops [⟨some 2, none, .mv, [.c (.int .i64 2)]⟩]).seq C.ret) C.skip)).seq ((C.ops
  [⟨some 2, none, .mv, [.c (.int .i64 0)]⟩]).seq
  C.ret))))))))))
theorem fn92 : FnIs Try.prog 92 102 1 [RV.tmp 2] c92 := ⟨Try.f92, Try.f92.body.getD .skip, [1], [77, 137, 140, 90], [], by kernel_rfl, by kernel_rfl, by kernel_rfl, by kernel_rfl, by kernel_rfl, by kernel_rfl, by kernel_rfl⟩
/-- apograph/apographref01.IsWord -/
def c93 : C :=
  ((C.ops [⟨some 2, none, .mv, [.c (.bool false)]⟩]).seq (((C.ops [⟨some 5, none, .mv, [.t 0]⟩, ⟨some 6, none, .slen, [.t 5]⟩, ⟨some 7, none, .bin .lss, [.t 6, .c (.int .i64 1)]⟩,
  ⟨some 8, none, .mv, [.t 7]⟩, ⟨some 9, some (8, false), .mv, [.t 0]⟩, ⟨some 10, some (8, false), .slen, [.t 9]⟩, ⟨some 11, some (8, false), .bin .gtr, [.t 10, .c (.int .i64 64)]⟩,
  ⟨some 12, none, .pick, [.t 8, .c (.bool true), .t 11]⟩, ⟨some 13, none, .mv, [.t 12]⟩, ⟨some 14, some (13, false), .mv, [.t 0]⟩, ⟨some 15, some (13, false), .call 118 true, [.t
  14]⟩, ⟨some 16, some (13, false), .bin .neq, [.t 15, .c (.int .i64 0)]⟩, ⟨some 17, none, .pick, [.t 13, .c (.bool true), .t 16]⟩]).seq (C.cond (.t 17) ((C.ops [⟨some 2, none, .mv,
  [.c (.bool false)]⟩]).seq C.ret) C.skip)).seq (((C.ops [⟨some 18, none, .mv, [.t 0]⟩, ⟨some 19, none, .sidx, [.t 18, .c (.int .i64 0)]⟩, ⟨some 20, none, .call 117 true, [.t 19]⟩,
  ⟨some 3, none, .mv, [.t 20]⟩]).seq ((C.ops [⟨some 21, none, .mv, [.t 3]⟩, ⟨some 22, none, .bin .neq, [.t 21, .c (.int .i64 1)]⟩, ⟨some 23, none, .mv, [.t 22]⟩, ⟨some 24, some (23,
  true), .mv, [.t 3]⟩, ⟨some 25, some (23, true), .bin .neq, [.t 24, .c (.int .i64 3)]⟩, ⟨some 26, none, .pick, [.t 23, .t 25, .c (.bool false)]⟩]).seq (C.cond (.t 26) ((C.ops [⟨some
  2, none, .mv, [.c (.bool false)]⟩]).seq C.ret) C.skip))).seq (((C.ops [⟨some 4, none, .mv, [.c (.int .i64 0)]⟩]).seq (C.block 0 (((C.ops [⟨some 27, none, .mv, [.t 4]⟩, ⟨some 28,
  none, .mv, [.t 0]⟩, ⟨some 29, none, .slen, [.t 28]⟩, ⟨some 30, none, .bin .lss, [.t 27, .t 29]⟩]).seq (C.cond (.t 30) C.skip (C.exit 0))).seq ((C.block 1 ((C.ops [⟨some 33, none,
  .mv, [.t 0]⟩, ⟨some 34, none, .mv, [.t 4]⟩, ⟨some 35, none, .sidx, [.t 33, .t 34]⟩, ⟨some 36, none, .call 117 true, [.t 35]⟩, ⟨some 37, none, .bin .gtr, [.t 36, .c (.int .i64
  4)]⟩]).seq (C.cond (.t 37) ((C.ops [⟨some 2, none, .mv, [.c (.bool false)]⟩]).seq C.ret) C.skip))).seq (C.ops [⟨some 31, none, .mv, [.t 4]⟩, ⟨some 32, none, .bin .add, [.t 31, .c
  (.int .i64 1)]⟩, ⟨some 4, none, .mv, [.t 32]⟩]))).loop)).seq ((C.ops [⟨some 2, none, .mv, [.c (.bool true)]⟩]).seq
  C.ret)))))
theorem fn93 : FnIs Try.prog 93 38 0 [RV.tmp 2] c93 := ⟨Try.f93, Try.f93.body.getD .skip, [], [77, 137, 140, 90], [], by kernel_rfl, by kernel_rfl, by kernel_rfl, by kernel_rfl, by kernel_rfl, by kernel_rfl, by kernel_rfl⟩
/-- apograph/apographref47.Points -/
def c94 : C :=
  ((C.ops [⟨some 4, none, .nilo 0 1 3, []⟩, ⟨some 5, none, .mv, [.c (.int .i64 0)]⟩]).seq (((C.ops [⟨some 12, none, .mv, [.t 0]⟩, ⟨some 13, none, .mv, [.t 1]⟩, ⟨some 14, none, .call
  119 true, [.t 12, .t 13]⟩, ⟨some 6, none, .mv, [.t 14]⟩]).seq ((C.ops [⟨some 15, none, .mv, [.t 6]⟩, ⟨some 16, none, .bin .neq, [.t 15, .c (.int .i64 0)]⟩]).seq (C.cond (.t 16)
  ((C.ops [⟨some 17, none, .mv, [.t 6]⟩, ⟨some 4, none, .nilo 0 1 3, []⟩, ⟨some 5, none, .mv, [.t 17]⟩]).seq C.ret) C.skip))).seq ((C.ops [⟨some 18, none, .mv, [.t 1]⟩, ⟨some 19,
  none, .call 71 true, [.t 18]⟩, ⟨some 20, none, .mv, [.t 0]⟩, ⟨some 21, none, .mv, [.t 1]⟩, ⟨some 22, none, .call 120 true, [.t 20, .t 21]⟩, ⟨some 7, none, .mv, [.t 19]⟩, ⟨some 8,
  none, .mv, [.t 22]⟩]).seq ((C.ops [⟨some 9, none, .nilo 1 1 3, []⟩]).seq ((C.ops [⟨some 10, none, .mv, [.c (.int .i64 0)]⟩]).seq (((C.ops [⟨some 11, none, .mv, [.c (.int .i64
  0)]⟩]).seq (C.block 0 (((C.ops [⟨some 23, none, .mv, [.t 11]⟩, ⟨some 24, none, .mv, [.t 7]⟩, ⟨some 25, none, .len, [.t 24]⟩, ⟨some 26, none, .bin .lss, [.t 23, .t 25]⟩]).seq
  (C.cond (.t 26) C.skip (C.exit 0))).seq ((C.block 1 (((C.ops [⟨some 29, none, .mv, [.t 11]⟩, ⟨some 30, none, .bin .geq, [.t 29, .c (.int .i64 2)]⟩, ⟨some 31, none, .mv, [.t 30]⟩,
  ⟨some 32, some (31, true), .mv, [.t 11]⟩, ⟨some 33, some (31, true), .mv, [.t 7]⟩, ⟨some 34, some (31, true), .len, [.t 33]⟩, ⟨some 35, some (31, true), .bin .sub, [.t 34, .c (.int
  .i64 2)]⟩, ⟨some 36, some (31, true), .bin .leq, [.t 32, .t 35]⟩, ⟨some 37, none, .pick, [.t 31, .t 36, .c (.bool false)]⟩, ⟨some 38, none, .mv, [.t 37]⟩, ⟨some 39, some (38,
  true), .mv, [.t 8]⟩, ⟨some 40, some (38, true), .mv, [.t 11]⟩, ⟨some 41, some (38, true), .bin .sub, [.t 40, .c (.int .i64 1)]⟩, ⟨some 42, some (38, true), .idxA 1, [.t 39, .t
  41]⟩, ⟨some 43, some (38, true), .load none, [.t 42]⟩, ⟨some 44, some (38, true), .bin .rem, [.t 43, .c (.int .i64 2)]⟩, ⟨some 45, some (38, true), .bin .eql, [.t 44, .c (.int .i64
  1)]⟩, ⟨some 46, none, .pick, [.t 38, .t 45, .c (.bool false)]⟩]).seq (C.cond (.t 46) (C.ops [⟨some 47, none, .mv, [.t 9]⟩, ⟨some 48, none, .mv, [.t 10]⟩, ⟨some 49, none, .bslc 2 1
  1 3 [.int .i64 0] [(0, 1)], [.t 48]⟩, ⟨some 50, none, .app 3 1 3 8, [.t 47, .t 49]⟩, ⟨some 9, none, .mv, [.t 50]⟩]) C.skip)).seq (C.ops [⟨some 51, none, .mv, [.t 10]⟩, ⟨some 52,
  none, .mv, [.t 7]⟩, ⟨some 53, none, .mv, [.t 11]⟩, ⟨some 54, none, .idxA 1, [.t 52, .t 53]⟩, ⟨some 55, none, .load none, [.t 54]⟩, ⟨some 56, none, .slen, [.t 55]⟩, ⟨some 57, none,
  .bin .add, [.t 51, .t 56]⟩, ⟨some 10, none, .mv, [.t 57]⟩]))).seq (C.ops [⟨some 27, none, .mv, [.t 11]⟩, ⟨some 28, none, .bin .add, [.t 27, .c (.int .i64 1)]⟩, ⟨some 11, none, .mv,
  [.t 28]⟩]))).loop)).seq ((C.ops [⟨some 58, none, .mv, [.t 9]⟩, ⟨some 4, none, .mv, [.t 58]⟩, ⟨some 5, none, .mv, [.c (.int .i64 0)]⟩]).seq
  C.ret)))))))
theorem fn94 : FnIs Try.prog 94 59 4 [RV.tmp 4, RV.tmp 5] c94 := ⟨Try.f94, Try.f94.body.getD .skip, [4, 9, 49, 50], [77, 137, 140, 90], [], by kernel_rfl, by kernel_rfl, by kernel_rfl, by kernel_rfl, by kernel_rfl, by kernel_rfl, by kernel_rfl⟩
/-- apograph/apographref01.right -/
def c95 : C :=
  ((C.ops [⟨some 2, none, .nilo 0 1 4, []⟩]).seq ((C.ops [⟨some 5, none, .bslc 1 1 0 4 [.bool false] [], []⟩, ⟨some 3, none, .mv, [.t 5]⟩]).seq (((C.ops [⟨some 4, none, .mv, [.c
  (.int .i64 0)]⟩]).seq (C.block 0 (((C.ops [⟨some 6, none, .mv, [.t 4]⟩, ⟨some 7, none, .mv, [.t 0]⟩, ⟨some 8, none, .slen, [.t 7]⟩, ⟨some 9, none, .bin .lss, [.t 6, .t 8]⟩]).seq
  (C.cond (.t 9) C.skip (C.exit 0))).seq ((C.block 1 (C.ops [⟨some 12, none, .mv, [.t 3]⟩, ⟨some 13, none, .mv, [.t 0]⟩, ⟨some 14, none, .mv, [.t 4]⟩, ⟨some 15, none, .sidx, [.t 13,
  .t 14]⟩, ⟨some 16, none, .call 117 true, [.t 15]⟩, ⟨some 17, none, .bin .eql, [.t 16, .c (.int .i64 2)]⟩, ⟨some 18, none, .mv, [.t 17]⟩, ⟨some 19, some (18, true), .mv, [.t 4]⟩,
  ⟨some 20, some (18, true), .bin .gtr, [.t 19, .c (.int .i64 0)]⟩, ⟨some 21, none, .pick, [.t 18, .t 20, .c (.bool false)]⟩, ⟨some 22, none, .mv, [.t 21]⟩, ⟨some 23, some (22,
  true), .mv, [.t 0]⟩, ⟨some 24, some (22, true), .mv, [.t 4]⟩, ⟨some 25, some (22, true), .bin .sub, [.t 24, .c (.int .i64 1)]⟩, ⟨some 26, some (22, true), .sidx, [.t 23, .t 25]⟩,
  ⟨some 27, some (22, true), .call 117 true, [.t 26]⟩, ⟨some 28, some (22, true), .bin .eql, [.t 27, .c (.int .i64 1)]⟩, ⟨some 29, some (22, true), .mv, [.t 28]⟩, ⟨some 30, some (29,
  false), .mv, [.t 3]⟩, ⟨some 31, some (29, false), .mv, [.t 4]⟩, ⟨some 32, some (29, false), .bin .sub, [.t 31, .c (.int .i64 1)]⟩, ⟨some 33, some (29, false), .idxA 1, [.t 30, .t
  32]⟩, ⟨some 34, some (29, false), .load none, [.t 33]⟩, ⟨some 35, some (22, true), .pick, [.t 29, .c (.bool true), .t 34]⟩, ⟨some 36, none, .pick, [.t 22, .t 35, .c (.bool
  false)]⟩, ⟨some 37, none, .bslc 2 1 1 4 [.bool false] [(0, 1)], [.t 36]⟩, ⟨some 38, none, .app 3 1 4 1, [.t 12, .t 37]⟩, ⟨some 3, none, .mv, [.t 38]⟩])).seq (C.ops [⟨some 10, none,
  .mv, [.t 4]⟩, ⟨some 11, none, .bin .add, [.t 10, .c (.int .i64 1)]⟩, ⟨some 4, none, .mv, [.t 11]⟩]))).loop)).seq ((C.ops [⟨some 39, none, .mv, [.t 3]⟩, ⟨some 2, none, .mv, [.t
  39]⟩]).seq
  C.ret))))
theorem fn95 : FnIs Try.prog 95 40 4 [RV.tmp 2] c95 := ⟨Try.f95, Try.f95.body.getD .skip, [2, 5, 37, 38], [77, 137, 140, 90], [], by kernel_rfl, by kernel_rfl, by kernel_rfl, by kernel_rfl, by kernel_rfl, by kernel_rfl, by kernel_rfl⟩
/-- strings.TrimSuffix -/
def c100 : C :=
  ((C.ops [⟨some 4, none, .mv, [.c (.str [])]⟩]).seq ((C.ops [⟨some 5, none, .mv, [.t 0]⟩, ⟨some 6, none, .mv, [.t 1]⟩, ⟨some 7, none, .call 124 true, [.t 5, .t 6]⟩, ⟨some 4, none,
  .mv, [.t 7]⟩]).seq
  C.ret))
theorem fn100 : FnIs Try.prog 100 8 0 [RV.tmp 4] c100 := ⟨Try.f100, Try.f100.body.getD .skip, [], [77, 137, 140, 90], [], by kernel_rfl, by kernel_rfl, by kernel_rfl, by kernel_rfl, by kernel_rfl, by kernel_rfl, by kernel_rfl⟩
/-- strings.TrimPrefix -/
def c101 : C :=
  ((C.ops [⟨some 4, none, .mv, [.c (.str [])]⟩]).seq ((C.ops [⟨some 5, none, .mv, [.t 0]⟩, ⟨some 6, none, .mv, [.t 1]⟩, ⟨some 7, none, .call 125 true, [.t 5, .t 6]⟩, ⟨some 4, none,
  .mv, [.t 7]⟩]).seq
  C.ret))
theorem fn101 : FnIs Try.prog 101 8 0 [RV.tmp 4] c101 := ⟨Try.f101, Try.f101.body.getD .skip, [], [77, 137, 140, 90], [], by kernel_rfl, by kernel_rfl, by kernel_rfl, by kernel_rfl, by kernel_rfl, by kernel_rfl, by kernel_rfl⟩
/-- apograph/hyphenation.checkPattern$1 -/
def c102 : C :=
  ((C.ops [⟨some 2, none, .mv, [.c (.bool false)]⟩]).seq ((C.ops [⟨some 4, none, .mv, [.t 0]⟩, ⟨some 5, none, .call 103 true, [.t 4]⟩, ⟨some 3, none, .mv, [.t 5]⟩]).seq ((C.ops
  [⟨some 6, none, .mv, [.t 3]⟩, ⟨some 7, none, .bin .eql, [.t 6, .c (.int .i64 1)]⟩, ⟨some 8, none, .mv, [.t 7]⟩, ⟨some 9, some (8, false), .mv, [.t 3]⟩, ⟨some 10, some (8, false),
  .bin .eql, [.t 9, .c (.int .i64 2)]⟩, ⟨some 11, none, .pick, [.t 8, .c (.bool true), .t 10]⟩, ⟨some 12, none, .mv, [.t 11]⟩, ⟨some 13, some (12, false), .mv, [.t 3]⟩, ⟨some 14,
  some (12, false), .bin .eql, [.t 13, .c (.int .i64 4)]⟩, ⟨some 15, none, .pick, [.t 12, .c (.bool true), .t 14]⟩, ⟨some 2, none, .mv, [.t 15]⟩]).seq
  C.ret)))
theorem fn102 : FnIs Try.prog 102 16 0 [RV.tmp 2] c102 := ⟨Try.f102, Try.f102.body.getD .skip, [], [77, 137, 140, 90], [], by kernel_rfl, by kernel_rfl, by kernel_rfl, by kernel_rfl, by kernel_rfl, by kernel_rfl, by kernel_rfl⟩
/-- apograph/charset.Kind -/
def c103 : C :=
  ((C.ops [⟨some 2, none, .mv, [.c (.int .i64 0)]⟩]).seq ((C.block 0 ((C.ops [⟨some 4, none, .mv, [.t 0]⟩, ⟨some 5, none, .bin .geq, [.t 4, .c (.int .u8 97)]⟩, ⟨some 6, none, .mv,
  [.t 5]⟩, ⟨some 7, some (6, true), .mv, [.t 0]⟩, ⟨some 8, some (6, true), .bin .leq, [.t 7, .c (.int .u8 122)]⟩, ⟨some 9, none, .pick, [.t 6, .t 8, .c (.bool false)]⟩, ⟨some 10,
  none, .mv, [.t 9]⟩, ⟨some 11, some (10, false), .mv, [.t 0]⟩, ⟨some 12, some (10, false), .bin .geq, [.t 11, .c (.int .u8 65)]⟩, ⟨some 13, some (10, false), .mv, [.t 12]⟩, ⟨some
  14, some (13, true), .mv, [.t 0]⟩, ⟨some 15, some (13, true), .bin .leq, [.t 14, .c (.int .u8 90)]⟩, ⟨some 16, some (10, false), .pick, [.t 13, .t 15, .c (.bool false)]⟩, ⟨some 17,
  none, .pick, [.t 10, .c (.bool true), .t 16]⟩, ⟨some 3, none, .mv, [.t 17]⟩]).seq (C.cond (.t 3) ((C.ops [⟨some 2, none, .mv, [.c (.int .i64 1)]⟩]).seq C.ret) ((C.ops [⟨some 19,
  none, .mv, [.t 0]⟩, ⟨some 20, none, .bin .eql, [.t 19, .c (.int .u8 94)]⟩, ⟨some 21, none, .mv, [.t 20]⟩, ⟨some 22, some (21, false), .mv, [.t 0]⟩, ⟨some 23, some (21, false), .bin
  .eql, [.t 22, .c (.int .u8 126)]⟩, ⟨some 24, none, .pick, [.t 21, .c (.bool true), .t 23]⟩, ⟨some 25, none, .mv, [.t 24]⟩, ⟨some 26, some (25, false), .mv, [.t 0]⟩, ⟨some 27, some
  (25, false), .bin .eql, [.t 26, .c (.int .u8 37)]⟩, ⟨some 28, none, .pick, [.t 25, .c (.bool true), .t 27]⟩, ⟨some 18, none, .mv, [.t 28]⟩]).seq (C.cond (.t 18) ((C.ops [⟨some 2,
  none, .mv, [.c (.int .i64 2)]⟩]).seq C.ret) ((C.ops [⟨some 30, none, .mv, [.t 0]⟩, ⟨some 31, none, .bin .geq, [.t 30, .c (.int .u8 48)]⟩, ⟨some 32, none, .mv, [.t 31]⟩, ⟨some 33,
  some (32, true), .mv, [.t 0]⟩, ⟨some 34, some (32, true), .bin .leq, [.t 33, .c (.int .u8 57)]⟩, ⟨some 35, none, .pick, [.t 32, .t 34, .c (.bool false)]⟩, ⟨some 29, none, .mv, [.t
  35]⟩]).seq (C.cond (.t 29) ((C.ops [⟨some 2, none, .mv, [.c (.int .i64 3)]⟩]).seq C.ret) ((C.ops [⟨some 37, none, .mv, [.t 0]⟩, ⟨some 38, none, .bin .eql, [.t 37, .c (.int .u8
  39)]⟩, ⟨some 36, none, .mv, [.t 38]⟩]).seq (C.cond (.t 36) ((C.ops [⟨some 2, none, .mv, [.c (.int .i64 4)]⟩]).seq C.ret) ((C.ops [⟨some 40, none, .mv, [.t 0]⟩, ⟨some 41, none, .bin
  .eql, [.t 40, .c (.int .u8 32)]⟩, ⟨some 39, none, .mv, [.t 41]⟩]).seq (C.cond (.t 39) ((C.ops [⟨some 2, none, .mv, [.c (.int .i64 6)]⟩]).seq C.ret) ((C.ops [⟨some 43, none, .mv,
  [.t 0]⟩, ⟨some 44, none, .bin .neq, [.t 43, .c (.int .u8 0)]⟩, ⟨some 45, none, .mv, [.t 44]⟩, ⟨some 46, some (45, true), .mv, [.t 0]⟩, ⟨some 47, some (45, true), .call 126 true,
  [.c (.str [46, 44, 59, 58, 33, 63, 40, 41, 45]), .t 46]⟩, ⟨some 48, some (45, true), .bin .geq, [.t 47, .c (.int .i64 0)]⟩, ⟨some 49, none, .pick, [.t 45, .t 48, .c (.bool
  false)]⟩, ⟨some 42, none, .mv, [.t 49]⟩]).seq (C.cond (.t 42) ((C.ops [⟨some 2, none, .mv, [.c (.int .i64 5)]⟩]).seq C.ret) C.skip))))))))))))).seq ((C.ops [⟨some 2, none, .mv, [.c
  (.int .i64 0)]⟩]).seq
  C.ret)))
theorem fn103 : FnIs Try.prog 103 50 0 [RV.tmp 2] c103 := ⟨Try.f103, Try.f103.body.getD .skip, [], [77, 137, 140, 90], [], by kernel_rfl, by kernel_rfl, by kernel_rfl, by kernel_rfl, by kernel_rfl, by kernel_rfl, by kernel_rfl⟩
/-- apograph/charset.Check -/
def c104 : C :=
  ((C.ops [⟨some 2, none, .alloc 0 30 [.int .i64 0], []⟩]).seq (((C.ops [⟨some 6, none, .mv, [.t 0]⟩, ⟨some 7, none, .slen, [.t 6]⟩, ⟨some 8, none, .bin .gtr, [.t 7, .c (.int .i64
  65536)]⟩]).seq (C.cond (.t 8) ((C.ops [⟨none, none, .store 1, [.t 2, .c (.int .i64 4)]⟩]).seq C.ret) C.skip)).seq (((C.ops [⟨some 9, none, .mv, [.t 0]⟩, ⟨some 10, none, .call 91
  true, [.t 9]⟩]).seq (C.block 0 (C.range (.t 10) [11, 12] (C.ops [⟨some 4, none, .mv, [.t 12]⟩]) (C.block 1 ((C.ops [⟨some 13, none, .mv, [.t 4]⟩, ⟨some 14, none, .sidx, [.t 13, .c
  (.int .i64 0)]⟩, ⟨some 15, none, .call 103 true, [.t 14]⟩, ⟨some 5, none, .mv, [.t 15]⟩]).seq ((C.ops [⟨some 16, none, .mv, [.t 5]⟩, ⟨some 17, none, .bin .eql, [.t 16, .c (.int
  .i64 0)]⟩, ⟨some 18, none, .mv, [.t 17]⟩, ⟨some 19, some (18, false), .mv, [.t 5]⟩, ⟨some 20, some (18, false), .bin .eql, [.t 19, .c (.int .i64 2)]⟩, ⟨some 21, none, .pick, [.t
  18, .c (.bool true), .t 20]⟩]).seq (C.cond (.t 21) ((C.ops [⟨none, none, .store 1, [.t 2, .c (.int .i64 11)]⟩]).seq C.ret) C.skip))))))).seq ((C.ops [⟨none, none, .store 1, [.t 2,
  .c (.int .i64 0)]⟩]).seq
  C.ret))))
theorem fn104 : FnIs Try.prog 104 22 1 [RV.cell 2 none] c104 := ⟨Try.f104, Try.f104.body.getD .skip, [2], [77, 137, 140, 90], [], by kernel_rfl, by kernel_rfl, by kernel_rfl, by kernel_rfl, by kernel_rfl, by kernel_rfl, by kernel_rfl⟩
/-- apograph/hyphenation.units -/
def c105 : C :=
  ((C.ops [⟨some 2, none, .nilo 0 1 9, []⟩]).seq ((C.ops [⟨some 3, none, .mv, [.t 0]⟩, ⟨some 4, none, .call 67 true, [.t 3]⟩, ⟨some 2, none, .mv, [.t 4]⟩]).seq
  C.ret))
theorem fn105 : FnIs Try.prog 105 5 1 [RV.tmp 2] c105 := ⟨Try.f105, Try.f105.body.getD .skip, [2], [77, 137, 140, 90], [], by kernel_rfl, by kernel_rfl, by kernel_rfl, by kernel_rfl, by kernel_rfl, by kernel_rfl, by kernel_rfl⟩
/-- slices.ContainsFunc[[]int,int] -/
def c106 : C :=
  ((C.ops [⟨some 4, none, .mv, [.c (.bool false)]⟩]).seq ((C.ops [⟨some 5, none, .mv, [.t 0]⟩, ⟨some 6, none, .mv, [.t 1]⟩, ⟨some 7, none, .call 127 true, [.t 5, .t 6]⟩, ⟨some 8,
  none, .bin .geq, [.t 7, .c (.int .i64 0)]⟩, ⟨some 4, none, .mv, [.t 8]⟩]).seq
  C.ret))
theorem fn106 : FnIs Try.prog 106 9 0 [RV.tmp 4] c106 := ⟨Try.f106, Try.f106.body.getD .skip, [], [77, 137, 140, 90], [], by kernel_rfl, by kernel_rfl, by kernel_rfl, by kernel_rfl, by kernel_rfl, by kernel_rfl, by kernel_rfl⟩
/-- apograph/hyphenation.checkPattern$2 -/
def c107 : C :=
  ((C.ops [⟨some 2, none, .mv, [.c (.bool false)]⟩]).seq ((C.ops [⟨some 3, none, .mv, [.t 0]⟩, ⟨some 4, none, .bin .lss, [.t 3, .c (.int .i64 0)]⟩, ⟨some 5, none, .mv, [.t 4]⟩, ⟨some
  6, some (5, false), .mv, [.t 0]⟩, ⟨some 7, some (5, false), .bin .gtr, [.t 6, .c (.int .i64 9)]⟩, ⟨some 8, none, .pick, [.t 5, .c (.bool true), .t 7]⟩, ⟨some 2, none, .mv, [.t
  8]⟩]).seq
  C.ret))
theorem fn107 : FnIs Try.prog 107 9 0 [RV.tmp 2] c107 := ⟨Try.f107, Try.f107.body.getD .skip, [], [77, 137, 140, 90], [], by kernel_rfl, by kernel_rfl, by kernel_rfl, by kernel_rfl, by kernel_rfl, by kernel_rfl, by kernel_rfl⟩
/-- strings.HasPrefix -/
def c108 : C :=
  ((C.ops [⟨some 4, none, .mv, [.c (.bool false)]⟩]).seq ((C.ops [⟨some 5, none, .mv, [.t 0]⟩, ⟨some 6, none, .mv, [.t 1]⟩, ⟨some 7, none, .call 128 true, [.t 5, .t 6]⟩, ⟨some 4,
  none, .mv, [.t 7]⟩]).seq
  C.ret))
theorem fn108 : FnIs Try.prog 108 8 0 [RV.tmp 4] c108 := ⟨Try.f108, Try.f108.body.getD .skip, [], [77, 137, 140, 90], [], by kernel_rfl, by kernel_rfl, by kernel_rfl, by kernel_rfl, by kernel_rfl, by kernel_rfl, by kernel_rfl⟩
/-- strings.HasSuffix -/
def c109 : C :=
  ((C.ops [⟨some 4, none, .mv, [.c (.bool false)]⟩]).seq ((C.ops [⟨some 5, none, .mv, [.t 0]⟩, ⟨some 6, none, .mv, [.t 1]⟩, ⟨some 7, none, .call 129 true, [.t 5, .t 6]⟩, ⟨some 4,
  none, .mv, [.t 7]⟩]).seq
  C.ret))
theorem fn109 : FnIs Try.prog 109 8 0 [RV.tmp 4] c109 := ⟨Try.f109, Try.f109.body.getD .skip, [], [77, 137, 140, 90], [], by kernel_rfl, by kernel_rfl, by kernel_rfl, by kernel_rfl, by kernel_rfl, by kernel_rfl, by kernel_rfl⟩
/-- slices.ContainsFunc[[]byte,byte] -/
def c110 : C :=
  ((C.ops [⟨some 4, none, .mv, [.c (.bool false)]⟩]).seq ((C.ops [⟨some 5, none, .mv, [.t 0]⟩, ⟨some 6, none, .mv, [.t 1]⟩, ⟨some 7, none, .call 130 true, [.t 5, .t 6]⟩, ⟨some 8,
  none, .bin .geq, [.t 7, .c (.int .i64 0)]⟩, ⟨some 4, none, .mv, [.t 8]⟩]).seq
  C.ret))
theorem fn110 : FnIs Try.prog 110 9 0 [RV.tmp 4] c110 := ⟨Try.f110, Try.f110.body.getD .skip, [], [77, 137, 140, 90], [], by kernel_rfl, by kernel_rfl, by kernel_rfl, by kernel_rfl, by kernel_rfl, by kernel_rfl, by kernel_rfl⟩
/-- apograph/charset.IsWord$1 -/
def c111 : C :=
  ((C.ops [⟨some 2, none, .mv, [.c (.bool false)]⟩]).seq ((C.ops [⟨some 4, none, .mv, [.t 0]⟩, ⟨some 5, none, .call 103 true, [.t 4]⟩, ⟨some 3, none, .mv, [.t 5]⟩]).seq ((C.ops
  [⟨some 6, none, .mv, [.t 3]⟩, ⟨some 7, none, .bin .eql, [.t 6, .c (.int .i64 5)]⟩, ⟨some 8, none, .mv, [.t 7]⟩, ⟨some 9, some (8, false), .mv, [.t 3]⟩, ⟨some 10, some (8, false),
  .bin .eql, [.t 9, .c (.int .i64 6)]⟩, ⟨some 11, none, .pick, [.t 8, .c (.bool true), .t 10]⟩, ⟨some 2, none, .mv, [.t 11]⟩]).seq
  C.ret)))
theorem fn111 : FnIs Try.prog 111 12 0 [RV.tmp 2] c111 := ⟨Try.f111, Try.f111.body.getD .skip, [], [77, 137, 140, 90], [], by kernel_rfl, by kernel_rfl, by kernel_rfl, by kernel_rfl, by kernel_rfl, by kernel_rfl, by kernel_rfl⟩
/-- apograph/hyphenation.check -/
def c112 : C :=
  ((C.ops [⟨some 4, none, .mv, [.c (.int .i64 0)]⟩]).seq ((C.block 0 ((C.ops [⟨some 6, none, .mv, [.t 0]⟩, ⟨some 7, none, .call 64 true, [.t 6]⟩, ⟨some 8, none, .bin .neq, [.t 7, .c
  (.int .i64 0)]⟩, ⟨some 5, none, .mv, [.t 8]⟩]).seq (C.cond (.t 5) ((C.ops [⟨some 4, none, .mv, [.c (.int .i64 1)]⟩]).seq C.ret) ((C.ops [⟨some 10, none, .mv, [.t 1]⟩, ⟨some 11,
  none, .call 88 true, [.t 10]⟩, ⟨some 12, none, .un UnOp.not, [.t 11]⟩, ⟨some 9, none, .mv, [.t 12]⟩]).seq (C.cond (.t 9) ((C.ops [⟨some 4, none, .mv, [.c (.int .i64 11)]⟩]).seq
  C.ret) C.skip))))).seq ((C.ops [⟨some 4, none, .mv, [.c (.int .i64 0)]⟩]).seq
  C.ret)))
theorem fn112 : FnIs Try.prog 112 13 0 [RV.tmp 4] c112 := ⟨Try.f112, Try.f112.body.getD .skip, [], [77, 137, 140, 90], [], by kernel_rfl, by kernel_rfl, by kernel_rfl, by kernel_rfl, by kernel_rfl, by kernel_rfl, by kernel_rfl⟩
/-- apograph/hyphenation.points -/
def c113 : C :=
  ((C.ops [⟨some 4, none, .nilo 0 1 3, []⟩, ⟨some 5, none, .nilo 1 1 3, []⟩]).seq ((C.ops [⟨some 6, none, .nilo 2 1 3, []⟩, ⟨some 7, none, .nilo 3 1 3, []⟩]).seq ((C.ops [⟨some 12,
  none, .mv, [.t 1]⟩, ⟨some 13, none, .call 105 true, [.t 12]⟩, ⟨some 8, none, .mv, [.t 13]⟩]).seq ((C.ops [⟨some 9, none, .mv, [.c (.int .i64 0)]⟩]).seq (((C.ops [⟨some 14, none,
  .mv, [.t 0]⟩, ⟨some 15, none, .mv, [.t 1]⟩, ⟨some 16, none, .call 131 true, [.t 14, .t 15]⟩, ⟨some 17, none, .len, [.t 16]⟩, ⟨some 18, none, .mv, [.c (.int .i64 0)]⟩]).seq (C.block
  0 ((C.ops [⟨some 19, none, .bin .lss, [.t 18, .t 17]⟩]).seq ((C.cond (.t 19) C.skip (C.exit 0)).seq ((C.block 1 ((C.ops [⟨some 20, none, .mv, [.t 18]⟩, ⟨some 21, none, .idxA 1, [.t
  16, .t 18]⟩, ⟨some 22, none, .load none, [.t 21]⟩, ⟨some 10, none, .mv, [.t 20]⟩, ⟨some 11, none, .mv, [.t 22]⟩]).seq ((C.ops [⟨some 23, none, .mv, [.t 9]⟩, ⟨some 24, none, .mv,
  [.t 8]⟩, ⟨some 25, none, .mv, [.t 10]⟩, ⟨some 26, none, .idxA 1, [.t 24, .t 25]⟩, ⟨some 27, none, .load none, [.t 26]⟩, ⟨some 28, none, .slen, [.t 27]⟩, ⟨some 29, none, .bin .add,
  [.t 23, .t 28]⟩, ⟨some 9, none, .mv, [.t 29]⟩]).seq ((C.ops [⟨some 30, none, .mv, [.t 11]⟩, ⟨some 31, none, .bin .rem, [.t 30, .c (.int .i64 2)]⟩, ⟨some 32, none, .bin .eql, [.t
  31, .c (.int .i64 1)]⟩, ⟨some 33, none, .mv, [.t 32]⟩, ⟨some 34, some (33, true), .mv, [.t 10]⟩, ⟨some 35, some (33, true), .bin .geq, [.t 34, .c (.int .i64 1)]⟩, ⟨some 36, none,
  .pick, [.t 33, .t 35, .c (.bool false)]⟩, ⟨some 37, none, .mv, [.t 36]⟩, ⟨some 38, some (37, true), .mv, [.t 8]⟩, ⟨some 39, some (37, true), .len, [.t 38]⟩, ⟨some 40, some (37,
  true), .mv, [.t 10]⟩, ⟨some 41, some (37, true), .bin .sub, [.t 39, .t 40]⟩, ⟨some 42, some (37, true), .bin .sub, [.t 41, .c (.int .i64 1)]⟩, ⟨some 43, some (37, true), .bin .geq,
  [.t 42, .c (.int .i64 2)]⟩, ⟨some 44, none, .pick, [.t 37, .t 43, .c (.bool false)]⟩]).seq (C.cond (.t 44) (C.ops [⟨some 45, none, .mv, [.t 6]⟩, ⟨some 46, none, .mv, [.t 9]⟩, ⟨some
  47, none, .bslc 4 1 1 3 [.int .i64 0] [(0, 1)], [.t 46]⟩, ⟨some 48, none, .app 5 1 3 8, [.t 45, .t 47]⟩, ⟨some 49, none, .mv, [.t 7]⟩, ⟨some 50, none, .mv, [.t 11]⟩, ⟨some 51,
  none, .bslc 6 1 1 3 [.int .i64 0] [(0, 1)], [.t 50]⟩, ⟨some 52, none, .app 7 1 3 8, [.t 49, .t 51]⟩, ⟨some 6, none, .mv, [.t 48]⟩, ⟨some 7, none, .mv, [.t 52]⟩]) C.skip))))).seq
  (C.ops [⟨some 53, none, .bin .add, [.t 18, .c (.int .i64 1)]⟩, ⟨some 18, none, .mv, [.t 53]⟩])))).loop)).seq ((C.ops [⟨some 54, none, .mv, [.t 6]⟩, ⟨some 55, none, .mv, [.t 7]⟩,
  ⟨some 4, none, .mv, [.t 54]⟩, ⟨some 5, none, .mv, [.t 55]⟩]).seq
  C.ret))))))
theorem fn113 : FnIs Try.prog 113 56 8 [RV.tmp 4, RV.tmp 5] c113 := ⟨Try.f113, Try.f113.body.getD .skip, [4, 5, 6, 7, 47, 48, 51, 52], [77, 137, 140, 90], [], by kernel_rfl, by kernel_rfl, by kernel_rfl, by kernel_rfl, by kernel_rfl, by kernel_rfl, by kernel_rfl⟩
/-- apograph/charset.clusters$1 -/
def c114 : C :=
  ((C.ops [⟨some 3, none, .mv, [.c (.int .i64 0)]⟩]).seq ((C.ops [⟨some 4, none, .mv, [.c (.int .i64 1)]⟩]).seq (C.block 0 (((C.ops [⟨some 5, none, .mv, [.t 4]⟩, ⟨some 6, none, .load
  none, [.t 1]⟩, ⟨some 7, none, .slen, [.t 6]⟩, ⟨some 8, none, .bin .leq, [.t 5, .t 7]⟩]).seq (C.cond (.t 8) C.skip (C.exit 0))).seq ((C.block 1 (((C.ops [⟨some 11, none, .mv, [.t
  4]⟩, ⟨some 12, none, .load none, [.t 1]⟩, ⟨some 13, none, .slen, [.t 12]⟩, ⟨some 14, none, .bin .lss, [.t 11, .t 13]⟩, ⟨some 15, none, .mv, [.t 14]⟩, ⟨some 16, some (15, true),
  .load none, [.t 1]⟩, ⟨some 17, some (15, true), .mv, [.t 4]⟩, ⟨some 18, some (15, true), .sidx, [.t 16, .t 17]⟩, ⟨some 19, some (15, true), .call 103 true, [.t 18]⟩, ⟨some 20, some
  (15, true), .bin .eql, [.t 19, .c (.int .i64 2)]⟩, ⟨some 21, none, .pick, [.t 15, .t 20, .c (.bool false)]⟩, ⟨some 22, none, .mv, [.t 21]⟩, ⟨some 23, some (22, true), .load none,
  [.t 1]⟩, ⟨some 24, some (22, true), .mv, [.t 3]⟩, ⟨some 25, some (22, true), .mv, [.t 4]⟩, ⟨some 26, some (22, true), .call 115 true, [.t 23, .t 24, .t 25]⟩, ⟨some 27, none, .pick,
  [.t 22, .t 26, .c (.bool false)]⟩]).seq (C.cond (.t 27) (C.exit 1) C.skip)).seq (((C.ops [⟨some 28, none, .mv, [.t 0]⟩, ⟨some 29, none, .mv, [.t 3]⟩, ⟨some 30, none, .load none,
  [.t 1]⟩, ⟨some 31, none, .mv, [.t 3]⟩, ⟨some 32, none, .mv, [.t 4]⟩, ⟨some 33, none, .sslc true true, [.t 30, .t 31, .t 32]⟩, ⟨some 34, none, .callv, [.t 28, .t 29, .t 33]⟩, ⟨some
  35, none, .un UnOp.not, [.t 34]⟩]).seq (C.cond (.t 35) C.ret C.skip)).seq (C.ops [⟨some 36, none, .mv, [.t 4]⟩, ⟨some 3, none, .mv, [.t 36]⟩])))).seq (C.ops [⟨some 9, none, .mv,
  [.t 4]⟩, ⟨some 10, none, .bin .add, [.t 9, .c (.int .i64 1)]⟩, ⟨some 4, none, .mv, [.t
  10]⟩]))).loop)))
theorem fn114 : FnIs Try.prog 114 37 0 [] c114 := ⟨Try.f114, Try.f114.body.getD .skip, [], [77, 137, 140, 90], [], by kernel_rfl, by kernel_rfl, by kernel_rfl, by kernel_rfl, by kernel_rfl, by kernel_rfl, by kernel_rfl⟩
/-- apograph/charset.right -/
def c115 : C :=
  ((C.ops [⟨some 6, none, .mv, [.c (.bool false)]⟩]).seq ((C.ops [⟨some 7, none, .mv, [.t 0]⟩, ⟨some 8, none, .mv, [.t 1]⟩, ⟨some 9, none, .sidx, [.t 7, .t 8]⟩, ⟨some 10, none, .call
  103 true, [.t 9]⟩, ⟨some 11, none, .bin .eql, [.t 10, .c (.int .i64 1)]⟩, ⟨some 12, none, .mv, [.t 11]⟩, ⟨some 13, some (12, true), .mv, [.t 2]⟩, ⟨some 14, some (12, true), .mv,
  [.t 1]⟩, ⟨some 15, some (12, true), .bin .gtr, [.t 13, .t 14]⟩, ⟨some 16, none, .pick, [.t 12, .t 15, .c (.bool false)]⟩, ⟨some 6, none, .mv, [.t 16]⟩]).seq
  C.ret))
theorem fn115 : FnIs Try.prog 115 17 0 [RV.tmp 6] c115 := ⟨Try.f115, Try.f115.body.getD .skip, [], [77, 137, 140, 90], [], by kernel_rfl, by kernel_rfl, by kernel_rfl, by kernel_rfl, by kernel_rfl, by kernel_rfl, by kernel_rfl⟩
/-- apograph/apographref47.bordered -/
def c116 : C :=
  ((C.ops [⟨some 2, none, .mv, [.c (.str [])]⟩]).seq (((C.ops [⟨some 3, none, .mv, [.t 0]⟩, ⟨some 4, none, .bin .neq, [.t 3, .c (.str [])]⟩, ⟨some 5, none, .mv, [.t 4]⟩, ⟨some 6,
  some (5, true), .mv, [.t 0]⟩, ⟨some 7, some (5, true), .sidx, [.t 6, .c (.int .i64 0)]⟩, ⟨some 8, some (5, true), .bin .eql, [.t 7, .c (.int .u8 46)]⟩, ⟨some 9, none, .pick, [.t 5,
  .t 8, .c (.bool false)]⟩]).seq (C.cond (.t 9) (C.ops [⟨some 10, none, .mv, [.t 0]⟩, ⟨some 11, none, .sslc true false, [.t 10, .c (.int .i64 1)]⟩, ⟨some 0, none, .mv, [.t 11]⟩])
  C.skip)).seq (((C.ops [⟨some 12, none, .mv, [.t 0]⟩, ⟨some 13, none, .bin .neq, [.t 12, .c (.str [])]⟩, ⟨some 14, none, .mv, [.t 13]⟩, ⟨some 15, some (14, true), .mv, [.t 0]⟩,
  ⟨some 16, some (14, true), .mv, [.t 0]⟩, ⟨some 17, some (14, true), .slen, [.t 16]⟩, ⟨some 18, some (14, true), .bin .sub, [.t 17, .c (.int .i64 1)]⟩, ⟨some 19, some (14, true),
  .sidx, [.t 15, .t 18]⟩, ⟨some 20, some (14, true), .bin .eql, [.t 19, .c (.int .u8 46)]⟩, ⟨some 21, none, .pick, [.t 14, .t 20, .c (.bool false)]⟩]).seq (C.cond (.t 21) (C.ops
  [⟨some 22, none, .mv, [.t 0]⟩, ⟨some 23, none, .mv, [.t 0]⟩, ⟨some 24, none, .slen, [.t 23]⟩, ⟨some 25, none, .bin .sub, [.t 24, .c (.int .i64 1)]⟩, ⟨some 26, none, .sslc false
  true, [.t 22, .t 25]⟩, ⟨some 0, none, .mv, [.t 26]⟩]) C.skip)).seq ((C.ops [⟨some 27, none, .mv, [.t 0]⟩, ⟨some 2, none, .mv, [.t 27]⟩]).seq
  C.ret))))
theorem fn116 : FnIs Try.prog 116 28 0 [RV.tmp 2] c116 := ⟨Try.f116, Try.f116.body.getD .skip, [], [77, 137, 140, 90], [], by kernel_rfl, by kernel_rfl, by kernel_rfl, by kernel_rfl, by kernel_rfl, by kernel_rfl, by kernel_rfl⟩
/-- apograph/apographref01.Kind -/
def c117 : C :=
  ((C.ops [⟨some 2, none, .mv, [.c (.int .i64 0)]⟩]).seq ((C.block 0 ((C.ops [⟨some 4, none, .mv, [.t 0]⟩, ⟨some 5, none, .bin .geq, [.t 4, .c (.int .u8 97)]⟩, ⟨some 6, none, .mv,
  [.t 5]⟩, ⟨some 7, some (6, true), .mv, [.t 0]⟩, ⟨some 8, some (6, true), .bin .leq, [.t 7, .c (.int .u8 122)]⟩, ⟨some 9, none, .pick, [.t 6, .t 8, .c (.bool false)]⟩, ⟨some 10,
  none, .mv, [.t 9]⟩, ⟨some 11, some (10, false), .mv, [.t 0]⟩, ⟨some 12, some (10, false), .bin .geq, [.t 11, .c (.int .u8 65)]⟩, ⟨some 13, some (10, false), .mv, [.t 12]⟩, ⟨some
  14, some (13, true), .mv, [.t 0]⟩, ⟨some 15, some (13, true), .bin .leq, [.t 14, .c (.int .u8 90)]⟩, ⟨some 16, some (10, false), .pick, [.t 13, .t 15, .c (.bool false)]⟩, ⟨some 17,
  none, .pick, [.t 10, .c (.bool true), .t 16]⟩, ⟨some 3, none, .mv, [.t 17]⟩]).seq (C.cond (.t 3) ((C.ops [⟨some 2, none, .mv, [.c (.int .i64 1)]⟩]).seq C.ret) ((C.ops [⟨some 19,
  none, .mv, [.t 0]⟩, ⟨some 20, none, .bin .eql, [.t 19, .c (.int .u8 94)]⟩, ⟨some 21, none, .mv, [.t 20]⟩, ⟨some 22, some (21, false), .mv, [.t 0]⟩, ⟨some 23, some (21, false), .bin
  .eql, [.t 22, .c (.int .u8 126)]⟩, ⟨some 24, none, .pick, [.t 21, .c (.bool true), .t 23]⟩, ⟨some 25, none, .mv, [.t 24]⟩, ⟨some 26, some (25, false), .mv, [.t 0]⟩, ⟨some 27, some
  (25, false), .bin .eql, [.t 26, .c (.int .u8 37)]⟩, ⟨some 28, none, .pick, [.t 25, .c (.bool true), .t 27]⟩, ⟨some 18, none, .mv, [.t 28]⟩]).seq (C.cond (.t 18) ((C.ops [⟨some 2,
  none, .mv, [.c (.int .i64 2)]⟩]).seq C.ret) ((C.ops [⟨some 30, none, .mv, [.t 0]⟩, ⟨some 31, none, .bin .geq, [.t 30, .c (.int .u8 48)]⟩, ⟨some 32, none, .mv, [.t 31]⟩, ⟨some 33,
  some (32, true), .mv, [.t 0]⟩, ⟨some 34, some (32, true), .bin .leq, [.t 33, .c (.int .u8 57)]⟩, ⟨some 35, none, .pick, [.t 32, .t 34, .c (.bool false)]⟩, ⟨some 29, none, .mv, [.t
  35]⟩]).seq (C.cond (.t 29) ((C.ops [⟨some 2, none, .mv, [.c (.int .i64 3)]⟩]).seq C.ret) ((C.ops [⟨some 37, none, .mv, [.t 0]⟩, ⟨some 38, none, .bin .eql, [.t 37, .c (.int .u8
  39)]⟩, ⟨some 36, none, .mv, [.t 38]⟩]).seq (C.cond (.t 36) ((C.ops [⟨some 2, none, .mv, [.c (.int .i64 4)]⟩]).seq C.ret) ((C.ops [⟨some 40, none, .mv, [.t 0]⟩, ⟨some 41, none, .bin
  .eql, [.t 40, .c (.int .u8 46)]⟩, ⟨some 42, none, .mv, [.t 41]⟩, ⟨some 43, some (42, false), .mv, [.t 0]⟩, ⟨some 44, some (42, false), .bin .eql, [.t 43, .c (.int .u8 44)]⟩, ⟨some
  45, none, .pick, [.t 42, .c (.bool true), .t 44]⟩, ⟨some 46, none, .mv, [.t 45]⟩, ⟨some 47, some (46, false), .mv, [.t 0]⟩, ⟨some 48, some (46, false), .bin .eql, [.t 47, .c (.int
  .u8 59)]⟩, ⟨some 49, none, .pick, [.t 46, .c (.bool true), .t 48]⟩, ⟨some 50, none, .mv, [.t 49]⟩, ⟨some 51, some (50, false), .mv, [.t 0]⟩, ⟨some 52, some (50, false), .bin .eql,
  [.t 51, .c (.int .u8 58)]⟩, ⟨some 53, none, .pick, [.t 50, .c (.bool true), .t 52]⟩, ⟨some 54, none, .mv, [.t 53]⟩, ⟨some 55, some (54, false), .mv, [.t 0]⟩, ⟨some 56, some (54,
  false), .bin .eql, [.t 55, .c (.int .u8 33)]⟩, ⟨some 57, none, .pick, [.t 54, .c (.bool true), .t 56]⟩, ⟨some 58, none, .mv, [.t 57]⟩, ⟨some 59, some (58, false), .mv, [.t 0]⟩,
  ⟨some 60, some (58, false), .bin .eql, [.t 59, .c (.int .u8 63)]⟩, ⟨some 61, none, .pick, [.t 58, .c (.bool true), .t 60]⟩, ⟨some 62, none, .mv, [.t 61]⟩, ⟨some 63, some (62,
  false), .mv, [.t 0]⟩, ⟨some 64, some (62, false), .bin .eql, [.t 63, .c (.int .u8 40)]⟩, ⟨some 65, none, .pick, [.t 62, .c (.bool true), .t 64]⟩, ⟨some 66, none, .mv, [.t 65]⟩,
  ⟨some 67, some (66, false), .mv, [.t 0]⟩, ⟨some 68, some (66, false), .bin .eql, [.t 67, .c (.int .u8 41)]⟩, ⟨some 69, none, .pick, [.t 66, .c (.bool true), .t 68]⟩, ⟨some 70,
  none, .mv, [.t 69]⟩, ⟨some 71, some (70, false), .mv, [.t 0]⟩, ⟨some 72, some (70, false), .bin .eql, [.t 71, .c (.int .u8 45)]⟩, ⟨some 73, none, .pick, [.t 70, .c (.bool true), .t
  72]⟩, ⟨some 39, none, .mv, [.t 73]⟩]).seq (C.cond (.t 39) ((C.ops [⟨some 2, none, .mv, [.c (.int .i64 5)]⟩]).seq C.ret) ((C.ops [⟨some 75, none, .mv, [.t 0]⟩, ⟨some 76, none, .bin
  .eql, [.t 75, .c (.int .u8 32)]⟩, ⟨some 74, none, .mv, [.t 76]⟩]).seq (C.cond (.t 74) ((C.ops [⟨some 2, none, .mv, [.c (.int .i64 6)]⟩]).seq C.ret) C.skip))))))))))))).seq ((C.ops
  [⟨some 2, none, .mv, [.c (.int .i64 0)]⟩]).seq
  C.ret)))
theorem fn117 : FnIs Try.prog 117 77 0 [RV.tmp 2] c117 := ⟨Try.f117, Try.f117.body.getD .skip, [], [77, 137, 140, 90], [], by kernel_rfl, by kernel_rfl, by kernel_rfl, by kernel_rfl, by kernel_rfl, by kernel_rfl, by kernel_rfl⟩
/-- apograph/apographref01.Check -/
def c118 : C :=
  ((C.ops [⟨some 2, none, .mv, [.c (.int .i64 0)]⟩]).seq (((C.ops [⟨some 6, none, .mv, [.t 0]⟩, ⟨some 7, none, .slen, [.t 6]⟩, ⟨some 8, none, .bin .gtr, [.t 7, .c (.int .i64
  65536)]⟩]).seq (C.cond (.t 8) ((C.ops [⟨some 2, none, .mv, [.c (.int .i64 4)]⟩]).seq C.ret) C.skip)).seq ((C.ops [⟨some 9, none, .mv, [.t 0]⟩, ⟨some 10, none, .call 95 true, [.t
  9]⟩, ⟨some 3, none, .mv, [.t 10]⟩]).seq (((C.ops [⟨some 4, none, .mv, [.c (.int .i64 0)]⟩]).seq (C.block 0 (((C.ops [⟨some 11, none, .mv, [.t 4]⟩, ⟨some 12, none, .mv, [.t 0]⟩,
  ⟨some 13, none, .slen, [.t 12]⟩, ⟨some 14, none, .bin .lss, [.t 11, .t 13]⟩]).seq (C.cond (.t 14) C.skip (C.exit 0))).seq ((C.block 1 ((C.ops [⟨some 17, none, .mv, [.t 0]⟩, ⟨some
  18, none, .mv, [.t 4]⟩, ⟨some 19, none, .sidx, [.t 17, .t 18]⟩, ⟨some 20, none, .call 117 true, [.t 19]⟩, ⟨some 5, none, .mv, [.t 20]⟩]).seq ((C.ops [⟨some 21, none, .mv, [.t 5]⟩,
  ⟨some 22, none, .bin .eql, [.t 21, .c (.int .i64 0)]⟩, ⟨some 23, none, .mv, [.t 22]⟩, ⟨some 24, some (23, false), .mv, [.t 5]⟩, ⟨some 25, some (23, false), .bin .eql, [.t 24, .c
  (.int .i64 2)]⟩, ⟨some 26, some (23, false), .mv, [.t 25]⟩, ⟨some 27, some (26, true), .mv, [.t 3]⟩, ⟨some 28, some (26, true), .mv, [.t 4]⟩, ⟨some 29, some (26, true), .idxA 1,
  [.t 27, .t 28]⟩, ⟨some 30, some (26, true), .load none, [.t 29]⟩, ⟨some 31, some (26, true), .un UnOp.not, [.t 30]⟩, ⟨some 32, some (23, false), .pick, [.t 26, .t 31, .c (.bool
  false)]⟩, ⟨some 33, none, .pick, [.t 23, .c (.bool true), .t 32]⟩]).seq (C.cond (.t 33) ((C.ops [⟨some 2, none, .mv, [.c (.int .i64 11)]⟩]).seq C.ret) C.skip)))).seq (C.ops [⟨some
  15, none, .mv, [.t 4]⟩, ⟨some 16, none, .bin .add, [.t 15, .c (.int .i64 1)]⟩, ⟨some 4, none, .mv, [.t 16]⟩]))).loop)).seq ((C.ops [⟨some 2, none, .mv, [.c (.int .i64 0)]⟩]).seq
  C.ret)))))
theorem fn118 : FnIs Try.prog 118 34 0 [RV.tmp 2] c118 := ⟨Try.f118, Try.f118.body.getD .skip, [], [77, 137, 140, 90], [], by kernel_rfl, by kernel_rfl, by kernel_rfl, by kernel_rfl, by kernel_rfl, by kernel_rfl, by kernel_rfl⟩
/-- apograph/apographref47.start -/
def c119 : C :=
  ((C.ops [⟨some 4, none, .mv, [.c (.int .i64 0)]⟩]).seq (((C.ops [⟨some 5, none, .mv, [.t 0]⟩, ⟨some 6, none, .call 69 true, [.t 5]⟩, ⟨some 7, none, .bin .neq, [.t 6, .c (.int .i64
  0)]⟩]).seq (C.cond (.t 7) ((C.ops [⟨some 4, none, .mv, [.c (.int .i64 1)]⟩]).seq C.ret) C.skip)).seq (((C.ops [⟨some 8, none, .mv, [.t 1]⟩, ⟨some 9, none, .call 93 true, [.t 8]⟩,
  ⟨some 10, none, .un UnOp.not, [.t 9]⟩]).seq (C.cond (.t 10) ((C.ops [⟨some 4, none, .mv, [.c (.int .i64 11)]⟩]).seq C.ret) C.skip)).seq ((C.ops [⟨some 4, none, .mv, [.c (.int .i64
  0)]⟩]).seq
  C.ret))))
theorem fn119 : FnIs Try.prog 119 11 0 [RV.tmp 4] c119 := ⟨Try.f119, Try.f119.body.getD .skip, [], [77, 137, 140, 90], [], by kernel_rfl, by kernel_rfl, by kernel_rfl, by kernel_rfl, by kernel_rfl, by kernel_rfl, by kernel_rfl⟩
/-- apograph/apographref47.levels -/
def c120 : C :=
  ((C.ops [⟨some 4, none, .nilo 0 1 3, []⟩]).seq ((C.ops [⟨some 13, none, .bslc 1 1 1 9 [.str []] [(0, 1)], [.c (.str [46])]⟩, ⟨some 14, none, .mv, [.t 1]⟩, ⟨some 15, none, .call 132
  true, [.t 14]⟩, ⟨some 16, none, .call 71 true, [.t 15]⟩, ⟨some 17, none, .app 2 1 9 16, [.t 13, .t 16]⟩, ⟨some 18, none, .bslc 3 1 1 9 [.str []] [(0, 1)], [.c (.str [46])]⟩, ⟨some
  19, none, .app 4 1 9 16, [.t 17, .t 18]⟩, ⟨some 5, none, .mv, [.t 19]⟩]).seq ((C.ops [⟨some 20, none, .mv, [.t 5]⟩, ⟨some 21, none, .len, [.t 20]⟩, ⟨some 22, none, .bin .add, [.t
  21, .c (.int .i64 1)]⟩, ⟨some 23, none, .mkslc 5 1 3 [.int .i64 0] 8, [.t 22, .t 22]⟩, ⟨some 6, none, .mv, [.t 23]⟩]).seq (((C.ops [⟨some 7, none, .mv, [.c (.int .i64 0)]⟩]).seq
  (C.block 0 (((C.ops [⟨some 24, none, .mv, [.t 7]⟩, ⟨some 25, none, .mv, [.t 0]⟩, ⟨some 26, none, .len, [.t 25]⟩, ⟨some 27, none, .bin .lss, [.t 24, .t 26]⟩]).seq (C.cond (.t 27)
  C.skip (C.exit 0))).seq ((C.block 1 ((C.ops [⟨some 30, none, .mv, [.t 0]⟩, ⟨some 31, none, .mv, [.t 7]⟩, ⟨some 32, none, .idxA 2, [.t 30, .t 31]⟩, ⟨some 33, none, .fldA 0, [.t
  32]⟩, ⟨some 34, none, .load none, [.t 33]⟩, ⟨some 35, none, .call 132 true, [.t 34]⟩, ⟨some 36, none, .call 71 true, [.t 35]⟩, ⟨some 8, none, .mv, [.t 36]⟩]).seq ((C.ops [⟨some 9,
  none, .mv, [.c (.int .i64 0)]⟩]).seq (C.block 2 (((C.ops [⟨some 37, none, .mv, [.t 9]⟩, ⟨some 38, none, .mv, [.t 8]⟩, ⟨some 39, none, .len, [.t 38]⟩, ⟨some 40, none, .bin .add, [.t
  37, .t 39]⟩, ⟨some 41, none, .mv, [.t 5]⟩, ⟨some 42, none, .len, [.t 41]⟩, ⟨some 43, none, .bin .leq, [.t 40, .t 42]⟩]).seq (C.cond (.t 43) C.skip (C.exit 2))).seq ((C.block 3
  ((C.ops [⟨some 10, none, .mv, [.c (.bool true)]⟩]).seq (((C.ops [⟨some 11, none, .mv, [.c (.int .i64 0)]⟩]).seq (C.block 4 (((C.ops [⟨some 46, none, .mv, [.t 11]⟩, ⟨some 47, none,
  .mv, [.t 8]⟩, ⟨some 48, none, .len, [.t 47]⟩, ⟨some 49, none, .bin .lss, [.t 46, .t 48]⟩]).seq (C.cond (.t 49) C.skip (C.exit 4))).seq ((C.block 5 (C.ops [⟨some 52, none, .mv, [.t
  10]⟩, ⟨some 53, none, .mv, [.t 52]⟩, ⟨some 54, some (53, true), .mv, [.t 8]⟩, ⟨some 55, some (53, true), .mv, [.t 11]⟩, ⟨some 56, some (53, true), .idxA 1, [.t 54, .t 55]⟩, ⟨some
  57, some (53, true), .load none, [.t 56]⟩, ⟨some 58, some (53, true), .mv, [.t 5]⟩, ⟨some 59, some (53, true), .mv, [.t 9]⟩, ⟨some 60, some (53, true), .mv, [.t 11]⟩, ⟨some 61,
  some (53, true), .bin .add, [.t 59, .t 60]⟩, ⟨some 62, some (53, true), .idxA 1, [.t 58, .t 61]⟩, ⟨some 63, some (53, true), .load none, [.t 62]⟩, ⟨some 64, some (53, true), .bin
  .eql, [.t 57, .t 63]⟩, ⟨some 65, none, .pick, [.t 53, .t 64, .c (.bool false)]⟩, ⟨some 10, none, .mv, [.t 65]⟩])).seq (C.ops [⟨some 50, none, .mv, [.t 11]⟩, ⟨some 51, none, .bin
  .add, [.t 50, .c (.int .i64 1)]⟩, ⟨some 11, none, .mv, [.t 51]⟩]))).loop)).seq ((C.ops [⟨some 12, none, .mv, [.c (.int .i64 0)]⟩]).seq (C.block 6 (((C.ops [⟨some 66, none, .mv, [.t
  10]⟩, ⟨some 67, none, .mv, [.t 66]⟩, ⟨some 68, some (67, true), .mv, [.t 12]⟩, ⟨some 69, some (67, true), .mv, [.t 8]⟩, ⟨some 70, some (67, true), .len, [.t 69]⟩, ⟨some 71, some
  (67, true), .bin .leq, [.t 68, .t 70]⟩, ⟨some 72, none, .pick, [.t 67, .t 71, .c (.bool false)]⟩]).seq (C.cond (.t 72) C.skip (C.exit 6))).seq ((C.block 7 (C.ops [⟨some 75, none,
  .mv, [.t 6]⟩, ⟨some 76, none, .mv, [.t 9]⟩, ⟨some 77, none, .mv, [.t 12]⟩, ⟨some 78, none, .bin .add, [.t 76, .t 77]⟩, ⟨some 79, none, .mv, [.t 6]⟩, ⟨some 80, none, .mv, [.t 9]⟩,
  ⟨some 81, none, .mv, [.t 12]⟩, ⟨some 82, none, .bin .add, [.t 80, .t 81]⟩, ⟨some 83, none, .idxA 1, [.t 79, .t 82]⟩, ⟨some 84, none, .load none, [.t 83]⟩, ⟨some 85, none, .mv, [.t
  0]⟩, ⟨some 86, none, .mv, [.t 7]⟩, ⟨some 87, none, .idxA 2, [.t 85, .t 86]⟩, ⟨some 88, none, .fldA 1, [.t 87]⟩, ⟨some 89, none, .load none, [.t 88]⟩, ⟨some 90, none, .mv, [.t 12]⟩,
  ⟨some 91, none, .idxA 1, [.t 89, .t 90]⟩, ⟨some 92, none, .load none, [.t 91]⟩, ⟨some 93, none, .mm true, [.t 84, .t 92]⟩, ⟨some 94, none, .idxA 1, [.t 75, .t 78]⟩, ⟨none, none,
  .store 1, [.t 94, .t 93]⟩])).seq (C.ops [⟨some 73, none, .mv, [.t 12]⟩, ⟨some 74, none, .bin .add, [.t 73, .c (.int .i64 1)]⟩, ⟨some 12, none, .mv, [.t 74]⟩]))).loop))))).seq
  (C.ops [⟨some 44, none, .mv, [.t 9]⟩, ⟨some 45, none, .bin .add, [.t 44, .c (.int .i64 1)]⟩, ⟨some 9, none, .mv, [.t 45]⟩]))).loop)))).seq (C.ops [⟨some 28, none, .mv, [.t 7]⟩,
  ⟨some 29, none, .bin .add, [.t 28, .c (.int .i64 1)]⟩, ⟨some 7, none, .mv, [.t 29]⟩]))).loop)).seq ((C.ops [⟨some 95, none, .mv, [.t 6]⟩, ⟨some 96, none, .mv, [.t 5]⟩, ⟨some 97,
  none, .len, [.t 96]⟩, ⟨some 98, none, .bin .sub, [.t 97, .c (.int .i64 1)]⟩, ⟨some 99, none, .slc 1 true true, [.t 95, .c (.int .i64 2), .t 98]⟩, ⟨some 4, none, .mv, [.t 99]⟩]).seq
  C.ret)))))
theorem fn120 : FnIs Try.prog 120 100 6 [RV.tmp 4] c120 := ⟨Try.f120, Try.f120.body.getD .skip, [4, 13, 17, 18, 19, 23], [77, 137, 140, 90], [], by kernel_rfl, by kernel_rfl, by kernel_rfl, by kernel_rfl, by kernel_rfl, by kernel_rfl, by kernel_rfl⟩
/-- internal/stringslite.TrimSuffix -/
def c124 : C :=
  ((C.ops [⟨some 4, none, .mv, [.c (.str [])]⟩]).seq (((C.ops [⟨some 5, none, .mv, [.t 0]⟩, ⟨some 6, none, .mv, [.t 1]⟩, ⟨some 7, none, .call 129 true, [.t 5, .t 6]⟩]).seq (C.cond
  (.t 7) ((C.ops [⟨some 8, none, .mv, [.t 0]⟩, ⟨some 9, none, .mv, [.t 0]⟩, ⟨some 10, none, .slen, [.t 9]⟩, ⟨some 11, none, .mv, [.t 1]⟩, ⟨some 12, none, .slen, [.t 11]⟩, ⟨some 13,
  none, .bin .sub, [.t 10, .t 12]⟩, ⟨some 14, none, .sslc false true, [.t 8, .t 13]⟩, ⟨some 4, none, .mv, [.t 14]⟩]).seq C.ret) C.skip)).seq ((C.ops [⟨some 15, none, .mv, [.t 0]⟩,
  ⟨some 4, none, .mv, [.t 15]⟩]).seq
  C.ret)))
theorem fn124 : FnIs Try.prog 124 16 0 [RV.tmp 4] c124 := ⟨Try.f124, Try.f124.body.getD .skip, [], [77, 137, 140, 90], [], by kernel_rfl, by kernel_rfl, by kernel_rfl, by kernel_rfl, by kernel_rfl, by kernel_rfl, by kernel_rfl⟩
/-- internal/stringslite.TrimPrefix -/
def c125 : C :=
  ((C.ops [⟨some 4, none, .mv, [.c (.str [])]⟩]).seq (((C.ops [⟨some 5, none, .mv, [.t 0]⟩, ⟨some 6, none, .mv, [.t 1]⟩, ⟨some 7, none, .call 128 true, [.t 5, .t 6]⟩]).seq (C.cond
  (.t 7) ((C.ops [⟨some 8, none, .mv, [.t 0]⟩, ⟨some 9, none, .mv, [.t 1]⟩, ⟨some 10, none, .slen, [.t 9]⟩, ⟨some 11, none, .sslc true false, [.t 8, .t 10]⟩, ⟨some 4, none, .mv, [.t
  11]⟩]).seq C.ret) C.skip)).seq ((C.ops [⟨some 12, none, .mv, [.t 0]⟩, ⟨some 4, none, .mv, [.t 12]⟩]).seq
  C.ret)))
theorem fn125 : FnIs Try.prog 125 13 0 [RV.tmp 4] c125 := ⟨Try.f125, Try.f125.body.getD .skip, [], [77, 137, 140, 90], [], by kernel_rfl, by kernel_rfl, by kernel_rfl, by kernel_rfl, by kernel_rfl, by kernel_rfl, by kernel_rfl⟩
/-- strings.IndexByte -/
def c126 : C :=
  ((C.ops [⟨some 4, none, .mv, [.c (.int .i64 0)]⟩]).seq ((C.ops [⟨some 5, none, .mv, [.t 0]⟩, ⟨some 6, none, .mv, [.t 1]⟩, ⟨some 7, none, .call 134 true, [.t 5, .t 6]⟩, ⟨some 4,
  none, .mv, [.t 7]⟩]).seq
  C.ret))
theorem fn126 : FnIs Try.prog 126 8 0 [RV.tmp 4] c126 := ⟨Try.f126, Try.f126.body.getD .skip, [], [77, 137, 140, 90], [], by kernel_rfl, by kernel_rfl, by kernel_rfl, by kernel_rfl, by kernel_rfl, by kernel_rfl, by kernel_rfl⟩
/-- slices.IndexFunc[[]int,int] -/
def c127 : C :=
  ((C.ops [⟨some 4, none, .mv, [.c (.int .i64 0)]⟩]).seq (((C.ops [⟨some 6, none, .mv, [.t 0]⟩, ⟨some 7, none, .len, [.t 6]⟩, ⟨some 8, none, .mv, [.c (.int .i64 0)]⟩]).seq (C.block 0
  ((C.ops [⟨some 9, none, .bin .lss, [.t 8, .t 7]⟩]).seq ((C.cond (.t 9) C.skip (C.exit 0)).seq ((C.block 1 ((C.ops [⟨some 10, none, .mv, [.t 8]⟩, ⟨some 5, none, .mv, [.t 10]⟩]).seq
  ((C.ops [⟨some 11, none, .mv, [.t 1]⟩, ⟨some 12, none, .mv, [.t 0]⟩, ⟨some 13, none, .mv, [.t 5]⟩, ⟨some 14, none, .idxA 1, [.t 12, .t 13]⟩, ⟨some 15, none, .load none, [.t 14]⟩,
  ⟨some 16, none, .callv, [.t 11, .t 15]⟩]).seq (C.cond (.t 16) ((C.ops [⟨some 17, none, .mv, [.t 5]⟩, ⟨some 4, none, .mv, [.t 17]⟩]).seq C.ret) C.skip)))).seq (C.ops [⟨some 18,
  none, .bin .add, [.t 8, .c (.int .i64 1)]⟩, ⟨some 8, none, .mv, [.t 18]⟩])))).loop)).seq ((C.ops [⟨some 4, none, .mv, [.c (.int .i64 (-1))]⟩]).seq
  C.ret)))
theorem fn127 : FnIs Try.prog 127 19 0 [RV.tmp 4] c127 := ⟨Try.f127, Try.f127.body.getD .skip, [], [77, 137, 140, 90], [], by kernel_rfl, by kernel_rfl, by kernel_rfl, by kernel_rfl, by kernel_rfl, by kernel_rfl, by kernel_rfl⟩
/-- internal/stringslite.HasPrefix -/
def c128 : C :=
  ((C.ops [⟨some 4, none, .mv, [.c (.bool false)]⟩]).seq ((C.ops [⟨some 5, none, .mv, [.t 0]⟩, ⟨some 6, none, .slen, [.t 5]⟩, ⟨some 7, none, .mv, [.t 1]⟩, ⟨some 8, none, .slen, [.t
  7]⟩, ⟨some 9, none, .bin .geq, [.t 6, .t 8]⟩, ⟨some 10, none, .mv, [.t 9]⟩, ⟨some 11, some (10, true), .mv, [.t 0]⟩, ⟨some 12, some (10, true), .mv, [.t 1]⟩, ⟨some 13, some (10,
  true), .slen, [.t 12]⟩, ⟨some 14, some (10, true), .sslc false true, [.t 11, .t 13]⟩, ⟨some 15, some (10, true), .mv, [.t 1]⟩, ⟨some 16, some (10, true), .bin .eql, [.t 14, .t
  15]⟩, ⟨some 17, none, .pick, [.t 10, .t 16, .c (.bool false)]⟩, ⟨some 4, none, .mv, [.t 17]⟩]).seq
  C.ret))
theorem fn128 : FnIs Try.prog 128 18 0 [RV.tmp 4] c128 := ⟨Try.f128, Try.f128.body.getD .skip, [], [77, 137, 140, 90], [], by kernel_rfl, by kernel_rfl, by kernel_rfl, by kernel_rfl, by kernel_rfl, by kernel_rfl, by kernel_rfl⟩
/-- internal/stringslite.HasSuffix -/
def c129 : C :=
  ((C.ops [⟨some 4, none, .mv, [.c (.bool false)]⟩]).seq ((C.ops [⟨some 5, none, .mv, [.t 0]⟩, ⟨some 6, none, .slen, [.t 5]⟩, ⟨some 7, none, .mv, [.t 1]⟩, ⟨some 8, none, .slen, [.t
  7]⟩, ⟨some 9, none, .bin .geq, [.t 6, .t 8]⟩, ⟨some 10, none, .mv, [.t 9]⟩, ⟨some 11, some (10, true), .mv, [.t 0]⟩, ⟨some 12, some (10, true), .mv, [.t 0]⟩, ⟨some 13, some (10,
  true), .slen, [.t 12]⟩, ⟨some 14, some (10, true), .mv, [.t 1]⟩, ⟨some 15, some (10, true), .slen, [.t 14]⟩, ⟨some 16, some (10, true), .bin .sub, [.t 13, .t 15]⟩, ⟨some 17, some
  (10, true), .sslc true false, [.t 11, .t 16]⟩, ⟨some 18, some (10, true), .mv, [.t 1]⟩, ⟨some 19, some (10, true), .bin .eql, [.t 17, .t 18]⟩, ⟨some 20, none, .pick, [.t 10, .t 19,
  .c (.bool false)]⟩, ⟨some 4, none, .mv, [.t 20]⟩]).seq
  C.ret))
theorem fn129 : FnIs Try.prog 129 21 0 [RV.tmp 4] c129 := ⟨Try.f129, Try.f129.body.getD .skip, [], [77, 137, 140, 90], [], by kernel_rfl, by kernel_rfl, by kernel_rfl, by kernel_rfl, by kernel_rfl, by kernel_rfl, by kernel_rfl⟩
/-- slices.IndexFunc[[]byte,byte] -/
def c130 : C :=
  ((C.ops [⟨some 4, none, .mv, [.c (.int .i64 0)]⟩]).seq (((C.ops [⟨some 6, none, .mv, [.t 0]⟩, ⟨some 7, none, .len, [.t 6]⟩, ⟨some 8, none, .mv, [.c (.int .i64 0)]⟩]).seq (C.block 0
  ((C.ops [⟨some 9, none, .bin .lss, [.t 8, .t 7]⟩]).seq ((C.cond (.t 9) C.skip (C.exit 0)).seq ((C.block 1 ((C.ops [⟨some 10, none, .mv, [.t 8]⟩, ⟨some 5, none, .mv, [.t 10]⟩]).seq
  ((C.ops [⟨some 11, none, .mv, [.t 1]⟩, ⟨some 12, none, .mv, [.t 0]⟩, ⟨some 13, none, .mv, [.t 5]⟩, ⟨some 14, none, .idxA 1, [.t 12, .t 13]⟩, ⟨some 15, none, .load none, [.t 14]⟩,
  ⟨some 16, none, .callv, [.t 11, .t 15]⟩]).seq (C.cond (.t 16) ((C.ops [⟨some 17, none, .mv, [.t 5]⟩, ⟨some 4, none, .mv, [.t 17]⟩]).seq C.ret) C.skip)))).seq (C.ops [⟨some 18,
  none, .bin .add, [.t 8, .c (.int .i64 1)]⟩, ⟨some 8, none, .mv, [.t 18]⟩])))).loop)).seq ((C.ops [⟨some 4, none, .mv, [.c (.int .i64 (-1))]⟩]).seq
  C.ret)))
theorem fn130 : FnIs Try.prog 130 19 0 [RV.tmp 4] c130 := ⟨Try.f130, Try.f130.body.getD .skip, [], [77, 137, 140, 90], [], by kernel_rfl, by kernel_rfl, by kernel_rfl, by kernel_rfl, by kernel_rfl, by kernel_rfl, by kernel_rfl⟩
/-- apograph/hyphenation.levels -/
def c131 : C :=
  ((C.ops [⟨some 4, none, .nilo 0 1 3, []⟩]).seq ((C.ops [⟨some 13, none, .bslc 1 1 1 9 [.str []] [(0, 1)], [.c (.str [46])]⟩, ⟨some 14, none, .mv, [.t 1]⟩, ⟨some 15, none, .call 136
  true, [.t 14]⟩, ⟨some 16, none, .bslc 2 1 1 9 [.str []] [(0, 1)], [.c (.str [46])]⟩, ⟨some 17, none, .bslc 3 1 3 56 [.nl] [(0, 1), (1, 1), (2, 1)], [.t 13, .t 15, .t 16]⟩, ⟨some
  18, none, .call 135 true, [.t 17]⟩, ⟨some 5, none, .mv, [.t 18]⟩]).seq ((C.ops [⟨some 19, none, .mv, [.t 5]⟩, ⟨some 20, none, .len, [.t 19]⟩, ⟨some 21, none, .bin .add, [.t 20, .c
  (.int .i64 1)]⟩, ⟨some 22, none, .mkslc 4 1 3 [.int .i64 0] 8, [.t 21, .t 21]⟩, ⟨some 6, none, .alloc 5 29 [.nl], []⟩, ⟨none, none, .store 1, [.t 6, .t 22]⟩]).seq ((C.ops [⟨some
  23, none, .mkfn (Fn.func 137) 0, [.t 6]⟩, ⟨some 7, none, .alloc 6 161 [.nilfn], []⟩, ⟨none, none, .store 1, [.t 7, .t 23]⟩]).seq (((C.ops [⟨some 24, none, .mv, [.t 0]⟩, ⟨some 25,
  none, .len, [.t 24]⟩, ⟨some 26, none, .mv, [.c (.int .i64 0)]⟩]).seq (C.block 0 ((C.ops [⟨some 27, none, .bin .lss, [.t 26, .t 25]⟩]).seq ((C.cond (.t 27) C.skip (C.exit 0)).seq
  ((C.block 1 ((C.ops [⟨some 28, none, .idxA 2, [.t 24, .t 26]⟩, ⟨some 29, none, .load (some 2), [.t 28]⟩, ⟨some 9, none, .alloc 7 95 [.str [], .nl], []⟩, ⟨none, none, .store 2, [.t
  9, .t 29]⟩]).seq ((C.ops [⟨some 30, none, .fldA 0, [.t 9]⟩, ⟨some 31, none, .load none, [.t 30]⟩, ⟨some 32, none, .call 136 true, [.t 31]⟩, ⟨some 33, none, .mv, [.t 5]⟩, ⟨some 34,
  none, .call 138 true, [.t 32, .t 33]⟩]).seq (C.block 2 (C.range (.t 34) [35] (C.ops [⟨some 10, none, .mv, [.t 35]⟩]) (C.block 3 ((C.ops [⟨some 36, none, .fldA 1, [.t 9]⟩, ⟨some 37,
  none, .load none, [.t 36]⟩, ⟨some 38, none, .len, [.t 37]⟩, ⟨some 39, none, .mv, [.c (.int .i64 0)]⟩]).seq (C.block 4 ((C.ops [⟨some 40, none, .bin .lss, [.t 39, .t 38]⟩]).seq
  ((C.cond (.t 40) C.skip (C.exit 4)).seq ((C.block 5 ((C.ops [⟨some 41, none, .mv, [.t 39]⟩, ⟨some 42, none, .idxA 1, [.t 37, .t 39]⟩, ⟨some 43, none, .load none, [.t 42]⟩, ⟨some
  11, none, .mv, [.t 41]⟩, ⟨some 12, none, .mv, [.t 43]⟩]).seq (C.ops [⟨some 44, none, .load none, [.t 7]⟩, ⟨some 45, none, .mv, [.t 10]⟩, ⟨some 46, none, .mv, [.t 11]⟩, ⟨some 47,
  none, .bin .add, [.t 45, .t 46]⟩, ⟨some 48, none, .mv, [.t 12]⟩, ⟨some 49, none, .callv, [.t 44, .t 47, .t 48]⟩]))).seq (C.ops [⟨some 50, none, .bin .add, [.t 39, .c (.int .i64
  1)]⟩, ⟨some 39, none, .mv, [.t 50]⟩])))).loop)))))))).seq (C.ops [⟨some 51, none, .bin .add, [.t 26, .c (.int .i64 1)]⟩, ⟨some 26, none, .mv, [.t 51]⟩])))).loop)).seq ((C.ops
  [⟨some 52, none, .load none, [.t 6]⟩, ⟨some 53, none, .mv, [.t 5]⟩, ⟨some 54, none, .len, [.t 53]⟩, ⟨some 55, none, .bin .sub, [.t 54, .c (.int .i64 1)]⟩, ⟨some 56, none, .slc 1
  true true, [.t 52, .c (.int .i64 2), .t 55]⟩, ⟨some 4, none, .mv, [.t 56]⟩]).seq
  C.ret))))))
theorem fn131 : FnIs Try.prog 131 57 8 [RV.tmp 4] c131 := ⟨Try.f131, Try.f131.body.getD .skip, [4, 13, 16, 17, 22, 6, 7, 9], [77, 137, 140, 90], [], by kernel_rfl, by kernel_rfl, by kernel_rfl, by kernel_rfl, by kernel_rfl, by kernel_rfl, by kernel_rfl⟩
/-- apograph/apographref01.Fold -/
def c132 : C :=
  ((C.ops [⟨some 2, none, .mv, [.c (.str [])]⟩]).seq ((C.ops [⟨some 6, none, .bslc 0 1 0 5 [.int .u8 0] [], []⟩, ⟨some 3, none, .mv, [.t 6]⟩]).seq (((C.ops [⟨some 4, none, .mv, [.c
  (.int .i64 0)]⟩]).seq (C.block 0 (((C.ops [⟨some 7, none, .mv, [.t 4]⟩, ⟨some 8, none, .mv, [.t 0]⟩, ⟨some 9, none, .slen, [.t 8]⟩, ⟨some 10, none, .bin .lss, [.t 7, .t 9]⟩]).seq
  (C.cond (.t 10) C.skip (C.exit 0))).seq ((C.block 1 ((C.ops [⟨some 13, none, .mv, [.t 0]⟩, ⟨some 14, none, .mv, [.t 4]⟩, ⟨some 15, none, .sidx, [.t 13, .t 14]⟩, ⟨some 5, none, .mv,
  [.t 15]⟩]).seq (((C.ops [⟨some 16, none, .mv, [.t 5]⟩, ⟨some 17, none, .bin .geq, [.t 16, .c (.int .u8 65)]⟩, ⟨some 18, none, .mv, [.t 17]⟩, ⟨some 19, some (18, true), .mv, [.t
  5]⟩, ⟨some 20, some (18, true), .bin .leq, [.t 19, .c (.int .u8 90)]⟩, ⟨some 21, none, .pick, [.t 18, .t 20, .c (.bool false)]⟩]).seq (C.cond (.t 21) (C.ops [⟨some 22, none, .mv,
  [.t 5]⟩, ⟨some 23, none, .bin .add, [.t 22, .c (.int .u8 97)]⟩, ⟨some 24, none, .bin .sub, [.t 23, .c (.int .u8 65)]⟩, ⟨some 5, none, .mv, [.t 24]⟩]) C.skip)).seq (C.ops [⟨some 25,
  none, .mv, [.t 3]⟩, ⟨some 26, none, .mv, [.t 5]⟩, ⟨some 27, none, .bslc 1 1 1 5 [.int .u8 0] [(0, 1)], [.t 26]⟩, ⟨some 28, none, .app 2 1 5 1, [.t 25, .t 27]⟩, ⟨some 3, none, .mv,
  [.t 28]⟩])))).seq (C.ops [⟨some 11, none, .mv, [.t 4]⟩, ⟨some 12, none, .bin .add, [.t 11, .c (.int .i64 1)]⟩, ⟨some 4, none, .mv, [.t 12]⟩]))).loop)).seq ((C.ops [⟨some 29, none,
  .mv, [.t 3]⟩, ⟨some 30, none, .b2s, [.t 29]⟩, ⟨some 2, none, .mv, [.t 30]⟩]).seq
  C.ret))))
theorem fn132 : FnIs Try.prog 132 31 3 [RV.tmp 2] c132 := ⟨Try.f132, Try.f132.body.getD .skip, [6, 27, 28], [77, 137, 140, 90], [], by kernel_rfl, by kernel_rfl, by kernel_rfl, by kernel_rfl, by kernel_rfl, by kernel_rfl, by kernel_rfl⟩
/-- slices.Concat[[]string,string] -/
def c135 : C :=
  ((C.ops [⟨some 2, none, .nilo 0 1 9, []⟩]).seq ((C.ops [⟨some 3, none, .mv, [.c (.int .i64 0)]⟩]).seq (((C.ops [⟨some 9, none, .mv, [.t 0]⟩, ⟨some 10, none, .len, [.t 9]⟩, ⟨some
  11, none, .mv, [.c (.int .i64 0)]⟩]).seq (C.block 0 ((C.ops [⟨some 12, none, .bin .lss, [.t 11, .t 10]⟩]).seq ((C.cond (.t 12) C.skip (C.exit 0)).seq ((C.block 1 ((C.ops [⟨some 13,
  none, .idxA 1, [.t 9, .t 11]⟩, ⟨some 14, none, .load none, [.t 13]⟩, ⟨some 5, none, .mv, [.t 14]⟩]).seq ((C.ops [⟨some 15, none, .mv, [.t 3]⟩, ⟨some 16, none, .mv, [.t 5]⟩, ⟨some
  17, none, .len, [.t 16]⟩, ⟨some 18, none, .bin .add, [.t 15, .t 17]⟩, ⟨some 3, none, .mv, [.t 18]⟩]).seq ((C.ops [⟨some 19, none, .mv, [.t 3]⟩, ⟨some 20, none, .bin .lss, [.t 19,
  .c (.int .i64 0)]⟩]).seq (C.cond (.t 20) C.bad C.skip))))).seq (C.ops [⟨some 22, none, .bin .add, [.t 11, .c (.int .i64 1)]⟩, ⟨some 11, none, .mv, [.t 22]⟩])))).loop)).seq ((C.ops
  [⟨some 23, none, .mv, [.t 3]⟩, ⟨some 24, none, .call 140 false, [.c .nl, .t 23]⟩, ⟨some 6, none, .mv, [.t 24]⟩]).seq (((C.ops [⟨some 25, none, .mv, [.t 0]⟩, ⟨some 26, none, .len,
  [.t 25]⟩, ⟨some 27, none, .mv, [.c (.int .i64 0)]⟩]).seq (C.block 2 ((C.ops [⟨some 28, none, .bin .lss, [.t 27, .t 26]⟩]).seq ((C.cond (.t 28) C.skip (C.exit 2)).seq ((C.block 3
  ((C.ops [⟨some 29, none, .idxA 1, [.t 25, .t 27]⟩, ⟨some 30, none, .load none, [.t 29]⟩, ⟨some 8, none, .mv, [.t 30]⟩]).seq (C.ops [⟨some 31, none, .mv, [.t 6]⟩, ⟨some 32, none,
  .mv, [.t 8]⟩, ⟨some 33, none, .app 1 1 9 16, [.t 31, .t 32]⟩, ⟨some 6, none, .mv, [.t 33]⟩]))).seq (C.ops [⟨some 34, none, .bin .add, [.t 27, .c (.int .i64 1)]⟩, ⟨some 27, none,
  .mv, [.t 34]⟩])))).loop)).seq ((C.ops [⟨some 35, none, .mv, [.t 6]⟩, ⟨some 2, none, .mv, [.t 35]⟩]).seq
  C.ret))))))
theorem fn135 : FnIs Try.prog 135 36 3 [RV.tmp 2] c135 := ⟨Try.f135, Try.f135.body.getD .skip, [2, 33, 24], [77, 137, 140, 90], [], by kernel_rfl, by kernel_rfl, by kernel_rfl, by kernel_rfl, by kernel_rfl, by kernel_rfl, by kernel_rfl⟩
/-- apograph/hyphenation.folded -/
def c136 : C :=
  ((C.ops [⟨some 2, none, .nilo 0 1 9, []⟩]).seq ((C.ops [⟨some 3, none, .mv, [.t 0]⟩, ⟨some 4, none, .call 141 true, [.t 3]⟩, ⟨some 5, none, .call 105 true, [.t 4]⟩, ⟨some 2, none,
  .mv, [.t 5]⟩]).seq
  C.ret))
theorem fn136 : FnIs Try.prog 136 6 1 [RV.tmp 2] c136 := ⟨Try.f136, Try.f136.body.getD .skip, [2], [77, 137, 140, 90], [], by kernel_rfl, by kernel_rfl, by kernel_rfl, by kernel_rfl, by kernel_rfl, by kernel_rfl, by kernel_rfl⟩
/-- apograph/hyphenation.levels$1 -/
def c137 : C :=
  (C.ops [⟨some 5, none, .load none, [.t 2]⟩, ⟨some 6, none, .mv, [.t 0]⟩, ⟨some 7, none, .load none, [.t 2]⟩, ⟨some 8, none, .mv, [.t 0]⟩, ⟨some 9, none, .idxA 1, [.t 7, .t 8]⟩,
  ⟨some 10, none, .load none, [.t 9]⟩, ⟨some 11, none, .mv, [.t 1]⟩, ⟨some 12, none, .mm true, [.t 10, .t 11]⟩, ⟨some 13, none, .idxA 1, [.t 5, .t 6]⟩, ⟨none, none, .store 1, [.t 13,
  .t
  12]⟩])
theorem fn137 : FnIs Try.prog 137 14 0 [] c137 := ⟨Try.f137, Try.f137.body.getD .skip, [], [77, 137, 140, 90], [], by kernel_rfl, by kernel_rfl, by kernel_rfl, by kernel_rfl, by kernel_rfl, by kernel_rfl, by kernel_rfl⟩
/-- apograph/hyphenation.places -/
def c138 : C :=
  ((C.ops [⟨some 2, none, .box 0 56, [.t 0]⟩, ⟨some 3, none, .box 1 56, [.t 1]⟩, ⟨some 4, none, .mv, [.c .nilfn]⟩]).seq ((C.ops [⟨some 5, none, .mkfn (Fn.func 142) 0, [.t 2, .t 3]⟩,
  ⟨some 4, none, .mv, [.t 5]⟩]).seq
  C.ret))
theorem fn138 : FnIs Try.prog 138 6 2 [RV.tmp 4] c138 := ⟨Try.f138, Try.f138.body.getD .skip, [2, 3], [77, 137, 140, 90], [], by kernel_rfl, by kernel_rfl, by kernel_rfl, by kernel_rfl, by kernel_rfl, by kernel_rfl, by kernel_rfl⟩
/-- slices.Grow[[]string,string] -/
def c140 : C :=
  ((C.ops [⟨some 4, none, .nilo 0 1 9, []⟩]).seq (((C.ops [⟨some 5, none, .mv, [.t 1]⟩, ⟨some 6, none, .bin .lss, [.t 5, .c (.int .i64 0)]⟩]).seq (C.cond (.t 6) C.bad C.skip)).seq
  (((C.ops [⟨some 8, none, .mv, [.t 1]⟩, ⟨some 9, none, .mv, [.t 0]⟩, ⟨some 10, none, .cap, [.t 9]⟩, ⟨some 11, none, .mv, [.t 0]⟩, ⟨some 12, none, .len, [.t 11]⟩, ⟨some 13, none,
  .bin .sub, [.t 10, .t 12]⟩, ⟨some 14, none, .bin .sub, [.t 8, .t 13]⟩, ⟨some 1, none, .mv, [.t 14]⟩]).seq ((C.ops [⟨some 15, none, .mv, [.t 1]⟩, ⟨some 16, none, .bin .gtr, [.t 15,
  .c (.int .i64 0)]⟩]).seq (C.cond (.t 16) (C.ops [⟨some 17, none, .mv, [.t 0]⟩, ⟨some 18, none, .mv, [.t 0]⟩, ⟨some 19, none, .cap, [.t 18]⟩, ⟨some 20, none, .slc 1 false true, [.t
  17, .t 19]⟩, ⟨some 21, none, .mv, [.t 1]⟩, ⟨some 22, none, .appz 1 1 9 [.str []] 16, [.t 20, .t 21]⟩, ⟨some 23, none, .mv, [.t 0]⟩, ⟨some 24, none, .len, [.t 23]⟩, ⟨some 25, none,
  .slc 1 false true, [.t 22, .t 24]⟩, ⟨some 0, none, .mv, [.t 25]⟩]) C.skip))).seq ((C.ops [⟨some 26, none, .mv, [.t 0]⟩, ⟨some 4, none, .mv, [.t 26]⟩]).seq
  C.ret))))
theorem fn140 : FnIs Try.prog 140 27 2 [RV.tmp 4] c140 := ⟨Try.f140, Try.f140.body.getD .skip, [4, 22], [77, 137, 140, 90], [], by kernel_rfl, by kernel_rfl, by kernel_rfl, by kernel_rfl, by kernel_rfl, by kernel_rfl, by kernel_rfl⟩
/-- apograph/charset.Fold -/
def c141 : C :=
  ((C.ops [⟨some 2, none, .mv, [.c (.str [])]⟩]).seq ((C.ops [⟨some 6, none, .mv, [.t 0]⟩, ⟨some 7, none, .s2bo 0 5, [.t 6]⟩, ⟨some 3, none, .mv, [.t 7]⟩]).seq (((C.ops [⟨some 8,
  none, .mv, [.t 3]⟩, ⟨some 9, none, .len, [.t 8]⟩, ⟨some 10, none, .mv, [.c (.int .i64 0)]⟩]).seq (C.block 0 ((C.ops [⟨some 11, none, .bin .lss, [.t 10, .t 9]⟩]).seq ((C.cond (.t
  11) C.skip (C.exit 0)).seq ((C.block 1 ((C.ops [⟨some 12, none, .mv, [.t 10]⟩, ⟨some 13, none, .idxA 1, [.t 8, .t 10]⟩, ⟨some 14, none, .load none, [.t 13]⟩, ⟨some 4, none, .mv,
  [.t 12]⟩, ⟨some 5, none, .mv, [.t 14]⟩]).seq ((C.ops [⟨some 15, none, .mv, [.t 5]⟩, ⟨some 16, none, .bin .geq, [.t 15, .c (.int .u8 65)]⟩, ⟨some 17, none, .mv, [.t 16]⟩, ⟨some 18,
  some (17, true), .mv, [.t 5]⟩, ⟨some 19, some (17, true), .bin .leq, [.t 18, .c (.int .u8 90)]⟩, ⟨some 20, none, .pick, [.t 17, .t 19, .c (.bool false)]⟩]).seq (C.cond (.t 20)
  (C.ops [⟨some 21, none, .mv, [.t 3]⟩, ⟨some 22, none, .mv, [.t 4]⟩, ⟨some 23, none, .mv, [.t 5]⟩, ⟨some 24, none, .bin .sub, [.t 23, .c (.int .u8 65)]⟩, ⟨some 25, none, .bin .add,
  [.t 24, .c (.int .u8 97)]⟩, ⟨some 26, none, .idxA 1, [.t 21, .t 22]⟩, ⟨none, none, .store 1, [.t 26, .t 25]⟩]) C.skip)))).seq (C.ops [⟨some 27, none, .bin .add, [.t 10, .c (.int
  .i64 1)]⟩, ⟨some 10, none, .mv, [.t 27]⟩])))).loop)).seq ((C.ops [⟨some 28, none, .mv, [.t 3]⟩, ⟨some 29, none, .b2s, [.t 28]⟩, ⟨some 2, none, .mv, [.t 29]⟩]).seq
  C.ret))))
theorem fn141 : FnIs Try.prog 141 30 1 [RV.tmp 2] c141 := ⟨Try.f141, Try.f141.body.getD .skip, [7], [77, 137, 140, 90], [], by kernel_rfl, by kernel_rfl, by kernel_rfl, by kernel_rfl, by kernel_rfl, by kernel_rfl, by kernel_rfl⟩
/-- apograph/hyphenation.places$1 -/
def c142 : C :=
  ((C.ops [⟨some 4, none, .mv, [.c (.int .i64 0)]⟩]).seq (C.block 0 (((C.ops [⟨some 5, none, .mv, [.t 4]⟩, ⟨some 6, none, .load none, [.t 1]⟩, ⟨some 7, none, .len, [.t 6]⟩, ⟨some 8,
  none, .bin .add, [.t 5, .t 7]⟩, ⟨some 9, none, .load none, [.t 2]⟩, ⟨some 10, none, .len, [.t 9]⟩, ⟨some 11, none, .bin .leq, [.t 8, .t 10]⟩]).seq (C.cond (.t 11) C.skip (C.exit
  0))).seq ((C.block 1 ((C.ops [⟨some 14, none, .load none, [.t 2]⟩, ⟨some 15, none, .mv, [.t 4]⟩, ⟨some 16, none, .mv, [.t 4]⟩, ⟨some 17, none, .load none, [.t 1]⟩, ⟨some 18, none,
  .len, [.t 17]⟩, ⟨some 19, none, .bin .add, [.t 16, .t 18]⟩, ⟨some 20, none, .slc 1 true true, [.t 14, .t 15, .t 19]⟩, ⟨some 21, none, .load none, [.t 1]⟩, ⟨some 22, none, .call 143
  true, [.t 20, .t 21]⟩, ⟨some 23, none, .mv, [.t 22]⟩, ⟨some 24, some (23, true), .mv, [.t 0]⟩, ⟨some 25, some (23, true), .mv, [.t 4]⟩, ⟨some 26, some (23, true), .callv, [.t 24,
  .t 25]⟩, ⟨some 27, some (23, true), .un UnOp.not, [.t 26]⟩, ⟨some 28, none, .pick, [.t 23, .t 27, .c (.bool false)]⟩]).seq (C.cond (.t 28) C.ret C.skip))).seq (C.ops [⟨some 12,
  none, .mv, [.t 4]⟩, ⟨some 13, none, .bin .add, [.t 12, .c (.int .i64 1)]⟩, ⟨some 4, none, .mv, [.t
  13]⟩]))).loop))
theorem fn142 : FnIs Try.prog 142 29 0 [] c142 := ⟨Try.f142, Try.f142.body.getD .skip, [], [77, 137, 140, 90], [], by kernel_rfl, by kernel_rfl, by kernel_rfl, by kernel_rfl, by kernel_rfl, by kernel_rfl, by kernel_rfl⟩
/-- slices.Equal[[]string,string] -/
def c143 : C :=
  ((C.ops [⟨some 4, none, .mv, [.c (.bool false)]⟩]).seq (((C.ops [⟨some 6, none, .mv, [.t 0]⟩, ⟨some 7, none, .len, [.t 6]⟩, ⟨some 8, none, .mv, [.t 1]⟩, ⟨some 9, none, .len, [.t
  8]⟩, ⟨some 10, none, .bin .neq, [.t 7, .t 9]⟩]).seq (C.cond (.t 10) ((C.ops [⟨some 4, none, .mv, [.c (.bool false)]⟩]).seq C.ret) C.skip)).seq (((C.ops [⟨some 11, none, .mv, [.t
  0]⟩, ⟨some 12, none, .len, [.t 11]⟩, ⟨some 13, none, .mv, [.c (.int .i64 0)]⟩]).seq (C.block 0 ((C.ops [⟨some 14, none, .bin .lss, [.t 13, .t 12]⟩]).seq ((C.cond (.t 14) C.skip
  (C.exit 0)).seq ((C.block 1 ((C.ops [⟨some 15, none, .mv, [.t 13]⟩, ⟨some 5, none, .mv, [.t 15]⟩]).seq ((C.ops [⟨some 16, none, .mv, [.t 0]⟩, ⟨some 17, none, .mv, [.t 5]⟩, ⟨some
  18, none, .idxA 1, [.t 16, .t 17]⟩, ⟨some 19, none, .load none, [.t 18]⟩, ⟨some 20, none, .mv, [.t 1]⟩, ⟨some 21, none, .mv, [.t 5]⟩, ⟨some 22, none, .idxA 1, [.t 20, .t 21]⟩,
  ⟨some 23, none, .load none, [.t 22]⟩, ⟨some 24, none, .bin .neq, [.t 19, .t 23]⟩]).seq (C.cond (.t 24) ((C.ops [⟨some 4, none, .mv, [.c (.bool false)]⟩]).seq C.ret) C.skip)))).seq
  (C.ops [⟨some 25, none, .bin .add, [.t 13, .c (.int .i64 1)]⟩, ⟨some 13, none, .mv, [.t 25]⟩])))).loop)).seq ((C.ops [⟨some 4, none, .mv, [.c (.bool true)]⟩]).seq
  C.ret))))
theorem fn143 : FnIs Try.prog 143 26 0 [RV.tmp 4] c143 := ⟨Try.f143, Try.f143.body.getD .skip, [], [77, 137, 140, 90], [], by kernel_rfl, by kernel_rfl, by kernel_rfl, by kernel_rfl, by kernel_rfl, by kernel_rfl, by kernel_rfl⟩

end HY
end

section
/-! the text DA -/
set_option linter.unusedVariables false
namespace Go.Proofs
open Go.Shelf Go.RowKit
set_option maxHeartbeats 1000000 in
set_option maxRecDepth 100000 in
theorem ib_calls (s : ByteArray) (c : Int) (w : World) :
    Calls Try.prog 134 #[.string s, .int .u8 c] w fun e w' => e = .returned (.int .i64 (Lib.indexByte s.data.toList c.toNat.toUInt8)) ∧ w' = w := by
  go_enter Try.func134, Try.ntmps134
  go_wp2
  rw [run_callFunc_extern Try.func139 (by kernel_rfl) (by kernel_rfl) (by kernel_rfl) (e := Extern.BytealgIndexByte.indexByte) (by kernel_rfl)]
  rw [Lib.run_indexByteString]
  simp only [Result.andThen]
  rw [Oper.upon_value]
  go_wp2
  all_goals (go_ret; exact ⟨rfl, rfl⟩)
end Go.Proofs
end

section
/-! the text PgH -/
/-
  PgH: characters, clusters, words, in plain words of Lean.
-/
namespace HY
def kindI (n : Int) : Int :=
  if (97 ≤ n ∧ n ≤ 122) ∨ (65 ≤ n ∧ n ≤ 90) then 1
  else if n = 94 ∨ n = 126 ∨ n = 37 then 2
  else if 48 ≤ n ∧ n ≤ 57 then 3
  else if n = 39 then 4
  else if n = 32 then 6
  else if n = 46 ∨ n = 44 ∨ n = 59 ∨ n = 58 ∨ n = 33 ∨ n = 63 ∨ n = 40 ∨ n = 41 ∨ n = 45 then 5
  else 0
def kind (b : UInt8) : Int := kindI b.toNat
def ch (s : List UInt8) (i : Nat) : UInt8 := s.getD i 0
theorem ch_eq (s : List UInt8) (i : Nat) : (s[i]?).getD 0 = ch s i := by rw [ch, List.getD_eq_getElem?_getD]

/-- Clusters with their offsets: the present one, and the rest of the string. -/
def clusO (frm : Nat) (cur : List UInt8) : List UInt8 → List (Nat × List UInt8)
  | [] => [(frm, cur)]
  | c :: r => if kind c = 2 ∧ kind (ch cur 0) = 1 then clusO frm (cur ++ [c]) r else (frm, cur) :: clusO (frm + cur.length) [c] r
def clusters : List UInt8 → List (Nat × List UInt8)
  | [] => []
  | c :: r => clusO 0 [c] r
def clus (s : List UInt8) : List (List UInt8) := (clusters s).map (·.2)

theorem clusO_ne (frm : Nat) (cur r : List UInt8) : clusO frm cur r ≠ [] := by
  induction r generalizing frm cur with
  | nil => simp [clusO]
  | cons c r ih => simp only [clusO]; split; exact ih _ _; simp
/-- The clusters, one behind the other, are the string. -/
theorem clusO_join (frm : Nat) (cur r : List UInt8) : ((clusO frm cur r).map (·.2)).flatten = cur ++ r := by
  induction r generalizing frm cur with
  | nil => simp [clusO]
  | cons c r ih =>
    simp only [clusO]
    split
    · rw [ih]; simp
    · simp [ih]
theorem clus_join (s : List UInt8) : (clus s).flatten = s := by
  cases s with
  | nil => rfl
  | cons c r => simpa [clus, clusters] using clusO_join 0 [c] r
theorem clusO_mem {frm : Nat} {cur r : List UInt8} (hc : cur ≠ []) : ∀ x ∈ clusO frm cur r, x.2 ≠ [] := by
  induction r generalizing frm cur with
  | nil => intro x hx; simp [clusO] at hx; subst hx; exact hc
  | cons c r ih =>
    intro x hx
    simp only [clusO] at hx
    split at hx
    · exact ih (by simp) x hx
    · rcases List.mem_cons.1 hx with rfl | hx
      · exact hc
      · exact ih (by simp) x hx
theorem clus_ne {s : List UInt8} : ∀ x ∈ clus s, x ≠ [] := by
  cases s with
  | nil => intro x hx; simp [clus, clusters] at hx
  | cons c r =>
    intro x hx
    simp only [clus, clusters, List.mem_map] at hx
    obtain ⟨y, hy, rfl⟩ := hx
    exact clusO_mem (by simp) y hy

theorem flat_len {l : List (List UInt8)} (h : ∀ x ∈ l, x ≠ []) : l.length ≤ l.flatten.length := by
  induction l with
  | nil => simp
  | cons x l ih =>
    have h1 := ih (fun y hy => h y (by simp [hy]))
    have h2 : 0 < x.length := List.length_pos_iff.2 (h x (by simp))
    simp only [List.length_cons, List.flatten_cons, List.length_append]
    omega
theorem clus_len (s : List UInt8) : (clus s).length ≤ s.length := by
  have := flat_len (l := clus s) clus_ne
  rwa [clus_join] at this
/-- Which characters are marks that stand right. -/
def rightAt (s : List UInt8) : Nat → Bool
  | 0 => false
  | i + 1 => decide (kind (ch s (i + 1)) = 2) && (decide (kind (ch s i) = 1) || rightAt s i)
def rightL (s : List UInt8) : List Bool := (List.range s.length).map (rightAt s)
theorem rightL_get {s : List UInt8} {i : Nat} (h : i < s.length) : (rightL s).getD i false = rightAt s i := by simp [rightL, List.getD_eq_getElem?_getD, h]
/-- The cluster that has begun at f goes on up to i. -/
def inClus (s : List UInt8) (f i : Nat) : Prop := f < i ∧ (decide (kind (ch s (i - 1)) = 1) || rightAt s (i - 1)) = decide (kind (ch s f) = 1)
theorem inClus_right {s : List UInt8} {f i : Nat} (h : inClus s f i) : rightAt s i = (decide (kind (ch s i) = 2) && decide (kind (ch s f) = 1)) := by
  obtain ⟨h1, h2⟩ := h
  cases i with
  | zero => omega
  | succ i => simp only [rightAt]; rw [← h2]; rfl
theorem inClus_first (s : List UInt8) : inClus s 0 1 := ⟨by omega, by simp [rightAt]⟩
theorem inClus_go {s : List UInt8} {f i : Nat} (h : inClus s f i) (hr : rightAt s i = true) : inClus s f (i + 1) := by
  have h3 := inClus_right h
  rw [hr] at h3
  refine ⟨by have := h.1; omega, ?_⟩
  rw [Nat.add_sub_cancel, hr, Bool.or_true]
  symm at h3
  simp only [Bool.and_eq_true] at h3
  exact h3.2.symm
theorem inClus_new {s : List UInt8} {f i : Nat} (h : inClus s f i) (hr : rightAt s i = false) : inClus s i (i + 1) :=
  ⟨by omega, by rw [Nat.add_sub_cancel, hr, Bool.or_false]⟩

def badHead (c : List UInt8) : Bool := decide (kind (ch c 0) = 0) || decide (kind (ch c 0) = 2)
def checkC (s : List UInt8) : Int := if 65536 < s.length then 4 else if (clus s).any badHead then 11 else 0
def isWord (s : List UInt8) : Bool :=
  decide (0 < s.length) && decide (s.length ≤ 64) && decide (checkC s = 0) && (decide (kind (ch s 0) = 1) || decide (kind (ch s 0) = 3)) && !(s.any fun c => decide (kind c = 5) || decide (kind c = 6))
def foldB (c : UInt8) : UInt8 := if 65 ≤ c ∧ c ≤ 90 then c + 32 else c
def fold (s : List UInt8) : List UInt8 := s.map foldB
end HY
end

section
/-! the text PgH2 -/
/-
  PgH2: patterns, in plain words of Lean.
-/
namespace HY
structure Pat where
  letters : List UInt8
  levels : List Int
  deriving DecidableEq, Inhabited
def hasPre (s p : List UInt8) : Bool := decide (s.take p.length = p)
def hasSuf (s p : List UInt8) : Bool := decide (s.drop (s.length - p.length) = p)
def trimPre (s p : List UInt8) : List UInt8 := if hasPre s p = true then s.drop p.length else s
def trimSuf (s p : List UInt8) : List UInt8 := if hasSuf s p = true then s.take (s.length - p.length) else s
def inner (s : List UInt8) : List UInt8 := trimSuf (trimPre s [46]) [46]
def onlyC (c : UInt8) : Bool := decide (kind c = 1) || decide (kind c = 2) || decide (kind c = 4)
def badLev (n : Int) : Bool := decide (n < 0) || decide (9 < n)
def checkPat (p : Pat) : Int :=
  if 64 < p.letters.length then 4
  else if (inner p.letters).any (fun c => !onlyC c) = true then 11
  else if checkC (inner p.letters) ≠ 0 then 11
  else if inner p.letters = [] then 5
  else if p.levels.length ≠ (clus p.letters).length + 1 then 9
  else if p.levels.any badLev = true ∨ (hasPre p.letters [46] = true ∧ p.levels.getD 0 0 ≠ 0) ∨ (hasSuf p.letters [46] = true ∧ p.levels.getD (p.levels.length - 1) 0 ≠ 0) then 2
  else 0
theorem hasPre_dot (s : List UInt8) : hasPre s [46] = (decide (0 < s.length) && decide (ch s 0 = 46)) := by
  unfold hasPre
  cases s with
  | nil => rfl
  | cons c r => simp [ch]
theorem hasSuf_dot (s : List UInt8) : hasSuf s [46] = (decide (0 < s.length) && decide (ch s (s.length - 1) = 46)) := by
  unfold hasSuf
  by_cases h : 0 < s.length
  · have e : s.drop (s.length - 1) = [ch s (s.length - 1)] := by
      rw [List.drop_eq_getElem_cons (by omega), show s.length - 1 + 1 = s.length by omega, List.drop_length]
      simp [ch, show s.length - 1 < s.length by omega]
    simp [e, h]
  · have : s = [] := List.eq_nil_of_length_eq_zero (by omega)
    subst this; rfl
/-- The check of the inner letters is that of the letters. -/
def badAt (s : List UInt8) (i : Nat) : Bool := decide (kind (ch s i) = 0) || (decide (kind (ch s i) = 2) && !rightAt s i)
theorem kind_dot : kind 46 = 5 := by decide
theorem ch_cons (c : UInt8) (s : List UInt8) (i : Nat) : ch (c :: s) (i + 1) = ch s i := rfl
theorem right_dot (s : List UInt8) : ∀ i, rightAt (46 :: s) (i + 1) = rightAt s i := by
  intro i
  induction i with
  | zero => simp [rightAt, ch, kind_dot]
  | succ i ih =>
    rw [show rightAt (46 :: s) (i + 1 + 1) = (decide (kind (ch (46 :: s) (i + 1 + 1)) = 2) && (decide (kind (ch (46 :: s) (i + 1)) = 1) || rightAt (46 :: s) (i + 1))) from rfl, ih, ch_cons, ch_cons]
    rfl
theorem ch_app {s : List UInt8} {c : UInt8} {i : Nat} (h : i < s.length) : ch (s ++ [c]) i = ch s i := by simp [ch, List.getD_eq_getElem?_getD, List.getElem?_append_left h]
theorem ch_last (s : List UInt8) (c : UInt8) : ch (s ++ [c]) s.length = c := by simp [ch]
theorem right_app {s : List UInt8} {c : UInt8} : ∀ {i : Nat}, i < s.length → rightAt (s ++ [c]) i = rightAt s i := by
  intro i
  induction i with
  | zero => intro _; rfl
  | succ i ih => intro h; simp only [rightAt, ih (by omega), ch_app h, ch_app (show i < s.length by omega)]
theorem bad_dot (s : List UInt8) : (List.range (46 :: s).length).any (badAt (46 :: s)) = (List.range s.length).any (badAt s) := by
  rw [List.length_cons, List.range_succ_eq_map, List.any_cons, List.any_map]
  have e0 : badAt (46 :: s) 0 = false := by simp [badAt, ch, kind_dot]
  rw [e0, Bool.false_or]
  congr 1
  funext i
  simp only [Function.comp, badAt, Nat.succ_eq_add_one, right_dot, ch_cons]
  rfl
theorem bad_app (s : List UInt8) : (List.range (s ++ [46]).length).any (badAt (s ++ [46])) = (List.range s.length).any (badAt s) := by
  rw [List.length_append, List.length_singleton, List.range_succ, List.any_append]
  have e0 : badAt (s ++ [46]) s.length = false := by simp [badAt, ch_last, kind_dot]
  simp only [List.any_cons, List.any_nil, e0, Bool.or_false]
  rw [Bool.eq_iff_iff, List.any_eq_true, List.any_eq_true]
  constructor
  · rintro ⟨i, hi, h⟩
    refine ⟨i, hi, ?_⟩
    simp at hi
    simpa [badAt, right_app hi, ch_app hi] using h
  · rintro ⟨i, hi, h⟩
    refine ⟨i, hi, ?_⟩
    simp at hi
    simpa [badAt, right_app hi, ch_app hi] using h
theorem bad_inner (s : List UInt8) : (List.range (inner s).length).any (badAt (inner s)) = (List.range s.length).any (badAt s) := by
  have h1 : (List.range (trimPre s [46]).length).any (badAt (trimPre s [46])) = (List.range s.length).any (badAt s) := by
    unfold trimPre
    split
    · rename_i h
      rw [hasPre_dot] at h
      cases s with
      | nil => rfl
      | cons c r =>
        simp [ch] at h
        subst h
        exact (bad_dot r).symm
    · rfl
  rw [← h1]
  unfold inner
  generalize trimPre s [46] = t
  unfold trimSuf
  split
  · rename_i h
    rw [hasSuf_dot] at h
    simp only [Bool.and_eq_true, decide_eq_true_eq] at h
    have e : t = t.take (t.length - 1) ++ [46] := by
      have := (List.take_append_drop (t.length - 1) t).symm
      rw [List.drop_eq_getElem_cons (by omega), show t.length - 1 + 1 = t.length by omega, List.drop_length] at this
      have e2 : t[t.length - 1] = 46 := by simpa [ch, show t.length - 1 < t.length by omega] using h.2
      rwa [e2] at this
    conv => rhs; rw [e]
    exact (bad_app _).symm
  · rfl
end HY
end

section
/-! the text D1 -/
open Go Go.Proofs AF HY
namespace HY
set_option maxRecDepth 100000
def strs (l : List (List UInt8)) : AV := .sl l.length fun i => [.str (l.getD i [])]
theorem okF1 {P : Program} {f : FuncId} {fn : Func} (h : P.funcs[f]? = some fn) (h1 : fn.body.isSome = true) (h2 : (fn.name != "runtime.NumGoroutine") = true) : okF P f = true := by
  unfold okF; rw [h]; simp [h1, h2]
theorem t134 (s : List UInt8) (c : Int) (h : List AObj) : ACalls Try.prog 134 [.str s, .int .u8 c] h (.int .i64 (Go.Lib.indexByte s c.toNat.toUInt8)) h := by
  refine ⟨okF1 Try.func134 (by kernel_rfl) (by kernel_rfl), fun w σ xs H hv => ?_⟩
  obtain ⟨x, y, rfl, hx, hy⟩ := hv.two
  rw [vr_str hx, vr_int hy]
  refine (callsIn_wide.2 (ib_calls ⟨s.toArray⟩ c w)).mono ?_
  rintro e w' ⟨rfl, rfl⟩
  exact ⟨_, σ, rfl, H, .imm .int, Ext.refl _ _⟩
theorem t126 (s : List UInt8) (c : Int) (h : List AObj) : ACalls Try.prog 126 [.str s, .int .u8 c] h (.int .i64 (Go.Lib.indexByte s c.toNat.toUInt8)) h := by
  refine acalls_of fn126 (by simp) ?_
  simp only [List.length_cons, List.length_nil, Nat.reduceAdd, Nat.reduceSub, List.replicate, List.cons_append, List.nil_append, List.append_nil]
  simp (disch := omega) only [c126, go_sem, wrap64_id, Int.tdiv_eq_ediv_of_nonneg, Int.tmod_eq_emod_of_nonneg]
  repeat' first
    | ((first | refine callA_pure (t134 s c _) ?_ ?_); (next => repeat' first | exact flags_n | refine flags_c (by first | rfl | assumption) ?_); simp (disch := omega) only [go_sem, wrap64_id, Int.tdiv_eq_ediv_of_nonneg, Int.tmod_eq_emod_of_nonneg])
    | ((first | refine callG_pure (fun e => ⟨?_, t134 s c _⟩) ?_); (next => repeat' first | exact flags_n | refine flags_c (by first | rfl | assumption) ?_); simp (disch := omega) only [go_sem, wrap64_id, Int.tdiv_eq_ediv_of_nonneg, Int.tmod_eq_emod_of_nonneg])
    | ((first | refine fnQ_pure1 ?_ ?_ | refine fnQ_pure0 ?_ ?_); (next => repeat' first | exact rvs_n | refine rvs_t ?_ | (simp [go_sem]; done)); simp only [go_sem]; (first | exact VLe.refl _ | refine VLe_int ?_ | refine VLe_bool ?_ | refine VLe_str ?_ | skip))
    | (with_reducible refine And.intro ?_ ?_)
    | with_reducible intro _
theorem punct_iff : ∀ n : Fin 256, (0 ≤ Go.Lib.indexByte [46, 44, 59, 58, 33, 63, 40, 41, 45] (UInt8.ofNat n.val)) ↔ (n.val = 46 ∨ n.val = 44 ∨ n.val = 59 ∨ n.val = 58 ∨ n.val = 33 ∨ n.val = 63 ∨ n.val = 40 ∨ n.val = 41 ∨ n.val = 45) := by decide +kernel
theorem t103 (n : Int) (h : List AObj) (n0 : 0 ≤ n) (n1 : n ≤ 255) : ACalls Try.prog 103 [.int .u8 n] h (.int .i64 (kindI n)) h := by
  obtain ⟨m, rfl⟩ : ∃ m : Nat, n = m := ⟨n.toNat, by omega⟩
  have hp := punct_iff ⟨m, by omega⟩
  simp only at hp
  obtain ⟨q, hq⟩ : ∃ q, q = Go.Lib.indexByte [46, 44, 59, 58, 33, 63, 40, 41, 45] (UInt8.ofNat m) := ⟨_, rfl⟩
  rw [← hq] at hp
  have hc : ∀ h, ACalls Try.prog 126 [.str [46, 44, 59, 58, 33, 63, 40, 41, 45], .int .u8 (m : Int)] h (.int .i64 q) h := fun h => by rw [hq]; exact t126 _ _ h
  refine acalls_of fn103 (by simp) ?_
  simp only [List.length_cons, List.length_nil, Nat.reduceAdd, Nat.reduceSub, List.replicate, List.cons_append, List.nil_append, List.append_nil]
  simp (disch := omega) only [c103, go_sem, wrap64_id, Int.tdiv_eq_ediv_of_nonneg, Int.tmod_eq_emod_of_nonneg]
  repeat' first
    | ((first | refine callA_pure (hc _) ?_ ?_); (next => repeat' first | exact flags_n | refine flags_c (by first | rfl | assumption) ?_); simp (disch := omega) only [go_sem, wrap64_id, Int.tdiv_eq_ediv_of_nonneg, Int.tmod_eq_emod_of_nonneg])
    | ((first | refine callG_pure (fun e => ⟨?_, hc _⟩) ?_); (next => repeat' first | exact flags_n | refine flags_c (by first | rfl | assumption) ?_); simp (disch := omega) only [go_sem, wrap64_id, Int.tdiv_eq_ediv_of_nonneg, Int.tmod_eq_emod_of_nonneg])
    | ((first | refine fnQ_pure1 ?_ ?_ | refine fnQ_pure0 ?_ ?_); (next => repeat' first | exact rvs_n | refine rvs_t ?_ | (simp [go_sem]; done)); simp only [go_sem]; (first | exact VLe.refl _ | refine VLe_int ?_ | refine VLe_bool ?_ | refine VLe_str ?_ | skip))
    | (with_reducible refine And.intro ?_ ?_)
    | with_reducible intro _
  all_goals first
    | omega
    | (unfold kindI; (repeat' split) <;> omega)
theorem t117 (n : Int) (h : List AObj) : ACalls Try.prog 117 [.int .u8 n] h (.int .i64 (kindI n)) h := by
  refine acalls_of fn117 (by simp) ?_
  simp only [List.length_cons, List.length_nil, Nat.reduceAdd, Nat.reduceSub, List.replicate, List.cons_append, List.nil_append, List.append_nil]
  simp (disch := omega) only [c117, go_sem, wrap64_id, Int.tdiv_eq_ediv_of_nonneg, Int.tmod_eq_emod_of_nonneg]
  repeat' first
    | ((first | refine fnQ_pure1 ?_ ?_ | refine fnQ_pure0 ?_ ?_); (next => repeat' first | exact rvs_n | refine rvs_t ?_ | (simp [go_sem]; done)); simp only [go_sem]; (first | exact VLe.refl _ | refine VLe_int ?_ | refine VLe_bool ?_ | refine VLe_str ?_ | skip))
    | (with_reducible refine And.intro ?_ ?_)
    | with_reducible intro _
  all_goals first
    | omega
    | grind [kindI]
end HY
end

section
/-! the text D2 -/
open Go Go.Proofs AF HY
namespace HY
set_option maxRecDepth 100000
theorem _root_.AF.LowI.ret {h hh : List AObj} {ts : List AV} {L : LInfo} (s : LS) (hl : LowI h hh) (hts : ∀ c ∈ ts, lowV (h.length + 1) c = true) :
    (hh ++ [AObj.lp s ts L]).length = (h ++ [AObj.lp .ready ts L]).length ∧ ∀ o ∈ hh ++ [AObj.lp s ts L], o ∈ h ++ [AObj.lp .ready ts L] ∨ lowO (h ++ [AObj.lp .ready ts L]).length o := by
  refine ⟨by simp [hl.1], fun o ho => ?_⟩
  rw [List.length_append, List.length_singleton]
  rcases List.mem_append.1 ho with ho | ho
  · rcases hl.2 o ho with h1 | h1
    · exact .inl (List.mem_append_left _ h1)
    · exact .inr h1.2
  · rw [List.mem_singleton] at ho
    subst ho
    exact .inr hts
theorem u8_range (b : UInt8) : 0 ≤ ((b.toNat : Nat) : Int) ∧ ((b.toNat : Nat) : Int) ≤ 255 := by
  have := b.toNat_lt
  omega
theorem t103b (b : UInt8) (h : List AObj) : ACalls Try.prog 103 [.int .u8 (b.toNat : Int)] h (.int .i64 (kind b)) h := t103 _ h (u8_range b).1 (u8_range b).2
theorem t117b (b : UInt8) (h : List AObj) : ACalls Try.prog 117 [.int .u8 (b.toNat : Int)] h (.int .i64 (kind b)) h := t117 _ h
theorem t115 (s : List UInt8) (f a : Nat) (h : List AObj) (hf : f < s.length) : ACalls Try.prog 115 [.str s, .int .i64 f, .int .i64 a] h (.bool (decide (kind (ch s f) = 1) && decide (f < a))) h := by
  refine acalls_of fn115 (by simp) ?_
  simp only [List.length_cons, List.length_nil, Nat.reduceAdd, Nat.reduceSub, List.replicate, List.cons_append, List.nil_append, List.append_nil]
  simp (disch := omega) only [c115, ch_eq, go_sem, wrap64_id, Int.tdiv_eq_ediv_of_nonneg, Int.tmod_eq_emod_of_nonneg]
  repeat' first
    | ((first | refine callA_pure (t103b _ _) ?_ ?_); (next => repeat' first | exact flags_n | refine flags_c (by first | rfl | assumption) ?_); simp (disch := omega) only [ch_eq, go_sem, wrap64_id, Int.tdiv_eq_ediv_of_nonneg, Int.tmod_eq_emod_of_nonneg])
    | ((first | refine callG_pure (fun e => ⟨?_, t103b _ _⟩) ?_); (next => repeat' first | exact flags_n | refine flags_c (by first | rfl | assumption) ?_); simp (disch := omega) only [ch_eq, go_sem, wrap64_id, Int.tdiv_eq_ediv_of_nonneg, Int.tmod_eq_emod_of_nonneg])
    | ((first | refine fnQ_pure1 ?_ ?_ | refine fnQ_pure0 ?_ ?_); (next => repeat' first | exact rvs_n | refine rvs_t ?_ | (simp [go_sem]; done)); simp only [go_sem]; (first | exact VLe.refl _ | refine VLe_int ?_ | refine VLe_bool ?_ | refine VLe_str ?_ | skip))
    | (with_reducible refine And.intro ?_ ?_)
    | with_reducible intro _
  all_goals first
    | omega
    | (congr 1; exact decide_eq_decide.2 (by omega))
    | skip
theorem clus_step {s : List UInt8} {f i : Nat} (hf : f < i) (hi : i < s.length) : clusO f ((s.drop f).take (i - f)) (s.drop i) = if kind (ch s i) = 2 ∧ kind (ch s f) = 1 then clusO f ((s.drop f).take (i + 1 - f)) (s.drop (i + 1)) else (f, (s.drop f).take (i - f)) :: clusO i ((s.drop i).take (i + 1 - i)) (s.drop (i + 1)) := by
  have e1 : s.drop i = ch s i :: s.drop (i + 1) := by rw [List.drop_eq_getElem_cons hi]; simp [ch, hi]
  have e2 : ch ((s.drop f).take (i - f)) 0 = ch s f := by simp [ch, List.getD_eq_getElem?_getD, List.getElem?_take, show 0 < i - f by omega]
  have e3 : (s.drop f).take (i + 1 - f) = (s.drop f).take (i - f) ++ [ch s i] := by
    rw [show i + 1 - f = (i - f) + 1 by omega, List.take_add_one, List.getElem?_drop, show f + (i - f) = i by omega]
    simp [ch, List.getD_eq_getElem?_getD, hi]
  have e4 : f + ((s.drop f).take (i - f)).length = i := by rw [List.length_take, List.length_drop]; omega
  have e5 : (s.drop i).take (i + 1 - i) = [ch s i] := by rw [e1, show i + 1 - i = 1 by omega]; rfl
  rw [e5, e1]
  simp only [clusO, e2, e4, e3]
theorem it114 (s : List UInt8) (hs : s.length ≤ 1000000000) : Iter Try.prog 114 [.ip [.str s]] ((clusters s).map fun x => [.int .i64 (x.1 : Int), .str x.2]) := by
  intro h ts L S E hS hE body start hts
  refine acallsQ_of fn114 (by simp) ?_
  simp only [List.length_cons, List.length_nil, Nat.reduceAdd, Nat.reduceSub, List.replicate, List.cons_append, List.nil_append, List.append_nil]
  simp (disch := omega) only [c114, go_sem, wrap64_id, Int.tdiv_eq_ediv_of_nonneg, Int.tmod_eq_emod_of_nonneg]
  repeat' first
    | ((first | refine fnQ_pure1 ?_ ?_ | refine fnQ_pure0 ?_ ?_); (next => repeat' first | exact rvs_n | refine rvs_t ?_ | (simp [go_sem]; done)); simp only [go_sem]; (first | exact VLe.refl _ | refine VLe_int ?_ | refine VLe_bool ?_ | refine VLe_str ?_ | skip))
    | (with_reducible refine And.intro ?_ ?_)
    | with_reducible intro _
  all_goals first
    | omega
    | skip
  refine loop_of (T := fun i : Nat × Nat × Nat × List AObj => spar 37 [(0, .yld h.length), (1, .ip [.str s]), (3, .int .i64 i.1), (4, .int .i64 i.2.1)]) (H := fun i => i.2.2.2 ++ [.lp .ready ts L])
    (inv := fun i => S i.2.2.1 i.2.2.2 ∧ ((i.2.1 ≤ s.length ∧ i.1 < i.2.1 ∧ (clusters s).drop i.2.2.1 = clusO i.1 ((s.drop i.1).take (i.2.1 - i.1)) (s.drop i.2.1)) ∨ (s.length < i.2.1 ∧ i.2.1 ≤ s.length + 1 ∧ i.2.2.1 = (clusters s).length))) (m := fun i => s.length + 1 - i.2.1) (0, 1, 0, h) ⟨start, ?_⟩ (Wk.temps ?_) ?_
  · simp only
    cases s with
    | nil => right; simp [clusters]
    | cons c r => left; simp [clusters]
  · (simp only [spar, List.foldl, List.replicate, go_sem, VLes_nil, VLes_cons, VLe_undef_iff, VLe_self]; try (repeat' first | (with_reducible refine And.intro ?_ ?_) | (refine VLe_int ?_; omega) | (refine VLe_bool ?_; rfl) | exact VLe.refl _))
  · rintro ⟨f, i, j, hh⟩ ⟨i1, i2⟩ K hK
    simp only at i1 i2 hK
    obtain ⟨hlen, hlow⟩ := hS _ _ i1
    rcases i2 with ⟨g1, g2, g3⟩ | ⟨g1, g2, rfl⟩
    · have hjl : j < (clusters s).length := by
        have : (clusters s).drop j ≠ [] := by rw [g3]; exact clusO_ne _ _ _
        by_cases hj : j < (clusters s).length
        · exact hj
        · exact absurd (List.drop_of_length_le (by omega)) this
      by_cases hk : i < s.length ∧ kind (ch s i) = 2 ∧ kind (ch s f) = 1
      · have hst := clus_step g2 hk.1
        rw [if_pos hk.2] at hst
        simp (disch := omega) only [spar, List.foldl, List.replicate, ch_eq, hk.2.1, hk.2.2, go_sem, wrap64_id, Int.tdiv_eq_ediv_of_nonneg, Int.tmod_eq_emod_of_nonneg]
        repeat' first
          | ((first | refine callA_pure (t103b _ _) ?_ ?_ | refine callA_pure (t115 s f i _ (by omega)) ?_ ?_); (next => repeat' first | exact flags_n | refine flags_c (by first | rfl | assumption) ?_); simp (disch := omega) only [ch_eq, hk.2.1, hk.2.2, go_sem, wrap64_id, Int.tdiv_eq_ediv_of_nonneg, Int.tmod_eq_emod_of_nonneg])
          | ((first | refine callG_pure (fun e => ⟨?_, t103b _ _⟩) ?_ | refine callG_pure (fun e => ⟨?_, t115 s f i _ (by omega)⟩) ?_); (next => repeat' first | exact flags_n | refine flags_c (by first | rfl | assumption) ?_); simp (disch := omega) only [ch_eq, hk.2.1, hk.2.2, go_sem, wrap64_id, Int.tdiv_eq_ediv_of_nonneg, Int.tmod_eq_emod_of_nonneg])
          | ((first | refine fnQ_pure1 ?_ ?_ | refine fnQ_pure0 ?_ ?_); (next => repeat' first | exact rvs_n | refine rvs_t ?_ | (simp [go_sem]; done)); simp only [go_sem]; (first | exact VLe.refl _ | refine VLe_int ?_ | refine VLe_bool ?_ | refine VLe_str ?_ | skip))
          | (with_reducible refine And.intro ?_ ?_)
          | with_reducible intro _
        all_goals first
          | omega
          | skip
        refine hK _ _ (f, i + 1, j, hh) ⟨i1, .inl ⟨by simp only; omega, by simp only; omega, by rw [g3, hst]⟩⟩ (by simp only; omega) (Wk.temps ?_)
        (simp only [spar, List.foldl, List.replicate, go_sem, VLes_nil, VLes_cons, VLe_undef_iff, VLe_self]; try (repeat' first | (with_reducible refine And.intro ?_ ?_) | (refine VLe_int ?_; omega) | (refine VLe_bool ?_; rfl) | exact VLe.refl _))
      · obtain ⟨rest, hrest, hr1⟩ : ∃ rest, (clusters s).drop j = (f, (s.drop f).take (i - f)) :: rest ∧ (if i < s.length then rest = clusO i ((s.drop i).take (i + 1 - i)) (s.drop (i + 1)) else rest = []) := by
          by_cases hi : i < s.length
          · have hst := clus_step g2 hi
            rw [if_neg (fun h => hk ⟨hi, h⟩)] at hst
            exact ⟨_, g3.trans hst, by rw [if_pos hi]⟩
          · refine ⟨[], ?_, by rw [if_neg hi]⟩
            rw [g3, show s.drop i = [] from List.drop_of_length_le (by omega)]; rfl
        rw [List.drop_eq_getElem_cons hjl] at hrest
        obtain ⟨hget, hdrop⟩ := List.cons.inj hrest
        have hb := body j hh [] (by simpa using hjl) i1
        rw [List.getElem_map, hget] at hb
        simp only at hb
        have hfit : (i : Int) - f = ((i - f : Nat) : Int) := by omega
        simp (disch := omega) only [spar, List.foldl, List.replicate, ch_eq, go_sem, wrap64_id, Int.tdiv_eq_ediv_of_nonneg, Int.tmod_eq_emod_of_nonneg]
        repeat' first
          | ((first | refine callA_pure (t103b _ _) ?_ ?_ | refine callA_pure (t115 s f i _ (by omega)) ?_ ?_); (next => repeat' first | exact flags_n | refine flags_c (by first | rfl | assumption) ?_); simp (disch := omega) only [ch_eq, go_sem, wrap64_id, Int.tdiv_eq_ediv_of_nonneg, Int.tmod_eq_emod_of_nonneg])
          | ((first | refine callG_pure (fun e => ⟨?_, t103b _ _⟩) ?_ | refine callG_pure (fun e => ⟨?_, t115 s f i _ (by omega)⟩) ?_); (next => repeat' first | exact flags_n | refine flags_c (by first | rfl | assumption) ?_); simp (disch := omega) only [ch_eq, go_sem, wrap64_id, Int.tdiv_eq_ediv_of_nonneg, Int.tmod_eq_emod_of_nonneg])
          | ((first | refine fnQ_pure1 ?_ ?_ | refine fnQ_pure0 ?_ ?_); (next => repeat' first | exact rvs_n | refine rvs_t ?_ | (simp [go_sem]; done)); simp only [go_sem]; (first | exact VLe.refl _ | refine VLe_int ?_ | refine VLe_bool ?_ | refine VLe_str ?_ | skip))
          | (with_reducible refine And.intro ?_ ?_)
          | with_reducible intro _
        all_goals first
          | omega
          | exact ⟨.ready, ts, L, getO_i hlen⟩
          | skip
        refine AYield.mono ?_ hb
        rintro v h' ⟨hh', ⟨rfl, hn, rfl⟩ | ⟨st, rfl, hs', rfl⟩⟩
        · simp (disch := omega) only [go_sem, wrap64_id, Int.tdiv_eq_ediv_of_nonneg, Int.tmod_eq_emod_of_nonneg]
          repeat' first
            | ((first | refine fnQ_pure1 ?_ ?_ | refine fnQ_pure0 ?_ ?_); (next => repeat' first | exact rvs_n | refine rvs_t ?_ | (simp [go_sem]; done)); simp only [go_sem]; (first | exact VLe.refl _ | refine VLe_int ?_ | refine VLe_bool ?_ | refine VLe_str ?_ | skip))
            | (with_reducible refine And.intro ?_ ?_)
            | with_reducible intro _
          all_goals first
            | omega
            | (rename_i hx; revert hx; simp; done)
            | skip
          by_cases hi : i < s.length
          · rw [if_pos hi] at hr1
            refine hK _ _ (i, i + 1, j + 1, hh') ⟨hn, .inl ⟨by simp only; omega, by simp only; omega, by simp only; rw [hdrop, hr1]⟩⟩ (by simp only; omega) (Wk.temps ?_)
            (simp only [spar, List.foldl, List.replicate, go_sem, VLes_nil, VLes_cons, VLe_undef_iff, VLe_self]; try (repeat' first | (with_reducible refine And.intro ?_ ?_) | (refine VLe_int ?_; omega) | (refine VLe_bool ?_; rfl) | exact VLe.refl _))
          · rw [if_neg hi] at hr1
            refine hK _ _ (i, i + 1, j + 1, hh') ⟨hn, .inr ⟨by simp only; omega, by simp only; omega, ?_⟩⟩ (by simp only; omega) (Wk.temps ?_)
            · have : ((clusters s).drop (j + 1)).length = 0 := by rw [hdrop, hr1]; rfl
              rw [List.length_drop] at this
              simp only; omega
            · (simp only [spar, List.foldl, List.replicate, go_sem, VLes_nil, VLes_cons, VLe_undef_iff, VLe_self]; try (repeat' first | (with_reducible refine And.intro ?_ ?_) | (refine VLe_int ?_; omega) | (refine VLe_bool ?_; rfl) | exact VLe.refl _))
        · simp (disch := omega) only [go_sem, wrap64_id, Int.tdiv_eq_ediv_of_nonneg, Int.tmod_eq_emod_of_nonneg]
          obtain ⟨r1, r2⟩ := (hE _ _ hs').ret (L := L) st hts
          exact fnQ_eff0 trivial r1 r2 ⟨_, .inr ⟨st, hs', rfl⟩⟩ (VLe.refl _)
    · simp (disch := omega) only [spar, List.foldl, List.replicate, go_sem, wrap64_id, Int.tdiv_eq_ediv_of_nonneg, Int.tmod_eq_emod_of_nonneg]
      repeat' first
        | ((first | refine fnQ_pure1 ?_ ?_ | refine fnQ_pure0 ?_ ?_); (next => repeat' first | exact rvs_n | refine rvs_t ?_ | (simp [go_sem]; done)); simp only [go_sem]; (first | exact VLe.refl _ | refine VLe_int ?_ | refine VLe_bool ?_ | refine VLe_str ?_ | skip))
        | (with_reducible refine And.intro ?_ ?_)
        | with_reducible intro _
      all_goals first
        | omega
        | skip
      obtain ⟨r1, r2⟩ := (hS _ _ i1).ret (L := L) .ready hts
      exact fnQ_effn0 trivial r1 r2 ⟨hh, .inl ⟨by simpa using i1, rfl⟩⟩ (VLe.refl _)
end HY
end

section
/-! the text D3 -/
open Go Go.Proofs AF HY
namespace HY
set_option maxRecDepth 100000
def bools (l : List Bool) : AV := .sl l.length fun i => [.bool (l.getD i false)]
theorem sl1_of {cs : List AV} {n m k : Nat} {f : Nat → List AV} {fz : Nat → Bool} {h : List AObj} (e : cs.length = m) (ek : k = m) (hf : ∀ i c, cs[i]? = some c → f i = [c]) (hr : ∀ c ∈ cs, rei fz h (n + 1) c = c) : VLe (.sl m fun i => ((List.drop i cs).take 1).map (rei fz h (n + 1))) (.sl k f) := by
  subst e ek
  refine VLe_sl rfl (fun i hi => ?_)
  rw [List.drop_eq_getElem_cons hi, hf i cs[i] (List.getElem?_eq_getElem hi)]
  show [rei fz h (n + 1) cs[i]] = _
  rw [hr cs[i] (List.getElem_mem hi)]
def strC (l : List (List UInt8)) : List AV := l.map .str
theorem strC_len (l : List (List UInt8)) : (strC l).length = l.length := by simp [strC]
theorem strC_snoc (l : List (List UInt8)) (x : List UInt8) : strC (l ++ [x]) = strC l ++ [.str x] := by simp [strC]
theorem strs_of {l : List (List UInt8)} {n m : Nat} {fz : Nat → Bool} {h : List AObj} (e : l.length = m) : VLe (.sl m fun i => ((List.drop i (strC l)).take 1).map (rei fz h (n + 1))) (strs l) := by
  subst e
  refine sl1_of (strC_len l) rfl (fun i c hc => ?_) (fun c hc => ?_)
  · unfold strC at hc
    rw [List.getElem?_map, Option.map_eq_some_iff] at hc
    obtain ⟨x, hx, rfl⟩ := hc
    simp [List.getD_eq_getElem?_getD, hx]
  · unfold strC at hc
    rw [List.mem_map] at hc
    obtain ⟨x, _, rfl⟩ := hc
    rfl
def rightC (s : List UInt8) (i : Nat) : List AV := (List.range i).map fun j => AV.bool (rightAt s j)
theorem rightC_succ (s : List UInt8) (i : Nat) : rightC s (i + 1) = rightC s i ++ [.bool (rightAt s i)] := by simp [rightC, List.range_succ]
theorem rightC_len (s : List UInt8) (i : Nat) : (rightC s i).length = i := by simp [rightC]
theorem t95 (s : List UInt8) (h : List AObj) (hs : s.length ≤ 1000000000) : ACalls Try.prog 95 [.str s] h (bools (rightL s)) h := by
  refine acalls_of fn95 (by simp) ?_
  simp only [List.length_cons, List.length_nil, Nat.reduceAdd, Nat.reduceSub, List.replicate, List.cons_append, List.nil_append, List.append_nil]
  simp (disch := omega) only [c95, madeA, go_sem, wrap64_id, Int.tdiv_eq_ediv_of_nonneg, Int.tmod_eq_emod_of_nonneg]
  repeat' first
    | ((first | refine fnQ_pure1 ?_ ?_ | refine fnQ_pure0 ?_ ?_); (next => repeat' first | exact rvs_n | refine rvs_t ?_ | (simp [go_sem]; done)); simp only [go_sem]; (first | exact VLe.refl _ | refine VLe_int ?_ | refine VLe_bool ?_ | refine VLe_str ?_ | skip))
    | (with_reducible refine And.intro ?_ ?_)
    | with_reducible intro _
  all_goals first
    | omega
    | (simp; done)
    | skip
  refine loop_of (T := fun i : Nat × Nat × AObj => spar 40 [(0, .str s), (3, .osl (h.length + 1) i.2.1 1 0 i.1), (4, .int .i64 i.1)]) (H := fun i => h ++ [.emp 1, .mem i.2.1 4 (rightC s i.1), i.2.2, .emp 0])
    (inv := fun i => i.1 ≤ s.length ∧ site [i.2.2] 0 = true) (m := fun i => s.length - i.1) (0, 1, .emp 0) ⟨by simp only; omega, rfl⟩ (Wk.temps ?_) ?_
  · (simp only [spar, List.foldl, List.replicate, go_sem, VLes_nil, VLes_cons, VLe_undef_iff, VLe_self]; try (repeat' first | (with_reducible refine And.intro ?_ ?_) | (refine VLe_int ?_; omega) | (refine VLe_bool ?_; rfl) | exact VLe.refl _))
  · rintro ⟨i, v, O⟩ ⟨i1, i2⟩ K hK
    simp only at i1 i2 hK
    have i2' : ∀ m, site (O :: m) 0 = true := fun _ => i2
    have eL := rightC_len s i
    have eT : List.take i (rightC s i) = rightC s i := List.take_of_length_le (by omega)
    by_cases hi : i < s.length
    · cases i with
      | zero =>
        have hz : (((0 : Nat) : Int) < (s.length : Int)) = True := eq_true (by omega)
        have hz0 : ((0 : Nat) : Int) = 0 := rfl
        have hlt : ((0 : Int) < 0) = False := eq_false (by omega)
        have hc0 : rightC s 0 = [] := rfl
        have hz1 : ((0 : Int) < (s.length : Int)) = True := eq_true (by omega)
        have hR : rightAt s 0 = false := rfl
        by_cases hk0 : kind (ch s 0) = 2
        all_goals
          simp (disch := omega) only [spar, List.foldl, List.replicate, ch_eq, i2', madeA, hz0, hlt, hc0, hz1, hk0, go_sem, wrap64_id, Int.tdiv_eq_ediv_of_nonneg, Int.tmod_eq_emod_of_nonneg]
          repeat' first
            | (refine callG_false ((.int .i64 0)) ?_; simp (disch := omega) only [ch_eq, i2', madeA, hz0, hlt, hc0, hk0, go_sem, wrap64_id, Int.tdiv_eq_ediv_of_nonneg, Int.tmod_eq_emod_of_nonneg])
            | ((first | refine callA_pure (t117b _ _) ?_ ?_); (next => repeat' first | exact flags_n | refine flags_c (by first | rfl | assumption) ?_); simp (disch := omega) only [ch_eq, i2', madeA, hz0, hlt, hc0, hk0, go_sem, wrap64_id, Int.tdiv_eq_ediv_of_nonneg, Int.tmod_eq_emod_of_nonneg])
            | ((first | refine callG_pure (fun e => ⟨?_, t117b _ _⟩) ?_); (next => repeat' first | exact flags_n | refine flags_c (by first | rfl | assumption) ?_); simp (disch := omega) only [ch_eq, i2', madeA, hz0, hlt, hc0, hk0, go_sem, wrap64_id, Int.tdiv_eq_ediv_of_nonneg, Int.tmod_eq_emod_of_nonneg])
            | ((first | refine fnQ_pure1 ?_ ?_ | refine fnQ_pure0 ?_ ?_); (next => repeat' first | exact rvs_n | refine rvs_t ?_ | (simp [go_sem]; done)); simp only [go_sem]; (first | exact VLe.refl _ | refine VLe_int ?_ | refine VLe_bool ?_ | refine VLe_str ?_ | skip))
            | (with_reducible refine And.intro ?_ ?_)
            | with_reducible intro _
          all_goals first
            | omega
            | (rename_i hx; revert hx; simp; done)
            | (simp; done)
            | skip
          refine hK _ _ (0 + 1, v + 1, .mem (verOf (some O) + 1) 4 [.bool (rightAt s 0)]) ⟨by simp only; omega, rfl⟩ (by simp only; omega) ?_
          rw [rightC_succ]
          simp only [hR, hc0, List.nil_append]
          refine Wk.temps ?_
          (simp only [spar, List.foldl, List.replicate, go_sem, VLes_nil, VLes_cons, VLe_undef_iff, VLe_self]; try (repeat' first | (with_reducible refine And.intro ?_ ?_) | (refine VLe_int ?_; omega) | (refine VLe_bool ?_; rfl) | exact VLe.refl _))
      | succ i =>
        have hx : (((i + 1 : Nat) : Int) - 1).toNat = i := by omega
        have hg : (rightC s (i + 1))[i]? = some (.bool (rightAt s i)) := by simp [rightC]
        have hp : (0 < ((i + 1 : Nat) : Int)) = True := eq_true (by omega)
        simp (disch := omega) only [spar, List.foldl, List.replicate, ch_eq, i2', eL, eT, madeA, hx, hg, hp, go_sem, wrap64_id, Int.tdiv_eq_ediv_of_nonneg, Int.tmod_eq_emod_of_nonneg]
        repeat' first
          | ((first | refine callA_pure (t117b _ _) ?_ ?_); (next => repeat' first | exact flags_n | refine flags_c (by first | rfl | assumption) ?_); simp (disch := omega) only [ch_eq, i2', eL, eT, madeA, hx, hg, hp, go_sem, wrap64_id, Int.tdiv_eq_ediv_of_nonneg, Int.tmod_eq_emod_of_nonneg])
          | ((first | refine callG_pure (fun e => ⟨?_, t117b _ _⟩) ?_); (next => repeat' first | exact flags_n | refine flags_c (by first | rfl | assumption) ?_); simp (disch := omega) only [ch_eq, i2', eL, eT, madeA, hx, hg, hp, go_sem, wrap64_id, Int.tdiv_eq_ediv_of_nonneg, Int.tmod_eq_emod_of_nonneg])
          | ((first | refine fnQ_pure1 ?_ ?_ | refine fnQ_pure0 ?_ ?_); (next => repeat' first | exact rvs_n | refine rvs_t ?_ | (simp [go_sem]; done)); simp only [go_sem]; (first | exact VLe.refl _ | refine VLe_int ?_ | refine VLe_bool ?_ | refine VLe_str ?_ | skip))
          | (with_reducible refine And.intro ?_ ?_)
          | with_reducible intro _
        all_goals first
          | omega
          | (simp; done)
          | skip
        refine hK _ _ (i + 1 + 1, v + 1, .mem (verOf (some O) + 1) 4 [.bool (rightAt s (i + 1))]) ⟨by simp only; omega, rfl⟩ (by simp only; omega) ?_
        rw [rightC_succ s (i + 1)]
        simp only [rightAt]
        refine Wk.temps ?_
        (simp only [spar, List.foldl, List.replicate, go_sem, VLes_nil, VLes_cons, VLe_undef_iff, VLe_self]; try (repeat' first | (with_reducible refine And.intro ?_ ?_) | (refine VLe_int ?_; omega) | (refine VLe_bool ?_; rfl) | exact VLe.refl _))
    · have e : i = s.length := by omega
      subst e
      simp (disch := omega) only [spar, List.foldl, List.replicate, eL, go_sem, wrap64_id, Int.tdiv_eq_ediv_of_nonneg, Int.tmod_eq_emod_of_nonneg]
      repeat' first
        | ((first | refine fnQ_pure1 ?_ ?_ | refine fnQ_pure0 ?_ ?_); (next => repeat' first | exact rvs_n | refine rvs_t ?_ | (simp [go_sem]; done)); simp only [go_sem]; (first | exact VLe.refl _ | refine VLe_int ?_ | refine VLe_bool ?_ | refine VLe_str ?_ | skip))
        | (with_reducible refine And.intro ?_ ?_)
        | with_reducible intro _
      all_goals first
        | omega
        | skip
      have hrl : (rightL s).length = s.length := by simp [rightL]
      unfold bools
      rw [if_pos (by omega)]
      refine sl1_of (rightC_len s _) hrl (fun i c hc => ?_) (fun c hc => ?_)
      · have hi := (List.getElem?_eq_some_iff.1 hc).1
        rw [rightC_len] at hi
        rw [rightL_get hi]
        simp [rightC, hi] at hc
        rw [hc]
      · simp [rightC] at hc
        obtain ⟨x, _, rfl⟩ := hc
        rfl
end HY
end

section
/-! the text D4 -/
open Go Go.Proofs AF HY
namespace HY
set_option maxRecDepth 100000
theorem drop_take_succ (s : List UInt8) {f i : Nat} (h : f ≤ i) (hi : i < s.length) : (s.drop f).take (i + 1 - f) = (s.drop f).take (i - f) ++ [ch s i] := by
  rw [show i + 1 - f = (i - f) + 1 by omega, List.take_add_one, List.getElem?_drop, show f + (i - f) = i by omega]
  simp [ch, List.getD_eq_getElem?_getD, hi]
theorem one_at (s : List UInt8) {i : Nat} (hi : i < s.length) : (s.drop i).take (i + 1 - i) = [ch s i] := by
  rw [drop_take_succ s (Nat.le_refl _) hi, Nat.sub_self]; rfl
/-- The clusters before an index, and the present one. -/
def done (s : List UInt8) (D : List (List UInt8)) (f i : Nat) : Prop := inClus s f i ∧ i ≤ s.length ∧ clus s = D ++ (clusO f ((s.drop f).take (i - f)) (s.drop i)).map (·.2)
theorem done_first {s : List UInt8} (h : 0 < s.length) : done s [] 0 1 := by
  refine ⟨inClus_first s, h, ?_⟩
  cases s with
  | nil => simp at h
  | cons c r => simp [clus, clusters]
theorem done_go {s : List UInt8} {D : List (List UInt8)} {f i : Nat} (h : done s D f i) (hi : i < s.length) (hr : rightAt s i = true) : done s D f (i + 1) := by
  obtain ⟨h1, h2, h3⟩ := h
  refine ⟨inClus_go h1 hr, hi, ?_⟩
  rw [h3, clus_step h1.1 hi, if_pos ?_]
  rw [inClus_right h1] at hr
  simpa using hr
theorem done_new {s : List UInt8} {D : List (List UInt8)} {f i : Nat} (h : done s D f i) (hi : i < s.length) (hr : rightAt s i = false) : done s (D ++ [(s.drop f).take (i - f)]) i (i + 1) := by
  obtain ⟨h1, h2, h3⟩ := h
  refine ⟨inClus_new h1 hr, hi, ?_⟩
  rw [h3, clus_step h1.1 hi, if_neg ?_]
  · simp
  · rw [inClus_right h1] at hr
    simpa using hr
theorem done_end {s : List UInt8} {D : List (List UInt8)} {f : Nat} (h : done s D f s.length) : clus s = D ++ [(s.drop f).take (s.length - f)] := by
  rw [h.2.2, List.drop_length]; rfl
set_option maxHeartbeats 4000000 in
theorem t71 (s : List UInt8) (h : List AObj) (hs : s.length ≤ 1000000000) : ACalls Try.prog 71 [.str s] h (strs (clus s)) h := by
  refine acalls_of fn71 (by simp) ?_
  simp only [List.length_cons, List.length_nil, Nat.reduceAdd, Nat.reduceSub, List.replicate, List.cons_append, List.nil_append, List.append_nil]
  simp (disch := omega) only [c71, madeA, go_sem, wrap64_id, Int.tdiv_eq_ediv_of_nonneg, Int.tmod_eq_emod_of_nonneg]
  repeat' first
    | ((first | refine callA_pure (t95 s _ hs) ?_ ?_); (next => repeat' first | exact flags_n | refine flags_c (by first | rfl | assumption) ?_); simp (disch := omega) only [madeA, bools, go_sem, wrap64_id, Int.tdiv_eq_ediv_of_nonneg, Int.tmod_eq_emod_of_nonneg])
    | ((first | refine callG_pure (fun e => ⟨?_, t95 s _ hs⟩) ?_); (next => repeat' first | exact flags_n | refine flags_c (by first | rfl | assumption) ?_); simp (disch := omega) only [madeA, bools, go_sem, wrap64_id, Int.tdiv_eq_ediv_of_nonneg, Int.tmod_eq_emod_of_nonneg])
    | ((first | refine fnQ_pure1 ?_ ?_ | refine fnQ_pure0 ?_ ?_); (next => repeat' first | exact rvs_n | refine rvs_t ?_ | (simp [go_sem]; done)); simp only [go_sem]; (first | exact VLe.refl _ | refine VLe_int ?_ | refine VLe_bool ?_ | refine VLe_str ?_ | skip))
    | (with_reducible refine And.intro ?_ ?_)
    | with_reducible intro _
  all_goals first
    | omega
    | (rename_i hx; revert hx; simp; done)
    | (simp; done)
    | skip
  refine loop_of (T := fun i : Nat × List (List UInt8) × Nat × AObj × Nat => spar 45 [(0, .str s), (3, .osl (h.length + 1) i.2.2.2.2 1 0 i.2.1.length), (4, bools (rightL s)), (5, .int .i64 i.1)]) (H := fun i => h ++ [.emp 1, .mem i.2.2.2.2 9 (strC i.2.1), i.2.2.2.1, .emp 0])
    (inv := fun i => site [i.2.2.2.1] 0 = true ∧ ((i.1 = 0 ∧ i.2.1 = []) ∨ (∃ D, done s D i.2.2.1 i.1 ∧ i.2.1 = D ++ [(s.drop i.2.2.1).take (i.1 - i.2.2.1)] ∧ i.2.1.length ≤ i.1))) (m := fun i => s.length - i.1) (0, [], 0, .emp 0, 1) ⟨rfl, .inl ⟨rfl, rfl⟩⟩ (Wk.temps ?_) ?_
  · (simp only [bools, spar, List.foldl, List.replicate, go_sem, VLes_nil, VLes_cons, VLe_undef_iff, VLe_self]; try (repeat' first | (with_reducible refine And.intro ?_ ?_) | (refine VLe_int ?_; omega) | (refine VLe_bool ?_; rfl) | exact VLe.refl _))
  · rintro ⟨i, L, f, O, v⟩ ⟨i2, i3⟩ K hK
    simp only at i2 i3 hK
    have i2' : ∀ m, site (O :: m) 0 = true := fun _ => i2
    have eL := strC_len L
    have eT : List.take L.length (strC L) = strC L := List.take_of_length_le (by omega)
    have hrl : (rightL s).length = s.length := by simp [rightL]
    by_cases hi : i < s.length
    · have hg := rightL_get hi
      have hx : ((i : Int) + 1).toNat - i = 1 := by omega
      have h1c : List.take (i + 1 - i) (List.drop i s) = [ch s i] := one_at s hi
      have hii : i + 1 - i = 1 := by omega
      rw [hii] at h1c
      rcases i3 with ⟨rfl, rfl⟩ | ⟨D, hd, hL, hlen⟩
      · have hR : (rightL s).getD 0 false = false := hg
        have hz0 : ((0 : Nat) : Int) = 0 := rfl
        have hx0 : ((0 : Int) + 1).toNat - 0 = 1 := by omega
        have h0c : List.take 1 s = [ch s 0] := h1c
        simp (disch := omega) only [spar, List.foldl, List.replicate, bools, hrl, hR, i2', madeA, strC, List.map_nil, List.length_nil, hz0, hx0, h0c, go_sem, wrap64_id, Int.tdiv_eq_ediv_of_nonneg, Int.tmod_eq_emod_of_nonneg]
        repeat' first
          | ((first | refine fnQ_pure1 ?_ ?_ | refine fnQ_pure0 ?_ ?_); (next => repeat' first | exact rvs_n | refine rvs_t ?_ | (simp [go_sem]; done)); simp only [go_sem]; (first | exact VLe.refl _ | refine VLe_int ?_ | refine VLe_bool ?_ | refine VLe_str ?_ | skip))
          | (with_reducible refine And.intro ?_ ?_)
          | with_reducible intro _
        all_goals first
          | omega
          | (rename_i hx; revert hx; simp; done)
          | (simp; done)
          | skip
        refine hK _ _ (1, [[ch s 0]], 0, .mem (verOf (some O) + 1) 9 [.str [ch s 0]], v + 1) ⟨rfl, .inr ⟨[], done_first (by omega), by simpa using h0c.symm, by simp⟩⟩ (by simp only; omega) ?_
        simp only [strC, List.map_cons, List.map_nil]
        refine Wk.temps ?_
        (simp only [bools, hrl, List.length_singleton, spar, List.foldl, List.replicate, go_sem, VLes_nil, VLes_cons, VLe_undef_iff, VLe_self]; try (repeat' first | (with_reducible refine And.intro ?_ ?_) | (refine VLe_int ?_; omega) | (refine VLe_bool ?_; rfl) | exact VLe.refl _))
      · cases hR : rightAt s i with
        | true =>
          rw [hR] at hg
          have hLl : 0 < L.length := by rw [hL]; simp
          have hx1 : ((L.length : Int) - 1).toNat = L.length - 1 := by omega
          have hgl : (strC L)[L.length - 1]? = some (.str ((s.drop f).take (i - f))) := by rw [hL]; simp [strC]
          have hcl : ((s.drop f).take (i - f)).length ≤ 1000000000 := by rw [List.length_take, List.length_drop]; omega
          have hD : L.length - 1 = D.length := by rw [hL]; simp
          have e1 : List.take (L.length - 1) (strC L) ++ [.str ((s.drop f).take (i - f) ++ [ch s i])] ++ List.drop (L.length - 1 + 1) (strC L) = strC (D ++ [(s.drop f).take (i + 1 - f)]) := by
            rw [hD, drop_take_succ s (Nat.le_of_lt hd.1.1) hi, hL]
            simp [strC]
          simp (disch := omega) only [spar, List.foldl, List.replicate, bools, hrl, hg, i2', madeA, eL, hx1, hgl, hx, h1c, e1, List.length_singleton, go_sem, wrap64_id, Int.tdiv_eq_ediv_of_nonneg, Int.tmod_eq_emod_of_nonneg]
          repeat' first
            | ((first | refine fnQ_pure1 ?_ ?_ | refine fnQ_pure0 ?_ ?_); (next => repeat' first | exact rvs_n | refine rvs_t ?_ | (simp [go_sem]; done)); simp only [go_sem]; (first | exact VLe.refl _ | refine VLe_int ?_ | refine VLe_bool ?_ | refine VLe_str ?_ | skip))
            | (with_reducible refine And.intro ?_ ?_)
            | with_reducible intro _
          all_goals first
            | omega
            | (rename_i hx; revert hx; simp; done)
            | (simp; done)
            | skip
          refine hK _ _ (i + 1, D ++ [(s.drop f).take (i + 1 - f)], f, O, v) ⟨i2, .inr ⟨D, done_go hd hi hR, rfl, by rw [hL] at hlen; simp at hlen ⊢; omega⟩⟩ (by simp only; omega) ?_
          have e2 : (D ++ [(s.drop f).take (i + 1 - f)]).length = L.length := by rw [hL]; simp
          simp only [e2]
          refine Wk.temps ?_
          (simp only [bools, hrl, spar, List.foldl, List.replicate, go_sem, VLes_nil, VLes_cons, VLe_undef_iff, VLe_self]; try (repeat' first | (with_reducible refine And.intro ?_ ?_) | (refine VLe_int ?_; omega) | (refine VLe_bool ?_; rfl) | exact VLe.refl _))
        | false =>
          rw [hR] at hg
          simp (disch := omega) only [spar, List.foldl, List.replicate, bools, hrl, hg, i2', madeA, eL, eT, hx, h1c, go_sem, wrap64_id, Int.tdiv_eq_ediv_of_nonneg, Int.tmod_eq_emod_of_nonneg]
          repeat' first
            | ((first | refine fnQ_pure1 ?_ ?_ | refine fnQ_pure0 ?_ ?_); (next => repeat' first | exact rvs_n | refine rvs_t ?_ | (simp [go_sem]; done)); simp only [go_sem]; (first | exact VLe.refl _ | refine VLe_int ?_ | refine VLe_bool ?_ | refine VLe_str ?_ | skip))
            | (with_reducible refine And.intro ?_ ?_)
            | with_reducible intro _
          all_goals first
            | omega
            | (rename_i hx; revert hx; simp; done)
            | (simp; done)
            | skip
          refine hK _ _ (i + 1, L ++ [[ch s i]], i, .mem (verOf (some O) + 1) 9 [.str [ch s i]], v + 1) ⟨rfl, .inr ⟨D ++ [(s.drop f).take (i - f)], done_new hd hi hR, by simp only; rw [hL, one_at s hi], by simp; omega⟩⟩ (by simp only; omega) ?_
          simp only [strC_snoc, List.length_append, List.length_singleton]
          refine Wk.temps ?_
          (simp only [bools, hrl, spar, List.foldl, List.replicate, go_sem, VLes_nil, VLes_cons, VLe_undef_iff, VLe_self]; try (repeat' first | (with_reducible refine And.intro ?_ ?_) | (refine VLe_int ?_; omega) | (refine VLe_bool ?_; rfl) | exact VLe.refl _))
    · have hz : L = clus s := by
        rcases i3 with ⟨rfl, rfl⟩ | ⟨D, hd, hL, hlen⟩
        · have : s = [] := List.eq_nil_of_length_eq_zero (by omega)
          subst this; rfl
        · have e : i = s.length := by have := hd.2.1; omega
          subst e
          rw [hL, done_end hd]
      simp (disch := omega) only [spar, List.foldl, List.replicate, eL, go_sem, wrap64_id, Int.tdiv_eq_ediv_of_nonneg, Int.tmod_eq_emod_of_nonneg]
      repeat' first
        | ((first | refine fnQ_pure1 ?_ ?_ | refine fnQ_pure0 ?_ ?_); (next => repeat' first | exact rvs_n | refine rvs_t ?_ | (simp [go_sem]; done)); simp only [go_sem]; (first | exact VLe.refl _ | refine VLe_int ?_ | refine VLe_bool ?_ | refine VLe_str ?_ | skip))
        | (with_reducible refine And.intro ?_ ?_)
        | with_reducible intro _
      all_goals first
        | omega
        | (rename_i hx; revert hx; simp; done)
        | (simp; done)
        | skip
      rw [if_pos (by omega), ← hz]
      exact strs_of rfl
end HY
end

section
/-! the text D5 -/
open Go Go.Proofs AF HY
namespace HY
set_option maxRecDepth 100000
/-- The check, character by character. -/
theorem clusO_bad {s : List UInt8} : ∀ (k : Nat) {f i : Nat}, s.length - i = k → inClus s f i → i ≤ s.length → badHead ((s.drop f).take (i - f)) = badHead [ch s f] →
    ((clusO f ((s.drop f).take (i - f)) (s.drop i)).map (·.2)).any badHead = (badHead [ch s f] || (List.range' i (s.length - i)).any (badAt s)) := by
  intro k
  induction k with
  | zero =>
    intro f i hk hc hi hb
    have e : i = s.length := by omega
    subst e
    rw [List.drop_length, Nat.sub_self]
    simp [clusO, hb]
  | succ k ih =>
    intro f i hk hc hi hb
    have hi' : i < s.length := by omega
    rw [clus_step hc.1 hi']
    rw [show s.length - i = (s.length - (i + 1)) + 1 by omega, List.range'_succ, List.any_cons]
    have hr := inClus_right hc
    by_cases hg : kind (ch s i) = 2 ∧ kind (ch s f) = 1
    · rw [if_pos hg]
      have hrt : rightAt s i = true := by rw [hr]; simp [hg]
      have hb2 : badHead ((s.drop f).take (i + 1 - f)) = badHead [ch s f] := by
        rw [← hb]
        unfold badHead
        have e : ch ((s.drop f).take (i + 1 - f)) 0 = ch ((s.drop f).take (i - f)) 0 := by
          have := hc.1
          simp [ch, List.getD_eq_getElem?_getD, List.getElem?_take, show 0 < i - f by omega, show 0 < i + 1 - f by omega]
        rw [e]
      rw [ih (by omega) (inClus_go hc hrt) hi' hb2]
      have : badAt s i = false := by unfold badAt; rw [hrt, hg.1]; rfl
      rw [this, Bool.false_or]
    · rw [if_neg hg]
      have hrf : rightAt s i = false := by
        rw [hr]
        cases h2 : decide (kind (ch s i) = 2) <;> cases h3 : decide (kind (ch s f) = 1) <;> simp_all
      simp only [List.map_cons, List.any_cons, hb]
      have h1 : (s.drop i).take (i + 1 - i) = [ch s i] := one_at s hi'
      rw [ih (by omega) (inClus_new hc hrf) hi' (by rw [h1])]
      have : badAt s i = badHead [ch s i] := by unfold badAt badHead; rw [hrf]; simp [ch]
      rw [this]
theorem clus_bad (s : List UInt8) : (clus s).any badHead = (List.range s.length).any (badAt s) := by
  cases hs : s with
  | nil => rfl
  | cons c r =>
    rw [← hs]
    have h0 : 0 < s.length := by rw [hs]; simp
    have hd := done_first h0
    have h1 : (s.drop 0).take (1 - 0) = [ch s 0] := one_at s h0
    have := clusO_bad (s := s) _ rfl hd.1 h0 (by rw [h1])
    rw [← List.nil_append ((clusO 0 ((s.drop 0).take (1 - 0)) (s.drop 1)).map (·.2)), ← hd.2.2] at this
    rw [this, List.range_eq_range', show s.length = (s.length - 1) + 1 by omega, List.range'_succ, List.any_cons]
    have : badAt s 0 = badHead [ch s 0] := by unfold badAt badHead; simp [rightAt, ch]
    rw [this]; simp
theorem checkC_eq (s : List UInt8) : checkC s = if 65536 < s.length then 4 else if (List.range s.length).any (badAt s) = true then 11 else 0 := by unfold checkC; rw [clus_bad]
theorem any_range_true {p : Nat → Bool} {n i : Nat} (hi : i < n) (h : p i = true) : (List.range n).any p = true := List.any_eq_true.2 ⟨i, by simpa using hi, h⟩
theorem any_range_false {p : Nat → Bool} {n : Nat} (h : ∀ i, i < n → p i = false) : (List.range n).any p = false := by
  rw [List.any_eq_false]
  intro i hi
  simp at hi
  rw [h i hi]; simp
theorem t118 (s : List UInt8) (h : List AObj) (hs : s.length ≤ 1000000000) : ACalls Try.prog 118 [.str s] h (.int .i64 (checkC s)) h := by
  rw [checkC_eq]
  by_cases hl : 65536 < s.length
  · have hl' : (65536 < (s.length : Int)) = True := eq_true (by omega)
    rw [if_pos hl]
    refine acalls_of fn118 (by simp) ?_
    simp only [List.length_cons, List.length_nil, Nat.reduceAdd, Nat.reduceSub, List.replicate, List.cons_append, List.nil_append, List.append_nil]
    simp (disch := omega) only [c118, hl', go_sem, wrap64_id, Int.tdiv_eq_ediv_of_nonneg, Int.tmod_eq_emod_of_nonneg]
    repeat' first
      | ((first | refine fnQ_pure1 ?_ ?_ | refine fnQ_pure0 ?_ ?_); (next => repeat' first | exact rvs_n | refine rvs_t ?_ | (simp [go_sem]; done)); simp only [go_sem]; (first | exact VLe.refl _ | refine VLe_int ?_ | refine VLe_bool ?_ | refine VLe_str ?_ | skip))
      | (with_reducible refine And.intro ?_ ?_)
      | with_reducible intro _
    all_goals first
      | omega
      | (rename_i hx; revert hx; simp; done)
      | (simp; done)
      | skip
  · have hl' : (65536 < (s.length : Int)) = False := eq_false (by omega)
    rw [if_neg hl]
    refine acalls_of fn118 (by simp) ?_
    simp only [List.length_cons, List.length_nil, Nat.reduceAdd, Nat.reduceSub, List.replicate, List.cons_append, List.nil_append, List.append_nil]
    simp (disch := omega) only [c118, hl', go_sem, wrap64_id, Int.tdiv_eq_ediv_of_nonneg, Int.tmod_eq_emod_of_nonneg]
    repeat' first
      | ((first | refine callA_pure (t95 s _ hs) ?_ ?_); (next => repeat' first | exact flags_n | refine flags_c (by first | rfl | assumption) ?_); simp (disch := omega) only [hl', bools, go_sem, wrap64_id, Int.tdiv_eq_ediv_of_nonneg, Int.tmod_eq_emod_of_nonneg])
      | ((first | refine callG_pure (fun e => ⟨?_, t95 s _ hs⟩) ?_); (next => repeat' first | exact flags_n | refine flags_c (by first | rfl | assumption) ?_); simp (disch := omega) only [hl', bools, go_sem, wrap64_id, Int.tdiv_eq_ediv_of_nonneg, Int.tmod_eq_emod_of_nonneg])
      | ((first | refine fnQ_pure1 ?_ ?_ | refine fnQ_pure0 ?_ ?_); (next => repeat' first | exact rvs_n | refine rvs_t ?_ | (simp [go_sem]; done)); simp only [go_sem]; (first | exact VLe.refl _ | refine VLe_int ?_ | refine VLe_bool ?_ | refine VLe_str ?_ | skip))
      | (with_reducible refine And.intro ?_ ?_)
      | with_reducible intro _
    all_goals first
      | omega
      | (rename_i hx; revert hx; simp; done)
      | (simp; done)
      | skip
    refine loop_of (T := fun i : Nat => spar 34 [(0, .str s), (3, bools (rightL s)), (4, .int .i64 i)]) (H := fun _ => h) (inv := fun i => i ≤ s.length ∧ ∀ j, j < i → badAt s j = false) (m := fun i => s.length - i) 0 ⟨by omega, by omega⟩ (Wk.temps ?_) ?_
    · (simp only [bools, spar, List.foldl, List.replicate, go_sem, VLes_nil, VLes_cons, VLe_undef_iff, VLe_self]; try (repeat' first | (with_reducible refine And.intro ?_ ?_) | (refine VLe_int ?_; omega) | (refine VLe_bool ?_; rfl) | exact VLe.refl _))
    · rintro i ⟨i1, i2⟩ K hK
      have hrl : (rightL s).length = s.length := by simp [rightL]
      by_cases hi : i < s.length
      · have hg := rightL_get hi
        by_cases hb : badAt s i = true
        · rw [if_pos (any_range_true hi hb)]
          unfold badAt at hb
          simp (disch := omega) only [spar, List.foldl, List.replicate, bools, hrl, hg, ch_eq, go_sem, wrap64_id, Int.tdiv_eq_ediv_of_nonneg, Int.tmod_eq_emod_of_nonneg]
          repeat' first
            | ((first | refine callA_pure (t117b _ _) ?_ ?_); (next => repeat' first | exact flags_n | refine flags_c (by first | rfl | assumption) ?_); simp (disch := omega) only [bools, hrl, hg, ch_eq, go_sem, wrap64_id, Int.tdiv_eq_ediv_of_nonneg, Int.tmod_eq_emod_of_nonneg])
            | ((first | refine callG_pure (fun e => ⟨?_, t117b _ _⟩) ?_); (next => repeat' first | exact flags_n | refine flags_c (by first | rfl | assumption) ?_); simp (disch := omega) only [bools, hrl, hg, ch_eq, go_sem, wrap64_id, Int.tdiv_eq_ediv_of_nonneg, Int.tmod_eq_emod_of_nonneg])
            | ((first | refine fnQ_pure1 ?_ ?_ | refine fnQ_pure0 ?_ ?_); (next => repeat' first | exact rvs_n | refine rvs_t ?_ | (simp [go_sem]; done)); simp only [go_sem]; (first | exact VLe.refl _ | refine VLe_int ?_ | refine VLe_bool ?_ | refine VLe_str ?_ | skip))
            | (with_reducible refine And.intro ?_ ?_)
            | with_reducible intro _
          all_goals first
            | omega
            | (rename_i hx; revert hx; simp; done)
            | (simp; done)
            | skip
          all_goals
            refine hK _ _ (i + 1) ⟨by omega, ?_⟩ (by omega) (Wk.temps ?_)
            · exfalso; grind
            · (simp only [bools, hrl, spar, List.foldl, List.replicate, go_sem, VLes_nil, VLes_cons, VLe_undef_iff, VLe_self]; try (repeat' first | (with_reducible refine And.intro ?_ ?_) | (refine VLe_int ?_; omega) | (refine VLe_bool ?_; rfl) | exact VLe.refl _))
        · have hb' : badAt s i = false := by simpa using hb
          unfold badAt at hb
          simp (disch := omega) only [spar, List.foldl, List.replicate, bools, hrl, hg, ch_eq, go_sem, wrap64_id, Int.tdiv_eq_ediv_of_nonneg, Int.tmod_eq_emod_of_nonneg]
          repeat' first
            | ((first | refine callA_pure (t117b _ _) ?_ ?_); (next => repeat' first | exact flags_n | refine flags_c (by first | rfl | assumption) ?_); simp (disch := omega) only [bools, hrl, hg, ch_eq, go_sem, wrap64_id, Int.tdiv_eq_ediv_of_nonneg, Int.tmod_eq_emod_of_nonneg])
            | ((first | refine callG_pure (fun e => ⟨?_, t117b _ _⟩) ?_); (next => repeat' first | exact flags_n | refine flags_c (by first | rfl | assumption) ?_); simp (disch := omega) only [bools, hrl, hg, ch_eq, go_sem, wrap64_id, Int.tdiv_eq_ediv_of_nonneg, Int.tmod_eq_emod_of_nonneg])
            | ((first | refine fnQ_pure1 ?_ ?_ | refine fnQ_pure0 ?_ ?_); (next => repeat' first | exact rvs_n | refine rvs_t ?_ | (simp [go_sem]; done)); simp only [go_sem]; (first | exact VLe.refl _ | refine VLe_int ?_ | refine VLe_bool ?_ | refine VLe_str ?_ | skip))
            | (with_reducible refine And.intro ?_ ?_)
            | with_reducible intro _
          all_goals first
            | omega
            | (rename_i hx; revert hx; simp; done)
            | (simp; done)
            | skip
          all_goals first
            | (exfalso; grind)
            | skip
          all_goals
            refine hK _ _ (i + 1) ⟨by omega, fun j hj => ?_⟩ (by omega) (Wk.temps ?_)
            · by_cases e : j = i
              · subst e; exact hb'
              · exact i2 j (by omega)
            · (simp only [bools, hrl, spar, List.foldl, List.replicate, go_sem, VLes_nil, VLes_cons, VLe_undef_iff, VLe_self]; try (repeat' first | (with_reducible refine And.intro ?_ ?_) | (refine VLe_int ?_; omega) | (refine VLe_bool ?_; rfl) | exact VLe.refl _))
      · have e : i = s.length := by omega
        subst e
        rw [any_range_false i2]
        simp (disch := omega) only [spar, List.foldl, List.replicate, go_sem, wrap64_id, Int.tdiv_eq_ediv_of_nonneg, Int.tmod_eq_emod_of_nonneg]
        repeat' first
          | ((first | refine fnQ_pure1 ?_ ?_ | refine fnQ_pure0 ?_ ?_); (next => repeat' first | exact rvs_n | refine rvs_t ?_ | (simp [go_sem]; done)); simp only [go_sem]; (first | exact VLe.refl _ | refine VLe_int ?_ | refine VLe_bool ?_ | refine VLe_str ?_ | skip))
          | (with_reducible refine And.intro ?_ ?_)
          | with_reducible intro _
        all_goals first
          | omega
          | (rename_i hx; revert hx; simp; done)
          | (simp; done)
          | skip
end HY
end

section
/-! the text D6 -/
open Go Go.Proofs AF HY
namespace HY
set_option maxRecDepth 100000
theorem kind_range (b : UInt8) : 0 ≤ kind b ∧ kind b ≤ 6 := by
  unfold kind kindI
  (repeat' split) <;> omega
theorem any_ch (s : List UInt8) (p : UInt8 → Bool) : (List.range s.length).any (fun i => p (ch s i)) = s.any p := by
  rw [Bool.eq_iff_iff, List.any_eq_true, List.any_eq_true]
  constructor
  · rintro ⟨i, hi, h⟩
    simp at hi
    refine ⟨s[i], List.getElem_mem hi, ?_⟩
    simpa [ch, hi] using h
  · rintro ⟨x, hx, h⟩
    obtain ⟨i, hi, rfl⟩ := List.mem_iff_getElem.1 hx
    exact ⟨i, by simpa using hi, by simpa [ch, hi] using h⟩
def spc (c : UInt8) : Bool := decide (kind c = 5) || decide (kind c = 6)
theorem isWord_eq (s : List UInt8) : isWord s = (decide (0 < s.length) && decide (s.length ≤ 64) && decide (checkC s = 0) && (decide (kind (ch s 0) = 1) || decide (kind (ch s 0) = 3)) && !((List.range s.length).any fun i => spc (ch s i))) := by
  rw [any_ch]; rfl
theorem t93 (s : List UInt8) (h : List AObj) (hs : s.length ≤ 1000000000) : ACalls Try.prog 93 [.str s] h (.bool (isWord s)) h := by
  obtain ⟨c, hc⟩ : ∃ c, c = checkC s := ⟨_, rfl⟩
  have h118 : ∀ h : List AObj, ACalls Try.prog 118 [.str s] h (.int .i64 c) h := fun h => by rw [hc]; exact t118 s h hs
  rw [isWord_eq, ← hc]
  by_cases g0 : 0 < s.length ∧ s.length ≤ 64 ∧ c = 0 ∧ (kind (ch s 0) = 1 ∨ kind (ch s 0) = 3)
  · obtain ⟨g1, g2, g3, g4⟩ := g0
    have e : (decide (0 < s.length) && decide (s.length ≤ 64) && decide (c = 0) && (decide (kind (ch s 0) = 1) || decide (kind (ch s 0) = 3))) = true := by simp [g1, g2, g3, g4]
    rw [e, Bool.true_and]
    have k1 : ((s.length : Int) < 1) = False := eq_false (by omega)
    have k2 : (64 < (s.length : Int)) = False := eq_false (by omega)
    refine acalls_of fn93 (by simp) ?_
    simp only [List.length_cons, List.length_nil, Nat.reduceAdd, Nat.reduceSub, List.replicate, List.cons_append, List.nil_append, List.append_nil]
    simp (disch := omega) only [c93, k1, k2, go_sem, wrap64_id, Int.tdiv_eq_ediv_of_nonneg, Int.tmod_eq_emod_of_nonneg]
    repeat' first
      | ((first | refine callA_pure (h118 _) ?_ ?_ | refine callA_pure (t117b _ _) ?_ ?_); (next => repeat' first | exact flags_n | refine flags_c (by first | rfl | assumption) ?_); simp (disch := omega) only [k1, k2, g3, ch_eq, go_sem, wrap64_id, Int.tdiv_eq_ediv_of_nonneg, Int.tmod_eq_emod_of_nonneg])
      | ((first | refine callG_pure (fun e => ⟨?_, h118 _⟩) ?_ | refine callG_pure (fun e => ⟨?_, t117b _ _⟩) ?_); (next => repeat' first | exact flags_n | refine flags_c (by first | rfl | assumption) ?_); simp (disch := omega) only [k1, k2, g3, ch_eq, go_sem, wrap64_id, Int.tdiv_eq_ediv_of_nonneg, Int.tmod_eq_emod_of_nonneg])
      | ((first | refine fnQ_pure1 ?_ ?_ | refine fnQ_pure0 ?_ ?_); (next => repeat' first | exact rvs_n | refine rvs_t ?_ | (simp [go_sem]; done)); simp only [go_sem]; (first | exact VLe.refl _ | refine VLe_int ?_ | refine VLe_bool ?_ | refine VLe_str ?_ | skip))
      | (with_reducible refine And.intro ?_ ?_)
      | with_reducible intro _
    all_goals first
      | omega
      | (rename_i hx; revert hx; simp; done)
      | (simp; done)
      | skip
    refine loop_of (T := fun i : Nat => spar 38 [(0, .str s), (4, .int .i64 i)]) (H := fun _ => h) (inv := fun i => i ≤ s.length ∧ ∀ j, j < i → spc (ch s j) = false) (m := fun i => s.length - i) 0 ⟨by omega, by omega⟩ (Wk.temps ?_) ?_
    · (simp only [spar, List.foldl, List.replicate, go_sem, VLes_nil, VLes_cons, VLe_undef_iff, VLe_self]; try (repeat' first | (with_reducible refine And.intro ?_ ?_) | (refine VLe_int ?_; omega) | (refine VLe_bool ?_; rfl) | exact VLe.refl _))
    · rintro i ⟨i1, i2⟩ K hK
      by_cases hi : i < s.length
      · have hr := kind_range (ch s i)
        cases hb : spc (ch s i) with
        | true =>
          rw [any_range_true hi hb]
          unfold spc at hb
          have hk : (4 < kind (ch s i)) = True := eq_true (by grind)
          simp (disch := omega) only [spar, List.foldl, List.replicate, ch_eq, go_sem, wrap64_id, Int.tdiv_eq_ediv_of_nonneg, Int.tmod_eq_emod_of_nonneg]
          repeat' first
            | ((first | refine callA_pure (t117b _ _) ?_ ?_); (next => repeat' first | exact flags_n | refine flags_c (by first | rfl | assumption) ?_); simp (disch := omega) only [ch_eq, hk, go_sem, wrap64_id, Int.tdiv_eq_ediv_of_nonneg, Int.tmod_eq_emod_of_nonneg])
            | ((first | refine callG_pure (fun e => ⟨?_, t117b _ _⟩) ?_); (next => repeat' first | exact flags_n | refine flags_c (by first | rfl | assumption) ?_); simp (disch := omega) only [ch_eq, hk, go_sem, wrap64_id, Int.tdiv_eq_ediv_of_nonneg, Int.tmod_eq_emod_of_nonneg])
            | ((first | refine fnQ_pure1 ?_ ?_ | refine fnQ_pure0 ?_ ?_); (next => repeat' first | exact rvs_n | refine rvs_t ?_ | (simp [go_sem]; done)); simp only [go_sem]; (first | exact VLe.refl _ | refine VLe_int ?_ | refine VLe_bool ?_ | refine VLe_str ?_ | skip))
            | (with_reducible refine And.intro ?_ ?_)
            | with_reducible intro _
          all_goals first
            | omega
            | (rename_i hx; revert hx; simp; done)
            | (simp; done)
            | skip
        | false =>
          have hk : (4 < kind (ch s i)) = False := eq_false (by unfold spc at hb; grind)
          simp (disch := omega) only [spar, List.foldl, List.replicate, ch_eq, go_sem, wrap64_id, Int.tdiv_eq_ediv_of_nonneg, Int.tmod_eq_emod_of_nonneg]
          repeat' first
            | ((first | refine callA_pure (t117b _ _) ?_ ?_); (next => repeat' first | exact flags_n | refine flags_c (by first | rfl | assumption) ?_); simp (disch := omega) only [ch_eq, hk, go_sem, wrap64_id, Int.tdiv_eq_ediv_of_nonneg, Int.tmod_eq_emod_of_nonneg])
            | ((first | refine callG_pure (fun e => ⟨?_, t117b _ _⟩) ?_); (next => repeat' first | exact flags_n | refine flags_c (by first | rfl | assumption) ?_); simp (disch := omega) only [ch_eq, hk, go_sem, wrap64_id, Int.tdiv_eq_ediv_of_nonneg, Int.tmod_eq_emod_of_nonneg])
            | ((first | refine fnQ_pure1 ?_ ?_ | refine fnQ_pure0 ?_ ?_); (next => repeat' first | exact rvs_n | refine rvs_t ?_ | (simp [go_sem]; done)); simp only [go_sem]; (first | exact VLe.refl _ | refine VLe_int ?_ | refine VLe_bool ?_ | refine VLe_str ?_ | skip))
            | (with_reducible refine And.intro ?_ ?_)
            | with_reducible intro _
          all_goals first
            | omega
            | (rename_i hx; revert hx; simp; done)
            | (simp; done)
            | skip
          refine hK _ _ (i + 1) ⟨by omega, fun j hj => ?_⟩ (by omega) (Wk.temps ?_)
          · by_cases e : j = i
            · subst e; exact hb
            · exact i2 j (by omega)
          · (simp only [spar, List.foldl, List.replicate, go_sem, VLes_nil, VLes_cons, VLe_undef_iff, VLe_self]; try (repeat' first | (with_reducible refine And.intro ?_ ?_) | (refine VLe_int ?_; omega) | (refine VLe_bool ?_; rfl) | exact VLe.refl _))
      · have e : i = s.length := by omega
        subst e
        rw [any_range_false i2]
        simp (disch := omega) only [spar, List.foldl, List.replicate, go_sem, wrap64_id, Int.tdiv_eq_ediv_of_nonneg, Int.tmod_eq_emod_of_nonneg]
        repeat' first
          | ((first | refine fnQ_pure1 ?_ ?_ | refine fnQ_pure0 ?_ ?_); (next => repeat' first | exact rvs_n | refine rvs_t ?_ | (simp [go_sem]; done)); simp only [go_sem]; (first | exact VLe.refl _ | refine VLe_int ?_ | refine VLe_bool ?_ | refine VLe_str ?_ | skip))
          | (with_reducible refine And.intro ?_ ?_)
          | with_reducible intro _
        all_goals first
          | omega
          | (rename_i hx; revert hx; simp; done)
          | (simp; done)
          | skip
  · have e : (decide (0 < s.length) && decide (s.length ≤ 64) && decide (c = 0) && (decide (kind (ch s 0) = 1) || decide (kind (ch s 0) = 3))) = false := by
      rw [Bool.eq_false_iff]
      intro h
      simp only [Bool.and_eq_true, Bool.or_eq_true, decide_eq_true_eq] at h
      exact g0 ⟨h.1.1.1, h.1.1.2, h.1.2, h.2⟩
    rw [e, Bool.false_and]
    by_cases g1 : 0 < s.length
    · by_cases g2 : s.length ≤ 64
      · have k1 : ((s.length : Int) < 1) = False := eq_false (by omega)
        have k2 : (64 < (s.length : Int)) = False := eq_false (by omega)
        by_cases g3 : c = 0
        · have g4 : ¬ kind (ch s 0) = 1 ∧ ¬ kind (ch s 0) = 3 := by
            constructor
            · intro h; exact g0 ⟨g1, g2, g3, .inl h⟩
            · intro h; exact g0 ⟨g1, g2, g3, .inr h⟩
          have g5 := g4.1
          have g6 := g4.2
          refine acalls_of fn93 (by simp) ?_
          simp only [List.length_cons, List.length_nil, Nat.reduceAdd, Nat.reduceSub, List.replicate, List.cons_append, List.nil_append, List.append_nil]
          simp (disch := omega) only [c93, k1, k2, go_sem, wrap64_id, Int.tdiv_eq_ediv_of_nonneg, Int.tmod_eq_emod_of_nonneg]
          repeat' first
            | ((first | refine callA_pure (h118 _) ?_ ?_ | refine callA_pure (t117b _ _) ?_ ?_); (next => repeat' first | exact flags_n | refine flags_c (by first | rfl | assumption) ?_); simp (disch := omega) only [k1, k2, g3, ch_eq, g5, g6, go_sem, wrap64_id, Int.tdiv_eq_ediv_of_nonneg, Int.tmod_eq_emod_of_nonneg])
            | ((first | refine callG_pure (fun e => ⟨?_, h118 _⟩) ?_ | refine callG_pure (fun e => ⟨?_, t117b _ _⟩) ?_); (next => repeat' first | exact flags_n | refine flags_c (by first | rfl | assumption) ?_); simp (disch := omega) only [k1, k2, g3, ch_eq, g5, g6, go_sem, wrap64_id, Int.tdiv_eq_ediv_of_nonneg, Int.tmod_eq_emod_of_nonneg])
            | ((first | refine fnQ_pure1 ?_ ?_ | refine fnQ_pure0 ?_ ?_); (next => repeat' first | exact rvs_n | refine rvs_t ?_ | (simp [go_sem]; done)); simp only [go_sem]; (first | exact VLe.refl _ | refine VLe_int ?_ | refine VLe_bool ?_ | refine VLe_str ?_ | skip))
            | (with_reducible refine And.intro ?_ ?_)
            | with_reducible intro _
          all_goals first
            | omega
            | (rename_i hx; revert hx; simp; done)
            | (simp; done)
            | skip
        · refine acalls_of fn93 (by simp) ?_
          simp only [List.length_cons, List.length_nil, Nat.reduceAdd, Nat.reduceSub, List.replicate, List.cons_append, List.nil_append, List.append_nil]
          simp (disch := omega) only [c93, k1, k2, go_sem, wrap64_id, Int.tdiv_eq_ediv_of_nonneg, Int.tmod_eq_emod_of_nonneg]
          repeat' first
            | ((first | refine callA_pure (h118 _) ?_ ?_ | refine callA_pure (t117b _ _) ?_ ?_); (next => repeat' first | exact flags_n | refine flags_c (by first | rfl | assumption) ?_); simp (disch := omega) only [k1, k2, g3, ch_eq, go_sem, wrap64_id, Int.tdiv_eq_ediv_of_nonneg, Int.tmod_eq_emod_of_nonneg])
            | ((first | refine callG_pure (fun e => ⟨?_, h118 _⟩) ?_ | refine callG_pure (fun e => ⟨?_, t117b _ _⟩) ?_); (next => repeat' first | exact flags_n | refine flags_c (by first | rfl | assumption) ?_); simp (disch := omega) only [k1, k2, g3, ch_eq, go_sem, wrap64_id, Int.tdiv_eq_ediv_of_nonneg, Int.tmod_eq_emod_of_nonneg])
            | ((first | refine fnQ_pure1 ?_ ?_ | refine fnQ_pure0 ?_ ?_); (next => repeat' first | exact rvs_n | refine rvs_t ?_ | (simp [go_sem]; done)); simp only [go_sem]; (first | exact VLe.refl _ | refine VLe_int ?_ | refine VLe_bool ?_ | refine VLe_str ?_ | skip))
            | (with_reducible refine And.intro ?_ ?_)
            | with_reducible intro _
          all_goals first
            | omega
            | (rename_i hx; revert hx; simp; done)
            | (simp; done)
            | skip
      · have k1 : ((s.length : Int) < 1) = False := eq_false (by omega)
        have k2 : (64 < (s.length : Int)) = True := eq_true (by omega)
        refine acalls_of fn93 (by simp) ?_
        simp only [List.length_cons, List.length_nil, Nat.reduceAdd, Nat.reduceSub, List.replicate, List.cons_append, List.nil_append, List.append_nil]
        simp (disch := omega) only [c93, k1, k2, go_sem, wrap64_id, Int.tdiv_eq_ediv_of_nonneg, Int.tmod_eq_emod_of_nonneg]
        repeat' first
          | (refine callG_false ((.int .i64 0)) ?_; simp (disch := omega) only [k1, k2, go_sem, wrap64_id, Int.tdiv_eq_ediv_of_nonneg, Int.tmod_eq_emod_of_nonneg])
          | ((first | refine fnQ_pure1 ?_ ?_ | refine fnQ_pure0 ?_ ?_); (next => repeat' first | exact rvs_n | refine rvs_t ?_ | (simp [go_sem]; done)); simp only [go_sem]; (first | exact VLe.refl _ | refine VLe_int ?_ | refine VLe_bool ?_ | refine VLe_str ?_ | skip))
          | (with_reducible refine And.intro ?_ ?_)
          | with_reducible intro _
        all_goals first
          | omega
          | (rename_i hx; revert hx; simp; done)
          | (simp; done)
          | skip
    · have k1 : ((s.length : Int) < 1) = True := eq_true (by omega)
      refine acalls_of fn93 (by simp) ?_
      simp only [List.length_cons, List.length_nil, Nat.reduceAdd, Nat.reduceSub, List.replicate, List.cons_append, List.nil_append, List.append_nil]
      simp (disch := omega) only [c93, k1, go_sem, wrap64_id, Int.tdiv_eq_ediv_of_nonneg, Int.tmod_eq_emod_of_nonneg]
      repeat' first
        | (refine callG_false ((.int .i64 0)) ?_; simp (disch := omega) only [k1, go_sem, wrap64_id, Int.tdiv_eq_ediv_of_nonneg, Int.tmod_eq_emod_of_nonneg])
        | ((first | refine fnQ_pure1 ?_ ?_ | refine fnQ_pure0 ?_ ?_); (next => repeat' first | exact rvs_n | refine rvs_t ?_ | (simp [go_sem]; done)); simp only [go_sem]; (first | exact VLe.refl _ | refine VLe_int ?_ | refine VLe_bool ?_ | refine VLe_str ?_ | skip))
        | (with_reducible refine And.intro ?_ ?_)
        | with_reducible intro _
      all_goals first
        | omega
        | (rename_i hx; revert hx; simp; done)
        | (simp; done)
        | skip
end HY
end

section
/-! the text D7 -/
open Go Go.Proofs AF HY
namespace HY
set_option maxRecDepth 100000
def clusF (s : List UInt8) : AV := .fn (.func 114) [] [.ip [.str s]]
def clusX (s : List UInt8) : List (List AV) := (clusters s).map fun x => [.int .i64 (x.1 : Int), .str x.2]
theorem clusX_len (s : List UInt8) : (clusX s).length = (clus s).length := by simp [clusX, clus]
theorem clusX_get (s : List UInt8) {i : Nat} (hi : i < (clusX s).length) : ∃ n : Nat, (clusX s)[i] = [.int .i64 (n : Int), .str ((clus s).getD i [])] := by
  have h1 : i < (clusters s).length := by simpa [clusX] using hi
  refine ⟨((clusters s)[i]).1, ?_⟩
  simp [clusX, clus, List.getD_eq_getElem?_getD, h1]
theorem t91 (s : List UInt8) (h : List AObj) : ACalls Try.prog 91 [.str s] h (clusF s) h := by
  refine acalls_of fn91 (by simp) ?_
  simp only [List.length_cons, List.length_nil, Nat.reduceAdd, Nat.reduceSub, List.replicate, List.cons_append, List.nil_append, List.append_nil]
  simp (disch := omega) only [c91, go_sem, wrap64_id, Int.tdiv_eq_ediv_of_nonneg, Int.tmod_eq_emod_of_nonneg]
  repeat' first
    | ((first | refine fnQ_pure1 ?_ ?_ | refine fnQ_pure0 ?_ ?_); (next => repeat' first | exact rvs_n | refine rvs_t ?_ | (simp [go_sem]; done)); simp only [go_sem]; (first | exact VLe.refl _ | refine VLe_int ?_ | refine VLe_bool ?_ | refine VLe_str ?_ | skip))
    | (with_reducible refine And.intro ?_ ?_)
    | with_reducible intro _
  all_goals first
    | omega
    | (rename_i hx; revert hx; simp; done)
    | (simp; done)
    | skip
theorem flag_clusF (s : List UInt8) : (clusF s).flag = true := rfl
theorem strip_clusF (s : List UInt8) : (clusF s).strip = clusF s := rfl
attribute [go_sem] flag_clusF strip_clusF
theorem _root_.AF.LowI.app {h a b : List AObj} (e : b.length = a.length) (hb : ∀ o ∈ b, o ∈ a ∨ (lowO (h.length + a.length) o ∧ lowO (h.length + a.length + 1) o)) : LowI (h ++ a) (h ++ b) := by
  refine ⟨by simp [e], fun o ho => ?_⟩
  rw [List.length_append]
  rcases List.mem_append.1 ho with ho | ho
  · exact .inl (List.mem_append_left _ ho)
  · rcases hb o ho with h1 | h1
    · exact .inl (List.mem_append_right _ h1)
    · exact .inr h1
theorem low_strC {l : List (List UInt8)} {n : Nat} {c : AV} (h : c ∈ strC l) : lowV n c = true := by
  unfold strC at h
  rw [List.mem_map] at h
  obtain ⟨x, _, rfl⟩ := h
  rfl
theorem take_getD (l : List (List UInt8)) {i : Nat} (h : i < l.length) : l.take (i + 1) = l.take i ++ [l.getD i []] := by
  rw [List.take_add_one, List.getElem?_eq_getElem h]
  simp [List.getD_eq_getElem?_getD, h]
set_option maxHeartbeats 4000000 in
theorem t67 (s : List UInt8) (h : List AObj) (hs : s.length ≤ 1000000000) : ACalls Try.prog 67 [.str s] h (strs (clus s)) h := by
  have hcl := clus_len s
  have hit := it114 s hs
  refine acalls_of fn67 (by simp) ?_
  simp only [List.length_cons, List.length_nil, Nat.reduceAdd, Nat.reduceSub, List.replicate, List.cons_append, List.nil_append, List.append_nil]
  simp (disch := omega) only [c67, madeA, go_sem, wrap64_id, Int.tdiv_eq_ediv_of_nonneg, Int.tmod_eq_emod_of_nonneg]
  repeat' first
    | ((first | refine callA_pure (t91 s _) ?_ ?_); (next => repeat' first | exact flags_n | refine flags_c (by first | rfl | assumption) ?_); simp (disch := omega) only [madeA, go_sem, wrap64_id, Int.tdiv_eq_ediv_of_nonneg, Int.tmod_eq_emod_of_nonneg])
    | ((first | refine callG_pure (fun e => ⟨?_, t91 s _⟩) ?_); (next => repeat' first | exact flags_n | refine flags_c (by first | rfl | assumption) ?_); simp (disch := omega) only [madeA, go_sem, wrap64_id, Int.tdiv_eq_ediv_of_nonneg, Int.tmod_eq_emod_of_nonneg])
    | ((first | refine fnQ_pure1 ?_ ?_ | refine fnQ_pure0 ?_ ?_); (next => repeat' first | exact rvs_n | refine rvs_t ?_ | (simp [go_sem]; done)); simp only [go_sem]; (first | exact VLe.refl _ | refine VLe_int ?_ | refine VLe_bool ?_ | refine VLe_str ?_ | skip))
    | (with_reducible refine And.intro ?_ ?_)
    | with_reducible intro _
  all_goals first
    | omega
    | (rename_i hx; revert hx; simp; done)
    | (simp; done)
    | skip
  refine range_iter (xs := clusX s) hit (by intro a ha; simp [clusX] at ha; obtain ⟨_, _, _, rfl⟩ := ha; rfl)
    (S := fun i hh => (i = 0 ∧ hh = h ++ [.emp 1, .mem 1 56 [.nl], .emp 0, .emp 0]) ∨ (0 < i ∧ ∃ (v w : Nat) (x : List UInt8), hh = h ++ [.emp 1, .mem 1 56 [.osl (h.length + 3) v 1 0 i], .mem w 9 [.str x], .mem v 9 (strC ((clus s).take i))]))
    (E := fun _ _ => False) ?_ (fun _ _ h => h.elim) ?_ ?_ ?_ ?_ (fun _ _ h => h.elim)
  · rintro i hh (⟨rfl, rfl⟩ | ⟨_, v, w, x, rfl⟩)
    · exact LowI.refl _
    · refine LowI.app rfl (fun o ho => ?_)
      simp only [List.mem_cons, List.not_mem_nil, or_false] at ho
      rcases ho with rfl | rfl | rfl | rfl
      · left; simp
      · right; constructor <;> (intro c hc; simp at hc; subst hc; simp [lowV] <;> omega)
      · right; constructor <;> (intro c hc; simp at hc; subst hc; rfl)
      · right; constructor <;> exact fun c hc => low_strC hc
  · exact .inl ⟨rfl, rfl⟩
  · simp [lowV, lowV.lowVs, clusF]
    try omega
  · rintro i hh tl L hi hS hlen
    obtain ⟨n, hx⟩ := clusX_get s hi
    rw [clusX_len] at hi
    rw [hx]
    have hts := take_getD (clus s) hi
    simp only [setsA]
    rcases hS with ⟨rfl, rfl⟩ | ⟨hpos, v, w, x, rfl⟩
    · simp (disch := omega) only [List.append_assoc, eq_self, madeA, go_sem, wrap64_id, Int.tdiv_eq_ediv_of_nonneg, Int.tmod_eq_emod_of_nonneg]
      repeat' first
        | ((first | refine fnQ_pure1 ?_ ?_ | refine fnQ_pure0 ?_ ?_); (next => repeat' first | exact rvs_n | refine rvs_t ?_ | (simp [go_sem]; done)); simp only [go_sem]; (first | exact VLe.refl _ | refine VLe_int ?_ | refine VLe_bool ?_ | refine VLe_str ?_ | skip))
        | (with_reducible refine And.intro ?_ ?_)
        | with_reducible intro _
      all_goals first
        | omega
        | (rename_i hx; revert hx; simp; done)
        | (simp; done)
        | skip
      refine ⟨h ++ [.emp 1, .mem 1 56 [.osl (h.length + 3) 1 1 0 1], .mem 1 9 [.str ((clus s).getD 0 [])], .mem 1 9 [.str ((clus s).getD 0 [])]], by simp, by simp, .inr ⟨by omega, 1, 1, (clus s).getD 0 [], ?_⟩⟩
      rw [hts]; rfl
    · have eL : (strC ((clus s).take i)).length = i := by rw [strC_len, List.length_take]; omega
      have eT : List.take i (strC ((clus s).take i)) = strC ((clus s).take i) := List.take_of_length_le (by omega)
      simp (disch := omega) only [List.append_assoc, eq_self, madeA, eL, eT, go_sem, wrap64_id, Int.tdiv_eq_ediv_of_nonneg, Int.tmod_eq_emod_of_nonneg]
      repeat' first
        | ((first | refine fnQ_pure1 ?_ ?_ | refine fnQ_pure0 ?_ ?_); (next => repeat' first | exact rvs_n | refine rvs_t ?_ | (simp [go_sem]; done)); simp only [go_sem]; (first | exact VLe.refl _ | refine VLe_int ?_ | refine VLe_bool ?_ | refine VLe_str ?_ | skip))
        | (with_reducible refine And.intro ?_ ?_)
        | with_reducible intro _
      all_goals first
        | omega
        | (rename_i hx; revert hx; simp; done)
        | (simp; done)
        | skip
      refine ⟨h ++ [.emp 1, .mem 1 56 [.osl (h.length + 3) (v + 1) 1 0 (i + 1)], .mem (w + 1) 9 [.str ((clus s).getD i [])], .mem (v + 1) 9 (strC ((clus s).take i) ++ [.str ((clus s).getD i [])])], by simp, by simp, ?_⟩
      have hfin : ∃ (v' w' : Nat) (x' : List UInt8), h ++ [AObj.emp 1, .mem 1 56 [.osl (h.length + 3) (v + 1) 1 0 (i + 1)], .mem (w + 1) 9 [.str ((clus s).getD i [])], .mem (v + 1) 9 (strC ((clus s).take i) ++ [.str ((clus s).getD i [])])] = h ++ [.emp 1, .mem 1 56 [.osl (h.length + 3) v' 1 0 (i + 1)], .mem w' 9 [.str x'], .mem v' 9 (strC ((clus s).take (i + 1)))] := ⟨v + 1, w + 1, (clus s).getD i [], by rw [hts, strC_snoc]⟩
      first
        | exact .inr ⟨by omega, hfin⟩
        | exact .inr hfin
        | exact hfin
  · rintro hh hS
    rw [clusX_len] at hS
    rcases hS with ⟨h0, rfl⟩ | ⟨hpos, v, w, x, rfl⟩
    · have e : clus s = [] := List.eq_nil_of_length_eq_zero h0
      rw [e]
      simp (disch := omega) only [go_sem, wrap64_id, Int.tdiv_eq_ediv_of_nonneg, Int.tmod_eq_emod_of_nonneg]
      repeat' first
        | ((first | refine fnQ_pure1 ?_ ?_ | refine fnQ_pure0 ?_ ?_); (next => repeat' first | exact rvs_n | refine rvs_t ?_ | (simp [go_sem]; done)); simp only [go_sem]; (first | exact VLe.refl _ | refine VLe_int ?_ | refine VLe_bool ?_ | refine VLe_str ?_ | skip))
        | (with_reducible refine And.intro ?_ ?_)
        | with_reducible intro _
      all_goals first
        | omega
        | (rename_i hx; revert hx; simp; done)
        | (simp; done)
        | skip
      exact VLe_nl
    · rw [List.take_length]
      have eL := strC_len (clus s)
      simp (disch := omega) only [eL, go_sem, wrap64_id, Int.tdiv_eq_ediv_of_nonneg, Int.tmod_eq_emod_of_nonneg]
      repeat' first
        | ((first | refine fnQ_pure1 ?_ ?_ | refine fnQ_pure0 ?_ ?_); (next => repeat' first | exact rvs_n | refine rvs_t ?_ | (simp [go_sem]; done)); simp only [go_sem]; (first | exact VLe.refl _ | refine VLe_int ?_ | refine VLe_bool ?_ | refine VLe_str ?_ | skip))
        | (with_reducible refine And.intro ?_ ?_)
        | with_reducible intro _
      all_goals first
        | omega
        | (rename_i hx; revert hx; simp; done)
        | (simp; done)
        | skip
      rw [if_pos (by omega)]
      exact strs_of rfl
end HY
end

section
/-! the text D8 -/
open Go Go.Proofs AF HY
namespace HY
set_option maxRecDepth 100000
theorem any_take_succ {l : List (List UInt8)} {p : List UInt8 → Bool} {i : Nat} (h : i < l.length) : (l.take (i + 1)).any p = ((l.take i).any p || p (l.getD i [])) := by
  rw [take_getD l h, List.any_append]; simp
theorem any_at {l : List (List UInt8)} {p : List UInt8 → Bool} {i : Nat} (h : i < l.length) (hp : p (l.getD i []) = true) : l.any p = true := by
  rw [List.any_eq_true]
  refine ⟨l.getD i [], ?_, hp⟩
  rw [List.getD_eq_getElem?_getD, List.getElem?_eq_getElem h]
  exact List.getElem_mem h
theorem clus_at {s : List UInt8} {i : Nat} (h : i < (clus s).length) : 0 < ((clus s).getD i []).length := by
  apply List.length_pos_iff.2
  apply clus_ne (s := s)
  rw [List.getD_eq_getElem?_getD, List.getElem?_eq_getElem h]
  exact List.getElem_mem h
set_option maxHeartbeats 4000000 in
theorem t104 (s : List UInt8) (h : List AObj) (hs : s.length ≤ 1000000000) : ACalls Try.prog 104 [.str s] h (.int .i64 (checkC s)) h := by
  have hit := it114 s hs
  unfold checkC
  by_cases hl : 65536 < s.length
  · have hl' : (65536 < (s.length : Int)) = True := eq_true (by omega)
    rw [if_pos hl]
    refine acalls_of fn104 (by simp) ?_
    simp only [List.length_cons, List.length_nil, Nat.reduceAdd, Nat.reduceSub, List.replicate, List.cons_append, List.nil_append, List.append_nil]
    simp (disch := omega) only [c104, hl', go_sem, wrap64_id, Int.tdiv_eq_ediv_of_nonneg, Int.tmod_eq_emod_of_nonneg]
    repeat' first
      | ((first | refine fnQ_pure1 ?_ ?_ | refine fnQ_pure0 ?_ ?_); (next => repeat' first | exact rvs_n | refine rvs_t ?_ | (simp [go_sem]; done)); simp only [go_sem]; (first | exact VLe.refl _ | refine VLe_int ?_ | refine VLe_bool ?_ | refine VLe_str ?_ | skip))
      | (with_reducible refine And.intro ?_ ?_)
      | with_reducible intro _
    all_goals first
      | omega
      | (rename_i hx; revert hx; simp; done)
      | (simp; done)
      | skip
    all_goals trace_state
  · have hl' : (65536 < (s.length : Int)) = False := eq_false (by omega)
    rw [if_neg hl]
    refine acalls_of fn104 (by simp) ?_
    simp only [List.length_cons, List.length_nil, Nat.reduceAdd, Nat.reduceSub, List.replicate, List.cons_append, List.nil_append, List.append_nil]
    simp (disch := omega) only [c104, hl', go_sem, wrap64_id, Int.tdiv_eq_ediv_of_nonneg, Int.tmod_eq_emod_of_nonneg]
    repeat' first
      | ((first | refine callA_pure (t91 s _) ?_ ?_); (next => repeat' first | exact flags_n | refine flags_c (by first | rfl | assumption) ?_); simp (disch := omega) only [hl', go_sem, wrap64_id, Int.tdiv_eq_ediv_of_nonneg, Int.tmod_eq_emod_of_nonneg])
      | ((first | refine callG_pure (fun e => ⟨?_, t91 s _⟩) ?_); (next => repeat' first | exact flags_n | refine flags_c (by first | rfl | assumption) ?_); simp (disch := omega) only [hl', go_sem, wrap64_id, Int.tdiv_eq_ediv_of_nonneg, Int.tmod_eq_emod_of_nonneg])
      | ((first | refine fnQ_pure1 ?_ ?_ | refine fnQ_pure0 ?_ ?_); (next => repeat' first | exact rvs_n | refine rvs_t ?_ | (simp [go_sem]; done)); simp only [go_sem]; (first | exact VLe.refl _ | refine VLe_int ?_ | refine VLe_bool ?_ | refine VLe_str ?_ | skip))
      | (with_reducible refine And.intro ?_ ?_)
      | with_reducible intro _
    all_goals first
      | omega
      | (rename_i hx; revert hx; simp; done)
      | (simp; done)
      | skip
    refine range_iter (xs := clusX s) hit (by intro a ha; simp [clusX] at ha; obtain ⟨_, _, _, rfl⟩ := ha; rfl)
      (S := fun i hh => hh = h ++ [.mem 1 30 [.int .i64 0]] ∧ ((clus s).take i).any badHead = false)
      (E := fun e hh => e = .ret ∧ hh = h ++ [.mem 1 30 [.int .i64 11]] ∧ (clus s).any badHead = true) ?_ ?_ ?_ ?_ ?_ ?_ ?_
    · rintro i hh ⟨rfl, _⟩
      exact LowI.refl _
    · rintro e hh ⟨_, rfl, _⟩
      refine LowI.app rfl (fun o ho => ?_)
      simp only [List.mem_cons, List.not_mem_nil, or_false] at ho
      subst ho
      right; constructor <;> (intro c hc; simp at hc; subst hc; rfl)
    · exact ⟨rfl, by simp⟩
    · simp [lowV, lowV.lowVs, clusF]
      try omega
    · rintro i hh tl L hi ⟨rfl, hno⟩ hlen
      obtain ⟨n, hx⟩ := clusX_get s hi
      rw [clusX_len] at hi
      rw [hx]
      have hnx := any_take_succ (p := badHead) hi
      rw [hno, Bool.false_or] at hnx
      have hat := any_at (p := badHead) hi
      obtain ⟨c, hc⟩ : ∃ c, c = (clus s).getD i [] := ⟨_, rfl⟩
      have hcl := clus_at hi
      rw [← hc] at hcl hnx hat ⊢
      simp only [setsA]
      simp (disch := omega) only [List.append_assoc, eq_self, ch_eq, go_sem, wrap64_id, Int.tdiv_eq_ediv_of_nonneg, Int.tmod_eq_emod_of_nonneg]
      repeat' first
        | ((first | refine callA_pure (t103b _ _) ?_ ?_); (next => repeat' first | exact flags_n | refine flags_c (by first | rfl | assumption) ?_); simp (disch := omega) only [List.append_assoc, eq_self, ch_eq, go_sem, wrap64_id, Int.tdiv_eq_ediv_of_nonneg, Int.tmod_eq_emod_of_nonneg])
        | ((first | refine callG_pure (fun e => ⟨?_, t103b _ _⟩) ?_); (next => repeat' first | exact flags_n | refine flags_c (by first | rfl | assumption) ?_); simp (disch := omega) only [List.append_assoc, eq_self, ch_eq, go_sem, wrap64_id, Int.tdiv_eq_ediv_of_nonneg, Int.tmod_eq_emod_of_nonneg])
        | ((first | refine fnQ_pure1 ?_ ?_ | refine fnQ_pure0 ?_ ?_); (next => repeat' first | exact rvs_n | refine rvs_t ?_ | (simp [go_sem]; done)); simp only [go_sem]; (first | exact VLe.refl _ | refine VLe_int ?_ | refine VLe_bool ?_ | refine VLe_str ?_ | skip))
        | (with_reducible refine And.intro ?_ ?_)
        | with_reducible intro _
      all_goals first
        | omega
        | (rename_i hx; revert hx; simp; done)
        | (simp; done)
        | skip
      · rename_i hx
        exact ⟨h ++ [.mem 1 30 [.int .i64 11]], by simp, by simp, by simp, hat (by unfold badHead; simpa using hx)⟩
      · rename_i hx
        exact ⟨h ++ [.mem 1 30 [.int .i64 0]], by simp, by simp, by simp, by rw [hnx]; unfold badHead; simpa using hx⟩
    · rintro hh ⟨rfl, hno⟩
      rw [clusX_len, List.take_length] at hno
      rw [hno]
      simp (disch := omega) only [go_sem, wrap64_id, Int.tdiv_eq_ediv_of_nonneg, Int.tmod_eq_emod_of_nonneg]
      repeat' first
        | ((first | refine fnQ_pure1 ?_ ?_ | refine fnQ_pure0 ?_ ?_); (next => repeat' first | exact rvs_n | refine rvs_t ?_ | (simp [go_sem]; done)); simp only [go_sem]; (first | exact VLe.refl _ | refine VLe_int ?_ | refine VLe_bool ?_ | refine VLe_str ?_ | skip))
        | (with_reducible refine And.intro ?_ ?_)
        | with_reducible intro _
      all_goals first
        | omega
        | (rename_i hx; revert hx; simp; done)
        | (simp; done)
        | skip
      all_goals trace_state
    · rintro e hh ⟨rfl, rfl, hb⟩
      rw [hb]
      show Ex.inBlock 0 _ .ret _ _
      simp (disch := omega) only [go_sem, wrap64_id, Int.tdiv_eq_ediv_of_nonneg, Int.tmod_eq_emod_of_nonneg]
      repeat' first
        | ((first | refine fnQ_pure1 ?_ ?_ | refine fnQ_pure0 ?_ ?_); (next => repeat' first | exact rvs_n | refine rvs_t ?_ | (simp [go_sem]; done)); simp only [go_sem]; (first | exact VLe.refl _ | refine VLe_int ?_ | refine VLe_bool ?_ | refine VLe_str ?_ | skip))
        | (with_reducible refine And.intro ?_ ?_)
        | with_reducible intro _
      all_goals first
        | omega
        | (rename_i hx; revert hx; simp; done)
        | (simp; done)
        | skip
      all_goals trace_state
end HY
end
