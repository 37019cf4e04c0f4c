import Derived.Test.YtonpflblcnpegaaDoorG1
import Derived.Test.YtonpflblcnpegaaDoorProg
set_option linter.all false
set_option linter.unusedSimpArgs false
set_option linter.unusedVariables false
set_option linter.unusedSectionVars false
open Go Go.Proofs AF
namespace HY
set_option maxRecDepth 100000
/-- apograph/apographlaw47.HyphenationLevels -/
def c3d : C :=
  ((C.ops [⟨some 6, none, .mv, [.c (.bool false)]⟩]).seq (((C.ops [⟨some 19, none, .mv, [.t 0]⟩, ⟨some 20, none, .call 11 true, [.t 19]⟩, ⟨some 21, none, .un UnOp.not, [.t 20]⟩,
  ⟨some 22, none, .mv, [.t 21]⟩, ⟨some 23, some (22, false), .mv, [.t 1]⟩, ⟨some 24, some (22, false), .call 11 true, [.t 23]⟩, ⟨some 25, some (22, false), .un UnOp.not, [.t 24]⟩,
  ⟨some 26, none, .pick, [.t 22, .c (.bool true), .t 25]⟩, ⟨some 27, none, .mv, [.t 26]⟩, ⟨some 28, some (27, false), .mv, [.t 2]⟩, ⟨some 29, some (27, false), .call 12 true, [.t
  28]⟩, ⟨some 30, some (27, false), .un UnOp.not, [.t 29]⟩, ⟨some 31, none, .pick, [.t 27, .c (.bool true), .t 30]⟩]).seq (C.cond (.t 31) ((C.ops [⟨some 32, none, .call 13 true, []⟩,
  ⟨some 6, none, .mv, [.t 32]⟩]).seq C.ret) C.skip)).seq ((C.ops [⟨some 34, none, .mv, [.t 0]⟩, ⟨some 35, none, .mv, [.t 2]⟩, ⟨some 36, none, .call 14 true, [.t 34, .t 35]⟩, ⟨some
  33, none, .mv, [.t 36]⟩, ⟨some 37, none, .ext 0, [.t 33]⟩, ⟨some 38, none, .ext 1, [.t 33]⟩, ⟨some 7, none, .mv, [.t 37]⟩, ⟨some 8, none, .mv, [.t 38]⟩]).seq ((C.ops [⟨some 40,
  none, .mv, [.t 1]⟩, ⟨some 41, none, .mv, [.t 2]⟩, ⟨some 42, none, .call 14 true, [.t 40, .t 41]⟩, ⟨some 39, none, .mv, [.t 42]⟩, ⟨some 43, none, .ext 0, [.t 39]⟩, ⟨some 44, none,
  .ext 1, [.t 39]⟩, ⟨some 9, none, .mv, [.t 43]⟩, ⟨some 10, none, .mv, [.t 44]⟩]).seq ((C.ops [⟨some 46, none, .mv, [.t 0]⟩, ⟨some 47, none, .mv, [.t 1]⟩, ⟨some 48, none, .bslc 0 1 2
  22 [.nl] [(0, 1), (1, 1)], [.t 46, .t 47]⟩, ⟨some 49, none, .call 15 true, [.t 48]⟩, ⟨some 50, none, .mv, [.t 2]⟩, ⟨some 51, none, .call 14 true, [.t 49, .t 50]⟩, ⟨some 45, none,
  .mv, [.t 51]⟩, ⟨some 52, none, .ext 0, [.t 45]⟩, ⟨some 53, none, .ext 1, [.t 45]⟩, ⟨some 11, none, .mv, [.t 52]⟩, ⟨some 12, none, .mv, [.t 53]⟩]).seq ((C.ops [⟨some 55, none, .mv,
  [.t 1]⟩, ⟨some 56, none, .mv, [.t 0]⟩, ⟨some 57, none, .bslc 1 1 2 22 [.nl] [(0, 1), (1, 1)], [.t 55, .t 56]⟩, ⟨some 58, none, .call 15 true, [.t 57]⟩, ⟨some 59, none, .mv, [.t
  2]⟩, ⟨some 60, none, .call 14 true, [.t 58, .t 59]⟩, ⟨some 54, none, .mv, [.t 60]⟩, ⟨some 61, none, .ext 0, [.t 54]⟩, ⟨some 62, none, .ext 1, [.t 54]⟩, ⟨some 13, none, .mv, [.t
  61]⟩, ⟨some 14, none, .mv, [.t 62]⟩]).seq ((C.ops [⟨some 64, none, .mv, [.t 2]⟩, ⟨some 65, none, .call 14 true, [.c .nl, .t 64]⟩, ⟨some 63, none, .mv, [.t 65]⟩, ⟨some 66, none,
  .ext 0, [.t 63]⟩, ⟨some 67, none, .ext 1, [.t 63]⟩, ⟨some 15, none, .mv, [.t 66]⟩, ⟨some 16, none, .mv, [.t 67]⟩]).seq ((C.ops [⟨some 68, none, .mv, [.t 2]⟩, ⟨some 69, none, .call
  16 true, [.t 68]⟩, ⟨some 70, none, .len, [.t 69]⟩, ⟨some 71, none, .bin .sub, [.t 70, .c (.int .i64 1)]⟩, ⟨some 17, none, .mv, [.t 71]⟩]).seq (((C.ops [⟨some 72, none, .mv, [.t
  8]⟩, ⟨some 73, none, .mv, [.t 10]⟩, ⟨some 74, none, .mv, [.t 12]⟩, ⟨some 75, none, .mv, [.t 14]⟩, ⟨some 76, none, .mv, [.t 16]⟩, ⟨some 77, none, .mm true, [.t 72, .t 73, .t 74, .t
  75, .t 76]⟩, ⟨some 78, none, .bin .neq, [.t 77, .c (.int .i64 0)]⟩, ⟨some 79, none, .mv, [.t 78]⟩, ⟨some 80, some (79, false), .mv, [.t 7]⟩, ⟨some 81, some (79, false), .len, [.t
  80]⟩, ⟨some 82, some (79, false), .mv, [.t 17]⟩, ⟨some 83, some (79, false), .bin .neq, [.t 81, .t 82]⟩, ⟨some 84, none, .pick, [.t 79, .c (.bool true), .t 83]⟩, ⟨some 85, none,
  .mv, [.t 84]⟩, ⟨some 86, some (85, false), .mv, [.t 9]⟩, ⟨some 87, some (85, false), .len, [.t 86]⟩, ⟨some 88, some (85, false), .mv, [.t 17]⟩, ⟨some 89, some (85, false), .bin
  .neq, [.t 87, .t 88]⟩, ⟨some 90, none, .pick, [.t 85, .c (.bool true), .t 89]⟩, ⟨some 91, none, .mv, [.t 90]⟩, ⟨some 92, some (91, false), .mv, [.t 11]⟩, ⟨some 93, some (91,
  false), .len, [.t 92]⟩, ⟨some 94, some (91, false), .mv, [.t 17]⟩, ⟨some 95, some (91, false), .bin .neq, [.t 93, .t 94]⟩, ⟨some 96, none, .pick, [.t 91, .c (.bool true), .t 95]⟩,
  ⟨some 97, none, .mv, [.t 96]⟩, ⟨some 98, some (97, false), .mv, [.t 15]⟩, ⟨some 99, some (97, false), .len, [.t 98]⟩, ⟨some 100, some (97, false), .mv, [.t 17]⟩, ⟨some 101, some
  (97, false), .bin .neq, [.t 99, .t 100]⟩, ⟨some 102, none, .pick, [.t 97, .c (.bool true), .t 101]⟩, ⟨some 103, none, .mv, [.t 102]⟩, ⟨some 104, some (103, false), .mv, [.t 11]⟩,
  ⟨some 105, some (103, false), .mv, [.t 13]⟩, ⟨some 106, some (103, false), .call 17 true, [.t 104, .t 105]⟩, ⟨some 107, some (103, false), .un UnOp.not, [.t 106]⟩, ⟨some 108, none,
  .pick, [.t 103, .c (.bool true), .t 107]⟩]).seq (C.cond (.t 108) ((C.ops [⟨some 6, none, .mv, [.c (.bool false)]⟩]).seq C.ret) C.skip)).seq (((C.ops [⟨some 109, none, .mv, [.t
  11]⟩, ⟨some 110, none, .len, [.t 109]⟩, ⟨some 111, none, .mv, [.c (.int .i64 0)]⟩]).seq (C.block 0 ((C.ops [⟨some 112, none, .bin .lss, [.t 111, .t 110]⟩]).seq ((C.cond (.t 112)
  C.skip (C.exit 0)).seq ((C.block 1 ((C.ops [⟨some 113, none, .mv, [.t 111]⟩, ⟨some 18, none, .mv, [.t 113]⟩]).seq ((C.ops [⟨some 114, none, .mv, [.t 11]⟩, ⟨some 115, none, .mv, [.t
  18]⟩, ⟨some 116, none, .idxA 1, [.t 114, .t 115]⟩, ⟨some 117, none, .load none, [.t 116]⟩, ⟨some 118, none, .mv, [.t 7]⟩, ⟨some 119, none, .mv, [.t 18]⟩, ⟨some 120, none, .idxA 1,
  [.t 118, .t 119]⟩, ⟨some 121, none, .load none, [.t 120]⟩, ⟨some 122, none, .mv, [.t 9]⟩, ⟨some 123, none, .mv, [.t 18]⟩, ⟨some 124, none, .idxA 1, [.t 122, .t 123]⟩, ⟨some 125,
  none, .load none, [.t 124]⟩, ⟨some 126, none, .mm true, [.t 121, .t 125]⟩, ⟨some 127, none, .bin .neq, [.t 117, .t 126]⟩, ⟨some 128, none, .mv, [.t 127]⟩, ⟨some 129, some (128,
  false), .mv, [.t 15]⟩, ⟨some 130, some (128, false), .mv, [.t 18]⟩, ⟨some 131, some (128, false), .idxA 1, [.t 129, .t 130]⟩, ⟨some 132, some (128, false), .load none, [.t 131]⟩,
  ⟨some 133, some (128, false), .bin .neq, [.t 132, .c (.int .i64 0)]⟩, ⟨some 134, none, .pick, [.t 128, .c (.bool true), .t 133]⟩, ⟨some 135, none, .mv, [.t 134]⟩, ⟨some 136, some
  (135, false), .mv, [.t 7]⟩, ⟨some 137, some (135, false), .mv, [.t 18]⟩, ⟨some 138, some (135, false), .idxA 1, [.t 136, .t 137]⟩, ⟨some 139, some (135, false), .load none, [.t
  138]⟩, ⟨some 140, some (135, false), .bin .lss, [.t 139, .c (.int .i64 0)]⟩, ⟨some 141, none, .pick, [.t 135, .c (.bool true), .t 140]⟩, ⟨some 142, none, .mv, [.t 141]⟩, ⟨some 143,
  some (142, false), .mv, [.t 7]⟩, ⟨some 144, some (142, false), .mv, [.t 18]⟩, ⟨some 145, some (142, false), .idxA 1, [.t 143, .t 144]⟩, ⟨some 146, some (142, false), .load none,
  [.t 145]⟩, ⟨some 147, some (142, false), .bin .gtr, [.t 146, .c (.int .i64 9)]⟩, ⟨some 148, none, .pick, [.t 142, .c (.bool true), .t 147]⟩]).seq (C.cond (.t 148) ((C.ops [⟨some 6,
  none, .mv, [.c (.bool false)]⟩]).seq C.ret) C.skip)))).seq (C.ops [⟨some 149, none, .bin .add, [.t 111, .c (.int .i64 1)]⟩, ⟨some 111, none, .mv, [.t 149]⟩])))).loop)).seq ((C.ops
  [⟨some 150, none, .call 13 true, []⟩, ⟨some 6, none, .mv, [.t 150]⟩]).seq
  C.ret)))))))))))
theorem fn3d : FnIs Tryd.prog 3 151 2 [RV.tmp 6] c3d := ⟨Tryd.f3, Tryd.f3.body.getD .skip, [48, 57], [74, 97, 42, 44, 59, 48, 50, 52, 69, 81, 96], [], by kernel_rfl, by kernel_rfl, by kernel_rfl, by kernel_rfl, by kernel_rfl, by kernel_rfl, by kernel_rfl⟩
/-- apograph/apographlaw47.HyphenationFolds -/
def c4d : C :=
  ((C.ops [⟨some 4, none, .mv, [.c (.bool false)]⟩]).seq (((C.ops [⟨some 16, none, .mv, [.t 0]⟩, ⟨some 17, none, .call 11 true, [.t 16]⟩, ⟨some 18, none, .un UnOp.not, [.t 17]⟩,
  ⟨some 19, none, .mv, [.t 18]⟩, ⟨some 20, some (19, false), .mv, [.t 1]⟩, ⟨some 21, some (19, false), .call 12 true, [.t 20]⟩, ⟨some 22, some (19, false), .un UnOp.not, [.t 21]⟩,
  ⟨some 23, none, .pick, [.t 19, .c (.bool true), .t 22]⟩]).seq (C.cond (.t 23) ((C.ops [⟨some 24, none, .call 13 true, []⟩, ⟨some 4, none, .mv, [.t 24]⟩]).seq C.ret) C.skip)).seq
  ((C.ops [⟨some 5, none, .nilo 0 2 32, []⟩]).seq (((C.ops [⟨some 25, none, .mv, [.t 0]⟩, ⟨some 26, none, .len, [.t 25]⟩, ⟨some 27, none, .mv, [.c (.int .i64 0)]⟩]).seq (C.block 0
  ((C.ops [⟨some 28, none, .bin .lss, [.t 27, .t 26]⟩]).seq ((C.cond (.t 28) C.skip (C.exit 0)).seq ((C.block 1 ((C.ops [⟨some 29, none, .idxA 2, [.t 25, .t 27]⟩, ⟨some 30, none,
  .load (some 2), [.t 29]⟩, ⟨some 7, none, .alloc 1 32 [.str [], .nl], []⟩, ⟨none, none, .store 2, [.t 7, .t 30]⟩]).seq (C.ops [⟨some 31, none, .mv, [.t 5]⟩, ⟨some 32, none, .fldA 0,
  [.t 7]⟩, ⟨some 33, none, .load none, [.t 32]⟩, ⟨some 34, none, .call 18 true, [.t 33]⟩, ⟨some 35, none, .fldA 1, [.t 7]⟩, ⟨some 36, none, .load none, [.t 35]⟩, ⟨some 37, none,
  .build [.str [], .nl] [(0, 1), (1, 1)], [.t 34, .t 36]⟩, ⟨some 38, none, .bslc 2 2 1 32 [.str [], .nl] [(0, 2)], [.t 37]⟩, ⟨some 39, none, .app 3 2 32 40, [.t 31, .t 38]⟩, ⟨some 5,
  none, .mv, [.t 39]⟩]))).seq (C.ops [⟨some 40, none, .bin .add, [.t 27, .c (.int .i64 1)]⟩, ⟨some 27, none, .mv, [.t 40]⟩])))).loop)).seq ((C.ops [⟨some 42, none, .mv, [.t 0]⟩,
  ⟨some 43, none, .mv, [.t 1]⟩, ⟨some 44, none, .call 14 true, [.t 42, .t 43]⟩, ⟨some 41, none, .mv, [.t 44]⟩, ⟨some 45, none, .ext 0, [.t 41]⟩, ⟨some 46, none, .ext 1, [.t 41]⟩,
  ⟨some 8, none, .mv, [.t 45]⟩, ⟨some 9, none, .mv, [.t 46]⟩]).seq ((C.ops [⟨some 48, none, .mv, [.t 5]⟩, ⟨some 49, none, .mv, [.t 1]⟩, ⟨some 50, none, .call 18 true, [.t 49]⟩, ⟨some
  51, none, .call 14 true, [.t 48, .t 50]⟩, ⟨some 47, none, .mv, [.t 51]⟩, ⟨some 52, none, .ext 0, [.t 47]⟩, ⟨some 53, none, .ext 1, [.t 47]⟩, ⟨some 10, none, .mv, [.t 52]⟩, ⟨some
  11, none, .mv, [.t 53]⟩]).seq ((C.ops [⟨some 55, none, .mv, [.t 0]⟩, ⟨some 56, none, .mv, [.t 1]⟩, ⟨some 57, none, .call 19 true, [.t 55, .t 56]⟩, ⟨some 54, none, .mv, [.t 57]⟩,
  ⟨some 58, none, .ext 0, [.t 54]⟩, ⟨some 59, none, .ext 1, [.t 54]⟩, ⟨some 12, none, .mv, [.t 58]⟩, ⟨some 13, none, .mv, [.t 59]⟩]).seq ((C.ops [⟨some 61, none, .mv, [.t 0]⟩, ⟨some
  62, none, .mv, [.t 1]⟩, ⟨some 63, none, .call 18 true, [.t 62]⟩, ⟨some 64, none, .call 19 true, [.t 61, .t 63]⟩, ⟨some 60, none, .mv, [.t 64]⟩, ⟨some 65, none, .ext 0, [.t 60]⟩,
  ⟨some 66, none, .ext 1, [.t 60]⟩, ⟨some 14, none, .mv, [.t 65]⟩, ⟨some 15, none, .mv, [.t 66]⟩]).seq ((C.ops [⟨some 67, none, .mv, [.t 9]⟩, ⟨some 68, none, .mv, [.t 11]⟩, ⟨some 69,
  none, .mv, [.t 13]⟩, ⟨some 70, none, .mv, [.t 15]⟩, ⟨some 71, none, .mm true, [.t 67, .t 68, .t 69, .t 70]⟩, ⟨some 72, none, .bin .eql, [.t 71, .c (.int .i64 0)]⟩, ⟨some 73, none,
  .mv, [.t 72]⟩, ⟨some 74, some (73, true), .mv, [.t 8]⟩, ⟨some 75, some (73, true), .mv, [.t 10]⟩, ⟨some 76, some (73, true), .call 17 true, [.t 74, .t 75]⟩, ⟨some 77, none, .pick,
  [.t 73, .t 76, .c (.bool false)]⟩, ⟨some 78, none, .mv, [.t 77]⟩, ⟨some 79, some (78, true), .mv, [.t 12]⟩, ⟨some 80, some (78, true), .mv, [.t 14]⟩, ⟨some 81, some (78, true),
  .call 17 true, [.t 79, .t 80]⟩, ⟨some 82, none, .pick, [.t 78, .t 81, .c (.bool false)]⟩, ⟨some 83, none, .mv, [.t 82]⟩, ⟨some 84, some (83, true), .call 13 true, []⟩, ⟨some 85,
  none, .pick, [.t 83, .t 84, .c (.bool false)]⟩, ⟨some 4, none, .mv, [.t 85]⟩]).seq
  C.ret)))))))))
theorem fn4d : FnIs Tryd.prog 4 86 4 [RV.tmp 4] c4d := ⟨Tryd.f4, Tryd.f4.body.getD .skip, [5, 7, 38, 39], [74, 97, 42, 44, 59, 48, 50, 52, 69, 81, 96], [], by kernel_rfl, by kernel_rfl, by kernel_rfl, by kernel_rfl, by kernel_rfl, by kernel_rfl, by kernel_rfl⟩
/-- apograph/apographlaw47.HyphenationTexts -/
def c5d : C :=
  ((C.ops [⟨some 4, none, .mv, [.c (.bool false)]⟩]).seq (((C.ops [⟨some 13, none, .mv, [.t 0]⟩, ⟨some 14, none, .call 20 true, [.t 13]⟩, ⟨some 15, none, .mv, [.t 14]⟩, ⟨some 16,
  some (15, false), .mv, [.t 1]⟩, ⟨some 17, some (15, false), .slen, [.t 16]⟩, ⟨some 18, some (15, false), .bin .gtr, [.t 17, .c (.int .i64 60)]⟩, ⟨some 19, none, .pick, [.t 15, .c
  (.bool true), .t 18]⟩]).seq (C.cond (.t 19) ((C.ops [⟨some 20, none, .call 13 true, []⟩, ⟨some 4, none, .mv, [.t 20]⟩]).seq C.ret) C.skip)).seq ((C.ops [⟨some 22, none, .mv, [.t
  1]⟩, ⟨some 23, none, .call 21 true, [.t 22]⟩, ⟨some 21, none, .mv, [.t 23]⟩, ⟨some 24, none, .ext 0, [.t 21]⟩, ⟨some 25, none, .ext 1, [.t 21]⟩, ⟨some 5, none, .mv, [.t 24]⟩, ⟨some
  6, none, .mv, [.t 25]⟩]).seq ((C.ops [⟨some 27, none, .mv, [.t 1]⟩, ⟨some 28, none, .call 22 true, [.t 27]⟩, ⟨some 26, none, .mv, [.t 28]⟩, ⟨some 29, none, .ext 0, [.t 26]⟩, ⟨some
  30, none, .ext 1, [.t 26]⟩, ⟨some 7, none, .mv, [.t 29]⟩, ⟨some 8, none, .mv, [.t 30]⟩]).seq ((C.ops [⟨some 32, none, .mv, [.t 0]⟩, ⟨some 33, none, .call 23 true, [.t 32]⟩, ⟨some
  31, none, .mv, [.t 33]⟩, ⟨some 34, none, .ext 0, [.t 31]⟩, ⟨some 35, none, .ext 1, [.t 31]⟩, ⟨some 9, none, .mv, [.t 34]⟩, ⟨some 10, none, .mv, [.t 35]⟩]).seq ((C.ops [⟨some 37,
  none, .mv, [.t 0]⟩, ⟨some 38, none, .call 24 true, [.t 37]⟩, ⟨some 36, none, .mv, [.t 38]⟩, ⟨some 39, none, .ext 0, [.t 36]⟩, ⟨some 40, none, .ext 1, [.t 36]⟩, ⟨some 11, none, .mv,
  [.t 39]⟩, ⟨some 12, none, .mv, [.t 40]⟩]).seq ((C.ops [⟨some 41, none, .mv, [.t 0]⟩, ⟨some 42, none, .call 25 true, [.t 41]⟩, ⟨some 43, none, .mv, [.t 0]⟩, ⟨some 44, none, .call 26
  true, [.t 43]⟩, ⟨some 45, none, .bin .eql, [.t 42, .t 44]⟩, ⟨some 46, none, .mv, [.t 45]⟩, ⟨some 47, some (46, true), .mv, [.t 5]⟩, ⟨some 48, some (46, true), .mv, [.t 7]⟩, ⟨some
  49, some (46, true), .call 27 true, [.t 47, .t 48]⟩, ⟨some 50, none, .pick, [.t 46, .t 49, .c (.bool false)]⟩, ⟨some 51, none, .mv, [.t 50]⟩, ⟨some 52, some (51, true), .mv, [.t
  6]⟩, ⟨some 53, some (51, true), .mv, [.t 8]⟩, ⟨some 54, some (51, true), .bin .eql, [.t 52, .t 53]⟩, ⟨some 55, none, .pick, [.t 51, .t 54, .c (.bool false)]⟩, ⟨some 56, none, .mv,
  [.t 55]⟩, ⟨some 57, some (56, true), .mv, [.t 9]⟩, ⟨some 58, some (56, true), .mv, [.t 11]⟩, ⟨some 59, some (56, true), .bin .eql, [.t 57, .t 58]⟩, ⟨some 60, none, .pick, [.t 56,
  .t 59, .c (.bool false)]⟩, ⟨some 61, none, .mv, [.t 60]⟩, ⟨some 62, some (61, true), .mv, [.t 10]⟩, ⟨some 63, some (61, true), .mv, [.t 12]⟩, ⟨some 64, some (61, true), .bin .eql,
  [.t 62, .t 63]⟩, ⟨some 65, none, .pick, [.t 61, .t 64, .c (.bool false)]⟩, ⟨some 66, none, .mv, [.t 65]⟩, ⟨some 67, some (66, true), .call 13 true, []⟩, ⟨some 68, none, .pick, [.t
  66, .t 67, .c (.bool false)]⟩, ⟨some 4, none, .mv, [.t 68]⟩]).seq
  C.ret)))))))
theorem fn5d : FnIs Tryd.prog 5 69 0 [RV.tmp 4] c5d := ⟨Tryd.f5, Tryd.f5.body.getD .skip, [], [74, 97, 42, 44, 59, 48, 50, 52, 69, 81, 96], [], by kernel_rfl, by kernel_rfl, by kernel_rfl, by kernel_rfl, by kernel_rfl, by kernel_rfl, by kernel_rfl⟩
/-- apograph/apographlaw47.HyphenationBack -/
def c6d : C :=
  ((C.ops [⟨some 4, none, .mv, [.c (.bool false)]⟩]).seq (((C.ops [⟨some 13, none, .mv, [.t 0]⟩, ⟨some 14, none, .call 11 true, [.t 13]⟩, ⟨some 15, none, .un UnOp.not, [.t 14]⟩,
  ⟨some 16, none, .mv, [.t 15]⟩, ⟨some 17, some (16, false), .mv, [.t 1]⟩, ⟨some 18, some (16, false), .slen, [.t 17]⟩, ⟨some 19, some (16, false), .bin .gtr, [.t 18, .c (.int .i64
  60)]⟩, ⟨some 20, none, .pick, [.t 16, .c (.bool true), .t 19]⟩]).seq (C.cond (.t 20) ((C.ops [⟨some 21, none, .call 13 true, []⟩, ⟨some 4, none, .mv, [.t 21]⟩]).seq C.ret)
  C.skip)).seq ((C.ops [⟨some 23, none, .mv, [.t 0]⟩, ⟨some 24, none, .call 23 true, [.t 23]⟩, ⟨some 22, none, .mv, [.t 24]⟩, ⟨some 25, none, .ext 0, [.t 22]⟩, ⟨some 26, none, .ext
  1, [.t 22]⟩, ⟨some 5, none, .mv, [.t 25]⟩, ⟨some 6, none, .mv, [.t 26]⟩]).seq ((C.ops [⟨some 28, none, .mv, [.t 5]⟩, ⟨some 29, none, .call 21 true, [.t 28]⟩, ⟨some 27, none, .mv,
  [.t 29]⟩, ⟨some 30, none, .ext 0, [.t 27]⟩, ⟨some 31, none, .ext 1, [.t 27]⟩, ⟨some 7, none, .mv, [.t 30]⟩, ⟨some 8, none, .mv, [.t 31]⟩]).seq (((C.ops [⟨some 32, none, .mv, [.t
  6]⟩, ⟨some 33, none, .bin .neq, [.t 32, .c (.int .i64 0)]⟩, ⟨some 34, none, .mv, [.t 33]⟩, ⟨some 35, some (34, false), .mv, [.t 8]⟩, ⟨some 36, some (34, false), .bin .neq, [.t 35,
  .c (.int .i64 0)]⟩, ⟨some 37, none, .pick, [.t 34, .c (.bool true), .t 36]⟩, ⟨some 38, none, .mv, [.t 37]⟩, ⟨some 39, some (38, false), .mv, [.t 7]⟩, ⟨some 40, some (38, false),
  .mv, [.t 0]⟩, ⟨some 41, some (38, false), .call 27 true, [.t 39, .t 40]⟩, ⟨some 42, some (38, false), .un UnOp.not, [.t 41]⟩, ⟨some 43, none, .pick, [.t 38, .c (.bool true), .t
  42]⟩]).seq (C.cond (.t 43) ((C.ops [⟨some 4, none, .mv, [.c (.bool false)]⟩]).seq C.ret) C.skip)).seq ((C.ops [⟨some 45, none, .mv, [.t 1]⟩, ⟨some 46, none, .call 21 true, [.t
  45]⟩, ⟨some 44, none, .mv, [.t 46]⟩, ⟨some 47, none, .ext 0, [.t 44]⟩, ⟨some 48, none, .ext 1, [.t 44]⟩, ⟨some 9, none, .mv, [.t 47]⟩, ⟨some 10, none, .mv, [.t 48]⟩]).seq (((C.ops
  [⟨some 49, none, .mv, [.t 10]⟩, ⟨some 50, none, .bin .neq, [.t 49, .c (.int .i64 0)]⟩]).seq (C.cond (.t 50) ((C.ops [⟨some 51, none, .mv, [.t 9]⟩, ⟨some 52, none, .len, [.t 51]⟩,
  ⟨some 53, none, .bin .eql, [.t 52, .c (.int .i64 0)]⟩, ⟨some 54, none, .mv, [.t 53]⟩, ⟨some 55, some (54, true), .call 13 true, []⟩, ⟨some 56, none, .pick, [.t 54, .t 55, .c (.bool
  false)]⟩, ⟨some 4, none, .mv, [.t 56]⟩]).seq C.ret) C.skip)).seq ((C.ops [⟨some 58, none, .mv, [.t 9]⟩, ⟨some 59, none, .call 23 true, [.t 58]⟩, ⟨some 57, none, .mv, [.t 59]⟩,
  ⟨some 60, none, .ext 0, [.t 57]⟩, ⟨some 61, none, .ext 1, [.t 57]⟩, ⟨some 11, none, .mv, [.t 60]⟩, ⟨some 12, none, .mv, [.t 61]⟩]).seq ((C.ops [⟨some 62, none, .mv, [.t 12]⟩, ⟨some
  63, none, .bin .eql, [.t 62, .c (.int .i64 0)]⟩, ⟨some 64, none, .mv, [.t 63]⟩, ⟨some 65, some (64, true), .mv, [.t 11]⟩, ⟨some 66, some (64, true), .mv, [.t 1]⟩, ⟨some 67, some
  (64, true), .bin .eql, [.t 65, .t 66]⟩, ⟨some 68, none, .pick, [.t 64, .t 67, .c (.bool false)]⟩, ⟨some 69, none, .mv, [.t 68]⟩, ⟨some 70, some (69, true), .call 13 true, []⟩,
  ⟨some 71, none, .pick, [.t 69, .t 70, .c (.bool false)]⟩, ⟨some 4, none, .mv, [.t 71]⟩]).seq
  C.ret)))))))))
theorem fn6d : FnIs Tryd.prog 6 72 0 [RV.tmp 4] c6d := ⟨Tryd.f6, Tryd.f6.body.getD .skip, [], [74, 97, 42, 44, 59, 48, 50, 52, 69, 81, 96], [], by kernel_rfl, by kernel_rfl, by kernel_rfl, by kernel_rfl, by kernel_rfl, by kernel_rfl, by kernel_rfl⟩
/-- apograph/apographlaw47.HyphenationWords -/
def c7d : C :=
  ((C.ops [⟨some 4, none, .mv, [.c (.bool false)]⟩]).seq (((C.ops [⟨some 21, none, .mv, [.t 0]⟩, ⟨some 22, none, .call 20 true, [.t 21]⟩, ⟨some 23, none, .mv, [.t 22]⟩, ⟨some 24,
  some (23, false), .mv, [.t 1]⟩, ⟨some 25, some (23, false), .slen, [.t 24]⟩, ⟨some 26, some (23, false), .bin .gtr, [.t 25, .c (.int .i64 66)]⟩, ⟨some 27, none, .pick, [.t 23, .c
  (.bool true), .t 26]⟩]).seq (C.cond (.t 27) ((C.ops [⟨some 28, none, .call 13 true, []⟩, ⟨some 4, none, .mv, [.t 28]⟩]).seq C.ret) C.skip)).seq ((C.ops [⟨some 30, none, .mv, [.t
  0]⟩, ⟨some 31, none, .mv, [.t 1]⟩, ⟨some 32, none, .call 14 true, [.t 30, .t 31]⟩, ⟨some 29, none, .mv, [.t 32]⟩, ⟨some 33, none, .ext 0, [.t 29]⟩, ⟨some 34, none, .ext 1, [.t
  29]⟩, ⟨some 5, none, .mv, [.t 33]⟩, ⟨some 6, none, .mv, [.t 34]⟩]).seq ((C.ops [⟨some 36, none, .mv, [.t 0]⟩, ⟨some 37, none, .mv, [.t 1]⟩, ⟨some 38, none, .call 28 true, [.t 36,
  .t 37]⟩, ⟨some 35, none, .mv, [.t 38]⟩, ⟨some 39, none, .ext 0, [.t 35]⟩, ⟨some 40, none, .ext 1, [.t 35]⟩, ⟨some 7, none, .mv, [.t 39]⟩, ⟨some 8, none, .mv, [.t 40]⟩]).seq ((C.ops
  [⟨some 42, none, .mv, [.t 0]⟩, ⟨some 43, none, .mv, [.t 1]⟩, ⟨some 44, none, .call 19 true, [.t 42, .t 43]⟩, ⟨some 41, none, .mv, [.t 44]⟩, ⟨some 45, none, .ext 0, [.t 41]⟩, ⟨some
  46, none, .ext 1, [.t 41]⟩, ⟨some 9, none, .mv, [.t 45]⟩, ⟨some 10, none, .mv, [.t 46]⟩]).seq ((C.ops [⟨some 48, none, .mv, [.t 0]⟩, ⟨some 49, none, .mv, [.t 1]⟩, ⟨some 50, none,
  .call 29 true, [.t 48, .t 49]⟩, ⟨some 47, none, .mv, [.t 50]⟩, ⟨some 51, none, .ext 0, [.t 47]⟩, ⟨some 52, none, .ext 1, [.t 47]⟩, ⟨some 11, none, .mv, [.t 51]⟩, ⟨some 12, none,
  .mv, [.t 52]⟩]).seq ((C.ops [⟨some 54, none, .mv, [.t 0]⟩, ⟨some 55, none, .mv, [.t 1]⟩, ⟨some 56, none, .call 30 true, [.t 54, .t 55]⟩, ⟨some 53, none, .mv, [.t 56]⟩, ⟨some 57,
  none, .ext 0, [.t 53]⟩, ⟨some 58, none, .ext 1, [.t 53]⟩, ⟨some 13, none, .mv, [.t 57]⟩, ⟨some 14, none, .mv, [.t 58]⟩]).seq ((C.ops [⟨some 60, none, .mv, [.t 0]⟩, ⟨some 61, none,
  .mv, [.t 1]⟩, ⟨some 62, none, .call 31 true, [.t 60, .t 61]⟩, ⟨some 59, none, .mv, [.t 62]⟩, ⟨some 63, none, .ext 0, [.t 59]⟩, ⟨some 64, none, .ext 1, [.t 59]⟩, ⟨some 15, none,
  .mv, [.t 63]⟩, ⟨some 16, none, .mv, [.t 64]⟩]).seq ((C.ops [⟨some 66, none, .mv, [.t 0]⟩, ⟨some 67, none, .mv, [.t 1]⟩, ⟨some 68, none, .call 32 true, [.t 66, .t 67]⟩, ⟨some 65,
  none, .mv, [.t 68]⟩, ⟨some 69, none, .ext 0, [.t 65]⟩, ⟨some 70, none, .ext 1, [.t 65]⟩, ⟨some 17, none, .mv, [.t 69]⟩, ⟨some 18, none, .mv, [.t 70]⟩]).seq ((C.ops [⟨some 72, none,
  .mv, [.t 0]⟩, ⟨some 73, none, .mv, [.t 1]⟩, ⟨some 74, none, .call 33 true, [.t 72, .t 73]⟩, ⟨some 71, none, .mv, [.t 74]⟩, ⟨some 75, none, .ext 0, [.t 71]⟩, ⟨some 76, none, .ext 1,
  [.t 71]⟩, ⟨some 19, none, .mv, [.t 75]⟩, ⟨some 20, none, .mv, [.t 76]⟩]).seq ((C.ops [⟨some 77, none, .mv, [.t 5]⟩, ⟨some 78, none, .mv, [.t 7]⟩, ⟨some 79, none, .call 17 true, [.t
  77, .t 78]⟩, ⟨some 80, none, .mv, [.t 79]⟩, ⟨some 81, some (80, true), .mv, [.t 6]⟩, ⟨some 82, some (80, true), .mv, [.t 8]⟩, ⟨some 83, some (80, true), .bin .eql, [.t 81, .t 82]⟩,
  ⟨some 84, none, .pick, [.t 80, .t 83, .c (.bool false)]⟩, ⟨some 85, none, .mv, [.t 84]⟩, ⟨some 86, some (85, true), .mv, [.t 9]⟩, ⟨some 87, some (85, true), .mv, [.t 11]⟩, ⟨some
  88, some (85, true), .call 17 true, [.t 86, .t 87]⟩, ⟨some 89, none, .pick, [.t 85, .t 88, .c (.bool false)]⟩, ⟨some 90, none, .mv, [.t 89]⟩, ⟨some 91, some (90, true), .mv, [.t
  10]⟩, ⟨some 92, some (90, true), .mv, [.t 12]⟩, ⟨some 93, some (90, true), .bin .eql, [.t 91, .t 92]⟩, ⟨some 94, none, .pick, [.t 90, .t 93, .c (.bool false)]⟩, ⟨some 95, none,
  .mv, [.t 94]⟩, ⟨some 96, some (95, true), .mv, [.t 13]⟩, ⟨some 97, some (95, true), .mv, [.t 15]⟩, ⟨some 98, some (95, true), .call 34 true, [.t 96, .t 97]⟩, ⟨some 99, none, .pick,
  [.t 95, .t 98, .c (.bool false)]⟩, ⟨some 100, none, .mv, [.t 99]⟩, ⟨some 101, some (100, true), .mv, [.t 14]⟩, ⟨some 102, some (100, true), .mv, [.t 16]⟩, ⟨some 103, some (100,
  true), .bin .eql, [.t 101, .t 102]⟩, ⟨some 104, none, .pick, [.t 100, .t 103, .c (.bool false)]⟩, ⟨some 105, none, .mv, [.t 104]⟩, ⟨some 106, some (105, true), .mv, [.t 17]⟩, ⟨some
  107, some (105, true), .mv, [.t 19]⟩, ⟨some 108, some (105, true), .call 27 true, [.t 106, .t 107]⟩, ⟨some 109, none, .pick, [.t 105, .t 108, .c (.bool false)]⟩, ⟨some 110, none,
  .mv, [.t 109]⟩, ⟨some 111, some (110, true), .mv, [.t 18]⟩, ⟨some 112, some (110, true), .mv, [.t 20]⟩, ⟨some 113, some (110, true), .bin .eql, [.t 111, .t 112]⟩, ⟨some 114, none,
  .pick, [.t 110, .t 113, .c (.bool false)]⟩, ⟨some 115, none, .mv, [.t 114]⟩, ⟨some 116, some (115, true), .call 13 true, []⟩, ⟨some 117, none, .pick, [.t 115, .t 116, .c (.bool
  false)]⟩, ⟨some 4, none, .mv, [.t 117]⟩]).seq
  C.ret)))))))))))
theorem fn7d : FnIs Tryd.prog 7 118 0 [RV.tmp 4] c7d := ⟨Tryd.f7, Tryd.f7.body.getD .skip, [], [74, 97, 42, 44, 59, 48, 50, 52, 69, 81, 96], [], by kernel_rfl, by kernel_rfl, by kernel_rfl, by kernel_rfl, by kernel_rfl, by kernel_rfl, by kernel_rfl⟩
/-- apograph/apographlaw47.HyphenationForbids -/
def c8d : C :=
  ((C.ops [⟨some 6, none, .mv, [.c (.bool false)]⟩]).seq (((C.ops [⟨some 17, none, .mv, [.t 0]⟩, ⟨some 18, none, .call 11 true, [.t 17]⟩, ⟨some 19, none, .un UnOp.not, [.t 18]⟩,
  ⟨some 20, none, .mv, [.t 19]⟩, ⟨some 21, some (20, false), .mv, [.t 1]⟩, ⟨some 22, some (20, false), .call 12 true, [.t 21]⟩, ⟨some 23, some (20, false), .un UnOp.not, [.t 22]⟩,
  ⟨some 24, none, .pick, [.t 20, .c (.bool true), .t 23]⟩, ⟨some 25, none, .mv, [.t 24]⟩, ⟨some 26, some (25, false), .mv, [.t 2]⟩, ⟨some 27, some (25, false), .call 12 true, [.t
  26]⟩, ⟨some 28, some (25, false), .un UnOp.not, [.t 27]⟩, ⟨some 29, none, .pick, [.t 25, .c (.bool true), .t 28]⟩]).seq (C.cond (.t 29) ((C.ops [⟨some 30, none, .call 13 true, []⟩,
  ⟨some 6, none, .mv, [.t 30]⟩]).seq C.ret) C.skip)).seq ((C.ops [⟨some 32, none, .mv, [.t 0]⟩, ⟨some 33, none, .mv, [.t 1]⟩, ⟨some 34, none, .call 32 true, [.t 32, .t 33]⟩, ⟨some
  31, none, .mv, [.t 34]⟩, ⟨some 35, none, .ext 0, [.t 31]⟩, ⟨some 36, none, .ext 1, [.t 31]⟩, ⟨some 7, none, .mv, [.t 35]⟩, ⟨some 8, none, .mv, [.t 36]⟩]).seq (((C.ops [⟨some 37,
  none, .mv, [.t 8]⟩, ⟨some 38, none, .bin .neq, [.t 37, .c (.int .i64 0)]⟩]).seq (C.cond (.t 38) ((C.ops [⟨some 40, none, .mv, [.t 0]⟩, ⟨some 41, none, .mv, [.t 1]⟩, ⟨some 42, none,
  .call 14 true, [.t 40, .t 41]⟩, ⟨some 39, none, .mv, [.t 42]⟩, ⟨some 43, none, .ext 0, [.t 39]⟩, ⟨some 44, none, .ext 1, [.t 39]⟩, ⟨some 9, none, .mv, [.t 43]⟩, ⟨some 10, none,
  .mv, [.t 44]⟩]).seq ((C.ops [⟨some 45, none, .mv, [.t 10]⟩, ⟨some 46, none, .bin .eql, [.t 45, .c (.int .i64 0)]⟩, ⟨some 47, none, .mv, [.t 46]⟩, ⟨some 48, some (47, true), .mv,
  [.t 7]⟩, ⟨some 49, some (47, true), .len, [.t 48]⟩, ⟨some 50, some (47, true), .bin .eql, [.t 49, .c (.int .i64 0)]⟩, ⟨some 51, none, .pick, [.t 47, .t 50, .c (.bool false)]⟩,
  ⟨some 52, none, .mv, [.t 51]⟩, ⟨some 53, some (52, true), .mv, [.t 8]⟩, ⟨some 54, some (52, true), .bin .eql, [.t 53, .c (.int .i64 11)]⟩, ⟨some 55, some (52, true), .mv, [.t 54]⟩,
  ⟨some 56, some (55, true), .mv, [.t 1]⟩, ⟨some 57, some (55, true), .call 35 true, [.t 56, .c (.str [48, 49, 50, 51, 52, 53, 54, 55, 56, 57])]⟩, ⟨some 58, some (52, true), .pick,
  [.t 55, .t 57, .c (.bool false)]⟩, ⟨some 59, some (52, true), .mv, [.t 58]⟩, ⟨some 60, some (59, false), .mv, [.t 8]⟩, ⟨some 61, some (59, false), .bin .eql, [.t 60, .c (.int .i64
  4)]⟩, ⟨some 62, some (59, false), .mv, [.t 61]⟩, ⟨some 63, some (62, true), .mv, [.t 9]⟩, ⟨some 64, some (62, true), .call 36 true, [.t 63, .c (.int .i64 9)]⟩, ⟨some 65, some (59,
  false), .pick, [.t 62, .t 64, .c (.bool false)]⟩, ⟨some 66, some (52, true), .pick, [.t 59, .c (.bool true), .t 65]⟩, ⟨some 67, none, .pick, [.t 52, .t 66, .c (.bool false)]⟩,
  ⟨some 68, none, .mv, [.t 67]⟩, ⟨some 69, some (68, true), .call 13 true, []⟩, ⟨some 70, none, .pick, [.t 68, .t 69, .c (.bool false)]⟩, ⟨some 6, none, .mv, [.t 70]⟩]).seq C.ret))
  C.skip)).seq ((C.ops [⟨some 72, none, .mv, [.t 7]⟩, ⟨some 73, none, .mv, [.t 1]⟩, ⟨some 74, none, .call 19 true, [.t 72, .t 73]⟩, ⟨some 71, none, .mv, [.t 74]⟩, ⟨some 75, none,
  .ext 0, [.t 71]⟩, ⟨some 76, none, .ext 1, [.t 71]⟩, ⟨some 11, none, .mv, [.t 75]⟩, ⟨some 12, none, .mv, [.t 76]⟩]).seq ((C.ops [⟨some 78, none, .mv, [.t 0]⟩, ⟨some 79, none, .mv,
  [.t 2]⟩, ⟨some 80, none, .call 19 true, [.t 78, .t 79]⟩, ⟨some 77, none, .mv, [.t 80]⟩, ⟨some 81, none, .ext 0, [.t 77]⟩, ⟨some 82, none, .ext 1, [.t 77]⟩, ⟨some 13, none, .mv, [.t
  81]⟩, ⟨some 14, none, .mv, [.t 82]⟩]).seq ((C.ops [⟨some 84, none, .mv, [.t 7]⟩, ⟨some 85, none, .mv, [.t 2]⟩, ⟨some 86, none, .call 19 true, [.t 84, .t 85]⟩, ⟨some 83, none, .mv,
  [.t 86]⟩, ⟨some 87, none, .ext 0, [.t 83]⟩, ⟨some 88, none, .ext 1, [.t 83]⟩, ⟨some 15, none, .mv, [.t 87]⟩, ⟨some 16, none, .mv, [.t 88]⟩]).seq (((C.ops [⟨some 89, none, .mv, [.t
  12]⟩, ⟨some 90, none, .mv, [.t 14]⟩, ⟨some 91, none, .mv, [.t 16]⟩, ⟨some 92, none, .mm true, [.t 89, .t 90, .t 91]⟩, ⟨some 93, none, .bin .neq, [.t 92, .c (.int .i64 0)]⟩, ⟨some
  94, none, .mv, [.t 93]⟩, ⟨some 95, some (94, false), .mv, [.t 7]⟩, ⟨some 96, some (94, false), .call 25 true, [.t 95]⟩, ⟨some 97, some (94, false), .bin .neq, [.t 96, .c (.int .i64
  0)]⟩, ⟨some 98, none, .pick, [.t 94, .c (.bool true), .t 97]⟩, ⟨some 99, none, .mv, [.t 98]⟩, ⟨some 100, some (99, false), .mv, [.t 11]⟩, ⟨some 101, some (99, false), .len, [.t
  100]⟩, ⟨some 102, some (99, false), .bin .neq, [.t 101, .c (.int .i64 0)]⟩, ⟨some 103, none, .pick, [.t 99, .c (.bool true), .t 102]⟩]).seq (C.cond (.t 103) ((C.ops [⟨some 6, none,
  .mv, [.c (.bool false)]⟩]).seq C.ret) C.skip)).seq (((C.ops [⟨some 104, none, .mv, [.t 2]⟩, ⟨some 105, none, .call 18 true, [.t 104]⟩, ⟨some 106, none, .mv, [.t 1]⟩, ⟨some 107,
  none, .call 18 true, [.t 106]⟩, ⟨some 108, none, .bin .eql, [.t 105, .t 107]⟩]).seq (C.cond (.t 108) ((C.ops [⟨some 109, none, .mv, [.t 15]⟩, ⟨some 110, none, .len, [.t 109]⟩,
  ⟨some 111, none, .bin .eql, [.t 110, .c (.int .i64 0)]⟩, ⟨some 112, none, .mv, [.t 111]⟩, ⟨some 113, some (112, true), .call 13 true, []⟩, ⟨some 114, none, .pick, [.t 112, .t 113,
  .c (.bool false)]⟩, ⟨some 6, none, .mv, [.t 114]⟩]).seq C.ret) C.skip)).seq ((C.ops [⟨some 115, none, .mv, [.t 13]⟩, ⟨some 116, none, .mv, [.t 15]⟩, ⟨some 117, none, .call 17 true,
  [.t 115, .t 116]⟩, ⟨some 118, none, .mv, [.t 117]⟩, ⟨some 119, some (118, true), .call 13 true, []⟩, ⟨some 120, none, .pick, [.t 118, .t 119, .c (.bool false)]⟩, ⟨some 6, none,
  .mv, [.t 120]⟩]).seq
  C.ret))))))))))
theorem fn8d : FnIs Tryd.prog 8 121 0 [RV.tmp 6] c8d := ⟨Tryd.f8, Tryd.f8.body.getD .skip, [], [74, 97, 42, 44, 59, 48, 50, 52, 69, 81, 96], [], by kernel_rfl, by kernel_rfl, by kernel_rfl, by kernel_rfl, by kernel_rfl, by kernel_rfl, by kernel_rfl⟩
/-- apograph/apographlaw47.HyphenationPoints -/
def c9d : C :=
  ((C.ops [⟨some 4, none, .mv, [.c (.bool false)]⟩]).seq (((C.ops [⟨some 12, none, .mv, [.t 0]⟩, ⟨some 13, none, .call 11 true, [.t 12]⟩, ⟨some 14, none, .un UnOp.not, [.t 13]⟩,
  ⟨some 15, none, .mv, [.t 14]⟩, ⟨some 16, some (15, false), .mv, [.t 1]⟩, ⟨some 17, some (15, false), .call 12 true, [.t 16]⟩, ⟨some 18, some (15, false), .un UnOp.not, [.t 17]⟩,
  ⟨some 19, none, .pick, [.t 15, .c (.bool true), .t 18]⟩]).seq (C.cond (.t 19) ((C.ops [⟨some 20, none, .call 13 true, []⟩, ⟨some 4, none, .mv, [.t 20]⟩]).seq C.ret) C.skip)).seq
  ((C.ops [⟨some 22, none, .mv, [.t 0]⟩, ⟨some 23, none, .mv, [.t 1]⟩, ⟨some 24, none, .call 14 true, [.t 22, .t 23]⟩, ⟨some 21, none, .mv, [.t 24]⟩, ⟨some 25, none, .ext 0, [.t
  21]⟩, ⟨some 26, none, .ext 1, [.t 21]⟩, ⟨some 5, none, .mv, [.t 25]⟩, ⟨some 6, none, .mv, [.t 26]⟩]).seq ((C.ops [⟨some 28, none, .mv, [.t 0]⟩, ⟨some 29, none, .mv, [.t 1]⟩, ⟨some
  30, none, .call 19 true, [.t 28, .t 29]⟩, ⟨some 27, none, .mv, [.t 30]⟩, ⟨some 31, none, .ext 0, [.t 27]⟩, ⟨some 32, none, .ext 1, [.t 27]⟩, ⟨some 7, none, .mv, [.t 31]⟩, ⟨some 8,
  none, .mv, [.t 32]⟩]).seq ((C.ops [⟨some 33, none, .mv, [.t 1]⟩, ⟨some 34, none, .call 16 true, [.t 33]⟩, ⟨some 9, none, .mv, [.t 34]⟩]).seq (((C.ops [⟨some 35, none, .mv, [.t 6]⟩,
  ⟨some 36, none, .bin .neq, [.t 35, .c (.int .i64 0)]⟩, ⟨some 37, none, .mv, [.t 36]⟩, ⟨some 38, some (37, false), .mv, [.t 8]⟩, ⟨some 39, some (37, false), .bin .neq, [.t 38, .c
  (.int .i64 0)]⟩, ⟨some 40, none, .pick, [.t 37, .c (.bool true), .t 39]⟩, ⟨some 41, none, .mv, [.t 40]⟩, ⟨some 42, some (41, false), .mv, [.t 5]⟩, ⟨some 43, some (41, false), .len,
  [.t 42]⟩, ⟨some 44, some (41, false), .mv, [.t 9]⟩, ⟨some 45, some (41, false), .len, [.t 44]⟩, ⟨some 46, some (41, false), .bin .sub, [.t 45, .c (.int .i64 1)]⟩, ⟨some 47, some
  (41, false), .bin .neq, [.t 43, .t 46]⟩, ⟨some 48, none, .pick, [.t 41, .c (.bool true), .t 47]⟩]).seq (C.cond (.t 48) ((C.ops [⟨some 4, none, .mv, [.c (.bool false)]⟩]).seq C.ret)
  C.skip)).seq ((C.ops [⟨some 10, none, .nilo 0 1 3, []⟩]).seq (((C.ops [⟨some 11, none, .mv, [.c (.int .i64 2)]⟩]).seq (C.block 0 (((C.ops [⟨some 49, none, .mv, [.t 11]⟩, ⟨some 50,
  none, .bin .add, [.t 49, .c (.int .i64 2)]⟩, ⟨some 51, none, .mv, [.t 9]⟩, ⟨some 52, none, .len, [.t 51]⟩, ⟨some 53, none, .bin .leq, [.t 50, .t 52]⟩]).seq (C.cond (.t 53) C.skip
  (C.exit 0))).seq ((C.block 1 ((C.ops [⟨some 56, none, .mv, [.t 5]⟩, ⟨some 57, none, .mv, [.t 11]⟩, ⟨some 58, none, .bin .sub, [.t 57, .c (.int .i64 1)]⟩, ⟨some 59, none, .idxA 1,
  [.t 56, .t 58]⟩, ⟨some 60, none, .load none, [.t 59]⟩, ⟨some 61, none, .bin .rem, [.t 60, .c (.int .i64 2)]⟩, ⟨some 62, none, .bin .eql, [.t 61, .c (.int .i64 1)]⟩]).seq (C.cond
  (.t 62) (C.ops [⟨some 63, none, .mv, [.t 10]⟩, ⟨some 64, none, .mv, [.t 9]⟩, ⟨some 65, none, .mv, [.t 11]⟩, ⟨some 66, none, .slc 1 false true, [.t 64, .t 65]⟩, ⟨some 67, none,
  .call 37 true, [.t 66, .c (.str [])]⟩, ⟨some 68, none, .slen, [.t 67]⟩, ⟨some 69, none, .bslc 1 1 1 3 [.int .i64 0] [(0, 1)], [.t 68]⟩, ⟨some 70, none, .app 2 1 3 8, [.t 63, .t
  69]⟩, ⟨some 10, none, .mv, [.t 70]⟩]) C.skip))).seq (C.ops [⟨some 54, none, .mv, [.t 11]⟩, ⟨some 55, none, .bin .add, [.t 54, .c (.int .i64 1)]⟩, ⟨some 11, none, .mv, [.t
  55]⟩]))).loop)).seq ((C.ops [⟨some 71, none, .mv, [.t 7]⟩, ⟨some 72, none, .mv, [.t 10]⟩, ⟨some 73, none, .call 17 true, [.t 71, .t 72]⟩, ⟨some 74, none, .mv, [.t 73]⟩, ⟨some 75,
  some (74, true), .call 13 true, []⟩, ⟨some 76, none, .pick, [.t 74, .t 75, .c (.bool false)]⟩, ⟨some 4, none, .mv, [.t 76]⟩]).seq
  C.ret)))))))))
theorem fn9d : FnIs Tryd.prog 9 77 3 [RV.tmp 4] c9d := ⟨Tryd.f9, Tryd.f9.body.getD .skip, [10, 69, 70], [74, 97, 42, 44, 59, 48, 50, 52, 69, 81, 96], [], by kernel_rfl, by kernel_rfl, by kernel_rfl, by kernel_rfl, by kernel_rfl, by kernel_rfl, by kernel_rfl⟩
/-- apograph/apographlaw47.HyphenationParts -/
def c10d : C :=
  ((C.ops [⟨some 4, none, .mv, [.c (.bool false)]⟩]).seq (((C.ops [⟨some 12, none, .mv, [.t 0]⟩, ⟨some 13, none, .call 11 true, [.t 12]⟩, ⟨some 14, none, .un UnOp.not, [.t 13]⟩,
  ⟨some 15, none, .mv, [.t 14]⟩, ⟨some 16, some (15, false), .mv, [.t 1]⟩, ⟨some 17, some (15, false), .call 12 true, [.t 16]⟩, ⟨some 18, some (15, false), .un UnOp.not, [.t 17]⟩,
  ⟨some 19, none, .pick, [.t 15, .c (.bool true), .t 18]⟩]).seq (C.cond (.t 19) ((C.ops [⟨some 20, none, .call 13 true, []⟩, ⟨some 4, none, .mv, [.t 20]⟩]).seq C.ret) C.skip)).seq
  ((C.ops [⟨some 22, none, .mv, [.t 0]⟩, ⟨some 23, none, .mv, [.t 1]⟩, ⟨some 24, none, .call 30 true, [.t 22, .t 23]⟩, ⟨some 21, none, .mv, [.t 24]⟩, ⟨some 25, none, .ext 0, [.t
  21]⟩, ⟨some 26, none, .ext 1, [.t 21]⟩, ⟨some 5, none, .mv, [.t 25]⟩, ⟨some 6, none, .mv, [.t 26]⟩]).seq ((C.ops [⟨some 28, none, .mv, [.t 0]⟩, ⟨some 29, none, .mv, [.t 1]⟩, ⟨some
  30, none, .call 19 true, [.t 28, .t 29]⟩, ⟨some 27, none, .mv, [.t 30]⟩, ⟨some 31, none, .ext 0, [.t 27]⟩, ⟨some 32, none, .ext 1, [.t 27]⟩, ⟨some 7, none, .mv, [.t 31]⟩, ⟨some 8,
  none, .mv, [.t 32]⟩]).seq (((C.ops [⟨some 33, none, .mv, [.t 6]⟩, ⟨some 34, none, .bin .neq, [.t 33, .c (.int .i64 0)]⟩, ⟨some 35, none, .mv, [.t 34]⟩, ⟨some 36, some (35, false),
  .mv, [.t 8]⟩, ⟨some 37, some (35, false), .bin .neq, [.t 36, .c (.int .i64 0)]⟩, ⟨some 38, none, .pick, [.t 35, .c (.bool true), .t 37]⟩, ⟨some 39, none, .mv, [.t 38]⟩, ⟨some 40,
  some (39, false), .mv, [.t 5]⟩, ⟨some 41, some (39, false), .len, [.t 40]⟩, ⟨some 42, some (39, false), .mv, [.t 7]⟩, ⟨some 43, some (39, false), .len, [.t 42]⟩, ⟨some 44, some
  (39, false), .bin .add, [.t 43, .c (.int .i64 1)]⟩, ⟨some 45, some (39, false), .bin .neq, [.t 41, .t 44]⟩, ⟨some 46, none, .pick, [.t 39, .c (.bool true), .t 45]⟩, ⟨some 47, none,
  .mv, [.t 46]⟩, ⟨some 48, some (47, false), .mv, [.t 5]⟩, ⟨some 49, some (47, false), .call 37 true, [.t 48, .c (.str [])]⟩, ⟨some 50, some (47, false), .mv, [.t 1]⟩, ⟨some 51, some
  (47, false), .bin .neq, [.t 49, .t 50]⟩, ⟨some 52, none, .pick, [.t 47, .c (.bool true), .t 51]⟩]).seq (C.cond (.t 52) ((C.ops [⟨some 4, none, .mv, [.c (.bool false)]⟩]).seq C.ret)
  C.skip)).seq ((C.ops [⟨some 9, none, .mv, [.c (.int .i64 0)]⟩]).seq (((C.ops [⟨some 53, none, .mv, [.t 5]⟩, ⟨some 54, none, .len, [.t 53]⟩, ⟨some 55, none, .mv, [.c (.int .i64
  0)]⟩]).seq (C.block 0 ((C.ops [⟨some 56, none, .bin .lss, [.t 55, .t 54]⟩]).seq ((C.cond (.t 56) C.skip (C.exit 0)).seq ((C.block 1 ((C.ops [⟨some 57, none, .mv, [.t 55]⟩, ⟨some
  58, none, .idxA 1, [.t 53, .t 55]⟩, ⟨some 59, none, .load none, [.t 58]⟩, ⟨some 10, none, .mv, [.t 57]⟩, ⟨some 11, none, .mv, [.t 59]⟩]).seq (((C.ops [⟨some 60, none, .mv, [.t
  10]⟩, ⟨some 61, none, .bin .gtr, [.t 60, .c (.int .i64 0)]⟩, ⟨some 62, none, .mv, [.t 61]⟩, ⟨some 63, some (62, true), .mv, [.t 9]⟩, ⟨some 64, some (62, true), .mv, [.t 7]⟩, ⟨some
  65, some (62, true), .mv, [.t 10]⟩, ⟨some 66, some (62, true), .bin .sub, [.t 65, .c (.int .i64 1)]⟩, ⟨some 67, some (62, true), .idxA 1, [.t 64, .t 66]⟩, ⟨some 68, some (62,
  true), .load none, [.t 67]⟩, ⟨some 69, some (62, true), .bin .neq, [.t 63, .t 68]⟩, ⟨some 70, none, .pick, [.t 62, .t 69, .c (.bool false)]⟩, ⟨some 71, none, .mv, [.t 70]⟩, ⟨some
  72, some (71, false), .mv, [.t 5]⟩, ⟨some 73, some (71, false), .len, [.t 72]⟩, ⟨some 74, some (71, false), .bin .gtr, [.t 73, .c (.int .i64 1)]⟩, ⟨some 75, some (71, false), .mv,
  [.t 74]⟩, ⟨some 76, some (75, true), .mv, [.t 10]⟩, ⟨some 77, some (75, true), .bin .eql, [.t 76, .c (.int .i64 0)]⟩, ⟨some 78, some (75, true), .mv, [.t 77]⟩, ⟨some 79, some (78,
  false), .mv, [.t 10]⟩, ⟨some 80, some (78, false), .mv, [.t 5]⟩, ⟨some 81, some (78, false), .len, [.t 80]⟩, ⟨some 82, some (78, false), .bin .sub, [.t 81, .c (.int .i64 1)]⟩,
  ⟨some 83, some (78, false), .bin .eql, [.t 79, .t 82]⟩, ⟨some 84, some (75, true), .pick, [.t 78, .c (.bool true), .t 83]⟩, ⟨some 85, some (71, false), .pick, [.t 75, .t 84, .c
  (.bool false)]⟩, ⟨some 86, some (71, false), .mv, [.t 85]⟩, ⟨some 87, some (86, true), .mv, [.t 11]⟩, ⟨some 88, some (86, true), .call 16 true, [.t 87]⟩, ⟨some 89, some (86, true),
  .len, [.t 88]⟩, ⟨some 90, some (86, true), .bin .lss, [.t 89, .c (.int .i64 2)]⟩, ⟨some 91, some (71, false), .pick, [.t 86, .t 90, .c (.bool false)]⟩, ⟨some 92, none, .pick, [.t
  71, .c (.bool true), .t 91]⟩]).seq (C.cond (.t 92) ((C.ops [⟨some 4, none, .mv, [.c (.bool false)]⟩]).seq C.ret) C.skip)).seq (C.ops [⟨some 93, none, .mv, [.t 9]⟩, ⟨some 94, none,
  .mv, [.t 11]⟩, ⟨some 95, none, .slen, [.t 94]⟩, ⟨some 96, none, .bin .add, [.t 93, .t 95]⟩, ⟨some 9, none, .mv, [.t 96]⟩])))).seq (C.ops [⟨some 97, none, .bin .add, [.t 55, .c
  (.int .i64 1)]⟩, ⟨some 55, none, .mv, [.t 97]⟩])))).loop)).seq ((C.ops [⟨some 98, none, .call 13 true, []⟩, ⟨some 4, none, .mv, [.t 98]⟩]).seq
  C.ret))))))))
theorem fn10d : FnIs Tryd.prog 10 99 0 [RV.tmp 4] c10d := ⟨Tryd.f10, Tryd.f10.body.getD .skip, [], [74, 97, 42, 44, 59, 48, 50, 52, 69, 81, 96], [], by kernel_rfl, by kernel_rfl, by kernel_rfl, by kernel_rfl, by kernel_rfl, by kernel_rfl, by kernel_rfl⟩
/-- apograph/apographlaw47.fine -/
def c11d : C :=
  ((C.ops [⟨some 2, none, .mv, [.c (.bool false)]⟩]).seq ((C.ops [⟨some 3, none, .mv, [.t 0]⟩, ⟨some 4, none, .len, [.t 3]⟩, ⟨some 5, none, .bin .leq, [.t 4, .c (.int .i64 8)]⟩,
  ⟨some 6, none, .mv, [.t 5]⟩, ⟨some 7, some (6, true), .mv, [.t 0]⟩, ⟨some 8, some (6, true), .call 20 true, [.t 7]⟩, ⟨some 9, some (6, true), .un UnOp.not, [.t 8]⟩, ⟨some 10, none,
  .pick, [.t 6, .t 9, .c (.bool false)]⟩, ⟨some 11, none, .mv, [.t 10]⟩, ⟨some 12, some (11, true), .mv, [.t 0]⟩, ⟨some 13, some (11, true), .call 25 true, [.t 12]⟩, ⟨some 14, some
  (11, true), .bin .eql, [.t 13, .c (.int .i64 0)]⟩, ⟨some 15, none, .pick, [.t 11, .t 14, .c (.bool false)]⟩, ⟨some 2, none, .mv, [.t 15]⟩]).seq
  C.ret))
theorem fn11d : FnIs Tryd.prog 11 16 0 [RV.tmp 2] c11d := ⟨Tryd.f11, Tryd.f11.body.getD .skip, [], [74, 97, 42, 44, 59, 48, 50, 52, 69, 81, 96], [], by kernel_rfl, by kernel_rfl, by kernel_rfl, by kernel_rfl, by kernel_rfl, by kernel_rfl, by kernel_rfl⟩
/-- apograph/apographlaw47.word -/
def c12d : C :=
  ((C.ops [⟨some 2, none, .mv, [.c (.bool false)]⟩]).seq ((C.ops [⟨some 3, none, .mv, [.t 0]⟩, ⟨some 4, none, .slen, [.t 3]⟩, ⟨some 5, none, .bin .leq, [.t 4, .c (.int .i64 20)]⟩,
  ⟨some 6, none, .mv, [.t 5]⟩, ⟨some 7, some (6, true), .mv, [.t 0]⟩, ⟨some 8, some (6, true), .call 38 true, [.t 7]⟩, ⟨some 9, none, .pick, [.t 6, .t 8, .c (.bool false)]⟩, ⟨some 2,
  none, .mv, [.t 9]⟩]).seq
  C.ret))
theorem fn12d : FnIs Tryd.prog 12 10 0 [RV.tmp 2] c12d := ⟨Tryd.f12, Tryd.f12.body.getD .skip, [], [74, 97, 42, 44, 59, 48, 50, 52, 69, 81, 96], [], by kernel_rfl, by kernel_rfl, by kernel_rfl, by kernel_rfl, by kernel_rfl, by kernel_rfl, by kernel_rfl⟩
/-- apograph/apographlaw47.awake -/
def c13d : C :=
  ((C.ops [⟨some 0, none, .mv, [.c (.bool false)]⟩]).seq ((C.ops [⟨some 12, none, .call 21 true, [.c (.str [97, 49, 98, 32, 46, 99, 50, 100, 51, 101, 46])]⟩, ⟨some 11, none, .mv, [.t
  12]⟩, ⟨some 13, none, .ext 0, [.t 11]⟩, ⟨some 14, none, .ext 1, [.t 11]⟩, ⟨some 1, none, .mv, [.t 13]⟩, ⟨some 2, none, .mv, [.t 14]⟩]).seq ((C.ops [⟨some 16, none, .call 39 true,
  []⟩, ⟨some 17, none, .bslc 0 1 3 3 [.int .i64 0] [(0, 1), (1, 1), (2, 1)], [.c (.int .i64 0), .c (.int .i64 3), .c (.int .i64 0)]⟩, ⟨some 18, none, .build [.str [], .nl] [(0, 1),
  (1, 1)], [.c (.str [100, 101]), .t 17]⟩, ⟨some 19, none, .bslc 1 2 1 32 [.str [], .nl] [(0, 2)], [.t 18]⟩, ⟨some 20, none, .app 2 2 32 40, [.t 16, .t 19]⟩, ⟨some 21, none, .call 14
  true, [.t 20, .c (.str [120, 97, 98, 99, 100, 101])]⟩, ⟨some 15, none, .mv, [.t 21]⟩, ⟨some 22, none, .ext 0, [.t 15]⟩, ⟨some 23, none, .ext 1, [.t 15]⟩, ⟨some 3, none, .mv, [.t
  22]⟩, ⟨some 4, none, .mv, [.t 23]⟩]).seq ((C.ops [⟨some 25, none, .call 39 true, []⟩, ⟨some 26, none, .call 30 true, [.t 25, .c (.str [120, 97, 98, 99, 100, 101])]⟩, ⟨some 24,
  none, .mv, [.t 26]⟩, ⟨some 27, none, .ext 0, [.t 24]⟩, ⟨some 28, none, .ext 1, [.t 24]⟩, ⟨some 5, none, .mv, [.t 27]⟩, ⟨some 6, none, .mv, [.t 28]⟩]).seq ((C.ops [⟨some 30, none,
  .call 39 true, []⟩, ⟨some 31, none, .call 14 true, [.t 30, .c (.str [99, 100, 101])]⟩, ⟨some 29, none, .mv, [.t 31]⟩, ⟨some 32, none, .ext 0, [.t 29]⟩, ⟨some 33, none, .ext 1, [.t
  29]⟩, ⟨some 7, none, .mv, [.t 32]⟩, ⟨some 8, none, .mv, [.t 33]⟩]).seq ((C.ops [⟨some 35, none, .call 39 true, []⟩, ⟨some 36, none, .call 19 true, [.t 35, .c (.str [99, 100,
  101])]⟩, ⟨some 34, none, .mv, [.t 36]⟩, ⟨some 37, none, .ext 0, [.t 34]⟩, ⟨some 38, none, .ext 1, [.t 34]⟩, ⟨some 9, none, .mv, [.t 37]⟩, ⟨some 10, none, .mv, [.t 38]⟩]).seq
  ((C.ops [⟨some 39, none, .mv, [.t 2]⟩, ⟨some 40, none, .mv, [.t 4]⟩, ⟨some 41, none, .mv, [.t 6]⟩, ⟨some 42, none, .mv, [.t 8]⟩, ⟨some 43, none, .mv, [.t 10]⟩, ⟨some 44, none, .mm
  true, [.t 39, .t 40, .t 41, .t 42, .t 43]⟩, ⟨some 45, none, .bin .eql, [.t 44, .c (.int .i64 0)]⟩, ⟨some 46, none, .mv, [.t 45]⟩, ⟨some 47, some (46, true), .mv, [.t 1]⟩, ⟨some 48,
  some (46, true), .call 39 true, []⟩, ⟨some 49, some (46, true), .call 27 true, [.t 47, .t 48]⟩, ⟨some 50, none, .pick, [.t 46, .t 49, .c (.bool false)]⟩, ⟨some 51, none, .mv, [.t
  50]⟩, ⟨some 52, some (51, true), .mv, [.t 3]⟩, ⟨some 53, some (51, true), .bslc 3 1 5 3 [.int .i64 0] [(0, 1), (1, 1), (2, 1), (3, 1), (4, 1)], [.c (.int .i64 0), .c (.int .i64 1),
  .c (.int .i64 0), .c (.int .i64 0), .c (.int .i64 3)]⟩, ⟨some 54, some (51, true), .call 17 true, [.t 52, .t 53]⟩, ⟨some 55, none, .pick, [.t 51, .t 54, .c (.bool false)]⟩, ⟨some
  56, none, .mv, [.t 55]⟩, ⟨some 57, some (56, true), .mv, [.t 5]⟩, ⟨some 58, some (56, true), .bslc 4 1 2 9 [.str []] [(0, 1), (1, 1)], [.c (.str [120, 97]), .c (.str [98, 99, 100,
  101])]⟩, ⟨some 59, some (56, true), .call 34 true, [.t 57, .t 58]⟩, ⟨some 60, none, .pick, [.t 56, .t 59, .c (.bool false)]⟩, ⟨some 61, none, .mv, [.t 60]⟩, ⟨some 62, some (61,
  true), .mv, [.t 7]⟩, ⟨some 63, some (61, true), .bslc 5 1 2 3 [.int .i64 0] [(0, 1), (1, 1)], [.c (.int .i64 2), .c (.int .i64 3)]⟩, ⟨some 64, some (61, true), .call 17 true, [.t
  62, .t 63]⟩, ⟨some 65, none, .pick, [.t 61, .t 64, .c (.bool false)]⟩, ⟨some 66, none, .mv, [.t 65]⟩, ⟨some 67, some (66, true), .mv, [.t 9]⟩, ⟨some 68, some (66, true), .len, [.t
  67]⟩, ⟨some 69, some (66, true), .bin .eql, [.t 68, .c (.int .i64 0)]⟩, ⟨some 70, none, .pick, [.t 66, .t 69, .c (.bool false)]⟩, ⟨some 0, none, .mv, [.t 70]⟩]).seq
  C.ret)))))))
theorem fn13d : FnIs Tryd.prog 13 71 6 [RV.tmp 0] c13d := ⟨Tryd.f13, Tryd.f13.body.getD .skip, [17, 19, 20, 53, 58, 63], [74, 97, 42, 44, 59, 48, 50, 52, 69, 81, 96], [], by kernel_rfl, by kernel_rfl, by kernel_rfl, by kernel_rfl, by kernel_rfl, by kernel_rfl, by kernel_rfl⟩
/-- apograph/hyphenation.Levels -/
def c14d : C :=
  ((C.ops [⟨some 4, none, .nilo 0 1 3, []⟩, ⟨some 5, none, .mv, [.c (.int .i64 0)]⟩]).seq (((C.ops [⟨some 7, none, .mv, [.t 0]⟩, ⟨some 8, none, .mv, [.t 1]⟩, ⟨some 9, none, .call 40
  true, [.t 7, .t 8]⟩, ⟨some 6, none, .mv, [.t 9]⟩]).seq ((C.ops [⟨some 10, none, .mv, [.t 6]⟩, ⟨some 11, none, .bin .neq, [.t 10, .c (.int .i64 0)]⟩]).seq (C.cond (.t 11) ((C.ops
  [⟨some 12, none, .mv, [.t 6]⟩, ⟨some 4, none, .nilo 0 1 3, []⟩, ⟨some 5, none, .mv, [.t 12]⟩]).seq C.ret) C.skip))).seq ((C.ops [⟨some 13, none, .mv, [.t 0]⟩, ⟨some 14, none, .mv,
  [.t 1]⟩, ⟨some 15, none, .call 41 true, [.t 13, .t 14]⟩, ⟨some 4, none, .mv, [.t 15]⟩, ⟨some 5, none, .mv, [.c (.int .i64 0)]⟩]).seq
  C.ret)))
theorem fn14d : FnIs Tryd.prog 14 16 1 [RV.tmp 4, RV.tmp 5] c14d := ⟨Tryd.f14, Tryd.f14.body.getD .skip, [4], [74, 97, 42, 44, 59, 48, 50, 52, 69, 81, 96], [], by kernel_rfl, by kernel_rfl, by kernel_rfl, by kernel_rfl, by kernel_rfl, by kernel_rfl, by kernel_rfl⟩
/-- slices.Concat[[]apograph/api.Pattern,apograph/api.Pattern] -/
def c15d : C :=
  ((C.ops [⟨some 2, none, .nilo 0 2 32, []⟩]).seq ((C.ops [⟨some 3, none, .mv, [.c (.int .i64 0)]⟩]).seq (((C.ops [⟨some 9, none, .mv, [.t 0]⟩, ⟨some 10, none, .len, [.t 9]⟩, ⟨some
  11, none, .mv, [.c (.int .i64 0)]⟩]).seq (C.block 0 ((C.ops [⟨some 12, none, .bin .lss, [.t 11, .t 10]⟩]).seq ((C.cond (.t 12) C.skip (C.exit 0)).seq ((C.block 1 ((C.ops [⟨some 13,
  none, .idxA 1, [.t 9, .t 11]⟩, ⟨some 14, none, .load none, [.t 13]⟩, ⟨some 5, none, .mv, [.t 14]⟩]).seq ((C.ops [⟨some 15, none, .mv, [.t 3]⟩, ⟨some 16, none, .mv, [.t 5]⟩, ⟨some
  17, none, .len, [.t 16]⟩, ⟨some 18, none, .bin .add, [.t 15, .t 17]⟩, ⟨some 3, none, .mv, [.t 18]⟩]).seq ((C.ops [⟨some 19, none, .mv, [.t 3]⟩, ⟨some 20, none, .bin .lss, [.t 19,
  .c (.int .i64 0)]⟩]).seq (C.cond (.t 20) C.bad C.skip))))).seq (C.ops [⟨some 22, none, .bin .add, [.t 11, .c (.int .i64 1)]⟩, ⟨some 11, none, .mv, [.t 22]⟩])))).loop)).seq ((C.ops
  [⟨some 23, none, .mv, [.t 3]⟩, ⟨some 24, none, .call 42 false, [.c .nl, .t 23]⟩, ⟨some 6, none, .mv, [.t 24]⟩]).seq (((C.ops [⟨some 25, none, .mv, [.t 0]⟩, ⟨some 26, none, .len,
  [.t 25]⟩, ⟨some 27, none, .mv, [.c (.int .i64 0)]⟩]).seq (C.block 2 ((C.ops [⟨some 28, none, .bin .lss, [.t 27, .t 26]⟩]).seq ((C.cond (.t 28) C.skip (C.exit 2)).seq ((C.block 3
  ((C.ops [⟨some 29, none, .idxA 1, [.t 25, .t 27]⟩, ⟨some 30, none, .load none, [.t 29]⟩, ⟨some 8, none, .mv, [.t 30]⟩]).seq (C.ops [⟨some 31, none, .mv, [.t 6]⟩, ⟨some 32, none,
  .mv, [.t 8]⟩, ⟨some 33, none, .app 1 2 32 40, [.t 31, .t 32]⟩, ⟨some 6, none, .mv, [.t 33]⟩]))).seq (C.ops [⟨some 34, none, .bin .add, [.t 27, .c (.int .i64 1)]⟩, ⟨some 27, none,
  .mv, [.t 34]⟩])))).loop)).seq ((C.ops [⟨some 35, none, .mv, [.t 6]⟩, ⟨some 2, none, .mv, [.t 35]⟩]).seq
  C.ret))))))
theorem fn15d : FnIs Tryd.prog 15 36 2 [RV.tmp 2] c15d := ⟨Tryd.f15, Tryd.f15.body.getD .skip, [2, 33], [74, 97, 42, 44, 59, 48, 50, 52, 69, 81, 96], [], by kernel_rfl, by kernel_rfl, by kernel_rfl, by kernel_rfl, by kernel_rfl, by kernel_rfl, by kernel_rfl⟩
/-- apograph/charset.Clusters -/
def c16d : C :=
  ((C.ops [⟨some 2, none, .nilo 0 1 9, []⟩]).seq ((C.ops [⟨some 3, none, .alloc 1 33 [.nl], []⟩]).seq (((C.ops [⟨some 6, none, .mv, [.t 0]⟩, ⟨some 7, none, .call 43 true, [.t
  6]⟩]).seq (C.block 0 (C.range (.t 7) [8, 9] (C.ops [⟨some 5, none, .mv, [.t 9]⟩]) (C.block 1 (C.ops [⟨some 10, none, .load none, [.t 3]⟩, ⟨some 11, none, .mv, [.t 5]⟩, ⟨some 12,
  none, .bslc 2 1 1 9 [.str []] [(0, 1)], [.t 11]⟩, ⟨some 13, none, .app 3 1 9 16, [.t 10, .t 12]⟩, ⟨none, none, .store 1, [.t 3, .t 13]⟩]))))).seq ((C.ops [⟨some 14, none, .load
  none, [.t 3]⟩, ⟨some 2, none, .mv, [.t 14]⟩]).seq
  C.ret))))
theorem fn16d : FnIs Tryd.prog 16 15 4 [RV.tmp 2] c16d := ⟨Tryd.f16, Tryd.f16.body.getD .skip, [2, 3, 12, 13], [74, 97, 42, 44, 59, 48, 50, 52, 69, 81, 96], [], by kernel_rfl, by kernel_rfl, by kernel_rfl, by kernel_rfl, by kernel_rfl, by kernel_rfl, by kernel_rfl⟩
/-- slices.Equal[[]int,int] -/
def c17d : C :=
  ((C.ops [⟨some 4, none, .mv, [.c (.bool false)]⟩]).seq (((C.ops [⟨some 6, none, .mv, [.t 0]⟩, ⟨some 7, none, .len, [.t 6]⟩, ⟨some 8, none, .mv, [.t 1]⟩, ⟨some 9, none, .len, [.t
  8]⟩, ⟨some 10, none, .bin .neq, [.t 7, .t 9]⟩]).seq (C.cond (.t 10) ((C.ops [⟨some 4, none, .mv, [.c (.bool false)]⟩]).seq C.ret) C.skip)).seq (((C.ops [⟨some 11, none, .mv, [.t
  0]⟩, ⟨some 12, none, .len, [.t 11]⟩, ⟨some 13, none, .mv, [.c (.int .i64 0)]⟩]).seq (C.block 0 ((C.ops [⟨some 14, none, .bin .lss, [.t 13, .t 12]⟩]).seq ((C.cond (.t 14) C.skip
  (C.exit 0)).seq ((C.block 1 ((C.ops [⟨some 15, none, .mv, [.t 13]⟩, ⟨some 5, none, .mv, [.t 15]⟩]).seq ((C.ops [⟨some 16, none, .mv, [.t 0]⟩, ⟨some 17, none, .mv, [.t 5]⟩, ⟨some
  18, none, .idxA 1, [.t 16, .t 17]⟩, ⟨some 19, none, .load none, [.t 18]⟩, ⟨some 20, none, .mv, [.t 1]⟩, ⟨some 21, none, .mv, [.t 5]⟩, ⟨some 22, none, .idxA 1, [.t 20, .t 21]⟩,
  ⟨some 23, none, .load none, [.t 22]⟩, ⟨some 24, none, .bin .neq, [.t 19, .t 23]⟩]).seq (C.cond (.t 24) ((C.ops [⟨some 4, none, .mv, [.c (.bool false)]⟩]).seq C.ret) C.skip)))).seq
  (C.ops [⟨some 25, none, .bin .add, [.t 13, .c (.int .i64 1)]⟩, ⟨some 13, none, .mv, [.t 25]⟩])))).loop)).seq ((C.ops [⟨some 4, none, .mv, [.c (.bool true)]⟩]).seq
  C.ret))))
theorem fn17d : FnIs Tryd.prog 17 26 0 [RV.tmp 4] c17d := ⟨Tryd.f17, Tryd.f17.body.getD .skip, [], [74, 97, 42, 44, 59, 48, 50, 52, 69, 81, 96], [], by kernel_rfl, by kernel_rfl, by kernel_rfl, by kernel_rfl, by kernel_rfl, by kernel_rfl, by kernel_rfl⟩
/-- apograph/charset.Fold -/
def c18d : C :=
  ((C.ops [⟨some 2, none, .mv, [.c (.str [])]⟩]).seq ((C.ops [⟨some 6, none, .mv, [.t 0]⟩, ⟨some 7, none, .s2bo 0 5, [.t 6]⟩, ⟨some 3, none, .mv, [.t 7]⟩]).seq (((C.ops [⟨some 8,
  none, .mv, [.t 3]⟩, ⟨some 9, none, .len, [.t 8]⟩, ⟨some 10, none, .mv, [.c (.int .i64 0)]⟩]).seq (C.block 0 ((C.ops [⟨some 11, none, .bin .lss, [.t 10, .t 9]⟩]).seq ((C.cond (.t
  11) C.skip (C.exit 0)).seq ((C.block 1 ((C.ops [⟨some 12, none, .mv, [.t 10]⟩, ⟨some 13, none, .idxA 1, [.t 8, .t 10]⟩, ⟨some 14, none, .load none, [.t 13]⟩, ⟨some 4, none, .mv,
  [.t 12]⟩, ⟨some 5, none, .mv, [.t 14]⟩]).seq ((C.ops [⟨some 15, none, .mv, [.t 5]⟩, ⟨some 16, none, .bin .geq, [.t 15, .c (.int .u8 65)]⟩, ⟨some 17, none, .mv, [.t 16]⟩, ⟨some 18,
  some (17, true), .mv, [.t 5]⟩, ⟨some 19, some (17, true), .bin .leq, [.t 18, .c (.int .u8 90)]⟩, ⟨some 20, none, .pick, [.t 17, .t 19, .c (.bool false)]⟩]).seq (C.cond (.t 20)
  (C.ops [⟨some 21, none, .mv, [.t 3]⟩, ⟨some 22, none, .mv, [.t 4]⟩, ⟨some 23, none, .mv, [.t 5]⟩, ⟨some 24, none, .bin .sub, [.t 23, .c (.int .u8 65)]⟩, ⟨some 25, none, .bin .add,
  [.t 24, .c (.int .u8 97)]⟩, ⟨some 26, none, .idxA 1, [.t 21, .t 22]⟩, ⟨none, none, .store 1, [.t 26, .t 25]⟩]) C.skip)))).seq (C.ops [⟨some 27, none, .bin .add, [.t 10, .c (.int
  .i64 1)]⟩, ⟨some 10, none, .mv, [.t 27]⟩])))).loop)).seq ((C.ops [⟨some 28, none, .mv, [.t 3]⟩, ⟨some 29, none, .b2s, [.t 28]⟩, ⟨some 2, none, .mv, [.t 29]⟩]).seq
  C.ret))))
theorem fn18d : FnIs Tryd.prog 18 30 1 [RV.tmp 2] c18d := ⟨Tryd.f18, Tryd.f18.body.getD .skip, [7], [74, 97, 42, 44, 59, 48, 50, 52, 69, 81, 96], [], by kernel_rfl, by kernel_rfl, by kernel_rfl, by kernel_rfl, by kernel_rfl, by kernel_rfl, by kernel_rfl⟩
/-- apograph/hyphenation.Points -/
def c19d : C :=
  ((C.ops [⟨some 4, none, .nilo 0 1 3, []⟩, ⟨some 5, none, .mv, [.c (.int .i64 0)]⟩]).seq (((C.ops [⟨some 9, none, .mv, [.t 0]⟩, ⟨some 10, none, .mv, [.t 1]⟩, ⟨some 11, none, .call
  40 true, [.t 9, .t 10]⟩, ⟨some 6, none, .mv, [.t 11]⟩]).seq ((C.ops [⟨some 12, none, .mv, [.t 6]⟩, ⟨some 13, none, .bin .neq, [.t 12, .c (.int .i64 0)]⟩]).seq (C.cond (.t 13)
  ((C.ops [⟨some 14, none, .mv, [.t 6]⟩, ⟨some 4, none, .nilo 0 1 3, []⟩, ⟨some 5, none, .mv, [.t 14]⟩]).seq C.ret) C.skip))).seq ((C.ops [⟨some 16, none, .mv, [.t 0]⟩, ⟨some 17,
  none, .mv, [.t 1]⟩, ⟨some 18, none, .call 44 false, [.t 16, .t 17]⟩, ⟨some 15, none, .mv, [.t 18]⟩, ⟨some 19, none, .ext 0, [.t 15]⟩, ⟨some 20, none, .ext 1, [.t 15]⟩, ⟨some 7,
  none, .mv, [.t 19]⟩, ⟨some 8, none, .mv, [.t 20]⟩]).seq ((C.ops [⟨some 21, none, .mv, [.t 7]⟩, ⟨some 4, none, .mv, [.t 21]⟩, ⟨some 5, none, .mv, [.c (.int .i64 0)]⟩]).seq
  C.ret))))
theorem fn19d : FnIs Tryd.prog 19 22 1 [RV.tmp 4, RV.tmp 5] c19d := ⟨Tryd.f19, Tryd.f19.body.getD .skip, [4], [74, 97, 42, 44, 59, 48, 50, 52, 69, 81, 96], [], by kernel_rfl, by kernel_rfl, by kernel_rfl, by kernel_rfl, by kernel_rfl, by kernel_rfl, by kernel_rfl⟩
/-- apograph/apographref47.Great -/
def c20d : C :=
  ((C.ops [⟨some 2, none, .mv, [.c (.bool false)]⟩]).seq (((C.ops [⟨some 4, none, .mv, [.t 0]⟩, ⟨some 5, none, .len, [.t 4]⟩, ⟨some 6, none, .bin .gtr, [.t 5, .c (.int .i64 8)]⟩,
  ⟨some 7, none, .mv, [.t 6]⟩, ⟨some 8, some (7, true), .mv, [.t 0]⟩, ⟨some 9, some (7, true), .len, [.t 8]⟩, ⟨some 10, some (7, true), .bin .leq, [.t 9, .c (.int .i64 4096)]⟩, ⟨some
  11, none, .pick, [.t 7, .t 10, .c (.bool false)]⟩, ⟨some 12, none, .mv, [.t 11]⟩, ⟨some 13, some (12, false), .mv, [.t 0]⟩, ⟨some 14, some (12, false), .len, [.t 13]⟩, ⟨some 15,
  some (12, false), .bin .gtr, [.t 14, .c (.int .i64 4098)]⟩, ⟨some 16, none, .pick, [.t 12, .c (.bool true), .t 15]⟩]).seq (C.cond (.t 16) ((C.ops [⟨some 2, none, .mv, [.c (.bool
  true)]⟩]).seq C.ret) C.skip)).seq (((C.ops [⟨some 3, none, .mv, [.c (.int .i64 0)]⟩]).seq (C.block 0 (((C.ops [⟨some 17, none, .mv, [.t 3]⟩, ⟨some 18, none, .mv, [.t 0]⟩, ⟨some 19,
  none, .len, [.t 18]⟩, ⟨some 20, none, .bin .lss, [.t 17, .t 19]⟩]).seq (C.cond (.t 20) C.skip (C.exit 0))).seq ((C.block 1 ((C.ops [⟨some 23, none, .mv, [.t 0]⟩, ⟨some 24, none,
  .mv, [.t 3]⟩, ⟨some 25, none, .idxA 2, [.t 23, .t 24]⟩, ⟨some 26, none, .fldA 0, [.t 25]⟩, ⟨some 27, none, .load none, [.t 26]⟩, ⟨some 28, none, .slen, [.t 27]⟩, ⟨some 29, none,
  .bin .gtr, [.t 28, .c (.int .i64 12)]⟩, ⟨some 30, none, .mv, [.t 29]⟩, ⟨some 31, some (30, true), .mv, [.t 0]⟩, ⟨some 32, some (30, true), .mv, [.t 3]⟩, ⟨some 33, some (30, true),
  .idxA 2, [.t 31, .t 32]⟩, ⟨some 34, some (30, true), .fldA 0, [.t 33]⟩, ⟨some 35, some (30, true), .load none, [.t 34]⟩, ⟨some 36, some (30, true), .slen, [.t 35]⟩, ⟨some 37, some
  (30, true), .bin .leq, [.t 36, .c (.int .i64 64)]⟩, ⟨some 38, none, .pick, [.t 30, .t 37, .c (.bool false)]⟩, ⟨some 39, none, .mv, [.t 38]⟩, ⟨some 40, some (39, false), .mv, [.t
  0]⟩, ⟨some 41, some (39, false), .mv, [.t 3]⟩, ⟨some 42, some (39, false), .idxA 2, [.t 40, .t 41]⟩, ⟨some 43, some (39, false), .fldA 0, [.t 42]⟩, ⟨some 44, some (39, false),
  .load none, [.t 43]⟩, ⟨some 45, some (39, false), .slen, [.t 44]⟩, ⟨some 46, some (39, false), .bin .gtr, [.t 45, .c (.int .i64 66)]⟩, ⟨some 47, none, .pick, [.t 39, .c (.bool
  true), .t 46]⟩, ⟨some 48, none, .mv, [.t 47]⟩, ⟨some 49, some (48, false), .mv, [.t 0]⟩, ⟨some 50, some (48, false), .mv, [.t 3]⟩, ⟨some 51, some (48, false), .idxA 2, [.t 49, .t
  50]⟩, ⟨some 52, some (48, false), .fldA 1, [.t 51]⟩, ⟨some 53, some (48, false), .load none, [.t 52]⟩, ⟨some 54, some (48, false), .len, [.t 53]⟩, ⟨some 55, some (48, false), .bin
  .gtr, [.t 54, .c (.int .i64 16)]⟩, ⟨some 56, none, .pick, [.t 48, .c (.bool true), .t 55]⟩]).seq (C.cond (.t 56) ((C.ops [⟨some 2, none, .mv, [.c (.bool true)]⟩]).seq C.ret)
  C.skip))).seq (C.ops [⟨some 21, none, .mv, [.t 3]⟩, ⟨some 22, none, .bin .add, [.t 21, .c (.int .i64 1)]⟩, ⟨some 3, none, .mv, [.t 22]⟩]))).loop)).seq ((C.ops [⟨some 2, none, .mv,
  [.c (.bool false)]⟩]).seq
  C.ret))))
theorem fn20d : FnIs Tryd.prog 20 57 0 [RV.tmp 2] c20d := ⟨Tryd.f20, Tryd.f20.body.getD .skip, [], [74, 97, 42, 44, 59, 48, 50, 52, 69, 81, 96], [], by kernel_rfl, by kernel_rfl, by kernel_rfl, by kernel_rfl, by kernel_rfl, by kernel_rfl, by kernel_rfl⟩
/-- apograph/hyphenation.Parse -/
def c21d : C :=
  ((C.ops [⟨some 2, none, .nilo 0 2 32, []⟩, ⟨some 3, none, .mv, [.c (.int .i64 0)]⟩]).seq (((C.ops [⟨some 10, none, .mv, [.t 0]⟩, ⟨some 11, none, .slen, [.t 10]⟩, ⟨some 12, none,
  .bin .gtr, [.t 11, .c (.int .i64 65536)]⟩]).seq (C.cond (.t 12) ((C.ops [⟨some 2, none, .nilo 0 2 32, []⟩, ⟨some 3, none, .mv, [.c (.int .i64 4)]⟩]).seq C.ret) C.skip)).seq
  (((C.ops [⟨some 13, none, .mv, [.t 0]⟩, ⟨some 14, none, .bin .eql, [.t 13, .c (.str [])]⟩]).seq (C.cond (.t 14) ((C.ops [⟨some 2, none, .nilo 0 2 32, []⟩, ⟨some 3, none, .mv, [.c
  (.int .i64 0)]⟩]).seq C.ret) C.skip)).seq ((C.ops [⟨some 4, none, .nilo 1 2 32, []⟩]).seq (((C.ops [⟨some 15, none, .mv, [.t 0]⟩, ⟨some 16, none, .call 45 true, [.t 15, .c (.str
  [32])]⟩, ⟨some 17, none, .len, [.t 16]⟩, ⟨some 18, none, .mv, [.c (.int .i64 0)]⟩]).seq (C.block 0 ((C.ops [⟨some 19, none, .bin .lss, [.t 18, .t 17]⟩]).seq ((C.cond (.t 19) C.skip
  (C.exit 0)).seq ((C.block 1 ((C.ops [⟨some 20, none, .idxA 1, [.t 16, .t 18]⟩, ⟨some 21, none, .load none, [.t 20]⟩, ⟨some 6, none, .mv, [.t 21]⟩]).seq ((C.ops [⟨some 23, none,
  .mv, [.t 6]⟩, ⟨some 24, none, .call 46 true, [.t 23]⟩, ⟨some 22, none, .mv, [.t 24]⟩, ⟨some 25, none, .ext 0, [.t 22]⟩, ⟨some 26, none, .ext 1, [.t 22]⟩, ⟨some 7, none, .alloc 2 32
  [.str [], .nl], []⟩, ⟨none, none, .store 2, [.t 7, .t 25]⟩, ⟨some 8, none, .mv, [.t 26]⟩]).seq (((C.ops [⟨some 27, none, .mv, [.t 8]⟩, ⟨some 28, none, .un UnOp.not, [.t 27]⟩]).seq
  (C.cond (.t 28) ((C.ops [⟨some 2, none, .nilo 0 2 32, []⟩, ⟨some 3, none, .mv, [.c (.int .i64 3)]⟩]).seq C.ret) C.skip)).seq (C.ops [⟨some 29, none, .mv, [.t 4]⟩, ⟨some 30, none,
  .load (some 2), [.t 7]⟩, ⟨some 31, none, .bslc 3 2 1 32 [.str [], .nl] [(0, 2)], [.t 30]⟩, ⟨some 32, none, .app 4 2 32 40, [.t 29, .t 31]⟩, ⟨some 4, none, .mv, [.t 32]⟩]))))).seq
  (C.ops [⟨some 33, none, .bin .add, [.t 18, .c (.int .i64 1)]⟩, ⟨some 18, none, .mv, [.t 33]⟩])))).loop)).seq (((C.ops [⟨some 34, none, .mv, [.t 4]⟩, ⟨some 35, none, .call 25 true,
  [.t 34]⟩, ⟨some 9, none, .mv, [.t 35]⟩]).seq ((C.ops [⟨some 36, none, .mv, [.t 9]⟩, ⟨some 37, none, .bin .neq, [.t 36, .c (.int .i64 0)]⟩]).seq (C.cond (.t 37) ((C.ops [⟨some 38,
  none, .mv, [.t 9]⟩, ⟨some 2, none, .nilo 0 2 32, []⟩, ⟨some 3, none, .mv, [.t 38]⟩]).seq C.ret) C.skip))).seq ((C.ops [⟨some 39, none, .mv, [.t 4]⟩, ⟨some 2, none, .mv, [.t 39]⟩,
  ⟨some 3, none, .mv, [.c (.int .i64 0)]⟩]).seq
  C.ret)))))))
theorem fn21d : FnIs Tryd.prog 21 40 5 [RV.tmp 2, RV.tmp 3] c21d := ⟨Tryd.f21, Tryd.f21.body.getD .skip, [2, 4, 7, 31, 32], [74, 97, 42, 44, 59, 48, 50, 52, 69, 81, 96], [], by kernel_rfl, by kernel_rfl, by kernel_rfl, by kernel_rfl, by kernel_rfl, by kernel_rfl, by kernel_rfl⟩
/-- apograph/apographref47.Parse -/
def c22d : C :=
  ((C.ops [⟨some 2, none, .nilo 0 2 32, []⟩, ⟨some 3, none, .mv, [.c (.int .i64 0)]⟩]).seq (((C.ops [⟨some 10, none, .mv, [.t 0]⟩, ⟨some 11, none, .slen, [.t 10]⟩, ⟨some 12, none,
  .bin .gtr, [.t 11, .c (.int .i64 65536)]⟩]).seq (C.cond (.t 12) ((C.ops [⟨some 2, none, .nilo 0 2 32, []⟩, ⟨some 3, none, .mv, [.c (.int .i64 4)]⟩]).seq C.ret) C.skip)).seq
  (((C.ops [⟨some 13, none, .mv, [.t 0]⟩, ⟨some 14, none, .bin .eql, [.t 13, .c (.str [])]⟩]).seq (C.cond (.t 14) ((C.ops [⟨some 2, none, .nilo 0 2 32, []⟩, ⟨some 3, none, .mv, [.c
  (.int .i64 0)]⟩]).seq C.ret) C.skip)).seq ((C.ops [⟨some 4, none, .nilo 1 2 32, []⟩]).seq ((C.ops [⟨some 5, none, .mv, [.c (.int .i64 0)]⟩]).seq (((C.ops [⟨some 6, none, .mv, [.c
  (.int .i64 0)]⟩]).seq (C.block 0 (((C.ops [⟨some 15, none, .mv, [.t 6]⟩, ⟨some 16, none, .mv, [.t 0]⟩, ⟨some 17, none, .slen, [.t 16]⟩, ⟨some 18, none, .bin .leq, [.t 15, .t
  17]⟩]).seq (C.cond (.t 18) C.skip (C.exit 0))).seq ((C.block 1 (((C.ops [⟨some 21, none, .mv, [.t 6]⟩, ⟨some 22, none, .mv, [.t 0]⟩, ⟨some 23, none, .slen, [.t 22]⟩, ⟨some 24,
  none, .bin .lss, [.t 21, .t 23]⟩, ⟨some 25, none, .mv, [.t 24]⟩, ⟨some 26, some (25, true), .mv, [.t 0]⟩, ⟨some 27, some (25, true), .mv, [.t 6]⟩, ⟨some 28, some (25, true), .sidx,
  [.t 26, .t 27]⟩, ⟨some 29, some (25, true), .bin .neq, [.t 28, .c (.int .u8 32)]⟩, ⟨some 30, none, .pick, [.t 25, .t 29, .c (.bool false)]⟩]).seq (C.cond (.t 30) (C.exit 1)
  C.skip)).seq ((C.ops [⟨some 32, none, .mv, [.t 0]⟩, ⟨some 33, none, .mv, [.t 5]⟩, ⟨some 34, none, .mv, [.t 6]⟩, ⟨some 35, none, .sslc true true, [.t 32, .t 33, .t 34]⟩, ⟨some 36,
  none, .call 47 true, [.t 35]⟩, ⟨some 31, none, .mv, [.t 36]⟩, ⟨some 37, none, .ext 0, [.t 31]⟩, ⟨some 38, none, .ext 1, [.t 31]⟩, ⟨some 7, none, .alloc 2 32 [.str [], .nl], []⟩,
  ⟨none, none, .store 2, [.t 7, .t 37]⟩, ⟨some 8, none, .mv, [.t 38]⟩]).seq (((C.ops [⟨some 39, none, .mv, [.t 8]⟩, ⟨some 40, none, .un UnOp.not, [.t 39]⟩]).seq (C.cond (.t 40)
  ((C.ops [⟨some 2, none, .nilo 0 2 32, []⟩, ⟨some 3, none, .mv, [.c (.int .i64 3)]⟩]).seq C.ret) C.skip)).seq ((C.ops [⟨some 41, none, .mv, [.t 4]⟩, ⟨some 42, none, .load (some 2),
  [.t 7]⟩, ⟨some 43, none, .bslc 3 2 1 32 [.str [], .nl] [(0, 2)], [.t 42]⟩, ⟨some 44, none, .app 4 2 32 40, [.t 41, .t 43]⟩, ⟨some 4, none, .mv, [.t 44]⟩]).seq (C.ops [⟨some 45,
  none, .mv, [.t 6]⟩, ⟨some 46, none, .bin .add, [.t 45, .c (.int .i64 1)]⟩, ⟨some 5, none, .mv, [.t 46]⟩])))))).seq (C.ops [⟨some 19, none, .mv, [.t 6]⟩, ⟨some 20, none, .bin .add,
  [.t 19, .c (.int .i64 1)]⟩, ⟨some 6, none, .mv, [.t 20]⟩]))).loop)).seq (((C.ops [⟨some 47, none, .mv, [.t 4]⟩, ⟨some 48, none, .call 26 true, [.t 47]⟩, ⟨some 9, none, .mv, [.t
  48]⟩]).seq ((C.ops [⟨some 49, none, .mv, [.t 9]⟩, ⟨some 50, none, .bin .neq, [.t 49, .c (.int .i64 0)]⟩]).seq (C.cond (.t 50) ((C.ops [⟨some 51, none, .mv, [.t 9]⟩, ⟨some 2, none,
  .nilo 0 2 32, []⟩, ⟨some 3, none, .mv, [.t 51]⟩]).seq C.ret) C.skip))).seq ((C.ops [⟨some 52, none, .mv, [.t 4]⟩, ⟨some 2, none, .mv, [.t 52]⟩, ⟨some 3, none, .mv, [.c (.int .i64
  0)]⟩]).seq
  C.ret))))))))
theorem fn22d : FnIs Tryd.prog 22 53 5 [RV.tmp 2, RV.tmp 3] c22d := ⟨Tryd.f22, Tryd.f22.body.getD .skip, [2, 4, 7, 43, 44], [74, 97, 42, 44, 59, 48, 50, 52, 69, 81, 96], [], by kernel_rfl, by kernel_rfl, by kernel_rfl, by kernel_rfl, by kernel_rfl, by kernel_rfl, by kernel_rfl⟩
/-- apograph/hyphenation.Print -/
def c23d : C :=
  ((C.ops [⟨some 2, none, .mv, [.c (.str [])]⟩, ⟨some 3, none, .mv, [.c (.int .i64 0)]⟩]).seq (((C.ops [⟨some 10, none, .mv, [.t 0]⟩, ⟨some 11, none, .call 25 true, [.t 10]⟩, ⟨some
  12, none, .bin .neq, [.t 11, .c (.int .i64 0)]⟩]).seq (C.cond (.t 12) ((C.ops [⟨some 2, none, .mv, [.c (.str [])]⟩, ⟨some 3, none, .mv, [.c (.int .i64 1)]⟩]).seq C.ret)
  C.skip)).seq ((C.ops [⟨some 4, none, .alloc 0 69 [.nilp, .nl], []⟩]).seq (((C.ops [⟨some 13, none, .mv, [.t 0]⟩, ⟨some 14, none, .len, [.t 13]⟩, ⟨some 15, none, .mv, [.c (.int .i64
  0)]⟩]).seq (C.block 0 ((C.ops [⟨some 16, none, .bin .lss, [.t 15, .t 14]⟩]).seq ((C.cond (.t 16) C.skip (C.exit 0)).seq ((C.block 1 ((C.ops [⟨some 17, none, .mv, [.t 15]⟩, ⟨some
  18, none, .idxA 2, [.t 13, .t 15]⟩, ⟨some 19, none, .load (some 2), [.t 18]⟩, ⟨some 6, none, .alloc 1 32 [.str [], .nl], []⟩, ⟨some 5, none, .mv, [.t 17]⟩, ⟨none, none, .store 2,
  [.t 6, .t 19]⟩]).seq (((C.ops [⟨some 20, none, .mv, [.t 5]⟩, ⟨some 21, none, .bin .gtr, [.t 20, .c (.int .i64 0)]⟩]).seq (C.cond (.t 21) (C.ops [⟨some 22, none, .call 48 false, [.t
  4, .c (.int .u8 32)]⟩]) C.skip)).seq ((C.ops [⟨some 23, none, .fldA 0, [.t 6]⟩, ⟨some 24, none, .load none, [.t 23]⟩, ⟨some 25, none, .call 49 true, [.t 24]⟩, ⟨some 7, none, .mv,
  [.t 25]⟩]).seq ((C.ops [⟨some 26, none, .fldA 1, [.t 6]⟩, ⟨some 27, none, .load none, [.t 26]⟩, ⟨some 28, none, .len, [.t 27]⟩, ⟨some 29, none, .mv, [.c (.int .i64 0)]⟩]).seq
  (C.block 2 ((C.ops [⟨some 30, none, .bin .lss, [.t 29, .t 28]⟩]).seq ((C.cond (.t 30) C.skip (C.exit 2)).seq ((C.block 3 ((C.ops [⟨some 31, none, .mv, [.t 29]⟩, ⟨some 32, none,
  .idxA 1, [.t 27, .t 29]⟩, ⟨some 33, none, .load none, [.t 32]⟩, ⟨some 8, none, .mv, [.t 31]⟩, ⟨some 9, none, .mv, [.t 33]⟩]).seq (((C.ops [⟨some 34, none, .mv, [.t 9]⟩, ⟨some 35,
  none, .bin .gtr, [.t 34, .c (.int .i64 0)]⟩]).seq (C.cond (.t 35) (C.ops [⟨some 36, none, .mv, [.t 9]⟩, ⟨some 37, none, .sidx, [.c (.str [48, 49, 50, 51, 52, 53, 54, 55, 56, 57]),
  .t 36]⟩, ⟨some 38, none, .call 48 false, [.t 4, .t 37]⟩]) C.skip)).seq ((C.ops [⟨some 39, none, .mv, [.t 8]⟩, ⟨some 40, none, .mv, [.t 7]⟩, ⟨some 41, none, .len, [.t 40]⟩, ⟨some
  42, none, .bin .lss, [.t 39, .t 41]⟩]).seq (C.cond (.t 42) (C.ops [⟨some 43, none, .mv, [.t 7]⟩, ⟨some 44, none, .mv, [.t 8]⟩, ⟨some 45, none, .idxA 1, [.t 43, .t 44]⟩, ⟨some 46,
  none, .load none, [.t 45]⟩, ⟨some 47, none, .call 50 false, [.t 4, .t 46]⟩]) C.skip))))).seq (C.ops [⟨some 48, none, .bin .add, [.t 29, .c (.int .i64 1)]⟩, ⟨some 29, none, .mv, [.t
  48]⟩])))).loop)))))).seq (C.ops [⟨some 49, none, .bin .add, [.t 15, .c (.int .i64 1)]⟩, ⟨some 15, none, .mv, [.t 49]⟩])))).loop)).seq (((C.ops [⟨some 50, none, .call 51 true, [.t
  4]⟩, ⟨some 51, none, .bin .gtr, [.t 50, .c (.int .i64 65536)]⟩]).seq (C.cond (.t 51) ((C.ops [⟨some 2, none, .mv, [.c (.str [])]⟩, ⟨some 3, none, .mv, [.c (.int .i64 4)]⟩]).seq
  C.ret) C.skip)).seq ((C.ops [⟨some 52, none, .call 52 false, [.t 4]⟩, ⟨some 2, none, .mv, [.t 52]⟩, ⟨some 3, none, .mv, [.c (.int .i64 0)]⟩]).seq
  C.ret))))))
theorem fn23d : FnIs Tryd.prog 23 53 2 [RV.tmp 2, RV.tmp 3] c23d := ⟨Tryd.f23, Tryd.f23.body.getD .skip, [4, 6], [74, 97, 42, 44, 59, 48, 50, 52, 69, 81, 96], [], by kernel_rfl, by kernel_rfl, by kernel_rfl, by kernel_rfl, by kernel_rfl, by kernel_rfl, by kernel_rfl⟩
/-- apograph/apographref47.Print -/
def c24d : C :=
  ((C.ops [⟨some 2, none, .mv, [.c (.str [])]⟩, ⟨some 3, none, .mv, [.c (.int .i64 0)]⟩]).seq (((C.ops [⟨some 8, none, .mv, [.t 0]⟩, ⟨some 9, none, .call 26 true, [.t 8]⟩, ⟨some 10,
  none, .bin .neq, [.t 9, .c (.int .i64 0)]⟩]).seq (C.cond (.t 10) ((C.ops [⟨some 2, none, .mv, [.c (.str [])]⟩, ⟨some 3, none, .mv, [.c (.int .i64 1)]⟩]).seq C.ret) C.skip)).seq
  ((C.ops [⟨some 4, none, .mv, [.c (.str [])]⟩]).seq (((C.ops [⟨some 5, none, .mv, [.c (.int .i64 0)]⟩]).seq (C.block 0 (((C.ops [⟨some 11, none, .mv, [.t 5]⟩, ⟨some 12, none, .mv,
  [.t 0]⟩, ⟨some 13, none, .len, [.t 12]⟩, ⟨some 14, none, .bin .lss, [.t 11, .t 13]⟩]).seq (C.cond (.t 14) C.skip (C.exit 0))).seq ((C.block 1 (((C.ops [⟨some 17, none, .mv, [.t
  5]⟩, ⟨some 18, none, .bin .gtr, [.t 17, .c (.int .i64 0)]⟩]).seq (C.cond (.t 18) (C.ops [⟨some 19, none, .mv, [.t 4]⟩, ⟨some 20, none, .bin .add, [.t 19, .c (.str [32])]⟩, ⟨some 4,
  none, .mv, [.t 20]⟩]) C.skip)).seq ((C.ops [⟨some 21, none, .mv, [.t 0]⟩, ⟨some 22, none, .mv, [.t 5]⟩, ⟨some 23, none, .idxA 2, [.t 21, .t 22]⟩, ⟨some 24, none, .fldA 0, [.t 23]⟩,
  ⟨some 25, none, .load none, [.t 24]⟩, ⟨some 26, none, .call 53 true, [.t 25]⟩, ⟨some 6, none, .mv, [.t 26]⟩]).seq (((C.ops [⟨some 7, none, .mv, [.c (.int .i64 0)]⟩]).seq (C.block 2
  (((C.ops [⟨some 27, none, .mv, [.t 7]⟩, ⟨some 28, none, .mv, [.t 6]⟩, ⟨some 29, none, .len, [.t 28]⟩, ⟨some 30, none, .bin .leq, [.t 27, .t 29]⟩]).seq (C.cond (.t 30) C.skip
  (C.exit 2))).seq ((C.block 3 (((C.ops [⟨some 33, none, .mv, [.t 0]⟩, ⟨some 34, none, .mv, [.t 5]⟩, ⟨some 35, none, .idxA 2, [.t 33, .t 34]⟩, ⟨some 36, none, .fldA 1, [.t 35]⟩,
  ⟨some 37, none, .load none, [.t 36]⟩, ⟨some 38, none, .mv, [.t 7]⟩, ⟨some 39, none, .idxA 1, [.t 37, .t 38]⟩, ⟨some 40, none, .load none, [.t 39]⟩, ⟨some 41, none, .bin .gtr, [.t
  40, .c (.int .i64 0)]⟩]).seq (C.cond (.t 41) (C.ops [⟨some 42, none, .mv, [.t 4]⟩, ⟨some 43, none, .mv, [.t 0]⟩, ⟨some 44, none, .mv, [.t 5]⟩, ⟨some 45, none, .idxA 2, [.t 43, .t
  44]⟩, ⟨some 46, none, .fldA 1, [.t 45]⟩, ⟨some 47, none, .load none, [.t 46]⟩, ⟨some 48, none, .mv, [.t 7]⟩, ⟨some 49, none, .idxA 1, [.t 47, .t 48]⟩, ⟨some 50, none, .load none,
  [.t 49]⟩, ⟨some 51, none, .conv .u8, [.t 50]⟩, ⟨some 52, none, .bin .add, [.c (.int .u8 48), .t 51]⟩, ⟨some 53, none, .bslc 0 1 1 5 [.int .u8 0] [(0, 1)], [.t 52]⟩, ⟨some 54, none,
  .b2s, [.t 53]⟩, ⟨some 55, none, .bin .add, [.t 42, .t 54]⟩, ⟨some 4, none, .mv, [.t 55]⟩]) C.skip)).seq ((C.ops [⟨some 56, none, .mv, [.t 7]⟩, ⟨some 57, none, .mv, [.t 6]⟩, ⟨some
  58, none, .len, [.t 57]⟩, ⟨some 59, none, .bin .lss, [.t 56, .t 58]⟩]).seq (C.cond (.t 59) (C.ops [⟨some 60, none, .mv, [.t 4]⟩, ⟨some 61, none, .mv, [.t 6]⟩, ⟨some 62, none, .mv,
  [.t 7]⟩, ⟨some 63, none, .idxA 1, [.t 61, .t 62]⟩, ⟨some 64, none, .load none, [.t 63]⟩, ⟨some 65, none, .bin .add, [.t 60, .t 64]⟩, ⟨some 4, none, .mv, [.t 65]⟩]) C.skip)))).seq
  (C.ops [⟨some 31, none, .mv, [.t 7]⟩, ⟨some 32, none, .bin .add, [.t 31, .c (.int .i64 1)]⟩, ⟨some 7, none, .mv, [.t 32]⟩]))).loop)).seq ((C.ops [⟨some 66, none, .mv, [.t 4]⟩,
  ⟨some 67, none, .slen, [.t 66]⟩, ⟨some 68, none, .bin .gtr, [.t 67, .c (.int .i64 65536)]⟩]).seq (C.cond (.t 68) ((C.ops [⟨some 2, none, .mv, [.c (.str [])]⟩, ⟨some 3, none, .mv,
  [.c (.int .i64 4)]⟩]).seq C.ret) C.skip)))))).seq (C.ops [⟨some 15, none, .mv, [.t 5]⟩, ⟨some 16, none, .bin .add, [.t 15, .c (.int .i64 1)]⟩, ⟨some 5, none, .mv, [.t
  16]⟩]))).loop)).seq ((C.ops [⟨some 69, none, .mv, [.t 4]⟩, ⟨some 2, none, .mv, [.t 69]⟩, ⟨some 3, none, .mv, [.c (.int .i64 0)]⟩]).seq
  C.ret)))))
theorem fn24d : FnIs Tryd.prog 24 70 1 [RV.tmp 2, RV.tmp 3] c24d := ⟨Tryd.f24, Tryd.f24.body.getD .skip, [53], [74, 97, 42, 44, 59, 48, 50, 52, 69, 81, 96], [], by kernel_rfl, by kernel_rfl, by kernel_rfl, by kernel_rfl, by kernel_rfl, by kernel_rfl, by kernel_rfl⟩
/-- apograph/hyphenation.Check -/
def c25d : C :=
  ((C.ops [⟨some 2, none, .mv, [.c (.int .i64 0)]⟩]).seq (((C.ops [⟨some 6, none, .mv, [.t 0]⟩, ⟨some 7, none, .len, [.t 6]⟩, ⟨some 8, none, .bin .gtr, [.t 7, .c (.int .i64
  4096)]⟩]).seq (C.cond (.t 8) ((C.ops [⟨some 2, none, .mv, [.c (.int .i64 4)]⟩]).seq C.ret) C.skip)).seq (((C.ops [⟨some 9, none, .mv, [.t 0]⟩, ⟨some 10, none, .len, [.t 9]⟩, ⟨some
  11, none, .mv, [.c (.int .i64 0)]⟩]).seq (C.block 0 ((C.ops [⟨some 12, none, .bin .lss, [.t 11, .t 10]⟩]).seq ((C.cond (.t 12) C.skip (C.exit 0)).seq ((C.block 1 ((C.ops [⟨some 13,
  none, .idxA 2, [.t 9, .t 11]⟩, ⟨some 14, none, .load (some 2), [.t 13]⟩, ⟨some 4, none, .alloc 0 32 [.str [], .nl], []⟩, ⟨none, none, .store 2, [.t 4, .t 14]⟩]).seq ((C.ops [⟨some
  15, none, .load (some 2), [.t 4]⟩, ⟨some 16, none, .call 54 true, [.t 15]⟩, ⟨some 5, none, .mv, [.t 16]⟩]).seq ((C.ops [⟨some 17, none, .mv, [.t 5]⟩, ⟨some 18, none, .bin .neq, [.t
  17, .c (.int .i64 0)]⟩]).seq (C.cond (.t 18) ((C.ops [⟨some 19, none, .mv, [.t 5]⟩, ⟨some 2, none, .mv, [.t 19]⟩]).seq C.ret) C.skip))))).seq (C.ops [⟨some 20, none, .bin .add, [.t
  11, .c (.int .i64 1)]⟩, ⟨some 11, none, .mv, [.t 20]⟩])))).loop)).seq ((C.ops [⟨some 2, none, .mv, [.c (.int .i64 0)]⟩]).seq
  C.ret))))
theorem fn25d : FnIs Tryd.prog 25 21 1 [RV.tmp 2] c25d := ⟨Tryd.f25, Tryd.f25.body.getD .skip, [4], [74, 97, 42, 44, 59, 48, 50, 52, 69, 81, 96], [], by kernel_rfl, by kernel_rfl, by kernel_rfl, by kernel_rfl, by kernel_rfl, by kernel_rfl, by kernel_rfl⟩
/-- apograph/apographref47.Check -/
def c26d : C :=
  ((C.ops [⟨some 2, none, .mv, [.c (.int .i64 0)]⟩]).seq (((C.ops [⟨some 5, none, .mv, [.t 0]⟩, ⟨some 6, none, .len, [.t 5]⟩, ⟨some 7, none, .bin .gtr, [.t 6, .c (.int .i64
  4096)]⟩]).seq (C.cond (.t 7) ((C.ops [⟨some 2, none, .mv, [.c (.int .i64 4)]⟩]).seq C.ret) C.skip)).seq (((C.ops [⟨some 3, none, .mv, [.c (.int .i64 0)]⟩]).seq (C.block 0 (((C.ops
  [⟨some 8, none, .mv, [.t 3]⟩, ⟨some 9, none, .mv, [.t 0]⟩, ⟨some 10, none, .len, [.t 9]⟩, ⟨some 11, none, .bin .lss, [.t 8, .t 10]⟩]).seq (C.cond (.t 11) C.skip (C.exit 0))).seq
  ((C.block 1 ((C.ops [⟨some 14, none, .mv, [.t 0]⟩, ⟨some 15, none, .mv, [.t 3]⟩, ⟨some 16, none, .idxA 2, [.t 14, .t 15]⟩, ⟨some 17, none, .load (some 2), [.t 16]⟩, ⟨some 18, none,
  .call 55 true, [.t 17]⟩, ⟨some 4, none, .mv, [.t 18]⟩]).seq ((C.ops [⟨some 19, none, .mv, [.t 4]⟩, ⟨some 20, none, .bin .neq, [.t 19, .c (.int .i64 0)]⟩]).seq (C.cond (.t 20)
  ((C.ops [⟨some 21, none, .mv, [.t 4]⟩, ⟨some 2, none, .mv, [.t 21]⟩]).seq C.ret) C.skip)))).seq (C.ops [⟨some 12, none, .mv, [.t 3]⟩, ⟨some 13, none, .bin .add, [.t 12, .c (.int
  .i64 1)]⟩, ⟨some 3, none, .mv, [.t 13]⟩]))).loop)).seq ((C.ops [⟨some 2, none, .mv, [.c (.int .i64 0)]⟩]).seq
  C.ret))))
theorem fn26d : FnIs Tryd.prog 26 22 0 [RV.tmp 2] c26d := ⟨Tryd.f26, Tryd.f26.body.getD .skip, [], [74, 97, 42, 44, 59, 48, 50, 52, 69, 81, 96], [], by kernel_rfl, by kernel_rfl, by kernel_rfl, by kernel_rfl, by kernel_rfl, by kernel_rfl, by kernel_rfl⟩
/-- apograph/apographref47.Same -/
def c27d : C :=
  ((C.ops [⟨some 4, none, .mv, [.c (.bool false)]⟩]).seq (((C.ops [⟨some 6, none, .mv, [.t 0]⟩, ⟨some 7, none, .len, [.t 6]⟩, ⟨some 8, none, .mv, [.t 1]⟩, ⟨some 9, none, .len, [.t
  8]⟩, ⟨some 10, none, .bin .neq, [.t 7, .t 9]⟩]).seq (C.cond (.t 10) ((C.ops [⟨some 4, none, .mv, [.c (.bool false)]⟩]).seq C.ret) C.skip)).seq (((C.ops [⟨some 5, none, .mv, [.c
  (.int .i64 0)]⟩]).seq (C.block 0 (((C.ops [⟨some 11, none, .mv, [.t 5]⟩, ⟨some 12, none, .mv, [.t 0]⟩, ⟨some 13, none, .len, [.t 12]⟩, ⟨some 14, none, .bin .lss, [.t 11, .t
  13]⟩]).seq (C.cond (.t 14) C.skip (C.exit 0))).seq ((C.block 1 ((C.ops [⟨some 17, none, .mv, [.t 0]⟩, ⟨some 18, none, .mv, [.t 5]⟩, ⟨some 19, none, .idxA 2, [.t 17, .t 18]⟩, ⟨some
  20, none, .fldA 0, [.t 19]⟩, ⟨some 21, none, .load none, [.t 20]⟩, ⟨some 22, none, .mv, [.t 1]⟩, ⟨some 23, none, .mv, [.t 5]⟩, ⟨some 24, none, .idxA 2, [.t 22, .t 23]⟩, ⟨some 25,
  none, .fldA 0, [.t 24]⟩, ⟨some 26, none, .load none, [.t 25]⟩, ⟨some 27, none, .bin .neq, [.t 21, .t 26]⟩, ⟨some 28, none, .mv, [.t 27]⟩, ⟨some 29, some (28, false), .mv, [.t 0]⟩,
  ⟨some 30, some (28, false), .mv, [.t 5]⟩, ⟨some 31, some (28, false), .idxA 2, [.t 29, .t 30]⟩, ⟨some 32, some (28, false), .fldA 1, [.t 31]⟩, ⟨some 33, some (28, false), .load
  none, [.t 32]⟩, ⟨some 34, some (28, false), .mv, [.t 1]⟩, ⟨some 35, some (28, false), .mv, [.t 5]⟩, ⟨some 36, some (28, false), .idxA 2, [.t 34, .t 35]⟩, ⟨some 37, some (28,
  false), .fldA 1, [.t 36]⟩, ⟨some 38, some (28, false), .load none, [.t 37]⟩, ⟨some 39, some (28, false), .call 56 true, [.t 33, .t 38]⟩, ⟨some 40, some (28, false), .un UnOp.not,
  [.t 39]⟩, ⟨some 41, none, .pick, [.t 28, .c (.bool true), .t 40]⟩]).seq (C.cond (.t 41) ((C.ops [⟨some 4, none, .mv, [.c (.bool false)]⟩]).seq C.ret) C.skip))).seq (C.ops [⟨some
  15, none, .mv, [.t 5]⟩, ⟨some 16, none, .bin .add, [.t 15, .c (.int .i64 1)]⟩, ⟨some 5, none, .mv, [.t 16]⟩]))).loop)).seq ((C.ops [⟨some 4, none, .mv, [.c (.bool true)]⟩]).seq
  C.ret))))
theorem fn27d : FnIs Tryd.prog 27 42 0 [RV.tmp 4] c27d := ⟨Tryd.f27, Tryd.f27.body.getD .skip, [], [74, 97, 42, 44, 59, 48, 50, 52, 69, 81, 96], [], by kernel_rfl, by kernel_rfl, by kernel_rfl, by kernel_rfl, by kernel_rfl, by kernel_rfl, by kernel_rfl⟩
/-- apograph/apographref47.Levels -/
def c28d : C :=
  ((C.ops [⟨some 4, none, .nilo 0 1 3, []⟩, ⟨some 5, none, .mv, [.c (.int .i64 0)]⟩]).seq (((C.ops [⟨some 7, none, .mv, [.t 0]⟩, ⟨some 8, none, .mv, [.t 1]⟩, ⟨some 9, none, .call 57
  true, [.t 7, .t 8]⟩, ⟨some 6, none, .mv, [.t 9]⟩]).seq ((C.ops [⟨some 10, none, .mv, [.t 6]⟩, ⟨some 11, none, .bin .neq, [.t 10, .c (.int .i64 0)]⟩]).seq (C.cond (.t 11) ((C.ops
  [⟨some 12, none, .mv, [.t 6]⟩, ⟨some 4, none, .nilo 0 1 3, []⟩, ⟨some 5, none, .mv, [.t 12]⟩]).seq C.ret) C.skip))).seq ((C.ops [⟨some 13, none, .mv, [.t 0]⟩, ⟨some 14, none, .mv,
  [.t 1]⟩, ⟨some 15, none, .call 58 true, [.t 13, .t 14]⟩, ⟨some 4, none, .mv, [.t 15]⟩, ⟨some 5, none, .mv, [.c (.int .i64 0)]⟩]).seq
  C.ret)))
theorem fn28d : FnIs Tryd.prog 28 16 1 [RV.tmp 4, RV.tmp 5] c28d := ⟨Tryd.f28, Tryd.f28.body.getD .skip, [4], [74, 97, 42, 44, 59, 48, 50, 52, 69, 81, 96], [], by kernel_rfl, by kernel_rfl, by kernel_rfl, by kernel_rfl, by kernel_rfl, by kernel_rfl, by kernel_rfl⟩
/-- apograph/apographref47.Points -/
def c29d : C :=
  ((C.ops [⟨some 4, none, .nilo 0 1 3, []⟩, ⟨some 5, none, .mv, [.c (.int .i64 0)]⟩]).seq (((C.ops [⟨some 12, none, .mv, [.t 0]⟩, ⟨some 13, none, .mv, [.t 1]⟩, ⟨some 14, none, .call
  57 true, [.t 12, .t 13]⟩, ⟨some 6, none, .mv, [.t 14]⟩]).seq ((C.ops [⟨some 15, none, .mv, [.t 6]⟩, ⟨some 16, none, .bin .neq, [.t 15, .c (.int .i64 0)]⟩]).seq (C.cond (.t 16)
  ((C.ops [⟨some 17, none, .mv, [.t 6]⟩, ⟨some 4, none, .nilo 0 1 3, []⟩, ⟨some 5, none, .mv, [.t 17]⟩]).seq C.ret) C.skip))).seq ((C.ops [⟨some 18, none, .mv, [.t 1]⟩, ⟨some 19,
  none, .call 53 true, [.t 18]⟩, ⟨some 20, none, .mv, [.t 0]⟩, ⟨some 21, none, .mv, [.t 1]⟩, ⟨some 22, none, .call 58 true, [.t 20, .t 21]⟩, ⟨some 7, none, .mv, [.t 19]⟩, ⟨some 8,
  none, .mv, [.t 22]⟩]).seq ((C.ops [⟨some 9, none, .nilo 1 1 3, []⟩]).seq ((C.ops [⟨some 10, none, .mv, [.c (.int .i64 0)]⟩]).seq (((C.ops [⟨some 11, none, .mv, [.c (.int .i64
  0)]⟩]).seq (C.block 0 (((C.ops [⟨some 23, none, .mv, [.t 11]⟩, ⟨some 24, none, .mv, [.t 7]⟩, ⟨some 25, none, .len, [.t 24]⟩, ⟨some 26, none, .bin .lss, [.t 23, .t 25]⟩]).seq
  (C.cond (.t 26) C.skip (C.exit 0))).seq ((C.block 1 (((C.ops [⟨some 29, none, .mv, [.t 11]⟩, ⟨some 30, none, .bin .geq, [.t 29, .c (.int .i64 2)]⟩, ⟨some 31, none, .mv, [.t 30]⟩,
  ⟨some 32, some (31, true), .mv, [.t 11]⟩, ⟨some 33, some (31, true), .mv, [.t 7]⟩, ⟨some 34, some (31, true), .len, [.t 33]⟩, ⟨some 35, some (31, true), .bin .sub, [.t 34, .c (.int
  .i64 2)]⟩, ⟨some 36, some (31, true), .bin .leq, [.t 32, .t 35]⟩, ⟨some 37, none, .pick, [.t 31, .t 36, .c (.bool false)]⟩, ⟨some 38, none, .mv, [.t 37]⟩, ⟨some 39, some (38,
  true), .mv, [.t 8]⟩, ⟨some 40, some (38, true), .mv, [.t 11]⟩, ⟨some 41, some (38, true), .bin .sub, [.t 40, .c (.int .i64 1)]⟩, ⟨some 42, some (38, true), .idxA 1, [.t 39, .t
  41]⟩, ⟨some 43, some (38, true), .load none, [.t 42]⟩, ⟨some 44, some (38, true), .bin .rem, [.t 43, .c (.int .i64 2)]⟩, ⟨some 45, some (38, true), .bin .eql, [.t 44, .c (.int .i64
  1)]⟩, ⟨some 46, none, .pick, [.t 38, .t 45, .c (.bool false)]⟩]).seq (C.cond (.t 46) (C.ops [⟨some 47, none, .mv, [.t 9]⟩, ⟨some 48, none, .mv, [.t 10]⟩, ⟨some 49, none, .bslc 2 1
  1 3 [.int .i64 0] [(0, 1)], [.t 48]⟩, ⟨some 50, none, .app 3 1 3 8, [.t 47, .t 49]⟩, ⟨some 9, none, .mv, [.t 50]⟩]) C.skip)).seq (C.ops [⟨some 51, none, .mv, [.t 10]⟩, ⟨some 52,
  none, .mv, [.t 7]⟩, ⟨some 53, none, .mv, [.t 11]⟩, ⟨some 54, none, .idxA 1, [.t 52, .t 53]⟩, ⟨some 55, none, .load none, [.t 54]⟩, ⟨some 56, none, .slen, [.t 55]⟩, ⟨some 57, none,
  .bin .add, [.t 51, .t 56]⟩, ⟨some 10, none, .mv, [.t 57]⟩]))).seq (C.ops [⟨some 27, none, .mv, [.t 11]⟩, ⟨some 28, none, .bin .add, [.t 27, .c (.int .i64 1)]⟩, ⟨some 11, none, .mv,
  [.t 28]⟩]))).loop)).seq ((C.ops [⟨some 58, none, .mv, [.t 9]⟩, ⟨some 4, none, .mv, [.t 58]⟩, ⟨some 5, none, .mv, [.c (.int .i64 0)]⟩]).seq
  C.ret)))))))
theorem fn29d : FnIs Tryd.prog 29 59 4 [RV.tmp 4, RV.tmp 5] c29d := ⟨Tryd.f29, Tryd.f29.body.getD .skip, [4, 9, 49, 50], [74, 97, 42, 44, 59, 48, 50, 52, 69, 81, 96], [], by kernel_rfl, by kernel_rfl, by kernel_rfl, by kernel_rfl, by kernel_rfl, by kernel_rfl, by kernel_rfl⟩
/-- apograph/hyphenation.Split -/
def c30d : C :=
  ((C.ops [⟨some 4, none, .nilo 0 1 9, []⟩, ⟨some 5, none, .mv, [.c (.int .i64 0)]⟩]).seq (((C.ops [⟨some 13, none, .mv, [.t 0]⟩, ⟨some 14, none, .mv, [.t 1]⟩, ⟨some 15, none, .call
  40 true, [.t 13, .t 14]⟩, ⟨some 6, none, .mv, [.t 15]⟩]).seq ((C.ops [⟨some 16, none, .mv, [.t 6]⟩, ⟨some 17, none, .bin .neq, [.t 16, .c (.int .i64 0)]⟩]).seq (C.cond (.t 17)
  ((C.ops [⟨some 18, none, .mv, [.t 6]⟩, ⟨some 4, none, .nilo 0 1 9, []⟩, ⟨some 5, none, .mv, [.t 18]⟩]).seq C.ret) C.skip))).seq ((C.ops [⟨some 20, none, .mv, [.t 0]⟩, ⟨some 21,
  none, .mv, [.t 1]⟩, ⟨some 22, none, .call 44 false, [.t 20, .t 21]⟩, ⟨some 19, none, .mv, [.t 22]⟩, ⟨some 23, none, .ext 0, [.t 19]⟩, ⟨some 24, none, .ext 1, [.t 19]⟩, ⟨some 7,
  none, .mv, [.t 23]⟩, ⟨some 8, none, .mv, [.t 24]⟩]).seq ((C.ops [⟨some 9, none, .nilo 1 1 9, []⟩]).seq ((C.ops [⟨some 10, none, .mv, [.c (.int .i64 0)]⟩]).seq (((C.ops [⟨some 25,
  none, .mv, [.t 7]⟩, ⟨some 26, none, .mv, [.t 1]⟩, ⟨some 27, none, .slen, [.t 26]⟩, ⟨some 28, none, .bslc 2 1 1 3 [.int .i64 0] [(0, 1)], [.t 27]⟩, ⟨some 29, none, .app 3 1 3 8, [.t
  25, .t 28]⟩, ⟨some 30, none, .len, [.t 29]⟩, ⟨some 31, none, .mv, [.c (.int .i64 0)]⟩]).seq (C.block 0 ((C.ops [⟨some 32, none, .bin .lss, [.t 31, .t 30]⟩]).seq ((C.cond (.t 32)
  C.skip (C.exit 0)).seq ((C.block 1 ((C.ops [⟨some 33, none, .idxA 1, [.t 29, .t 31]⟩, ⟨some 34, none, .load none, [.t 33]⟩, ⟨some 12, none, .mv, [.t 34]⟩]).seq ((C.ops [⟨some 35,
  none, .mv, [.t 9]⟩, ⟨some 36, none, .mv, [.t 1]⟩, ⟨some 37, none, .mv, [.t 10]⟩, ⟨some 38, none, .mv, [.t 12]⟩, ⟨some 39, none, .sslc true true, [.t 36, .t 37, .t 38]⟩, ⟨some 40,
  none, .bslc 4 1 1 9 [.str []] [(0, 1)], [.t 39]⟩, ⟨some 41, none, .app 5 1 9 16, [.t 35, .t 40]⟩, ⟨some 9, none, .mv, [.t 41]⟩]).seq (C.ops [⟨some 42, none, .mv, [.t 12]⟩, ⟨some
  10, none, .mv, [.t 42]⟩])))).seq (C.ops [⟨some 43, none, .bin .add, [.t 31, .c (.int .i64 1)]⟩, ⟨some 31, none, .mv, [.t 43]⟩])))).loop)).seq ((C.ops [⟨some 44, none, .mv, [.t 9]⟩,
  ⟨some 4, none, .mv, [.t 44]⟩, ⟨some 5, none, .mv, [.c (.int .i64 0)]⟩]).seq
  C.ret)))))))
theorem fn30d : FnIs Tryd.prog 30 45 6 [RV.tmp 4, RV.tmp 5] c30d := ⟨Tryd.f30, Tryd.f30.body.getD .skip, [4, 9, 28, 29, 40, 41], [74, 97, 42, 44, 59, 48, 50, 52, 69, 81, 96], [], by kernel_rfl, by kernel_rfl, by kernel_rfl, by kernel_rfl, by kernel_rfl, by kernel_rfl, by kernel_rfl⟩
/-- apograph/apographref47.Split -/
def c31d : C :=
  ((C.ops [⟨some 4, none, .nilo 0 1 9, []⟩, ⟨some 5, none, .mv, [.c (.int .i64 0)]⟩]).seq ((C.ops [⟨some 12, none, .mv, [.t 0]⟩, ⟨some 13, none, .mv, [.t 1]⟩, ⟨some 14, none, .call
  29 true, [.t 12, .t 13]⟩, ⟨some 11, none, .mv, [.t 14]⟩, ⟨some 15, none, .ext 0, [.t 11]⟩, ⟨some 16, none, .ext 1, [.t 11]⟩, ⟨some 6, none, .mv, [.t 15]⟩, ⟨some 7, none, .mv, [.t
  16]⟩]).seq (((C.ops [⟨some 17, none, .mv, [.t 7]⟩, ⟨some 18, none, .bin .neq, [.t 17, .c (.int .i64 0)]⟩]).seq (C.cond (.t 18) ((C.ops [⟨some 19, none, .mv, [.t 7]⟩, ⟨some 4, none,
  .nilo 0 1 9, []⟩, ⟨some 5, none, .mv, [.t 19]⟩]).seq C.ret) C.skip)).seq ((C.ops [⟨some 8, none, .nilo 1 1 9, []⟩]).seq ((C.ops [⟨some 9, none, .mv, [.c (.int .i64 0)]⟩]).seq
  (((C.ops [⟨some 10, none, .mv, [.c (.int .i64 0)]⟩]).seq (C.block 0 (((C.ops [⟨some 20, none, .mv, [.t 10]⟩, ⟨some 21, none, .mv, [.t 6]⟩, ⟨some 22, none, .len, [.t 21]⟩, ⟨some 23,
  none, .bin .lss, [.t 20, .t 22]⟩]).seq (C.cond (.t 23) C.skip (C.exit 0))).seq ((C.block 1 ((C.ops [⟨some 26, none, .mv, [.t 8]⟩, ⟨some 27, none, .mv, [.t 1]⟩, ⟨some 28, none, .mv,
  [.t 9]⟩, ⟨some 29, none, .mv, [.t 6]⟩, ⟨some 30, none, .mv, [.t 10]⟩, ⟨some 31, none, .idxA 1, [.t 29, .t 30]⟩, ⟨some 32, none, .load none, [.t 31]⟩, ⟨some 33, none, .sslc true
  true, [.t 27, .t 28, .t 32]⟩, ⟨some 34, none, .bslc 2 1 1 9 [.str []] [(0, 1)], [.t 33]⟩, ⟨some 35, none, .app 3 1 9 16, [.t 26, .t 34]⟩, ⟨some 8, none, .mv, [.t 35]⟩]).seq (C.ops
  [⟨some 36, none, .mv, [.t 6]⟩, ⟨some 37, none, .mv, [.t 10]⟩, ⟨some 38, none, .idxA 1, [.t 36, .t 37]⟩, ⟨some 39, none, .load none, [.t 38]⟩, ⟨some 9, none, .mv, [.t 39]⟩]))).seq
  (C.ops [⟨some 24, none, .mv, [.t 10]⟩, ⟨some 25, none, .bin .add, [.t 24, .c (.int .i64 1)]⟩, ⟨some 10, none, .mv, [.t 25]⟩]))).loop)).seq ((C.ops [⟨some 40, none, .mv, [.t 8]⟩,
  ⟨some 41, none, .mv, [.t 1]⟩, ⟨some 42, none, .mv, [.t 9]⟩, ⟨some 43, none, .sslc true false, [.t 41, .t 42]⟩, ⟨some 44, none, .bslc 4 1 1 9 [.str []] [(0, 1)], [.t 43]⟩, ⟨some 45,
  none, .app 5 1 9 16, [.t 40, .t 44]⟩, ⟨some 4, none, .mv, [.t 45]⟩, ⟨some 5, none, .mv, [.c (.int .i64 0)]⟩]).seq
  C.ret)))))))
theorem fn31d : FnIs Tryd.prog 31 46 6 [RV.tmp 4, RV.tmp 5] c31d := ⟨Tryd.f31, Tryd.f31.body.getD .skip, [4, 8, 34, 35, 44, 45], [74, 97, 42, 44, 59, 48, 50, 52, 69, 81, 96], [], by kernel_rfl, by kernel_rfl, by kernel_rfl, by kernel_rfl, by kernel_rfl, by kernel_rfl, by kernel_rfl⟩
/-- apograph/hyphenation.Without -/
def c32d : C :=
  ((C.ops [⟨some 4, none, .nilo 0 2 32, []⟩, ⟨some 5, none, .mv, [.c (.int .i64 0)]⟩]).seq (((C.ops [⟨some 15, none, .mv, [.t 0]⟩, ⟨some 16, none, .mv, [.t 1]⟩, ⟨some 17, none, .call
  40 true, [.t 15, .t 16]⟩, ⟨some 6, none, .mv, [.t 17]⟩]).seq ((C.ops [⟨some 18, none, .mv, [.t 6]⟩, ⟨some 19, none, .bin .neq, [.t 18, .c (.int .i64 0)]⟩]).seq (C.cond (.t 19)
  ((C.ops [⟨some 20, none, .mv, [.t 6]⟩, ⟨some 4, none, .nilo 0 2 32, []⟩, ⟨some 5, none, .mv, [.t 20]⟩]).seq C.ret) C.skip))).seq ((C.ops [⟨some 22, none, .mv, [.t 0]⟩, ⟨some 23,
  none, .mv, [.t 1]⟩, ⟨some 24, none, .call 44 false, [.t 22, .t 23]⟩, ⟨some 21, none, .mv, [.t 24]⟩, ⟨some 25, none, .ext 0, [.t 21]⟩, ⟨some 26, none, .ext 1, [.t 21]⟩, ⟨some 7,
  none, .mv, [.t 25]⟩, ⟨some 8, none, .mv, [.t 26]⟩]).seq ((C.block 0 ((C.ops [⟨some 28, none, .mv, [.t 7]⟩, ⟨some 29, none, .len, [.t 28]⟩, ⟨some 30, none, .bin .eql, [.t 29, .c
  (.int .i64 0)]⟩, ⟨some 27, none, .mv, [.t 30]⟩]).seq (C.cond (.t 27) ((C.ops [⟨some 31, none, .mv, [.t 0]⟩, ⟨some 32, none, .call 59 false, [.t 31]⟩, ⟨some 4, none, .mv, [.t 32]⟩,
  ⟨some 5, none, .mv, [.c (.int .i64 0)]⟩]).seq C.ret) ((C.ops [⟨some 34, none, .mv, [.t 1]⟩, ⟨some 35, none, .call 60 true, [.t 34, .c (.fn (Fn.func 61) [] [])]⟩, ⟨some 33, none,
  .mv, [.t 35]⟩]).seq (C.cond (.t 33) ((C.ops [⟨some 4, none, .nilo 0 2 32, []⟩, ⟨some 5, none, .mv, [.c (.int .i64 11)]⟩]).seq C.ret) ((C.ops [⟨some 37, none, .mv, [.t 1]⟩, ⟨some
  38, none, .slen, [.t 37]⟩, ⟨some 39, none, .bin .gtr, [.t 38, .c (.int .i64 62)]⟩, ⟨some 40, none, .mv, [.t 39]⟩, ⟨some 41, some (40, false), .mv, [.t 8]⟩, ⟨some 42, some (40,
  false), .call 36 true, [.t 41, .c (.int .i64 9)]⟩, ⟨some 43, none, .pick, [.t 40, .c (.bool true), .t 42]⟩, ⟨some 44, none, .mv, [.t 43]⟩, ⟨some 45, some (44, false), .mv, [.t 0]⟩,
  ⟨some 46, some (44, false), .len, [.t 45]⟩, ⟨some 47, some (44, false), .bin .eql, [.t 46, .c (.int .i64 4096)]⟩, ⟨some 48, none, .pick, [.t 44, .c (.bool true), .t 47]⟩, ⟨some 36,
  none, .mv, [.t 48]⟩]).seq (C.cond (.t 36) ((C.ops [⟨some 4, none, .nilo 0 2 32, []⟩, ⟨some 5, none, .mv, [.c (.int .i64 4)]⟩]).seq C.ret) C.skip))))))).seq ((C.ops [⟨some 49, none,
  .mv, [.t 1]⟩, ⟨some 50, none, .call 62 true, [.t 49]⟩, ⟨some 9, none, .mv, [.t 50]⟩]).seq (C.bad.seq ((C.ops [⟨some 11, none, .mv, [.c (.int .i64 0)]⟩]).seq (((C.ops [⟨some 60,
  none, .mv, [.t 9]⟩, ⟨some 61, none, .len, [.t 60]⟩, ⟨some 62, none, .mv, [.c (.int .i64 0)]⟩]).seq (C.block 1 ((C.ops [⟨some 63, none, .bin .lss, [.t 62, .t 61]⟩]).seq ((C.cond (.t
  63) C.skip (C.exit 1)).seq ((C.block 2 ((C.ops [⟨some 64, none, .mv, [.t 62]⟩, ⟨some 65, none, .idxA 1, [.t 60, .t 62]⟩, ⟨some 66, none, .load none, [.t 65]⟩, ⟨some 12, none, .mv,
  [.t 64]⟩, ⟨some 13, none, .mv, [.t 66]⟩]).seq (((C.ops [⟨some 67, none, .mv, [.t 7]⟩, ⟨some 68, none, .mv, [.t 11]⟩, ⟨some 69, none, .call 63 true, [.t 67, .t 68]⟩, ⟨some 14, none,
  .mv, [.t 69]⟩]).seq ((C.ops [⟨some 70, none, .mv, [.t 14]⟩, ⟨some 71, none, .bin .geq, [.t 70, .c (.int .i64 0)]⟩]).seq (C.cond (.t 71) (C.ops [⟨some 72, none, .fldA 1, [.t 10]⟩,
  ⟨some 73, none, .load none, [.t 72]⟩, ⟨some 74, none, .mv, [.t 12]⟩, ⟨some 75, none, .bin .add, [.t 74, .c (.int .i64 1)]⟩, ⟨some 76, none, .mv, [.t 8]⟩, ⟨some 77, none, .mv, [.t
  14]⟩, ⟨some 78, none, .idxA 1, [.t 76, .t 77]⟩, ⟨some 79, none, .load none, [.t 78]⟩, ⟨some 80, none, .bin .add, [.t 79, .c (.int .i64 1)]⟩, ⟨some 81, none, .idxA 1, [.t 73, .t
  75]⟩, ⟨none, none, .store 1, [.t 81, .t 80]⟩]) C.skip))).seq (C.ops [⟨some 82, none, .mv, [.t 11]⟩, ⟨some 83, none, .mv, [.t 13]⟩, ⟨some 84, none, .slen, [.t 83]⟩, ⟨some 85, none,
  .bin .add, [.t 82, .t 84]⟩, ⟨some 11, none, .mv, [.t 85]⟩])))).seq (C.ops [⟨some 86, none, .bin .add, [.t 62, .c (.int .i64 1)]⟩, ⟨some 62, none, .mv, [.t 86]⟩])))).loop)).seq
  (C.bad.seq
  C.ret)))))))))
theorem fn32d : FnIs Tryd.prog 32 92 5 [RV.tmp 4, RV.tmp 5] c32d := ⟨Tryd.f32, Tryd.f32.body.getD .skip, [4, 58, 10, 90, 91], [74, 97, 42, 44, 59, 48, 50, 52, 69, 81, 96], [], by kernel_rfl, by kernel_rfl, by kernel_rfl, by kernel_rfl, by kernel_rfl, by kernel_rfl, by kernel_rfl⟩
/-- apograph/apographref47.Without -/
def c33d : C :=
  ((C.ops [⟨some 4, none, .nilo 0 2 32, []⟩, ⟨some 5, none, .mv, [.c (.int .i64 0)]⟩]).seq ((C.ops [⟨some 17, none, .mv, [.t 0]⟩, ⟨some 18, none, .mv, [.t 1]⟩, ⟨some 19, none, .call
  29 true, [.t 17, .t 18]⟩, ⟨some 16, none, .mv, [.t 19]⟩, ⟨some 20, none, .ext 0, [.t 16]⟩, ⟨some 21, none, .ext 1, [.t 16]⟩, ⟨some 6, none, .mv, [.t 20]⟩, ⟨some 7, none, .mv, [.t
  21]⟩]).seq (((C.ops [⟨some 22, none, .mv, [.t 7]⟩, ⟨some 23, none, .bin .neq, [.t 22, .c (.int .i64 0)]⟩]).seq (C.cond (.t 23) ((C.ops [⟨some 24, none, .mv, [.t 7]⟩, ⟨some 4, none,
  .nilo 0 2 32, []⟩, ⟨some 5, none, .mv, [.t 24]⟩]).seq C.ret) C.skip)).seq (((C.ops [⟨some 25, none, .mv, [.t 6]⟩, ⟨some 26, none, .len, [.t 25]⟩, ⟨some 27, none, .bin .eql, [.t 26,
  .c (.int .i64 0)]⟩]).seq (C.cond (.t 27) ((C.ops [⟨some 28, none, .mv, [.t 0]⟩, ⟨some 4, none, .mv, [.t 28]⟩, ⟨some 5, none, .mv, [.c (.int .i64 0)]⟩]).seq C.ret) C.skip)).seq
  (((C.ops [⟨some 8, none, .mv, [.c (.int .i64 0)]⟩]).seq (C.block 0 (((C.ops [⟨some 29, none, .mv, [.t 8]⟩, ⟨some 30, none, .mv, [.t 1]⟩, ⟨some 31, none, .slen, [.t 30]⟩, ⟨some 32,
  none, .bin .lss, [.t 29, .t 31]⟩]).seq (C.cond (.t 32) C.skip (C.exit 0))).seq ((C.block 1 ((C.ops [⟨some 35, none, .mv, [.t 1]⟩, ⟨some 36, none, .mv, [.t 8]⟩, ⟨some 37, none,
  .sidx, [.t 35, .t 36]⟩, ⟨some 38, none, .call 64 true, [.t 37]⟩]).seq (C.cond (.t 38) ((C.ops [⟨some 4, none, .nilo 0 2 32, []⟩, ⟨some 5, none, .mv, [.c (.int .i64 11)]⟩]).seq
  C.ret) C.skip))).seq (C.ops [⟨some 33, none, .mv, [.t 8]⟩, ⟨some 34, none, .bin .add, [.t 33, .c (.int .i64 1)]⟩, ⟨some 8, none, .mv, [.t 34]⟩]))).loop)).seq ((C.ops [⟨some 39,
  none, .mv, [.t 1]⟩, ⟨some 40, none, .call 53 true, [.t 39]⟩, ⟨some 41, none, .mv, [.t 0]⟩, ⟨some 42, none, .mv, [.t 1]⟩, ⟨some 43, none, .call 58 true, [.t 41, .t 42]⟩, ⟨some 9,
  none, .mv, [.t 40]⟩, ⟨some 10, none, .mv, [.t 43]⟩]).seq (C.bad.seq ((C.ops [⟨some 12, none, .mv, [.c (.int .i64 0)]⟩]).seq (((C.ops [⟨some 13, none, .mv, [.c (.int .i64 0)]⟩]).seq
  (C.block 2 (((C.ops [⟨some 53, none, .mv, [.t 13]⟩, ⟨some 54, none, .mv, [.t 9]⟩, ⟨some 55, none, .len, [.t 54]⟩, ⟨some 56, none, .bin .lss, [.t 53, .t 55]⟩]).seq (C.cond (.t 56)
  C.skip (C.exit 2))).seq ((C.block 3 (((C.ops [⟨some 14, none, .mv, [.c (.int .i64 0)]⟩]).seq (C.block 4 (((C.ops [⟨some 59, none, .mv, [.t 14]⟩, ⟨some 60, none, .mv, [.t 6]⟩, ⟨some
  61, none, .len, [.t 60]⟩, ⟨some 62, none, .bin .lss, [.t 59, .t 61]⟩]).seq (C.cond (.t 62) C.skip (C.exit 4))).seq ((C.block 5 ((C.ops [⟨some 65, none, .mv, [.t 6]⟩, ⟨some 66,
  none, .mv, [.t 14]⟩, ⟨some 67, none, .idxA 1, [.t 65, .t 66]⟩, ⟨some 68, none, .load none, [.t 67]⟩, ⟨some 69, none, .mv, [.t 12]⟩, ⟨some 70, none, .bin .eql, [.t 68, .t 69]⟩]).seq
  (C.cond (.t 70) (C.ops [⟨some 71, none, .fldA 1, [.t 11]⟩, ⟨some 72, none, .load none, [.t 71]⟩, ⟨some 73, none, .mv, [.t 13]⟩, ⟨some 74, none, .bin .add, [.t 73, .c (.int .i64
  1)]⟩, ⟨some 75, none, .mv, [.t 10]⟩, ⟨some 76, none, .mv, [.t 13]⟩, ⟨some 77, none, .bin .sub, [.t 76, .c (.int .i64 1)]⟩, ⟨some 78, none, .idxA 1, [.t 75, .t 77]⟩, ⟨some 79, none,
  .load none, [.t 78]⟩, ⟨some 80, none, .bin .add, [.t 79, .c (.int .i64 1)]⟩, ⟨some 81, none, .idxA 1, [.t 72, .t 74]⟩, ⟨none, none, .store 1, [.t 81, .t 80]⟩]) C.skip))).seq (C.ops
  [⟨some 63, none, .mv, [.t 14]⟩, ⟨some 64, none, .bin .add, [.t 63, .c (.int .i64 1)]⟩, ⟨some 14, none, .mv, [.t 64]⟩]))).loop)).seq (C.ops [⟨some 82, none, .mv, [.t 12]⟩, ⟨some 83,
  none, .mv, [.t 9]⟩, ⟨some 84, none, .mv, [.t 13]⟩, ⟨some 85, none, .idxA 1, [.t 83, .t 84]⟩, ⟨some 86, none, .load none, [.t 85]⟩, ⟨some 87, none, .slen, [.t 86]⟩, ⟨some 88, none,
  .bin .add, [.t 82, .t 87]⟩, ⟨some 12, none, .mv, [.t 88]⟩]))).seq (C.ops [⟨some 57, none, .mv, [.t 13]⟩, ⟨some 58, none, .bin .add, [.t 57, .c (.int .i64 1)]⟩, ⟨some 13, none, .mv,
  [.t 58]⟩]))).loop)).seq (((C.ops [⟨some 15, none, .mv, [.c (.int .i64 0)]⟩]).seq (C.block 6 (((C.ops [⟨some 89, none, .mv, [.t 15]⟩, ⟨some 90, none, .fldA 1, [.t 11]⟩, ⟨some 91,
  none, .load none, [.t 90]⟩, ⟨some 92, none, .len, [.t 91]⟩, ⟨some 93, none, .bin .lss, [.t 89, .t 92]⟩]).seq (C.cond (.t 93) C.skip (C.exit 6))).seq ((C.block 7 ((C.ops [⟨some 96,
  none, .fldA 1, [.t 11]⟩, ⟨some 97, none, .load none, [.t 96]⟩, ⟨some 98, none, .mv, [.t 15]⟩, ⟨some 99, none, .idxA 1, [.t 97, .t 98]⟩, ⟨some 100, none, .load none, [.t 99]⟩, ⟨some
  101, none, .bin .gtr, [.t 100, .c (.int .i64 9)]⟩]).seq (C.cond (.t 101) ((C.ops [⟨some 4, none, .nilo 0 2 32, []⟩, ⟨some 5, none, .mv, [.c (.int .i64 4)]⟩]).seq C.ret)
  C.skip))).seq (C.ops [⟨some 94, none, .mv, [.t 15]⟩, ⟨some 95, none, .bin .add, [.t 94, .c (.int .i64 1)]⟩, ⟨some 15, none, .mv, [.t 95]⟩]))).loop)).seq (((C.ops [⟨some 102, none,
  .fldA 0, [.t 11]⟩, ⟨some 103, none, .load none, [.t 102]⟩, ⟨some 104, none, .slen, [.t 103]⟩, ⟨some 105, none, .bin .gtr, [.t 104, .c (.int .i64 64)]⟩, ⟨some 106, none, .mv, [.t
  105]⟩, ⟨some 107, some (106, false), .mv, [.t 0]⟩, ⟨some 108, some (106, false), .len, [.t 107]⟩, ⟨some 109, some (106, false), .bin .geq, [.t 108, .c (.int .i64 4096)]⟩, ⟨some
  110, none, .pick, [.t 106, .c (.bool true), .t 109]⟩]).seq (C.cond (.t 110) ((C.ops [⟨some 4, none, .nilo 0 2 32, []⟩, ⟨some 5, none, .mv, [.c (.int .i64 4)]⟩]).seq C.ret)
  C.skip)).seq (C.bad.seq
  C.ret))))))))))))
theorem fn33d : FnIs Tryd.prog 33 117 7 [RV.tmp 4, RV.tmp 5] c33d := ⟨Tryd.f33, Tryd.f33.body.getD .skip, [4, 51, 11, 111, 113, 115, 116], [74, 97, 42, 44, 59, 48, 50, 52, 69, 81, 96], [], by kernel_rfl, by kernel_rfl, by kernel_rfl, by kernel_rfl, by kernel_rfl, by kernel_rfl, by kernel_rfl⟩
/-- slices.Equal[[]string,string] -/
def c34d : C :=
  ((C.ops [⟨some 4, none, .mv, [.c (.bool false)]⟩]).seq (((C.ops [⟨some 6, none, .mv, [.t 0]⟩, ⟨some 7, none, .len, [.t 6]⟩, ⟨some 8, none, .mv, [.t 1]⟩, ⟨some 9, none, .len, [.t
  8]⟩, ⟨some 10, none, .bin .neq, [.t 7, .t 9]⟩]).seq (C.cond (.t 10) ((C.ops [⟨some 4, none, .mv, [.c (.bool false)]⟩]).seq C.ret) C.skip)).seq (((C.ops [⟨some 11, none, .mv, [.t
  0]⟩, ⟨some 12, none, .len, [.t 11]⟩, ⟨some 13, none, .mv, [.c (.int .i64 0)]⟩]).seq (C.block 0 ((C.ops [⟨some 14, none, .bin .lss, [.t 13, .t 12]⟩]).seq ((C.cond (.t 14) C.skip
  (C.exit 0)).seq ((C.block 1 ((C.ops [⟨some 15, none, .mv, [.t 13]⟩, ⟨some 5, none, .mv, [.t 15]⟩]).seq ((C.ops [⟨some 16, none, .mv, [.t 0]⟩, ⟨some 17, none, .mv, [.t 5]⟩, ⟨some
  18, none, .idxA 1, [.t 16, .t 17]⟩, ⟨some 19, none, .load none, [.t 18]⟩, ⟨some 20, none, .mv, [.t 1]⟩, ⟨some 21, none, .mv, [.t 5]⟩, ⟨some 22, none, .idxA 1, [.t 20, .t 21]⟩,
  ⟨some 23, none, .load none, [.t 22]⟩, ⟨some 24, none, .bin .neq, [.t 19, .t 23]⟩]).seq (C.cond (.t 24) ((C.ops [⟨some 4, none, .mv, [.c (.bool false)]⟩]).seq C.ret) C.skip)))).seq
  (C.ops [⟨some 25, none, .bin .add, [.t 13, .c (.int .i64 1)]⟩, ⟨some 13, none, .mv, [.t 25]⟩])))).loop)).seq ((C.ops [⟨some 4, none, .mv, [.c (.bool true)]⟩]).seq
  C.ret))))
theorem fn34d : FnIs Tryd.prog 34 26 0 [RV.tmp 4] c34d := ⟨Tryd.f34, Tryd.f34.body.getD .skip, [], [74, 97, 42, 44, 59, 48, 50, 52, 69, 81, 96], [], by kernel_rfl, by kernel_rfl, by kernel_rfl, by kernel_rfl, by kernel_rfl, by kernel_rfl, by kernel_rfl⟩
/-- apograph/apographlaw47.some -/
def c35d : C :=
  ((C.ops [⟨some 3, none, .box 0 9, [.t 1]⟩, ⟨some 4, none, .mv, [.c (.bool false)]⟩]).seq ((C.ops [⟨some 5, none, .mv, [.t 0]⟩, ⟨some 6, none, .s2b, [.t 5]⟩, ⟨some 7, none, .mkfn
  (Fn.func 67) 0, [.t 3]⟩, ⟨some 8, none, .call 66 true, [.t 6, .t 7]⟩, ⟨some 4, none, .mv, [.t 8]⟩]).seq
  C.ret))
theorem fn35d : FnIs Tryd.prog 35 9 1 [RV.tmp 4] c35d := ⟨Tryd.f35, Tryd.f35.body.getD .skip, [3], [74, 97, 42, 44, 59, 48, 50, 52, 69, 81, 96], [], by kernel_rfl, by kernel_rfl, by kernel_rfl, by kernel_rfl, by kernel_rfl, by kernel_rfl, by kernel_rfl⟩
/-- slices.Contains[[]int,int] -/
def c36d : C :=
  ((C.ops [⟨some 4, none, .mv, [.c (.bool false)]⟩]).seq ((C.ops [⟨some 5, none, .mv, [.t 0]⟩, ⟨some 6, none, .mv, [.t 1]⟩, ⟨some 7, none, .call 63 true, [.t 5, .t 6]⟩, ⟨some 8,
  none, .bin .geq, [.t 7, .c (.int .i64 0)]⟩, ⟨some 4, none, .mv, [.t 8]⟩]).seq
  C.ret))
theorem fn36d : FnIs Tryd.prog 36 9 0 [RV.tmp 4] c36d := ⟨Tryd.f36, Tryd.f36.body.getD .skip, [], [74, 97, 42, 44, 59, 48, 50, 52, 69, 81, 96], [], by kernel_rfl, by kernel_rfl, by kernel_rfl, by kernel_rfl, by kernel_rfl, by kernel_rfl, by kernel_rfl⟩
/-- strings.Join -/
def c37d : C :=
  ((C.ops [⟨some 4, none, .mv, [.c (.str [])]⟩]).seq (((C.ops [⟨some 11, none, .mv, [.t 0]⟩, ⟨some 12, none, .len, [.t 11]⟩]).seq (C.block 0 ((C.ops [⟨some 14, none, .bin .eql, [.t
  12, .c (.int .i64 0)]⟩, ⟨some 13, none, .mv, [.t 14]⟩]).seq (C.cond (.t 13) ((C.ops [⟨some 4, none, .mv, [.c (.str [])]⟩]).seq C.ret) ((C.ops [⟨some 16, none, .bin .eql, [.t 12, .c
  (.int .i64 1)]⟩, ⟨some 15, none, .mv, [.t 16]⟩]).seq (C.cond (.t 15) ((C.ops [⟨some 17, none, .mv, [.t 0]⟩, ⟨some 18, none, .idxA 1, [.t 17, .c (.int .i64 0)]⟩, ⟨some 19, none,
  .load none, [.t 18]⟩, ⟨some 4, none, .mv, [.t 19]⟩]).seq C.ret) C.skip)))))).seq ((C.ops [⟨some 5, none, .mv, [.c (.int .i64 0)]⟩]).seq (((C.ops [⟨some 20, none, .mv, [.t 1]⟩,
  ⟨some 21, none, .slen, [.t 20]⟩, ⟨some 22, none, .bin .gtr, [.t 21, .c (.int .i64 0)]⟩]).seq (C.cond (.t 22) (((C.ops [⟨some 23, none, .mv, [.t 1]⟩, ⟨some 24, none, .slen, [.t
  23]⟩, ⟨some 25, none, .mv, [.t 0]⟩, ⟨some 26, none, .len, [.t 25]⟩, ⟨some 27, none, .bin .sub, [.t 26, .c (.int .i64 1)]⟩, ⟨some 28, none, .bin .quo, [.c (.int .i64
  9223372036854775807), .t 27]⟩, ⟨some 29, none, .bin .geq, [.t 24, .t 28]⟩]).seq (C.cond (.t 29) C.bad C.skip)).seq (C.ops [⟨some 31, none, .mv, [.t 5]⟩, ⟨some 32, none, .mv, [.t
  1]⟩, ⟨some 33, none, .slen, [.t 32]⟩, ⟨some 34, none, .mv, [.t 0]⟩, ⟨some 35, none, .len, [.t 34]⟩, ⟨some 36, none, .bin .sub, [.t 35, .c (.int .i64 1)]⟩, ⟨some 37, none, .bin
  .mul, [.t 33, .t 36]⟩, ⟨some 38, none, .bin .add, [.t 31, .t 37]⟩, ⟨some 5, none, .mv, [.t 38]⟩])) C.skip)).seq (((C.ops [⟨some 39, none, .mv, [.t 0]⟩, ⟨some 40, none, .len, [.t
  39]⟩, ⟨some 41, none, .mv, [.c (.int .i64 0)]⟩]).seq (C.block 1 ((C.ops [⟨some 42, none, .bin .lss, [.t 41, .t 40]⟩]).seq ((C.cond (.t 42) C.skip (C.exit 1)).seq ((C.block 2
  ((C.ops [⟨some 43, none, .idxA 1, [.t 39, .t 41]⟩, ⟨some 44, none, .load none, [.t 43]⟩, ⟨some 7, none, .mv, [.t 44]⟩]).seq (((C.ops [⟨some 45, none, .mv, [.t 7]⟩, ⟨some 46, none,
  .slen, [.t 45]⟩, ⟨some 47, none, .mv, [.t 5]⟩, ⟨some 48, none, .bin .sub, [.c (.int .i64 9223372036854775807), .t 47]⟩, ⟨some 49, none, .bin .gtr, [.t 46, .t 48]⟩]).seq (C.cond (.t
  49) C.bad C.skip)).seq (C.ops [⟨some 51, none, .mv, [.t 5]⟩, ⟨some 52, none, .mv, [.t 7]⟩, ⟨some 53, none, .slen, [.t 52]⟩, ⟨some 54, none, .bin .add, [.t 51, .t 53]⟩, ⟨some 5,
  none, .mv, [.t 54]⟩])))).seq (C.ops [⟨some 55, none, .bin .add, [.t 41, .c (.int .i64 1)]⟩, ⟨some 41, none, .mv, [.t 55]⟩])))).loop)).seq ((C.ops [⟨some 8, none, .alloc 0 69
  [.nilp, .nl], []⟩]).seq ((C.ops [⟨some 56, none, .mv, [.t 5]⟩, ⟨some 57, none, .call 69 false, [.t 8, .t 56]⟩]).seq ((C.ops [⟨some 58, none, .mv, [.t 0]⟩, ⟨some 59, none, .idxA 1,
  [.t 58, .c (.int .i64 0)]⟩, ⟨some 60, none, .load none, [.t 59]⟩, ⟨some 61, none, .call 50 false, [.t 8, .t 60]⟩]).seq (((C.ops [⟨some 62, none, .mv, [.t 0]⟩, ⟨some 63, none, .slc
  1 true false, [.t 62, .c (.int .i64 1)]⟩, ⟨some 64, none, .len, [.t 63]⟩, ⟨some 65, none, .mv, [.c (.int .i64 0)]⟩]).seq (C.block 3 ((C.ops [⟨some 66, none, .bin .lss, [.t 65, .t
  64]⟩]).seq ((C.cond (.t 66) C.skip (C.exit 3)).seq ((C.block 4 ((C.ops [⟨some 67, none, .idxA 1, [.t 63, .t 65]⟩, ⟨some 68, none, .load none, [.t 67]⟩, ⟨some 10, none, .mv, [.t
  68]⟩]).seq ((C.ops [⟨some 69, none, .mv, [.t 1]⟩, ⟨some 70, none, .call 50 false, [.t 8, .t 69]⟩]).seq (C.ops [⟨some 71, none, .mv, [.t 10]⟩, ⟨some 72, none, .call 50 false, [.t 8,
  .t 71]⟩])))).seq (C.ops [⟨some 73, none, .bin .add, [.t 65, .c (.int .i64 1)]⟩, ⟨some 65, none, .mv, [.t 73]⟩])))).loop)).seq ((C.ops [⟨some 74, none, .call 52 false, [.t 8]⟩,
  ⟨some 4, none, .mv, [.t 74]⟩]).seq
  C.ret))))))))))
theorem fn37d : FnIs Tryd.prog 37 75 1 [RV.tmp 4] c37d := ⟨Tryd.f37, Tryd.f37.body.getD .skip, [8], [74, 97, 42, 44, 59, 48, 50, 52, 69, 81, 96], [], by kernel_rfl, by kernel_rfl, by kernel_rfl, by kernel_rfl, by kernel_rfl, by kernel_rfl, by kernel_rfl⟩
/-- apograph/charset.IsWord -/
def c38d : C :=
  ((C.ops [⟨some 2, none, .mv, [.c (.bool false)]⟩]).seq (((C.ops [⟨some 4, none, .mv, [.t 0]⟩, ⟨some 5, none, .bin .eql, [.t 4, .c (.str [])]⟩, ⟨some 6, none, .mv, [.t 5]⟩, ⟨some 7,
  some (6, false), .mv, [.t 0]⟩, ⟨some 8, some (6, false), .slen, [.t 7]⟩, ⟨some 9, some (6, false), .bin .gtr, [.t 8, .c (.int .i64 64)]⟩, ⟨some 10, none, .pick, [.t 6, .c (.bool
  true), .t 9]⟩, ⟨some 11, none, .mv, [.t 10]⟩, ⟨some 12, some (11, false), .mv, [.t 0]⟩, ⟨some 13, some (11, false), .call 70 true, [.t 12]⟩, ⟨some 14, some (11, false), .bin .neq,
  [.t 13, .c (.int .i64 0)]⟩, ⟨some 15, none, .pick, [.t 11, .c (.bool true), .t 14]⟩]).seq (C.cond (.t 15) ((C.ops [⟨some 2, none, .mv, [.c (.bool false)]⟩]).seq C.ret) C.skip)).seq
  (((C.ops [⟨some 16, none, .mv, [.t 0]⟩, ⟨some 17, none, .sidx, [.t 16, .c (.int .i64 0)]⟩, ⟨some 18, none, .call 71 true, [.t 17]⟩, ⟨some 3, none, .mv, [.t 18]⟩]).seq ((C.ops
  [⟨some 19, none, .mv, [.t 3]⟩, ⟨some 20, none, .bin .neq, [.t 19, .c (.int .i64 1)]⟩, ⟨some 21, none, .mv, [.t 20]⟩, ⟨some 22, some (21, true), .mv, [.t 3]⟩, ⟨some 23, some (21,
  true), .bin .neq, [.t 22, .c (.int .i64 3)]⟩, ⟨some 24, none, .pick, [.t 21, .t 23, .c (.bool false)]⟩]).seq (C.cond (.t 24) ((C.ops [⟨some 2, none, .mv, [.c (.bool false)]⟩]).seq
  C.ret) C.skip))).seq ((C.ops [⟨some 25, none, .mv, [.t 0]⟩, ⟨some 26, none, .s2b, [.t 25]⟩, ⟨some 27, none, .call 66 true, [.t 26, .c (.fn (Fn.func 72) [] [])]⟩, ⟨some 28, none,
  .un UnOp.not, [.t 27]⟩, ⟨some 2, none, .mv, [.t 28]⟩]).seq
  C.ret))))
theorem fn38d : FnIs Tryd.prog 38 29 0 [RV.tmp 2] c38d := ⟨Tryd.f38, Tryd.f38.body.getD .skip, [], [74, 97, 42, 44, 59, 48, 50, 52, 69, 81, 96], [], by kernel_rfl, by kernel_rfl, by kernel_rfl, by kernel_rfl, by kernel_rfl, by kernel_rfl, by kernel_rfl⟩
/-- apograph/apographlaw47.example -/
def c39d : C :=
  ((C.ops [⟨some 0, none, .nilo 0 2 32, []⟩]).seq ((C.ops [⟨some 1, none, .bslc 1 1 3 3 [.int .i64 0] [(0, 1), (1, 1), (2, 1)], [.c (.int .i64 0), .c (.int .i64 1), .c (.int .i64
  0)]⟩, ⟨some 2, none, .build [.str [], .nl] [(0, 1), (1, 1)], [.c (.str [97, 98]), .t 1]⟩, ⟨some 3, none, .bslc 2 1 6 3 [.int .i64 0] [(0, 1), (1, 1), (2, 1), (3, 1), (4, 1), (5,
  1)], [.c (.int .i64 0), .c (.int .i64 0), .c (.int .i64 2), .c (.int .i64 3), .c (.int .i64 0), .c (.int .i64 0)]⟩, ⟨some 4, none, .build [.str [], .nl] [(0, 1), (1, 1)], [.c (.str
  [46, 99, 100, 101, 46]), .t 3]⟩, ⟨some 5, none, .bslc 3 2 2 32 [.str [], .nl] [(0, 2), (2, 2)], [.t 2, .t 4]⟩, ⟨some 0, none, .mv, [.t 5]⟩]).seq
  C.ret))
theorem fn39d : FnIs Tryd.prog 39 6 4 [RV.tmp 0] c39d := ⟨Tryd.f39, Tryd.f39.body.getD .skip, [0, 1, 3, 5], [74, 97, 42, 44, 59, 48, 50, 52, 69, 81, 96], [], by kernel_rfl, by kernel_rfl, by kernel_rfl, by kernel_rfl, by kernel_rfl, by kernel_rfl, by kernel_rfl⟩
/-- apograph/hyphenation.check -/
def c40d : C :=
  ((C.ops [⟨some 4, none, .mv, [.c (.int .i64 0)]⟩]).seq ((C.block 0 ((C.ops [⟨some 6, none, .mv, [.t 0]⟩, ⟨some 7, none, .call 25 true, [.t 6]⟩, ⟨some 8, none, .bin .neq, [.t 7, .c
  (.int .i64 0)]⟩, ⟨some 5, none, .mv, [.t 8]⟩]).seq (C.cond (.t 5) ((C.ops [⟨some 4, none, .mv, [.c (.int .i64 1)]⟩]).seq C.ret) ((C.ops [⟨some 10, none, .mv, [.t 1]⟩, ⟨some 11,
  none, .call 38 true, [.t 10]⟩, ⟨some 12, none, .un UnOp.not, [.t 11]⟩, ⟨some 9, none, .mv, [.t 12]⟩]).seq (C.cond (.t 9) ((C.ops [⟨some 4, none, .mv, [.c (.int .i64 11)]⟩]).seq
  C.ret) C.skip))))).seq ((C.ops [⟨some 4, none, .mv, [.c (.int .i64 0)]⟩]).seq
  C.ret)))
theorem fn40d : FnIs Tryd.prog 40 13 0 [RV.tmp 4] c40d := ⟨Tryd.f40, Tryd.f40.body.getD .skip, [], [74, 97, 42, 44, 59, 48, 50, 52, 69, 81, 96], [], by kernel_rfl, by kernel_rfl, by kernel_rfl, by kernel_rfl, by kernel_rfl, by kernel_rfl, by kernel_rfl⟩
/-- apograph/hyphenation.levels -/
def c41d : C :=
  ((C.ops [⟨some 4, none, .nilo 0 1 3, []⟩]).seq ((C.ops [⟨some 13, none, .bslc 1 1 1 9 [.str []] [(0, 1)], [.c (.str [46])]⟩, ⟨some 14, none, .mv, [.t 1]⟩, ⟨some 15, none, .call 62
  true, [.t 14]⟩, ⟨some 16, none, .bslc 2 1 1 9 [.str []] [(0, 1)], [.c (.str [46])]⟩, ⟨some 17, none, .bslc 3 1 3 33 [.nl] [(0, 1), (1, 1), (2, 1)], [.t 13, .t 15, .t 16]⟩, ⟨some
  18, none, .call 73 true, [.t 17]⟩, ⟨some 5, none, .mv, [.t 18]⟩]).seq ((C.ops [⟨some 19, none, .mv, [.t 5]⟩, ⟨some 20, none, .len, [.t 19]⟩, ⟨some 21, none, .bin .add, [.t 20, .c
  (.int .i64 1)]⟩, ⟨some 22, none, .mkslc 4 1 3 [.int .i64 0] 8, [.t 21, .t 21]⟩, ⟨some 6, none, .alloc 5 26 [.nl], []⟩, ⟨none, none, .store 1, [.t 6, .t 22]⟩]).seq ((C.ops [⟨some
  23, none, .mkfn (Fn.func 74) 0, [.t 6]⟩, ⟨some 7, none, .alloc 6 89 [.nilfn], []⟩, ⟨none, none, .store 1, [.t 7, .t 23]⟩]).seq (((C.ops [⟨some 24, none, .mv, [.t 0]⟩, ⟨some 25,
  none, .len, [.t 24]⟩, ⟨some 26, none, .mv, [.c (.int .i64 0)]⟩]).seq (C.block 0 ((C.ops [⟨some 27, none, .bin .lss, [.t 26, .t 25]⟩]).seq ((C.cond (.t 27) C.skip (C.exit 0)).seq
  ((C.block 1 ((C.ops [⟨some 28, none, .idxA 2, [.t 24, .t 26]⟩, ⟨some 29, none, .load (some 2), [.t 28]⟩, ⟨some 9, none, .alloc 7 32 [.str [], .nl], []⟩, ⟨none, none, .store 2, [.t
  9, .t 29]⟩]).seq ((C.ops [⟨some 30, none, .fldA 0, [.t 9]⟩, ⟨some 31, none, .load none, [.t 30]⟩, ⟨some 32, none, .call 62 true, [.t 31]⟩, ⟨some 33, none, .mv, [.t 5]⟩, ⟨some 34,
  none, .call 75 true, [.t 32, .t 33]⟩]).seq (C.block 2 (C.range (.t 34) [35] (C.ops [⟨some 10, none, .mv, [.t 35]⟩]) (C.block 3 ((C.ops [⟨some 36, none, .fldA 1, [.t 9]⟩, ⟨some 37,
  none, .load none, [.t 36]⟩, ⟨some 38, none, .len, [.t 37]⟩, ⟨some 39, none, .mv, [.c (.int .i64 0)]⟩]).seq (C.block 4 ((C.ops [⟨some 40, none, .bin .lss, [.t 39, .t 38]⟩]).seq
  ((C.cond (.t 40) C.skip (C.exit 4)).seq ((C.block 5 ((C.ops [⟨some 41, none, .mv, [.t 39]⟩, ⟨some 42, none, .idxA 1, [.t 37, .t 39]⟩, ⟨some 43, none, .load none, [.t 42]⟩, ⟨some
  11, none, .mv, [.t 41]⟩, ⟨some 12, none, .mv, [.t 43]⟩]).seq (C.ops [⟨some 44, none, .load none, [.t 7]⟩, ⟨some 45, none, .mv, [.t 10]⟩, ⟨some 46, none, .mv, [.t 11]⟩, ⟨some 47,
  none, .bin .add, [.t 45, .t 46]⟩, ⟨some 48, none, .mv, [.t 12]⟩, ⟨some 49, none, .callv, [.t 44, .t 47, .t 48]⟩]))).seq (C.ops [⟨some 50, none, .bin .add, [.t 39, .c (.int .i64
  1)]⟩, ⟨some 39, none, .mv, [.t 50]⟩])))).loop)))))))).seq (C.ops [⟨some 51, none, .bin .add, [.t 26, .c (.int .i64 1)]⟩, ⟨some 26, none, .mv, [.t 51]⟩])))).loop)).seq ((C.ops
  [⟨some 52, none, .load none, [.t 6]⟩, ⟨some 53, none, .mv, [.t 5]⟩, ⟨some 54, none, .len, [.t 53]⟩, ⟨some 55, none, .bin .sub, [.t 54, .c (.int .i64 1)]⟩, ⟨some 56, none, .slc 1
  true true, [.t 52, .c (.int .i64 2), .t 55]⟩, ⟨some 4, none, .mv, [.t 56]⟩]).seq
  C.ret))))))
theorem fn41d : FnIs Tryd.prog 41 57 8 [RV.tmp 4] c41d := ⟨Tryd.f41, Tryd.f41.body.getD .skip, [4, 13, 16, 17, 22, 6, 7, 9], [74, 97, 42, 44, 59, 48, 50, 52, 69, 81, 96], [], by kernel_rfl, by kernel_rfl, by kernel_rfl, by kernel_rfl, by kernel_rfl, by kernel_rfl, by kernel_rfl⟩
/-- slices.Grow[[]apograph/api.Pattern,apograph/api.Pattern] -/
def c42d : C :=
  ((C.ops [⟨some 4, none, .nilo 0 2 32, []⟩]).seq (((C.ops [⟨some 5, none, .mv, [.t 1]⟩, ⟨some 6, none, .bin .lss, [.t 5, .c (.int .i64 0)]⟩]).seq (C.cond (.t 6) C.bad C.skip)).seq
  (((C.ops [⟨some 8, none, .mv, [.t 1]⟩, ⟨some 9, none, .mv, [.t 0]⟩, ⟨some 10, none, .cap, [.t 9]⟩, ⟨some 11, none, .mv, [.t 0]⟩, ⟨some 12, none, .len, [.t 11]⟩, ⟨some 13, none,
  .bin .sub, [.t 10, .t 12]⟩, ⟨some 14, none, .bin .sub, [.t 8, .t 13]⟩, ⟨some 1, none, .mv, [.t 14]⟩]).seq ((C.ops [⟨some 15, none, .mv, [.t 1]⟩, ⟨some 16, none, .bin .gtr, [.t 15,
  .c (.int .i64 0)]⟩]).seq (C.cond (.t 16) (C.ops [⟨some 17, none, .mv, [.t 0]⟩, ⟨some 18, none, .mv, [.t 0]⟩, ⟨some 19, none, .cap, [.t 18]⟩, ⟨some 20, none, .slc 2 false true, [.t
  17, .t 19]⟩, ⟨some 21, none, .mv, [.t 1]⟩, ⟨some 22, none, .appz 1 2 32 [.str [], .nl] 40, [.t 20, .t 21]⟩, ⟨some 23, none, .mv, [.t 0]⟩, ⟨some 24, none, .len, [.t 23]⟩, ⟨some 25,
  none, .slc 2 false true, [.t 22, .t 24]⟩, ⟨some 0, none, .mv, [.t 25]⟩]) C.skip))).seq ((C.ops [⟨some 26, none, .mv, [.t 0]⟩, ⟨some 4, none, .mv, [.t 26]⟩]).seq
  C.ret))))
theorem fn42d : FnIs Tryd.prog 42 27 2 [RV.tmp 4] c42d := ⟨Tryd.f42, Tryd.f42.body.getD .skip, [4, 22], [74, 97, 42, 44, 59, 48, 50, 52, 69, 81, 96], [], by kernel_rfl, by kernel_rfl, by kernel_rfl, by kernel_rfl, by kernel_rfl, by kernel_rfl, by kernel_rfl⟩
/-- apograph/charset.clusters -/
def c43d : C :=
  ((C.ops [⟨some 1, none, .box 0 9, [.t 0]⟩, ⟨some 2, none, .mv, [.c .nilfn]⟩]).seq ((C.ops [⟨some 3, none, .mkfn (Fn.func 76) 0, [.t 1]⟩, ⟨some 2, none, .mv, [.t 3]⟩]).seq
  C.ret))
theorem fn43d : FnIs Tryd.prog 43 4 1 [RV.tmp 2] c43d := ⟨Tryd.f43, Tryd.f43.body.getD .skip, [1], [74, 97, 42, 44, 59, 48, 50, 52, 69, 81, 96], [], by kernel_rfl, by kernel_rfl, by kernel_rfl, by kernel_rfl, by kernel_rfl, by kernel_rfl, by kernel_rfl⟩
/-- apograph/hyphenation.points -/
def c44d : C :=
  ((C.ops [⟨some 4, none, .nilo 0 1 3, []⟩, ⟨some 5, none, .nilo 1 1 3, []⟩]).seq ((C.ops [⟨some 6, none, .nilo 2 1 3, []⟩, ⟨some 7, none, .nilo 3 1 3, []⟩]).seq ((C.ops [⟨some 12,
  none, .mv, [.t 1]⟩, ⟨some 13, none, .call 49 true, [.t 12]⟩, ⟨some 8, none, .mv, [.t 13]⟩]).seq ((C.ops [⟨some 9, none, .mv, [.c (.int .i64 0)]⟩]).seq (((C.ops [⟨some 14, none,
  .mv, [.t 0]⟩, ⟨some 15, none, .mv, [.t 1]⟩, ⟨some 16, none, .call 41 true, [.t 14, .t 15]⟩, ⟨some 17, none, .len, [.t 16]⟩, ⟨some 18, none, .mv, [.c (.int .i64 0)]⟩]).seq (C.block
  0 ((C.ops [⟨some 19, none, .bin .lss, [.t 18, .t 17]⟩]).seq ((C.cond (.t 19) C.skip (C.exit 0)).seq ((C.block 1 ((C.ops [⟨some 20, none, .mv, [.t 18]⟩, ⟨some 21, none, .idxA 1, [.t
  16, .t 18]⟩, ⟨some 22, none, .load none, [.t 21]⟩, ⟨some 10, none, .mv, [.t 20]⟩, ⟨some 11, none, .mv, [.t 22]⟩]).seq ((C.ops [⟨some 23, none, .mv, [.t 9]⟩, ⟨some 24, none, .mv,
  [.t 8]⟩, ⟨some 25, none, .mv, [.t 10]⟩, ⟨some 26, none, .idxA 1, [.t 24, .t 25]⟩, ⟨some 27, none, .load none, [.t 26]⟩, ⟨some 28, none, .slen, [.t 27]⟩, ⟨some 29, none, .bin .add,
  [.t 23, .t 28]⟩, ⟨some 9, none, .mv, [.t 29]⟩]).seq ((C.ops [⟨some 30, none, .mv, [.t 11]⟩, ⟨some 31, none, .bin .rem, [.t 30, .c (.int .i64 2)]⟩, ⟨some 32, none, .bin .eql, [.t
  31, .c (.int .i64 1)]⟩, ⟨some 33, none, .mv, [.t 32]⟩, ⟨some 34, some (33, true), .mv, [.t 10]⟩, ⟨some 35, some (33, true), .bin .geq, [.t 34, .c (.int .i64 1)]⟩, ⟨some 36, none,
  .pick, [.t 33, .t 35, .c (.bool false)]⟩, ⟨some 37, none, .mv, [.t 36]⟩, ⟨some 38, some (37, true), .mv, [.t 8]⟩, ⟨some 39, some (37, true), .len, [.t 38]⟩, ⟨some 40, some (37,
  true), .mv, [.t 10]⟩, ⟨some 41, some (37, true), .bin .sub, [.t 39, .t 40]⟩, ⟨some 42, some (37, true), .bin .sub, [.t 41, .c (.int .i64 1)]⟩, ⟨some 43, some (37, true), .bin .geq,
  [.t 42, .c (.int .i64 2)]⟩, ⟨some 44, none, .pick, [.t 37, .t 43, .c (.bool false)]⟩]).seq (C.cond (.t 44) (C.ops [⟨some 45, none, .mv, [.t 6]⟩, ⟨some 46, none, .mv, [.t 9]⟩, ⟨some
  47, none, .bslc 4 1 1 3 [.int .i64 0] [(0, 1)], [.t 46]⟩, ⟨some 48, none, .app 5 1 3 8, [.t 45, .t 47]⟩, ⟨some 49, none, .mv, [.t 7]⟩, ⟨some 50, none, .mv, [.t 11]⟩, ⟨some 51,
  none, .bslc 6 1 1 3 [.int .i64 0] [(0, 1)], [.t 50]⟩, ⟨some 52, none, .app 7 1 3 8, [.t 49, .t 51]⟩, ⟨some 6, none, .mv, [.t 48]⟩, ⟨some 7, none, .mv, [.t 52]⟩]) C.skip))))).seq
  (C.ops [⟨some 53, none, .bin .add, [.t 18, .c (.int .i64 1)]⟩, ⟨some 18, none, .mv, [.t 53]⟩])))).loop)).seq ((C.ops [⟨some 54, none, .mv, [.t 6]⟩, ⟨some 55, none, .mv, [.t 7]⟩,
  ⟨some 4, none, .mv, [.t 54]⟩, ⟨some 5, none, .mv, [.t 55]⟩]).seq
  C.ret))))))
theorem fn44d : FnIs Tryd.prog 44 56 8 [RV.tmp 4, RV.tmp 5] c44d := ⟨Tryd.f44, Tryd.f44.body.getD .skip, [4, 5, 6, 7, 47, 48, 51, 52], [74, 97, 42, 44, 59, 48, 50, 52, 69, 81, 96], [], by kernel_rfl, by kernel_rfl, by kernel_rfl, by kernel_rfl, by kernel_rfl, by kernel_rfl, by kernel_rfl⟩
/-- strings.Split -/
def c45d : C :=
  ((C.ops [⟨some 4, none, .nilo 0 1 9, []⟩]).seq ((C.ops [⟨some 5, none, .mv, [.t 0]⟩, ⟨some 6, none, .mv, [.t 1]⟩, ⟨some 7, none, .call 78 true, [.t 5, .t 6, .c (.int .i64 0), .c
  (.int .i64 (-1))]⟩, ⟨some 4, none, .mv, [.t 7]⟩]).seq
  C.ret))
theorem fn45d : FnIs Tryd.prog 45 8 1 [RV.tmp 4] c45d := ⟨Tryd.f45, Tryd.f45.body.getD .skip, [4], [74, 97, 42, 44, 59, 48, 50, 52, 69, 81, 96], [], by kernel_rfl, by kernel_rfl, by kernel_rfl, by kernel_rfl, by kernel_rfl, by kernel_rfl, by kernel_rfl⟩
/-- apograph/hyphenation.part -/
def c46d : C :=
  ((C.ops [⟨some 2, none, .alloc 0 32 [.str [], .nl], []⟩, ⟨some 3, none, .mv, [.c (.bool false)]⟩]).seq ((C.ops [⟨some 4, none, .alloc 1 32 [.str [], .nl], []⟩]).seq (((C.ops [⟨some
  10, none, .mv, [.t 0]⟩, ⟨some 11, none, .bin .eql, [.t 10, .c (.str [])]⟩]).seq (C.cond (.t 11) ((C.ops [⟨some 12, none, .load (some 2), [.t 4]⟩, ⟨none, none, .store 2, [.t 2, .t
  12]⟩, ⟨some 3, none, .mv, [.c (.bool false)]⟩]).seq C.ret) C.skip)).seq ((C.ops [⟨some 5, none, .mv, [.c (.int .i64 0)]⟩]).seq (((C.ops [⟨some 6, none, .mv, [.c (.int .i64
  0)]⟩]).seq (C.block 0 (((C.ops [⟨some 13, none, .mv, [.t 6]⟩, ⟨some 14, none, .mv, [.t 0]⟩, ⟨some 15, none, .slen, [.t 14]⟩, ⟨some 16, none, .bin .lss, [.t 13, .t 15]⟩]).seq
  (C.cond (.t 16) C.skip (C.exit 0))).seq ((C.block 1 (((C.ops [⟨some 19, none, .mv, [.t 0]⟩, ⟨some 20, none, .mv, [.t 6]⟩, ⟨some 21, none, .sidx, [.t 19, .t 20]⟩, ⟨some 22, none,
  .call 79 true, [.t 21]⟩, ⟨some 23, none, .un UnOp.not, [.t 22]⟩]).seq (C.cond (.t 23) ((C.ops [⟨some 24, none, .fldA 0, [.t 4]⟩, ⟨some 25, none, .load none, [.t 24]⟩, ⟨some 26,
  none, .mv, [.t 0]⟩, ⟨some 27, none, .mv, [.t 6]⟩, ⟨some 28, none, .mv, [.t 6]⟩, ⟨some 29, none, .bin .add, [.t 28, .c (.int .i64 1)]⟩, ⟨some 30, none, .sslc true true, [.t 26, .t
  27, .t 29]⟩, ⟨some 31, none, .bin .add, [.t 25, .t 30]⟩, ⟨some 32, none, .fldA 0, [.t 4]⟩, ⟨none, none, .store 1, [.t 32, .t 31]⟩]).seq (C.exit 1)) C.skip)).seq ((C.ops [⟨some 33,
  none, .mv, [.t 0]⟩, ⟨some 34, none, .mv, [.t 6]⟩, ⟨some 35, none, .sidx, [.t 33, .t 34]⟩, ⟨some 36, none, .bin .eql, [.t 35, .c (.int .u8 48)]⟩, ⟨some 37, none, .mv, [.t 36]⟩,
  ⟨some 38, some (37, false), .mv, [.t 6]⟩, ⟨some 39, some (37, false), .bin .add, [.t 38, .c (.int .i64 1)]⟩, ⟨some 40, some (37, false), .mv, [.t 0]⟩, ⟨some 41, some (37, false),
  .slen, [.t 40]⟩, ⟨some 42, some (37, false), .bin .lss, [.t 39, .t 41]⟩, ⟨some 43, some (37, false), .mv, [.t 42]⟩, ⟨some 44, some (43, true), .mv, [.t 0]⟩, ⟨some 45, some (43,
  true), .mv, [.t 6]⟩, ⟨some 46, some (43, true), .bin .add, [.t 45, .c (.int .i64 1)]⟩, ⟨some 47, some (43, true), .sidx, [.t 44, .t 46]⟩, ⟨some 48, some (43, true), .call 79 true,
  [.t 47]⟩, ⟨some 49, some (43, true), .mv, [.t 48]⟩, ⟨some 50, some (49, false), .mv, [.t 0]⟩, ⟨some 51, some (49, false), .mv, [.t 6]⟩, ⟨some 52, some (49, false), .bin .add, [.t
  51, .c (.int .i64 1)]⟩, ⟨some 53, some (49, false), .sidx, [.t 50, .t 52]⟩, ⟨some 54, some (49, false), .call 71 true, [.t 53]⟩, ⟨some 55, some (49, false), .bin .eql, [.t 54, .c
  (.int .i64 2)]⟩, ⟨some 56, some (43, true), .pick, [.t 49, .c (.bool true), .t 55]⟩, ⟨some 57, some (37, false), .pick, [.t 43, .t 56, .c (.bool false)]⟩, ⟨some 58, none, .pick,
  [.t 37, .c (.bool true), .t 57]⟩]).seq (C.cond (.t 58) ((C.ops [⟨some 59, none, .load (some 2), [.t 4]⟩, ⟨none, none, .store 2, [.t 2, .t 59]⟩, ⟨some 3, none, .mv, [.c (.bool
  false)]⟩]).seq C.ret) C.skip)))).seq (C.ops [⟨some 17, none, .mv, [.t 6]⟩, ⟨some 18, none, .bin .add, [.t 17, .c (.int .i64 1)]⟩, ⟨some 6, none, .mv, [.t 18]⟩]))).loop)).seq
  ((C.ops [⟨some 7, none, .mv, [.c (.int .i64 0)]⟩]).seq (((C.ops [⟨some 60, none, .fldA 0, [.t 4]⟩, ⟨some 61, none, .load none, [.t 60]⟩, ⟨some 62, none, .call 49 true, [.t 61]⟩,
  ⟨some 63, none, .len, [.t 62]⟩, ⟨some 64, none, .mv, [.c (.int .i64 0)]⟩]).seq (C.block 2 ((C.ops [⟨some 65, none, .bin .lss, [.t 64, .t 63]⟩]).seq ((C.cond (.t 65) C.skip (C.exit
  2)).seq ((C.block 3 ((C.ops [⟨some 66, none, .idxA 1, [.t 62, .t 64]⟩, ⟨some 67, none, .load none, [.t 66]⟩, ⟨some 9, none, .mv, [.t 67]⟩]).seq ((C.ops [⟨some 5, none, .mv, [.c
  (.int .i64 0)]⟩]).seq (((C.ops [⟨some 68, none, .mv, [.t 0]⟩, ⟨some 69, none, .mv, [.t 7]⟩, ⟨some 70, none, .sidx, [.t 68, .t 69]⟩, ⟨some 71, none, .call 79 true, [.t 70]⟩]).seq
  (C.cond (.t 71) ((C.ops [⟨some 72, none, .mv, [.t 0]⟩, ⟨some 73, none, .mv, [.t 7]⟩, ⟨some 74, none, .sidx, [.t 72, .t 73]⟩, ⟨some 75, none, .bin .sub, [.t 74, .c (.int .u8 48)]⟩,
  ⟨some 76, none, .conv .i64, [.t 75]⟩, ⟨some 5, none, .mv, [.t 76]⟩]).seq (C.ops [⟨some 77, none, .mv, [.t 7]⟩, ⟨some 78, none, .bin .add, [.t 77, .c (.int .i64 1)]⟩, ⟨some 7, none,
  .mv, [.t 78]⟩])) C.skip)).seq ((C.ops [⟨some 79, none, .fldA 1, [.t 4]⟩, ⟨some 80, none, .load none, [.t 79]⟩, ⟨some 81, none, .mv, [.t 5]⟩, ⟨some 82, none, .bslc 2 1 1 3 [.int
  .i64 0] [(0, 1)], [.t 81]⟩, ⟨some 83, none, .app 3 1 3 8, [.t 80, .t 82]⟩, ⟨some 84, none, .fldA 1, [.t 4]⟩, ⟨none, none, .store 1, [.t 84, .t 83]⟩]).seq (C.ops [⟨some 85, none,
  .mv, [.t 7]⟩, ⟨some 86, none, .mv, [.t 9]⟩, ⟨some 87, none, .slen, [.t 86]⟩, ⟨some 88, none, .bin .add, [.t 85, .t 87]⟩, ⟨some 7, none, .mv, [.t 88]⟩])))))).seq (C.ops [⟨some 89,
  none, .bin .add, [.t 64, .c (.int .i64 1)]⟩, ⟨some 64, none, .mv, [.t 89]⟩])))).loop)).seq ((C.ops [⟨some 5, none, .mv, [.c (.int .i64 0)]⟩]).seq (((C.ops [⟨some 90, none, .mv, [.t
  7]⟩, ⟨some 91, none, .mv, [.t 0]⟩, ⟨some 92, none, .slen, [.t 91]⟩, ⟨some 93, none, .bin .lss, [.t 90, .t 92]⟩]).seq (C.cond (.t 93) (C.ops [⟨some 94, none, .mv, [.t 0]⟩, ⟨some 95,
  none, .mv, [.t 7]⟩, ⟨some 96, none, .sidx, [.t 94, .t 95]⟩, ⟨some 97, none, .bin .sub, [.t 96, .c (.int .u8 48)]⟩, ⟨some 98, none, .conv .i64, [.t 97]⟩, ⟨some 5, none, .mv, [.t
  98]⟩]) C.skip)).seq ((C.ops [⟨some 99, none, .fldA 1, [.t 4]⟩, ⟨some 100, none, .load none, [.t 99]⟩, ⟨some 101, none, .mv, [.t 5]⟩, ⟨some 102, none, .bslc 4 1 1 3 [.int .i64 0]
  [(0, 1)], [.t 101]⟩, ⟨some 103, none, .app 5 1 3 8, [.t 100, .t 102]⟩, ⟨some 104, none, .fldA 1, [.t 4]⟩, ⟨none, none, .store 1, [.t 104, .t 103]⟩]).seq ((C.ops [⟨some 105, none,
  .load (some 2), [.t 4]⟩, ⟨none, none, .store 2, [.t 2, .t 105]⟩, ⟨some 3, none, .mv, [.c (.bool true)]⟩]).seq
  C.ret)))))))))))
theorem fn46d : FnIs Tryd.prog 46 106 6 [RV.cell 2 (some 2), RV.tmp 3] c46d := ⟨Tryd.f46, Tryd.f46.body.getD .skip, [2, 4, 82, 83, 102, 103], [74, 97, 42, 44, 59, 48, 50, 52, 69, 81, 96], [], by kernel_rfl, by kernel_rfl, by kernel_rfl, by kernel_rfl, by kernel_rfl, by kernel_rfl, by kernel_rfl⟩
/-- apograph/apographref47.read -/
def c47d : C :=
  ((C.ops [⟨some 2, none, .alloc 0 32 [.str [], .nl], []⟩, ⟨some 3, none, .mv, [.c (.bool false)]⟩]).seq (((C.ops [⟨some 8, none, .mv, [.t 0]⟩, ⟨some 9, none, .bin .eql, [.t 8, .c
  (.str [])]⟩]).seq (C.cond (.t 9) ((C.ops [⟨some 10, none, .build [.str [], .nl] [], []⟩, ⟨none, none, .store 2, [.t 2, .t 10]⟩, ⟨some 3, none, .mv, [.c (.bool false)]⟩]).seq C.ret)
  C.skip)).seq ((C.ops [⟨some 4, none, .alloc 1 32 [.str [], .nl], []⟩]).seq (((C.ops [⟨some 5, none, .mv, [.c (.int .i64 0)]⟩]).seq (C.block 0 (((C.ops [⟨some 11, none, .mv, [.t
  5]⟩, ⟨some 12, none, .mv, [.t 0]⟩, ⟨some 13, none, .slen, [.t 12]⟩, ⟨some 14, none, .bin .lss, [.t 11, .t 13]⟩]).seq (C.cond (.t 14) C.skip (C.exit 0))).seq ((C.block 1 (((C.ops
  [⟨some 17, none, .mv, [.t 0]⟩, ⟨some 18, none, .mv, [.t 5]⟩, ⟨some 19, none, .sidx, [.t 17, .t 18]⟩, ⟨some 20, none, .call 64 true, [.t 19]⟩, ⟨some 21, none, .un UnOp.not, [.t
  20]⟩]).seq (C.cond (.t 21) ((C.ops [⟨some 22, none, .fldA 0, [.t 4]⟩, ⟨some 23, none, .load none, [.t 22]⟩, ⟨some 24, none, .mv, [.t 0]⟩, ⟨some 25, none, .mv, [.t 5]⟩, ⟨some 26,
  none, .mv, [.t 5]⟩, ⟨some 27, none, .bin .add, [.t 26, .c (.int .i64 1)]⟩, ⟨some 28, none, .sslc true true, [.t 24, .t 25, .t 27]⟩, ⟨some 29, none, .bin .add, [.t 23, .t 28]⟩,
  ⟨some 30, none, .fldA 0, [.t 4]⟩, ⟨none, none, .store 1, [.t 30, .t 29]⟩]).seq (C.exit 1)) C.skip)).seq ((C.ops [⟨some 31, none, .mv, [.t 0]⟩, ⟨some 32, none, .mv, [.t 5]⟩, ⟨some
  33, none, .sidx, [.t 31, .t 32]⟩, ⟨some 34, none, .bin .eql, [.t 33, .c (.int .u8 48)]⟩, ⟨some 35, none, .mv, [.t 34]⟩, ⟨some 36, some (35, false), .mv, [.t 5]⟩, ⟨some 37, some
  (35, false), .bin .add, [.t 36, .c (.int .i64 1)]⟩, ⟨some 38, some (35, false), .mv, [.t 0]⟩, ⟨some 39, some (35, false), .slen, [.t 38]⟩, ⟨some 40, some (35, false), .bin .lss,
  [.t 37, .t 39]⟩, ⟨some 41, some (35, false), .mv, [.t 40]⟩, ⟨some 42, some (41, true), .mv, [.t 0]⟩, ⟨some 43, some (41, true), .mv, [.t 5]⟩, ⟨some 44, some (41, true), .bin .add,
  [.t 43, .c (.int .i64 1)]⟩, ⟨some 45, some (41, true), .sidx, [.t 42, .t 44]⟩, ⟨some 46, some (41, true), .call 64 true, [.t 45]⟩, ⟨some 47, some (41, true), .mv, [.t 46]⟩, ⟨some
  48, some (47, false), .mv, [.t 0]⟩, ⟨some 49, some (47, false), .mv, [.t 5]⟩, ⟨some 50, some (47, false), .bin .add, [.t 49, .c (.int .i64 1)]⟩, ⟨some 51, some (47, false), .sidx,
  [.t 48, .t 50]⟩, ⟨some 52, some (47, false), .call 80 true, [.t 51]⟩, ⟨some 53, some (47, false), .bin .eql, [.t 52, .c (.int .i64 2)]⟩, ⟨some 54, some (41, true), .pick, [.t 47,
  .c (.bool true), .t 53]⟩, ⟨some 55, some (35, false), .pick, [.t 41, .t 54, .c (.bool false)]⟩, ⟨some 56, none, .pick, [.t 35, .c (.bool true), .t 55]⟩]).seq (C.cond (.t 56)
  ((C.ops [⟨some 57, none, .build [.str [], .nl] [], []⟩, ⟨none, none, .store 2, [.t 2, .t 57]⟩, ⟨some 3, none, .mv, [.c (.bool false)]⟩]).seq C.ret) C.skip)))).seq (C.ops [⟨some 15,
  none, .mv, [.t 5]⟩, ⟨some 16, none, .bin .add, [.t 15, .c (.int .i64 1)]⟩, ⟨some 5, none, .mv, [.t 16]⟩]))).loop)).seq ((C.ops [⟨some 6, none, .mv, [.c (.int .i64 0)]⟩]).seq
  (((C.ops [⟨some 7, none, .mv, [.c (.int .i64 0)]⟩]).seq (C.block 2 (((C.ops [⟨some 58, none, .mv, [.t 7]⟩, ⟨some 59, none, .mv, [.t 0]⟩, ⟨some 60, none, .slen, [.t 59]⟩, ⟨some 61,
  none, .bin .lss, [.t 58, .t 60]⟩]).seq (C.cond (.t 61) C.skip (C.exit 2))).seq ((C.block 3 (((C.ops [⟨some 64, none, .mv, [.t 0]⟩, ⟨some 65, none, .mv, [.t 7]⟩, ⟨some 66, none,
  .sidx, [.t 64, .t 65]⟩, ⟨some 67, none, .call 64 true, [.t 66]⟩]).seq (C.cond (.t 67) ((C.ops [⟨some 68, none, .mv, [.t 0]⟩, ⟨some 69, none, .mv, [.t 7]⟩, ⟨some 70, none, .sidx,
  [.t 68, .t 69]⟩, ⟨some 71, none, .bin .sub, [.t 70, .c (.int .u8 48)]⟩, ⟨some 72, none, .conv .i64, [.t 71]⟩, ⟨some 6, none, .mv, [.t 72]⟩]).seq (C.exit 3)) C.skip)).seq (((C.ops
  [⟨some 73, none, .mv, [.t 0]⟩, ⟨some 74, none, .mv, [.t 7]⟩, ⟨some 75, none, .sidx, [.t 73, .t 74]⟩, ⟨some 76, none, .call 80 true, [.t 75]⟩, ⟨some 77, none, .bin .neq, [.t 76, .c
  (.int .i64 2)]⟩, ⟨some 78, none, .mv, [.t 77]⟩, ⟨some 79, some (78, false), .fldA 1, [.t 4]⟩, ⟨some 80, some (78, false), .load none, [.t 79]⟩, ⟨some 81, some (78, false), .len,
  [.t 80]⟩, ⟨some 82, some (78, false), .bin .eql, [.t 81, .c (.int .i64 0)]⟩, ⟨some 83, none, .pick, [.t 78, .c (.bool true), .t 82]⟩]).seq (C.cond (.t 83) (C.ops [⟨some 84, none,
  .fldA 1, [.t 4]⟩, ⟨some 85, none, .load none, [.t 84]⟩, ⟨some 86, none, .mv, [.t 6]⟩, ⟨some 87, none, .bslc 2 1 1 3 [.int .i64 0] [(0, 1)], [.t 86]⟩, ⟨some 88, none, .app 3 1 3 8,
  [.t 85, .t 87]⟩, ⟨some 89, none, .fldA 1, [.t 4]⟩, ⟨none, none, .store 1, [.t 89, .t 88]⟩]) C.skip)).seq (C.ops [⟨some 6, none, .mv, [.c (.int .i64 0)]⟩])))).seq (C.ops [⟨some 62,
  none, .mv, [.t 7]⟩, ⟨some 63, none, .bin .add, [.t 62, .c (.int .i64 1)]⟩, ⟨some 7, none, .mv, [.t 63]⟩]))).loop)).seq ((C.ops [⟨some 90, none, .fldA 1, [.t 4]⟩, ⟨some 91, none,
  .load none, [.t 90]⟩, ⟨some 92, none, .mv, [.t 6]⟩, ⟨some 93, none, .bslc 4 1 1 3 [.int .i64 0] [(0, 1)], [.t 92]⟩, ⟨some 94, none, .app 5 1 3 8, [.t 91, .t 93]⟩, ⟨some 95, none,
  .fldA 1, [.t 4]⟩, ⟨none, none, .store 1, [.t 95, .t 94]⟩]).seq ((C.ops [⟨some 96, none, .load (some 2), [.t 4]⟩, ⟨none, none, .store 2, [.t 2, .t 96]⟩, ⟨some 3, none, .mv, [.c
  (.bool true)]⟩]).seq
  C.ret))))))))
theorem fn47d : FnIs Tryd.prog 47 97 6 [RV.cell 2 (some 2), RV.tmp 3] c47d := ⟨Tryd.f47, Tryd.f47.body.getD .skip, [2, 4, 87, 88, 93, 94], [74, 97, 42, 44, 59, 48, 50, 52, 69, 81, 96], [], by kernel_rfl, by kernel_rfl, by kernel_rfl, by kernel_rfl, by kernel_rfl, by kernel_rfl, by kernel_rfl⟩
/-- apograph/hyphenation.units -/
def c49d : C :=
  ((C.ops [⟨some 2, none, .nilo 0 1 9, []⟩]).seq ((C.ops [⟨some 3, none, .mv, [.t 0]⟩, ⟨some 4, none, .call 16 true, [.t 3]⟩, ⟨some 2, none, .mv, [.t 4]⟩]).seq
  C.ret))
theorem fn49d : FnIs Tryd.prog 49 5 1 [RV.tmp 2] c49d := ⟨Tryd.f49, Tryd.f49.body.getD .skip, [2], [74, 97, 42, 44, 59, 48, 50, 52, 69, 81, 96], [], by kernel_rfl, by kernel_rfl, by kernel_rfl, by kernel_rfl, by kernel_rfl, by kernel_rfl, by kernel_rfl⟩
/-- apograph/apographref01.Clusters -/
def c53d : C :=
  ((C.ops [⟨some 2, none, .nilo 0 1 9, []⟩]).seq ((C.ops [⟨some 6, none, .bslc 1 1 0 9 [.str []] [], []⟩, ⟨some 3, none, .mv, [.t 6]⟩]).seq ((C.ops [⟨some 7, none, .mv, [.t 0]⟩,
  ⟨some 8, none, .call 82 true, [.t 7]⟩, ⟨some 4, none, .mv, [.t 8]⟩]).seq (((C.ops [⟨some 5, none, .mv, [.c (.int .i64 0)]⟩]).seq (C.block 0 (((C.ops [⟨some 9, none, .mv, [.t 5]⟩,
  ⟨some 10, none, .mv, [.t 0]⟩, ⟨some 11, none, .slen, [.t 10]⟩, ⟨some 12, none, .bin .lss, [.t 9, .t 11]⟩]).seq (C.cond (.t 12) C.skip (C.exit 0))).seq ((C.block 1 ((C.ops [⟨some
  15, none, .mv, [.t 4]⟩, ⟨some 16, none, .mv, [.t 5]⟩, ⟨some 17, none, .idxA 1, [.t 15, .t 16]⟩, ⟨some 18, none, .load none, [.t 17]⟩]).seq (C.cond (.t 18) (C.ops [⟨some 19, none,
  .mv, [.t 3]⟩, ⟨some 20, none, .mv, [.t 3]⟩, ⟨some 21, none, .len, [.t 20]⟩, ⟨some 22, none, .bin .sub, [.t 21, .c (.int .i64 1)]⟩, ⟨some 23, none, .mv, [.t 3]⟩, ⟨some 24, none,
  .mv, [.t 3]⟩, ⟨some 25, none, .len, [.t 24]⟩, ⟨some 26, none, .bin .sub, [.t 25, .c (.int .i64 1)]⟩, ⟨some 27, none, .idxA 1, [.t 23, .t 26]⟩, ⟨some 28, none, .load none, [.t 27]⟩,
  ⟨some 29, none, .mv, [.t 0]⟩, ⟨some 30, none, .mv, [.t 5]⟩, ⟨some 31, none, .mv, [.t 5]⟩, ⟨some 32, none, .bin .add, [.t 31, .c (.int .i64 1)]⟩, ⟨some 33, none, .sslc true true,
  [.t 29, .t 30, .t 32]⟩, ⟨some 34, none, .bin .add, [.t 28, .t 33]⟩, ⟨some 35, none, .idxA 1, [.t 19, .t 22]⟩, ⟨none, none, .store 1, [.t 35, .t 34]⟩]) (C.ops [⟨some 36, none, .mv,
  [.t 3]⟩, ⟨some 37, none, .mv, [.t 0]⟩, ⟨some 38, none, .mv, [.t 5]⟩, ⟨some 39, none, .mv, [.t 5]⟩, ⟨some 40, none, .bin .add, [.t 39, .c (.int .i64 1)]⟩, ⟨some 41, none, .sslc true
  true, [.t 37, .t 38, .t 40]⟩, ⟨some 42, none, .bslc 2 1 1 9 [.str []] [(0, 1)], [.t 41]⟩, ⟨some 43, none, .app 3 1 9 16, [.t 36, .t 42]⟩, ⟨some 3, none, .mv, [.t 43]⟩])))).seq
  (C.ops [⟨some 13, none, .mv, [.t 5]⟩, ⟨some 14, none, .bin .add, [.t 13, .c (.int .i64 1)]⟩, ⟨some 5, none, .mv, [.t 14]⟩]))).loop)).seq ((C.ops [⟨some 44, none, .mv, [.t 3]⟩,
  ⟨some 2, none, .mv, [.t 44]⟩]).seq
  C.ret)))))
theorem fn53d : FnIs Tryd.prog 53 45 4 [RV.tmp 2] c53d := ⟨Tryd.f53, Tryd.f53.body.getD .skip, [2, 6, 42, 43], [74, 97, 42, 44, 59, 48, 50, 52, 69, 81, 96], [], by kernel_rfl, by kernel_rfl, by kernel_rfl, by kernel_rfl, by kernel_rfl, by kernel_rfl, by kernel_rfl⟩
/-- apograph/hyphenation.checkPattern -/
def c54d : C :=
  ((C.ops [⟨some 1, none, .box 0 32, [.t 0]⟩, ⟨some 2, none, .mv, [.c (.int .i64 0)]⟩]).seq (((C.ops [⟨some 7, none, .fldA 0, [.t 1]⟩, ⟨some 8, none, .load none, [.t 7]⟩, ⟨some 9,
  none, .slen, [.t 8]⟩, ⟨some 10, none, .bin .gtr, [.t 9, .c (.int .i64 64)]⟩]).seq (C.cond (.t 10) ((C.ops [⟨some 2, none, .mv, [.c (.int .i64 4)]⟩]).seq C.ret) C.skip)).seq ((C.ops
  [⟨some 11, none, .fldA 0, [.t 1]⟩, ⟨some 12, none, .load none, [.t 11]⟩, ⟨some 13, none, .call 84 true, [.t 12, .c (.str [46])]⟩, ⟨some 14, none, .call 83 true, [.t 13, .c (.str
  [46])]⟩, ⟨some 3, none, .mv, [.t 14]⟩]).seq ((C.ops [⟨some 4, none, .mv, [.c (.fn (Fn.func 85) [] [])]⟩]).seq ((C.ops [⟨some 5, none, .mv, [.c (.bool false)]⟩]).seq (((C.ops [⟨some
  15, none, .mv, [.t 3]⟩, ⟨some 16, none, .slen, [.t 15]⟩, ⟨some 17, none, .mv, [.c (.int .i64 0)]⟩]).seq (C.block 0 ((C.ops [⟨some 18, none, .bin .lss, [.t 17, .t 16]⟩]).seq
  ((C.cond (.t 18) C.skip (C.exit 0)).seq ((C.block 1 ((C.ops [⟨some 19, none, .mv, [.t 17]⟩, ⟨some 6, none, .mv, [.t 19]⟩]).seq (((C.ops [⟨some 20, none, .mv, [.t 4]⟩, ⟨some 21,
  none, .mv, [.t 3]⟩, ⟨some 22, none, .mv, [.t 6]⟩, ⟨some 23, none, .sidx, [.t 21, .t 22]⟩, ⟨some 24, none, .callv, [.t 20, .t 23]⟩, ⟨some 25, none, .un UnOp.not, [.t 24]⟩]).seq
  (C.cond (.t 25) ((C.ops [⟨some 2, none, .mv, [.c (.int .i64 11)]⟩]).seq C.ret) C.skip)).seq (C.ops [⟨some 26, none, .mv, [.t 5]⟩, ⟨some 27, none, .mv, [.t 26]⟩, ⟨some 28, some (27,
  false), .mv, [.t 3]⟩, ⟨some 29, some (27, false), .mv, [.t 6]⟩, ⟨some 30, some (27, false), .sidx, [.t 28, .t 29]⟩, ⟨some 31, some (27, false), .call 71 true, [.t 30]⟩, ⟨some 32,
  some (27, false), .bin .neq, [.t 31, .c (.int .i64 2)]⟩, ⟨some 33, none, .pick, [.t 27, .c (.bool true), .t 32]⟩, ⟨some 5, none, .mv, [.t 33]⟩])))).seq (C.ops [⟨some 34, none, .bin
  .add, [.t 17, .c (.int .i64 1)]⟩, ⟨some 17, none, .mv, [.t 34]⟩])))).loop)).seq (((C.ops [⟨some 35, none, .mv, [.t 3]⟩, ⟨some 36, none, .call 70 true, [.t 35]⟩, ⟨some 37, none,
  .bin .neq, [.t 36, .c (.int .i64 0)]⟩]).seq (C.cond (.t 37) ((C.ops [⟨some 2, none, .mv, [.c (.int .i64 11)]⟩]).seq C.ret) C.skip)).seq (((C.ops [⟨some 38, none, .mv, [.t 5]⟩,
  ⟨some 39, none, .un UnOp.not, [.t 38]⟩]).seq (C.cond (.t 39) ((C.ops [⟨some 2, none, .mv, [.c (.int .i64 5)]⟩]).seq C.ret) C.skip)).seq (((C.ops [⟨some 40, none, .fldA 1, [.t 1]⟩,
  ⟨some 41, none, .load none, [.t 40]⟩, ⟨some 42, none, .len, [.t 41]⟩, ⟨some 43, none, .fldA 0, [.t 1]⟩, ⟨some 44, none, .load none, [.t 43]⟩, ⟨some 45, none, .call 49 true, [.t
  44]⟩, ⟨some 46, none, .len, [.t 45]⟩, ⟨some 47, none, .bin .add, [.t 46, .c (.int .i64 1)]⟩, ⟨some 48, none, .bin .neq, [.t 42, .t 47]⟩]).seq (C.cond (.t 48) ((C.ops [⟨some 2,
  none, .mv, [.c (.int .i64 9)]⟩]).seq C.ret) C.skip)).seq (((C.ops [⟨some 49, none, .fldA 1, [.t 1]⟩, ⟨some 50, none, .load none, [.t 49]⟩, ⟨some 51, none, .call 86 true, [.t 50, .c
  (.fn (Fn.func 87) [] [])]⟩, ⟨some 52, none, .mv, [.t 51]⟩, ⟨some 53, some (52, false), .fldA 0, [.t 1]⟩, ⟨some 54, some (52, false), .load none, [.t 53]⟩, ⟨some 55, some (52,
  false), .call 88 true, [.t 54, .c (.str [46])]⟩, ⟨some 56, some (52, false), .mv, [.t 55]⟩, ⟨some 57, some (56, true), .fldA 1, [.t 1]⟩, ⟨some 58, some (56, true), .load none, [.t
  57]⟩, ⟨some 59, some (56, true), .idxA 1, [.t 58, .c (.int .i64 0)]⟩, ⟨some 60, some (56, true), .load none, [.t 59]⟩, ⟨some 61, some (56, true), .bin .neq, [.t 60, .c (.int .i64
  0)]⟩, ⟨some 62, some (52, false), .pick, [.t 56, .t 61, .c (.bool false)]⟩, ⟨some 63, none, .pick, [.t 52, .c (.bool true), .t 62]⟩, ⟨some 64, none, .mv, [.t 63]⟩, ⟨some 65, some
  (64, false), .fldA 0, [.t 1]⟩, ⟨some 66, some (64, false), .load none, [.t 65]⟩, ⟨some 67, some (64, false), .call 89 true, [.t 66, .c (.str [46])]⟩, ⟨some 68, some (64, false),
  .mv, [.t 67]⟩, ⟨some 69, some (68, true), .fldA 1, [.t 1]⟩, ⟨some 70, some (68, true), .load none, [.t 69]⟩, ⟨some 71, some (68, true), .fldA 1, [.t 1]⟩, ⟨some 72, some (68, true),
  .load none, [.t 71]⟩, ⟨some 73, some (68, true), .len, [.t 72]⟩, ⟨some 74, some (68, true), .bin .sub, [.t 73, .c (.int .i64 1)]⟩, ⟨some 75, some (68, true), .idxA 1, [.t 70, .t
  74]⟩, ⟨some 76, some (68, true), .load none, [.t 75]⟩, ⟨some 77, some (68, true), .bin .neq, [.t 76, .c (.int .i64 0)]⟩, ⟨some 78, some (64, false), .pick, [.t 68, .t 77, .c (.bool
  false)]⟩, ⟨some 79, none, .pick, [.t 64, .c (.bool true), .t 78]⟩]).seq (C.cond (.t 79) ((C.ops [⟨some 2, none, .mv, [.c (.int .i64 2)]⟩]).seq C.ret) C.skip)).seq ((C.ops [⟨some 2,
  none, .mv, [.c (.int .i64 0)]⟩]).seq
  C.ret)))))))))))
theorem fn54d : FnIs Tryd.prog 54 80 1 [RV.tmp 2] c54d := ⟨Tryd.f54, Tryd.f54.body.getD .skip, [1], [74, 97, 42, 44, 59, 48, 50, 52, 69, 81, 96], [], by kernel_rfl, by kernel_rfl, by kernel_rfl, by kernel_rfl, by kernel_rfl, by kernel_rfl, by kernel_rfl⟩
/-- apograph/apographref47.check -/
def c55d : C :=
  ((C.ops [⟨some 1, none, .box 0 32, [.t 0]⟩, ⟨some 2, none, .mv, [.c (.int .i64 0)]⟩]).seq (((C.ops [⟨some 7, none, .fldA 0, [.t 1]⟩, ⟨some 8, none, .load none, [.t 7]⟩, ⟨some 9,
  none, .slen, [.t 8]⟩, ⟨some 10, none, .bin .gtr, [.t 9, .c (.int .i64 64)]⟩]).seq (C.cond (.t 10) ((C.ops [⟨some 2, none, .mv, [.c (.int .i64 4)]⟩]).seq C.ret) C.skip)).seq ((C.ops
  [⟨some 11, none, .fldA 0, [.t 1]⟩, ⟨some 12, none, .load none, [.t 11]⟩, ⟨some 13, none, .call 90 true, [.t 12]⟩, ⟨some 3, none, .mv, [.t 13]⟩]).seq (((C.ops [⟨some 4, none, .mv,
  [.c (.int .i64 0)]⟩]).seq (C.block 0 (((C.ops [⟨some 14, none, .mv, [.t 4]⟩, ⟨some 15, none, .mv, [.t 3]⟩, ⟨some 16, none, .slen, [.t 15]⟩, ⟨some 17, none, .bin .lss, [.t 14, .t
  16]⟩]).seq (C.cond (.t 17) C.skip (C.exit 0))).seq ((C.block 1 ((C.ops [⟨some 20, none, .mv, [.t 3]⟩, ⟨some 21, none, .mv, [.t 4]⟩, ⟨some 22, none, .sidx, [.t 20, .t 21]⟩, ⟨some
  23, none, .call 80 true, [.t 22]⟩, ⟨some 5, none, .mv, [.t 23]⟩]).seq ((C.ops [⟨some 24, none, .mv, [.t 5]⟩, ⟨some 25, none, .bin .neq, [.t 24, .c (.int .i64 1)]⟩, ⟨some 26, none,
  .mv, [.t 25]⟩, ⟨some 27, some (26, true), .mv, [.t 5]⟩, ⟨some 28, some (26, true), .bin .neq, [.t 27, .c (.int .i64 2)]⟩, ⟨some 29, none, .pick, [.t 26, .t 28, .c (.bool false)]⟩,
  ⟨some 30, none, .mv, [.t 29]⟩, ⟨some 31, some (30, true), .mv, [.t 5]⟩, ⟨some 32, some (30, true), .bin .neq, [.t 31, .c (.int .i64 4)]⟩, ⟨some 33, none, .pick, [.t 30, .t 32, .c
  (.bool false)]⟩]).seq (C.cond (.t 33) ((C.ops [⟨some 2, none, .mv, [.c (.int .i64 11)]⟩]).seq C.ret) C.skip)))).seq (C.ops [⟨some 18, none, .mv, [.t 4]⟩, ⟨some 19, none, .bin .add,
  [.t 18, .c (.int .i64 1)]⟩, ⟨some 4, none, .mv, [.t 19]⟩]))).loop)).seq (((C.ops [⟨some 34, none, .fldA 0, [.t 1]⟩, ⟨some 35, none, .load none, [.t 34]⟩, ⟨some 36, none, .call 91
  true, [.t 35]⟩, ⟨some 37, none, .bin .neq, [.t 36, .c (.int .i64 0)]⟩]).seq (C.cond (.t 37) ((C.ops [⟨some 2, none, .mv, [.c (.int .i64 11)]⟩]).seq C.ret) C.skip)).seq (((C.ops
  [⟨some 38, none, .mv, [.t 3]⟩, ⟨some 39, none, .bin .eql, [.t 38, .c (.str [])]⟩]).seq (C.cond (.t 39) ((C.ops [⟨some 2, none, .mv, [.c (.int .i64 5)]⟩]).seq C.ret) C.skip)).seq
  (((C.ops [⟨some 40, none, .fldA 1, [.t 1]⟩, ⟨some 41, none, .load none, [.t 40]⟩, ⟨some 42, none, .len, [.t 41]⟩, ⟨some 43, none, .fldA 0, [.t 1]⟩, ⟨some 44, none, .load none, [.t
  43]⟩, ⟨some 45, none, .call 53 true, [.t 44]⟩, ⟨some 46, none, .len, [.t 45]⟩, ⟨some 47, none, .bin .add, [.t 46, .c (.int .i64 1)]⟩, ⟨some 48, none, .bin .neq, [.t 42, .t
  47]⟩]).seq (C.cond (.t 48) ((C.ops [⟨some 2, none, .mv, [.c (.int .i64 9)]⟩]).seq C.ret) C.skip)).seq (((C.ops [⟨some 6, none, .mv, [.c (.int .i64 0)]⟩]).seq (C.block 2 (((C.ops
  [⟨some 49, none, .mv, [.t 6]⟩, ⟨some 50, none, .fldA 1, [.t 1]⟩, ⟨some 51, none, .load none, [.t 50]⟩, ⟨some 52, none, .len, [.t 51]⟩, ⟨some 53, none, .bin .lss, [.t 49, .t
  52]⟩]).seq (C.cond (.t 53) C.skip (C.exit 2))).seq ((C.block 3 ((C.ops [⟨some 56, none, .fldA 1, [.t 1]⟩, ⟨some 57, none, .load none, [.t 56]⟩, ⟨some 58, none, .mv, [.t 6]⟩, ⟨some
  59, none, .idxA 1, [.t 57, .t 58]⟩, ⟨some 60, none, .load none, [.t 59]⟩, ⟨some 61, none, .bin .lss, [.t 60, .c (.int .i64 0)]⟩, ⟨some 62, none, .mv, [.t 61]⟩, ⟨some 63, some (62,
  false), .fldA 1, [.t 1]⟩, ⟨some 64, some (62, false), .load none, [.t 63]⟩, ⟨some 65, some (62, false), .mv, [.t 6]⟩, ⟨some 66, some (62, false), .idxA 1, [.t 64, .t 65]⟩, ⟨some
  67, some (62, false), .load none, [.t 66]⟩, ⟨some 68, some (62, false), .bin .gtr, [.t 67, .c (.int .i64 9)]⟩, ⟨some 69, none, .pick, [.t 62, .c (.bool true), .t 68]⟩]).seq (C.cond
  (.t 69) ((C.ops [⟨some 2, none, .mv, [.c (.int .i64 2)]⟩]).seq C.ret) C.skip))).seq (C.ops [⟨some 54, none, .mv, [.t 6]⟩, ⟨some 55, none, .bin .add, [.t 54, .c (.int .i64 1)]⟩,
  ⟨some 6, none, .mv, [.t 55]⟩]))).loop)).seq (((C.ops [⟨some 70, none, .fldA 0, [.t 1]⟩, ⟨some 71, none, .load none, [.t 70]⟩, ⟨some 72, none, .sidx, [.t 71, .c (.int .i64 0)]⟩,
  ⟨some 73, none, .bin .eql, [.t 72, .c (.int .u8 46)]⟩, ⟨some 74, none, .mv, [.t 73]⟩, ⟨some 75, some (74, true), .fldA 1, [.t 1]⟩, ⟨some 76, some (74, true), .load none, [.t 75]⟩,
  ⟨some 77, some (74, true), .idxA 1, [.t 76, .c (.int .i64 0)]⟩, ⟨some 78, some (74, true), .load none, [.t 77]⟩, ⟨some 79, some (74, true), .bin .neq, [.t 78, .c (.int .i64 0)]⟩,
  ⟨some 80, none, .pick, [.t 74, .t 79, .c (.bool false)]⟩, ⟨some 81, none, .mv, [.t 80]⟩, ⟨some 82, some (81, false), .fldA 0, [.t 1]⟩, ⟨some 83, some (81, false), .load none, [.t
  82]⟩, ⟨some 84, some (81, false), .fldA 0, [.t 1]⟩, ⟨some 85, some (81, false), .load none, [.t 84]⟩, ⟨some 86, some (81, false), .slen, [.t 85]⟩, ⟨some 87, some (81, false), .bin
  .sub, [.t 86, .c (.int .i64 1)]⟩, ⟨some 88, some (81, false), .sidx, [.t 83, .t 87]⟩, ⟨some 89, some (81, false), .bin .eql, [.t 88, .c (.int .u8 46)]⟩, ⟨some 90, some (81, false),
  .mv, [.t 89]⟩, ⟨some 91, some (90, true), .fldA 1, [.t 1]⟩, ⟨some 92, some (90, true), .load none, [.t 91]⟩, ⟨some 93, some (90, true), .fldA 1, [.t 1]⟩, ⟨some 94, some (90, true),
  .load none, [.t 93]⟩, ⟨some 95, some (90, true), .len, [.t 94]⟩, ⟨some 96, some (90, true), .bin .sub, [.t 95, .c (.int .i64 1)]⟩, ⟨some 97, some (90, true), .idxA 1, [.t 92, .t
  96]⟩, ⟨some 98, some (90, true), .load none, [.t 97]⟩, ⟨some 99, some (90, true), .bin .neq, [.t 98, .c (.int .i64 0)]⟩, ⟨some 100, some (81, false), .pick, [.t 90, .t 99, .c
  (.bool false)]⟩, ⟨some 101, none, .pick, [.t 81, .c (.bool true), .t 100]⟩]).seq (C.cond (.t 101) ((C.ops [⟨some 2, none, .mv, [.c (.int .i64 2)]⟩]).seq C.ret) C.skip)).seq ((C.ops
  [⟨some 2, none, .mv, [.c (.int .i64 0)]⟩]).seq
  C.ret))))))))))
theorem fn55d : FnIs Tryd.prog 55 102 1 [RV.tmp 2] c55d := ⟨Tryd.f55, Tryd.f55.body.getD .skip, [1], [74, 97, 42, 44, 59, 48, 50, 52, 69, 81, 96], [], by kernel_rfl, by kernel_rfl, by kernel_rfl, by kernel_rfl, by kernel_rfl, by kernel_rfl, by kernel_rfl⟩
/-- apograph/apographref01.SameInts -/
def c56d : C :=
  ((C.ops [⟨some 4, none, .mv, [.c (.bool false)]⟩]).seq (((C.ops [⟨some 6, none, .mv, [.t 0]⟩, ⟨some 7, none, .len, [.t 6]⟩, ⟨some 8, none, .mv, [.t 1]⟩, ⟨some 9, none, .len, [.t
  8]⟩, ⟨some 10, none, .bin .neq, [.t 7, .t 9]⟩]).seq (C.cond (.t 10) ((C.ops [⟨some 4, none, .mv, [.c (.bool false)]⟩]).seq C.ret) C.skip)).seq (((C.ops [⟨some 5, none, .mv, [.c
  (.int .i64 0)]⟩]).seq (C.block 0 (((C.ops [⟨some 11, none, .mv, [.t 5]⟩, ⟨some 12, none, .mv, [.t 0]⟩, ⟨some 13, none, .len, [.t 12]⟩, ⟨some 14, none, .bin .lss, [.t 11, .t
  13]⟩]).seq (C.cond (.t 14) C.skip (C.exit 0))).seq ((C.block 1 ((C.ops [⟨some 17, none, .mv, [.t 0]⟩, ⟨some 18, none, .mv, [.t 5]⟩, ⟨some 19, none, .idxA 1, [.t 17, .t 18]⟩, ⟨some
  20, none, .load none, [.t 19]⟩, ⟨some 21, none, .mv, [.t 1]⟩, ⟨some 22, none, .mv, [.t 5]⟩, ⟨some 23, none, .idxA 1, [.t 21, .t 22]⟩, ⟨some 24, none, .load none, [.t 23]⟩, ⟨some
  25, none, .bin .neq, [.t 20, .t 24]⟩]).seq (C.cond (.t 25) ((C.ops [⟨some 4, none, .mv, [.c (.bool false)]⟩]).seq C.ret) C.skip))).seq (C.ops [⟨some 15, none, .mv, [.t 5]⟩, ⟨some
  16, none, .bin .add, [.t 15, .c (.int .i64 1)]⟩, ⟨some 5, none, .mv, [.t 16]⟩]))).loop)).seq ((C.ops [⟨some 4, none, .mv, [.c (.bool true)]⟩]).seq
  C.ret))))
theorem fn56d : FnIs Tryd.prog 56 26 0 [RV.tmp 4] c56d := ⟨Tryd.f56, Tryd.f56.body.getD .skip, [], [74, 97, 42, 44, 59, 48, 50, 52, 69, 81, 96], [], by kernel_rfl, by kernel_rfl, by kernel_rfl, by kernel_rfl, by kernel_rfl, by kernel_rfl, by kernel_rfl⟩
/-- apograph/apographref47.start -/
def c57d : C :=
  ((C.ops [⟨some 4, none, .mv, [.c (.int .i64 0)]⟩]).seq (((C.ops [⟨some 5, none, .mv, [.t 0]⟩, ⟨some 6, none, .call 26 true, [.t 5]⟩, ⟨some 7, none, .bin .neq, [.t 6, .c (.int .i64
  0)]⟩]).seq (C.cond (.t 7) ((C.ops [⟨some 4, none, .mv, [.c (.int .i64 1)]⟩]).seq C.ret) C.skip)).seq (((C.ops [⟨some 8, none, .mv, [.t 1]⟩, ⟨some 9, none, .call 92 true, [.t 8]⟩,
  ⟨some 10, none, .un UnOp.not, [.t 9]⟩]).seq (C.cond (.t 10) ((C.ops [⟨some 4, none, .mv, [.c (.int .i64 11)]⟩]).seq C.ret) C.skip)).seq ((C.ops [⟨some 4, none, .mv, [.c (.int .i64
  0)]⟩]).seq
  C.ret))))
theorem fn57d : FnIs Tryd.prog 57 11 0 [RV.tmp 4] c57d := ⟨Tryd.f57, Tryd.f57.body.getD .skip, [], [74, 97, 42, 44, 59, 48, 50, 52, 69, 81, 96], [], by kernel_rfl, by kernel_rfl, by kernel_rfl, by kernel_rfl, by kernel_rfl, by kernel_rfl, by kernel_rfl⟩
/-- apograph/apographref47.levels -/
def c58d : C :=
  ((C.ops [⟨some 4, none, .nilo 0 1 3, []⟩]).seq ((C.ops [⟨some 13, none, .bslc 1 1 1 9 [.str []] [(0, 1)], [.c (.str [46])]⟩, ⟨some 14, none, .mv, [.t 1]⟩, ⟨some 15, none, .call 65
  true, [.t 14]⟩, ⟨some 16, none, .call 53 true, [.t 15]⟩, ⟨some 17, none, .app 2 1 9 16, [.t 13, .t 16]⟩, ⟨some 18, none, .bslc 3 1 1 9 [.str []] [(0, 1)], [.c (.str [46])]⟩, ⟨some
  19, none, .app 4 1 9 16, [.t 17, .t 18]⟩, ⟨some 5, none, .mv, [.t 19]⟩]).seq ((C.ops [⟨some 20, none, .mv, [.t 5]⟩, ⟨some 21, none, .len, [.t 20]⟩, ⟨some 22, none, .bin .add, [.t
  21, .c (.int .i64 1)]⟩, ⟨some 23, none, .mkslc 5 1 3 [.int .i64 0] 8, [.t 22, .t 22]⟩, ⟨some 6, none, .mv, [.t 23]⟩]).seq (((C.ops [⟨some 7, none, .mv, [.c (.int .i64 0)]⟩]).seq
  (C.block 0 (((C.ops [⟨some 24, none, .mv, [.t 7]⟩, ⟨some 25, none, .mv, [.t 0]⟩, ⟨some 26, none, .len, [.t 25]⟩, ⟨some 27, none, .bin .lss, [.t 24, .t 26]⟩]).seq (C.cond (.t 27)
  C.skip (C.exit 0))).seq ((C.block 1 ((C.ops [⟨some 30, none, .mv, [.t 0]⟩, ⟨some 31, none, .mv, [.t 7]⟩, ⟨some 32, none, .idxA 2, [.t 30, .t 31]⟩, ⟨some 33, none, .fldA 0, [.t
  32]⟩, ⟨some 34, none, .load none, [.t 33]⟩, ⟨some 35, none, .call 65 true, [.t 34]⟩, ⟨some 36, none, .call 53 true, [.t 35]⟩, ⟨some 8, none, .mv, [.t 36]⟩]).seq ((C.ops [⟨some 9,
  none, .mv, [.c (.int .i64 0)]⟩]).seq (C.block 2 (((C.ops [⟨some 37, none, .mv, [.t 9]⟩, ⟨some 38, none, .mv, [.t 8]⟩, ⟨some 39, none, .len, [.t 38]⟩, ⟨some 40, none, .bin .add, [.t
  37, .t 39]⟩, ⟨some 41, none, .mv, [.t 5]⟩, ⟨some 42, none, .len, [.t 41]⟩, ⟨some 43, none, .bin .leq, [.t 40, .t 42]⟩]).seq (C.cond (.t 43) C.skip (C.exit 2))).seq ((C.block 3
  ((C.ops [⟨some 10, none, .mv, [.c (.bool true)]⟩]).seq (((C.ops [⟨some 11, none, .mv, [.c (.int .i64 0)]⟩]).seq (C.block 4 (((C.ops [⟨some 46, none, .mv, [.t 11]⟩, ⟨some 47, none,
  .mv, [.t 8]⟩, ⟨some 48, none, .len, [.t 47]⟩, ⟨some 49, none, .bin .lss, [.t 46, .t 48]⟩]).seq (C.cond (.t 49) C.skip (C.exit 4))).seq ((C.block 5 (C.ops [⟨some 52, none, .mv, [.t
  10]⟩, ⟨some 53, none, .mv, [.t 52]⟩, ⟨some 54, some (53, true), .mv, [.t 8]⟩, ⟨some 55, some (53, true), .mv, [.t 11]⟩, ⟨some 56, some (53, true), .idxA 1, [.t 54, .t 55]⟩, ⟨some
  57, some (53, true), .load none, [.t 56]⟩, ⟨some 58, some (53, true), .mv, [.t 5]⟩, ⟨some 59, some (53, true), .mv, [.t 9]⟩, ⟨some 60, some (53, true), .mv, [.t 11]⟩, ⟨some 61,
  some (53, true), .bin .add, [.t 59, .t 60]⟩, ⟨some 62, some (53, true), .idxA 1, [.t 58, .t 61]⟩, ⟨some 63, some (53, true), .load none, [.t 62]⟩, ⟨some 64, some (53, true), .bin
  .eql, [.t 57, .t 63]⟩, ⟨some 65, none, .pick, [.t 53, .t 64, .c (.bool false)]⟩, ⟨some 10, none, .mv, [.t 65]⟩])).seq (C.ops [⟨some 50, none, .mv, [.t 11]⟩, ⟨some 51, none, .bin
  .add, [.t 50, .c (.int .i64 1)]⟩, ⟨some 11, none, .mv, [.t 51]⟩]))).loop)).seq ((C.ops [⟨some 12, none, .mv, [.c (.int .i64 0)]⟩]).seq (C.block 6 (((C.ops [⟨some 66, none, .mv, [.t
  10]⟩, ⟨some 67, none, .mv, [.t 66]⟩, ⟨some 68, some (67, true), .mv, [.t 12]⟩, ⟨some 69, some (67, true), .mv, [.t 8]⟩, ⟨some 70, some (67, true), .len, [.t 69]⟩, ⟨some 71, some
  (67, true), .bin .leq, [.t 68, .t 70]⟩, ⟨some 72, none, .pick, [.t 67, .t 71, .c (.bool false)]⟩]).seq (C.cond (.t 72) C.skip (C.exit 6))).seq ((C.block 7 (C.ops [⟨some 75, none,
  .mv, [.t 6]⟩, ⟨some 76, none, .mv, [.t 9]⟩, ⟨some 77, none, .mv, [.t 12]⟩, ⟨some 78, none, .bin .add, [.t 76, .t 77]⟩, ⟨some 79, none, .mv, [.t 6]⟩, ⟨some 80, none, .mv, [.t 9]⟩,
  ⟨some 81, none, .mv, [.t 12]⟩, ⟨some 82, none, .bin .add, [.t 80, .t 81]⟩, ⟨some 83, none, .idxA 1, [.t 79, .t 82]⟩, ⟨some 84, none, .load none, [.t 83]⟩, ⟨some 85, none, .mv, [.t
  0]⟩, ⟨some 86, none, .mv, [.t 7]⟩, ⟨some 87, none, .idxA 2, [.t 85, .t 86]⟩, ⟨some 88, none, .fldA 1, [.t 87]⟩, ⟨some 89, none, .load none, [.t 88]⟩, ⟨some 90, none, .mv, [.t 12]⟩,
  ⟨some 91, none, .idxA 1, [.t 89, .t 90]⟩, ⟨some 92, none, .load none, [.t 91]⟩, ⟨some 93, none, .mm true, [.t 84, .t 92]⟩, ⟨some 94, none, .idxA 1, [.t 75, .t 78]⟩, ⟨none, none,
  .store 1, [.t 94, .t 93]⟩])).seq (C.ops [⟨some 73, none, .mv, [.t 12]⟩, ⟨some 74, none, .bin .add, [.t 73, .c (.int .i64 1)]⟩, ⟨some 12, none, .mv, [.t 74]⟩]))).loop))))).seq
  (C.ops [⟨some 44, none, .mv, [.t 9]⟩, ⟨some 45, none, .bin .add, [.t 44, .c (.int .i64 1)]⟩, ⟨some 9, none, .mv, [.t 45]⟩]))).loop)))).seq (C.ops [⟨some 28, none, .mv, [.t 7]⟩,
  ⟨some 29, none, .bin .add, [.t 28, .c (.int .i64 1)]⟩, ⟨some 7, none, .mv, [.t 29]⟩]))).loop)).seq ((C.ops [⟨some 95, none, .mv, [.t 6]⟩, ⟨some 96, none, .mv, [.t 5]⟩, ⟨some 97,
  none, .len, [.t 96]⟩, ⟨some 98, none, .bin .sub, [.t 97, .c (.int .i64 1)]⟩, ⟨some 99, none, .slc 1 true true, [.t 95, .c (.int .i64 2), .t 98]⟩, ⟨some 4, none, .mv, [.t 99]⟩]).seq
  C.ret)))))
theorem fn58d : FnIs Tryd.prog 58 100 6 [RV.tmp 4] c58d := ⟨Tryd.f58, Tryd.f58.body.getD .skip, [4, 13, 17, 18, 19, 23], [74, 97, 42, 44, 59, 48, 50, 52, 69, 81, 96], [], by kernel_rfl, by kernel_rfl, by kernel_rfl, by kernel_rfl, by kernel_rfl, by kernel_rfl, by kernel_rfl⟩
/-- slices.Clone[[]apograph/api.Pattern,apograph/api.Pattern] -/
def c59d : C :=
  ((C.ops [⟨some 2, none, .nilo 0 2 32, []⟩]).seq (((C.ops [⟨some 3, none, .mv, [.t 0]⟩, ⟨some 4, none, .isnil .slice false, [.t 3]⟩]).seq (C.cond (.t 4) ((C.ops [⟨some 2, none,
  .nilo 0 2 32, []⟩]).seq C.ret) C.skip)).seq ((C.ops [⟨some 5, none, .bslc 1 2 0 32 [.str [], .nl] [], []⟩, ⟨some 6, none, .mv, [.t 0]⟩, ⟨some 7, none, .app 2 2 32 40, [.t 5, .t
  6]⟩, ⟨some 2, none, .mv, [.t 7]⟩]).seq
  C.ret)))
theorem fn59d : FnIs Tryd.prog 59 8 3 [RV.tmp 2] c59d := ⟨Tryd.f59, Tryd.f59.body.getD .skip, [2, 5, 7], [74, 97, 42, 44, 59, 48, 50, 52, 69, 81, 96], [], by kernel_rfl, by kernel_rfl, by kernel_rfl, by kernel_rfl, by kernel_rfl, by kernel_rfl, by kernel_rfl⟩
/-- strings.ContainsFunc -/
def c60d : C :=
  ((C.ops [⟨some 4, none, .mv, [.c (.bool false)]⟩]).seq ((C.ops [⟨some 5, none, .mv, [.t 0]⟩, ⟨some 6, none, .mv, [.t 1]⟩, ⟨some 7, none, .call 93 true, [.t 5, .t 6]⟩, ⟨some 8,
  none, .bin .geq, [.t 7, .c (.int .i64 0)]⟩, ⟨some 4, none, .mv, [.t 8]⟩]).seq
  C.ret))
theorem fn60d : FnIs Tryd.prog 60 9 0 [RV.tmp 4] c60d := ⟨Tryd.f60, Tryd.f60.body.getD .skip, [], [74, 97, 42, 44, 59, 48, 50, 52, 69, 81, 96], [], by kernel_rfl, by kernel_rfl, by kernel_rfl, by kernel_rfl, by kernel_rfl, by kernel_rfl, by kernel_rfl⟩
/-- apograph/hyphenation.Without$1 -/
def c61d : C :=
  ((C.ops [⟨some 2, none, .mv, [.c (.bool false)]⟩]).seq ((C.ops [⟨some 3, none, .mv, [.t 0]⟩, ⟨some 4, none, .bin .geq, [.t 3, .c (.int .i32 48)]⟩, ⟨some 5, none, .mv, [.t 4]⟩,
  ⟨some 6, some (5, true), .mv, [.t 0]⟩, ⟨some 7, some (5, true), .bin .leq, [.t 6, .c (.int .i32 57)]⟩, ⟨some 8, none, .pick, [.t 5, .t 7, .c (.bool false)]⟩, ⟨some 2, none, .mv,
  [.t 8]⟩]).seq
  C.ret))
theorem fn61d : FnIs Tryd.prog 61 9 0 [RV.tmp 2] c61d := ⟨Tryd.f61, Tryd.f61.body.getD .skip, [], [74, 97, 42, 44, 59, 48, 50, 52, 69, 81, 96], [], by kernel_rfl, by kernel_rfl, by kernel_rfl, by kernel_rfl, by kernel_rfl, by kernel_rfl, by kernel_rfl⟩
/-- apograph/hyphenation.folded -/
def c62d : C :=
  ((C.ops [⟨some 2, none, .nilo 0 1 9, []⟩]).seq ((C.ops [⟨some 3, none, .mv, [.t 0]⟩, ⟨some 4, none, .call 18 true, [.t 3]⟩, ⟨some 5, none, .call 49 true, [.t 4]⟩, ⟨some 2, none,
  .mv, [.t 5]⟩]).seq
  C.ret))
theorem fn62d : FnIs Tryd.prog 62 6 1 [RV.tmp 2] c62d := ⟨Tryd.f62, Tryd.f62.body.getD .skip, [2], [74, 97, 42, 44, 59, 48, 50, 52, 69, 81, 96], [], by kernel_rfl, by kernel_rfl, by kernel_rfl, by kernel_rfl, by kernel_rfl, by kernel_rfl, by kernel_rfl⟩
/-- slices.Index[[]int,int] -/
def c63d : C :=
  ((C.ops [⟨some 4, none, .mv, [.c (.int .i64 0)]⟩]).seq (((C.ops [⟨some 6, none, .mv, [.t 0]⟩, ⟨some 7, none, .len, [.t 6]⟩, ⟨some 8, none, .mv, [.c (.int .i64 0)]⟩]).seq (C.block 0
  ((C.ops [⟨some 9, none, .bin .lss, [.t 8, .t 7]⟩]).seq ((C.cond (.t 9) C.skip (C.exit 0)).seq ((C.block 1 ((C.ops [⟨some 10, none, .mv, [.t 8]⟩, ⟨some 5, none, .mv, [.t 10]⟩]).seq
  ((C.ops [⟨some 11, none, .mv, [.t 1]⟩, ⟨some 12, none, .mv, [.t 0]⟩, ⟨some 13, none, .mv, [.t 5]⟩, ⟨some 14, none, .idxA 1, [.t 12, .t 13]⟩, ⟨some 15, none, .load none, [.t 14]⟩,
  ⟨some 16, none, .bin .eql, [.t 11, .t 15]⟩]).seq (C.cond (.t 16) ((C.ops [⟨some 17, none, .mv, [.t 5]⟩, ⟨some 4, none, .mv, [.t 17]⟩]).seq C.ret) C.skip)))).seq (C.ops [⟨some 18,
  none, .bin .add, [.t 8, .c (.int .i64 1)]⟩, ⟨some 8, none, .mv, [.t 18]⟩])))).loop)).seq ((C.ops [⟨some 4, none, .mv, [.c (.int .i64 (-1))]⟩]).seq
  C.ret)))
theorem fn63d : FnIs Tryd.prog 63 19 0 [RV.tmp 4] c63d := ⟨Tryd.f63, Tryd.f63.body.getD .skip, [], [74, 97, 42, 44, 59, 48, 50, 52, 69, 81, 96], [], by kernel_rfl, by kernel_rfl, by kernel_rfl, by kernel_rfl, by kernel_rfl, by kernel_rfl, by kernel_rfl⟩
/-- apograph/apographref47.digit -/
def c64d : C :=
  ((C.ops [⟨some 2, none, .mv, [.c (.bool false)]⟩]).seq ((C.ops [⟨some 3, none, .mv, [.t 0]⟩, ⟨some 4, none, .bin .geq, [.t 3, .c (.int .u8 48)]⟩, ⟨some 5, none, .mv, [.t 4]⟩, ⟨some
  6, some (5, true), .mv, [.t 0]⟩, ⟨some 7, some (5, true), .bin .leq, [.t 6, .c (.int .u8 57)]⟩, ⟨some 8, none, .pick, [.t 5, .t 7, .c (.bool false)]⟩, ⟨some 2, none, .mv, [.t
  8]⟩]).seq
  C.ret))
theorem fn64d : FnIs Tryd.prog 64 9 0 [RV.tmp 2] c64d := ⟨Tryd.f64, Tryd.f64.body.getD .skip, [], [74, 97, 42, 44, 59, 48, 50, 52, 69, 81, 96], [], by kernel_rfl, by kernel_rfl, by kernel_rfl, by kernel_rfl, by kernel_rfl, by kernel_rfl, by kernel_rfl⟩
/-- apograph/apographref01.Fold -/
def c65d : C :=
  ((C.ops [⟨some 2, none, .mv, [.c (.str [])]⟩]).seq ((C.ops [⟨some 6, none, .bslc 0 1 0 5 [.int .u8 0] [], []⟩, ⟨some 3, none, .mv, [.t 6]⟩]).seq (((C.ops [⟨some 4, none, .mv, [.c
  (.int .i64 0)]⟩]).seq (C.block 0 (((C.ops [⟨some 7, none, .mv, [.t 4]⟩, ⟨some 8, none, .mv, [.t 0]⟩, ⟨some 9, none, .slen, [.t 8]⟩, ⟨some 10, none, .bin .lss, [.t 7, .t 9]⟩]).seq
  (C.cond (.t 10) C.skip (C.exit 0))).seq ((C.block 1 ((C.ops [⟨some 13, none, .mv, [.t 0]⟩, ⟨some 14, none, .mv, [.t 4]⟩, ⟨some 15, none, .sidx, [.t 13, .t 14]⟩, ⟨some 5, none, .mv,
  [.t 15]⟩]).seq (((C.ops [⟨some 16, none, .mv, [.t 5]⟩, ⟨some 17, none, .bin .geq, [.t 16, .c (.int .u8 65)]⟩, ⟨some 18, none, .mv, [.t 17]⟩, ⟨some 19, some (18, true), .mv, [.t
  5]⟩, ⟨some 20, some (18, true), .bin .leq, [.t 19, .c (.int .u8 90)]⟩, ⟨some 21, none, .pick, [.t 18, .t 20, .c (.bool false)]⟩]).seq (C.cond (.t 21) (C.ops [⟨some 22, none, .mv,
  [.t 5]⟩, ⟨some 23, none, .bin .add, [.t 22, .c (.int .u8 97)]⟩, ⟨some 24, none, .bin .sub, [.t 23, .c (.int .u8 65)]⟩, ⟨some 5, none, .mv, [.t 24]⟩]) C.skip)).seq (C.ops [⟨some 25,
  none, .mv, [.t 3]⟩, ⟨some 26, none, .mv, [.t 5]⟩, ⟨some 27, none, .bslc 1 1 1 5 [.int .u8 0] [(0, 1)], [.t 26]⟩, ⟨some 28, none, .app 2 1 5 1, [.t 25, .t 27]⟩, ⟨some 3, none, .mv,
  [.t 28]⟩])))).seq (C.ops [⟨some 11, none, .mv, [.t 4]⟩, ⟨some 12, none, .bin .add, [.t 11, .c (.int .i64 1)]⟩, ⟨some 4, none, .mv, [.t 12]⟩]))).loop)).seq ((C.ops [⟨some 29, none,
  .mv, [.t 3]⟩, ⟨some 30, none, .b2s, [.t 29]⟩, ⟨some 2, none, .mv, [.t 30]⟩]).seq
  C.ret))))
theorem fn65d : FnIs Tryd.prog 65 31 3 [RV.tmp 2] c65d := ⟨Tryd.f65, Tryd.f65.body.getD .skip, [6, 27, 28], [74, 97, 42, 44, 59, 48, 50, 52, 69, 81, 96], [], by kernel_rfl, by kernel_rfl, by kernel_rfl, by kernel_rfl, by kernel_rfl, by kernel_rfl, by kernel_rfl⟩
/-- slices.ContainsFunc[[]byte,byte] -/
def c66d : C :=
  ((C.ops [⟨some 4, none, .mv, [.c (.bool false)]⟩]).seq ((C.ops [⟨some 5, none, .mv, [.t 0]⟩, ⟨some 6, none, .mv, [.t 1]⟩, ⟨some 7, none, .call 94 true, [.t 5, .t 6]⟩, ⟨some 8,
  none, .bin .geq, [.t 7, .c (.int .i64 0)]⟩, ⟨some 4, none, .mv, [.t 8]⟩]).seq
  C.ret))
theorem fn66d : FnIs Tryd.prog 66 9 0 [RV.tmp 4] c66d := ⟨Tryd.f66, Tryd.f66.body.getD .skip, [], [74, 97, 42, 44, 59, 48, 50, 52, 69, 81, 96], [], by kernel_rfl, by kernel_rfl, by kernel_rfl, by kernel_rfl, by kernel_rfl, by kernel_rfl, by kernel_rfl⟩
/-- apograph/apographlaw47.some$1 -/
def c67d : C :=
  ((C.ops [⟨some 3, none, .mv, [.c (.bool false)]⟩]).seq ((C.ops [⟨some 4, none, .load none, [.t 1]⟩, ⟨some 5, none, .mv, [.t 0]⟩, ⟨some 6, none, .call 68 true, [.t 4, .t 5]⟩, ⟨some
  7, none, .bin .geq, [.t 6, .c (.int .i64 0)]⟩, ⟨some 3, none, .mv, [.t 7]⟩]).seq
  C.ret))
theorem fn67d : FnIs Tryd.prog 67 8 0 [RV.tmp 3] c67d := ⟨Tryd.f67, Tryd.f67.body.getD .skip, [], [74, 97, 42, 44, 59, 48, 50, 52, 69, 81, 96], [], by kernel_rfl, by kernel_rfl, by kernel_rfl, by kernel_rfl, by kernel_rfl, by kernel_rfl, by kernel_rfl⟩
/-- strings.IndexByte -/
def c68d : C :=
  ((C.ops [⟨some 4, none, .mv, [.c (.int .i64 0)]⟩]).seq ((C.ops [⟨some 5, none, .mv, [.t 0]⟩, ⟨some 6, none, .mv, [.t 1]⟩, ⟨some 7, none, .call 95 true, [.t 5, .t 6]⟩, ⟨some 4,
  none, .mv, [.t 7]⟩]).seq
  C.ret))
theorem fn68d : FnIs Tryd.prog 68 8 0 [RV.tmp 4] c68d := ⟨Tryd.f68, Tryd.f68.body.getD .skip, [], [74, 97, 42, 44, 59, 48, 50, 52, 69, 81, 96], [], by kernel_rfl, by kernel_rfl, by kernel_rfl, by kernel_rfl, by kernel_rfl, by kernel_rfl, by kernel_rfl⟩
/-- apograph/charset.Check -/
def c70d : C :=
  ((C.ops [⟨some 2, none, .alloc 0 27 [.int .i64 0], []⟩]).seq (((C.ops [⟨some 6, none, .mv, [.t 0]⟩, ⟨some 7, none, .slen, [.t 6]⟩, ⟨some 8, none, .bin .gtr, [.t 7, .c (.int .i64
  65536)]⟩]).seq (C.cond (.t 8) ((C.ops [⟨none, none, .store 1, [.t 2, .c (.int .i64 4)]⟩]).seq C.ret) C.skip)).seq (((C.ops [⟨some 9, none, .mv, [.t 0]⟩, ⟨some 10, none, .call 43
  true, [.t 9]⟩]).seq (C.block 0 (C.range (.t 10) [11, 12] (C.ops [⟨some 4, none, .mv, [.t 12]⟩]) (C.block 1 ((C.ops [⟨some 13, none, .mv, [.t 4]⟩, ⟨some 14, none, .sidx, [.t 13, .c
  (.int .i64 0)]⟩, ⟨some 15, none, .call 71 true, [.t 14]⟩, ⟨some 5, none, .mv, [.t 15]⟩]).seq ((C.ops [⟨some 16, none, .mv, [.t 5]⟩, ⟨some 17, none, .bin .eql, [.t 16, .c (.int .i64
  0)]⟩, ⟨some 18, none, .mv, [.t 17]⟩, ⟨some 19, some (18, false), .mv, [.t 5]⟩, ⟨some 20, some (18, false), .bin .eql, [.t 19, .c (.int .i64 2)]⟩, ⟨some 21, none, .pick, [.t 18, .c
  (.bool true), .t 20]⟩]).seq (C.cond (.t 21) ((C.ops [⟨none, none, .store 1, [.t 2, .c (.int .i64 11)]⟩]).seq C.ret) C.skip))))))).seq ((C.ops [⟨none, none, .store 1, [.t 2, .c
  (.int .i64 0)]⟩]).seq
  C.ret))))
theorem fn70d : FnIs Tryd.prog 70 22 1 [RV.cell 2 none] c70d := ⟨Tryd.f70, Tryd.f70.body.getD .skip, [2], [74, 97, 42, 44, 59, 48, 50, 52, 69, 81, 96], [], by kernel_rfl, by kernel_rfl, by kernel_rfl, by kernel_rfl, by kernel_rfl, by kernel_rfl, by kernel_rfl⟩
/-- apograph/charset.Kind -/
def c71d : C :=
  ((C.ops [⟨some 2, none, .mv, [.c (.int .i64 0)]⟩]).seq ((C.block 0 ((C.ops [⟨some 4, none, .mv, [.t 0]⟩, ⟨some 5, none, .bin .geq, [.t 4, .c (.int .u8 97)]⟩, ⟨some 6, none, .mv,
  [.t 5]⟩, ⟨some 7, some (6, true), .mv, [.t 0]⟩, ⟨some 8, some (6, true), .bin .leq, [.t 7, .c (.int .u8 122)]⟩, ⟨some 9, none, .pick, [.t 6, .t 8, .c (.bool false)]⟩, ⟨some 10,
  none, .mv, [.t 9]⟩, ⟨some 11, some (10, false), .mv, [.t 0]⟩, ⟨some 12, some (10, false), .bin .geq, [.t 11, .c (.int .u8 65)]⟩, ⟨some 13, some (10, false), .mv, [.t 12]⟩, ⟨some
  14, some (13, true), .mv, [.t 0]⟩, ⟨some 15, some (13, true), .bin .leq, [.t 14, .c (.int .u8 90)]⟩, ⟨some 16, some (10, false), .pick, [.t 13, .t 15, .c (.bool false)]⟩, ⟨some 17,
  none, .pick, [.t 10, .c (.bool true), .t 16]⟩, ⟨some 3, none, .mv, [.t 17]⟩]).seq (C.cond (.t 3) ((C.ops [⟨some 2, none, .mv, [.c (.int .i64 1)]⟩]).seq C.ret) ((C.ops [⟨some 19,
  none, .mv, [.t 0]⟩, ⟨some 20, none, .bin .eql, [.t 19, .c (.int .u8 94)]⟩, ⟨some 21, none, .mv, [.t 20]⟩, ⟨some 22, some (21, false), .mv, [.t 0]⟩, ⟨some 23, some (21, false), .bin
  .eql, [.t 22, .c (.int .u8 126)]⟩, ⟨some 24, none, .pick, [.t 21, .c (.bool true), .t 23]⟩, ⟨some 25, none, .mv, [.t 24]⟩, ⟨some 26, some (25, false), .mv, [.t 0]⟩, ⟨some 27, some
  (25, false), .bin .eql, [.t 26, .c (.int .u8 37)]⟩, ⟨some 28, none, .pick, [.t 25, .c (.bool true), .t 27]⟩, ⟨some 18, none, .mv, [.t 28]⟩]).seq (C.cond (.t 18) ((C.ops [⟨some 2,
  none, .mv, [.c (.int .i64 2)]⟩]).seq C.ret) ((C.ops [⟨some 30, none, .mv, [.t 0]⟩, ⟨some 31, none, .bin .geq, [.t 30, .c (.int .u8 48)]⟩, ⟨some 32, none, .mv, [.t 31]⟩, ⟨some 33,
  some (32, true), .mv, [.t 0]⟩, ⟨some 34, some (32, true), .bin .leq, [.t 33, .c (.int .u8 57)]⟩, ⟨some 35, none, .pick, [.t 32, .t 34, .c (.bool false)]⟩, ⟨some 29, none, .mv, [.t
  35]⟩]).seq (C.cond (.t 29) ((C.ops [⟨some 2, none, .mv, [.c (.int .i64 3)]⟩]).seq C.ret) ((C.ops [⟨some 37, none, .mv, [.t 0]⟩, ⟨some 38, none, .bin .eql, [.t 37, .c (.int .u8
  39)]⟩, ⟨some 36, none, .mv, [.t 38]⟩]).seq (C.cond (.t 36) ((C.ops [⟨some 2, none, .mv, [.c (.int .i64 4)]⟩]).seq C.ret) ((C.ops [⟨some 40, none, .mv, [.t 0]⟩, ⟨some 41, none, .bin
  .eql, [.t 40, .c (.int .u8 32)]⟩, ⟨some 39, none, .mv, [.t 41]⟩]).seq (C.cond (.t 39) ((C.ops [⟨some 2, none, .mv, [.c (.int .i64 6)]⟩]).seq C.ret) ((C.ops [⟨some 43, none, .mv,
  [.t 0]⟩, ⟨some 44, none, .bin .neq, [.t 43, .c (.int .u8 0)]⟩, ⟨some 45, none, .mv, [.t 44]⟩, ⟨some 46, some (45, true), .mv, [.t 0]⟩, ⟨some 47, some (45, true), .call 68 true, [.c
  (.str [46, 44, 59, 58, 33, 63, 40, 41, 45]), .t 46]⟩, ⟨some 48, some (45, true), .bin .geq, [.t 47, .c (.int .i64 0)]⟩, ⟨some 49, none, .pick, [.t 45, .t 48, .c (.bool false)]⟩,
  ⟨some 42, none, .mv, [.t 49]⟩]).seq (C.cond (.t 42) ((C.ops [⟨some 2, none, .mv, [.c (.int .i64 5)]⟩]).seq C.ret) C.skip))))))))))))).seq ((C.ops [⟨some 2, none, .mv, [.c (.int
  .i64 0)]⟩]).seq
  C.ret)))
theorem fn71d : FnIs Tryd.prog 71 50 0 [RV.tmp 2] c71d := ⟨Tryd.f71, Tryd.f71.body.getD .skip, [], [74, 97, 42, 44, 59, 48, 50, 52, 69, 81, 96], [], by kernel_rfl, by kernel_rfl, by kernel_rfl, by kernel_rfl, by kernel_rfl, by kernel_rfl, by kernel_rfl⟩
/-- apograph/charset.IsWord$1 -/
def c72d : C :=
  ((C.ops [⟨some 2, none, .mv, [.c (.bool false)]⟩]).seq ((C.ops [⟨some 4, none, .mv, [.t 0]⟩, ⟨some 5, none, .call 71 true, [.t 4]⟩, ⟨some 3, none, .mv, [.t 5]⟩]).seq ((C.ops [⟨some
  6, none, .mv, [.t 3]⟩, ⟨some 7, none, .bin .eql, [.t 6, .c (.int .i64 5)]⟩, ⟨some 8, none, .mv, [.t 7]⟩, ⟨some 9, some (8, false), .mv, [.t 3]⟩, ⟨some 10, some (8, false), .bin
  .eql, [.t 9, .c (.int .i64 6)]⟩, ⟨some 11, none, .pick, [.t 8, .c (.bool true), .t 10]⟩, ⟨some 2, none, .mv, [.t 11]⟩]).seq
  C.ret)))
theorem fn72d : FnIs Tryd.prog 72 12 0 [RV.tmp 2] c72d := ⟨Tryd.f72, Tryd.f72.body.getD .skip, [], [74, 97, 42, 44, 59, 48, 50, 52, 69, 81, 96], [], by kernel_rfl, by kernel_rfl, by kernel_rfl, by kernel_rfl, by kernel_rfl, by kernel_rfl, by kernel_rfl⟩
/-- slices.Concat[[]string,string] -/
def c73d : C :=
  ((C.ops [⟨some 2, none, .nilo 0 1 9, []⟩]).seq ((C.ops [⟨some 3, none, .mv, [.c (.int .i64 0)]⟩]).seq (((C.ops [⟨some 9, none, .mv, [.t 0]⟩, ⟨some 10, none, .len, [.t 9]⟩, ⟨some
  11, none, .mv, [.c (.int .i64 0)]⟩]).seq (C.block 0 ((C.ops [⟨some 12, none, .bin .lss, [.t 11, .t 10]⟩]).seq ((C.cond (.t 12) C.skip (C.exit 0)).seq ((C.block 1 ((C.ops [⟨some 13,
  none, .idxA 1, [.t 9, .t 11]⟩, ⟨some 14, none, .load none, [.t 13]⟩, ⟨some 5, none, .mv, [.t 14]⟩]).seq ((C.ops [⟨some 15, none, .mv, [.t 3]⟩, ⟨some 16, none, .mv, [.t 5]⟩, ⟨some
  17, none, .len, [.t 16]⟩, ⟨some 18, none, .bin .add, [.t 15, .t 17]⟩, ⟨some 3, none, .mv, [.t 18]⟩]).seq ((C.ops [⟨some 19, none, .mv, [.t 3]⟩, ⟨some 20, none, .bin .lss, [.t 19,
  .c (.int .i64 0)]⟩]).seq (C.cond (.t 20) C.bad C.skip))))).seq (C.ops [⟨some 22, none, .bin .add, [.t 11, .c (.int .i64 1)]⟩, ⟨some 11, none, .mv, [.t 22]⟩])))).loop)).seq ((C.ops
  [⟨some 23, none, .mv, [.t 3]⟩, ⟨some 24, none, .call 97 false, [.c .nl, .t 23]⟩, ⟨some 6, none, .mv, [.t 24]⟩]).seq (((C.ops [⟨some 25, none, .mv, [.t 0]⟩, ⟨some 26, none, .len,
  [.t 25]⟩, ⟨some 27, none, .mv, [.c (.int .i64 0)]⟩]).seq (C.block 2 ((C.ops [⟨some 28, none, .bin .lss, [.t 27, .t 26]⟩]).seq ((C.cond (.t 28) C.skip (C.exit 2)).seq ((C.block 3
  ((C.ops [⟨some 29, none, .idxA 1, [.t 25, .t 27]⟩, ⟨some 30, none, .load none, [.t 29]⟩, ⟨some 8, none, .mv, [.t 30]⟩]).seq (C.ops [⟨some 31, none, .mv, [.t 6]⟩, ⟨some 32, none,
  .mv, [.t 8]⟩, ⟨some 33, none, .app 1 1 9 16, [.t 31, .t 32]⟩, ⟨some 6, none, .mv, [.t 33]⟩]))).seq (C.ops [⟨some 34, none, .bin .add, [.t 27, .c (.int .i64 1)]⟩, ⟨some 27, none,
  .mv, [.t 34]⟩])))).loop)).seq ((C.ops [⟨some 35, none, .mv, [.t 6]⟩, ⟨some 2, none, .mv, [.t 35]⟩]).seq
  C.ret))))))
theorem fn73d : FnIs Tryd.prog 73 36 3 [RV.tmp 2] c73d := ⟨Tryd.f73, Tryd.f73.body.getD .skip, [2, 33, 24], [74, 97, 42, 44, 59, 48, 50, 52, 69, 81, 96], [], by kernel_rfl, by kernel_rfl, by kernel_rfl, by kernel_rfl, by kernel_rfl, by kernel_rfl, by kernel_rfl⟩
/-- apograph/hyphenation.levels$1 -/
def c74d : C :=
  (C.ops [⟨some 5, none, .load none, [.t 2]⟩, ⟨some 6, none, .mv, [.t 0]⟩, ⟨some 7, none, .load none, [.t 2]⟩, ⟨some 8, none, .mv, [.t 0]⟩, ⟨some 9, none, .idxA 1, [.t 7, .t 8]⟩,
  ⟨some 10, none, .load none, [.t 9]⟩, ⟨some 11, none, .mv, [.t 1]⟩, ⟨some 12, none, .mm true, [.t 10, .t 11]⟩, ⟨some 13, none, .idxA 1, [.t 5, .t 6]⟩, ⟨none, none, .store 1, [.t 13,
  .t
  12]⟩])
theorem fn74d : FnIs Tryd.prog 74 14 0 [] c74d := ⟨Tryd.f74, Tryd.f74.body.getD .skip, [], [74, 97, 42, 44, 59, 48, 50, 52, 69, 81, 96], [], by kernel_rfl, by kernel_rfl, by kernel_rfl, by kernel_rfl, by kernel_rfl, by kernel_rfl, by kernel_rfl⟩
/-- apograph/hyphenation.places -/
def c75d : C :=
  ((C.ops [⟨some 2, none, .box 0 33, [.t 0]⟩, ⟨some 3, none, .box 1 33, [.t 1]⟩, ⟨some 4, none, .mv, [.c .nilfn]⟩]).seq ((C.ops [⟨some 5, none, .mkfn (Fn.func 98) 0, [.t 2, .t 3]⟩,
  ⟨some 4, none, .mv, [.t 5]⟩]).seq
  C.ret))
theorem fn75d : FnIs Tryd.prog 75 6 2 [RV.tmp 4] c75d := ⟨Tryd.f75, Tryd.f75.body.getD .skip, [2, 3], [74, 97, 42, 44, 59, 48, 50, 52, 69, 81, 96], [], by kernel_rfl, by kernel_rfl, by kernel_rfl, by kernel_rfl, by kernel_rfl, by kernel_rfl, by kernel_rfl⟩
/-- apograph/charset.clusters$1 -/
def c76d : C :=
  ((C.ops [⟨some 3, none, .mv, [.c (.int .i64 0)]⟩]).seq ((C.ops [⟨some 4, none, .mv, [.c (.int .i64 1)]⟩]).seq (C.block 0 (((C.ops [⟨some 5, none, .mv, [.t 4]⟩, ⟨some 6, none, .load
  none, [.t 1]⟩, ⟨some 7, none, .slen, [.t 6]⟩, ⟨some 8, none, .bin .leq, [.t 5, .t 7]⟩]).seq (C.cond (.t 8) C.skip (C.exit 0))).seq ((C.block 1 (((C.ops [⟨some 11, none, .mv, [.t
  4]⟩, ⟨some 12, none, .load none, [.t 1]⟩, ⟨some 13, none, .slen, [.t 12]⟩, ⟨some 14, none, .bin .lss, [.t 11, .t 13]⟩, ⟨some 15, none, .mv, [.t 14]⟩, ⟨some 16, some (15, true),
  .load none, [.t 1]⟩, ⟨some 17, some (15, true), .mv, [.t 4]⟩, ⟨some 18, some (15, true), .sidx, [.t 16, .t 17]⟩, ⟨some 19, some (15, true), .call 71 true, [.t 18]⟩, ⟨some 20, some
  (15, true), .bin .eql, [.t 19, .c (.int .i64 2)]⟩, ⟨some 21, none, .pick, [.t 15, .t 20, .c (.bool false)]⟩, ⟨some 22, none, .mv, [.t 21]⟩, ⟨some 23, some (22, true), .load none,
  [.t 1]⟩, ⟨some 24, some (22, true), .mv, [.t 3]⟩, ⟨some 25, some (22, true), .mv, [.t 4]⟩, ⟨some 26, some (22, true), .call 77 true, [.t 23, .t 24, .t 25]⟩, ⟨some 27, none, .pick,
  [.t 22, .t 26, .c (.bool false)]⟩]).seq (C.cond (.t 27) (C.exit 1) C.skip)).seq (((C.ops [⟨some 28, none, .mv, [.t 0]⟩, ⟨some 29, none, .mv, [.t 3]⟩, ⟨some 30, none, .load none,
  [.t 1]⟩, ⟨some 31, none, .mv, [.t 3]⟩, ⟨some 32, none, .mv, [.t 4]⟩, ⟨some 33, none, .sslc true true, [.t 30, .t 31, .t 32]⟩, ⟨some 34, none, .callv, [.t 28, .t 29, .t 33]⟩, ⟨some
  35, none, .un UnOp.not, [.t 34]⟩]).seq (C.cond (.t 35) C.ret C.skip)).seq (C.ops [⟨some 36, none, .mv, [.t 4]⟩, ⟨some 3, none, .mv, [.t 36]⟩])))).seq (C.ops [⟨some 9, none, .mv,
  [.t 4]⟩, ⟨some 10, none, .bin .add, [.t 9, .c (.int .i64 1)]⟩, ⟨some 4, none, .mv, [.t
  10]⟩]))).loop)))
theorem fn76d : FnIs Tryd.prog 76 37 0 [] c76d := ⟨Tryd.f76, Tryd.f76.body.getD .skip, [], [74, 97, 42, 44, 59, 48, 50, 52, 69, 81, 96], [], by kernel_rfl, by kernel_rfl, by kernel_rfl, by kernel_rfl, by kernel_rfl, by kernel_rfl, by kernel_rfl⟩
/-- apograph/charset.right -/
def c77d : C :=
  ((C.ops [⟨some 6, none, .mv, [.c (.bool false)]⟩]).seq ((C.ops [⟨some 7, none, .mv, [.t 0]⟩, ⟨some 8, none, .mv, [.t 1]⟩, ⟨some 9, none, .sidx, [.t 7, .t 8]⟩, ⟨some 10, none, .call
  71 true, [.t 9]⟩, ⟨some 11, none, .bin .eql, [.t 10, .c (.int .i64 1)]⟩, ⟨some 12, none, .mv, [.t 11]⟩, ⟨some 13, some (12, true), .mv, [.t 2]⟩, ⟨some 14, some (12, true), .mv, [.t
  1]⟩, ⟨some 15, some (12, true), .bin .gtr, [.t 13, .t 14]⟩, ⟨some 16, none, .pick, [.t 12, .t 15, .c (.bool false)]⟩, ⟨some 6, none, .mv, [.t 16]⟩]).seq
  C.ret))
theorem fn77d : FnIs Tryd.prog 77 17 0 [RV.tmp 6] c77d := ⟨Tryd.f77, Tryd.f77.body.getD .skip, [], [74, 97, 42, 44, 59, 48, 50, 52, 69, 81, 96], [], by kernel_rfl, by kernel_rfl, by kernel_rfl, by kernel_rfl, by kernel_rfl, by kernel_rfl, by kernel_rfl⟩
/-- strings.genSplit -/
def c78d : C :=
  ((C.ops [⟨some 8, none, .nilo 0 1 9, []⟩]).seq (((C.ops [⟨some 12, none, .mv, [.t 3]⟩, ⟨some 13, none, .bin .eql, [.t 12, .c (.int .i64 0)]⟩]).seq (C.cond (.t 13) ((C.ops [⟨some 8,
  none, .nilo 0 1 9, []⟩]).seq C.ret) C.skip)).seq (((C.ops [⟨some 14, none, .mv, [.t 1]⟩, ⟨some 15, none, .bin .eql, [.t 14, .c (.str [])]⟩]).seq (C.cond (.t 15) ((C.ops [⟨some 16,
  none, .mv, [.t 0]⟩, ⟨some 17, none, .mv, [.t 3]⟩, ⟨some 18, none, .call 99 true, [.t 16, .t 17]⟩, ⟨some 8, none, .mv, [.t 18]⟩]).seq C.ret) C.skip)).seq (((C.ops [⟨some 19, none,
  .mv, [.t 3]⟩, ⟨some 20, none, .bin .lss, [.t 19, .c (.int .i64 0)]⟩]).seq (C.cond (.t 20) (C.ops [⟨some 21, none, .mv, [.t 0]⟩, ⟨some 22, none, .mv, [.t 1]⟩, ⟨some 23, none, .call
  100 true, [.t 21, .t 22]⟩, ⟨some 24, none, .bin .add, [.t 23, .c (.int .i64 1)]⟩, ⟨some 3, none, .mv, [.t 24]⟩]) C.skip)).seq ((C.ops [⟨some 25, none, .mv, [.t 3]⟩, ⟨some 26, none,
  .mv, [.t 0]⟩, ⟨some 27, none, .slen, [.t 26]⟩, ⟨some 28, none, .bin .add, [.t 27, .c (.int .i64 1)]⟩, ⟨some 29, none, .mm false, [.t 25, .t 28]⟩, ⟨some 3, none, .mv, [.t 29]⟩]).seq
  ((C.ops [⟨some 30, none, .mv, [.t 3]⟩, ⟨some 31, none, .mkslc 1 1 9 [.str []] 16, [.t 30, .t 30]⟩, ⟨some 9, none, .mv, [.t 31]⟩]).seq ((C.ops [⟨some 32, none, .mv, [.t 3]⟩, ⟨some
  33, none, .bin .sub, [.t 32, .c (.int .i64 1)]⟩, ⟨some 3, none, .mv, [.t 33]⟩]).seq ((C.ops [⟨some 10, none, .mv, [.c (.int .i64 0)]⟩]).seq ((C.block 0 (((C.ops [⟨some 34, none,
  .mv, [.t 10]⟩, ⟨some 35, none, .mv, [.t 3]⟩, ⟨some 36, none, .bin .lss, [.t 34, .t 35]⟩]).seq (C.cond (.t 36) C.skip (C.exit 0))).seq (C.block 1 ((C.ops [⟨some 37, none, .mv, [.t
  0]⟩, ⟨some 38, none, .mv, [.t 1]⟩, ⟨some 39, none, .call 101 true, [.t 37, .t 38]⟩, ⟨some 11, none, .mv, [.t 39]⟩]).seq (((C.ops [⟨some 40, none, .mv, [.t 11]⟩, ⟨some 41, none,
  .bin .lss, [.t 40, .c (.int .i64 0)]⟩]).seq (C.cond (.t 41) (C.exit 0) C.skip)).seq ((C.ops [⟨some 42, none, .mv, [.t 9]⟩, ⟨some 43, none, .mv, [.t 10]⟩, ⟨some 44, none, .mv, [.t
  0]⟩, ⟨some 45, none, .mv, [.t 11]⟩, ⟨some 46, none, .mv, [.t 2]⟩, ⟨some 47, none, .bin .add, [.t 45, .t 46]⟩, ⟨some 48, none, .sslc false true, [.t 44, .t 47]⟩, ⟨some 49, none,
  .idxA 1, [.t 42, .t 43]⟩, ⟨none, none, .store 1, [.t 49, .t 48]⟩]).seq ((C.ops [⟨some 50, none, .mv, [.t 0]⟩, ⟨some 51, none, .mv, [.t 11]⟩, ⟨some 52, none, .mv, [.t 1]⟩, ⟨some 53,
  none, .slen, [.t 52]⟩, ⟨some 54, none, .bin .add, [.t 51, .t 53]⟩, ⟨some 55, none, .sslc true false, [.t 50, .t 54]⟩, ⟨some 0, none, .mv, [.t 55]⟩]).seq (C.ops [⟨some 56, none,
  .mv, [.t 10]⟩, ⟨some 57, none, .bin .add, [.t 56, .c (.int .i64 1)]⟩, ⟨some 10, none, .mv, [.t 57]⟩]))))))).loop).seq ((C.ops [⟨some 58, none, .mv, [.t 9]⟩, ⟨some 59, none, .mv,
  [.t 10]⟩, ⟨some 60, none, .mv, [.t 0]⟩, ⟨some 61, none, .idxA 1, [.t 58, .t 59]⟩, ⟨none, none, .store 1, [.t 61, .t 60]⟩]).seq ((C.ops [⟨some 62, none, .mv, [.t 9]⟩, ⟨some 63,
  none, .mv, [.t 10]⟩, ⟨some 64, none, .bin .add, [.t 63, .c (.int .i64 1)]⟩, ⟨some 65, none, .slc 1 false true, [.t 62, .t 64]⟩, ⟨some 8, none, .mv, [.t 65]⟩]).seq
  C.ret)))))))))))
theorem fn78d : FnIs Tryd.prog 78 66 2 [RV.tmp 8] c78d := ⟨Tryd.f78, Tryd.f78.body.getD .skip, [8, 31], [74, 97, 42, 44, 59, 48, 50, 52, 69, 81, 96], [], by kernel_rfl, by kernel_rfl, by kernel_rfl, by kernel_rfl, by kernel_rfl, by kernel_rfl, by kernel_rfl⟩
/-- apograph/hyphenation.digit -/
def c79d : C :=
  ((C.ops [⟨some 2, none, .mv, [.c (.bool false)]⟩]).seq ((C.ops [⟨some 3, none, .mv, [.t 0]⟩, ⟨some 4, none, .call 71 true, [.t 3]⟩, ⟨some 5, none, .bin .eql, [.t 4, .c (.int .i64
  3)]⟩, ⟨some 2, none, .mv, [.t 5]⟩]).seq
  C.ret))
theorem fn79d : FnIs Tryd.prog 79 6 0 [RV.tmp 2] c79d := ⟨Tryd.f79, Tryd.f79.body.getD .skip, [], [74, 97, 42, 44, 59, 48, 50, 52, 69, 81, 96], [], by kernel_rfl, by kernel_rfl, by kernel_rfl, by kernel_rfl, by kernel_rfl, by kernel_rfl, by kernel_rfl⟩
/-- apograph/apographref01.Kind -/
def c80d : C :=
  ((C.ops [⟨some 2, none, .mv, [.c (.int .i64 0)]⟩]).seq ((C.block 0 ((C.ops [⟨some 4, none, .mv, [.t 0]⟩, ⟨some 5, none, .bin .geq, [.t 4, .c (.int .u8 97)]⟩, ⟨some 6, none, .mv,
  [.t 5]⟩, ⟨some 7, some (6, true), .mv, [.t 0]⟩, ⟨some 8, some (6, true), .bin .leq, [.t 7, .c (.int .u8 122)]⟩, ⟨some 9, none, .pick, [.t 6, .t 8, .c (.bool false)]⟩, ⟨some 10,
  none, .mv, [.t 9]⟩, ⟨some 11, some (10, false), .mv, [.t 0]⟩, ⟨some 12, some (10, false), .bin .geq, [.t 11, .c (.int .u8 65)]⟩, ⟨some 13, some (10, false), .mv, [.t 12]⟩, ⟨some
  14, some (13, true), .mv, [.t 0]⟩, ⟨some 15, some (13, true), .bin .leq, [.t 14, .c (.int .u8 90)]⟩, ⟨some 16, some (10, false), .pick, [.t 13, .t 15, .c (.bool false)]⟩, ⟨some 17,
  none, .pick, [.t 10, .c (.bool true), .t 16]⟩, ⟨some 3, none, .mv, [.t 17]⟩]).seq (C.cond (.t 3) ((C.ops [⟨some 2, none, .mv, [.c (.int .i64 1)]⟩]).seq C.ret) ((C.ops [⟨some 19,
  none, .mv, [.t 0]⟩, ⟨some 20, none, .bin .eql, [.t 19, .c (.int .u8 94)]⟩, ⟨some 21, none, .mv, [.t 20]⟩, ⟨some 22, some (21, false), .mv, [.t 0]⟩, ⟨some 23, some (21, false), .bin
  .eql, [.t 22, .c (.int .u8 126)]⟩, ⟨some 24, none, .pick, [.t 21, .c (.bool true), .t 23]⟩, ⟨some 25, none, .mv, [.t 24]⟩, ⟨some 26, some (25, false), .mv, [.t 0]⟩, ⟨some 27, some
  (25, false), .bin .eql, [.t 26, .c (.int .u8 37)]⟩, ⟨some 28, none, .pick, [.t 25, .c (.bool true), .t 27]⟩, ⟨some 18, none, .mv, [.t 28]⟩]).seq (C.cond (.t 18) ((C.ops [⟨some 2,
  none, .mv, [.c (.int .i64 2)]⟩]).seq C.ret) ((C.ops [⟨some 30, none, .mv, [.t 0]⟩, ⟨some 31, none, .bin .geq, [.t 30, .c (.int .u8 48)]⟩, ⟨some 32, none, .mv, [.t 31]⟩, ⟨some 33,
  some (32, true), .mv, [.t 0]⟩, ⟨some 34, some (32, true), .bin .leq, [.t 33, .c (.int .u8 57)]⟩, ⟨some 35, none, .pick, [.t 32, .t 34, .c (.bool false)]⟩, ⟨some 29, none, .mv, [.t
  35]⟩]).seq (C.cond (.t 29) ((C.ops [⟨some 2, none, .mv, [.c (.int .i64 3)]⟩]).seq C.ret) ((C.ops [⟨some 37, none, .mv, [.t 0]⟩, ⟨some 38, none, .bin .eql, [.t 37, .c (.int .u8
  39)]⟩, ⟨some 36, none, .mv, [.t 38]⟩]).seq (C.cond (.t 36) ((C.ops [⟨some 2, none, .mv, [.c (.int .i64 4)]⟩]).seq C.ret) ((C.ops [⟨some 40, none, .mv, [.t 0]⟩, ⟨some 41, none, .bin
  .eql, [.t 40, .c (.int .u8 46)]⟩, ⟨some 42, none, .mv, [.t 41]⟩, ⟨some 43, some (42, false), .mv, [.t 0]⟩, ⟨some 44, some (42, false), .bin .eql, [.t 43, .c (.int .u8 44)]⟩, ⟨some
  45, none, .pick, [.t 42, .c (.bool true), .t 44]⟩, ⟨some 46, none, .mv, [.t 45]⟩, ⟨some 47, some (46, false), .mv, [.t 0]⟩, ⟨some 48, some (46, false), .bin .eql, [.t 47, .c (.int
  .u8 59)]⟩, ⟨some 49, none, .pick, [.t 46, .c (.bool true), .t 48]⟩, ⟨some 50, none, .mv, [.t 49]⟩, ⟨some 51, some (50, false), .mv, [.t 0]⟩, ⟨some 52, some (50, false), .bin .eql,
  [.t 51, .c (.int .u8 58)]⟩, ⟨some 53, none, .pick, [.t 50, .c (.bool true), .t 52]⟩, ⟨some 54, none, .mv, [.t 53]⟩, ⟨some 55, some (54, false), .mv, [.t 0]⟩, ⟨some 56, some (54,
  false), .bin .eql, [.t 55, .c (.int .u8 33)]⟩, ⟨some 57, none, .pick, [.t 54, .c (.bool true), .t 56]⟩, ⟨some 58, none, .mv, [.t 57]⟩, ⟨some 59, some (58, false), .mv, [.t 0]⟩,
  ⟨some 60, some (58, false), .bin .eql, [.t 59, .c (.int .u8 63)]⟩, ⟨some 61, none, .pick, [.t 58, .c (.bool true), .t 60]⟩, ⟨some 62, none, .mv, [.t 61]⟩, ⟨some 63, some (62,
  false), .mv, [.t 0]⟩, ⟨some 64, some (62, false), .bin .eql, [.t 63, .c (.int .u8 40)]⟩, ⟨some 65, none, .pick, [.t 62, .c (.bool true), .t 64]⟩, ⟨some 66, none, .mv, [.t 65]⟩,
  ⟨some 67, some (66, false), .mv, [.t 0]⟩, ⟨some 68, some (66, false), .bin .eql, [.t 67, .c (.int .u8 41)]⟩, ⟨some 69, none, .pick, [.t 66, .c (.bool true), .t 68]⟩, ⟨some 70,
  none, .mv, [.t 69]⟩, ⟨some 71, some (70, false), .mv, [.t 0]⟩, ⟨some 72, some (70, false), .bin .eql, [.t 71, .c (.int .u8 45)]⟩, ⟨some 73, none, .pick, [.t 70, .c (.bool true), .t
  72]⟩, ⟨some 39, none, .mv, [.t 73]⟩]).seq (C.cond (.t 39) ((C.ops [⟨some 2, none, .mv, [.c (.int .i64 5)]⟩]).seq C.ret) ((C.ops [⟨some 75, none, .mv, [.t 0]⟩, ⟨some 76, none, .bin
  .eql, [.t 75, .c (.int .u8 32)]⟩, ⟨some 74, none, .mv, [.t 76]⟩]).seq (C.cond (.t 74) ((C.ops [⟨some 2, none, .mv, [.c (.int .i64 6)]⟩]).seq C.ret) C.skip))))))))))))).seq ((C.ops
  [⟨some 2, none, .mv, [.c (.int .i64 0)]⟩]).seq
  C.ret)))
theorem fn80d : FnIs Tryd.prog 80 77 0 [RV.tmp 2] c80d := ⟨Tryd.f80, Tryd.f80.body.getD .skip, [], [74, 97, 42, 44, 59, 48, 50, 52, 69, 81, 96], [], by kernel_rfl, by kernel_rfl, by kernel_rfl, by kernel_rfl, by kernel_rfl, by kernel_rfl, by kernel_rfl⟩
/-- apograph/apographref01.right -/
def c82d : C :=
  ((C.ops [⟨some 2, none, .nilo 0 1 4, []⟩]).seq ((C.ops [⟨some 5, none, .bslc 1 1 0 4 [.bool false] [], []⟩, ⟨some 3, none, .mv, [.t 5]⟩]).seq (((C.ops [⟨some 4, none, .mv, [.c
  (.int .i64 0)]⟩]).seq (C.block 0 (((C.ops [⟨some 6, none, .mv, [.t 4]⟩, ⟨some 7, none, .mv, [.t 0]⟩, ⟨some 8, none, .slen, [.t 7]⟩, ⟨some 9, none, .bin .lss, [.t 6, .t 8]⟩]).seq
  (C.cond (.t 9) C.skip (C.exit 0))).seq ((C.block 1 (C.ops [⟨some 12, none, .mv, [.t 3]⟩, ⟨some 13, none, .mv, [.t 0]⟩, ⟨some 14, none, .mv, [.t 4]⟩, ⟨some 15, none, .sidx, [.t 13,
  .t 14]⟩, ⟨some 16, none, .call 80 true, [.t 15]⟩, ⟨some 17, none, .bin .eql, [.t 16, .c (.int .i64 2)]⟩, ⟨some 18, none, .mv, [.t 17]⟩, ⟨some 19, some (18, true), .mv, [.t 4]⟩,
  ⟨some 20, some (18, true), .bin .gtr, [.t 19, .c (.int .i64 0)]⟩, ⟨some 21, none, .pick, [.t 18, .t 20, .c (.bool false)]⟩, ⟨some 22, none, .mv, [.t 21]⟩, ⟨some 23, some (22,
  true), .mv, [.t 0]⟩, ⟨some 24, some (22, true), .mv, [.t 4]⟩, ⟨some 25, some (22, true), .bin .sub, [.t 24, .c (.int .i64 1)]⟩, ⟨some 26, some (22, true), .sidx, [.t 23, .t 25]⟩,
  ⟨some 27, some (22, true), .call 80 true, [.t 26]⟩, ⟨some 28, some (22, true), .bin .eql, [.t 27, .c (.int .i64 1)]⟩, ⟨some 29, some (22, true), .mv, [.t 28]⟩, ⟨some 30, some (29,
  false), .mv, [.t 3]⟩, ⟨some 31, some (29, false), .mv, [.t 4]⟩, ⟨some 32, some (29, false), .bin .sub, [.t 31, .c (.int .i64 1)]⟩, ⟨some 33, some (29, false), .idxA 1, [.t 30, .t
  32]⟩, ⟨some 34, some (29, false), .load none, [.t 33]⟩, ⟨some 35, some (22, true), .pick, [.t 29, .c (.bool true), .t 34]⟩, ⟨some 36, none, .pick, [.t 22, .t 35, .c (.bool
  false)]⟩, ⟨some 37, none, .bslc 2 1 1 4 [.bool false] [(0, 1)], [.t 36]⟩, ⟨some 38, none, .app 3 1 4 1, [.t 12, .t 37]⟩, ⟨some 3, none, .mv, [.t 38]⟩])).seq (C.ops [⟨some 10, none,
  .mv, [.t 4]⟩, ⟨some 11, none, .bin .add, [.t 10, .c (.int .i64 1)]⟩, ⟨some 4, none, .mv, [.t 11]⟩]))).loop)).seq ((C.ops [⟨some 39, none, .mv, [.t 3]⟩, ⟨some 2, none, .mv, [.t
  39]⟩]).seq
  C.ret))))
theorem fn82d : FnIs Tryd.prog 82 40 4 [RV.tmp 2] c82d := ⟨Tryd.f82, Tryd.f82.body.getD .skip, [2, 5, 37, 38], [74, 97, 42, 44, 59, 48, 50, 52, 69, 81, 96], [], by kernel_rfl, by kernel_rfl, by kernel_rfl, by kernel_rfl, by kernel_rfl, by kernel_rfl, by kernel_rfl⟩
/-- strings.TrimSuffix -/
def c83d : C :=
  ((C.ops [⟨some 4, none, .mv, [.c (.str [])]⟩]).seq ((C.ops [⟨some 5, none, .mv, [.t 0]⟩, ⟨some 6, none, .mv, [.t 1]⟩, ⟨some 7, none, .call 103 true, [.t 5, .t 6]⟩, ⟨some 4, none,
  .mv, [.t 7]⟩]).seq
  C.ret))
theorem fn83d : FnIs Tryd.prog 83 8 0 [RV.tmp 4] c83d := ⟨Tryd.f83, Tryd.f83.body.getD .skip, [], [74, 97, 42, 44, 59, 48, 50, 52, 69, 81, 96], [], by kernel_rfl, by kernel_rfl, by kernel_rfl, by kernel_rfl, by kernel_rfl, by kernel_rfl, by kernel_rfl⟩
/-- strings.TrimPrefix -/
def c84d : C :=
  ((C.ops [⟨some 4, none, .mv, [.c (.str [])]⟩]).seq ((C.ops [⟨some 5, none, .mv, [.t 0]⟩, ⟨some 6, none, .mv, [.t 1]⟩, ⟨some 7, none, .call 104 true, [.t 5, .t 6]⟩, ⟨some 4, none,
  .mv, [.t 7]⟩]).seq
  C.ret))
theorem fn84d : FnIs Tryd.prog 84 8 0 [RV.tmp 4] c84d := ⟨Tryd.f84, Tryd.f84.body.getD .skip, [], [74, 97, 42, 44, 59, 48, 50, 52, 69, 81, 96], [], by kernel_rfl, by kernel_rfl, by kernel_rfl, by kernel_rfl, by kernel_rfl, by kernel_rfl, by kernel_rfl⟩
/-- apograph/hyphenation.checkPattern$1 -/
def c85d : C :=
  ((C.ops [⟨some 2, none, .mv, [.c (.bool false)]⟩]).seq ((C.ops [⟨some 4, none, .mv, [.t 0]⟩, ⟨some 5, none, .call 71 true, [.t 4]⟩, ⟨some 3, none, .mv, [.t 5]⟩]).seq ((C.ops [⟨some
  6, none, .mv, [.t 3]⟩, ⟨some 7, none, .bin .eql, [.t 6, .c (.int .i64 1)]⟩, ⟨some 8, none, .mv, [.t 7]⟩, ⟨some 9, some (8, false), .mv, [.t 3]⟩, ⟨some 10, some (8, false), .bin
  .eql, [.t 9, .c (.int .i64 2)]⟩, ⟨some 11, none, .pick, [.t 8, .c (.bool true), .t 10]⟩, ⟨some 12, none, .mv, [.t 11]⟩, ⟨some 13, some (12, false), .mv, [.t 3]⟩, ⟨some 14, some
  (12, false), .bin .eql, [.t 13, .c (.int .i64 4)]⟩, ⟨some 15, none, .pick, [.t 12, .c (.bool true), .t 14]⟩, ⟨some 2, none, .mv, [.t 15]⟩]).seq
  C.ret)))
theorem fn85d : FnIs Tryd.prog 85 16 0 [RV.tmp 2] c85d := ⟨Tryd.f85, Tryd.f85.body.getD .skip, [], [74, 97, 42, 44, 59, 48, 50, 52, 69, 81, 96], [], by kernel_rfl, by kernel_rfl, by kernel_rfl, by kernel_rfl, by kernel_rfl, by kernel_rfl, by kernel_rfl⟩
/-- slices.ContainsFunc[[]int,int] -/
def c86d : C :=
  ((C.ops [⟨some 4, none, .mv, [.c (.bool false)]⟩]).seq ((C.ops [⟨some 5, none, .mv, [.t 0]⟩, ⟨some 6, none, .mv, [.t 1]⟩, ⟨some 7, none, .call 105 true, [.t 5, .t 6]⟩, ⟨some 8,
  none, .bin .geq, [.t 7, .c (.int .i64 0)]⟩, ⟨some 4, none, .mv, [.t 8]⟩]).seq
  C.ret))
theorem fn86d : FnIs Tryd.prog 86 9 0 [RV.tmp 4] c86d := ⟨Tryd.f86, Tryd.f86.body.getD .skip, [], [74, 97, 42, 44, 59, 48, 50, 52, 69, 81, 96], [], by kernel_rfl, by kernel_rfl, by kernel_rfl, by kernel_rfl, by kernel_rfl, by kernel_rfl, by kernel_rfl⟩
/-- apograph/hyphenation.checkPattern$2 -/
def c87d : C :=
  ((C.ops [⟨some 2, none, .mv, [.c (.bool false)]⟩]).seq ((C.ops [⟨some 3, none, .mv, [.t 0]⟩, ⟨some 4, none, .bin .lss, [.t 3, .c (.int .i64 0)]⟩, ⟨some 5, none, .mv, [.t 4]⟩, ⟨some
  6, some (5, false), .mv, [.t 0]⟩, ⟨some 7, some (5, false), .bin .gtr, [.t 6, .c (.int .i64 9)]⟩, ⟨some 8, none, .pick, [.t 5, .c (.bool true), .t 7]⟩, ⟨some 2, none, .mv, [.t
  8]⟩]).seq
  C.ret))
theorem fn87d : FnIs Tryd.prog 87 9 0 [RV.tmp 2] c87d := ⟨Tryd.f87, Tryd.f87.body.getD .skip, [], [74, 97, 42, 44, 59, 48, 50, 52, 69, 81, 96], [], by kernel_rfl, by kernel_rfl, by kernel_rfl, by kernel_rfl, by kernel_rfl, by kernel_rfl, by kernel_rfl⟩
/-- strings.HasPrefix -/
def c88d : C :=
  ((C.ops [⟨some 4, none, .mv, [.c (.bool false)]⟩]).seq ((C.ops [⟨some 5, none, .mv, [.t 0]⟩, ⟨some 6, none, .mv, [.t 1]⟩, ⟨some 7, none, .call 106 true, [.t 5, .t 6]⟩, ⟨some 4,
  none, .mv, [.t 7]⟩]).seq
  C.ret))
theorem fn88d : FnIs Tryd.prog 88 8 0 [RV.tmp 4] c88d := ⟨Tryd.f88, Tryd.f88.body.getD .skip, [], [74, 97, 42, 44, 59, 48, 50, 52, 69, 81, 96], [], by kernel_rfl, by kernel_rfl, by kernel_rfl, by kernel_rfl, by kernel_rfl, by kernel_rfl, by kernel_rfl⟩
/-- strings.HasSuffix -/
def c89d : C :=
  ((C.ops [⟨some 4, none, .mv, [.c (.bool false)]⟩]).seq ((C.ops [⟨some 5, none, .mv, [.t 0]⟩, ⟨some 6, none, .mv, [.t 1]⟩, ⟨some 7, none, .call 107 true, [.t 5, .t 6]⟩, ⟨some 4,
  none, .mv, [.t 7]⟩]).seq
  C.ret))
theorem fn89d : FnIs Tryd.prog 89 8 0 [RV.tmp 4] c89d := ⟨Tryd.f89, Tryd.f89.body.getD .skip, [], [74, 97, 42, 44, 59, 48, 50, 52, 69, 81, 96], [], by kernel_rfl, by kernel_rfl, by kernel_rfl, by kernel_rfl, by kernel_rfl, by kernel_rfl, by kernel_rfl⟩
/-- apograph/apographref47.bordered -/
def c90d : C :=
  ((C.ops [⟨some 2, none, .mv, [.c (.str [])]⟩]).seq (((C.ops [⟨some 3, none, .mv, [.t 0]⟩, ⟨some 4, none, .bin .neq, [.t 3, .c (.str [])]⟩, ⟨some 5, none, .mv, [.t 4]⟩, ⟨some 6,
  some (5, true), .mv, [.t 0]⟩, ⟨some 7, some (5, true), .sidx, [.t 6, .c (.int .i64 0)]⟩, ⟨some 8, some (5, true), .bin .eql, [.t 7, .c (.int .u8 46)]⟩, ⟨some 9, none, .pick, [.t 5,
  .t 8, .c (.bool false)]⟩]).seq (C.cond (.t 9) (C.ops [⟨some 10, none, .mv, [.t 0]⟩, ⟨some 11, none, .sslc true false, [.t 10, .c (.int .i64 1)]⟩, ⟨some 0, none, .mv, [.t 11]⟩])
  C.skip)).seq (((C.ops [⟨some 12, none, .mv, [.t 0]⟩, ⟨some 13, none, .bin .neq, [.t 12, .c (.str [])]⟩, ⟨some 14, none, .mv, [.t 13]⟩, ⟨some 15, some (14, true), .mv, [.t 0]⟩,
  ⟨some 16, some (14, true), .mv, [.t 0]⟩, ⟨some 17, some (14, true), .slen, [.t 16]⟩, ⟨some 18, some (14, true), .bin .sub, [.t 17, .c (.int .i64 1)]⟩, ⟨some 19, some (14, true),
  .sidx, [.t 15, .t 18]⟩, ⟨some 20, some (14, true), .bin .eql, [.t 19, .c (.int .u8 46)]⟩, ⟨some 21, none, .pick, [.t 14, .t 20, .c (.bool false)]⟩]).seq (C.cond (.t 21) (C.ops
  [⟨some 22, none, .mv, [.t 0]⟩, ⟨some 23, none, .mv, [.t 0]⟩, ⟨some 24, none, .slen, [.t 23]⟩, ⟨some 25, none, .bin .sub, [.t 24, .c (.int .i64 1)]⟩, ⟨some 26, none, .sslc false
  true, [.t 22, .t 25]⟩, ⟨some 0, none, .mv, [.t 26]⟩]) C.skip)).seq ((C.ops [⟨some 27, none, .mv, [.t 0]⟩, ⟨some 2, none, .mv, [.t 27]⟩]).seq
  C.ret))))
theorem fn90d : FnIs Tryd.prog 90 28 0 [RV.tmp 2] c90d := ⟨Tryd.f90, Tryd.f90.body.getD .skip, [], [74, 97, 42, 44, 59, 48, 50, 52, 69, 81, 96], [], by kernel_rfl, by kernel_rfl, by kernel_rfl, by kernel_rfl, by kernel_rfl, by kernel_rfl, by kernel_rfl⟩
/-- apograph/apographref01.Check -/
def c91d : C :=
  ((C.ops [⟨some 2, none, .mv, [.c (.int .i64 0)]⟩]).seq (((C.ops [⟨some 6, none, .mv, [.t 0]⟩, ⟨some 7, none, .slen, [.t 6]⟩, ⟨some 8, none, .bin .gtr, [.t 7, .c (.int .i64
  65536)]⟩]).seq (C.cond (.t 8) ((C.ops [⟨some 2, none, .mv, [.c (.int .i64 4)]⟩]).seq C.ret) C.skip)).seq ((C.ops [⟨some 9, none, .mv, [.t 0]⟩, ⟨some 10, none, .call 82 true, [.t
  9]⟩, ⟨some 3, none, .mv, [.t 10]⟩]).seq (((C.ops [⟨some 4, none, .mv, [.c (.int .i64 0)]⟩]).seq (C.block 0 (((C.ops [⟨some 11, none, .mv, [.t 4]⟩, ⟨some 12, none, .mv, [.t 0]⟩,
  ⟨some 13, none, .slen, [.t 12]⟩, ⟨some 14, none, .bin .lss, [.t 11, .t 13]⟩]).seq (C.cond (.t 14) C.skip (C.exit 0))).seq ((C.block 1 ((C.ops [⟨some 17, none, .mv, [.t 0]⟩, ⟨some
  18, none, .mv, [.t 4]⟩, ⟨some 19, none, .sidx, [.t 17, .t 18]⟩, ⟨some 20, none, .call 80 true, [.t 19]⟩, ⟨some 5, none, .mv, [.t 20]⟩]).seq ((C.ops [⟨some 21, none, .mv, [.t 5]⟩,
  ⟨some 22, none, .bin .eql, [.t 21, .c (.int .i64 0)]⟩, ⟨some 23, none, .mv, [.t 22]⟩, ⟨some 24, some (23, false), .mv, [.t 5]⟩, ⟨some 25, some (23, false), .bin .eql, [.t 24, .c
  (.int .i64 2)]⟩, ⟨some 26, some (23, false), .mv, [.t 25]⟩, ⟨some 27, some (26, true), .mv, [.t 3]⟩, ⟨some 28, some (26, true), .mv, [.t 4]⟩, ⟨some 29, some (26, true), .idxA 1,
  [.t 27, .t 28]⟩, ⟨some 30, some (26, true), .load none, [.t 29]⟩, ⟨some 31, some (26, true), .un UnOp.not, [.t 30]⟩, ⟨some 32, some (23, false), .pick, [.t 26, .t 31, .c (.bool
  false)]⟩, ⟨some 33, none, .pick, [.t 23, .c (.bool true), .t 32]⟩]).seq (C.cond (.t 33) ((C.ops [⟨some 2, none, .mv, [.c (.int .i64 11)]⟩]).seq C.ret) C.skip)))).seq (C.ops [⟨some
  15, none, .mv, [.t 4]⟩, ⟨some 16, none, .bin .add, [.t 15, .c (.int .i64 1)]⟩, ⟨some 4, none, .mv, [.t 16]⟩]))).loop)).seq ((C.ops [⟨some 2, none, .mv, [.c (.int .i64 0)]⟩]).seq
  C.ret)))))
theorem fn91d : FnIs Tryd.prog 91 34 0 [RV.tmp 2] c91d := ⟨Tryd.f91, Tryd.f91.body.getD .skip, [], [74, 97, 42, 44, 59, 48, 50, 52, 69, 81, 96], [], by kernel_rfl, by kernel_rfl, by kernel_rfl, by kernel_rfl, by kernel_rfl, by kernel_rfl, by kernel_rfl⟩
/-- apograph/apographref01.IsWord -/
def c92d : C :=
  ((C.ops [⟨some 2, none, .mv, [.c (.bool false)]⟩]).seq (((C.ops [⟨some 5, none, .mv, [.t 0]⟩, ⟨some 6, none, .slen, [.t 5]⟩, ⟨some 7, none, .bin .lss, [.t 6, .c (.int .i64 1)]⟩,
  ⟨some 8, none, .mv, [.t 7]⟩, ⟨some 9, some (8, false), .mv, [.t 0]⟩, ⟨some 10, some (8, false), .slen, [.t 9]⟩, ⟨some 11, some (8, false), .bin .gtr, [.t 10, .c (.int .i64 64)]⟩,
  ⟨some 12, none, .pick, [.t 8, .c (.bool true), .t 11]⟩, ⟨some 13, none, .mv, [.t 12]⟩, ⟨some 14, some (13, false), .mv, [.t 0]⟩, ⟨some 15, some (13, false), .call 91 true, [.t
  14]⟩, ⟨some 16, some (13, false), .bin .neq, [.t 15, .c (.int .i64 0)]⟩, ⟨some 17, none, .pick, [.t 13, .c (.bool true), .t 16]⟩]).seq (C.cond (.t 17) ((C.ops [⟨some 2, none, .mv,
  [.c (.bool false)]⟩]).seq C.ret) C.skip)).seq (((C.ops [⟨some 18, none, .mv, [.t 0]⟩, ⟨some 19, none, .sidx, [.t 18, .c (.int .i64 0)]⟩, ⟨some 20, none, .call 80 true, [.t 19]⟩,
  ⟨some 3, none, .mv, [.t 20]⟩]).seq ((C.ops [⟨some 21, none, .mv, [.t 3]⟩, ⟨some 22, none, .bin .neq, [.t 21, .c (.int .i64 1)]⟩, ⟨some 23, none, .mv, [.t 22]⟩, ⟨some 24, some (23,
  true), .mv, [.t 3]⟩, ⟨some 25, some (23, true), .bin .neq, [.t 24, .c (.int .i64 3)]⟩, ⟨some 26, none, .pick, [.t 23, .t 25, .c (.bool false)]⟩]).seq (C.cond (.t 26) ((C.ops [⟨some
  2, none, .mv, [.c (.bool false)]⟩]).seq C.ret) C.skip))).seq (((C.ops [⟨some 4, none, .mv, [.c (.int .i64 0)]⟩]).seq (C.block 0 (((C.ops [⟨some 27, none, .mv, [.t 4]⟩, ⟨some 28,
  none, .mv, [.t 0]⟩, ⟨some 29, none, .slen, [.t 28]⟩, ⟨some 30, none, .bin .lss, [.t 27, .t 29]⟩]).seq (C.cond (.t 30) C.skip (C.exit 0))).seq ((C.block 1 ((C.ops [⟨some 33, none,
  .mv, [.t 0]⟩, ⟨some 34, none, .mv, [.t 4]⟩, ⟨some 35, none, .sidx, [.t 33, .t 34]⟩, ⟨some 36, none, .call 80 true, [.t 35]⟩, ⟨some 37, none, .bin .gtr, [.t 36, .c (.int .i64
  4)]⟩]).seq (C.cond (.t 37) ((C.ops [⟨some 2, none, .mv, [.c (.bool false)]⟩]).seq C.ret) C.skip))).seq (C.ops [⟨some 31, none, .mv, [.t 4]⟩, ⟨some 32, none, .bin .add, [.t 31, .c
  (.int .i64 1)]⟩, ⟨some 4, none, .mv, [.t 32]⟩]))).loop)).seq ((C.ops [⟨some 2, none, .mv, [.c (.bool true)]⟩]).seq
  C.ret)))))
theorem fn92d : FnIs Tryd.prog 92 38 0 [RV.tmp 2] c92d := ⟨Tryd.f92, Tryd.f92.body.getD .skip, [], [74, 97, 42, 44, 59, 48, 50, 52, 69, 81, 96], [], by kernel_rfl, by kernel_rfl, by kernel_rfl, by kernel_rfl, by kernel_rfl, by kernel_rfl, by kernel_rfl⟩
/-- strings.IndexFunc -/
def c93d : C :=
  ((C.ops [⟨some 4, none, .mv, [.c (.int .i64 0)]⟩]).seq ((C.ops [⟨some 5, none, .mv, [.t 0]⟩, ⟨some 6, none, .mv, [.t 1]⟩, ⟨some 7, none, .call 108 true, [.t 5, .t 6, .c (.bool
  true)]⟩, ⟨some 4, none, .mv, [.t 7]⟩]).seq
  C.ret))
theorem fn93d : FnIs Tryd.prog 93 8 0 [RV.tmp 4] c93d := ⟨Tryd.f93, Tryd.f93.body.getD .skip, [], [74, 97, 42, 44, 59, 48, 50, 52, 69, 81, 96], [], by kernel_rfl, by kernel_rfl, by kernel_rfl, by kernel_rfl, by kernel_rfl, by kernel_rfl, by kernel_rfl⟩
/-- slices.IndexFunc[[]byte,byte] -/
def c94d : C :=
  ((C.ops [⟨some 4, none, .mv, [.c (.int .i64 0)]⟩]).seq (((C.ops [⟨some 6, none, .mv, [.t 0]⟩, ⟨some 7, none, .len, [.t 6]⟩, ⟨some 8, none, .mv, [.c (.int .i64 0)]⟩]).seq (C.block 0
  ((C.ops [⟨some 9, none, .bin .lss, [.t 8, .t 7]⟩]).seq ((C.cond (.t 9) C.skip (C.exit 0)).seq ((C.block 1 ((C.ops [⟨some 10, none, .mv, [.t 8]⟩, ⟨some 5, none, .mv, [.t 10]⟩]).seq
  ((C.ops [⟨some 11, none, .mv, [.t 1]⟩, ⟨some 12, none, .mv, [.t 0]⟩, ⟨some 13, none, .mv, [.t 5]⟩, ⟨some 14, none, .idxA 1, [.t 12, .t 13]⟩, ⟨some 15, none, .load none, [.t 14]⟩,
  ⟨some 16, none, .callv, [.t 11, .t 15]⟩]).seq (C.cond (.t 16) ((C.ops [⟨some 17, none, .mv, [.t 5]⟩, ⟨some 4, none, .mv, [.t 17]⟩]).seq C.ret) C.skip)))).seq (C.ops [⟨some 18,
  none, .bin .add, [.t 8, .c (.int .i64 1)]⟩, ⟨some 8, none, .mv, [.t 18]⟩])))).loop)).seq ((C.ops [⟨some 4, none, .mv, [.c (.int .i64 (-1))]⟩]).seq
  C.ret)))
theorem fn94d : FnIs Tryd.prog 94 19 0 [RV.tmp 4] c94d := ⟨Tryd.f94, Tryd.f94.body.getD .skip, [], [74, 97, 42, 44, 59, 48, 50, 52, 69, 81, 96], [], by kernel_rfl, by kernel_rfl, by kernel_rfl, by kernel_rfl, by kernel_rfl, by kernel_rfl, by kernel_rfl⟩
/-- internal/stringslite.IndexByte -/
def c95d : C :=
  ((C.ops [⟨some 4, none, .mv, [.c (.int .i64 0)]⟩]).seq (C.bad.seq
  C.ret))
theorem fn95d : FnIs Tryd.prog 95 8 0 [RV.tmp 4] c95d := ⟨Tryd.f95, Tryd.f95.body.getD .skip, [], [74, 97, 42, 44, 59, 48, 50, 52, 69, 81, 96], [], by kernel_rfl, by kernel_rfl, by kernel_rfl, by kernel_rfl, by kernel_rfl, by kernel_rfl, by kernel_rfl⟩
/-- slices.Grow[[]string,string] -/
def c97d : C :=
  ((C.ops [⟨some 4, none, .nilo 0 1 9, []⟩]).seq (((C.ops [⟨some 5, none, .mv, [.t 1]⟩, ⟨some 6, none, .bin .lss, [.t 5, .c (.int .i64 0)]⟩]).seq (C.cond (.t 6) C.bad C.skip)).seq
  (((C.ops [⟨some 8, none, .mv, [.t 1]⟩, ⟨some 9, none, .mv, [.t 0]⟩, ⟨some 10, none, .cap, [.t 9]⟩, ⟨some 11, none, .mv, [.t 0]⟩, ⟨some 12, none, .len, [.t 11]⟩, ⟨some 13, none,
  .bin .sub, [.t 10, .t 12]⟩, ⟨some 14, none, .bin .sub, [.t 8, .t 13]⟩, ⟨some 1, none, .mv, [.t 14]⟩]).seq ((C.ops [⟨some 15, none, .mv, [.t 1]⟩, ⟨some 16, none, .bin .gtr, [.t 15,
  .c (.int .i64 0)]⟩]).seq (C.cond (.t 16) (C.ops [⟨some 17, none, .mv, [.t 0]⟩, ⟨some 18, none, .mv, [.t 0]⟩, ⟨some 19, none, .cap, [.t 18]⟩, ⟨some 20, none, .slc 1 false true, [.t
  17, .t 19]⟩, ⟨some 21, none, .mv, [.t 1]⟩, ⟨some 22, none, .appz 1 1 9 [.str []] 16, [.t 20, .t 21]⟩, ⟨some 23, none, .mv, [.t 0]⟩, ⟨some 24, none, .len, [.t 23]⟩, ⟨some 25, none,
  .slc 1 false true, [.t 22, .t 24]⟩, ⟨some 0, none, .mv, [.t 25]⟩]) C.skip))).seq ((C.ops [⟨some 26, none, .mv, [.t 0]⟩, ⟨some 4, none, .mv, [.t 26]⟩]).seq
  C.ret))))
theorem fn97d : FnIs Tryd.prog 97 27 2 [RV.tmp 4] c97d := ⟨Tryd.f97, Tryd.f97.body.getD .skip, [4, 22], [74, 97, 42, 44, 59, 48, 50, 52, 69, 81, 96], [], by kernel_rfl, by kernel_rfl, by kernel_rfl, by kernel_rfl, by kernel_rfl, by kernel_rfl, by kernel_rfl⟩
/-- apograph/hyphenation.places$1 -/
def c98d : C :=
  ((C.ops [⟨some 4, none, .mv, [.c (.int .i64 0)]⟩]).seq (C.block 0 (((C.ops [⟨some 5, none, .mv, [.t 4]⟩, ⟨some 6, none, .load none, [.t 1]⟩, ⟨some 7, none, .len, [.t 6]⟩, ⟨some 8,
  none, .bin .add, [.t 5, .t 7]⟩, ⟨some 9, none, .load none, [.t 2]⟩, ⟨some 10, none, .len, [.t 9]⟩, ⟨some 11, none, .bin .leq, [.t 8, .t 10]⟩]).seq (C.cond (.t 11) C.skip (C.exit
  0))).seq ((C.block 1 ((C.ops [⟨some 14, none, .load none, [.t 2]⟩, ⟨some 15, none, .mv, [.t 4]⟩, ⟨some 16, none, .mv, [.t 4]⟩, ⟨some 17, none, .load none, [.t 1]⟩, ⟨some 18, none,
  .len, [.t 17]⟩, ⟨some 19, none, .bin .add, [.t 16, .t 18]⟩, ⟨some 20, none, .slc 1 true true, [.t 14, .t 15, .t 19]⟩, ⟨some 21, none, .load none, [.t 1]⟩, ⟨some 22, none, .call 34
  true, [.t 20, .t 21]⟩, ⟨some 23, none, .mv, [.t 22]⟩, ⟨some 24, some (23, true), .mv, [.t 0]⟩, ⟨some 25, some (23, true), .mv, [.t 4]⟩, ⟨some 26, some (23, true), .callv, [.t 24,
  .t 25]⟩, ⟨some 27, some (23, true), .un UnOp.not, [.t 26]⟩, ⟨some 28, none, .pick, [.t 23, .t 27, .c (.bool false)]⟩]).seq (C.cond (.t 28) C.ret C.skip))).seq (C.ops [⟨some 12,
  none, .mv, [.t 4]⟩, ⟨some 13, none, .bin .add, [.t 12, .c (.int .i64 1)]⟩, ⟨some 4, none, .mv, [.t
  13]⟩]))).loop))
theorem fn98d : FnIs Tryd.prog 98 29 0 [] c98d := ⟨Tryd.f98, Tryd.f98.body.getD .skip, [], [74, 97, 42, 44, 59, 48, 50, 52, 69, 81, 96], [], by kernel_rfl, by kernel_rfl, by kernel_rfl, by kernel_rfl, by kernel_rfl, by kernel_rfl, by kernel_rfl⟩
/-- internal/stringslite.TrimSuffix -/
def c103d : C :=
  ((C.ops [⟨some 4, none, .mv, [.c (.str [])]⟩]).seq (((C.ops [⟨some 5, none, .mv, [.t 0]⟩, ⟨some 6, none, .mv, [.t 1]⟩, ⟨some 7, none, .call 107 true, [.t 5, .t 6]⟩]).seq (C.cond
  (.t 7) ((C.ops [⟨some 8, none, .mv, [.t 0]⟩, ⟨some 9, none, .mv, [.t 0]⟩, ⟨some 10, none, .slen, [.t 9]⟩, ⟨some 11, none, .mv, [.t 1]⟩, ⟨some 12, none, .slen, [.t 11]⟩, ⟨some 13,
  none, .bin .sub, [.t 10, .t 12]⟩, ⟨some 14, none, .sslc false true, [.t 8, .t 13]⟩, ⟨some 4, none, .mv, [.t 14]⟩]).seq C.ret) C.skip)).seq ((C.ops [⟨some 15, none, .mv, [.t 0]⟩,
  ⟨some 4, none, .mv, [.t 15]⟩]).seq
  C.ret)))
theorem fn103d : FnIs Tryd.prog 103 16 0 [RV.tmp 4] c103d := ⟨Tryd.f103, Tryd.f103.body.getD .skip, [], [74, 97, 42, 44, 59, 48, 50, 52, 69, 81, 96], [], by kernel_rfl, by kernel_rfl, by kernel_rfl, by kernel_rfl, by kernel_rfl, by kernel_rfl, by kernel_rfl⟩
/-- internal/stringslite.TrimPrefix -/
def c104d : C :=
  ((C.ops [⟨some 4, none, .mv, [.c (.str [])]⟩]).seq (((C.ops [⟨some 5, none, .mv, [.t 0]⟩, ⟨some 6, none, .mv, [.t 1]⟩, ⟨some 7, none, .call 106 true, [.t 5, .t 6]⟩]).seq (C.cond
  (.t 7) ((C.ops [⟨some 8, none, .mv, [.t 0]⟩, ⟨some 9, none, .mv, [.t 1]⟩, ⟨some 10, none, .slen, [.t 9]⟩, ⟨some 11, none, .sslc true false, [.t 8, .t 10]⟩, ⟨some 4, none, .mv, [.t
  11]⟩]).seq C.ret) C.skip)).seq ((C.ops [⟨some 12, none, .mv, [.t 0]⟩, ⟨some 4, none, .mv, [.t 12]⟩]).seq
  C.ret)))
theorem fn104d : FnIs Tryd.prog 104 13 0 [RV.tmp 4] c104d := ⟨Tryd.f104, Tryd.f104.body.getD .skip, [], [74, 97, 42, 44, 59, 48, 50, 52, 69, 81, 96], [], by kernel_rfl, by kernel_rfl, by kernel_rfl, by kernel_rfl, by kernel_rfl, by kernel_rfl, by kernel_rfl⟩
/-- slices.IndexFunc[[]int,int] -/
def c105d : C :=
  ((C.ops [⟨some 4, none, .mv, [.c (.int .i64 0)]⟩]).seq (((C.ops [⟨some 6, none, .mv, [.t 0]⟩, ⟨some 7, none, .len, [.t 6]⟩, ⟨some 8, none, .mv, [.c (.int .i64 0)]⟩]).seq (C.block 0
  ((C.ops [⟨some 9, none, .bin .lss, [.t 8, .t 7]⟩]).seq ((C.cond (.t 9) C.skip (C.exit 0)).seq ((C.block 1 ((C.ops [⟨some 10, none, .mv, [.t 8]⟩, ⟨some 5, none, .mv, [.t 10]⟩]).seq
  ((C.ops [⟨some 11, none, .mv, [.t 1]⟩, ⟨some 12, none, .mv, [.t 0]⟩, ⟨some 13, none, .mv, [.t 5]⟩, ⟨some 14, none, .idxA 1, [.t 12, .t 13]⟩, ⟨some 15, none, .load none, [.t 14]⟩,
  ⟨some 16, none, .callv, [.t 11, .t 15]⟩]).seq (C.cond (.t 16) ((C.ops [⟨some 17, none, .mv, [.t 5]⟩, ⟨some 4, none, .mv, [.t 17]⟩]).seq C.ret) C.skip)))).seq (C.ops [⟨some 18,
  none, .bin .add, [.t 8, .c (.int .i64 1)]⟩, ⟨some 8, none, .mv, [.t 18]⟩])))).loop)).seq ((C.ops [⟨some 4, none, .mv, [.c (.int .i64 (-1))]⟩]).seq
  C.ret)))
theorem fn105d : FnIs Tryd.prog 105 19 0 [RV.tmp 4] c105d := ⟨Tryd.f105, Tryd.f105.body.getD .skip, [], [74, 97, 42, 44, 59, 48, 50, 52, 69, 81, 96], [], by kernel_rfl, by kernel_rfl, by kernel_rfl, by kernel_rfl, by kernel_rfl, by kernel_rfl, by kernel_rfl⟩
/-- internal/stringslite.HasPrefix -/
def c106d : C :=
  ((C.ops [⟨some 4, none, .mv, [.c (.bool false)]⟩]).seq ((C.ops [⟨some 5, none, .mv, [.t 0]⟩, ⟨some 6, none, .slen, [.t 5]⟩, ⟨some 7, none, .mv, [.t 1]⟩, ⟨some 8, none, .slen, [.t
  7]⟩, ⟨some 9, none, .bin .geq, [.t 6, .t 8]⟩, ⟨some 10, none, .mv, [.t 9]⟩, ⟨some 11, some (10, true), .mv, [.t 0]⟩, ⟨some 12, some (10, true), .mv, [.t 1]⟩, ⟨some 13, some (10,
  true), .slen, [.t 12]⟩, ⟨some 14, some (10, true), .sslc false true, [.t 11, .t 13]⟩, ⟨some 15, some (10, true), .mv, [.t 1]⟩, ⟨some 16, some (10, true), .bin .eql, [.t 14, .t
  15]⟩, ⟨some 17, none, .pick, [.t 10, .t 16, .c (.bool false)]⟩, ⟨some 4, none, .mv, [.t 17]⟩]).seq
  C.ret))
theorem fn106d : FnIs Tryd.prog 106 18 0 [RV.tmp 4] c106d := ⟨Tryd.f106, Tryd.f106.body.getD .skip, [], [74, 97, 42, 44, 59, 48, 50, 52, 69, 81, 96], [], by kernel_rfl, by kernel_rfl, by kernel_rfl, by kernel_rfl, by kernel_rfl, by kernel_rfl, by kernel_rfl⟩
/-- internal/stringslite.HasSuffix -/
def c107d : C :=
  ((C.ops [⟨some 4, none, .mv, [.c (.bool false)]⟩]).seq ((C.ops [⟨some 5, none, .mv, [.t 0]⟩, ⟨some 6, none, .slen, [.t 5]⟩, ⟨some 7, none, .mv, [.t 1]⟩, ⟨some 8, none, .slen, [.t
  7]⟩, ⟨some 9, none, .bin .geq, [.t 6, .t 8]⟩, ⟨some 10, none, .mv, [.t 9]⟩, ⟨some 11, some (10, true), .mv, [.t 0]⟩, ⟨some 12, some (10, true), .mv, [.t 0]⟩, ⟨some 13, some (10,
  true), .slen, [.t 12]⟩, ⟨some 14, some (10, true), .mv, [.t 1]⟩, ⟨some 15, some (10, true), .slen, [.t 14]⟩, ⟨some 16, some (10, true), .bin .sub, [.t 13, .t 15]⟩, ⟨some 17, some
  (10, true), .sslc true false, [.t 11, .t 16]⟩, ⟨some 18, some (10, true), .mv, [.t 1]⟩, ⟨some 19, some (10, true), .bin .eql, [.t 17, .t 18]⟩, ⟨some 20, none, .pick, [.t 10, .t 19,
  .c (.bool false)]⟩, ⟨some 4, none, .mv, [.t 20]⟩]).seq
  C.ret))
theorem fn107d : FnIs Tryd.prog 107 21 0 [RV.tmp 4] c107d := ⟨Tryd.f107, Tryd.f107.body.getD .skip, [], [74, 97, 42, 44, 59, 48, 50, 52, 69, 81, 96], [], by kernel_rfl, by kernel_rfl, by kernel_rfl, by kernel_rfl, by kernel_rfl, by kernel_rfl, by kernel_rfl⟩
/-- strings.indexFunc -/
def c108d : C :=
  ((C.ops [⟨some 6, none, .mv, [.c (.int .i64 0)]⟩]).seq ((C.bad.seq (C.block 0 (C.bad.seq ((C.cond (.t 12) C.skip (C.exit 0)).seq (C.block 1 ((C.ops [⟨some 13, none, .ext 1, [.t
  11]⟩, ⟨some 14, none, .ext 2, [.t 11]⟩, ⟨some 7, none, .mv, [.t 13]⟩, ⟨some 8, none, .mv, [.t 14]⟩]).seq ((C.ops [⟨some 15, none, .mv, [.t 1]⟩, ⟨some 16, none, .mv, [.t 8]⟩, ⟨some
  17, none, .callv, [.t 15, .t 16]⟩, ⟨some 18, none, .mv, [.t 2]⟩, ⟨some 19, none, .bool false, [.t 17, .t 18]⟩]).seq (C.cond (.t 19) ((C.ops [⟨some 20, none, .mv, [.t 7]⟩, ⟨some 6,
  none, .mv, [.t 20]⟩]).seq C.ret) C.skip)))))).loop)).seq ((C.ops [⟨some 6, none, .mv, [.c (.int .i64 (-1))]⟩]).seq
  C.ret)))
theorem fn108d : FnIs Tryd.prog 108 21 0 [RV.tmp 6] c108d := ⟨Tryd.f108, Tryd.f108.body.getD .skip, [], [74, 97, 42, 44, 59, 48, 50, 52, 69, 81, 96], [], by kernel_rfl, by kernel_rfl, by kernel_rfl, by kernel_rfl, by kernel_rfl, by kernel_rfl, by kernel_rfl⟩
end HY
