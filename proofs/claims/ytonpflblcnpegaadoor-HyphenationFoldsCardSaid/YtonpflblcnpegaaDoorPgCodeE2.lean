import Derived.Test.YtonpflblcnpegaaDoorG1
import Derived.Test.YtonpflblcnpegaaDoorProg
set_option linter.all false
set_option linter.unusedSimpArgs false
set_option linter.unusedVariables false
set_option linter.unusedSectionVars false
open Go Go.Proofs AF
namespace HY
set_option maxRecDepth 100000
/-- apograph/apographlaw47.awake -/
def c13e : C :=
  ((C.ops [⟨some 0, none, .mv, [.c (.bool false)]⟩]).seq ((C.ops [⟨some 12, none, .call 21 true, [.c (.str [97, 49, 98, 32, 46, 99, 50, 100, 51, 101, 46])]⟩, ⟨some 11, none, .mv, [.t
  12]⟩, ⟨some 13, none, .ext 0, [.t 11]⟩, ⟨some 14, none, .ext 1, [.t 11]⟩, ⟨some 1, none, .mv, [.t 13]⟩, ⟨some 2, none, .mv, [.t 14]⟩]).seq ((C.ops [⟨some 16, none, .call 39 false,
  []⟩, ⟨some 17, none, .bslc 0 1 3 3 [.int .i64 0] [(0, 1), (1, 1), (2, 1)], [.c (.int .i64 0), .c (.int .i64 3), .c (.int .i64 0)]⟩, ⟨some 18, none, .build [.str [], .nl] [(0, 1),
  (1, 1)], [.c (.str [100, 101]), .t 17]⟩, ⟨some 19, none, .bslc 1 2 1 32 [.str [], .nl] [(0, 2)], [.t 18]⟩, ⟨some 20, none, .app 2 2 32 40, [.t 16, .t 19]⟩, ⟨some 21, none, .call 14
  false, [.t 20, .c (.str [120, 97, 98, 99, 100, 101])]⟩, ⟨some 15, none, .mv, [.t 21]⟩, ⟨some 22, none, .ext 0, [.t 15]⟩, ⟨some 23, none, .ext 1, [.t 15]⟩, ⟨some 3, none, .mv, [.t
  22]⟩, ⟨some 4, none, .mv, [.t 23]⟩]).seq ((C.ops [⟨some 25, none, .call 39 false, []⟩, ⟨some 26, none, .call 30 true, [.t 25, .c (.str [120, 97, 98, 99, 100, 101])]⟩, ⟨some 24,
  none, .mv, [.t 26]⟩, ⟨some 27, none, .ext 0, [.t 24]⟩, ⟨some 28, none, .ext 1, [.t 24]⟩, ⟨some 5, none, .mv, [.t 27]⟩, ⟨some 6, none, .mv, [.t 28]⟩]).seq ((C.ops [⟨some 30, none,
  .call 39 false, []⟩, ⟨some 31, none, .call 14 false, [.t 30, .c (.str [99, 100, 101])]⟩, ⟨some 29, none, .mv, [.t 31]⟩, ⟨some 32, none, .ext 0, [.t 29]⟩, ⟨some 33, none, .ext 1,
  [.t 29]⟩, ⟨some 7, none, .mv, [.t 32]⟩, ⟨some 8, none, .mv, [.t 33]⟩]).seq ((C.ops [⟨some 35, none, .call 39 false, []⟩, ⟨some 36, none, .call 19 true, [.t 35, .c (.str [99, 100,
  101])]⟩, ⟨some 34, none, .mv, [.t 36]⟩, ⟨some 37, none, .ext 0, [.t 34]⟩, ⟨some 38, none, .ext 1, [.t 34]⟩, ⟨some 9, none, .mv, [.t 37]⟩, ⟨some 10, none, .mv, [.t 38]⟩]).seq
  ((C.ops [⟨some 39, none, .mv, [.t 2]⟩, ⟨some 40, none, .mv, [.t 4]⟩, ⟨some 41, none, .mv, [.t 6]⟩, ⟨some 42, none, .mv, [.t 8]⟩, ⟨some 43, none, .mv, [.t 10]⟩, ⟨some 44, none, .mm
  true, [.t 39, .t 40, .t 41, .t 42, .t 43]⟩, ⟨some 45, none, .bin .eql, [.t 44, .c (.int .i64 0)]⟩, ⟨some 46, none, .mv, [.t 45]⟩, ⟨some 47, some (46, true), .mv, [.t 1]⟩, ⟨some 48,
  some (46, true), .call 39 false, []⟩, ⟨some 49, some (46, true), .call 27 true, [.t 47, .t 48]⟩, ⟨some 50, none, .pick, [.t 46, .t 49, .c (.bool false)]⟩, ⟨some 51, none, .mv, [.t
  50]⟩, ⟨some 52, some (51, true), .mv, [.t 3]⟩, ⟨some 53, some (51, true), .bslc 3 1 5 3 [.int .i64 0] [(0, 1), (1, 1), (2, 1), (3, 1), (4, 1)], [.c (.int .i64 0), .c (.int .i64 1),
  .c (.int .i64 0), .c (.int .i64 0), .c (.int .i64 3)]⟩, ⟨some 54, some (51, true), .call 17 true, [.t 52, .t 53]⟩, ⟨some 55, none, .pick, [.t 51, .t 54, .c (.bool false)]⟩, ⟨some
  56, none, .mv, [.t 55]⟩, ⟨some 57, some (56, true), .mv, [.t 5]⟩, ⟨some 58, some (56, true), .bslc 4 1 2 9 [.str []] [(0, 1), (1, 1)], [.c (.str [120, 97]), .c (.str [98, 99, 100,
  101])]⟩, ⟨some 59, some (56, true), .call 34 true, [.t 57, .t 58]⟩, ⟨some 60, none, .pick, [.t 56, .t 59, .c (.bool false)]⟩, ⟨some 61, none, .mv, [.t 60]⟩, ⟨some 62, some (61,
  true), .mv, [.t 7]⟩, ⟨some 63, some (61, true), .bslc 5 1 2 3 [.int .i64 0] [(0, 1), (1, 1)], [.c (.int .i64 2), .c (.int .i64 3)]⟩, ⟨some 64, some (61, true), .call 17 true, [.t
  62, .t 63]⟩, ⟨some 65, none, .pick, [.t 61, .t 64, .c (.bool false)]⟩, ⟨some 66, none, .mv, [.t 65]⟩, ⟨some 67, some (66, true), .mv, [.t 9]⟩, ⟨some 68, some (66, true), .len, [.t
  67]⟩, ⟨some 69, some (66, true), .bin .eql, [.t 68, .c (.int .i64 0)]⟩, ⟨some 70, none, .pick, [.t 66, .t 69, .c (.bool false)]⟩, ⟨some 0, none, .mv, [.t 70]⟩]).seq
  C.ret)))))))
theorem fn13e : FnIs Tryd.prog 13 71 7 [RV.tmp 0] c13e := ⟨Tryd.f13, Tryd.f13.body.getD .skip, [17, 19, 20, 53, 58, 63, 16], [74, 97, 42, 44, 59, 48, 50, 52, 69, 81, 96, 39, 14], [], by kernel_rfl, by kernel_rfl, by kernel_rfl, by kernel_rfl, by kernel_rfl, by kernel_rfl, by kernel_rfl⟩
/-- slices.Concat[[]apograph/api.Pattern,apograph/api.Pattern] -/
def c15e : C :=
  ((C.ops [⟨some 2, none, .nilo 0 2 32, []⟩]).seq ((C.ops [⟨some 3, none, .mv, [.c (.int .i64 0)]⟩]).seq (((C.ops [⟨some 9, none, .mv, [.t 0]⟩, ⟨some 10, none, .len, [.t 9]⟩, ⟨some
  11, none, .mv, [.c (.int .i64 0)]⟩]).seq (C.block 0 ((C.ops [⟨some 12, none, .bin .lss, [.t 11, .t 10]⟩]).seq ((C.cond (.t 12) C.skip (C.exit 0)).seq ((C.block 1 ((C.ops [⟨some 13,
  none, .idxA 1, [.t 9, .t 11]⟩, ⟨some 14, none, .load none, [.t 13]⟩, ⟨some 5, none, .mv, [.t 14]⟩]).seq ((C.ops [⟨some 15, none, .mv, [.t 3]⟩, ⟨some 16, none, .mv, [.t 5]⟩, ⟨some
  17, none, .len, [.t 16]⟩, ⟨some 18, none, .bin .add, [.t 15, .t 17]⟩, ⟨some 3, none, .mv, [.t 18]⟩]).seq ((C.ops [⟨some 19, none, .mv, [.t 3]⟩, ⟨some 20, none, .bin .lss, [.t 19,
  .c (.int .i64 0)]⟩]).seq (C.cond (.t 20) C.bad C.skip))))).seq (C.ops [⟨some 22, none, .bin .add, [.t 11, .c (.int .i64 1)]⟩, ⟨some 11, none, .mv, [.t 22]⟩])))).loop)).seq ((C.ops
  [⟨some 23, none, .mv, [.t 3]⟩, ⟨some 24, none, .call 42 false, [.c .nl, .t 23]⟩, ⟨some 6, none, .mv, [.t 24]⟩]).seq (((C.ops [⟨some 25, none, .mv, [.t 0]⟩, ⟨some 26, none, .len,
  [.t 25]⟩, ⟨some 27, none, .mv, [.c (.int .i64 0)]⟩]).seq (C.block 2 ((C.ops [⟨some 28, none, .bin .lss, [.t 27, .t 26]⟩]).seq ((C.cond (.t 28) C.skip (C.exit 2)).seq ((C.block 3
  ((C.ops [⟨some 29, none, .idxA 1, [.t 25, .t 27]⟩, ⟨some 30, none, .load none, [.t 29]⟩, ⟨some 8, none, .mv, [.t 30]⟩]).seq (C.ops [⟨some 31, none, .mv, [.t 6]⟩, ⟨some 32, none,
  .mv, [.t 8]⟩, ⟨some 33, none, .app 1 2 32 40, [.t 31, .t 32]⟩, ⟨some 6, none, .mv, [.t 33]⟩]))).seq (C.ops [⟨some 34, none, .bin .add, [.t 27, .c (.int .i64 1)]⟩, ⟨some 27, none,
  .mv, [.t 34]⟩])))).loop)).seq ((C.ops [⟨some 35, none, .mv, [.t 6]⟩, ⟨some 2, none, .mv, [.t 35]⟩]).seq
  C.ret))))))
theorem fn15e : FnIs Tryd.prog 15 36 3 [RV.tmp 2] c15e := ⟨Tryd.f15, Tryd.f15.body.getD .skip, [2, 33, 24], [74, 97, 42, 44, 59, 48, 50, 52, 69, 81, 96, 39, 14], [], by kernel_rfl, by kernel_rfl, by kernel_rfl, by kernel_rfl, by kernel_rfl, by kernel_rfl, by kernel_rfl⟩
/-- apograph/hyphenation.Split -/
def c30e : C :=
  ((C.ops [⟨some 4, none, .nilo 0 1 9, []⟩, ⟨some 5, none, .mv, [.c (.int .i64 0)]⟩]).seq (((C.ops [⟨some 13, none, .mv, [.t 0]⟩, ⟨some 14, none, .mv, [.t 1]⟩, ⟨some 15, none, .call
  40 true, [.t 13, .t 14]⟩, ⟨some 6, none, .mv, [.t 15]⟩]).seq ((C.ops [⟨some 16, none, .mv, [.t 6]⟩, ⟨some 17, none, .bin .neq, [.t 16, .c (.int .i64 0)]⟩]).seq (C.cond (.t 17)
  ((C.ops [⟨some 18, none, .mv, [.t 6]⟩, ⟨some 4, none, .nilo 0 1 9, []⟩, ⟨some 5, none, .mv, [.t 18]⟩]).seq C.ret) C.skip))).seq ((C.ops [⟨some 20, none, .mv, [.t 0]⟩, ⟨some 21,
  none, .mv, [.t 1]⟩, ⟨some 22, none, .call 44 false, [.t 20, .t 21]⟩, ⟨some 19, none, .mv, [.t 22]⟩, ⟨some 23, none, .ext 0, [.t 19]⟩, ⟨some 24, none, .ext 1, [.t 19]⟩, ⟨some 7,
  none, .mv, [.t 23]⟩, ⟨some 8, none, .mv, [.t 24]⟩]).seq ((C.ops [⟨some 9, none, .nilo 1 1 9, []⟩]).seq ((C.ops [⟨some 10, none, .mv, [.c (.int .i64 0)]⟩]).seq (((C.ops [⟨some 25,
  none, .mv, [.t 7]⟩, ⟨some 26, none, .mv, [.t 1]⟩, ⟨some 27, none, .slen, [.t 26]⟩, ⟨some 28, none, .bslc 2 1 1 3 [.int .i64 0] [(0, 1)], [.t 27]⟩, ⟨some 29, none, .app 3 1 3 8, [.t
  25, .t 28]⟩, ⟨some 30, none, .len, [.t 29]⟩, ⟨some 31, none, .mv, [.c (.int .i64 0)]⟩]).seq (C.block 0 ((C.ops [⟨some 32, none, .bin .lss, [.t 31, .t 30]⟩]).seq ((C.cond (.t 32)
  C.skip (C.exit 0)).seq ((C.block 1 ((C.ops [⟨some 33, none, .idxA 1, [.t 29, .t 31]⟩, ⟨some 34, none, .load none, [.t 33]⟩, ⟨some 12, none, .mv, [.t 34]⟩]).seq ((C.ops [⟨some 35,
  none, .mv, [.t 9]⟩, ⟨some 36, none, .mv, [.t 1]⟩, ⟨some 37, none, .mv, [.t 10]⟩, ⟨some 38, none, .mv, [.t 12]⟩, ⟨some 39, none, .sslc true true, [.t 36, .t 37, .t 38]⟩, ⟨some 40,
  none, .bslc 4 1 1 9 [.str []] [(0, 1)], [.t 39]⟩, ⟨some 41, none, .app 5 1 9 16, [.t 35, .t 40]⟩, ⟨some 9, none, .mv, [.t 41]⟩]).seq (C.ops [⟨some 42, none, .mv, [.t 12]⟩, ⟨some
  10, none, .mv, [.t 42]⟩])))).seq (C.ops [⟨some 43, none, .bin .add, [.t 31, .c (.int .i64 1)]⟩, ⟨some 31, none, .mv, [.t 43]⟩])))).loop)).seq ((C.ops [⟨some 44, none, .mv, [.t 9]⟩,
  ⟨some 4, none, .mv, [.t 44]⟩, ⟨some 5, none, .mv, [.c (.int .i64 0)]⟩]).seq
  C.ret)))))))
theorem fn30e : FnIs Tryd.prog 30 45 7 [RV.tmp 4, RV.tmp 5] c30e := ⟨Tryd.f30, Tryd.f30.body.getD .skip, [4, 9, 28, 29, 40, 41, 22], [74, 97, 42, 44, 59, 48, 50, 52, 69, 81, 96, 39, 14], [], by kernel_rfl, by kernel_rfl, by kernel_rfl, by kernel_rfl, by kernel_rfl, by kernel_rfl, by kernel_rfl⟩
/-- apograph/apographlaw47.example -/
def c39e : C :=
  ((C.ops [⟨some 0, none, .nilo 0 2 32, []⟩]).seq ((C.ops [⟨some 1, none, .bslc 1 1 3 3 [.int .i64 0] [(0, 1), (1, 1), (2, 1)], [.c (.int .i64 0), .c (.int .i64 1), .c (.int .i64
  0)]⟩, ⟨some 2, none, .build [.str [], .nl] [(0, 1), (1, 1)], [.c (.str [97, 98]), .t 1]⟩, ⟨some 3, none, .bslc 2 1 6 3 [.int .i64 0] [(0, 1), (1, 1), (2, 1), (3, 1), (4, 1), (5,
  1)], [.c (.int .i64 0), .c (.int .i64 0), .c (.int .i64 2), .c (.int .i64 3), .c (.int .i64 0), .c (.int .i64 0)]⟩, ⟨some 4, none, .build [.str [], .nl] [(0, 1), (1, 1)], [.c (.str
  [46, 99, 100, 101, 46]), .t 3]⟩, ⟨some 5, none, .bslc 3 2 2 32 [.str [], .nl] [(0, 2), (2, 2)], [.t 2, .t 4]⟩, ⟨some 0, none, .mv, [.t 5]⟩]).seq
  C.ret))
theorem fn39e : FnIs Tryd.prog 39 6 4 [RV.tmp 0] c39e := ⟨Tryd.f39, Tryd.f39.body.getD .skip, [0, 1, 3, 5], [74, 97, 42, 44, 59, 48, 50, 52, 69, 81, 96, 39, 14], [], by kernel_rfl, by kernel_rfl, by kernel_rfl, by kernel_rfl, by kernel_rfl, by kernel_rfl, by kernel_rfl⟩
/-- slices.Grow[[]apograph/api.Pattern,apograph/api.Pattern] -/
def c42e : C :=
  ((C.ops [⟨some 4, none, .nilo 0 2 32, []⟩]).seq (((C.ops [⟨some 5, none, .mv, [.t 1]⟩, ⟨some 6, none, .bin .lss, [.t 5, .c (.int .i64 0)]⟩]).seq (C.cond (.t 6) C.bad C.skip)).seq
  (((C.ops [⟨some 8, none, .mv, [.t 1]⟩, ⟨some 9, none, .mv, [.t 0]⟩, ⟨some 10, none, .cap, [.t 9]⟩, ⟨some 11, none, .mv, [.t 0]⟩, ⟨some 12, none, .len, [.t 11]⟩, ⟨some 13, none,
  .bin .sub, [.t 10, .t 12]⟩, ⟨some 14, none, .bin .sub, [.t 8, .t 13]⟩, ⟨some 1, none, .mv, [.t 14]⟩]).seq ((C.ops [⟨some 15, none, .mv, [.t 1]⟩, ⟨some 16, none, .bin .gtr, [.t 15,
  .c (.int .i64 0)]⟩]).seq (C.cond (.t 16) (C.ops [⟨some 17, none, .mv, [.t 0]⟩, ⟨some 18, none, .mv, [.t 0]⟩, ⟨some 19, none, .cap, [.t 18]⟩, ⟨some 20, none, .slc 2 false true, [.t
  17, .t 19]⟩, ⟨some 21, none, .mv, [.t 1]⟩, ⟨some 22, none, .appz 1 2 32 [.str [], .nl] 40, [.t 20, .t 21]⟩, ⟨some 23, none, .mv, [.t 0]⟩, ⟨some 24, none, .len, [.t 23]⟩, ⟨some 25,
  none, .slc 2 false true, [.t 22, .t 24]⟩, ⟨some 0, none, .mv, [.t 25]⟩]) C.skip))).seq ((C.ops [⟨some 26, none, .mv, [.t 0]⟩, ⟨some 4, none, .mv, [.t 26]⟩]).seq
  C.ret))))
theorem fn42e : FnIs Tryd.prog 42 27 2 [RV.tmp 4] c42e := ⟨Tryd.f42, Tryd.f42.body.getD .skip, [4, 22], [74, 97, 42, 44, 59, 48, 50, 52, 69, 81, 96, 39, 14], [], by kernel_rfl, by kernel_rfl, by kernel_rfl, by kernel_rfl, by kernel_rfl, by kernel_rfl, by kernel_rfl⟩

end HY
