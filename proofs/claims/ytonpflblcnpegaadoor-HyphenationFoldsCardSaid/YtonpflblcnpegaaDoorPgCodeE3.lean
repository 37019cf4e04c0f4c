import Derived.Test.YtonpflblcnpegaaDoorG1
import Derived.Test.YtonpflblcnpegaaDoorProg
set_option linter.all false
set_option linter.unusedSimpArgs false
set_option linter.unusedVariables false
set_option linter.unusedSectionVars false
open Go Go.Proofs AF
namespace HY
set_option maxRecDepth 100000
/-- apograph/apographlaw47.HyphenationFolds -/
def c4e : C :=
  ((C.ops [⟨some 4, none, .mv, [.c (.bool false)]⟩]).seq (((C.ops [⟨some 16, none, .mv, [.t 0]⟩, ⟨some 17, none, .call 11 true, [.t 16]⟩, ⟨some 18, none, .un UnOp.not, [.t 17]⟩,
  ⟨some 19, none, .mv, [.t 18]⟩, ⟨some 20, some (19, false), .mv, [.t 1]⟩, ⟨some 21, some (19, false), .call 12 true, [.t 20]⟩, ⟨some 22, some (19, false), .un UnOp.not, [.t 21]⟩,
  ⟨some 23, none, .pick, [.t 19, .c (.bool true), .t 22]⟩]).seq (C.cond (.t 23) ((C.ops [⟨some 24, none, .call 13 true, []⟩, ⟨some 4, none, .mv, [.t 24]⟩]).seq C.ret) C.skip)).seq
  ((C.ops [⟨some 5, none, .nilo 0 2 32, []⟩]).seq (((C.ops [⟨some 25, none, .mv, [.t 0]⟩, ⟨some 26, none, .len, [.t 25]⟩, ⟨some 27, none, .mv, [.c (.int .i64 0)]⟩]).seq (C.block 0
  ((C.ops [⟨some 28, none, .bin .lss, [.t 27, .t 26]⟩]).seq ((C.cond (.t 28) C.skip (C.exit 0)).seq ((C.block 1 ((C.ops [⟨some 29, none, .idxA 2, [.t 25, .t 27]⟩, ⟨some 30, none,
  .load (some 2), [.t 29]⟩, ⟨some 7, none, .alloc 1 32 [.str [], .nl], []⟩, ⟨none, none, .store 2, [.t 7, .t 30]⟩]).seq (C.ops [⟨some 31, none, .mv, [.t 5]⟩, ⟨some 32, none, .fldA 0,
  [.t 7]⟩, ⟨some 33, none, .load none, [.t 32]⟩, ⟨some 34, none, .call 18 true, [.t 33]⟩, ⟨some 35, none, .fldA 1, [.t 7]⟩, ⟨some 36, none, .load none, [.t 35]⟩, ⟨some 37, none,
  .build [.str [], .nl] [(0, 1), (1, 1)], [.t 34, .t 36]⟩, ⟨some 38, none, .bslc 2 2 1 32 [.str [], .nl] [(0, 2)], [.t 37]⟩, ⟨some 39, none, .app 3 2 32 40, [.t 31, .t 38]⟩, ⟨some 5,
  none, .mv, [.t 39]⟩]))).seq (C.ops [⟨some 40, none, .bin .add, [.t 27, .c (.int .i64 1)]⟩, ⟨some 27, none, .mv, [.t 40]⟩])))).loop)).seq ((C.ops [⟨some 42, none, .mv, [.t 0]⟩,
  ⟨some 43, none, .mv, [.t 1]⟩, ⟨some 44, none, .call 14 false, [.t 42, .t 43]⟩, ⟨some 41, none, .mv, [.t 44]⟩, ⟨some 45, none, .ext 0, [.t 41]⟩, ⟨some 46, none, .ext 1, [.t 41]⟩,
  ⟨some 8, none, .mv, [.t 45]⟩, ⟨some 9, none, .mv, [.t 46]⟩]).seq ((C.ops [⟨some 48, none, .mv, [.t 5]⟩, ⟨some 49, none, .mv, [.t 1]⟩, ⟨some 50, none, .call 18 true, [.t 49]⟩, ⟨some
  51, none, .call 14 false, [.t 48, .t 50]⟩, ⟨some 47, none, .mv, [.t 51]⟩, ⟨some 52, none, .ext 0, [.t 47]⟩, ⟨some 53, none, .ext 1, [.t 47]⟩, ⟨some 10, none, .mv, [.t 52]⟩, ⟨some
  11, none, .mv, [.t 53]⟩]).seq ((C.ops [⟨some 55, none, .mv, [.t 0]⟩, ⟨some 56, none, .mv, [.t 1]⟩, ⟨some 57, none, .call 19 true, [.t 55, .t 56]⟩, ⟨some 54, none, .mv, [.t 57]⟩,
  ⟨some 58, none, .ext 0, [.t 54]⟩, ⟨some 59, none, .ext 1, [.t 54]⟩, ⟨some 12, none, .mv, [.t 58]⟩, ⟨some 13, none, .mv, [.t 59]⟩]).seq ((C.ops [⟨some 61, none, .mv, [.t 0]⟩, ⟨some
  62, none, .mv, [.t 1]⟩, ⟨some 63, none, .call 18 true, [.t 62]⟩, ⟨some 64, none, .call 19 true, [.t 61, .t 63]⟩, ⟨some 60, none, .mv, [.t 64]⟩, ⟨some 65, none, .ext 0, [.t 60]⟩,
  ⟨some 66, none, .ext 1, [.t 60]⟩, ⟨some 14, none, .mv, [.t 65]⟩, ⟨some 15, none, .mv, [.t 66]⟩]).seq ((C.ops [⟨some 67, none, .mv, [.t 9]⟩, ⟨some 68, none, .mv, [.t 11]⟩, ⟨some 69,
  none, .mv, [.t 13]⟩, ⟨some 70, none, .mv, [.t 15]⟩, ⟨some 71, none, .mm true, [.t 67, .t 68, .t 69, .t 70]⟩, ⟨some 72, none, .bin .eql, [.t 71, .c (.int .i64 0)]⟩, ⟨some 73, none,
  .mv, [.t 72]⟩, ⟨some 74, some (73, true), .mv, [.t 8]⟩, ⟨some 75, some (73, true), .mv, [.t 10]⟩, ⟨some 76, some (73, true), .call 17 true, [.t 74, .t 75]⟩, ⟨some 77, none, .pick,
  [.t 73, .t 76, .c (.bool false)]⟩, ⟨some 78, none, .mv, [.t 77]⟩, ⟨some 79, some (78, true), .mv, [.t 12]⟩, ⟨some 80, some (78, true), .mv, [.t 14]⟩, ⟨some 81, some (78, true),
  .call 17 true, [.t 79, .t 80]⟩, ⟨some 82, none, .pick, [.t 78, .t 81, .c (.bool false)]⟩, ⟨some 83, none, .mv, [.t 82]⟩, ⟨some 84, some (83, true), .call 13 true, []⟩, ⟨some 85,
  none, .pick, [.t 83, .t 84, .c (.bool false)]⟩, ⟨some 4, none, .mv, [.t 85]⟩]).seq
  C.ret)))))))))
theorem fn4e : FnIs Tryd.prog 4 86 4 [RV.tmp 4] c4e := ⟨Tryd.f4, Tryd.f4.body.getD .skip, [5, 7, 38, 39], [74, 97, 42, 44, 59, 48, 50, 52, 69, 81, 96, 39, 14], [], by kernel_rfl, by kernel_rfl, by kernel_rfl, by kernel_rfl, by kernel_rfl, by kernel_rfl, by kernel_rfl⟩

end HY
