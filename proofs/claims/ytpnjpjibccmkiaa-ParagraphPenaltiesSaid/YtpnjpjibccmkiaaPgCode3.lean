import Derived.Test.YtpnjpjibccmkiaaAf19
import Derived.Test.YtpnjpjibccmkiaaProg
set_option linter.all false
set_option linter.unusedSimpArgs false
set_option linter.unusedVariables false
set_option linter.unusedSectionVars false
open Go Go.Proofs AF
set_option maxRecDepth 100000
/-- apograph/apographlaw48.ParagraphPenalties -/
def c3m : C :=
  ((C.ops [⟨some 6, none, .mv, [.c (.bool false)]⟩]).seq (((C.ops [⟨some 18, none, .mv, [.t 0]⟩, ⟨some 19, none, .mv, [.t 1]⟩, ⟨some 20, none, .call 10 true, [.t 18, .t 19]⟩, ⟨some
  21, none, .un UnOp.not, [.t 20]⟩]).seq (C.cond (.t 21) ((C.ops [⟨some 22, none, .call 11 true, []⟩, ⟨some 6, none, .mv, [.t 22]⟩]).seq C.ret) C.skip)).seq ((C.ops [⟨some 23, none,
  .mv, [.t 2]⟩, ⟨some 24, none, .conv .i64, [.t 23]⟩, ⟨some 25, none, .bin .rem, [.t 24, .c (.int .i64 1001)]⟩, ⟨some 7, none, .mv, [.t 25]⟩]).seq ((C.ops [⟨some 26, none, .mv, [.t
  0]⟩, ⟨some 27, none, .call 12 false, [.t 26]⟩, ⟨some 8, none, .mv, [.t 27]⟩]).seq ((C.ops [⟨some 9, none, .mv, [.c (.int .i64 0)]⟩]).seq (((C.ops [⟨some 28, none, .mv, [.t 0]⟩,
  ⟨some 29, none, .len, [.t 28]⟩, ⟨some 30, none, .mv, [.c (.int .i64 0)]⟩]).seq (C.block 0 ((C.ops [⟨some 31, none, .bin .lss, [.t 30, .t 29]⟩]).seq ((C.cond (.t 31) C.skip (C.exit
  0)).seq ((C.block 1 ((C.ops [⟨some 32, none, .mv, [.t 30]⟩, ⟨some 33, none, .idxA 6, [.t 28, .t 30]⟩, ⟨some 34, none, .load (some 6), [.t 33]⟩, ⟨some 11, none, .alloc 0 28 [.int
  .i64 0, .int .i64 0, .int .i64 0, .int .i64 0, .int .i64 0, .str []], []⟩, ⟨some 10, none, .mv, [.t 32]⟩, ⟨none, none, .store 6, [.t 11, .t 34]⟩]).seq ((C.ops [⟨some 35, none,
  .fldA 0, [.t 11]⟩, ⟨some 36, none, .load none, [.t 35]⟩, ⟨some 37, none, .bin .eql, [.t 36, .c (.int .i64 3)]⟩, ⟨some 38, none, .mv, [.t 37]⟩, ⟨some 39, some (38, true), .fldA 4,
  [.t 11]⟩, ⟨some 40, some (38, true), .load none, [.t 39]⟩, ⟨some 41, some (38, true), .bin .geq, [.t 40, .c (.int .i64 0)]⟩, ⟨some 42, none, .pick, [.t 38, .t 41, .c (.bool
  false)]⟩, ⟨some 43, none, .mv, [.t 42]⟩, ⟨some 44, some (43, true), .fldA 4, [.t 11]⟩, ⟨some 45, some (43, true), .load none, [.t 44]⟩, ⟨some 46, some (43, true), .mv, [.t 7]⟩,
  ⟨some 47, some (43, true), .bin .add, [.t 45, .t 46]⟩, ⟨some 48, some (43, true), .bin .lss, [.t 47, .c (.int .i64 10000)]⟩, ⟨some 49, none, .pick, [.t 43, .t 48, .c (.bool
  false)]⟩]).seq (C.cond (.t 49) ((C.ops [⟨some 50, none, .mv, [.t 8]⟩, ⟨some 51, none, .mv, [.t 10]⟩, ⟨some 52, none, .idxA 6, [.t 50, .t 51]⟩, ⟨some 53, none, .fldA 4, [.t 52]⟩,
  ⟨some 54, none, .load none, [.t 53]⟩, ⟨some 55, none, .mv, [.t 7]⟩, ⟨some 56, none, .bin .add, [.t 54, .t 55]⟩, ⟨some 57, none, .idxA 6, [.t 50, .t 51]⟩, ⟨some 58, none, .fldA 4,
  [.t 57]⟩, ⟨none, none, .store 1, [.t 58, .t 56]⟩]).seq (C.ops [⟨some 59, none, .mv, [.t 9]⟩, ⟨some 60, none, .bin .add, [.t 59, .c (.int .i64 1)]⟩, ⟨some 9, none, .mv, [.t 60]⟩]))
  C.skip)))).seq (C.ops [⟨some 61, none, .bin .add, [.t 30, .c (.int .i64 1)]⟩, ⟨some 30, none, .mv, [.t 61]⟩])))).loop)).seq ((C.wk.seq (C.ops [⟨some 63, none, .mv, [.t 0]⟩, ⟨some
  64, none, .mv, [.t 1]⟩, ⟨some 65, none, .call 13 true, [.t 63, .t 64]⟩, ⟨some 62, none, .mv, [.t 65]⟩, ⟨some 66, none, .ext 0, [.t 62]⟩, ⟨some 67, none, .ext 1, [.t 62]⟩, ⟨some 68,
  none, .ext 2, [.t 62]⟩, ⟨some 12, none, .mv, [.t 66]⟩, ⟨some 13, none, .mv, [.t 67]⟩, ⟨some 14, none, .mv, [.t 68]⟩])).seq ((C.ops [⟨some 70, none, .mv, [.t 8]⟩, ⟨some 71, none,
  .mv, [.t 1]⟩, ⟨some 72, none, .call 13 true, [.t 70, .t 71]⟩, ⟨some 69, none, .mv, [.t 72]⟩, ⟨some 73, none, .ext 0, [.t 69]⟩, ⟨some 74, none, .ext 1, [.t 69]⟩, ⟨some 75, none,
  .ext 2, [.t 69]⟩, ⟨some 15, none, .mv, [.t 73]⟩, ⟨some 16, none, .mv, [.t 74]⟩, ⟨some 17, none, .mv, [.t 75]⟩]).seq ((C.ops [⟨some 76, none, .mv, [.t 14]⟩, ⟨some 77, none, .mv, [.t
  17]⟩, ⟨some 78, none, .bin .eql, [.t 76, .t 77]⟩, ⟨some 79, none, .mv, [.t 78]⟩, ⟨some 80, some (79, true), .mv, [.t 16]⟩, ⟨some 81, some (79, true), .mv, [.t 13]⟩, ⟨some 82, some
  (79, true), .bin .geq, [.t 80, .t 81]⟩, ⟨some 83, none, .pick, [.t 79, .t 82, .c (.bool false)]⟩, ⟨some 84, none, .mv, [.t 83]⟩, ⟨some 85, some (84, true), .mv, [.t 16]⟩, ⟨some 86,
  some (84, true), .mv, [.t 13]⟩, ⟨some 87, some (84, true), .mv, [.t 7]⟩, ⟨some 88, some (84, true), .mv, [.t 9]⟩, ⟨some 89, some (84, true), .bin .mul, [.t 87, .t 88]⟩, ⟨some 90,
  some (84, true), .bin .add, [.t 86, .t 89]⟩, ⟨some 91, some (84, true), .bin .leq, [.t 85, .t 90]⟩, ⟨some 92, none, .pick, [.t 84, .t 91, .c (.bool false)]⟩, ⟨some 93, none, .mv,
  [.t 92]⟩, ⟨some 94, some (93, true), .call 11 true, []⟩, ⟨some 95, none, .pick, [.t 93, .t 94, .c (.bool false)]⟩, ⟨some 6, none, .mv, [.t 95]⟩]).seq
  C.ret)))))))))
theorem fn3m : FnIs Try.prog 3 96 2 [RV.tmp 6] c3m := ⟨Try.f3, Try.f3.body.getD .skip, [11, 8], [12], [13], by kernel_rfl, by kernel_rfl, by kernel_rfl, by kernel_rfl, by kernel_rfl, by kernel_rfl, by kernel_rfl⟩
