import Derived.Shelf.Strings.BuilderX
import Derived.Shelf.RegionOpenPlain
import Derived.Lib.Strings
import Derived.Lib.Slices
import Derived.Lib.Walk
import Derived.Lib.Bytealg
import Derived.WalkKit
import Derived.Laws.Externs
import Derived.Test.YtonpflblcnpegaaDoorProg
import Derived.Test.YtonpflblcnpegaaDoorK1
import Derived.Test.YtonpflblcnpegaaDoorK2
set_option linter.all false
set_option linter.unusedSimpArgs false
set_option linter.unusedVariables false
set_option linter.unusedSectionVars false
section
set_option linter.all false
set_option linter.unusedSimpArgs false
set_option linter.unusedVariables false
set_option linter.unusedSectionVars false
set_option linter.unusedVariables false
namespace Go.Proofs
open Go.Shelf Go.RowKit
set_option maxHeartbeats 1000000 in
set_option maxRecDepth 100000 in
theorem ib_calls (s : ByteArray) (c : Int) (w : World) :
    Calls Tryd.prog 95 #[.string s, .int .u8 c] w fun e w' => e = .returned (.int .i64 (Lib.indexByte s.data.toList c.toNat.toUInt8)) ∧ w' = w := by
  go_enter Tryd.func95, Tryd.ntmps95
  go_wp2
  rw [run_callFunc_extern Tryd.func109 (by kernel_rfl) (by kernel_rfl) (by kernel_rfl) (e := Extern.BytealgIndexByte.indexByte) (by kernel_rfl)]
  rw [Lib.run_indexByteString]
  simp only [Result.andThen]
  rw [Oper.upon_value]
  go_wp2
  all_goals (go_ret; exact ⟨rfl, rfl⟩)
end Go.Proofs
end

section
set_option linter.all false
set_option linter.unusedSimpArgs false
set_option linter.unusedVariables false
set_option linter.unusedSectionVars false
open Go Go.Proofs AF
namespace HY
set_option maxRecDepth 100000
def c3d : C :=
  ((C.ops [⟨some 6, none, .mv, [.c (.bool false)]⟩]).seq (((C.ops [⟨some 19, none, .mv, [.t 0]⟩, ⟨some 20, none, .call 11 true, [.t 19]⟩, ⟨some 21, none, .un UnOp.not, [.t 20]⟩,
  ⟨some 22, none, .mv, [.t 21]⟩, ⟨some 23, some (22, false), .mv, [.t 1]⟩, ⟨some 24, some (22, false), .call 11 true, [.t 23]⟩, ⟨some 25, some (22, false), .un UnOp.not, [.t 24]⟩,
  ⟨some 26, none, .pick, [.t 22, .c (.bool true), .t 25]⟩, ⟨some 27, none, .mv, [.t 26]⟩, ⟨some 28, some (27, false), .mv, [.t 2]⟩, ⟨some 29, some (27, false), .call 12 true, [.t
  28]⟩, ⟨some 30, some (27, false), .un UnOp.not, [.t 29]⟩, ⟨some 31, none, .pick, [.t 27, .c (.bool true), .t 30]⟩]).seq (C.cond (.t 31) ((C.ops [⟨some 32, none, .call 13 true, []⟩,
  ⟨some 6, none, .mv, [.t 32]⟩]).seq C.ret) C.skip)).seq ((C.ops [⟨some 34, none, .mv, [.t 0]⟩, ⟨some 35, none, .mv, [.t 2]⟩, ⟨some 36, none, .call 14 true, [.t 34, .t 35]⟩, ⟨some
  33, none, .mv, [.t 36]⟩, ⟨some 37, none, .ext 0, [.t 33]⟩, ⟨some 38, none, .ext 1, [.t 33]⟩, ⟨some 7, none, .mv, [.t 37]⟩, ⟨some 8, none, .mv, [.t 38]⟩]).seq ((C.ops [⟨some 40,
  none, .mv, [.t 1]⟩, ⟨some 41, none, .mv, [.t 2]⟩, ⟨some 42, none, .call 14 true, [.t 40, .t 41]⟩, ⟨some 39, none, .mv, [.t 42]⟩, ⟨some 43, none, .ext 0, [.t 39]⟩, ⟨some 44, none,
  .ext 1, [.t 39]⟩, ⟨some 9, none, .mv, [.t 43]⟩, ⟨some 10, none, .mv, [.t 44]⟩]).seq ((C.ops [⟨some 46, none, .mv, [.t 0]⟩, ⟨some 47, none, .mv, [.t 1]⟩, ⟨some 48, none, .bslc 0 1 2
  22 [.nl] [(0, 1), (1, 1)], [.t 46, .t 47]⟩, ⟨some 49, none, .call 15 true, [.t 48]⟩, ⟨some 50, none, .mv, [.t 2]⟩, ⟨some 51, none, .call 14 true, [.t 49, .t 50]⟩, ⟨some 45, none,
  .mv, [.t 51]⟩, ⟨some 52, none, .ext 0, [.t 45]⟩, ⟨some 53, none, .ext 1, [.t 45]⟩, ⟨some 11, none, .mv, [.t 52]⟩, ⟨some 12, none, .mv, [.t 53]⟩]).seq ((C.ops [⟨some 55, none, .mv,
  [.t 1]⟩, ⟨some 56, none, .mv, [.t 0]⟩, ⟨some 57, none, .bslc 1 1 2 22 [.nl] [(0, 1), (1, 1)], [.t 55, .t 56]⟩, ⟨some 58, none, .call 15 true, [.t 57]⟩, ⟨some 59, none, .mv, [.t
  2]⟩, ⟨some 60, none, .call 14 true, [.t 58, .t 59]⟩, ⟨some 54, none, .mv, [.t 60]⟩, ⟨some 61, none, .ext 0, [.t 54]⟩, ⟨some 62, none, .ext 1, [.t 54]⟩, ⟨some 13, none, .mv, [.t
  61]⟩, ⟨some 14, none, .mv, [.t 62]⟩]).seq ((C.ops [⟨some 64, none, .mv, [.t 2]⟩, ⟨some 65, none, .call 14 true, [.c .nl, .t 64]⟩, ⟨some 63, none, .mv, [.t 65]⟩, ⟨some 66, none,
  .ext 0, [.t 63]⟩, ⟨some 67, none, .ext 1, [.t 63]⟩, ⟨some 15, none, .mv, [.t 66]⟩, ⟨some 16, none, .mv, [.t 67]⟩]).seq ((C.ops [⟨some 68, none, .mv, [.t 2]⟩, ⟨some 69, none, .call
  16 true, [.t 68]⟩, ⟨some 70, none, .len, [.t 69]⟩, ⟨some 71, none, .bin .sub, [.t 70, .c (.int .i64 1)]⟩, ⟨some 17, none, .mv, [.t 71]⟩]).seq (((C.ops [⟨some 72, none, .mv, [.t
  8]⟩, ⟨some 73, none, .mv, [.t 10]⟩, ⟨some 74, none, .mv, [.t 12]⟩, ⟨some 75, none, .mv, [.t 14]⟩, ⟨some 76, none, .mv, [.t 16]⟩, ⟨some 77, none, .mm true, [.t 72, .t 73, .t 74, .t
  75, .t 76]⟩, ⟨some 78, none, .bin .neq, [.t 77, .c (.int .i64 0)]⟩, ⟨some 79, none, .mv, [.t 78]⟩, ⟨some 80, some (79, false), .mv, [.t 7]⟩, ⟨some 81, some (79, false), .len, [.t
  80]⟩, ⟨some 82, some (79, false), .mv, [.t 17]⟩, ⟨some 83, some (79, false), .bin .neq, [.t 81, .t 82]⟩, ⟨some 84, none, .pick, [.t 79, .c (.bool true), .t 83]⟩, ⟨some 85, none,
  .mv, [.t 84]⟩, ⟨some 86, some (85, false), .mv, [.t 9]⟩, ⟨some 87, some (85, false), .len, [.t 86]⟩, ⟨some 88, some (85, false), .mv, [.t 17]⟩, ⟨some 89, some (85, false), .bin
  .neq, [.t 87, .t 88]⟩, ⟨some 90, none, .pick, [.t 85, .c (.bool true), .t 89]⟩, ⟨some 91, none, .mv, [.t 90]⟩, ⟨some 92, some (91, false), .mv, [.t 11]⟩, ⟨some 93, some (91,
  false), .len, [.t 92]⟩, ⟨some 94, some (91, false), .mv, [.t 17]⟩, ⟨some 95, some (91, false), .bin .neq, [.t 93, .t 94]⟩, ⟨some 96, none, .pick, [.t 91, .c (.bool true), .t 95]⟩,
  ⟨some 97, none, .mv, [.t 96]⟩, ⟨some 98, some (97, false), .mv, [.t 15]⟩, ⟨some 99, some (97, false), .len, [.t 98]⟩, ⟨some 100, some (97, false), .mv, [.t 17]⟩, ⟨some 101, some
  (97, false), .bin .neq, [.t 99, .t 100]⟩, ⟨some 102, none, .pick, [.t 97, .c (.bool true), .t 101]⟩, ⟨some 103, none, .mv, [.t 102]⟩, ⟨some 104, some (103, false), .mv, [.t 11]⟩,
  ⟨some 105, some (103, false), .mv, [.t 13]⟩, ⟨some 106, some (103, false), .call 17 true, [.t 104, .t 105]⟩, ⟨some 107, some (103, false), .un UnOp.not, [.t 106]⟩, ⟨some 108, none,
  .pick, [.t 103, .c (.bool true), .t 107]⟩]).seq (C.cond (.t 108) ((C.ops [⟨some 6, none, .mv, [.c (.bool false)]⟩]).seq C.ret) C.skip)).seq (((C.ops [⟨some 109, none, .mv, [.t
  11]⟩, ⟨some 110, none, .len, [.t 109]⟩, ⟨some 111, none, .mv, [.c (.int .i64 0)]⟩]).seq (C.block 0 ((C.ops [⟨some 112, none, .bin .lss, [.t 111, .t 110]⟩]).seq ((C.cond (.t 112)
  C.skip (C.exit 0)).seq ((C.block 1 ((C.ops [⟨some 113, none, .mv, [.t 111]⟩, ⟨some 18, none, .mv, [.t 113]⟩]).seq ((C.ops [⟨some 114, none, .mv, [.t 11]⟩, ⟨some 115, none, .mv, [.t
  18]⟩, ⟨some 116, none, .idxA 1, [.t 114, .t 115]⟩, ⟨some 117, none, .load none, [.t 116]⟩, ⟨some 118, none, .mv, [.t 7]⟩, ⟨some 119, none, .mv, [.t 18]⟩, ⟨some 120, none, .idxA 1,
  [.t 118, .t 119]⟩, ⟨some 121, none, .load none, [.t 120]⟩, ⟨some 122, none, .mv, [.t 9]⟩, ⟨some 123, none, .mv, [.t 18]⟩, ⟨some 124, none, .idxA 1, [.t 122, .t 123]⟩, ⟨some 125,
  none, .load none, [.t 124]⟩, ⟨some 126, none, .mm true, [.t 121, .t 125]⟩, ⟨some 127, none, .bin .neq, [.t 117, .t 126]⟩, ⟨some 128, none, .mv, [.t 127]⟩, ⟨some 129, some (128,
  false), .mv, [.t 15]⟩, ⟨some 130, some (128, false), .mv, [.t 18]⟩, ⟨some 131, some (128, false), .idxA 1, [.t 129, .t 130]⟩, ⟨some 132, some (128, false), .load none, [.t 131]⟩,
  ⟨some 133, some (128, false), .bin .neq, [.t 132, .c (.int .i64 0)]⟩, ⟨some 134, none, .pick, [.t 128, .c (.bool true), .t 133]⟩, ⟨some 135, none, .mv, [.t 134]⟩, ⟨some 136, some
  (135, false), .mv, [.t 7]⟩, ⟨some 137, some (135, false), .mv, [.t 18]⟩, ⟨some 138, some (135, false), .idxA 1, [.t 136, .t 137]⟩, ⟨some 139, some (135, false), .load none, [.t
  138]⟩, ⟨some 140, some (135, false), .bin .lss, [.t 139, .c (.int .i64 0)]⟩, ⟨some 141, none, .pick, [.t 135, .c (.bool true), .t 140]⟩, ⟨some 142, none, .mv, [.t 141]⟩, ⟨some 143,
  some (142, false), .mv, [.t 7]⟩, ⟨some 144, some (142, false), .mv, [.t 18]⟩, ⟨some 145, some (142, false), .idxA 1, [.t 143, .t 144]⟩, ⟨some 146, some (142, false), .load none,
  [.t 145]⟩, ⟨some 147, some (142, false), .bin .gtr, [.t 146, .c (.int .i64 9)]⟩, ⟨some 148, none, .pick, [.t 142, .c (.bool true), .t 147]⟩]).seq (C.cond (.t 148) ((C.ops [⟨some 6,
  none, .mv, [.c (.bool false)]⟩]).seq C.ret) C.skip)))).seq (C.ops [⟨some 149, none, .bin .add, [.t 111, .c (.int .i64 1)]⟩, ⟨some 111, none, .mv, [.t 149]⟩])))).loop)).seq ((C.ops
  [⟨some 150, none, .call 13 true, []⟩, ⟨some 6, none, .mv, [.t 150]⟩]).seq
  C.ret)))))))))))
theorem fn3d : FnIs Tryd.prog 3 151 2 [RV.tmp 6] c3d := ⟨Tryd.f3, Tryd.f3.body.getD .skip, [48, 57], [74, 97, 42, 44, 59, 48, 50, 52, 69, 81, 96], [], by kernel_rfl, by kernel_rfl, by kernel_rfl, by kernel_rfl, by kernel_rfl, by kernel_rfl, by kernel_rfl⟩
def c8d : C :=
  ((C.ops [⟨some 6, none, .mv, [.c (.bool false)]⟩]).seq (((C.ops [⟨some 17, none, .mv, [.t 0]⟩, ⟨some 18, none, .call 11 true, [.t 17]⟩, ⟨some 19, none, .un UnOp.not, [.t 18]⟩,
  ⟨some 20, none, .mv, [.t 19]⟩, ⟨some 21, some (20, false), .mv, [.t 1]⟩, ⟨some 22, some (20, false), .call 12 true, [.t 21]⟩, ⟨some 23, some (20, false), .un UnOp.not, [.t 22]⟩,
  ⟨some 24, none, .pick, [.t 20, .c (.bool true), .t 23]⟩, ⟨some 25, none, .mv, [.t 24]⟩, ⟨some 26, some (25, false), .mv, [.t 2]⟩, ⟨some 27, some (25, false), .call 12 true, [.t
  26]⟩, ⟨some 28, some (25, false), .un UnOp.not, [.t 27]⟩, ⟨some 29, none, .pick, [.t 25, .c (.bool true), .t 28]⟩]).seq (C.cond (.t 29) ((C.ops [⟨some 30, none, .call 13 true, []⟩,
  ⟨some 6, none, .mv, [.t 30]⟩]).seq C.ret) C.skip)).seq ((C.ops [⟨some 32, none, .mv, [.t 0]⟩, ⟨some 33, none, .mv, [.t 1]⟩, ⟨some 34, none, .call 32 true, [.t 32, .t 33]⟩, ⟨some
  31, none, .mv, [.t 34]⟩, ⟨some 35, none, .ext 0, [.t 31]⟩, ⟨some 36, none, .ext 1, [.t 31]⟩, ⟨some 7, none, .mv, [.t 35]⟩, ⟨some 8, none, .mv, [.t 36]⟩]).seq (((C.ops [⟨some 37,
  none, .mv, [.t 8]⟩, ⟨some 38, none, .bin .neq, [.t 37, .c (.int .i64 0)]⟩]).seq (C.cond (.t 38) ((C.ops [⟨some 40, none, .mv, [.t 0]⟩, ⟨some 41, none, .mv, [.t 1]⟩, ⟨some 42, none,
  .call 14 true, [.t 40, .t 41]⟩, ⟨some 39, none, .mv, [.t 42]⟩, ⟨some 43, none, .ext 0, [.t 39]⟩, ⟨some 44, none, .ext 1, [.t 39]⟩, ⟨some 9, none, .mv, [.t 43]⟩, ⟨some 10, none,
  .mv, [.t 44]⟩]).seq ((C.ops [⟨some 45, none, .mv, [.t 10]⟩, ⟨some 46, none, .bin .eql, [.t 45, .c (.int .i64 0)]⟩, ⟨some 47, none, .mv, [.t 46]⟩, ⟨some 48, some (47, true), .mv,
  [.t 7]⟩, ⟨some 49, some (47, true), .len, [.t 48]⟩, ⟨some 50, some (47, true), .bin .eql, [.t 49, .c (.int .i64 0)]⟩, ⟨some 51, none, .pick, [.t 47, .t 50, .c (.bool false)]⟩,
  ⟨some 52, none, .mv, [.t 51]⟩, ⟨some 53, some (52, true), .mv, [.t 8]⟩, ⟨some 54, some (52, true), .bin .eql, [.t 53, .c (.int .i64 11)]⟩, ⟨some 55, some (52, true), .mv, [.t 54]⟩,
  ⟨some 56, some (55, true), .mv, [.t 1]⟩, ⟨some 57, some (55, true), .call 35 true, [.t 56, .c (.str [48, 49, 50, 51, 52, 53, 54, 55, 56, 57])]⟩, ⟨some 58, some (52, true), .pick,
  [.t 55, .t 57, .c (.bool false)]⟩, ⟨some 59, some (52, true), .mv, [.t 58]⟩, ⟨some 60, some (59, false), .mv, [.t 8]⟩, ⟨some 61, some (59, false), .bin .eql, [.t 60, .c (.int .i64
  4)]⟩, ⟨some 62, some (59, false), .mv, [.t 61]⟩, ⟨some 63, some (62, true), .mv, [.t 9]⟩, ⟨some 64, some (62, true), .call 36 true, [.t 63, .c (.int .i64 9)]⟩, ⟨some 65, some (59,
  false), .pick, [.t 62, .t 64, .c (.bool false)]⟩, ⟨some 66, some (52, true), .pick, [.t 59, .c (.bool true), .t 65]⟩, ⟨some 67, none, .pick, [.t 52, .t 66, .c (.bool false)]⟩,
  ⟨some 68, none, .mv, [.t 67]⟩, ⟨some 69, some (68, true), .call 13 true, []⟩, ⟨some 70, none, .pick, [.t 68, .t 69, .c (.bool false)]⟩, ⟨some 6, none, .mv, [.t 70]⟩]).seq C.ret))
  C.skip)).seq ((C.ops [⟨some 72, none, .mv, [.t 7]⟩, ⟨some 73, none, .mv, [.t 1]⟩, ⟨some 74, none, .call 19 true, [.t 72, .t 73]⟩, ⟨some 71, none, .mv, [.t 74]⟩, ⟨some 75, none,
  .ext 0, [.t 71]⟩, ⟨some 76, none, .ext 1, [.t 71]⟩, ⟨some 11, none, .mv, [.t 75]⟩, ⟨some 12, none, .mv, [.t 76]⟩]).seq ((C.ops [⟨some 78, none, .mv, [.t 0]⟩, ⟨some 79, none, .mv,
  [.t 2]⟩, ⟨some 80, none, .call 19 true, [.t 78, .t 79]⟩, ⟨some 77, none, .mv, [.t 80]⟩, ⟨some 81, none, .ext 0, [.t 77]⟩, ⟨some 82, none, .ext 1, [.t 77]⟩, ⟨some 13, none, .mv, [.t
  81]⟩, ⟨some 14, none, .mv, [.t 82]⟩]).seq ((C.ops [⟨some 84, none, .mv, [.t 7]⟩, ⟨some 85, none, .mv, [.t 2]⟩, ⟨some 86, none, .call 19 true, [.t 84, .t 85]⟩, ⟨some 83, none, .mv,
  [.t 86]⟩, ⟨some 87, none, .ext 0, [.t 83]⟩, ⟨some 88, none, .ext 1, [.t 83]⟩, ⟨some 15, none, .mv, [.t 87]⟩, ⟨some 16, none, .mv, [.t 88]⟩]).seq (((C.ops [⟨some 89, none, .mv, [.t
  12]⟩, ⟨some 90, none, .mv, [.t 14]⟩, ⟨some 91, none, .mv, [.t 16]⟩, ⟨some 92, none, .mm true, [.t 89, .t 90, .t 91]⟩, ⟨some 93, none, .bin .neq, [.t 92, .c (.int .i64 0)]⟩, ⟨some
  94, none, .mv, [.t 93]⟩, ⟨some 95, some (94, false), .mv, [.t 7]⟩, ⟨some 96, some (94, false), .call 25 true, [.t 95]⟩, ⟨some 97, some (94, false), .bin .neq, [.t 96, .c (.int .i64
  0)]⟩, ⟨some 98, none, .pick, [.t 94, .c (.bool true), .t 97]⟩, ⟨some 99, none, .mv, [.t 98]⟩, ⟨some 100, some (99, false), .mv, [.t 11]⟩, ⟨some 101, some (99, false), .len, [.t
  100]⟩, ⟨some 102, some (99, false), .bin .neq, [.t 101, .c (.int .i64 0)]⟩, ⟨some 103, none, .pick, [.t 99, .c (.bool true), .t 102]⟩]).seq (C.cond (.t 103) ((C.ops [⟨some 6, none,
  .mv, [.c (.bool false)]⟩]).seq C.ret) C.skip)).seq (((C.ops [⟨some 104, none, .mv, [.t 2]⟩, ⟨some 105, none, .call 18 true, [.t 104]⟩, ⟨some 106, none, .mv, [.t 1]⟩, ⟨some 107,
  none, .call 18 true, [.t 106]⟩, ⟨some 108, none, .bin .eql, [.t 105, .t 107]⟩]).seq (C.cond (.t 108) ((C.ops [⟨some 109, none, .mv, [.t 15]⟩, ⟨some 110, none, .len, [.t 109]⟩,
  ⟨some 111, none, .bin .eql, [.t 110, .c (.int .i64 0)]⟩, ⟨some 112, none, .mv, [.t 111]⟩, ⟨some 113, some (112, true), .call 13 true, []⟩, ⟨some 114, none, .pick, [.t 112, .t 113,
  .c (.bool false)]⟩, ⟨some 6, none, .mv, [.t 114]⟩]).seq C.ret) C.skip)).seq ((C.ops [⟨some 115, none, .mv, [.t 13]⟩, ⟨some 116, none, .mv, [.t 15]⟩, ⟨some 117, none, .call 17 true,
  [.t 115, .t 116]⟩, ⟨some 118, none, .mv, [.t 117]⟩, ⟨some 119, some (118, true), .call 13 true, []⟩, ⟨some 120, none, .pick, [.t 118, .t 119, .c (.bool false)]⟩, ⟨some 6, none,
  .mv, [.t 120]⟩]).seq
  C.ret))))))))))
theorem fn8d : FnIs Tryd.prog 8 121 0 [RV.tmp 6] c8d := ⟨Tryd.f8, Tryd.f8.body.getD .skip, [], [74, 97, 42, 44, 59, 48, 50, 52, 69, 81, 96], [], by kernel_rfl, by kernel_rfl, by kernel_rfl, by kernel_rfl, by kernel_rfl, by kernel_rfl, by kernel_rfl⟩
def c11d : C :=
  ((C.ops [⟨some 2, none, .mv, [.c (.bool false)]⟩]).seq ((C.ops [⟨some 3, none, .mv, [.t 0]⟩, ⟨some 4, none, .len, [.t 3]⟩, ⟨some 5, none, .bin .leq, [.t 4, .c (.int .i64 8)]⟩,
  ⟨some 6, none, .mv, [.t 5]⟩, ⟨some 7, some (6, true), .mv, [.t 0]⟩, ⟨some 8, some (6, true), .call 20 true, [.t 7]⟩, ⟨some 9, some (6, true), .un UnOp.not, [.t 8]⟩, ⟨some 10, none,
  .pick, [.t 6, .t 9, .c (.bool false)]⟩, ⟨some 11, none, .mv, [.t 10]⟩, ⟨some 12, some (11, true), .mv, [.t 0]⟩, ⟨some 13, some (11, true), .call 25 true, [.t 12]⟩, ⟨some 14, some
  (11, true), .bin .eql, [.t 13, .c (.int .i64 0)]⟩, ⟨some 15, none, .pick, [.t 11, .t 14, .c (.bool false)]⟩, ⟨some 2, none, .mv, [.t 15]⟩]).seq
  C.ret))
theorem fn11d : FnIs Tryd.prog 11 16 0 [RV.tmp 2] c11d := ⟨Tryd.f11, Tryd.f11.body.getD .skip, [], [74, 97, 42, 44, 59, 48, 50, 52, 69, 81, 96], [], by kernel_rfl, by kernel_rfl, by kernel_rfl, by kernel_rfl, by kernel_rfl, by kernel_rfl, by kernel_rfl⟩
def c12d : C :=
  ((C.ops [⟨some 2, none, .mv, [.c (.bool false)]⟩]).seq ((C.ops [⟨some 3, none, .mv, [.t 0]⟩, ⟨some 4, none, .slen, [.t 3]⟩, ⟨some 5, none, .bin .leq, [.t 4, .c (.int .i64 20)]⟩,
  ⟨some 6, none, .mv, [.t 5]⟩, ⟨some 7, some (6, true), .mv, [.t 0]⟩, ⟨some 8, some (6, true), .call 38 true, [.t 7]⟩, ⟨some 9, none, .pick, [.t 6, .t 8, .c (.bool false)]⟩, ⟨some 2,
  none, .mv, [.t 9]⟩]).seq
  C.ret))
theorem fn12d : FnIs Tryd.prog 12 10 0 [RV.tmp 2] c12d := ⟨Tryd.f12, Tryd.f12.body.getD .skip, [], [74, 97, 42, 44, 59, 48, 50, 52, 69, 81, 96], [], by kernel_rfl, by kernel_rfl, by kernel_rfl, by kernel_rfl, by kernel_rfl, by kernel_rfl, by kernel_rfl⟩
def c14d : C :=
  ((C.ops [⟨some 4, none, .nilo 0 1 3, []⟩, ⟨some 5, none, .mv, [.c (.int .i64 0)]⟩]).seq (((C.ops [⟨some 7, none, .mv, [.t 0]⟩, ⟨some 8, none, .mv, [.t 1]⟩, ⟨some 9, none, .call 40
  true, [.t 7, .t 8]⟩, ⟨some 6, none, .mv, [.t 9]⟩]).seq ((C.ops [⟨some 10, none, .mv, [.t 6]⟩, ⟨some 11, none, .bin .neq, [.t 10, .c (.int .i64 0)]⟩]).seq (C.cond (.t 11) ((C.ops
  [⟨some 12, none, .mv, [.t 6]⟩, ⟨some 4, none, .nilo 0 1 3, []⟩, ⟨some 5, none, .mv, [.t 12]⟩]).seq C.ret) C.skip))).seq ((C.ops [⟨some 13, none, .mv, [.t 0]⟩, ⟨some 14, none, .mv,
  [.t 1]⟩, ⟨some 15, none, .call 41 true, [.t 13, .t 14]⟩, ⟨some 4, none, .mv, [.t 15]⟩, ⟨some 5, none, .mv, [.c (.int .i64 0)]⟩]).seq
  C.ret)))
theorem fn14d : FnIs Tryd.prog 14 16 1 [RV.tmp 4, RV.tmp 5] c14d := ⟨Tryd.f14, Tryd.f14.body.getD .skip, [4], [74, 97, 42, 44, 59, 48, 50, 52, 69, 81, 96], [], by kernel_rfl, by kernel_rfl, by kernel_rfl, by kernel_rfl, by kernel_rfl, by kernel_rfl, by kernel_rfl⟩
def c16d : C :=
  ((C.ops [⟨some 2, none, .nilo 0 1 9, []⟩]).seq ((C.ops [⟨some 3, none, .alloc 1 33 [.nl], []⟩]).seq (((C.ops [⟨some 6, none, .mv, [.t 0]⟩, ⟨some 7, none, .call 43 true, [.t
  6]⟩]).seq (C.block 0 (C.range (.t 7) [8, 9] (C.ops [⟨some 5, none, .mv, [.t 9]⟩]) (C.block 1 (C.ops [⟨some 10, none, .load none, [.t 3]⟩, ⟨some 11, none, .mv, [.t 5]⟩, ⟨some 12,
  none, .bslc 2 1 1 9 [.str []] [(0, 1)], [.t 11]⟩, ⟨some 13, none, .app 3 1 9 16, [.t 10, .t 12]⟩, ⟨none, none, .store 1, [.t 3, .t 13]⟩]))))).seq ((C.ops [⟨some 14, none, .load
  none, [.t 3]⟩, ⟨some 2, none, .mv, [.t 14]⟩]).seq
  C.ret))))
theorem fn16d : FnIs Tryd.prog 16 15 4 [RV.tmp 2] c16d := ⟨Tryd.f16, Tryd.f16.body.getD .skip, [2, 3, 12, 13], [74, 97, 42, 44, 59, 48, 50, 52, 69, 81, 96], [], by kernel_rfl, by kernel_rfl, by kernel_rfl, by kernel_rfl, by kernel_rfl, by kernel_rfl, by kernel_rfl⟩
def c17d : C :=
  ((C.ops [⟨some 4, none, .mv, [.c (.bool false)]⟩]).seq (((C.ops [⟨some 6, none, .mv, [.t 0]⟩, ⟨some 7, none, .len, [.t 6]⟩, ⟨some 8, none, .mv, [.t 1]⟩, ⟨some 9, none, .len, [.t
  8]⟩, ⟨some 10, none, .bin .neq, [.t 7, .t 9]⟩]).seq (C.cond (.t 10) ((C.ops [⟨some 4, none, .mv, [.c (.bool false)]⟩]).seq C.ret) C.skip)).seq (((C.ops [⟨some 11, none, .mv, [.t
  0]⟩, ⟨some 12, none, .len, [.t 11]⟩, ⟨some 13, none, .mv, [.c (.int .i64 0)]⟩]).seq (C.block 0 ((C.ops [⟨some 14, none, .bin .lss, [.t 13, .t 12]⟩]).seq ((C.cond (.t 14) C.skip
  (C.exit 0)).seq ((C.block 1 ((C.ops [⟨some 15, none, .mv, [.t 13]⟩, ⟨some 5, none, .mv, [.t 15]⟩]).seq ((C.ops [⟨some 16, none, .mv, [.t 0]⟩, ⟨some 17, none, .mv, [.t 5]⟩, ⟨some
  18, none, .idxA 1, [.t 16, .t 17]⟩, ⟨some 19, none, .load none, [.t 18]⟩, ⟨some 20, none, .mv, [.t 1]⟩, ⟨some 21, none, .mv, [.t 5]⟩, ⟨some 22, none, .idxA 1, [.t 20, .t 21]⟩,
  ⟨some 23, none, .load none, [.t 22]⟩, ⟨some 24, none, .bin .neq, [.t 19, .t 23]⟩]).seq (C.cond (.t 24) ((C.ops [⟨some 4, none, .mv, [.c (.bool false)]⟩]).seq C.ret) C.skip)))).seq
  (C.ops [⟨some 25, none, .bin .add, [.t 13, .c (.int .i64 1)]⟩, ⟨some 13, none, .mv, [.t 25]⟩])))).loop)).seq ((C.ops [⟨some 4, none, .mv, [.c (.bool true)]⟩]).seq
  C.ret))))
theorem fn17d : FnIs Tryd.prog 17 26 0 [RV.tmp 4] c17d := ⟨Tryd.f17, Tryd.f17.body.getD .skip, [], [74, 97, 42, 44, 59, 48, 50, 52, 69, 81, 96], [], by kernel_rfl, by kernel_rfl, by kernel_rfl, by kernel_rfl, by kernel_rfl, by kernel_rfl, by kernel_rfl⟩
def c18d : C :=
  ((C.ops [⟨some 2, none, .mv, [.c (.str [])]⟩]).seq ((C.ops [⟨some 6, none, .mv, [.t 0]⟩, ⟨some 7, none, .s2bo 0 5, [.t 6]⟩, ⟨some 3, none, .mv, [.t 7]⟩]).seq (((C.ops [⟨some 8,
  none, .mv, [.t 3]⟩, ⟨some 9, none, .len, [.t 8]⟩, ⟨some 10, none, .mv, [.c (.int .i64 0)]⟩]).seq (C.block 0 ((C.ops [⟨some 11, none, .bin .lss, [.t 10, .t 9]⟩]).seq ((C.cond (.t
  11) C.skip (C.exit 0)).seq ((C.block 1 ((C.ops [⟨some 12, none, .mv, [.t 10]⟩, ⟨some 13, none, .idxA 1, [.t 8, .t 10]⟩, ⟨some 14, none, .load none, [.t 13]⟩, ⟨some 4, none, .mv,
  [.t 12]⟩, ⟨some 5, none, .mv, [.t 14]⟩]).seq ((C.ops [⟨some 15, none, .mv, [.t 5]⟩, ⟨some 16, none, .bin .geq, [.t 15, .c (.int .u8 65)]⟩, ⟨some 17, none, .mv, [.t 16]⟩, ⟨some 18,
  some (17, true), .mv, [.t 5]⟩, ⟨some 19, some (17, true), .bin .leq, [.t 18, .c (.int .u8 90)]⟩, ⟨some 20, none, .pick, [.t 17, .t 19, .c (.bool false)]⟩]).seq (C.cond (.t 20)
  (C.ops [⟨some 21, none, .mv, [.t 3]⟩, ⟨some 22, none, .mv, [.t 4]⟩, ⟨some 23, none, .mv, [.t 5]⟩, ⟨some 24, none, .bin .sub, [.t 23, .c (.int .u8 65)]⟩, ⟨some 25, none, .bin .add,
  [.t 24, .c (.int .u8 97)]⟩, ⟨some 26, none, .idxA 1, [.t 21, .t 22]⟩, ⟨none, none, .store 1, [.t 26, .t 25]⟩]) C.skip)))).seq (C.ops [⟨some 27, none, .bin .add, [.t 10, .c (.int
  .i64 1)]⟩, ⟨some 10, none, .mv, [.t 27]⟩])))).loop)).seq ((C.ops [⟨some 28, none, .mv, [.t 3]⟩, ⟨some 29, none, .b2s, [.t 28]⟩, ⟨some 2, none, .mv, [.t 29]⟩]).seq
  C.ret))))
theorem fn18d : FnIs Tryd.prog 18 30 1 [RV.tmp 2] c18d := ⟨Tryd.f18, Tryd.f18.body.getD .skip, [7], [74, 97, 42, 44, 59, 48, 50, 52, 69, 81, 96], [], by kernel_rfl, by kernel_rfl, by kernel_rfl, by kernel_rfl, by kernel_rfl, by kernel_rfl, by kernel_rfl⟩
def c19d : C :=
  ((C.ops [⟨some 4, none, .nilo 0 1 3, []⟩, ⟨some 5, none, .mv, [.c (.int .i64 0)]⟩]).seq (((C.ops [⟨some 9, none, .mv, [.t 0]⟩, ⟨some 10, none, .mv, [.t 1]⟩, ⟨some 11, none, .call
  40 true, [.t 9, .t 10]⟩, ⟨some 6, none, .mv, [.t 11]⟩]).seq ((C.ops [⟨some 12, none, .mv, [.t 6]⟩, ⟨some 13, none, .bin .neq, [.t 12, .c (.int .i64 0)]⟩]).seq (C.cond (.t 13)
  ((C.ops [⟨some 14, none, .mv, [.t 6]⟩, ⟨some 4, none, .nilo 0 1 3, []⟩, ⟨some 5, none, .mv, [.t 14]⟩]).seq C.ret) C.skip))).seq ((C.ops [⟨some 16, none, .mv, [.t 0]⟩, ⟨some 17,
  none, .mv, [.t 1]⟩, ⟨some 18, none, .call 44 false, [.t 16, .t 17]⟩, ⟨some 15, none, .mv, [.t 18]⟩, ⟨some 19, none, .ext 0, [.t 15]⟩, ⟨some 20, none, .ext 1, [.t 15]⟩, ⟨some 7,
  none, .mv, [.t 19]⟩, ⟨some 8, none, .mv, [.t 20]⟩]).seq ((C.ops [⟨some 21, none, .mv, [.t 7]⟩, ⟨some 4, none, .mv, [.t 21]⟩, ⟨some 5, none, .mv, [.c (.int .i64 0)]⟩]).seq
  C.ret))))
theorem fn19d : FnIs Tryd.prog 19 22 1 [RV.tmp 4, RV.tmp 5] c19d := ⟨Tryd.f19, Tryd.f19.body.getD .skip, [4], [74, 97, 42, 44, 59, 48, 50, 52, 69, 81, 96], [], by kernel_rfl, by kernel_rfl, by kernel_rfl, by kernel_rfl, by kernel_rfl, by kernel_rfl, by kernel_rfl⟩
def c20d : C :=
  ((C.ops [⟨some 2, none, .mv, [.c (.bool false)]⟩]).seq (((C.ops [⟨some 4, none, .mv, [.t 0]⟩, ⟨some 5, none, .len, [.t 4]⟩, ⟨some 6, none, .bin .gtr, [.t 5, .c (.int .i64 8)]⟩,
  ⟨some 7, none, .mv, [.t 6]⟩, ⟨some 8, some (7, true), .mv, [.t 0]⟩, ⟨some 9, some (7, true), .len, [.t 8]⟩, ⟨some 10, some (7, true), .bin .leq, [.t 9, .c (.int .i64 4096)]⟩, ⟨some
  11, none, .pick, [.t 7, .t 10, .c (.bool false)]⟩, ⟨some 12, none, .mv, [.t 11]⟩, ⟨some 13, some (12, false), .mv, [.t 0]⟩, ⟨some 14, some (12, false), .len, [.t 13]⟩, ⟨some 15,
  some (12, false), .bin .gtr, [.t 14, .c (.int .i64 4098)]⟩, ⟨some 16, none, .pick, [.t 12, .c (.bool true), .t 15]⟩]).seq (C.cond (.t 16) ((C.ops [⟨some 2, none, .mv, [.c (.bool
  true)]⟩]).seq C.ret) C.skip)).seq (((C.ops [⟨some 3, none, .mv, [.c (.int .i64 0)]⟩]).seq (C.block 0 (((C.ops [⟨some 17, none, .mv, [.t 3]⟩, ⟨some 18, none, .mv, [.t 0]⟩, ⟨some 19,
  none, .len, [.t 18]⟩, ⟨some 20, none, .bin .lss, [.t 17, .t 19]⟩]).seq (C.cond (.t 20) C.skip (C.exit 0))).seq ((C.block 1 ((C.ops [⟨some 23, none, .mv, [.t 0]⟩, ⟨some 24, none,
  .mv, [.t 3]⟩, ⟨some 25, none, .idxA 2, [.t 23, .t 24]⟩, ⟨some 26, none, .fldA 0, [.t 25]⟩, ⟨some 27, none, .load none, [.t 26]⟩, ⟨some 28, none, .slen, [.t 27]⟩, ⟨some 29, none,
  .bin .gtr, [.t 28, .c (.int .i64 12)]⟩, ⟨some 30, none, .mv, [.t 29]⟩, ⟨some 31, some (30, true), .mv, [.t 0]⟩, ⟨some 32, some (30, true), .mv, [.t 3]⟩, ⟨some 33, some (30, true),
  .idxA 2, [.t 31, .t 32]⟩, ⟨some 34, some (30, true), .fldA 0, [.t 33]⟩, ⟨some 35, some (30, true), .load none, [.t 34]⟩, ⟨some 36, some (30, true), .slen, [.t 35]⟩, ⟨some 37, some
  (30, true), .bin .leq, [.t 36, .c (.int .i64 64)]⟩, ⟨some 38, none, .pick, [.t 30, .t 37, .c (.bool false)]⟩, ⟨some 39, none, .mv, [.t 38]⟩, ⟨some 40, some (39, false), .mv, [.t
  0]⟩, ⟨some 41, some (39, false), .mv, [.t 3]⟩, ⟨some 42, some (39, false), .idxA 2, [.t 40, .t 41]⟩, ⟨some 43, some (39, false), .fldA 0, [.t 42]⟩, ⟨some 44, some (39, false),
  .load none, [.t 43]⟩, ⟨some 45, some (39, false), .slen, [.t 44]⟩, ⟨some 46, some (39, false), .bin .gtr, [.t 45, .c (.int .i64 66)]⟩, ⟨some 47, none, .pick, [.t 39, .c (.bool
  true), .t 46]⟩, ⟨some 48, none, .mv, [.t 47]⟩, ⟨some 49, some (48, false), .mv, [.t 0]⟩, ⟨some 50, some (48, false), .mv, [.t 3]⟩, ⟨some 51, some (48, false), .idxA 2, [.t 49, .t
  50]⟩, ⟨some 52, some (48, false), .fldA 1, [.t 51]⟩, ⟨some 53, some (48, false), .load none, [.t 52]⟩, ⟨some 54, some (48, false), .len, [.t 53]⟩, ⟨some 55, some (48, false), .bin
  .gtr, [.t 54, .c (.int .i64 16)]⟩, ⟨some 56, none, .pick, [.t 48, .c (.bool true), .t 55]⟩]).seq (C.cond (.t 56) ((C.ops [⟨some 2, none, .mv, [.c (.bool true)]⟩]).seq C.ret)
  C.skip))).seq (C.ops [⟨some 21, none, .mv, [.t 3]⟩, ⟨some 22, none, .bin .add, [.t 21, .c (.int .i64 1)]⟩, ⟨some 3, none, .mv, [.t 22]⟩]))).loop)).seq ((C.ops [⟨some 2, none, .mv,
  [.c (.bool false)]⟩]).seq
  C.ret))))
theorem fn20d : FnIs Tryd.prog 20 57 0 [RV.tmp 2] c20d := ⟨Tryd.f20, Tryd.f20.body.getD .skip, [], [74, 97, 42, 44, 59, 48, 50, 52, 69, 81, 96], [], by kernel_rfl, by kernel_rfl, by kernel_rfl, by kernel_rfl, by kernel_rfl, by kernel_rfl, by kernel_rfl⟩
def c21d : C :=
  ((C.ops [⟨some 2, none, .nilo 0 2 32, []⟩, ⟨some 3, none, .mv, [.c (.int .i64 0)]⟩]).seq (((C.ops [⟨some 10, none, .mv, [.t 0]⟩, ⟨some 11, none, .slen, [.t 10]⟩, ⟨some 12, none,
  .bin .gtr, [.t 11, .c (.int .i64 65536)]⟩]).seq (C.cond (.t 12) ((C.ops [⟨some 2, none, .nilo 0 2 32, []⟩, ⟨some 3, none, .mv, [.c (.int .i64 4)]⟩]).seq C.ret) C.skip)).seq
  (((C.ops [⟨some 13, none, .mv, [.t 0]⟩, ⟨some 14, none, .bin .eql, [.t 13, .c (.str [])]⟩]).seq (C.cond (.t 14) ((C.ops [⟨some 2, none, .nilo 0 2 32, []⟩, ⟨some 3, none, .mv, [.c
  (.int .i64 0)]⟩]).seq C.ret) C.skip)).seq ((C.ops [⟨some 4, none, .nilo 1 2 32, []⟩]).seq (((C.ops [⟨some 15, none, .mv, [.t 0]⟩, ⟨some 16, none, .call 45 true, [.t 15, .c (.str
  [32])]⟩, ⟨some 17, none, .len, [.t 16]⟩, ⟨some 18, none, .mv, [.c (.int .i64 0)]⟩]).seq (C.block 0 ((C.ops [⟨some 19, none, .bin .lss, [.t 18, .t 17]⟩]).seq ((C.cond (.t 19) C.skip
  (C.exit 0)).seq ((C.block 1 ((C.ops [⟨some 20, none, .idxA 1, [.t 16, .t 18]⟩, ⟨some 21, none, .load none, [.t 20]⟩, ⟨some 6, none, .mv, [.t 21]⟩]).seq ((C.ops [⟨some 23, none,
  .mv, [.t 6]⟩, ⟨some 24, none, .call 46 true, [.t 23]⟩, ⟨some 22, none, .mv, [.t 24]⟩, ⟨some 25, none, .ext 0, [.t 22]⟩, ⟨some 26, none, .ext 1, [.t 22]⟩, ⟨some 7, none, .alloc 2 32
  [.str [], .nl], []⟩, ⟨none, none, .store 2, [.t 7, .t 25]⟩, ⟨some 8, none, .mv, [.t 26]⟩]).seq (((C.ops [⟨some 27, none, .mv, [.t 8]⟩, ⟨some 28, none, .un UnOp.not, [.t 27]⟩]).seq
  (C.cond (.t 28) ((C.ops [⟨some 2, none, .nilo 0 2 32, []⟩, ⟨some 3, none, .mv, [.c (.int .i64 3)]⟩]).seq C.ret) C.skip)).seq (C.ops [⟨some 29, none, .mv, [.t 4]⟩, ⟨some 30, none,
  .load (some 2), [.t 7]⟩, ⟨some 31, none, .bslc 3 2 1 32 [.str [], .nl] [(0, 2)], [.t 30]⟩, ⟨some 32, none, .app 4 2 32 40, [.t 29, .t 31]⟩, ⟨some 4, none, .mv, [.t 32]⟩]))))).seq
  (C.ops [⟨some 33, none, .bin .add, [.t 18, .c (.int .i64 1)]⟩, ⟨some 18, none, .mv, [.t 33]⟩])))).loop)).seq (((C.ops [⟨some 34, none, .mv, [.t 4]⟩, ⟨some 35, none, .call 25 true,
  [.t 34]⟩, ⟨some 9, none, .mv, [.t 35]⟩]).seq ((C.ops [⟨some 36, none, .mv, [.t 9]⟩, ⟨some 37, none, .bin .neq, [.t 36, .c (.int .i64 0)]⟩]).seq (C.cond (.t 37) ((C.ops [⟨some 38,
  none, .mv, [.t 9]⟩, ⟨some 2, none, .nilo 0 2 32, []⟩, ⟨some 3, none, .mv, [.t 38]⟩]).seq C.ret) C.skip))).seq ((C.ops [⟨some 39, none, .mv, [.t 4]⟩, ⟨some 2, none, .mv, [.t 39]⟩,
  ⟨some 3, none, .mv, [.c (.int .i64 0)]⟩]).seq
  C.ret)))))))
theorem fn21d : FnIs Tryd.prog 21 40 5 [RV.tmp 2, RV.tmp 3] c21d := ⟨Tryd.f21, Tryd.f21.body.getD .skip, [2, 4, 7, 31, 32], [74, 97, 42, 44, 59, 48, 50, 52, 69, 81, 96], [], by kernel_rfl, by kernel_rfl, by kernel_rfl, by kernel_rfl, by kernel_rfl, by kernel_rfl, by kernel_rfl⟩
def c25d : C :=
  ((C.ops [⟨some 2, none, .mv, [.c (.int .i64 0)]⟩]).seq (((C.ops [⟨some 6, none, .mv, [.t 0]⟩, ⟨some 7, none, .len, [.t 6]⟩, ⟨some 8, none, .bin .gtr, [.t 7, .c (.int .i64
  4096)]⟩]).seq (C.cond (.t 8) ((C.ops [⟨some 2, none, .mv, [.c (.int .i64 4)]⟩]).seq C.ret) C.skip)).seq (((C.ops [⟨some 9, none, .mv, [.t 0]⟩, ⟨some 10, none, .len, [.t 9]⟩, ⟨some
  11, none, .mv, [.c (.int .i64 0)]⟩]).seq (C.block 0 ((C.ops [⟨some 12, none, .bin .lss, [.t 11, .t 10]⟩]).seq ((C.cond (.t 12) C.skip (C.exit 0)).seq ((C.block 1 ((C.ops [⟨some 13,
  none, .idxA 2, [.t 9, .t 11]⟩, ⟨some 14, none, .load (some 2), [.t 13]⟩, ⟨some 4, none, .alloc 0 32 [.str [], .nl], []⟩, ⟨none, none, .store 2, [.t 4, .t 14]⟩]).seq ((C.ops [⟨some
  15, none, .load (some 2), [.t 4]⟩, ⟨some 16, none, .call 54 true, [.t 15]⟩, ⟨some 5, none, .mv, [.t 16]⟩]).seq ((C.ops [⟨some 17, none, .mv, [.t 5]⟩, ⟨some 18, none, .bin .neq, [.t
  17, .c (.int .i64 0)]⟩]).seq (C.cond (.t 18) ((C.ops [⟨some 19, none, .mv, [.t 5]⟩, ⟨some 2, none, .mv, [.t 19]⟩]).seq C.ret) C.skip))))).seq (C.ops [⟨some 20, none, .bin .add, [.t
  11, .c (.int .i64 1)]⟩, ⟨some 11, none, .mv, [.t 20]⟩])))).loop)).seq ((C.ops [⟨some 2, none, .mv, [.c (.int .i64 0)]⟩]).seq
  C.ret))))
theorem fn25d : FnIs Tryd.prog 25 21 1 [RV.tmp 2] c25d := ⟨Tryd.f25, Tryd.f25.body.getD .skip, [4], [74, 97, 42, 44, 59, 48, 50, 52, 69, 81, 96], [], by kernel_rfl, by kernel_rfl, by kernel_rfl, by kernel_rfl, by kernel_rfl, by kernel_rfl, by kernel_rfl⟩
def c27d : C :=
  ((C.ops [⟨some 4, none, .mv, [.c (.bool false)]⟩]).seq (((C.ops [⟨some 6, none, .mv, [.t 0]⟩, ⟨some 7, none, .len, [.t 6]⟩, ⟨some 8, none, .mv, [.t 1]⟩, ⟨some 9, none, .len, [.t
  8]⟩, ⟨some 10, none, .bin .neq, [.t 7, .t 9]⟩]).seq (C.cond (.t 10) ((C.ops [⟨some 4, none, .mv, [.c (.bool false)]⟩]).seq C.ret) C.skip)).seq (((C.ops [⟨some 5, none, .mv, [.c
  (.int .i64 0)]⟩]).seq (C.block 0 (((C.ops [⟨some 11, none, .mv, [.t 5]⟩, ⟨some 12, none, .mv, [.t 0]⟩, ⟨some 13, none, .len, [.t 12]⟩, ⟨some 14, none, .bin .lss, [.t 11, .t
  13]⟩]).seq (C.cond (.t 14) C.skip (C.exit 0))).seq ((C.block 1 ((C.ops [⟨some 17, none, .mv, [.t 0]⟩, ⟨some 18, none, .mv, [.t 5]⟩, ⟨some 19, none, .idxA 2, [.t 17, .t 18]⟩, ⟨some
  20, none, .fldA 0, [.t 19]⟩, ⟨some 21, none, .load none, [.t 20]⟩, ⟨some 22, none, .mv, [.t 1]⟩, ⟨some 23, none, .mv, [.t 5]⟩, ⟨some 24, none, .idxA 2, [.t 22, .t 23]⟩, ⟨some 25,
  none, .fldA 0, [.t 24]⟩, ⟨some 26, none, .load none, [.t 25]⟩, ⟨some 27, none, .bin .neq, [.t 21, .t 26]⟩, ⟨some 28, none, .mv, [.t 27]⟩, ⟨some 29, some (28, false), .mv, [.t 0]⟩,
  ⟨some 30, some (28, false), .mv, [.t 5]⟩, ⟨some 31, some (28, false), .idxA 2, [.t 29, .t 30]⟩, ⟨some 32, some (28, false), .fldA 1, [.t 31]⟩, ⟨some 33, some (28, false), .load
  none, [.t 32]⟩, ⟨some 34, some (28, false), .mv, [.t 1]⟩, ⟨some 35, some (28, false), .mv, [.t 5]⟩, ⟨some 36, some (28, false), .idxA 2, [.t 34, .t 35]⟩, ⟨some 37, some (28,
  false), .fldA 1, [.t 36]⟩, ⟨some 38, some (28, false), .load none, [.t 37]⟩, ⟨some 39, some (28, false), .call 56 true, [.t 33, .t 38]⟩, ⟨some 40, some (28, false), .un UnOp.not,
  [.t 39]⟩, ⟨some 41, none, .pick, [.t 28, .c (.bool true), .t 40]⟩]).seq (C.cond (.t 41) ((C.ops [⟨some 4, none, .mv, [.c (.bool false)]⟩]).seq C.ret) C.skip))).seq (C.ops [⟨some
  15, none, .mv, [.t 5]⟩, ⟨some 16, none, .bin .add, [.t 15, .c (.int .i64 1)]⟩, ⟨some 5, none, .mv, [.t 16]⟩]))).loop)).seq ((C.ops [⟨some 4, none, .mv, [.c (.bool true)]⟩]).seq
  C.ret))))
theorem fn27d : FnIs Tryd.prog 27 42 0 [RV.tmp 4] c27d := ⟨Tryd.f27, Tryd.f27.body.getD .skip, [], [74, 97, 42, 44, 59, 48, 50, 52, 69, 81, 96], [], by kernel_rfl, by kernel_rfl, by kernel_rfl, by kernel_rfl, by kernel_rfl, by kernel_rfl, by kernel_rfl⟩
def c34d : C :=
  ((C.ops [⟨some 4, none, .mv, [.c (.bool false)]⟩]).seq (((C.ops [⟨some 6, none, .mv, [.t 0]⟩, ⟨some 7, none, .len, [.t 6]⟩, ⟨some 8, none, .mv, [.t 1]⟩, ⟨some 9, none, .len, [.t
  8]⟩, ⟨some 10, none, .bin .neq, [.t 7, .t 9]⟩]).seq (C.cond (.t 10) ((C.ops [⟨some 4, none, .mv, [.c (.bool false)]⟩]).seq C.ret) C.skip)).seq (((C.ops [⟨some 11, none, .mv, [.t
  0]⟩, ⟨some 12, none, .len, [.t 11]⟩, ⟨some 13, none, .mv, [.c (.int .i64 0)]⟩]).seq (C.block 0 ((C.ops [⟨some 14, none, .bin .lss, [.t 13, .t 12]⟩]).seq ((C.cond (.t 14) C.skip
  (C.exit 0)).seq ((C.block 1 ((C.ops [⟨some 15, none, .mv, [.t 13]⟩, ⟨some 5, none, .mv, [.t 15]⟩]).seq ((C.ops [⟨some 16, none, .mv, [.t 0]⟩, ⟨some 17, none, .mv, [.t 5]⟩, ⟨some
  18, none, .idxA 1, [.t 16, .t 17]⟩, ⟨some 19, none, .load none, [.t 18]⟩, ⟨some 20, none, .mv, [.t 1]⟩, ⟨some 21, none, .mv, [.t 5]⟩, ⟨some 22, none, .idxA 1, [.t 20, .t 21]⟩,
  ⟨some 23, none, .load none, [.t 22]⟩, ⟨some 24, none, .bin .neq, [.t 19, .t 23]⟩]).seq (C.cond (.t 24) ((C.ops [⟨some 4, none, .mv, [.c (.bool false)]⟩]).seq C.ret) C.skip)))).seq
  (C.ops [⟨some 25, none, .bin .add, [.t 13, .c (.int .i64 1)]⟩, ⟨some 13, none, .mv, [.t 25]⟩])))).loop)).seq ((C.ops [⟨some 4, none, .mv, [.c (.bool true)]⟩]).seq
  C.ret))))
theorem fn34d : FnIs Tryd.prog 34 26 0 [RV.tmp 4] c34d := ⟨Tryd.f34, Tryd.f34.body.getD .skip, [], [74, 97, 42, 44, 59, 48, 50, 52, 69, 81, 96], [], by kernel_rfl, by kernel_rfl, by kernel_rfl, by kernel_rfl, by kernel_rfl, by kernel_rfl, by kernel_rfl⟩
def c35d : C :=
  ((C.ops [⟨some 3, none, .box 0 9, [.t 1]⟩, ⟨some 4, none, .mv, [.c (.bool false)]⟩]).seq ((C.ops [⟨some 5, none, .mv, [.t 0]⟩, ⟨some 6, none, .s2b, [.t 5]⟩, ⟨some 7, none, .mkfn
  (Fn.func 67) 0, [.t 3]⟩, ⟨some 8, none, .call 66 true, [.t 6, .t 7]⟩, ⟨some 4, none, .mv, [.t 8]⟩]).seq
  C.ret))
theorem fn35d : FnIs Tryd.prog 35 9 1 [RV.tmp 4] c35d := ⟨Tryd.f35, Tryd.f35.body.getD .skip, [3], [74, 97, 42, 44, 59, 48, 50, 52, 69, 81, 96], [], by kernel_rfl, by kernel_rfl, by kernel_rfl, by kernel_rfl, by kernel_rfl, by kernel_rfl, by kernel_rfl⟩
def c36d : C :=
  ((C.ops [⟨some 4, none, .mv, [.c (.bool false)]⟩]).seq ((C.ops [⟨some 5, none, .mv, [.t 0]⟩, ⟨some 6, none, .mv, [.t 1]⟩, ⟨some 7, none, .call 63 true, [.t 5, .t 6]⟩, ⟨some 8,
  none, .bin .geq, [.t 7, .c (.int .i64 0)]⟩, ⟨some 4, none, .mv, [.t 8]⟩]).seq
  C.ret))
theorem fn36d : FnIs Tryd.prog 36 9 0 [RV.tmp 4] c36d := ⟨Tryd.f36, Tryd.f36.body.getD .skip, [], [74, 97, 42, 44, 59, 48, 50, 52, 69, 81, 96], [], by kernel_rfl, by kernel_rfl, by kernel_rfl, by kernel_rfl, by kernel_rfl, by kernel_rfl, by kernel_rfl⟩
def c38d : C :=
  ((C.ops [⟨some 2, none, .mv, [.c (.bool false)]⟩]).seq (((C.ops [⟨some 4, none, .mv, [.t 0]⟩, ⟨some 5, none, .bin .eql, [.t 4, .c (.str [])]⟩, ⟨some 6, none, .mv, [.t 5]⟩, ⟨some 7,
  some (6, false), .mv, [.t 0]⟩, ⟨some 8, some (6, false), .slen, [.t 7]⟩, ⟨some 9, some (6, false), .bin .gtr, [.t 8, .c (.int .i64 64)]⟩, ⟨some 10, none, .pick, [.t 6, .c (.bool
  true), .t 9]⟩, ⟨some 11, none, .mv, [.t 10]⟩, ⟨some 12, some (11, false), .mv, [.t 0]⟩, ⟨some 13, some (11, false), .call 70 true, [.t 12]⟩, ⟨some 14, some (11, false), .bin .neq,
  [.t 13, .c (.int .i64 0)]⟩, ⟨some 15, none, .pick, [.t 11, .c (.bool true), .t 14]⟩]).seq (C.cond (.t 15) ((C.ops [⟨some 2, none, .mv, [.c (.bool false)]⟩]).seq C.ret) C.skip)).seq
  (((C.ops [⟨some 16, none, .mv, [.t 0]⟩, ⟨some 17, none, .sidx, [.t 16, .c (.int .i64 0)]⟩, ⟨some 18, none, .call 71 true, [.t 17]⟩, ⟨some 3, none, .mv, [.t 18]⟩]).seq ((C.ops
  [⟨some 19, none, .mv, [.t 3]⟩, ⟨some 20, none, .bin .neq, [.t 19, .c (.int .i64 1)]⟩, ⟨some 21, none, .mv, [.t 20]⟩, ⟨some 22, some (21, true), .mv, [.t 3]⟩, ⟨some 23, some (21,
  true), .bin .neq, [.t 22, .c (.int .i64 3)]⟩, ⟨some 24, none, .pick, [.t 21, .t 23, .c (.bool false)]⟩]).seq (C.cond (.t 24) ((C.ops [⟨some 2, none, .mv, [.c (.bool false)]⟩]).seq
  C.ret) C.skip))).seq ((C.ops [⟨some 25, none, .mv, [.t 0]⟩, ⟨some 26, none, .s2b, [.t 25]⟩, ⟨some 27, none, .call 66 true, [.t 26, .c (.fn (Fn.func 72) [] [])]⟩, ⟨some 28, none,
  .un UnOp.not, [.t 27]⟩, ⟨some 2, none, .mv, [.t 28]⟩]).seq
  C.ret))))
theorem fn38d : FnIs Tryd.prog 38 29 0 [RV.tmp 2] c38d := ⟨Tryd.f38, Tryd.f38.body.getD .skip, [], [74, 97, 42, 44, 59, 48, 50, 52, 69, 81, 96], [], by kernel_rfl, by kernel_rfl, by kernel_rfl, by kernel_rfl, by kernel_rfl, by kernel_rfl, by kernel_rfl⟩
def c40d : C :=
  ((C.ops [⟨some 4, none, .mv, [.c (.int .i64 0)]⟩]).seq ((C.block 0 ((C.ops [⟨some 6, none, .mv, [.t 0]⟩, ⟨some 7, none, .call 25 true, [.t 6]⟩, ⟨some 8, none, .bin .neq, [.t 7, .c
  (.int .i64 0)]⟩, ⟨some 5, none, .mv, [.t 8]⟩]).seq (C.cond (.t 5) ((C.ops [⟨some 4, none, .mv, [.c (.int .i64 1)]⟩]).seq C.ret) ((C.ops [⟨some 10, none, .mv, [.t 1]⟩, ⟨some 11,
  none, .call 38 true, [.t 10]⟩, ⟨some 12, none, .un UnOp.not, [.t 11]⟩, ⟨some 9, none, .mv, [.t 12]⟩]).seq (C.cond (.t 9) ((C.ops [⟨some 4, none, .mv, [.c (.int .i64 11)]⟩]).seq
  C.ret) C.skip))))).seq ((C.ops [⟨some 4, none, .mv, [.c (.int .i64 0)]⟩]).seq
  C.ret)))
theorem fn40d : FnIs Tryd.prog 40 13 0 [RV.tmp 4] c40d := ⟨Tryd.f40, Tryd.f40.body.getD .skip, [], [74, 97, 42, 44, 59, 48, 50, 52, 69, 81, 96], [], by kernel_rfl, by kernel_rfl, by kernel_rfl, by kernel_rfl, by kernel_rfl, by kernel_rfl, by kernel_rfl⟩
def c41d : C :=
  ((C.ops [⟨some 4, none, .nilo 0 1 3, []⟩]).seq ((C.ops [⟨some 13, none, .bslc 1 1 1 9 [.str []] [(0, 1)], [.c (.str [46])]⟩, ⟨some 14, none, .mv, [.t 1]⟩, ⟨some 15, none, .call 62
  true, [.t 14]⟩, ⟨some 16, none, .bslc 2 1 1 9 [.str []] [(0, 1)], [.c (.str [46])]⟩, ⟨some 17, none, .bslc 3 1 3 33 [.nl] [(0, 1), (1, 1), (2, 1)], [.t 13, .t 15, .t 16]⟩, ⟨some
  18, none, .call 73 true, [.t 17]⟩, ⟨some 5, none, .mv, [.t 18]⟩]).seq ((C.ops [⟨some 19, none, .mv, [.t 5]⟩, ⟨some 20, none, .len, [.t 19]⟩, ⟨some 21, none, .bin .add, [.t 20, .c
  (.int .i64 1)]⟩, ⟨some 22, none, .mkslc 4 1 3 [.int .i64 0] 8, [.t 21, .t 21]⟩, ⟨some 6, none, .alloc 5 26 [.nl], []⟩, ⟨none, none, .store 1, [.t 6, .t 22]⟩]).seq ((C.ops [⟨some
  23, none, .mkfn (Fn.func 74) 0, [.t 6]⟩, ⟨some 7, none, .alloc 6 89 [.nilfn], []⟩, ⟨none, none, .store 1, [.t 7, .t 23]⟩]).seq (((C.ops [⟨some 24, none, .mv, [.t 0]⟩, ⟨some 25,
  none, .len, [.t 24]⟩, ⟨some 26, none, .mv, [.c (.int .i64 0)]⟩]).seq (C.block 0 ((C.ops [⟨some 27, none, .bin .lss, [.t 26, .t 25]⟩]).seq ((C.cond (.t 27) C.skip (C.exit 0)).seq
  ((C.block 1 ((C.ops [⟨some 28, none, .idxA 2, [.t 24, .t 26]⟩, ⟨some 29, none, .load (some 2), [.t 28]⟩, ⟨some 9, none, .alloc 7 32 [.str [], .nl], []⟩, ⟨none, none, .store 2, [.t
  9, .t 29]⟩]).seq ((C.ops [⟨some 30, none, .fldA 0, [.t 9]⟩, ⟨some 31, none, .load none, [.t 30]⟩, ⟨some 32, none, .call 62 true, [.t 31]⟩, ⟨some 33, none, .mv, [.t 5]⟩, ⟨some 34,
  none, .call 75 true, [.t 32, .t 33]⟩]).seq (C.block 2 (C.range (.t 34) [35] (C.ops [⟨some 10, none, .mv, [.t 35]⟩]) (C.block 3 ((C.ops [⟨some 36, none, .fldA 1, [.t 9]⟩, ⟨some 37,
  none, .load none, [.t 36]⟩, ⟨some 38, none, .len, [.t 37]⟩, ⟨some 39, none, .mv, [.c (.int .i64 0)]⟩]).seq (C.block 4 ((C.ops [⟨some 40, none, .bin .lss, [.t 39, .t 38]⟩]).seq
  ((C.cond (.t 40) C.skip (C.exit 4)).seq ((C.block 5 ((C.ops [⟨some 41, none, .mv, [.t 39]⟩, ⟨some 42, none, .idxA 1, [.t 37, .t 39]⟩, ⟨some 43, none, .load none, [.t 42]⟩, ⟨some
  11, none, .mv, [.t 41]⟩, ⟨some 12, none, .mv, [.t 43]⟩]).seq (C.ops [⟨some 44, none, .load none, [.t 7]⟩, ⟨some 45, none, .mv, [.t 10]⟩, ⟨some 46, none, .mv, [.t 11]⟩, ⟨some 47,
  none, .bin .add, [.t 45, .t 46]⟩, ⟨some 48, none, .mv, [.t 12]⟩, ⟨some 49, none, .callv, [.t 44, .t 47, .t 48]⟩]))).seq (C.ops [⟨some 50, none, .bin .add, [.t 39, .c (.int .i64
  1)]⟩, ⟨some 39, none, .mv, [.t 50]⟩])))).loop)))))))).seq (C.ops [⟨some 51, none, .bin .add, [.t 26, .c (.int .i64 1)]⟩, ⟨some 26, none, .mv, [.t 51]⟩])))).loop)).seq ((C.ops
  [⟨some 52, none, .load none, [.t 6]⟩, ⟨some 53, none, .mv, [.t 5]⟩, ⟨some 54, none, .len, [.t 53]⟩, ⟨some 55, none, .bin .sub, [.t 54, .c (.int .i64 1)]⟩, ⟨some 56, none, .slc 1
  true true, [.t 52, .c (.int .i64 2), .t 55]⟩, ⟨some 4, none, .mv, [.t 56]⟩]).seq
  C.ret))))))
theorem fn41d : FnIs Tryd.prog 41 57 8 [RV.tmp 4] c41d := ⟨Tryd.f41, Tryd.f41.body.getD .skip, [4, 13, 16, 17, 22, 6, 7, 9], [74, 97, 42, 44, 59, 48, 50, 52, 69, 81, 96], [], by kernel_rfl, by kernel_rfl, by kernel_rfl, by kernel_rfl, by kernel_rfl, by kernel_rfl, by kernel_rfl⟩
def c42d : C :=
  ((C.ops [⟨some 4, none, .nilo 0 2 32, []⟩]).seq (((C.ops [⟨some 5, none, .mv, [.t 1]⟩, ⟨some 6, none, .bin .lss, [.t 5, .c (.int .i64 0)]⟩]).seq (C.cond (.t 6) C.bad C.skip)).seq
  (((C.ops [⟨some 8, none, .mv, [.t 1]⟩, ⟨some 9, none, .mv, [.t 0]⟩, ⟨some 10, none, .cap, [.t 9]⟩, ⟨some 11, none, .mv, [.t 0]⟩, ⟨some 12, none, .len, [.t 11]⟩, ⟨some 13, none,
  .bin .sub, [.t 10, .t 12]⟩, ⟨some 14, none, .bin .sub, [.t 8, .t 13]⟩, ⟨some 1, none, .mv, [.t 14]⟩]).seq ((C.ops [⟨some 15, none, .mv, [.t 1]⟩, ⟨some 16, none, .bin .gtr, [.t 15,
  .c (.int .i64 0)]⟩]).seq (C.cond (.t 16) (C.ops [⟨some 17, none, .mv, [.t 0]⟩, ⟨some 18, none, .mv, [.t 0]⟩, ⟨some 19, none, .cap, [.t 18]⟩, ⟨some 20, none, .slc 2 false true, [.t
  17, .t 19]⟩, ⟨some 21, none, .mv, [.t 1]⟩, ⟨some 22, none, .appz 1 2 32 [.str [], .nl] 40, [.t 20, .t 21]⟩, ⟨some 23, none, .mv, [.t 0]⟩, ⟨some 24, none, .len, [.t 23]⟩, ⟨some 25,
  none, .slc 2 false true, [.t 22, .t 24]⟩, ⟨some 0, none, .mv, [.t 25]⟩]) C.skip))).seq ((C.ops [⟨some 26, none, .mv, [.t 0]⟩, ⟨some 4, none, .mv, [.t 26]⟩]).seq
  C.ret))))
theorem fn42d : FnIs Tryd.prog 42 27 2 [RV.tmp 4] c42d := ⟨Tryd.f42, Tryd.f42.body.getD .skip, [4, 22], [74, 97, 42, 44, 59, 48, 50, 52, 69, 81, 96], [], by kernel_rfl, by kernel_rfl, by kernel_rfl, by kernel_rfl, by kernel_rfl, by kernel_rfl, by kernel_rfl⟩
def c43d : C :=
  ((C.ops [⟨some 1, none, .box 0 9, [.t 0]⟩, ⟨some 2, none, .mv, [.c .nilfn]⟩]).seq ((C.ops [⟨some 3, none, .mkfn (Fn.func 76) 0, [.t 1]⟩, ⟨some 2, none, .mv, [.t 3]⟩]).seq
  C.ret))
theorem fn43d : FnIs Tryd.prog 43 4 1 [RV.tmp 2] c43d := ⟨Tryd.f43, Tryd.f43.body.getD .skip, [1], [74, 97, 42, 44, 59, 48, 50, 52, 69, 81, 96], [], by kernel_rfl, by kernel_rfl, by kernel_rfl, by kernel_rfl, by kernel_rfl, by kernel_rfl, by kernel_rfl⟩
def c44d : C :=
  ((C.ops [⟨some 4, none, .nilo 0 1 3, []⟩, ⟨some 5, none, .nilo 1 1 3, []⟩]).seq ((C.ops [⟨some 6, none, .nilo 2 1 3, []⟩, ⟨some 7, none, .nilo 3 1 3, []⟩]).seq ((C.ops [⟨some 12,
  none, .mv, [.t 1]⟩, ⟨some 13, none, .call 49 true, [.t 12]⟩, ⟨some 8, none, .mv, [.t 13]⟩]).seq ((C.ops [⟨some 9, none, .mv, [.c (.int .i64 0)]⟩]).seq (((C.ops [⟨some 14, none,
  .mv, [.t 0]⟩, ⟨some 15, none, .mv, [.t 1]⟩, ⟨some 16, none, .call 41 true, [.t 14, .t 15]⟩, ⟨some 17, none, .len, [.t 16]⟩, ⟨some 18, none, .mv, [.c (.int .i64 0)]⟩]).seq (C.block
  0 ((C.ops [⟨some 19, none, .bin .lss, [.t 18, .t 17]⟩]).seq ((C.cond (.t 19) C.skip (C.exit 0)).seq ((C.block 1 ((C.ops [⟨some 20, none, .mv, [.t 18]⟩, ⟨some 21, none, .idxA 1, [.t
  16, .t 18]⟩, ⟨some 22, none, .load none, [.t 21]⟩, ⟨some 10, none, .mv, [.t 20]⟩, ⟨some 11, none, .mv, [.t 22]⟩]).seq ((C.ops [⟨some 23, none, .mv, [.t 9]⟩, ⟨some 24, none, .mv,
  [.t 8]⟩, ⟨some 25, none, .mv, [.t 10]⟩, ⟨some 26, none, .idxA 1, [.t 24, .t 25]⟩, ⟨some 27, none, .load none, [.t 26]⟩, ⟨some 28, none, .slen, [.t 27]⟩, ⟨some 29, none, .bin .add,
  [.t 23, .t 28]⟩, ⟨some 9, none, .mv, [.t 29]⟩]).seq ((C.ops [⟨some 30, none, .mv, [.t 11]⟩, ⟨some 31, none, .bin .rem, [.t 30, .c (.int .i64 2)]⟩, ⟨some 32, none, .bin .eql, [.t
  31, .c (.int .i64 1)]⟩, ⟨some 33, none, .mv, [.t 32]⟩, ⟨some 34, some (33, true), .mv, [.t 10]⟩, ⟨some 35, some (33, true), .bin .geq, [.t 34, .c (.int .i64 1)]⟩, ⟨some 36, none,
  .pick, [.t 33, .t 35, .c (.bool false)]⟩, ⟨some 37, none, .mv, [.t 36]⟩, ⟨some 38, some (37, true), .mv, [.t 8]⟩, ⟨some 39, some (37, true), .len, [.t 38]⟩, ⟨some 40, some (37,
  true), .mv, [.t 10]⟩, ⟨some 41, some (37, true), .bin .sub, [.t 39, .t 40]⟩, ⟨some 42, some (37, true), .bin .sub, [.t 41, .c (.int .i64 1)]⟩, ⟨some 43, some (37, true), .bin .geq,
  [.t 42, .c (.int .i64 2)]⟩, ⟨some 44, none, .pick, [.t 37, .t 43, .c (.bool false)]⟩]).seq (C.cond (.t 44) (C.ops [⟨some 45, none, .mv, [.t 6]⟩, ⟨some 46, none, .mv, [.t 9]⟩, ⟨some
  47, none, .bslc 4 1 1 3 [.int .i64 0] [(0, 1)], [.t 46]⟩, ⟨some 48, none, .app 5 1 3 8, [.t 45, .t 47]⟩, ⟨some 49, none, .mv, [.t 7]⟩, ⟨some 50, none, .mv, [.t 11]⟩, ⟨some 51,
  none, .bslc 6 1 1 3 [.int .i64 0] [(0, 1)], [.t 50]⟩, ⟨some 52, none, .app 7 1 3 8, [.t 49, .t 51]⟩, ⟨some 6, none, .mv, [.t 48]⟩, ⟨some 7, none, .mv, [.t 52]⟩]) C.skip))))).seq
  (C.ops [⟨some 53, none, .bin .add, [.t 18, .c (.int .i64 1)]⟩, ⟨some 18, none, .mv, [.t 53]⟩])))).loop)).seq ((C.ops [⟨some 54, none, .mv, [.t 6]⟩, ⟨some 55, none, .mv, [.t 7]⟩,
  ⟨some 4, none, .mv, [.t 54]⟩, ⟨some 5, none, .mv, [.t 55]⟩]).seq
  C.ret))))))
theorem fn44d : FnIs Tryd.prog 44 56 8 [RV.tmp 4, RV.tmp 5] c44d := ⟨Tryd.f44, Tryd.f44.body.getD .skip, [4, 5, 6, 7, 47, 48, 51, 52], [74, 97, 42, 44, 59, 48, 50, 52, 69, 81, 96], [], by kernel_rfl, by kernel_rfl, by kernel_rfl, by kernel_rfl, by kernel_rfl, by kernel_rfl, by kernel_rfl⟩
def c45d : C :=
  ((C.ops [⟨some 4, none, .nilo 0 1 9, []⟩]).seq ((C.ops [⟨some 5, none, .mv, [.t 0]⟩, ⟨some 6, none, .mv, [.t 1]⟩, ⟨some 7, none, .call 78 true, [.t 5, .t 6, .c (.int .i64 0), .c
  (.int .i64 (-1))]⟩, ⟨some 4, none, .mv, [.t 7]⟩]).seq
  C.ret))
theorem fn45d : FnIs Tryd.prog 45 8 1 [RV.tmp 4] c45d := ⟨Tryd.f45, Tryd.f45.body.getD .skip, [4], [74, 97, 42, 44, 59, 48, 50, 52, 69, 81, 96], [], by kernel_rfl, by kernel_rfl, by kernel_rfl, by kernel_rfl, by kernel_rfl, by kernel_rfl, by kernel_rfl⟩
def c46d : C :=
  ((C.ops [⟨some 2, none, .alloc 0 32 [.str [], .nl], []⟩, ⟨some 3, none, .mv, [.c (.bool false)]⟩]).seq ((C.ops [⟨some 4, none, .alloc 1 32 [.str [], .nl], []⟩]).seq (((C.ops [⟨some
  10, none, .mv, [.t 0]⟩, ⟨some 11, none, .bin .eql, [.t 10, .c (.str [])]⟩]).seq (C.cond (.t 11) ((C.ops [⟨some 12, none, .load (some 2), [.t 4]⟩, ⟨none, none, .store 2, [.t 2, .t
  12]⟩, ⟨some 3, none, .mv, [.c (.bool false)]⟩]).seq C.ret) C.skip)).seq ((C.ops [⟨some 5, none, .mv, [.c (.int .i64 0)]⟩]).seq (((C.ops [⟨some 6, none, .mv, [.c (.int .i64
  0)]⟩]).seq (C.block 0 (((C.ops [⟨some 13, none, .mv, [.t 6]⟩, ⟨some 14, none, .mv, [.t 0]⟩, ⟨some 15, none, .slen, [.t 14]⟩, ⟨some 16, none, .bin .lss, [.t 13, .t 15]⟩]).seq
  (C.cond (.t 16) C.skip (C.exit 0))).seq ((C.block 1 (((C.ops [⟨some 19, none, .mv, [.t 0]⟩, ⟨some 20, none, .mv, [.t 6]⟩, ⟨some 21, none, .sidx, [.t 19, .t 20]⟩, ⟨some 22, none,
  .call 79 true, [.t 21]⟩, ⟨some 23, none, .un UnOp.not, [.t 22]⟩]).seq (C.cond (.t 23) ((C.ops [⟨some 24, none, .fldA 0, [.t 4]⟩, ⟨some 25, none, .load none, [.t 24]⟩, ⟨some 26,
  none, .mv, [.t 0]⟩, ⟨some 27, none, .mv, [.t 6]⟩, ⟨some 28, none, .mv, [.t 6]⟩, ⟨some 29, none, .bin .add, [.t 28, .c (.int .i64 1)]⟩, ⟨some 30, none, .sslc true true, [.t 26, .t
  27, .t 29]⟩, ⟨some 31, none, .bin .add, [.t 25, .t 30]⟩, ⟨some 32, none, .fldA 0, [.t 4]⟩, ⟨none, none, .store 1, [.t 32, .t 31]⟩]).seq (C.exit 1)) C.skip)).seq ((C.ops [⟨some 33,
  none, .mv, [.t 0]⟩, ⟨some 34, none, .mv, [.t 6]⟩, ⟨some 35, none, .sidx, [.t 33, .t 34]⟩, ⟨some 36, none, .bin .eql, [.t 35, .c (.int .u8 48)]⟩, ⟨some 37, none, .mv, [.t 36]⟩,
  ⟨some 38, some (37, false), .mv, [.t 6]⟩, ⟨some 39, some (37, false), .bin .add, [.t 38, .c (.int .i64 1)]⟩, ⟨some 40, some (37, false), .mv, [.t 0]⟩, ⟨some 41, some (37, false),
  .slen, [.t 40]⟩, ⟨some 42, some (37, false), .bin .lss, [.t 39, .t 41]⟩, ⟨some 43, some (37, false), .mv, [.t 42]⟩, ⟨some 44, some (43, true), .mv, [.t 0]⟩, ⟨some 45, some (43,
  true), .mv, [.t 6]⟩, ⟨some 46, some (43, true), .bin .add, [.t 45, .c (.int .i64 1)]⟩, ⟨some 47, some (43, true), .sidx, [.t 44, .t 46]⟩, ⟨some 48, some (43, true), .call 79 true,
  [.t 47]⟩, ⟨some 49, some (43, true), .mv, [.t 48]⟩, ⟨some 50, some (49, false), .mv, [.t 0]⟩, ⟨some 51, some (49, false), .mv, [.t 6]⟩, ⟨some 52, some (49, false), .bin .add, [.t
  51, .c (.int .i64 1)]⟩, ⟨some 53, some (49, false), .sidx, [.t 50, .t 52]⟩, ⟨some 54, some (49, false), .call 71 true, [.t 53]⟩, ⟨some 55, some (49, false), .bin .eql, [.t 54, .c
  (.int .i64 2)]⟩, ⟨some 56, some (43, true), .pick, [.t 49, .c (.bool true), .t 55]⟩, ⟨some 57, some (37, false), .pick, [.t 43, .t 56, .c (.bool false)]⟩, ⟨some 58, none, .pick,
  [.t 37, .c (.bool true), .t 57]⟩]).seq (C.cond (.t 58) ((C.ops [⟨some 59, none, .load (some 2), [.t 4]⟩, ⟨none, none, .store 2, [.t 2, .t 59]⟩, ⟨some 3, none, .mv, [.c (.bool
  false)]⟩]).seq C.ret) C.skip)))).seq (C.ops [⟨some 17, none, .mv, [.t 6]⟩, ⟨some 18, none, .bin .add, [.t 17, .c (.int .i64 1)]⟩, ⟨some 6, none, .mv, [.t 18]⟩]))).loop)).seq
  ((C.ops [⟨some 7, none, .mv, [.c (.int .i64 0)]⟩]).seq (((C.ops [⟨some 60, none, .fldA 0, [.t 4]⟩, ⟨some 61, none, .load none, [.t 60]⟩, ⟨some 62, none, .call 49 true, [.t 61]⟩,
  ⟨some 63, none, .len, [.t 62]⟩, ⟨some 64, none, .mv, [.c (.int .i64 0)]⟩]).seq (C.block 2 ((C.ops [⟨some 65, none, .bin .lss, [.t 64, .t 63]⟩]).seq ((C.cond (.t 65) C.skip (C.exit
  2)).seq ((C.block 3 ((C.ops [⟨some 66, none, .idxA 1, [.t 62, .t 64]⟩, ⟨some 67, none, .load none, [.t 66]⟩, ⟨some 9, none, .mv, [.t 67]⟩]).seq ((C.ops [⟨some 5, none, .mv, [.c
  (.int .i64 0)]⟩]).seq (((C.ops [⟨some 68, none, .mv, [.t 0]⟩, ⟨some 69, none, .mv, [.t 7]⟩, ⟨some 70, none, .sidx, [.t 68, .t 69]⟩, ⟨some 71, none, .call 79 true, [.t 70]⟩]).seq
  (C.cond (.t 71) ((C.ops [⟨some 72, none, .mv, [.t 0]⟩, ⟨some 73, none, .mv, [.t 7]⟩, ⟨some 74, none, .sidx, [.t 72, .t 73]⟩, ⟨some 75, none, .bin .sub, [.t 74, .c (.int .u8 48)]⟩,
  ⟨some 76, none, .conv .i64, [.t 75]⟩, ⟨some 5, none, .mv, [.t 76]⟩]).seq (C.ops [⟨some 77, none, .mv, [.t 7]⟩, ⟨some 78, none, .bin .add, [.t 77, .c (.int .i64 1)]⟩, ⟨some 7, none,
  .mv, [.t 78]⟩])) C.skip)).seq ((C.ops [⟨some 79, none, .fldA 1, [.t 4]⟩, ⟨some 80, none, .load none, [.t 79]⟩, ⟨some 81, none, .mv, [.t 5]⟩, ⟨some 82, none, .bslc 2 1 1 3 [.int
  .i64 0] [(0, 1)], [.t 81]⟩, ⟨some 83, none, .app 3 1 3 8, [.t 80, .t 82]⟩, ⟨some 84, none, .fldA 1, [.t 4]⟩, ⟨none, none, .store 1, [.t 84, .t 83]⟩]).seq (C.ops [⟨some 85, none,
  .mv, [.t 7]⟩, ⟨some 86, none, .mv, [.t 9]⟩, ⟨some 87, none, .slen, [.t 86]⟩, ⟨some 88, none, .bin .add, [.t 85, .t 87]⟩, ⟨some 7, none, .mv, [.t 88]⟩])))))).seq (C.ops [⟨some 89,
  none, .bin .add, [.t 64, .c (.int .i64 1)]⟩, ⟨some 64, none, .mv, [.t 89]⟩])))).loop)).seq ((C.ops [⟨some 5, none, .mv, [.c (.int .i64 0)]⟩]).seq (((C.ops [⟨some 90, none, .mv, [.t
  7]⟩, ⟨some 91, none, .mv, [.t 0]⟩, ⟨some 92, none, .slen, [.t 91]⟩, ⟨some 93, none, .bin .lss, [.t 90, .t 92]⟩]).seq (C.cond (.t 93) (C.ops [⟨some 94, none, .mv, [.t 0]⟩, ⟨some 95,
  none, .mv, [.t 7]⟩, ⟨some 96, none, .sidx, [.t 94, .t 95]⟩, ⟨some 97, none, .bin .sub, [.t 96, .c (.int .u8 48)]⟩, ⟨some 98, none, .conv .i64, [.t 97]⟩, ⟨some 5, none, .mv, [.t
  98]⟩]) C.skip)).seq ((C.ops [⟨some 99, none, .fldA 1, [.t 4]⟩, ⟨some 100, none, .load none, [.t 99]⟩, ⟨some 101, none, .mv, [.t 5]⟩, ⟨some 102, none, .bslc 4 1 1 3 [.int .i64 0]
  [(0, 1)], [.t 101]⟩, ⟨some 103, none, .app 5 1 3 8, [.t 100, .t 102]⟩, ⟨some 104, none, .fldA 1, [.t 4]⟩, ⟨none, none, .store 1, [.t 104, .t 103]⟩]).seq ((C.ops [⟨some 105, none,
  .load (some 2), [.t 4]⟩, ⟨none, none, .store 2, [.t 2, .t 105]⟩, ⟨some 3, none, .mv, [.c (.bool true)]⟩]).seq
  C.ret)))))))))))
theorem fn46d : FnIs Tryd.prog 46 106 6 [RV.cell 2 (some 2), RV.tmp 3] c46d := ⟨Tryd.f46, Tryd.f46.body.getD .skip, [2, 4, 82, 83, 102, 103], [74, 97, 42, 44, 59, 48, 50, 52, 69, 81, 96], [], by kernel_rfl, by kernel_rfl, by kernel_rfl, by kernel_rfl, by kernel_rfl, by kernel_rfl, by kernel_rfl⟩
def c49d : C :=
  ((C.ops [⟨some 2, none, .nilo 0 1 9, []⟩]).seq ((C.ops [⟨some 3, none, .mv, [.t 0]⟩, ⟨some 4, none, .call 16 true, [.t 3]⟩, ⟨some 2, none, .mv, [.t 4]⟩]).seq
  C.ret))
theorem fn49d : FnIs Tryd.prog 49 5 1 [RV.tmp 2] c49d := ⟨Tryd.f49, Tryd.f49.body.getD .skip, [2], [74, 97, 42, 44, 59, 48, 50, 52, 69, 81, 96], [], by kernel_rfl, by kernel_rfl, by kernel_rfl, by kernel_rfl, by kernel_rfl, by kernel_rfl, by kernel_rfl⟩
def c54d : C :=
  ((C.ops [⟨some 1, none, .box 0 32, [.t 0]⟩, ⟨some 2, none, .mv, [.c (.int .i64 0)]⟩]).seq (((C.ops [⟨some 7, none, .fldA 0, [.t 1]⟩, ⟨some 8, none, .load none, [.t 7]⟩, ⟨some 9,
  none, .slen, [.t 8]⟩, ⟨some 10, none, .bin .gtr, [.t 9, .c (.int .i64 64)]⟩]).seq (C.cond (.t 10) ((C.ops [⟨some 2, none, .mv, [.c (.int .i64 4)]⟩]).seq C.ret) C.skip)).seq ((C.ops
  [⟨some 11, none, .fldA 0, [.t 1]⟩, ⟨some 12, none, .load none, [.t 11]⟩, ⟨some 13, none, .call 84 true, [.t 12, .c (.str [46])]⟩, ⟨some 14, none, .call 83 true, [.t 13, .c (.str
  [46])]⟩, ⟨some 3, none, .mv, [.t 14]⟩]).seq ((C.ops [⟨some 4, none, .mv, [.c (.fn (Fn.func 85) [] [])]⟩]).seq ((C.ops [⟨some 5, none, .mv, [.c (.bool false)]⟩]).seq (((C.ops [⟨some
  15, none, .mv, [.t 3]⟩, ⟨some 16, none, .slen, [.t 15]⟩, ⟨some 17, none, .mv, [.c (.int .i64 0)]⟩]).seq (C.block 0 ((C.ops [⟨some 18, none, .bin .lss, [.t 17, .t 16]⟩]).seq
  ((C.cond (.t 18) C.skip (C.exit 0)).seq ((C.block 1 ((C.ops [⟨some 19, none, .mv, [.t 17]⟩, ⟨some 6, none, .mv, [.t 19]⟩]).seq (((C.ops [⟨some 20, none, .mv, [.t 4]⟩, ⟨some 21,
  none, .mv, [.t 3]⟩, ⟨some 22, none, .mv, [.t 6]⟩, ⟨some 23, none, .sidx, [.t 21, .t 22]⟩, ⟨some 24, none, .callv, [.t 20, .t 23]⟩, ⟨some 25, none, .un UnOp.not, [.t 24]⟩]).seq
  (C.cond (.t 25) ((C.ops [⟨some 2, none, .mv, [.c (.int .i64 11)]⟩]).seq C.ret) C.skip)).seq (C.ops [⟨some 26, none, .mv, [.t 5]⟩, ⟨some 27, none, .mv, [.t 26]⟩, ⟨some 28, some (27,
  false), .mv, [.t 3]⟩, ⟨some 29, some (27, false), .mv, [.t 6]⟩, ⟨some 30, some (27, false), .sidx, [.t 28, .t 29]⟩, ⟨some 31, some (27, false), .call 71 true, [.t 30]⟩, ⟨some 32,
  some (27, false), .bin .neq, [.t 31, .c (.int .i64 2)]⟩, ⟨some 33, none, .pick, [.t 27, .c (.bool true), .t 32]⟩, ⟨some 5, none, .mv, [.t 33]⟩])))).seq (C.ops [⟨some 34, none, .bin
  .add, [.t 17, .c (.int .i64 1)]⟩, ⟨some 17, none, .mv, [.t 34]⟩])))).loop)).seq (((C.ops [⟨some 35, none, .mv, [.t 3]⟩, ⟨some 36, none, .call 70 true, [.t 35]⟩, ⟨some 37, none,
  .bin .neq, [.t 36, .c (.int .i64 0)]⟩]).seq (C.cond (.t 37) ((C.ops [⟨some 2, none, .mv, [.c (.int .i64 11)]⟩]).seq C.ret) C.skip)).seq (((C.ops [⟨some 38, none, .mv, [.t 5]⟩,
  ⟨some 39, none, .un UnOp.not, [.t 38]⟩]).seq (C.cond (.t 39) ((C.ops [⟨some 2, none, .mv, [.c (.int .i64 5)]⟩]).seq C.ret) C.skip)).seq (((C.ops [⟨some 40, none, .fldA 1, [.t 1]⟩,
  ⟨some 41, none, .load none, [.t 40]⟩, ⟨some 42, none, .len, [.t 41]⟩, ⟨some 43, none, .fldA 0, [.t 1]⟩, ⟨some 44, none, .load none, [.t 43]⟩, ⟨some 45, none, .call 49 true, [.t
  44]⟩, ⟨some 46, none, .len, [.t 45]⟩, ⟨some 47, none, .bin .add, [.t 46, .c (.int .i64 1)]⟩, ⟨some 48, none, .bin .neq, [.t 42, .t 47]⟩]).seq (C.cond (.t 48) ((C.ops [⟨some 2,
  none, .mv, [.c (.int .i64 9)]⟩]).seq C.ret) C.skip)).seq (((C.ops [⟨some 49, none, .fldA 1, [.t 1]⟩, ⟨some 50, none, .load none, [.t 49]⟩, ⟨some 51, none, .call 86 true, [.t 50, .c
  (.fn (Fn.func 87) [] [])]⟩, ⟨some 52, none, .mv, [.t 51]⟩, ⟨some 53, some (52, false), .fldA 0, [.t 1]⟩, ⟨some 54, some (52, false), .load none, [.t 53]⟩, ⟨some 55, some (52,
  false), .call 88 true, [.t 54, .c (.str [46])]⟩, ⟨some 56, some (52, false), .mv, [.t 55]⟩, ⟨some 57, some (56, true), .fldA 1, [.t 1]⟩, ⟨some 58, some (56, true), .load none, [.t
  57]⟩, ⟨some 59, some (56, true), .idxA 1, [.t 58, .c (.int .i64 0)]⟩, ⟨some 60, some (56, true), .load none, [.t 59]⟩, ⟨some 61, some (56, true), .bin .neq, [.t 60, .c (.int .i64
  0)]⟩, ⟨some 62, some (52, false), .pick, [.t 56, .t 61, .c (.bool false)]⟩, ⟨some 63, none, .pick, [.t 52, .c (.bool true), .t 62]⟩, ⟨some 64, none, .mv, [.t 63]⟩, ⟨some 65, some
  (64, false), .fldA 0, [.t 1]⟩, ⟨some 66, some (64, false), .load none, [.t 65]⟩, ⟨some 67, some (64, false), .call 89 true, [.t 66, .c (.str [46])]⟩, ⟨some 68, some (64, false),
  .mv, [.t 67]⟩, ⟨some 69, some (68, true), .fldA 1, [.t 1]⟩, ⟨some 70, some (68, true), .load none, [.t 69]⟩, ⟨some 71, some (68, true), .fldA 1, [.t 1]⟩, ⟨some 72, some (68, true),
  .load none, [.t 71]⟩, ⟨some 73, some (68, true), .len, [.t 72]⟩, ⟨some 74, some (68, true), .bin .sub, [.t 73, .c (.int .i64 1)]⟩, ⟨some 75, some (68, true), .idxA 1, [.t 70, .t
  74]⟩, ⟨some 76, some (68, true), .load none, [.t 75]⟩, ⟨some 77, some (68, true), .bin .neq, [.t 76, .c (.int .i64 0)]⟩, ⟨some 78, some (64, false), .pick, [.t 68, .t 77, .c (.bool
  false)]⟩, ⟨some 79, none, .pick, [.t 64, .c (.bool true), .t 78]⟩]).seq (C.cond (.t 79) ((C.ops [⟨some 2, none, .mv, [.c (.int .i64 2)]⟩]).seq C.ret) C.skip)).seq ((C.ops [⟨some 2,
  none, .mv, [.c (.int .i64 0)]⟩]).seq
  C.ret)))))))))))
theorem fn54d : FnIs Tryd.prog 54 80 1 [RV.tmp 2] c54d := ⟨Tryd.f54, Tryd.f54.body.getD .skip, [1], [74, 97, 42, 44, 59, 48, 50, 52, 69, 81, 96], [], by kernel_rfl, by kernel_rfl, by kernel_rfl, by kernel_rfl, by kernel_rfl, by kernel_rfl, by kernel_rfl⟩
def c56d : C :=
  ((C.ops [⟨some 4, none, .mv, [.c (.bool false)]⟩]).seq (((C.ops [⟨some 6, none, .mv, [.t 0]⟩, ⟨some 7, none, .len, [.t 6]⟩, ⟨some 8, none, .mv, [.t 1]⟩, ⟨some 9, none, .len, [.t
  8]⟩, ⟨some 10, none, .bin .neq, [.t 7, .t 9]⟩]).seq (C.cond (.t 10) ((C.ops [⟨some 4, none, .mv, [.c (.bool false)]⟩]).seq C.ret) C.skip)).seq (((C.ops [⟨some 5, none, .mv, [.c
  (.int .i64 0)]⟩]).seq (C.block 0 (((C.ops [⟨some 11, none, .mv, [.t 5]⟩, ⟨some 12, none, .mv, [.t 0]⟩, ⟨some 13, none, .len, [.t 12]⟩, ⟨some 14, none, .bin .lss, [.t 11, .t
  13]⟩]).seq (C.cond (.t 14) C.skip (C.exit 0))).seq ((C.block 1 ((C.ops [⟨some 17, none, .mv, [.t 0]⟩, ⟨some 18, none, .mv, [.t 5]⟩, ⟨some 19, none, .idxA 1, [.t 17, .t 18]⟩, ⟨some
  20, none, .load none, [.t 19]⟩, ⟨some 21, none, .mv, [.t 1]⟩, ⟨some 22, none, .mv, [.t 5]⟩, ⟨some 23, none, .idxA 1, [.t 21, .t 22]⟩, ⟨some 24, none, .load none, [.t 23]⟩, ⟨some
  25, none, .bin .neq, [.t 20, .t 24]⟩]).seq (C.cond (.t 25) ((C.ops [⟨some 4, none, .mv, [.c (.bool false)]⟩]).seq C.ret) C.skip))).seq (C.ops [⟨some 15, none, .mv, [.t 5]⟩, ⟨some
  16, none, .bin .add, [.t 15, .c (.int .i64 1)]⟩, ⟨some 5, none, .mv, [.t 16]⟩]))).loop)).seq ((C.ops [⟨some 4, none, .mv, [.c (.bool true)]⟩]).seq
  C.ret))))
theorem fn56d : FnIs Tryd.prog 56 26 0 [RV.tmp 4] c56d := ⟨Tryd.f56, Tryd.f56.body.getD .skip, [], [74, 97, 42, 44, 59, 48, 50, 52, 69, 81, 96], [], by kernel_rfl, by kernel_rfl, by kernel_rfl, by kernel_rfl, by kernel_rfl, by kernel_rfl, by kernel_rfl⟩
def c59d : C :=
  ((C.ops [⟨some 2, none, .nilo 0 2 32, []⟩]).seq (((C.ops [⟨some 3, none, .mv, [.t 0]⟩, ⟨some 4, none, .isnil .slice false, [.t 3]⟩]).seq (C.cond (.t 4) ((C.ops [⟨some 2, none,
  .nilo 0 2 32, []⟩]).seq C.ret) C.skip)).seq ((C.ops [⟨some 5, none, .bslc 1 2 0 32 [.str [], .nl] [], []⟩, ⟨some 6, none, .mv, [.t 0]⟩, ⟨some 7, none, .app 2 2 32 40, [.t 5, .t
  6]⟩, ⟨some 2, none, .mv, [.t 7]⟩]).seq
  C.ret)))
theorem fn59d : FnIs Tryd.prog 59 8 3 [RV.tmp 2] c59d := ⟨Tryd.f59, Tryd.f59.body.getD .skip, [2, 5, 7], [74, 97, 42, 44, 59, 48, 50, 52, 69, 81, 96], [], by kernel_rfl, by kernel_rfl, by kernel_rfl, by kernel_rfl, by kernel_rfl, by kernel_rfl, by kernel_rfl⟩
def c62d : C :=
  ((C.ops [⟨some 2, none, .nilo 0 1 9, []⟩]).seq ((C.ops [⟨some 3, none, .mv, [.t 0]⟩, ⟨some 4, none, .call 18 true, [.t 3]⟩, ⟨some 5, none, .call 49 true, [.t 4]⟩, ⟨some 2, none,
  .mv, [.t 5]⟩]).seq
  C.ret))
theorem fn62d : FnIs Tryd.prog 62 6 1 [RV.tmp 2] c62d := ⟨Tryd.f62, Tryd.f62.body.getD .skip, [2], [74, 97, 42, 44, 59, 48, 50, 52, 69, 81, 96], [], by kernel_rfl, by kernel_rfl, by kernel_rfl, by kernel_rfl, by kernel_rfl, by kernel_rfl, by kernel_rfl⟩
def c63d : C :=
  ((C.ops [⟨some 4, none, .mv, [.c (.int .i64 0)]⟩]).seq (((C.ops [⟨some 6, none, .mv, [.t 0]⟩, ⟨some 7, none, .len, [.t 6]⟩, ⟨some 8, none, .mv, [.c (.int .i64 0)]⟩]).seq (C.block 0
  ((C.ops [⟨some 9, none, .bin .lss, [.t 8, .t 7]⟩]).seq ((C.cond (.t 9) C.skip (C.exit 0)).seq ((C.block 1 ((C.ops [⟨some 10, none, .mv, [.t 8]⟩, ⟨some 5, none, .mv, [.t 10]⟩]).seq
  ((C.ops [⟨some 11, none, .mv, [.t 1]⟩, ⟨some 12, none, .mv, [.t 0]⟩, ⟨some 13, none, .mv, [.t 5]⟩, ⟨some 14, none, .idxA 1, [.t 12, .t 13]⟩, ⟨some 15, none, .load none, [.t 14]⟩,
  ⟨some 16, none, .bin .eql, [.t 11, .t 15]⟩]).seq (C.cond (.t 16) ((C.ops [⟨some 17, none, .mv, [.t 5]⟩, ⟨some 4, none, .mv, [.t 17]⟩]).seq C.ret) C.skip)))).seq (C.ops [⟨some 18,
  none, .bin .add, [.t 8, .c (.int .i64 1)]⟩, ⟨some 8, none, .mv, [.t 18]⟩])))).loop)).seq ((C.ops [⟨some 4, none, .mv, [.c (.int .i64 (-1))]⟩]).seq
  C.ret)))
theorem fn63d : FnIs Tryd.prog 63 19 0 [RV.tmp 4] c63d := ⟨Tryd.f63, Tryd.f63.body.getD .skip, [], [74, 97, 42, 44, 59, 48, 50, 52, 69, 81, 96], [], by kernel_rfl, by kernel_rfl, by kernel_rfl, by kernel_rfl, by kernel_rfl, by kernel_rfl, by kernel_rfl⟩
def c66d : C :=
  ((C.ops [⟨some 4, none, .mv, [.c (.bool false)]⟩]).seq ((C.ops [⟨some 5, none, .mv, [.t 0]⟩, ⟨some 6, none, .mv, [.t 1]⟩, ⟨some 7, none, .call 94 true, [.t 5, .t 6]⟩, ⟨some 8,
  none, .bin .geq, [.t 7, .c (.int .i64 0)]⟩, ⟨some 4, none, .mv, [.t 8]⟩]).seq
  C.ret))
theorem fn66d : FnIs Tryd.prog 66 9 0 [RV.tmp 4] c66d := ⟨Tryd.f66, Tryd.f66.body.getD .skip, [], [74, 97, 42, 44, 59, 48, 50, 52, 69, 81, 96], [], by kernel_rfl, by kernel_rfl, by kernel_rfl, by kernel_rfl, by kernel_rfl, by kernel_rfl, by kernel_rfl⟩
def c67d : C :=
  ((C.ops [⟨some 3, none, .mv, [.c (.bool false)]⟩]).seq ((C.ops [⟨some 4, none, .load none, [.t 1]⟩, ⟨some 5, none, .mv, [.t 0]⟩, ⟨some 6, none, .call 68 true, [.t 4, .t 5]⟩, ⟨some
  7, none, .bin .geq, [.t 6, .c (.int .i64 0)]⟩, ⟨some 3, none, .mv, [.t 7]⟩]).seq
  C.ret))
theorem fn67d : FnIs Tryd.prog 67 8 0 [RV.tmp 3] c67d := ⟨Tryd.f67, Tryd.f67.body.getD .skip, [], [74, 97, 42, 44, 59, 48, 50, 52, 69, 81, 96], [], by kernel_rfl, by kernel_rfl, by kernel_rfl, by kernel_rfl, by kernel_rfl, by kernel_rfl, by kernel_rfl⟩
def c68d : C :=
  ((C.ops [⟨some 4, none, .mv, [.c (.int .i64 0)]⟩]).seq ((C.ops [⟨some 5, none, .mv, [.t 0]⟩, ⟨some 6, none, .mv, [.t 1]⟩, ⟨some 7, none, .call 95 true, [.t 5, .t 6]⟩, ⟨some 4,
  none, .mv, [.t 7]⟩]).seq
  C.ret))
theorem fn68d : FnIs Tryd.prog 68 8 0 [RV.tmp 4] c68d := ⟨Tryd.f68, Tryd.f68.body.getD .skip, [], [74, 97, 42, 44, 59, 48, 50, 52, 69, 81, 96], [], by kernel_rfl, by kernel_rfl, by kernel_rfl, by kernel_rfl, by kernel_rfl, by kernel_rfl, by kernel_rfl⟩
def c70d : C :=
  ((C.ops [⟨some 2, none, .alloc 0 27 [.int .i64 0], []⟩]).seq (((C.ops [⟨some 6, none, .mv, [.t 0]⟩, ⟨some 7, none, .slen, [.t 6]⟩, ⟨some 8, none, .bin .gtr, [.t 7, .c (.int .i64
  65536)]⟩]).seq (C.cond (.t 8) ((C.ops [⟨none, none, .store 1, [.t 2, .c (.int .i64 4)]⟩]).seq C.ret) C.skip)).seq (((C.ops [⟨some 9, none, .mv, [.t 0]⟩, ⟨some 10, none, .call 43
  true, [.t 9]⟩]).seq (C.block 0 (C.range (.t 10) [11, 12] (C.ops [⟨some 4, none, .mv, [.t 12]⟩]) (C.block 1 ((C.ops [⟨some 13, none, .mv, [.t 4]⟩, ⟨some 14, none, .sidx, [.t 13, .c
  (.int .i64 0)]⟩, ⟨some 15, none, .call 71 true, [.t 14]⟩, ⟨some 5, none, .mv, [.t 15]⟩]).seq ((C.ops [⟨some 16, none, .mv, [.t 5]⟩, ⟨some 17, none, .bin .eql, [.t 16, .c (.int .i64
  0)]⟩, ⟨some 18, none, .mv, [.t 17]⟩, ⟨some 19, some (18, false), .mv, [.t 5]⟩, ⟨some 20, some (18, false), .bin .eql, [.t 19, .c (.int .i64 2)]⟩, ⟨some 21, none, .pick, [.t 18, .c
  (.bool true), .t 20]⟩]).seq (C.cond (.t 21) ((C.ops [⟨none, none, .store 1, [.t 2, .c (.int .i64 11)]⟩]).seq C.ret) C.skip))))))).seq ((C.ops [⟨none, none, .store 1, [.t 2, .c
  (.int .i64 0)]⟩]).seq
  C.ret))))
theorem fn70d : FnIs Tryd.prog 70 22 1 [RV.cell 2 none] c70d := ⟨Tryd.f70, Tryd.f70.body.getD .skip, [2], [74, 97, 42, 44, 59, 48, 50, 52, 69, 81, 96], [], by kernel_rfl, by kernel_rfl, by kernel_rfl, by kernel_rfl, by kernel_rfl, by kernel_rfl, by kernel_rfl⟩
def c71d : C :=
  ((C.ops [⟨some 2, none, .mv, [.c (.int .i64 0)]⟩]).seq ((C.block 0 ((C.ops [⟨some 4, none, .mv, [.t 0]⟩, ⟨some 5, none, .bin .geq, [.t 4, .c (.int .u8 97)]⟩, ⟨some 6, none, .mv,
  [.t 5]⟩, ⟨some 7, some (6, true), .mv, [.t 0]⟩, ⟨some 8, some (6, true), .bin .leq, [.t 7, .c (.int .u8 122)]⟩, ⟨some 9, none, .pick, [.t 6, .t 8, .c (.bool false)]⟩, ⟨some 10,
  none, .mv, [.t 9]⟩, ⟨some 11, some (10, false), .mv, [.t 0]⟩, ⟨some 12, some (10, false), .bin .geq, [.t 11, .c (.int .u8 65)]⟩, ⟨some 13, some (10, false), .mv, [.t 12]⟩, ⟨some
  14, some (13, true), .mv, [.t 0]⟩, ⟨some 15, some (13, true), .bin .leq, [.t 14, .c (.int .u8 90)]⟩, ⟨some 16, some (10, false), .pick, [.t 13, .t 15, .c (.bool false)]⟩, ⟨some 17,
  none, .pick, [.t 10, .c (.bool true), .t 16]⟩, ⟨some 3, none, .mv, [.t 17]⟩]).seq (C.cond (.t 3) ((C.ops [⟨some 2, none, .mv, [.c (.int .i64 1)]⟩]).seq C.ret) ((C.ops [⟨some 19,
  none, .mv, [.t 0]⟩, ⟨some 20, none, .bin .eql, [.t 19, .c (.int .u8 94)]⟩, ⟨some 21, none, .mv, [.t 20]⟩, ⟨some 22, some (21, false), .mv, [.t 0]⟩, ⟨some 23, some (21, false), .bin
  .eql, [.t 22, .c (.int .u8 126)]⟩, ⟨some 24, none, .pick, [.t 21, .c (.bool true), .t 23]⟩, ⟨some 25, none, .mv, [.t 24]⟩, ⟨some 26, some (25, false), .mv, [.t 0]⟩, ⟨some 27, some
  (25, false), .bin .eql, [.t 26, .c (.int .u8 37)]⟩, ⟨some 28, none, .pick, [.t 25, .c (.bool true), .t 27]⟩, ⟨some 18, none, .mv, [.t 28]⟩]).seq (C.cond (.t 18) ((C.ops [⟨some 2,
  none, .mv, [.c (.int .i64 2)]⟩]).seq C.ret) ((C.ops [⟨some 30, none, .mv, [.t 0]⟩, ⟨some 31, none, .bin .geq, [.t 30, .c (.int .u8 48)]⟩, ⟨some 32, none, .mv, [.t 31]⟩, ⟨some 33,
  some (32, true), .mv, [.t 0]⟩, ⟨some 34, some (32, true), .bin .leq, [.t 33, .c (.int .u8 57)]⟩, ⟨some 35, none, .pick, [.t 32, .t 34, .c (.bool false)]⟩, ⟨some 29, none, .mv, [.t
  35]⟩]).seq (C.cond (.t 29) ((C.ops [⟨some 2, none, .mv, [.c (.int .i64 3)]⟩]).seq C.ret) ((C.ops [⟨some 37, none, .mv, [.t 0]⟩, ⟨some 38, none, .bin .eql, [.t 37, .c (.int .u8
  39)]⟩, ⟨some 36, none, .mv, [.t 38]⟩]).seq (C.cond (.t 36) ((C.ops [⟨some 2, none, .mv, [.c (.int .i64 4)]⟩]).seq C.ret) ((C.ops [⟨some 40, none, .mv, [.t 0]⟩, ⟨some 41, none, .bin
  .eql, [.t 40, .c (.int .u8 32)]⟩, ⟨some 39, none, .mv, [.t 41]⟩]).seq (C.cond (.t 39) ((C.ops [⟨some 2, none, .mv, [.c (.int .i64 6)]⟩]).seq C.ret) ((C.ops [⟨some 43, none, .mv,
  [.t 0]⟩, ⟨some 44, none, .bin .neq, [.t 43, .c (.int .u8 0)]⟩, ⟨some 45, none, .mv, [.t 44]⟩, ⟨some 46, some (45, true), .mv, [.t 0]⟩, ⟨some 47, some (45, true), .call 68 true, [.c
  (.str [46, 44, 59, 58, 33, 63, 40, 41, 45]), .t 46]⟩, ⟨some 48, some (45, true), .bin .geq, [.t 47, .c (.int .i64 0)]⟩, ⟨some 49, none, .pick, [.t 45, .t 48, .c (.bool false)]⟩,
  ⟨some 42, none, .mv, [.t 49]⟩]).seq (C.cond (.t 42) ((C.ops [⟨some 2, none, .mv, [.c (.int .i64 5)]⟩]).seq C.ret) C.skip))))))))))))).seq ((C.ops [⟨some 2, none, .mv, [.c (.int
  .i64 0)]⟩]).seq
  C.ret)))
theorem fn71d : FnIs Tryd.prog 71 50 0 [RV.tmp 2] c71d := ⟨Tryd.f71, Tryd.f71.body.getD .skip, [], [74, 97, 42, 44, 59, 48, 50, 52, 69, 81, 96], [], by kernel_rfl, by kernel_rfl, by kernel_rfl, by kernel_rfl, by kernel_rfl, by kernel_rfl, by kernel_rfl⟩
def c72d : C :=
  ((C.ops [⟨some 2, none, .mv, [.c (.bool false)]⟩]).seq ((C.ops [⟨some 4, none, .mv, [.t 0]⟩, ⟨some 5, none, .call 71 true, [.t 4]⟩, ⟨some 3, none, .mv, [.t 5]⟩]).seq ((C.ops [⟨some
  6, none, .mv, [.t 3]⟩, ⟨some 7, none, .bin .eql, [.t 6, .c (.int .i64 5)]⟩, ⟨some 8, none, .mv, [.t 7]⟩, ⟨some 9, some (8, false), .mv, [.t 3]⟩, ⟨some 10, some (8, false), .bin
  .eql, [.t 9, .c (.int .i64 6)]⟩, ⟨some 11, none, .pick, [.t 8, .c (.bool true), .t 10]⟩, ⟨some 2, none, .mv, [.t 11]⟩]).seq
  C.ret)))
theorem fn72d : FnIs Tryd.prog 72 12 0 [RV.tmp 2] c72d := ⟨Tryd.f72, Tryd.f72.body.getD .skip, [], [74, 97, 42, 44, 59, 48, 50, 52, 69, 81, 96], [], by kernel_rfl, by kernel_rfl, by kernel_rfl, by kernel_rfl, by kernel_rfl, by kernel_rfl, by kernel_rfl⟩
def c73d : C :=
  ((C.ops [⟨some 2, none, .nilo 0 1 9, []⟩]).seq ((C.ops [⟨some 3, none, .mv, [.c (.int .i64 0)]⟩]).seq (((C.ops [⟨some 9, none, .mv, [.t 0]⟩, ⟨some 10, none, .len, [.t 9]⟩, ⟨some
  11, none, .mv, [.c (.int .i64 0)]⟩]).seq (C.block 0 ((C.ops [⟨some 12, none, .bin .lss, [.t 11, .t 10]⟩]).seq ((C.cond (.t 12) C.skip (C.exit 0)).seq ((C.block 1 ((C.ops [⟨some 13,
  none, .idxA 1, [.t 9, .t 11]⟩, ⟨some 14, none, .load none, [.t 13]⟩, ⟨some 5, none, .mv, [.t 14]⟩]).seq ((C.ops [⟨some 15, none, .mv, [.t 3]⟩, ⟨some 16, none, .mv, [.t 5]⟩, ⟨some
  17, none, .len, [.t 16]⟩, ⟨some 18, none, .bin .add, [.t 15, .t 17]⟩, ⟨some 3, none, .mv, [.t 18]⟩]).seq ((C.ops [⟨some 19, none, .mv, [.t 3]⟩, ⟨some 20, none, .bin .lss, [.t 19,
  .c (.int .i64 0)]⟩]).seq (C.cond (.t 20) C.bad C.skip))))).seq (C.ops [⟨some 22, none, .bin .add, [.t 11, .c (.int .i64 1)]⟩, ⟨some 11, none, .mv, [.t 22]⟩])))).loop)).seq ((C.ops
  [⟨some 23, none, .mv, [.t 3]⟩, ⟨some 24, none, .call 97 false, [.c .nl, .t 23]⟩, ⟨some 6, none, .mv, [.t 24]⟩]).seq (((C.ops [⟨some 25, none, .mv, [.t 0]⟩, ⟨some 26, none, .len,
  [.t 25]⟩, ⟨some 27, none, .mv, [.c (.int .i64 0)]⟩]).seq (C.block 2 ((C.ops [⟨some 28, none, .bin .lss, [.t 27, .t 26]⟩]).seq ((C.cond (.t 28) C.skip (C.exit 2)).seq ((C.block 3
  ((C.ops [⟨some 29, none, .idxA 1, [.t 25, .t 27]⟩, ⟨some 30, none, .load none, [.t 29]⟩, ⟨some 8, none, .mv, [.t 30]⟩]).seq (C.ops [⟨some 31, none, .mv, [.t 6]⟩, ⟨some 32, none,
  .mv, [.t 8]⟩, ⟨some 33, none, .app 1 1 9 16, [.t 31, .t 32]⟩, ⟨some 6, none, .mv, [.t 33]⟩]))).seq (C.ops [⟨some 34, none, .bin .add, [.t 27, .c (.int .i64 1)]⟩, ⟨some 27, none,
  .mv, [.t 34]⟩])))).loop)).seq ((C.ops [⟨some 35, none, .mv, [.t 6]⟩, ⟨some 2, none, .mv, [.t 35]⟩]).seq
  C.ret))))))
theorem fn73d : FnIs Tryd.prog 73 36 3 [RV.tmp 2] c73d := ⟨Tryd.f73, Tryd.f73.body.getD .skip, [2, 33, 24], [74, 97, 42, 44, 59, 48, 50, 52, 69, 81, 96], [], by kernel_rfl, by kernel_rfl, by kernel_rfl, by kernel_rfl, by kernel_rfl, by kernel_rfl, by kernel_rfl⟩
def c74d : C :=
  (C.ops [⟨some 5, none, .load none, [.t 2]⟩, ⟨some 6, none, .mv, [.t 0]⟩, ⟨some 7, none, .load none, [.t 2]⟩, ⟨some 8, none, .mv, [.t 0]⟩, ⟨some 9, none, .idxA 1, [.t 7, .t 8]⟩,
  ⟨some 10, none, .load none, [.t 9]⟩, ⟨some 11, none, .mv, [.t 1]⟩, ⟨some 12, none, .mm true, [.t 10, .t 11]⟩, ⟨some 13, none, .idxA 1, [.t 5, .t 6]⟩, ⟨none, none, .store 1, [.t 13,
  .t
  12]⟩])
theorem fn74d : FnIs Tryd.prog 74 14 0 [] c74d := ⟨Tryd.f74, Tryd.f74.body.getD .skip, [], [74, 97, 42, 44, 59, 48, 50, 52, 69, 81, 96], [], by kernel_rfl, by kernel_rfl, by kernel_rfl, by kernel_rfl, by kernel_rfl, by kernel_rfl, by kernel_rfl⟩
def c75d : C :=
  ((C.ops [⟨some 2, none, .box 0 33, [.t 0]⟩, ⟨some 3, none, .box 1 33, [.t 1]⟩, ⟨some 4, none, .mv, [.c .nilfn]⟩]).seq ((C.ops [⟨some 5, none, .mkfn (Fn.func 98) 0, [.t 2, .t 3]⟩,
  ⟨some 4, none, .mv, [.t 5]⟩]).seq
  C.ret))
theorem fn75d : FnIs Tryd.prog 75 6 2 [RV.tmp 4] c75d := ⟨Tryd.f75, Tryd.f75.body.getD .skip, [2, 3], [74, 97, 42, 44, 59, 48, 50, 52, 69, 81, 96], [], by kernel_rfl, by kernel_rfl, by kernel_rfl, by kernel_rfl, by kernel_rfl, by kernel_rfl, by kernel_rfl⟩
def c76d : C :=
  ((C.ops [⟨some 3, none, .mv, [.c (.int .i64 0)]⟩]).seq ((C.ops [⟨some 4, none, .mv, [.c (.int .i64 1)]⟩]).seq (C.block 0 (((C.ops [⟨some 5, none, .mv, [.t 4]⟩, ⟨some 6, none, .load
  none, [.t 1]⟩, ⟨some 7, none, .slen, [.t 6]⟩, ⟨some 8, none, .bin .leq, [.t 5, .t 7]⟩]).seq (C.cond (.t 8) C.skip (C.exit 0))).seq ((C.block 1 (((C.ops [⟨some 11, none, .mv, [.t
  4]⟩, ⟨some 12, none, .load none, [.t 1]⟩, ⟨some 13, none, .slen, [.t 12]⟩, ⟨some 14, none, .bin .lss, [.t 11, .t 13]⟩, ⟨some 15, none, .mv, [.t 14]⟩, ⟨some 16, some (15, true),
  .load none, [.t 1]⟩, ⟨some 17, some (15, true), .mv, [.t 4]⟩, ⟨some 18, some (15, true), .sidx, [.t 16, .t 17]⟩, ⟨some 19, some (15, true), .call 71 true, [.t 18]⟩, ⟨some 20, some
  (15, true), .bin .eql, [.t 19, .c (.int .i64 2)]⟩, ⟨some 21, none, .pick, [.t 15, .t 20, .c (.bool false)]⟩, ⟨some 22, none, .mv, [.t 21]⟩, ⟨some 23, some (22, true), .load none,
  [.t 1]⟩, ⟨some 24, some (22, true), .mv, [.t 3]⟩, ⟨some 25, some (22, true), .mv, [.t 4]⟩, ⟨some 26, some (22, true), .call 77 true, [.t 23, .t 24, .t 25]⟩, ⟨some 27, none, .pick,
  [.t 22, .t 26, .c (.bool false)]⟩]).seq (C.cond (.t 27) (C.exit 1) C.skip)).seq (((C.ops [⟨some 28, none, .mv, [.t 0]⟩, ⟨some 29, none, .mv, [.t 3]⟩, ⟨some 30, none, .load none,
  [.t 1]⟩, ⟨some 31, none, .mv, [.t 3]⟩, ⟨some 32, none, .mv, [.t 4]⟩, ⟨some 33, none, .sslc true true, [.t 30, .t 31, .t 32]⟩, ⟨some 34, none, .callv, [.t 28, .t 29, .t 33]⟩, ⟨some
  35, none, .un UnOp.not, [.t 34]⟩]).seq (C.cond (.t 35) C.ret C.skip)).seq (C.ops [⟨some 36, none, .mv, [.t 4]⟩, ⟨some 3, none, .mv, [.t 36]⟩])))).seq (C.ops [⟨some 9, none, .mv,
  [.t 4]⟩, ⟨some 10, none, .bin .add, [.t 9, .c (.int .i64 1)]⟩, ⟨some 4, none, .mv, [.t
  10]⟩]))).loop)))
theorem fn76d : FnIs Tryd.prog 76 37 0 [] c76d := ⟨Tryd.f76, Tryd.f76.body.getD .skip, [], [74, 97, 42, 44, 59, 48, 50, 52, 69, 81, 96], [], by kernel_rfl, by kernel_rfl, by kernel_rfl, by kernel_rfl, by kernel_rfl, by kernel_rfl, by kernel_rfl⟩
def c77d : C :=
  ((C.ops [⟨some 6, none, .mv, [.c (.bool false)]⟩]).seq ((C.ops [⟨some 7, none, .mv, [.t 0]⟩, ⟨some 8, none, .mv, [.t 1]⟩, ⟨some 9, none, .sidx, [.t 7, .t 8]⟩, ⟨some 10, none, .call
  71 true, [.t 9]⟩, ⟨some 11, none, .bin .eql, [.t 10, .c (.int .i64 1)]⟩, ⟨some 12, none, .mv, [.t 11]⟩, ⟨some 13, some (12, true), .mv, [.t 2]⟩, ⟨some 14, some (12, true), .mv, [.t
  1]⟩, ⟨some 15, some (12, true), .bin .gtr, [.t 13, .t 14]⟩, ⟨some 16, none, .pick, [.t 12, .t 15, .c (.bool false)]⟩, ⟨some 6, none, .mv, [.t 16]⟩]).seq
  C.ret))
theorem fn77d : FnIs Tryd.prog 77 17 0 [RV.tmp 6] c77d := ⟨Tryd.f77, Tryd.f77.body.getD .skip, [], [74, 97, 42, 44, 59, 48, 50, 52, 69, 81, 96], [], by kernel_rfl, by kernel_rfl, by kernel_rfl, by kernel_rfl, by kernel_rfl, by kernel_rfl, by kernel_rfl⟩
def c78d : C :=
  ((C.ops [⟨some 8, none, .nilo 0 1 9, []⟩]).seq (((C.ops [⟨some 12, none, .mv, [.t 3]⟩, ⟨some 13, none, .bin .eql, [.t 12, .c (.int .i64 0)]⟩]).seq (C.cond (.t 13) ((C.ops [⟨some 8,
  none, .nilo 0 1 9, []⟩]).seq C.ret) C.skip)).seq (((C.ops [⟨some 14, none, .mv, [.t 1]⟩, ⟨some 15, none, .bin .eql, [.t 14, .c (.str [])]⟩]).seq (C.cond (.t 15) ((C.ops [⟨some 16,
  none, .mv, [.t 0]⟩, ⟨some 17, none, .mv, [.t 3]⟩, ⟨some 18, none, .call 99 true, [.t 16, .t 17]⟩, ⟨some 8, none, .mv, [.t 18]⟩]).seq C.ret) C.skip)).seq (((C.ops [⟨some 19, none,
  .mv, [.t 3]⟩, ⟨some 20, none, .bin .lss, [.t 19, .c (.int .i64 0)]⟩]).seq (C.cond (.t 20) (C.ops [⟨some 21, none, .mv, [.t 0]⟩, ⟨some 22, none, .mv, [.t 1]⟩, ⟨some 23, none, .call
  100 true, [.t 21, .t 22]⟩, ⟨some 24, none, .bin .add, [.t 23, .c (.int .i64 1)]⟩, ⟨some 3, none, .mv, [.t 24]⟩]) C.skip)).seq ((C.ops [⟨some 25, none, .mv, [.t 3]⟩, ⟨some 26, none,
  .mv, [.t 0]⟩, ⟨some 27, none, .slen, [.t 26]⟩, ⟨some 28, none, .bin .add, [.t 27, .c (.int .i64 1)]⟩, ⟨some 29, none, .mm false, [.t 25, .t 28]⟩, ⟨some 3, none, .mv, [.t 29]⟩]).seq
  ((C.ops [⟨some 30, none, .mv, [.t 3]⟩, ⟨some 31, none, .mkslc 1 1 9 [.str []] 16, [.t 30, .t 30]⟩, ⟨some 9, none, .mv, [.t 31]⟩]).seq ((C.ops [⟨some 32, none, .mv, [.t 3]⟩, ⟨some
  33, none, .bin .sub, [.t 32, .c (.int .i64 1)]⟩, ⟨some 3, none, .mv, [.t 33]⟩]).seq ((C.ops [⟨some 10, none, .mv, [.c (.int .i64 0)]⟩]).seq ((C.block 0 (((C.ops [⟨some 34, none,
  .mv, [.t 10]⟩, ⟨some 35, none, .mv, [.t 3]⟩, ⟨some 36, none, .bin .lss, [.t 34, .t 35]⟩]).seq (C.cond (.t 36) C.skip (C.exit 0))).seq (C.block 1 ((C.ops [⟨some 37, none, .mv, [.t
  0]⟩, ⟨some 38, none, .mv, [.t 1]⟩, ⟨some 39, none, .call 101 true, [.t 37, .t 38]⟩, ⟨some 11, none, .mv, [.t 39]⟩]).seq (((C.ops [⟨some 40, none, .mv, [.t 11]⟩, ⟨some 41, none,
  .bin .lss, [.t 40, .c (.int .i64 0)]⟩]).seq (C.cond (.t 41) (C.exit 0) C.skip)).seq ((C.ops [⟨some 42, none, .mv, [.t 9]⟩, ⟨some 43, none, .mv, [.t 10]⟩, ⟨some 44, none, .mv, [.t
  0]⟩, ⟨some 45, none, .mv, [.t 11]⟩, ⟨some 46, none, .mv, [.t 2]⟩, ⟨some 47, none, .bin .add, [.t 45, .t 46]⟩, ⟨some 48, none, .sslc false true, [.t 44, .t 47]⟩, ⟨some 49, none,
  .idxA 1, [.t 42, .t 43]⟩, ⟨none, none, .store 1, [.t 49, .t 48]⟩]).seq ((C.ops [⟨some 50, none, .mv, [.t 0]⟩, ⟨some 51, none, .mv, [.t 11]⟩, ⟨some 52, none, .mv, [.t 1]⟩, ⟨some 53,
  none, .slen, [.t 52]⟩, ⟨some 54, none, .bin .add, [.t 51, .t 53]⟩, ⟨some 55, none, .sslc true false, [.t 50, .t 54]⟩, ⟨some 0, none, .mv, [.t 55]⟩]).seq (C.ops [⟨some 56, none,
  .mv, [.t 10]⟩, ⟨some 57, none, .bin .add, [.t 56, .c (.int .i64 1)]⟩, ⟨some 10, none, .mv, [.t 57]⟩]))))))).loop).seq ((C.ops [⟨some 58, none, .mv, [.t 9]⟩, ⟨some 59, none, .mv,
  [.t 10]⟩, ⟨some 60, none, .mv, [.t 0]⟩, ⟨some 61, none, .idxA 1, [.t 58, .t 59]⟩, ⟨none, none, .store 1, [.t 61, .t 60]⟩]).seq ((C.ops [⟨some 62, none, .mv, [.t 9]⟩, ⟨some 63,
  none, .mv, [.t 10]⟩, ⟨some 64, none, .bin .add, [.t 63, .c (.int .i64 1)]⟩, ⟨some 65, none, .slc 1 false true, [.t 62, .t 64]⟩, ⟨some 8, none, .mv, [.t 65]⟩]).seq
  C.ret)))))))))))
theorem fn78d : FnIs Tryd.prog 78 66 2 [RV.tmp 8] c78d := ⟨Tryd.f78, Tryd.f78.body.getD .skip, [8, 31], [74, 97, 42, 44, 59, 48, 50, 52, 69, 81, 96], [], by kernel_rfl, by kernel_rfl, by kernel_rfl, by kernel_rfl, by kernel_rfl, by kernel_rfl, by kernel_rfl⟩
def c79d : C :=
  ((C.ops [⟨some 2, none, .mv, [.c (.bool false)]⟩]).seq ((C.ops [⟨some 3, none, .mv, [.t 0]⟩, ⟨some 4, none, .call 71 true, [.t 3]⟩, ⟨some 5, none, .bin .eql, [.t 4, .c (.int .i64
  3)]⟩, ⟨some 2, none, .mv, [.t 5]⟩]).seq
  C.ret))
theorem fn79d : FnIs Tryd.prog 79 6 0 [RV.tmp 2] c79d := ⟨Tryd.f79, Tryd.f79.body.getD .skip, [], [74, 97, 42, 44, 59, 48, 50, 52, 69, 81, 96], [], by kernel_rfl, by kernel_rfl, by kernel_rfl, by kernel_rfl, by kernel_rfl, by kernel_rfl, by kernel_rfl⟩
def c83d : C :=
  ((C.ops [⟨some 4, none, .mv, [.c (.str [])]⟩]).seq ((C.ops [⟨some 5, none, .mv, [.t 0]⟩, ⟨some 6, none, .mv, [.t 1]⟩, ⟨some 7, none, .call 103 true, [.t 5, .t 6]⟩, ⟨some 4, none,
  .mv, [.t 7]⟩]).seq
  C.ret))
theorem fn83d : FnIs Tryd.prog 83 8 0 [RV.tmp 4] c83d := ⟨Tryd.f83, Tryd.f83.body.getD .skip, [], [74, 97, 42, 44, 59, 48, 50, 52, 69, 81, 96], [], by kernel_rfl, by kernel_rfl, by kernel_rfl, by kernel_rfl, by kernel_rfl, by kernel_rfl, by kernel_rfl⟩
def c84d : C :=
  ((C.ops [⟨some 4, none, .mv, [.c (.str [])]⟩]).seq ((C.ops [⟨some 5, none, .mv, [.t 0]⟩, ⟨some 6, none, .mv, [.t 1]⟩, ⟨some 7, none, .call 104 true, [.t 5, .t 6]⟩, ⟨some 4, none,
  .mv, [.t 7]⟩]).seq
  C.ret))
theorem fn84d : FnIs Tryd.prog 84 8 0 [RV.tmp 4] c84d := ⟨Tryd.f84, Tryd.f84.body.getD .skip, [], [74, 97, 42, 44, 59, 48, 50, 52, 69, 81, 96], [], by kernel_rfl, by kernel_rfl, by kernel_rfl, by kernel_rfl, by kernel_rfl, by kernel_rfl, by kernel_rfl⟩
def c85d : C :=
  ((C.ops [⟨some 2, none, .mv, [.c (.bool false)]⟩]).seq ((C.ops [⟨some 4, none, .mv, [.t 0]⟩, ⟨some 5, none, .call 71 true, [.t 4]⟩, ⟨some 3, none, .mv, [.t 5]⟩]).seq ((C.ops [⟨some
  6, none, .mv, [.t 3]⟩, ⟨some 7, none, .bin .eql, [.t 6, .c (.int .i64 1)]⟩, ⟨some 8, none, .mv, [.t 7]⟩, ⟨some 9, some (8, false), .mv, [.t 3]⟩, ⟨some 10, some (8, false), .bin
  .eql, [.t 9, .c (.int .i64 2)]⟩, ⟨some 11, none, .pick, [.t 8, .c (.bool true), .t 10]⟩, ⟨some 12, none, .mv, [.t 11]⟩, ⟨some 13, some (12, false), .mv, [.t 3]⟩, ⟨some 14, some
  (12, false), .bin .eql, [.t 13, .c (.int .i64 4)]⟩, ⟨some 15, none, .pick, [.t 12, .c (.bool true), .t 14]⟩, ⟨some 2, none, .mv, [.t 15]⟩]).seq
  C.ret)))
theorem fn85d : FnIs Tryd.prog 85 16 0 [RV.tmp 2] c85d := ⟨Tryd.f85, Tryd.f85.body.getD .skip, [], [74, 97, 42, 44, 59, 48, 50, 52, 69, 81, 96], [], by kernel_rfl, by kernel_rfl, by kernel_rfl, by kernel_rfl, by kernel_rfl, by kernel_rfl, by kernel_rfl⟩
def c86d : C :=
  ((C.ops [⟨some 4, none, .mv, [.c (.bool false)]⟩]).seq ((C.ops [⟨some 5, none, .mv, [.t 0]⟩, ⟨some 6, none, .mv, [.t 1]⟩, ⟨some 7, none, .call 105 true, [.t 5, .t 6]⟩, ⟨some 8,
  none, .bin .geq, [.t 7, .c (.int .i64 0)]⟩, ⟨some 4, none, .mv, [.t 8]⟩]).seq
  C.ret))
theorem fn86d : FnIs Tryd.prog 86 9 0 [RV.tmp 4] c86d := ⟨Tryd.f86, Tryd.f86.body.getD .skip, [], [74, 97, 42, 44, 59, 48, 50, 52, 69, 81, 96], [], by kernel_rfl, by kernel_rfl, by kernel_rfl, by kernel_rfl, by kernel_rfl, by kernel_rfl, by kernel_rfl⟩
def c87d : C :=
  ((C.ops [⟨some 2, none, .mv, [.c (.bool false)]⟩]).seq ((C.ops [⟨some 3, none, .mv, [.t 0]⟩, ⟨some 4, none, .bin .lss, [.t 3, .c (.int .i64 0)]⟩, ⟨some 5, none, .mv, [.t 4]⟩, ⟨some
  6, some (5, false), .mv, [.t 0]⟩, ⟨some 7, some (5, false), .bin .gtr, [.t 6, .c (.int .i64 9)]⟩, ⟨some 8, none, .pick, [.t 5, .c (.bool true), .t 7]⟩, ⟨some 2, none, .mv, [.t
  8]⟩]).seq
  C.ret))
theorem fn87d : FnIs Tryd.prog 87 9 0 [RV.tmp 2] c87d := ⟨Tryd.f87, Tryd.f87.body.getD .skip, [], [74, 97, 42, 44, 59, 48, 50, 52, 69, 81, 96], [], by kernel_rfl, by kernel_rfl, by kernel_rfl, by kernel_rfl, by kernel_rfl, by kernel_rfl, by kernel_rfl⟩
def c88d : C :=
  ((C.ops [⟨some 4, none, .mv, [.c (.bool false)]⟩]).seq ((C.ops [⟨some 5, none, .mv, [.t 0]⟩, ⟨some 6, none, .mv, [.t 1]⟩, ⟨some 7, none, .call 106 true, [.t 5, .t 6]⟩, ⟨some 4,
  none, .mv, [.t 7]⟩]).seq
  C.ret))
theorem fn88d : FnIs Tryd.prog 88 8 0 [RV.tmp 4] c88d := ⟨Tryd.f88, Tryd.f88.body.getD .skip, [], [74, 97, 42, 44, 59, 48, 50, 52, 69, 81, 96], [], by kernel_rfl, by kernel_rfl, by kernel_rfl, by kernel_rfl, by kernel_rfl, by kernel_rfl, by kernel_rfl⟩
def c89d : C :=
  ((C.ops [⟨some 4, none, .mv, [.c (.bool false)]⟩]).seq ((C.ops [⟨some 5, none, .mv, [.t 0]⟩, ⟨some 6, none, .mv, [.t 1]⟩, ⟨some 7, none, .call 107 true, [.t 5, .t 6]⟩, ⟨some 4,
  none, .mv, [.t 7]⟩]).seq
  C.ret))
theorem fn89d : FnIs Tryd.prog 89 8 0 [RV.tmp 4] c89d := ⟨Tryd.f89, Tryd.f89.body.getD .skip, [], [74, 97, 42, 44, 59, 48, 50, 52, 69, 81, 96], [], by kernel_rfl, by kernel_rfl, by kernel_rfl, by kernel_rfl, by kernel_rfl, by kernel_rfl, by kernel_rfl⟩
def c94d : C :=
  ((C.ops [⟨some 4, none, .mv, [.c (.int .i64 0)]⟩]).seq (((C.ops [⟨some 6, none, .mv, [.t 0]⟩, ⟨some 7, none, .len, [.t 6]⟩, ⟨some 8, none, .mv, [.c (.int .i64 0)]⟩]).seq (C.block 0
  ((C.ops [⟨some 9, none, .bin .lss, [.t 8, .t 7]⟩]).seq ((C.cond (.t 9) C.skip (C.exit 0)).seq ((C.block 1 ((C.ops [⟨some 10, none, .mv, [.t 8]⟩, ⟨some 5, none, .mv, [.t 10]⟩]).seq
  ((C.ops [⟨some 11, none, .mv, [.t 1]⟩, ⟨some 12, none, .mv, [.t 0]⟩, ⟨some 13, none, .mv, [.t 5]⟩, ⟨some 14, none, .idxA 1, [.t 12, .t 13]⟩, ⟨some 15, none, .load none, [.t 14]⟩,
  ⟨some 16, none, .callv, [.t 11, .t 15]⟩]).seq (C.cond (.t 16) ((C.ops [⟨some 17, none, .mv, [.t 5]⟩, ⟨some 4, none, .mv, [.t 17]⟩]).seq C.ret) C.skip)))).seq (C.ops [⟨some 18,
  none, .bin .add, [.t 8, .c (.int .i64 1)]⟩, ⟨some 8, none, .mv, [.t 18]⟩])))).loop)).seq ((C.ops [⟨some 4, none, .mv, [.c (.int .i64 (-1))]⟩]).seq
  C.ret)))
theorem fn94d : FnIs Tryd.prog 94 19 0 [RV.tmp 4] c94d := ⟨Tryd.f94, Tryd.f94.body.getD .skip, [], [74, 97, 42, 44, 59, 48, 50, 52, 69, 81, 96], [], by kernel_rfl, by kernel_rfl, by kernel_rfl, by kernel_rfl, by kernel_rfl, by kernel_rfl, by kernel_rfl⟩
def c97d : C :=
  ((C.ops [⟨some 4, none, .nilo 0 1 9, []⟩]).seq (((C.ops [⟨some 5, none, .mv, [.t 1]⟩, ⟨some 6, none, .bin .lss, [.t 5, .c (.int .i64 0)]⟩]).seq (C.cond (.t 6) C.bad C.skip)).seq
  (((C.ops [⟨some 8, none, .mv, [.t 1]⟩, ⟨some 9, none, .mv, [.t 0]⟩, ⟨some 10, none, .cap, [.t 9]⟩, ⟨some 11, none, .mv, [.t 0]⟩, ⟨some 12, none, .len, [.t 11]⟩, ⟨some 13, none,
  .bin .sub, [.t 10, .t 12]⟩, ⟨some 14, none, .bin .sub, [.t 8, .t 13]⟩, ⟨some 1, none, .mv, [.t 14]⟩]).seq ((C.ops [⟨some 15, none, .mv, [.t 1]⟩, ⟨some 16, none, .bin .gtr, [.t 15,
  .c (.int .i64 0)]⟩]).seq (C.cond (.t 16) (C.ops [⟨some 17, none, .mv, [.t 0]⟩, ⟨some 18, none, .mv, [.t 0]⟩, ⟨some 19, none, .cap, [.t 18]⟩, ⟨some 20, none, .slc 1 false true, [.t
  17, .t 19]⟩, ⟨some 21, none, .mv, [.t 1]⟩, ⟨some 22, none, .appz 1 1 9 [.str []] 16, [.t 20, .t 21]⟩, ⟨some 23, none, .mv, [.t 0]⟩, ⟨some 24, none, .len, [.t 23]⟩, ⟨some 25, none,
  .slc 1 false true, [.t 22, .t 24]⟩, ⟨some 0, none, .mv, [.t 25]⟩]) C.skip))).seq ((C.ops [⟨some 26, none, .mv, [.t 0]⟩, ⟨some 4, none, .mv, [.t 26]⟩]).seq
  C.ret))))
theorem fn97d : FnIs Tryd.prog 97 27 2 [RV.tmp 4] c97d := ⟨Tryd.f97, Tryd.f97.body.getD .skip, [4, 22], [74, 97, 42, 44, 59, 48, 50, 52, 69, 81, 96], [], by kernel_rfl, by kernel_rfl, by kernel_rfl, by kernel_rfl, by kernel_rfl, by kernel_rfl, by kernel_rfl⟩
def c98d : C :=
  ((C.ops [⟨some 4, none, .mv, [.c (.int .i64 0)]⟩]).seq (C.block 0 (((C.ops [⟨some 5, none, .mv, [.t 4]⟩, ⟨some 6, none, .load none, [.t 1]⟩, ⟨some 7, none, .len, [.t 6]⟩, ⟨some 8,
  none, .bin .add, [.t 5, .t 7]⟩, ⟨some 9, none, .load none, [.t 2]⟩, ⟨some 10, none, .len, [.t 9]⟩, ⟨some 11, none, .bin .leq, [.t 8, .t 10]⟩]).seq (C.cond (.t 11) C.skip (C.exit
  0))).seq ((C.block 1 ((C.ops [⟨some 14, none, .load none, [.t 2]⟩, ⟨some 15, none, .mv, [.t 4]⟩, ⟨some 16, none, .mv, [.t 4]⟩, ⟨some 17, none, .load none, [.t 1]⟩, ⟨some 18, none,
  .len, [.t 17]⟩, ⟨some 19, none, .bin .add, [.t 16, .t 18]⟩, ⟨some 20, none, .slc 1 true true, [.t 14, .t 15, .t 19]⟩, ⟨some 21, none, .load none, [.t 1]⟩, ⟨some 22, none, .call 34
  true, [.t 20, .t 21]⟩, ⟨some 23, none, .mv, [.t 22]⟩, ⟨some 24, some (23, true), .mv, [.t 0]⟩, ⟨some 25, some (23, true), .mv, [.t 4]⟩, ⟨some 26, some (23, true), .callv, [.t 24,
  .t 25]⟩, ⟨some 27, some (23, true), .un UnOp.not, [.t 26]⟩, ⟨some 28, none, .pick, [.t 23, .t 27, .c (.bool false)]⟩]).seq (C.cond (.t 28) C.ret C.skip))).seq (C.ops [⟨some 12,
  none, .mv, [.t 4]⟩, ⟨some 13, none, .bin .add, [.t 12, .c (.int .i64 1)]⟩, ⟨some 4, none, .mv, [.t
  13]⟩]))).loop))
theorem fn98d : FnIs Tryd.prog 98 29 0 [] c98d := ⟨Tryd.f98, Tryd.f98.body.getD .skip, [], [74, 97, 42, 44, 59, 48, 50, 52, 69, 81, 96], [], by kernel_rfl, by kernel_rfl, by kernel_rfl, by kernel_rfl, by kernel_rfl, by kernel_rfl, by kernel_rfl⟩
def c103d : C :=
  ((C.ops [⟨some 4, none, .mv, [.c (.str [])]⟩]).seq (((C.ops [⟨some 5, none, .mv, [.t 0]⟩, ⟨some 6, none, .mv, [.t 1]⟩, ⟨some 7, none, .call 107 true, [.t 5, .t 6]⟩]).seq (C.cond
  (.t 7) ((C.ops [⟨some 8, none, .mv, [.t 0]⟩, ⟨some 9, none, .mv, [.t 0]⟩, ⟨some 10, none, .slen, [.t 9]⟩, ⟨some 11, none, .mv, [.t 1]⟩, ⟨some 12, none, .slen, [.t 11]⟩, ⟨some 13,
  none, .bin .sub, [.t 10, .t 12]⟩, ⟨some 14, none, .sslc false true, [.t 8, .t 13]⟩, ⟨some 4, none, .mv, [.t 14]⟩]).seq C.ret) C.skip)).seq ((C.ops [⟨some 15, none, .mv, [.t 0]⟩,
  ⟨some 4, none, .mv, [.t 15]⟩]).seq
  C.ret)))
theorem fn103d : FnIs Tryd.prog 103 16 0 [RV.tmp 4] c103d := ⟨Tryd.f103, Tryd.f103.body.getD .skip, [], [74, 97, 42, 44, 59, 48, 50, 52, 69, 81, 96], [], by kernel_rfl, by kernel_rfl, by kernel_rfl, by kernel_rfl, by kernel_rfl, by kernel_rfl, by kernel_rfl⟩
def c104d : C :=
  ((C.ops [⟨some 4, none, .mv, [.c (.str [])]⟩]).seq (((C.ops [⟨some 5, none, .mv, [.t 0]⟩, ⟨some 6, none, .mv, [.t 1]⟩, ⟨some 7, none, .call 106 true, [.t 5, .t 6]⟩]).seq (C.cond
  (.t 7) ((C.ops [⟨some 8, none, .mv, [.t 0]⟩, ⟨some 9, none, .mv, [.t 1]⟩, ⟨some 10, none, .slen, [.t 9]⟩, ⟨some 11, none, .sslc true false, [.t 8, .t 10]⟩, ⟨some 4, none, .mv, [.t
  11]⟩]).seq C.ret) C.skip)).seq ((C.ops [⟨some 12, none, .mv, [.t 0]⟩, ⟨some 4, none, .mv, [.t 12]⟩]).seq
  C.ret)))
theorem fn104d : FnIs Tryd.prog 104 13 0 [RV.tmp 4] c104d := ⟨Tryd.f104, Tryd.f104.body.getD .skip, [], [74, 97, 42, 44, 59, 48, 50, 52, 69, 81, 96], [], by kernel_rfl, by kernel_rfl, by kernel_rfl, by kernel_rfl, by kernel_rfl, by kernel_rfl, by kernel_rfl⟩
def c105d : C :=
  ((C.ops [⟨some 4, none, .mv, [.c (.int .i64 0)]⟩]).seq (((C.ops [⟨some 6, none, .mv, [.t 0]⟩, ⟨some 7, none, .len, [.t 6]⟩, ⟨some 8, none, .mv, [.c (.int .i64 0)]⟩]).seq (C.block 0
  ((C.ops [⟨some 9, none, .bin .lss, [.t 8, .t 7]⟩]).seq ((C.cond (.t 9) C.skip (C.exit 0)).seq ((C.block 1 ((C.ops [⟨some 10, none, .mv, [.t 8]⟩, ⟨some 5, none, .mv, [.t 10]⟩]).seq
  ((C.ops [⟨some 11, none, .mv, [.t 1]⟩, ⟨some 12, none, .mv, [.t 0]⟩, ⟨some 13, none, .mv, [.t 5]⟩, ⟨some 14, none, .idxA 1, [.t 12, .t 13]⟩, ⟨some 15, none, .load none, [.t 14]⟩,
  ⟨some 16, none, .callv, [.t 11, .t 15]⟩]).seq (C.cond (.t 16) ((C.ops [⟨some 17, none, .mv, [.t 5]⟩, ⟨some 4, none, .mv, [.t 17]⟩]).seq C.ret) C.skip)))).seq (C.ops [⟨some 18,
  none, .bin .add, [.t 8, .c (.int .i64 1)]⟩, ⟨some 8, none, .mv, [.t 18]⟩])))).loop)).seq ((C.ops [⟨some 4, none, .mv, [.c (.int .i64 (-1))]⟩]).seq
  C.ret)))
theorem fn105d : FnIs Tryd.prog 105 19 0 [RV.tmp 4] c105d := ⟨Tryd.f105, Tryd.f105.body.getD .skip, [], [74, 97, 42, 44, 59, 48, 50, 52, 69, 81, 96], [], by kernel_rfl, by kernel_rfl, by kernel_rfl, by kernel_rfl, by kernel_rfl, by kernel_rfl, by kernel_rfl⟩
def c106d : C :=
  ((C.ops [⟨some 4, none, .mv, [.c (.bool false)]⟩]).seq ((C.ops [⟨some 5, none, .mv, [.t 0]⟩, ⟨some 6, none, .slen, [.t 5]⟩, ⟨some 7, none, .mv, [.t 1]⟩, ⟨some 8, none, .slen, [.t
  7]⟩, ⟨some 9, none, .bin .geq, [.t 6, .t 8]⟩, ⟨some 10, none, .mv, [.t 9]⟩, ⟨some 11, some (10, true), .mv, [.t 0]⟩, ⟨some 12, some (10, true), .mv, [.t 1]⟩, ⟨some 13, some (10,
  true), .slen, [.t 12]⟩, ⟨some 14, some (10, true), .sslc false true, [.t 11, .t 13]⟩, ⟨some 15, some (10, true), .mv, [.t 1]⟩, ⟨some 16, some (10, true), .bin .eql, [.t 14, .t
  15]⟩, ⟨some 17, none, .pick, [.t 10, .t 16, .c (.bool false)]⟩, ⟨some 4, none, .mv, [.t 17]⟩]).seq
  C.ret))
theorem fn106d : FnIs Tryd.prog 106 18 0 [RV.tmp 4] c106d := ⟨Tryd.f106, Tryd.f106.body.getD .skip, [], [74, 97, 42, 44, 59, 48, 50, 52, 69, 81, 96], [], by kernel_rfl, by kernel_rfl, by kernel_rfl, by kernel_rfl, by kernel_rfl, by kernel_rfl, by kernel_rfl⟩
def c107d : C :=
  ((C.ops [⟨some 4, none, .mv, [.c (.bool false)]⟩]).seq ((C.ops [⟨some 5, none, .mv, [.t 0]⟩, ⟨some 6, none, .slen, [.t 5]⟩, ⟨some 7, none, .mv, [.t 1]⟩, ⟨some 8, none, .slen, [.t
  7]⟩, ⟨some 9, none, .bin .geq, [.t 6, .t 8]⟩, ⟨some 10, none, .mv, [.t 9]⟩, ⟨some 11, some (10, true), .mv, [.t 0]⟩, ⟨some 12, some (10, true), .mv, [.t 0]⟩, ⟨some 13, some (10,
  true), .slen, [.t 12]⟩, ⟨some 14, some (10, true), .mv, [.t 1]⟩, ⟨some 15, some (10, true), .slen, [.t 14]⟩, ⟨some 16, some (10, true), .bin .sub, [.t 13, .t 15]⟩, ⟨some 17, some
  (10, true), .sslc true false, [.t 11, .t 16]⟩, ⟨some 18, some (10, true), .mv, [.t 1]⟩, ⟨some 19, some (10, true), .bin .eql, [.t 17, .t 18]⟩, ⟨some 20, none, .pick, [.t 10, .t 19,
  .c (.bool false)]⟩, ⟨some 4, none, .mv, [.t 20]⟩]).seq
  C.ret))
theorem fn107d : FnIs Tryd.prog 107 21 0 [RV.tmp 4] c107d := ⟨Tryd.f107, Tryd.f107.body.getD .skip, [], [74, 97, 42, 44, 59, 48, 50, 52, 69, 81, 96], [], by kernel_rfl, by kernel_rfl, by kernel_rfl, by kernel_rfl, by kernel_rfl, by kernel_rfl, by kernel_rfl⟩
end HY
end

section
set_option linter.all false
set_option linter.unusedSimpArgs false
set_option linter.unusedVariables false
set_option linter.unusedSectionVars false
namespace HY
def kindI (n : Int) : Int :=
  if (97 ≤ n ∧ n ≤ 122) ∨ (65 ≤ n ∧ n ≤ 90) then 1
  else if n = 94 ∨ n = 126 ∨ n = 37 then 2
  else if 48 ≤ n ∧ n ≤ 57 then 3
  else if n = 39 then 4
  else if n = 32 then 6
  else if n = 46 ∨ n = 44 ∨ n = 59 ∨ n = 58 ∨ n = 33 ∨ n = 63 ∨ n = 40 ∨ n = 41 ∨ n = 45 then 5
  else 0
def kind (b : UInt8) : Int := kindI b.toNat
def ch (s : List UInt8) (i : Nat) : UInt8 := s.getD i 0
theorem ch_eq (s : List UInt8) (i : Nat) : (s[i]?).getD 0 = ch s i := by rw [ch, List.getD_eq_getElem?_getD]

def clusO (frm : Nat) (cur : List UInt8) : List UInt8 → List (Nat × List UInt8)
  | [] => [(frm, cur)]
  | c :: r => if kind c = 2 ∧ kind (ch cur 0) = 1 then clusO frm (cur ++ [c]) r else (frm, cur) :: clusO (frm + cur.length) [c] r
def clusters : List UInt8 → List (Nat × List UInt8)
  | [] => []
  | c :: r => clusO 0 [c] r
def clus (s : List UInt8) : List (List UInt8) := (clusters s).map (·.2)

theorem clusO_ne (frm : Nat) (cur r : List UInt8) : clusO frm cur r ≠ [] := by
  induction r generalizing frm cur with
  | nil => simp [clusO]
  | cons c r ih => simp only [clusO]; split; exact ih _ _; simp
theorem clusO_join (frm : Nat) (cur r : List UInt8) : ((clusO frm cur r).map (·.2)).flatten = cur ++ r := by
  induction r generalizing frm cur with
  | nil => simp [clusO]
  | cons c r ih =>
    simp only [clusO]
    split
    · rw [ih]; simp
    · simp [ih]
theorem clus_join (s : List UInt8) : (clus s).flatten = s := by
  cases s with
  | nil => rfl
  | cons c r => simpa [clus, clusters] using clusO_join 0 [c] r
theorem clusO_mem {frm : Nat} {cur r : List UInt8} (hc : cur ≠ []) : ∀ x ∈ clusO frm cur r, x.2 ≠ [] := by
  induction r generalizing frm cur with
  | nil => intro x hx; simp [clusO] at hx; subst hx; exact hc
  | cons c r ih =>
    intro x hx
    simp only [clusO] at hx
    split at hx
    · exact ih (by simp) x hx
    · rcases List.mem_cons.1 hx with rfl | hx
      · exact hc
      · exact ih (by simp) x hx
theorem clus_ne {s : List UInt8} : ∀ x ∈ clus s, x ≠ [] := by
  cases s with
  | nil => intro x hx; simp [clus, clusters] at hx
  | cons c r =>
    intro x hx
    simp only [clus, clusters, List.mem_map] at hx
    obtain ⟨y, hy, rfl⟩ := hx
    exact clusO_mem (by simp) y hy

theorem flat_len {l : List (List UInt8)} (h : ∀ x ∈ l, x ≠ []) : l.length ≤ l.flatten.length := by
  induction l with
  | nil => simp
  | cons x l ih =>
    have h1 := ih (fun y hy => h y (by simp [hy]))
    have h2 : 0 < x.length := List.length_pos_iff.2 (h x (by simp))
    simp only [List.length_cons, List.flatten_cons, List.length_append]
    omega
theorem clus_len (s : List UInt8) : (clus s).length ≤ s.length := by
  have := flat_len (l := clus s) clus_ne
  rwa [clus_join] at this
def rightAt (s : List UInt8) : Nat → Bool
  | 0 => false
  | i + 1 => decide (kind (ch s (i + 1)) = 2) && (decide (kind (ch s i) = 1) || rightAt s i)
def inClus (s : List UInt8) (f i : Nat) : Prop := f < i ∧ (decide (kind (ch s (i - 1)) = 1) || rightAt s (i - 1)) = decide (kind (ch s f) = 1)
theorem inClus_right {s : List UInt8} {f i : Nat} (h : inClus s f i) : rightAt s i = (decide (kind (ch s i) = 2) && decide (kind (ch s f) = 1)) := by
  obtain ⟨h1, h2⟩ := h
  cases i with
  | zero => omega
  | succ i => simp only [rightAt]; rw [← h2]; rfl
theorem inClus_first (s : List UInt8) : inClus s 0 1 := ⟨by omega, by simp [rightAt]⟩
theorem inClus_go {s : List UInt8} {f i : Nat} (h : inClus s f i) (hr : rightAt s i = true) : inClus s f (i + 1) := by
  have h3 := inClus_right h
  rw [hr] at h3
  refine ⟨by have := h.1; omega, ?_⟩
  rw [Nat.add_sub_cancel, hr, Bool.or_true]
  symm at h3
  simp only [Bool.and_eq_true] at h3
  exact h3.2.symm
theorem inClus_new {s : List UInt8} {f i : Nat} (h : inClus s f i) (hr : rightAt s i = false) : inClus s i (i + 1) :=
  ⟨by omega, by rw [Nat.add_sub_cancel, hr, Bool.or_false]⟩

def badHead (c : List UInt8) : Bool := decide (kind (ch c 0) = 0) || decide (kind (ch c 0) = 2)
def checkC (s : List UInt8) : Int := if 65536 < s.length then 4 else if (clus s).any badHead then 11 else 0
def isWord (s : List UInt8) : Bool :=
  decide (0 < s.length) && decide (s.length ≤ 64) && decide (checkC s = 0) && (decide (kind (ch s 0) = 1) || decide (kind (ch s 0) = 3)) && !(s.any fun c => decide (kind c = 5) || decide (kind c = 6))
def foldB (c : UInt8) : UInt8 := if 65 ≤ c ∧ c ≤ 90 then c + 32 else c
def fold (s : List UInt8) : List UInt8 := s.map foldB
end HY
end

section
set_option linter.all false
set_option linter.unusedSimpArgs false
set_option linter.unusedVariables false
set_option linter.unusedSectionVars false
namespace HY
structure Pat where
  letters : List UInt8
  levels : List Int
  deriving DecidableEq, Inhabited
def hasPre (s p : List UInt8) : Bool := decide (s.take p.length = p)
def hasSuf (s p : List UInt8) : Bool := decide (s.drop (s.length - p.length) = p)
def trimPre (s p : List UInt8) : List UInt8 := if hasPre s p = true then s.drop p.length else s
def trimSuf (s p : List UInt8) : List UInt8 := if hasSuf s p = true then s.take (s.length - p.length) else s
def inner (s : List UInt8) : List UInt8 := trimSuf (trimPre s [46]) [46]
def onlyC (c : UInt8) : Bool := decide (kind c = 1) || decide (kind c = 2) || decide (kind c = 4)
def badLev (n : Int) : Bool := decide (n < 0) || decide (9 < n)
def checkPat (p : Pat) : Int :=
  if 64 < p.letters.length then 4
  else if (inner p.letters).any (fun c => !onlyC c) = true then 11
  else if checkC (inner p.letters) ≠ 0 then 11
  else if inner p.letters = [] then 5
  else if p.levels.length ≠ (clus p.letters).length + 1 then 9
  else if p.levels.any badLev = true ∨ (hasPre p.letters [46] = true ∧ p.levels.getD 0 0 ≠ 0) ∨ (hasSuf p.letters [46] = true ∧ p.levels.getD (p.levels.length - 1) 0 ≠ 0) then 2
  else 0
def badAt (s : List UInt8) (i : Nat) : Bool := decide (kind (ch s i) = 0) || (decide (kind (ch s i) = 2) && !rightAt s i)
end HY
end

section
set_option linter.all false
set_option linter.unusedSimpArgs false
set_option linter.unusedVariables false
set_option linter.unusedSectionVars false
open Go Go.Proofs AF HY
namespace HY
set_option maxRecDepth 100000
def strs (l : List (List UInt8)) : AV := .sl l.length fun i => [.str (l.getD i [])]
theorem okF1 {P : Program} {f : FuncId} {fn : Func} (h : P.funcs[f]? = some fn) (h1 : fn.body.isSome = true) (h2 : (fn.name != "runtime.NumGoroutine") = true) : okF P f = true := by
  unfold okF; rw [h]; simp [h1, h2]
theorem t134 (s : List UInt8) (c : Int) (h : List AObj) : ACalls Tryd.prog 95 [.str s, .int .u8 c] h (.int .i64 (Go.Lib.indexByte s c.toNat.toUInt8)) h := by
  refine ⟨okF1 Tryd.func95 (by kernel_rfl) (by kernel_rfl), fun w σ xs H hv => ?_⟩
  obtain ⟨x, y, rfl, hx, hy⟩ := hv.two
  rw [vr_str hx, vr_int hy]
  refine (callsIn_wide.2 (ib_calls ⟨s.toArray⟩ c w)).mono ?_
  rintro e w' ⟨rfl, rfl⟩
  exact ⟨_, σ, rfl, H, .imm .int, Ext.refl _ _⟩
theorem t126 (s : List UInt8) (c : Int) (h : List AObj) : ACalls Tryd.prog 68 [.str s, .int .u8 c] h (.int .i64 (Go.Lib.indexByte s c.toNat.toUInt8)) h := by
  refine acalls_of fn68d (by simp) ?_
  simp only [List.length_cons, List.length_nil, Nat.reduceAdd, Nat.reduceSub, List.replicate, List.cons_append, List.nil_append, List.append_nil]
  simp (disch := omega) only [c68d, go_sem, wrap64_id, Int.tdiv_eq_ediv_of_nonneg, Int.tmod_eq_emod_of_nonneg]
  repeat' first
    | ((first | refine callA_pure (t134 s c _) ?_ ?_); (next => repeat' first | exact flags_n | refine flags_c (by first | rfl | assumption) ?_); simp (disch := omega) only [go_sem, wrap64_id, Int.tdiv_eq_ediv_of_nonneg, Int.tmod_eq_emod_of_nonneg])
    | ((first | refine callG_pure (fun e => ⟨?_, t134 s c _⟩) ?_); (next => repeat' first | exact flags_n | refine flags_c (by first | rfl | assumption) ?_); simp (disch := omega) only [go_sem, wrap64_id, Int.tdiv_eq_ediv_of_nonneg, Int.tmod_eq_emod_of_nonneg])
    | ((first | refine fnQ_pure1 ?_ ?_ | refine fnQ_pure0 ?_ ?_); (next => repeat' first | exact rvs_n | refine rvs_t ?_ | (simp [go_sem]; done)); simp only [go_sem]; (first | exact VLe.refl _ | refine VLe_int ?_ | refine VLe_bool ?_ | refine VLe_str ?_ | skip))
    | (with_reducible refine And.intro ?_ ?_)
    | with_reducible intro _
theorem punct_iff : ∀ n : Fin 256, (0 ≤ Go.Lib.indexByte [46, 44, 59, 58, 33, 63, 40, 41, 45] (UInt8.ofNat n.val)) ↔ (n.val = 46 ∨ n.val = 44 ∨ n.val = 59 ∨ n.val = 58 ∨ n.val = 33 ∨ n.val = 63 ∨ n.val = 40 ∨ n.val = 41 ∨ n.val = 45) := by decide +kernel
theorem t103 (n : Int) (h : List AObj) (n0 : 0 ≤ n) (n1 : n ≤ 255) : ACalls Tryd.prog 71 [.int .u8 n] h (.int .i64 (kindI n)) h := by
  obtain ⟨m, rfl⟩ : ∃ m : Nat, n = m := ⟨n.toNat, by omega⟩
  have hp := punct_iff ⟨m, by omega⟩
  simp only at hp
  obtain ⟨q, hq⟩ : ∃ q, q = Go.Lib.indexByte [46, 44, 59, 58, 33, 63, 40, 41, 45] (UInt8.ofNat m) := ⟨_, rfl⟩
  rw [← hq] at hp
  have hc : ∀ h, ACalls Tryd.prog 68 [.str [46, 44, 59, 58, 33, 63, 40, 41, 45], .int .u8 (m : Int)] h (.int .i64 q) h := fun h => by rw [hq]; exact t126 _ _ h
  refine acalls_of fn71d (by simp) ?_
  simp only [List.length_cons, List.length_nil, Nat.reduceAdd, Nat.reduceSub, List.replicate, List.cons_append, List.nil_append, List.append_nil]
  simp (disch := omega) only [c71d, go_sem, wrap64_id, Int.tdiv_eq_ediv_of_nonneg, Int.tmod_eq_emod_of_nonneg]
  repeat' first
    | ((first | refine callA_pure (hc _) ?_ ?_); (next => repeat' first | exact flags_n | refine flags_c (by first | rfl | assumption) ?_); simp (disch := omega) only [go_sem, wrap64_id, Int.tdiv_eq_ediv_of_nonneg, Int.tmod_eq_emod_of_nonneg])
    | ((first | refine callG_pure (fun e => ⟨?_, hc _⟩) ?_); (next => repeat' first | exact flags_n | refine flags_c (by first | rfl | assumption) ?_); simp (disch := omega) only [go_sem, wrap64_id, Int.tdiv_eq_ediv_of_nonneg, Int.tmod_eq_emod_of_nonneg])
    | ((first | refine fnQ_pure1 ?_ ?_ | refine fnQ_pure0 ?_ ?_); (next => repeat' first | exact rvs_n | refine rvs_t ?_ | (simp [go_sem]; done)); simp only [go_sem]; (first | exact VLe.refl _ | refine VLe_int ?_ | refine VLe_bool ?_ | refine VLe_str ?_ | skip))
    | (with_reducible refine And.intro ?_ ?_)
    | with_reducible intro _
  all_goals first
    | omega
    | (unfold kindI; (repeat' split) <;> omega)
end HY
end

section
set_option linter.all false
set_option linter.unusedSimpArgs false
set_option linter.unusedVariables false
set_option linter.unusedSectionVars false
open Go Go.Proofs AF HY
namespace HY
set_option maxRecDepth 100000
theorem _root_.AF.LowI.ret {h hh : List AObj} {ts : List AV} {L : LInfo} (s : LS) (hl : LowI h hh) (hts : ∀ c ∈ ts, lowV (h.length + 1) c = true) :
    (hh ++ [AObj.lp s ts L]).length = (h ++ [AObj.lp .ready ts L]).length ∧ ∀ o ∈ hh ++ [AObj.lp s ts L], o ∈ h ++ [AObj.lp .ready ts L] ∨ lowO (h ++ [AObj.lp .ready ts L]).length o := by
  refine ⟨by simp [hl.1], fun o ho => ?_⟩
  rw [List.length_append, List.length_singleton]
  rcases List.mem_append.1 ho with ho | ho
  · rcases hl.2 o ho with h1 | h1
    · exact .inl (List.mem_append_left _ h1)
    · exact .inr h1.2
  · rw [List.mem_singleton] at ho
    subst ho
    exact .inr hts
theorem u8_range (b : UInt8) : 0 ≤ ((b.toNat : Nat) : Int) ∧ ((b.toNat : Nat) : Int) ≤ 255 := by
  have := b.toNat_lt
  omega
theorem t103b (b : UInt8) (h : List AObj) : ACalls Tryd.prog 71 [.int .u8 (b.toNat : Int)] h (.int .i64 (kind b)) h := t103 _ h (u8_range b).1 (u8_range b).2
theorem t115 (s : List UInt8) (f a : Nat) (h : List AObj) (hf : f < s.length) : ACalls Tryd.prog 77 [.str s, .int .i64 f, .int .i64 a] h (.bool (decide (kind (ch s f) = 1) && decide (f < a))) h := by
  refine acalls_of fn77d (by simp) ?_
  simp only [List.length_cons, List.length_nil, Nat.reduceAdd, Nat.reduceSub, List.replicate, List.cons_append, List.nil_append, List.append_nil]
  simp (disch := omega) only [c77d, ch_eq, go_sem, wrap64_id, Int.tdiv_eq_ediv_of_nonneg, Int.tmod_eq_emod_of_nonneg]
  repeat' first
    | ((first | refine callA_pure (t103b _ _) ?_ ?_); (next => repeat' first | exact flags_n | refine flags_c (by first | rfl | assumption) ?_); simp (disch := omega) only [ch_eq, go_sem, wrap64_id, Int.tdiv_eq_ediv_of_nonneg, Int.tmod_eq_emod_of_nonneg])
    | ((first | refine callG_pure (fun e => ⟨?_, t103b _ _⟩) ?_); (next => repeat' first | exact flags_n | refine flags_c (by first | rfl | assumption) ?_); simp (disch := omega) only [ch_eq, go_sem, wrap64_id, Int.tdiv_eq_ediv_of_nonneg, Int.tmod_eq_emod_of_nonneg])
    | ((first | refine fnQ_pure1 ?_ ?_ | refine fnQ_pure0 ?_ ?_); (next => repeat' first | exact rvs_n | refine rvs_t ?_ | (simp [go_sem]; done)); simp only [go_sem]; (first | exact VLe.refl _ | refine VLe_int ?_ | refine VLe_bool ?_ | refine VLe_str ?_ | skip))
    | (with_reducible refine And.intro ?_ ?_)
    | with_reducible intro _
  all_goals first
    | omega
    | (congr 1; exact decide_eq_decide.2 (by omega))
    | skip
theorem clus_step {s : List UInt8} {f i : Nat} (hf : f < i) (hi : i < s.length) : clusO f ((s.drop f).take (i - f)) (s.drop i) = if kind (ch s i) = 2 ∧ kind (ch s f) = 1 then clusO f ((s.drop f).take (i + 1 - f)) (s.drop (i + 1)) else (f, (s.drop f).take (i - f)) :: clusO i ((s.drop i).take (i + 1 - i)) (s.drop (i + 1)) := by
  have e1 : s.drop i = ch s i :: s.drop (i + 1) := by rw [List.drop_eq_getElem_cons hi]; simp [ch, hi]
  have e2 : ch ((s.drop f).take (i - f)) 0 = ch s f := by simp [ch, List.getD_eq_getElem?_getD, List.getElem?_take, show 0 < i - f by omega]
  have e3 : (s.drop f).take (i + 1 - f) = (s.drop f).take (i - f) ++ [ch s i] := by
    rw [show i + 1 - f = (i - f) + 1 by omega, List.take_add_one, List.getElem?_drop, show f + (i - f) = i by omega]
    simp [ch, List.getD_eq_getElem?_getD, hi]
  have e4 : f + ((s.drop f).take (i - f)).length = i := by rw [List.length_take, List.length_drop]; omega
  have e5 : (s.drop i).take (i + 1 - i) = [ch s i] := by rw [e1, show i + 1 - i = 1 by omega]; rfl
  rw [e5, e1]
  simp only [clusO, e2, e4, e3]
theorem it114 (s : List UInt8) (hs : s.length ≤ 1000000000) : Iter Tryd.prog 76 [.ip [.str s]] ((clusters s).map fun x => [.int .i64 (x.1 : Int), .str x.2]) := by
  intro h ts L S E hS hE body start hts
  refine acallsQ_of fn76d (by simp) ?_
  simp only [List.length_cons, List.length_nil, Nat.reduceAdd, Nat.reduceSub, List.replicate, List.cons_append, List.nil_append, List.append_nil]
  simp (disch := omega) only [c76d, go_sem, wrap64_id, Int.tdiv_eq_ediv_of_nonneg, Int.tmod_eq_emod_of_nonneg]
  repeat' first
    | ((first | refine fnQ_pure1 ?_ ?_ | refine fnQ_pure0 ?_ ?_); (next => repeat' first | exact rvs_n | refine rvs_t ?_ | (simp [go_sem]; done)); simp only [go_sem]; (first | exact VLe.refl _ | refine VLe_int ?_ | refine VLe_bool ?_ | refine VLe_str ?_ | skip))
    | (with_reducible refine And.intro ?_ ?_)
    | with_reducible intro _
  all_goals first
    | omega
    | skip
  refine loop_of (T := fun i : Nat × Nat × Nat × List AObj => spar 37 [(0, .yld h.length), (1, .ip [.str s]), (3, .int .i64 i.1), (4, .int .i64 i.2.1)]) (H := fun i => i.2.2.2 ++ [.lp .ready ts L])
    (inv := fun i => S i.2.2.1 i.2.2.2 ∧ ((i.2.1 ≤ s.length ∧ i.1 < i.2.1 ∧ (clusters s).drop i.2.2.1 = clusO i.1 ((s.drop i.1).take (i.2.1 - i.1)) (s.drop i.2.1)) ∨ (s.length < i.2.1 ∧ i.2.1 ≤ s.length + 1 ∧ i.2.2.1 = (clusters s).length))) (m := fun i => s.length + 1 - i.2.1) (0, 1, 0, h) ⟨start, ?_⟩ (Wk.temps ?_) ?_
  · simp only
    cases s with
    | nil => right; simp [clusters]
    | cons c r => left; simp [clusters]
  · (simp only [spar, List.foldl, List.replicate, go_sem, VLes_nil, VLes_cons, VLe_undef_iff, VLe_self]; try (repeat' first | (with_reducible refine And.intro ?_ ?_) | (refine VLe_int ?_; omega) | (refine VLe_bool ?_; rfl) | exact VLe.refl _))
  · rintro ⟨f, i, j, hh⟩ ⟨i1, i2⟩ K hK
    simp only at i1 i2 hK
    obtain ⟨hlen, hlow⟩ := hS _ _ i1
    rcases i2 with ⟨g1, g2, g3⟩ | ⟨g1, g2, rfl⟩
    · have hjl : j < (clusters s).length := by
        have : (clusters s).drop j ≠ [] := by rw [g3]; exact clusO_ne _ _ _
        by_cases hj : j < (clusters s).length
        · exact hj
        · exact absurd (List.drop_of_length_le (by omega)) this
      by_cases hk : i < s.length ∧ kind (ch s i) = 2 ∧ kind (ch s f) = 1
      · have hst := clus_step g2 hk.1
        rw [if_pos hk.2] at hst
        simp (disch := omega) only [spar, List.foldl, List.replicate, ch_eq, hk.2.1, hk.2.2, go_sem, wrap64_id, Int.tdiv_eq_ediv_of_nonneg, Int.tmod_eq_emod_of_nonneg]
        repeat' first
          | ((first | refine callA_pure (t103b _ _) ?_ ?_ | refine callA_pure (t115 s f i _ (by omega)) ?_ ?_); (next => repeat' first | exact flags_n | refine flags_c (by first | rfl | assumption) ?_); simp (disch := omega) only [ch_eq, hk.2.1, hk.2.2, go_sem, wrap64_id, Int.tdiv_eq_ediv_of_nonneg, Int.tmod_eq_emod_of_nonneg])
          | ((first | refine callG_pure (fun e => ⟨?_, t103b _ _⟩) ?_ | refine callG_pure (fun e => ⟨?_, t115 s f i _ (by omega)⟩) ?_); (next => repeat' first | exact flags_n | refine flags_c (by first | rfl | assumption) ?_); simp (disch := omega) only [ch_eq, hk.2.1, hk.2.2, go_sem, wrap64_id, Int.tdiv_eq_ediv_of_nonneg, Int.tmod_eq_emod_of_nonneg])
          | ((first | refine fnQ_pure1 ?_ ?_ | refine fnQ_pure0 ?_ ?_); (next => repeat' first | exact rvs_n | refine rvs_t ?_ | (simp [go_sem]; done)); simp only [go_sem]; (first | exact VLe.refl _ | refine VLe_int ?_ | refine VLe_bool ?_ | refine VLe_str ?_ | skip))
          | (with_reducible refine And.intro ?_ ?_)
          | with_reducible intro _
        all_goals first
          | omega
          | skip
        refine hK _ _ (f, i + 1, j, hh) ⟨i1, .inl ⟨by simp only; omega, by simp only; omega, by rw [g3, hst]⟩⟩ (by simp only; omega) (Wk.temps ?_)
        (simp only [spar, List.foldl, List.replicate, go_sem, VLes_nil, VLes_cons, VLe_undef_iff, VLe_self]; try (repeat' first | (with_reducible refine And.intro ?_ ?_) | (refine VLe_int ?_; omega) | (refine VLe_bool ?_; rfl) | exact VLe.refl _))
      · obtain ⟨rest, hrest, hr1⟩ : ∃ rest, (clusters s).drop j = (f, (s.drop f).take (i - f)) :: rest ∧ (if i < s.length then rest = clusO i ((s.drop i).take (i + 1 - i)) (s.drop (i + 1)) else rest = []) := by
          by_cases hi : i < s.length
          · have hst := clus_step g2 hi
            rw [if_neg (fun h => hk ⟨hi, h⟩)] at hst
            exact ⟨_, g3.trans hst, by rw [if_pos hi]⟩
          · refine ⟨[], ?_, by rw [if_neg hi]⟩
            rw [g3, show s.drop i = [] from List.drop_of_length_le (by omega)]; rfl
        rw [List.drop_eq_getElem_cons hjl] at hrest
        obtain ⟨hget, hdrop⟩ := List.cons.inj hrest
        have hb := body j hh [] (by simpa using hjl) i1
        rw [List.getElem_map, hget] at hb
        simp only at hb
        have hfit : (i : Int) - f = ((i - f : Nat) : Int) := by omega
        simp (disch := omega) only [spar, List.foldl, List.replicate, ch_eq, go_sem, wrap64_id, Int.tdiv_eq_ediv_of_nonneg, Int.tmod_eq_emod_of_nonneg]
        repeat' first
          | ((first | refine callA_pure (t103b _ _) ?_ ?_ | refine callA_pure (t115 s f i _ (by omega)) ?_ ?_); (next => repeat' first | exact flags_n | refine flags_c (by first | rfl | assumption) ?_); simp (disch := omega) only [ch_eq, go_sem, wrap64_id, Int.tdiv_eq_ediv_of_nonneg, Int.tmod_eq_emod_of_nonneg])
          | ((first | refine callG_pure (fun e => ⟨?_, t103b _ _⟩) ?_ | refine callG_pure (fun e => ⟨?_, t115 s f i _ (by omega)⟩) ?_); (next => repeat' first | exact flags_n | refine flags_c (by first | rfl | assumption) ?_); simp (disch := omega) only [ch_eq, go_sem, wrap64_id, Int.tdiv_eq_ediv_of_nonneg, Int.tmod_eq_emod_of_nonneg])
          | ((first | refine fnQ_pure1 ?_ ?_ | refine fnQ_pure0 ?_ ?_); (next => repeat' first | exact rvs_n | refine rvs_t ?_ | (simp [go_sem]; done)); simp only [go_sem]; (first | exact VLe.refl _ | refine VLe_int ?_ | refine VLe_bool ?_ | refine VLe_str ?_ | skip))
          | (with_reducible refine And.intro ?_ ?_)
          | with_reducible intro _
        all_goals first
          | omega
          | exact ⟨.ready, ts, L, getO_i hlen⟩
          | skip
        refine AYield.mono ?_ hb
        rintro v h' ⟨hh', ⟨rfl, hn, rfl⟩ | ⟨st, rfl, hs', rfl⟩⟩
        · simp (disch := omega) only [go_sem, wrap64_id, Int.tdiv_eq_ediv_of_nonneg, Int.tmod_eq_emod_of_nonneg]
          repeat' first
            | ((first | refine fnQ_pure1 ?_ ?_ | refine fnQ_pure0 ?_ ?_); (next => repeat' first | exact rvs_n | refine rvs_t ?_ | (simp [go_sem]; done)); simp only [go_sem]; (first | exact VLe.refl _ | refine VLe_int ?_ | refine VLe_bool ?_ | refine VLe_str ?_ | skip))
            | (with_reducible refine And.intro ?_ ?_)
            | with_reducible intro _
          all_goals first
            | omega
            | (rename_i hx; revert hx; simp; done)
            | skip
          by_cases hi : i < s.length
          · rw [if_pos hi] at hr1
            refine hK _ _ (i, i + 1, j + 1, hh') ⟨hn, .inl ⟨by simp only; omega, by simp only; omega, by simp only; rw [hdrop, hr1]⟩⟩ (by simp only; omega) (Wk.temps ?_)
            (simp only [spar, List.foldl, List.replicate, go_sem, VLes_nil, VLes_cons, VLe_undef_iff, VLe_self]; try (repeat' first | (with_reducible refine And.intro ?_ ?_) | (refine VLe_int ?_; omega) | (refine VLe_bool ?_; rfl) | exact VLe.refl _))
          · rw [if_neg hi] at hr1
            refine hK _ _ (i, i + 1, j + 1, hh') ⟨hn, .inr ⟨by simp only; omega, by simp only; omega, ?_⟩⟩ (by simp only; omega) (Wk.temps ?_)
            · have : ((clusters s).drop (j + 1)).length = 0 := by rw [hdrop, hr1]; rfl
              rw [List.length_drop] at this
              simp only; omega
            · (simp only [spar, List.foldl, List.replicate, go_sem, VLes_nil, VLes_cons, VLe_undef_iff, VLe_self]; try (repeat' first | (with_reducible refine And.intro ?_ ?_) | (refine VLe_int ?_; omega) | (refine VLe_bool ?_; rfl) | exact VLe.refl _))
        · simp (disch := omega) only [go_sem, wrap64_id, Int.tdiv_eq_ediv_of_nonneg, Int.tmod_eq_emod_of_nonneg]
          obtain ⟨r1, r2⟩ := (hE _ _ hs').ret (L := L) st hts
          exact fnQ_eff0 trivial r1 r2 ⟨_, .inr ⟨st, hs', rfl⟩⟩ (VLe.refl _)
    · simp (disch := omega) only [spar, List.foldl, List.replicate, go_sem, wrap64_id, Int.tdiv_eq_ediv_of_nonneg, Int.tmod_eq_emod_of_nonneg]
      repeat' first
        | ((first | refine fnQ_pure1 ?_ ?_ | refine fnQ_pure0 ?_ ?_); (next => repeat' first | exact rvs_n | refine rvs_t ?_ | (simp [go_sem]; done)); simp only [go_sem]; (first | exact VLe.refl _ | refine VLe_int ?_ | refine VLe_bool ?_ | refine VLe_str ?_ | skip))
        | (with_reducible refine And.intro ?_ ?_)
        | with_reducible intro _
      all_goals first
        | omega
        | skip
      obtain ⟨r1, r2⟩ := (hS _ _ i1).ret (L := L) .ready hts
      exact fnQ_effn0 trivial r1 r2 ⟨hh, .inl ⟨by simpa using i1, rfl⟩⟩ (VLe.refl _)
end HY
end

section
set_option linter.all false
set_option linter.unusedSimpArgs false
set_option linter.unusedVariables false
set_option linter.unusedSectionVars false
open Go Go.Proofs AF HY
namespace HY
set_option maxRecDepth 100000
theorem sl1_of {cs : List AV} {n m k : Nat} {f : Nat → List AV} {fz : Nat → Bool} {h : List AObj} (e : cs.length = m) (ek : k = m) (hf : ∀ i c, cs[i]? = some c → f i = [c]) (hr : ∀ c ∈ cs, rei fz h (n + 1) c = c) : VLe (.sl m fun i => ((List.drop i cs).take 1).map (rei fz h (n + 1))) (.sl k f) := by
  subst e ek
  refine VLe_sl rfl (fun i hi => ?_)
  rw [List.drop_eq_getElem_cons hi, hf i cs[i] (List.getElem?_eq_getElem hi)]
  show [rei fz h (n + 1) cs[i]] = _
  rw [hr cs[i] (List.getElem_mem hi)]
def strC (l : List (List UInt8)) : List AV := l.map .str
theorem strC_len (l : List (List UInt8)) : (strC l).length = l.length := by simp [strC]
theorem strC_snoc (l : List (List UInt8)) (x : List UInt8) : strC (l ++ [x]) = strC l ++ [.str x] := by simp [strC]
theorem strs_of {l : List (List UInt8)} {n m : Nat} {fz : Nat → Bool} {h : List AObj} (e : l.length = m) : VLe (.sl m fun i => ((List.drop i (strC l)).take 1).map (rei fz h (n + 1))) (strs l) := by
  subst e
  refine sl1_of (strC_len l) rfl (fun i c hc => ?_) (fun c hc => ?_)
  · unfold strC at hc
    rw [List.getElem?_map, Option.map_eq_some_iff] at hc
    obtain ⟨x, hx, rfl⟩ := hc
    simp [List.getD_eq_getElem?_getD, hx]
  · unfold strC at hc
    rw [List.mem_map] at hc
    obtain ⟨x, _, rfl⟩ := hc
    rfl
end HY
end

section
set_option linter.all false
set_option linter.unusedSimpArgs false
set_option linter.unusedVariables false
set_option linter.unusedSectionVars false
open Go Go.Proofs AF HY
namespace HY
set_option maxRecDepth 100000
theorem drop_take_succ (s : List UInt8) {f i : Nat} (h : f ≤ i) (hi : i < s.length) : (s.drop f).take (i + 1 - f) = (s.drop f).take (i - f) ++ [ch s i] := by
  rw [show i + 1 - f = (i - f) + 1 by omega, List.take_add_one, List.getElem?_drop, show f + (i - f) = i by omega]
  simp [ch, List.getD_eq_getElem?_getD, hi]
theorem one_at (s : List UInt8) {i : Nat} (hi : i < s.length) : (s.drop i).take (i + 1 - i) = [ch s i] := by
  rw [drop_take_succ s (Nat.le_refl _) hi, Nat.sub_self]; rfl
def done (s : List UInt8) (D : List (List UInt8)) (f i : Nat) : Prop := inClus s f i ∧ i ≤ s.length ∧ clus s = D ++ (clusO f ((s.drop f).take (i - f)) (s.drop i)).map (·.2)
theorem done_first {s : List UInt8} (h : 0 < s.length) : done s [] 0 1 := by
  refine ⟨inClus_first s, h, ?_⟩
  cases s with
  | nil => simp at h
  | cons c r => simp [clus, clusters]
end HY
end

section
set_option linter.all false
set_option linter.unusedSimpArgs false
set_option linter.unusedVariables false
set_option linter.unusedSectionVars false
open Go Go.Proofs AF HY
namespace HY
set_option maxRecDepth 100000
theorem clusO_bad {s : List UInt8} : ∀ (k : Nat) {f i : Nat}, s.length - i = k → inClus s f i → i ≤ s.length → badHead ((s.drop f).take (i - f)) = badHead [ch s f] →
    ((clusO f ((s.drop f).take (i - f)) (s.drop i)).map (·.2)).any badHead = (badHead [ch s f] || (List.range' i (s.length - i)).any (badAt s)) := by
  intro k
  induction k with
  | zero =>
    intro f i hk hc hi hb
    have e : i = s.length := by omega
    subst e
    rw [List.drop_length, Nat.sub_self]
    simp [clusO, hb]
  | succ k ih =>
    intro f i hk hc hi hb
    have hi' : i < s.length := by omega
    rw [clus_step hc.1 hi']
    rw [show s.length - i = (s.length - (i + 1)) + 1 by omega, List.range'_succ, List.any_cons]
    have hr := inClus_right hc
    by_cases hg : kind (ch s i) = 2 ∧ kind (ch s f) = 1
    · rw [if_pos hg]
      have hrt : rightAt s i = true := by rw [hr]; simp [hg]
      have hb2 : badHead ((s.drop f).take (i + 1 - f)) = badHead [ch s f] := by
        rw [← hb]
        unfold badHead
        have e : ch ((s.drop f).take (i + 1 - f)) 0 = ch ((s.drop f).take (i - f)) 0 := by
          have := hc.1
          simp [ch, List.getD_eq_getElem?_getD, List.getElem?_take, show 0 < i - f by omega, show 0 < i + 1 - f by omega]
        rw [e]
      rw [ih (by omega) (inClus_go hc hrt) hi' hb2]
      have : badAt s i = false := by unfold badAt; rw [hrt, hg.1]; rfl
      rw [this, Bool.false_or]
    · rw [if_neg hg]
      have hrf : rightAt s i = false := by
        rw [hr]
        cases h2 : decide (kind (ch s i) = 2) <;> cases h3 : decide (kind (ch s f) = 1) <;> simp_all
      simp only [List.map_cons, List.any_cons, hb]
      have h1 : (s.drop i).take (i + 1 - i) = [ch s i] := one_at s hi'
      rw [ih (by omega) (inClus_new hc hrf) hi' (by rw [h1])]
      have : badAt s i = badHead [ch s i] := by unfold badAt badHead; rw [hrf]; simp [ch]
      rw [this]
theorem clus_bad (s : List UInt8) : (clus s).any badHead = (List.range s.length).any (badAt s) := by
  cases hs : s with
  | nil => rfl
  | cons c r =>
    rw [← hs]
    have h0 : 0 < s.length := by rw [hs]; simp
    have hd := done_first h0
    have h1 : (s.drop 0).take (1 - 0) = [ch s 0] := one_at s h0
    have := clusO_bad (s := s) _ rfl hd.1 h0 (by rw [h1])
    rw [← List.nil_append ((clusO 0 ((s.drop 0).take (1 - 0)) (s.drop 1)).map (·.2)), ← hd.2.2] at this
    rw [this, List.range_eq_range', show s.length = (s.length - 1) + 1 by omega, List.range'_succ, List.any_cons]
    have : badAt s 0 = badHead [ch s 0] := by unfold badAt badHead; simp [rightAt, ch]
    rw [this]; simp
theorem checkC_eq (s : List UInt8) : checkC s = if 65536 < s.length then 4 else if (List.range s.length).any (badAt s) = true then 11 else 0 := by unfold checkC; rw [clus_bad]
theorem any_range_true {p : Nat → Bool} {n i : Nat} (hi : i < n) (h : p i = true) : (List.range n).any p = true := List.any_eq_true.2 ⟨i, by simpa using hi, h⟩
end HY
end

section
set_option linter.all false
set_option linter.unusedSimpArgs false
set_option linter.unusedVariables false
set_option linter.unusedSectionVars false
open Go Go.Proofs AF HY
namespace HY
set_option maxRecDepth 100000
theorem kind_range (b : UInt8) : 0 ≤ kind b ∧ kind b ≤ 6 := by
  unfold kind kindI
  (repeat' split) <;> omega
def spc (c : UInt8) : Bool := decide (kind c = 5) || decide (kind c = 6)
end HY
end

section
set_option linter.all false
set_option linter.unusedSimpArgs false
set_option linter.unusedVariables false
set_option linter.unusedSectionVars false
open Go Go.Proofs AF HY
namespace HY
set_option maxRecDepth 100000
def clusF (s : List UInt8) : AV := .fn (.func 76) [] [.ip [.str s]]
def clusX (s : List UInt8) : List (List AV) := (clusters s).map fun x => [.int .i64 (x.1 : Int), .str x.2]
theorem clusX_len (s : List UInt8) : (clusX s).length = (clus s).length := by simp [clusX, clus]
theorem clusX_get (s : List UInt8) {i : Nat} (hi : i < (clusX s).length) : ∃ n : Nat, (clusX s)[i] = [.int .i64 (n : Int), .str ((clus s).getD i [])] := by
  have h1 : i < (clusters s).length := by simpa [clusX] using hi
  refine ⟨((clusters s)[i]).1, ?_⟩
  simp [clusX, clus, List.getD_eq_getElem?_getD, h1]
theorem t91 (s : List UInt8) (h : List AObj) : ACalls Tryd.prog 43 [.str s] h (clusF s) h := by
  refine acalls_of fn43d (by simp) ?_
  simp only [List.length_cons, List.length_nil, Nat.reduceAdd, Nat.reduceSub, List.replicate, List.cons_append, List.nil_append, List.append_nil]
  simp (disch := omega) only [c43d, go_sem, wrap64_id, Int.tdiv_eq_ediv_of_nonneg, Int.tmod_eq_emod_of_nonneg]
  repeat' first
    | ((first | refine fnQ_pure1 ?_ ?_ | refine fnQ_pure0 ?_ ?_); (next => repeat' first | exact rvs_n | refine rvs_t ?_ | (simp [go_sem]; done)); simp only [go_sem]; (first | exact VLe.refl _ | refine VLe_int ?_ | refine VLe_bool ?_ | refine VLe_str ?_ | skip))
    | (with_reducible refine And.intro ?_ ?_)
    | with_reducible intro _
  all_goals first
    | omega
    | (rename_i hx; revert hx; simp; done)
    | (simp; done)
    | skip
theorem flag_clusF (s : List UInt8) : (clusF s).flag = true := rfl
theorem strip_clusF (s : List UInt8) : (clusF s).strip = clusF s := rfl
attribute [go_sem] flag_clusF strip_clusF
theorem _root_.AF.LowI.app {h a b : List AObj} (e : b.length = a.length) (hb : ∀ o ∈ b, o ∈ a ∨ (lowO (h.length + a.length) o ∧ lowO (h.length + a.length + 1) o)) : LowI (h ++ a) (h ++ b) := by
  refine ⟨by simp [e], fun o ho => ?_⟩
  rw [List.length_append]
  rcases List.mem_append.1 ho with ho | ho
  · exact .inl (List.mem_append_left _ ho)
  · rcases hb o ho with h1 | h1
    · exact .inl (List.mem_append_right _ h1)
    · exact .inr h1
theorem low_strC {l : List (List UInt8)} {n : Nat} {c : AV} (h : c ∈ strC l) : lowV n c = true := by
  unfold strC at h
  rw [List.mem_map] at h
  obtain ⟨x, _, rfl⟩ := h
  rfl
theorem take_getD (l : List (List UInt8)) {i : Nat} (h : i < l.length) : l.take (i + 1) = l.take i ++ [l.getD i []] := by
  rw [List.take_add_one, List.getElem?_eq_getElem h]
  simp [List.getD_eq_getElem?_getD, h]
set_option maxHeartbeats 4000000 in
theorem t67 (s : List UInt8) (h : List AObj) (hs : s.length ≤ 1000000000) : ACalls Tryd.prog 16 [.str s] h (strs (clus s)) h := by
  have hcl := clus_len s
  have hit := it114 s hs
  refine acalls_of fn16d (by simp) ?_
  simp only [List.length_cons, List.length_nil, Nat.reduceAdd, Nat.reduceSub, List.replicate, List.cons_append, List.nil_append, List.append_nil]
  simp (disch := omega) only [c16d, madeA, go_sem, wrap64_id, Int.tdiv_eq_ediv_of_nonneg, Int.tmod_eq_emod_of_nonneg]
  repeat' first
    | ((first | refine callA_pure (t91 s _) ?_ ?_); (next => repeat' first | exact flags_n | refine flags_c (by first | rfl | assumption) ?_); simp (disch := omega) only [madeA, go_sem, wrap64_id, Int.tdiv_eq_ediv_of_nonneg, Int.tmod_eq_emod_of_nonneg])
    | ((first | refine callG_pure (fun e => ⟨?_, t91 s _⟩) ?_); (next => repeat' first | exact flags_n | refine flags_c (by first | rfl | assumption) ?_); simp (disch := omega) only [madeA, go_sem, wrap64_id, Int.tdiv_eq_ediv_of_nonneg, Int.tmod_eq_emod_of_nonneg])
    | ((first | refine fnQ_pure1 ?_ ?_ | refine fnQ_pure0 ?_ ?_); (next => repeat' first | exact rvs_n | refine rvs_t ?_ | (simp [go_sem]; done)); simp only [go_sem]; (first | exact VLe.refl _ | refine VLe_int ?_ | refine VLe_bool ?_ | refine VLe_str ?_ | skip))
    | (with_reducible refine And.intro ?_ ?_)
    | with_reducible intro _
  all_goals first
    | omega
    | (rename_i hx; revert hx; simp; done)
    | (simp; done)
    | skip
  refine range_iter (xs := clusX s) hit (by intro a ha; simp [clusX] at ha; obtain ⟨_, _, _, rfl⟩ := ha; rfl)
    (S := fun i hh => (i = 0 ∧ hh = h ++ [.emp 1, .mem 1 33 [.nl], .emp 0, .emp 0]) ∨ (0 < i ∧ ∃ (v w : Nat) (x : List UInt8), hh = h ++ [.emp 1, .mem 1 33 [.osl (h.length + 3) v 1 0 i], .mem w 9 [.str x], .mem v 9 (strC ((clus s).take i))]))
    (E := fun _ _ => False) ?_ (fun _ _ h => h.elim) ?_ ?_ ?_ ?_ (fun _ _ h => h.elim)
  · rintro i hh (⟨rfl, rfl⟩ | ⟨_, v, w, x, rfl⟩)
    · exact LowI.refl _
    · refine LowI.app rfl (fun o ho => ?_)
      simp only [List.mem_cons, List.not_mem_nil, or_false] at ho
      rcases ho with rfl | rfl | rfl | rfl
      · left; simp
      · right; constructor <;> (intro c hc; simp at hc; subst hc; simp [lowV] <;> omega)
      · right; constructor <;> (intro c hc; simp at hc; subst hc; rfl)
      · right; constructor <;> exact fun c hc => low_strC hc
  · exact .inl ⟨rfl, rfl⟩
  · simp [lowV, lowV.lowVs, clusF]
    try omega
  · rintro i hh tl L hi hS hlen
    obtain ⟨n, hx⟩ := clusX_get s hi
    rw [clusX_len] at hi
    rw [hx]
    have hts := take_getD (clus s) hi
    simp only [setsA]
    rcases hS with ⟨rfl, rfl⟩ | ⟨hpos, v, w, x, rfl⟩
    · simp (disch := omega) only [List.append_assoc, eq_self, madeA, go_sem, wrap64_id, Int.tdiv_eq_ediv_of_nonneg, Int.tmod_eq_emod_of_nonneg]
      repeat' first
        | ((first | refine fnQ_pure1 ?_ ?_ | refine fnQ_pure0 ?_ ?_); (next => repeat' first | exact rvs_n | refine rvs_t ?_ | (simp [go_sem]; done)); simp only [go_sem]; (first | exact VLe.refl _ | refine VLe_int ?_ | refine VLe_bool ?_ | refine VLe_str ?_ | skip))
        | (with_reducible refine And.intro ?_ ?_)
        | with_reducible intro _
      all_goals first
        | omega
        | (rename_i hx; revert hx; simp; done)
        | (simp; done)
        | skip
      refine ⟨h ++ [.emp 1, .mem 1 33 [.osl (h.length + 3) 1 1 0 1], .mem 1 9 [.str ((clus s).getD 0 [])], .mem 1 9 [.str ((clus s).getD 0 [])]], by simp, by simp, .inr ⟨by omega, 1, 1, (clus s).getD 0 [], ?_⟩⟩
      rw [hts]; rfl
    · have eL : (strC ((clus s).take i)).length = i := by rw [strC_len, List.length_take]; omega
      have eT : List.take i (strC ((clus s).take i)) = strC ((clus s).take i) := List.take_of_length_le (by omega)
      simp (disch := omega) only [List.append_assoc, eq_self, madeA, eL, eT, go_sem, wrap64_id, Int.tdiv_eq_ediv_of_nonneg, Int.tmod_eq_emod_of_nonneg]
      repeat' first
        | ((first | refine fnQ_pure1 ?_ ?_ | refine fnQ_pure0 ?_ ?_); (next => repeat' first | exact rvs_n | refine rvs_t ?_ | (simp [go_sem]; done)); simp only [go_sem]; (first | exact VLe.refl _ | refine VLe_int ?_ | refine VLe_bool ?_ | refine VLe_str ?_ | skip))
        | (with_reducible refine And.intro ?_ ?_)
        | with_reducible intro _
      all_goals first
        | omega
        | (rename_i hx; revert hx; simp; done)
        | (simp; done)
        | skip
      refine ⟨h ++ [.emp 1, .mem 1 33 [.osl (h.length + 3) (v + 1) 1 0 (i + 1)], .mem (w + 1) 9 [.str ((clus s).getD i [])], .mem (v + 1) 9 (strC ((clus s).take i) ++ [.str ((clus s).getD i [])])], by simp, by simp, ?_⟩
      have hfin : ∃ (v' w' : Nat) (x' : List UInt8), h ++ [AObj.emp 1, .mem 1 33 [.osl (h.length + 3) (v + 1) 1 0 (i + 1)], .mem (w + 1) 9 [.str ((clus s).getD i [])], .mem (v + 1) 9 (strC ((clus s).take i) ++ [.str ((clus s).getD i [])])] = h ++ [.emp 1, .mem 1 33 [.osl (h.length + 3) v' 1 0 (i + 1)], .mem w' 9 [.str x'], .mem v' 9 (strC ((clus s).take (i + 1)))] := ⟨v + 1, w + 1, (clus s).getD i [], by rw [hts, strC_snoc]⟩
      first
        | exact .inr ⟨by omega, hfin⟩
        | exact .inr hfin
        | exact hfin
  · rintro hh hS
    rw [clusX_len] at hS
    rcases hS with ⟨h0, rfl⟩ | ⟨hpos, v, w, x, rfl⟩
    · have e : clus s = [] := List.eq_nil_of_length_eq_zero h0
      rw [e]
      simp (disch := omega) only [go_sem, wrap64_id, Int.tdiv_eq_ediv_of_nonneg, Int.tmod_eq_emod_of_nonneg]
      repeat' first
        | ((first | refine fnQ_pure1 ?_ ?_ | refine fnQ_pure0 ?_ ?_); (next => repeat' first | exact rvs_n | refine rvs_t ?_ | (simp [go_sem]; done)); simp only [go_sem]; (first | exact VLe.refl _ | refine VLe_int ?_ | refine VLe_bool ?_ | refine VLe_str ?_ | skip))
        | (with_reducible refine And.intro ?_ ?_)
        | with_reducible intro _
      all_goals first
        | omega
        | (rename_i hx; revert hx; simp; done)
        | (simp; done)
        | skip
      exact VLe_nl
    · rw [List.take_length]
      have eL := strC_len (clus s)
      simp (disch := omega) only [eL, go_sem, wrap64_id, Int.tdiv_eq_ediv_of_nonneg, Int.tmod_eq_emod_of_nonneg]
      repeat' first
        | ((first | refine fnQ_pure1 ?_ ?_ | refine fnQ_pure0 ?_ ?_); (next => repeat' first | exact rvs_n | refine rvs_t ?_ | (simp [go_sem]; done)); simp only [go_sem]; (first | exact VLe.refl _ | refine VLe_int ?_ | refine VLe_bool ?_ | refine VLe_str ?_ | skip))
        | (with_reducible refine And.intro ?_ ?_)
        | with_reducible intro _
      all_goals first
        | omega
        | (rename_i hx; revert hx; simp; done)
        | (simp; done)
        | skip
      rw [if_pos (by omega)]
      exact strs_of rfl
end HY
end

section
set_option linter.all false
set_option linter.unusedSimpArgs false
set_option linter.unusedVariables false
set_option linter.unusedSectionVars false
open Go Go.Proofs AF HY
namespace HY
set_option maxRecDepth 100000
theorem any_take_succ {l : List (List UInt8)} {p : List UInt8 → Bool} {i : Nat} (h : i < l.length) : (l.take (i + 1)).any p = ((l.take i).any p || p (l.getD i [])) := by
  rw [take_getD l h, List.any_append]; simp
theorem any_at {l : List (List UInt8)} {p : List UInt8 → Bool} {i : Nat} (h : i < l.length) (hp : p (l.getD i []) = true) : l.any p = true := by
  rw [List.any_eq_true]
  refine ⟨l.getD i [], ?_, hp⟩
  rw [List.getD_eq_getElem?_getD, List.getElem?_eq_getElem h]
  exact List.getElem_mem h
theorem clus_at {s : List UInt8} {i : Nat} (h : i < (clus s).length) : 0 < ((clus s).getD i []).length := by
  apply List.length_pos_iff.2
  apply clus_ne (s := s)
  rw [List.getD_eq_getElem?_getD, List.getElem?_eq_getElem h]
  exact List.getElem_mem h
set_option maxHeartbeats 4000000 in
theorem t104 (s : List UInt8) (h : List AObj) (hs : s.length ≤ 1000000000) : ACalls Tryd.prog 70 [.str s] h (.int .i64 (checkC s)) h := by
  have hit := it114 s hs
  unfold checkC
  by_cases hl : 65536 < s.length
  · have hl' : (65536 < (s.length : Int)) = True := eq_true (by omega)
    rw [if_pos hl]
    refine acalls_of fn70d (by simp) ?_
    simp only [List.length_cons, List.length_nil, Nat.reduceAdd, Nat.reduceSub, List.replicate, List.cons_append, List.nil_append, List.append_nil]
    simp (disch := omega) only [c70d, hl', go_sem, wrap64_id, Int.tdiv_eq_ediv_of_nonneg, Int.tmod_eq_emod_of_nonneg]
    repeat' first
      | ((first | refine fnQ_pure1 ?_ ?_ | refine fnQ_pure0 ?_ ?_); (next => repeat' first | exact rvs_n | refine rvs_t ?_ | (simp [go_sem]; done)); simp only [go_sem]; (first | exact VLe.refl _ | refine VLe_int ?_ | refine VLe_bool ?_ | refine VLe_str ?_ | skip))
      | (with_reducible refine And.intro ?_ ?_)
      | with_reducible intro _
    all_goals first
      | omega
      | (rename_i hx; revert hx; simp; done)
      | (simp; done)
      | skip
    all_goals trace_state
  · have hl' : (65536 < (s.length : Int)) = False := eq_false (by omega)
    rw [if_neg hl]
    refine acalls_of fn70d (by simp) ?_
    simp only [List.length_cons, List.length_nil, Nat.reduceAdd, Nat.reduceSub, List.replicate, List.cons_append, List.nil_append, List.append_nil]
    simp (disch := omega) only [c70d, hl', go_sem, wrap64_id, Int.tdiv_eq_ediv_of_nonneg, Int.tmod_eq_emod_of_nonneg]
    repeat' first
      | ((first | refine callA_pure (t91 s _) ?_ ?_); (next => repeat' first | exact flags_n | refine flags_c (by first | rfl | assumption) ?_); simp (disch := omega) only [hl', go_sem, wrap64_id, Int.tdiv_eq_ediv_of_nonneg, Int.tmod_eq_emod_of_nonneg])
      | ((first | refine callG_pure (fun e => ⟨?_, t91 s _⟩) ?_); (next => repeat' first | exact flags_n | refine flags_c (by first | rfl | assumption) ?_); simp (disch := omega) only [hl', go_sem, wrap64_id, Int.tdiv_eq_ediv_of_nonneg, Int.tmod_eq_emod_of_nonneg])
      | ((first | refine fnQ_pure1 ?_ ?_ | refine fnQ_pure0 ?_ ?_); (next => repeat' first | exact rvs_n | refine rvs_t ?_ | (simp [go_sem]; done)); simp only [go_sem]; (first | exact VLe.refl _ | refine VLe_int ?_ | refine VLe_bool ?_ | refine VLe_str ?_ | skip))
      | (with_reducible refine And.intro ?_ ?_)
      | with_reducible intro _
    all_goals first
      | omega
      | (rename_i hx; revert hx; simp; done)
      | (simp; done)
      | skip
    refine range_iter (xs := clusX s) hit (by intro a ha; simp [clusX] at ha; obtain ⟨_, _, _, rfl⟩ := ha; rfl)
      (S := fun i hh => hh = h ++ [.mem 1 27 [.int .i64 0]] ∧ ((clus s).take i).any badHead = false)
      (E := fun e hh => e = .ret ∧ hh = h ++ [.mem 1 27 [.int .i64 11]] ∧ (clus s).any badHead = true) ?_ ?_ ?_ ?_ ?_ ?_ ?_
    · rintro i hh ⟨rfl, _⟩
      exact LowI.refl _
    · rintro e hh ⟨_, rfl, _⟩
      refine LowI.app rfl (fun o ho => ?_)
      simp only [List.mem_cons, List.not_mem_nil, or_false] at ho
      subst ho
      right; constructor <;> (intro c hc; simp at hc; subst hc; rfl)
    · exact ⟨rfl, by simp⟩
    · simp [lowV, lowV.lowVs, clusF]
      try omega
    · rintro i hh tl L hi ⟨rfl, hno⟩ hlen
      obtain ⟨n, hx⟩ := clusX_get s hi
      rw [clusX_len] at hi
      rw [hx]
      have hnx := any_take_succ (p := badHead) hi
      rw [hno, Bool.false_or] at hnx
      have hat := any_at (p := badHead) hi
      obtain ⟨c, hc⟩ : ∃ c, c = (clus s).getD i [] := ⟨_, rfl⟩
      have hcl := clus_at hi
      rw [← hc] at hcl hnx hat ⊢
      simp only [setsA]
      simp (disch := omega) only [List.append_assoc, eq_self, ch_eq, go_sem, wrap64_id, Int.tdiv_eq_ediv_of_nonneg, Int.tmod_eq_emod_of_nonneg]
      repeat' first
        | ((first | refine callA_pure (t103b _ _) ?_ ?_); (next => repeat' first | exact flags_n | refine flags_c (by first | rfl | assumption) ?_); simp (disch := omega) only [List.append_assoc, eq_self, ch_eq, go_sem, wrap64_id, Int.tdiv_eq_ediv_of_nonneg, Int.tmod_eq_emod_of_nonneg])
        | ((first | refine callG_pure (fun e => ⟨?_, t103b _ _⟩) ?_); (next => repeat' first | exact flags_n | refine flags_c (by first | rfl | assumption) ?_); simp (disch := omega) only [List.append_assoc, eq_self, ch_eq, go_sem, wrap64_id, Int.tdiv_eq_ediv_of_nonneg, Int.tmod_eq_emod_of_nonneg])
        | ((first | refine fnQ_pure1 ?_ ?_ | refine fnQ_pure0 ?_ ?_); (next => repeat' first | exact rvs_n | refine rvs_t ?_ | (simp [go_sem]; done)); simp only [go_sem]; (first | exact VLe.refl _ | refine VLe_int ?_ | refine VLe_bool ?_ | refine VLe_str ?_ | skip))
        | (with_reducible refine And.intro ?_ ?_)
        | with_reducible intro _
      all_goals first
        | omega
        | (rename_i hx; revert hx; simp; done)
        | (simp; done)
        | skip
      · rename_i hx
        exact ⟨h ++ [.mem 1 27 [.int .i64 11]], by simp, by simp, by simp, hat (by unfold badHead; simpa using hx)⟩
      · rename_i hx
        exact ⟨h ++ [.mem 1 27 [.int .i64 0]], by simp, by simp, by simp, by rw [hnx]; unfold badHead; simpa using hx⟩
    · rintro hh ⟨rfl, hno⟩
      rw [clusX_len, List.take_length] at hno
      rw [hno]
      simp (disch := omega) only [go_sem, wrap64_id, Int.tdiv_eq_ediv_of_nonneg, Int.tmod_eq_emod_of_nonneg]
      repeat' first
        | ((first | refine fnQ_pure1 ?_ ?_ | refine fnQ_pure0 ?_ ?_); (next => repeat' first | exact rvs_n | refine rvs_t ?_ | (simp [go_sem]; done)); simp only [go_sem]; (first | exact VLe.refl _ | refine VLe_int ?_ | refine VLe_bool ?_ | refine VLe_str ?_ | skip))
        | (with_reducible refine And.intro ?_ ?_)
        | with_reducible intro _
      all_goals first
        | omega
        | (rename_i hx; revert hx; simp; done)
        | (simp; done)
        | skip
      all_goals trace_state
    · rintro e hh ⟨rfl, rfl, hb⟩
      rw [hb]
      show Ex.inBlock 0 _ .ret _ _
      simp (disch := omega) only [go_sem, wrap64_id, Int.tdiv_eq_ediv_of_nonneg, Int.tmod_eq_emod_of_nonneg]
      repeat' first
        | ((first | refine fnQ_pure1 ?_ ?_ | refine fnQ_pure0 ?_ ?_); (next => repeat' first | exact rvs_n | refine rvs_t ?_ | (simp [go_sem]; done)); simp only [go_sem]; (first | exact VLe.refl _ | refine VLe_int ?_ | refine VLe_bool ?_ | refine VLe_str ?_ | skip))
        | (with_reducible refine And.intro ?_ ?_)
        | with_reducible intro _
      all_goals first
        | omega
        | (rename_i hx; revert hx; simp; done)
        | (simp; done)
        | skip
      all_goals trace_state
end HY
end
