import Derived.Shelf.Strings.BuilderX
import Derived.Shelf.RegionOpenPlain
import Derived.Lib.Strings
import Derived.Lib.Slices
import Derived.Lib.Walk
import Derived.Lib.Bytealg
import Derived.WalkKit
import Derived.Laws.Externs
import Derived.Test.YtjijgafefdolkaaDoorProg
import Derived.Test.YtjijgafefdolkaaDoorK2
import Derived.Test.YtjijgafefdolkaaDoorK3
set_option linter.all false
set_option linter.unusedSimpArgs false
set_option linter.unusedVariables false
set_option linter.unusedSectionVars false
section
set_option linter.all false
set_option linter.unusedSimpArgs false
set_option linter.unusedVariables false
set_option linter.unusedSectionVars false
set_option linter.unusedVariables false
namespace Go.Proofs
open Go.Shelf Go.RowKit
set_option maxHeartbeats 1000000 in
set_option maxRecDepth 100000 in
theorem ib_calls (s : ByteArray) (c : Int) (w : World) :
    Calls Tryd.prog 94 #[.string s, .int .u8 c] w fun e w' => e = .returned (.int .i64 (Lib.indexByte s.data.toList c.toNat.toUInt8)) ∧ w' = w := by
  go_enter Tryd.func94, Tryd.ntmps94
  go_wp2
  rw [run_callFunc_extern Tryd.func114 (by kernel_rfl) (by kernel_rfl) (by kernel_rfl) (e := Extern.BytealgIndexByte.indexByte) (by kernel_rfl)]
  rw [Lib.run_indexByteString]
  simp only [Result.andThen]
  rw [Oper.upon_value]
  go_wp2
  all_goals (go_ret; exact ⟨rfl, rfl⟩)
end Go.Proofs
end

section
open Go Go.Proofs AF
set_option maxRecDepth 100000
namespace HY
def c3l : C :=
  ((C.ops [⟨some 4, none, .mv, [.c (.bool false)]⟩]).seq ((C.ops [⟨some 11, none, .mv, [.t 0]⟩, ⟨some 12, none, .conv .i64, [.t 11]⟩, ⟨some 13, none, .bin .rem, [.t 12, .c (.int .i64
  501)]⟩, ⟨some 14, none, .mv, [.t 1]⟩, ⟨some 15, none, .conv .i64, [.t 14]⟩, ⟨some 16, none, .bin .rem, [.t 15, .c (.int .i64 20)]⟩, ⟨some 17, none, .bin .add, [.c (.int .i64 1), .t
  16]⟩, ⟨some 5, none, .mv, [.t 13]⟩, ⟨some 6, none, .mv, [.t 17]⟩]).seq ((C.ops [⟨some 19, none, .mv, [.t 5]⟩, ⟨some 20, none, .mv, [.t 6]⟩, ⟨some 21, none, .call 9 true, [.t 19, .t
  20]⟩, ⟨some 18, none, .mv, [.t 21]⟩, ⟨some 22, none, .ext 0, [.t 18]⟩, ⟨some 23, none, .ext 1, [.t 18]⟩, ⟨some 7, none, .mv, [.t 22]⟩, ⟨some 8, none, .mv, [.t 23]⟩]).seq (((C.ops
  [⟨some 24, none, .mv, [.t 8]⟩, ⟨some 25, none, .bin .neq, [.t 24, .c (.int .i64 0)]⟩, ⟨some 26, none, .mv, [.t 25]⟩, ⟨some 27, some (26, false), .mv, [.t 7]⟩, ⟨some 28, some (26,
  false), .len, [.t 27]⟩, ⟨some 29, some (26, false), .mv, [.t 5]⟩, ⟨some 30, some (26, false), .mv, [.t 6]⟩, ⟨some 31, some (26, false), .bin .quo, [.t 29, .t 30]⟩, ⟨some 32, some
  (26, false), .bin .neq, [.t 28, .t 31]⟩, ⟨some 33, none, .pick, [.t 26, .c (.bool true), .t 32]⟩]).seq (C.cond (.t 33) ((C.ops [⟨some 4, none, .mv, [.c (.bool false)]⟩]).seq C.ret)
  C.skip)).seq (((C.ops [⟨some 34, none, .mv, [.t 7]⟩, ⟨some 35, none, .len, [.t 34]⟩, ⟨some 36, none, .mv, [.c (.int .i64 0)]⟩]).seq (C.block 0 ((C.ops [⟨some 37, none, .bin .lss,
  [.t 36, .t 35]⟩]).seq ((C.cond (.t 37) C.skip (C.exit 0)).seq ((C.block 1 ((C.ops [⟨some 38, none, .mv, [.t 36]⟩, ⟨some 39, none, .idxA 1, [.t 34, .t 36]⟩, ⟨some 40, none, .load
  none, [.t 39]⟩, ⟨some 9, none, .mv, [.t 38]⟩, ⟨some 10, none, .mv, [.t 40]⟩]).seq ((C.ops [⟨some 41, none, .mv, [.t 10]⟩, ⟨some 42, none, .mv, [.t 9]⟩, ⟨some 43, none, .bin .add,
  [.t 42, .c (.int .i64 1)]⟩, ⟨some 44, none, .mv, [.t 6]⟩, ⟨some 45, none, .bin .mul, [.t 43, .t 44]⟩, ⟨some 46, none, .bin .neq, [.t 41, .t 45]⟩]).seq (C.cond (.t 46) ((C.ops
  [⟨some 4, none, .mv, [.c (.bool false)]⟩]).seq C.ret) C.skip)))).seq (C.ops [⟨some 47, none, .bin .add, [.t 36, .c (.int .i64 1)]⟩, ⟨some 36, none, .mv, [.t 47]⟩])))).loop)).seq
  ((C.ops [⟨some 48, none, .call 10 true, []⟩, ⟨some 4, none, .mv, [.t 48]⟩]).seq
  C.ret))))))
theorem fn3l : FnIs Tryd.prog 3 49 0 [RV.tmp 4] c3l := ⟨Tryd.f3, Tryd.f3.body.getD .skip, [], [93, 67, 70, 45, 59], [], by kernel_rfl, by kernel_rfl, by kernel_rfl, by kernel_rfl, by kernel_rfl, by kernel_rfl, by kernel_rfl⟩
def c4l : C :=
  ((C.ops [⟨some 12, none, .mv, [.c (.bool false)]⟩]).seq (((C.ops [⟨some 25, none, .mv, [.t 0]⟩, ⟨some 26, none, .mv, [.t 1]⟩, ⟨some 27, none, .call 11 true, [.t 25, .t 26]⟩, ⟨some
  28, none, .mv, [.t 27]⟩, ⟨some 29, some (28, false), .mv, [.t 2]⟩, ⟨some 30, some (28, false), .len, [.t 29]⟩, ⟨some 31, some (28, false), .bin .gtr, [.t 30, .c (.int .i64 20)]⟩,
  ⟨some 32, none, .pick, [.t 28, .c (.bool true), .t 31]⟩, ⟨some 33, none, .mv, [.t 32]⟩, ⟨some 34, some (33, false), .mv, [.t 3]⟩, ⟨some 35, some (33, false), .len, [.t 34]⟩, ⟨some
  36, some (33, false), .bin .gtr, [.t 35, .c (.int .i64 20)]⟩, ⟨some 37, none, .pick, [.t 33, .c (.bool true), .t 36]⟩]).seq (C.cond (.t 37) ((C.ops [⟨some 38, none, .call 10 true,
  []⟩, ⟨some 12, none, .mv, [.t 38]⟩]).seq C.ret) C.skip)).seq ((C.ops [⟨some 40, none, .mv, [.t 0]⟩, ⟨some 41, none, .mv, [.t 1]⟩, ⟨some 42, none, .call 12 true, [.t 40, .t 41]⟩,
  ⟨some 39, none, .mv, [.t 42]⟩, ⟨some 43, none, .ext 0, [.t 39]⟩, ⟨some 44, none, .ext 1, [.t 39]⟩, ⟨some 13, none, .mv, [.t 43]⟩, ⟨some 14, none, .mv, [.t 44]⟩]).seq ((C.ops [⟨some
  46, none, .mv, [.t 0]⟩, ⟨some 47, none, .mv, [.t 1]⟩, ⟨some 48, none, .call 13 true, [.t 46, .t 47]⟩, ⟨some 45, none, .mv, [.t 48]⟩, ⟨some 49, none, .ext 0, [.t 45]⟩, ⟨some 50,
  none, .ext 1, [.t 45]⟩, ⟨some 15, none, .mv, [.t 49]⟩, ⟨some 16, none, .mv, [.t 50]⟩]).seq ((C.ops [⟨some 52, none, .mv, [.t 0]⟩, ⟨some 53, none, .mv, [.t 1]⟩, ⟨some 54, none,
  .call 14 true, [.t 52, .t 53]⟩, ⟨some 51, none, .mv, [.t 54]⟩, ⟨some 55, none, .ext 0, [.t 51]⟩, ⟨some 56, none, .ext 1, [.t 51]⟩, ⟨some 17, none, .mv, [.t 55]⟩, ⟨some 18, none,
  .mv, [.t 56]⟩]).seq ((C.ops [⟨some 58, none, .mv, [.t 0]⟩, ⟨some 59, none, .mv, [.t 1]⟩, ⟨some 60, none, .call 15 true, [.t 58, .t 59]⟩, ⟨some 57, none, .mv, [.t 60]⟩, ⟨some 61,
  none, .ext 0, [.t 57]⟩, ⟨some 62, none, .ext 1, [.t 57]⟩, ⟨some 19, none, .mv, [.t 61]⟩, ⟨some 20, none, .mv, [.t 62]⟩]).seq ((C.ops [⟨some 64, none, .mv, [.t 2]⟩, ⟨some 65, none,
  .mv, [.t 3]⟩, ⟨some 66, none, .mv, [.t 4]⟩, ⟨some 67, none, .mv, [.t 5]⟩, ⟨some 68, none, .call 16 true, [.t 64, .t 65, .t 66, .t 67]⟩, ⟨some 63, none, .mv, [.t 68]⟩, ⟨some 69,
  none, .ext 0, [.t 63]⟩, ⟨some 70, none, .ext 1, [.t 63]⟩, ⟨some 21, none, .mv, [.t 69]⟩, ⟨some 22, none, .mv, [.t 70]⟩]).seq ((C.ops [⟨some 72, none, .mv, [.t 2]⟩, ⟨some 73, none,
  .mv, [.t 3]⟩, ⟨some 74, none, .mv, [.t 4]⟩, ⟨some 75, none, .mv, [.t 5]⟩, ⟨some 76, none, .call 17 true, [.t 72, .t 73, .t 74, .t 75]⟩, ⟨some 71, none, .mv, [.t 76]⟩, ⟨some 77,
  none, .ext 0, [.t 71]⟩, ⟨some 78, none, .ext 1, [.t 71]⟩, ⟨some 23, none, .mv, [.t 77]⟩, ⟨some 24, none, .mv, [.t 78]⟩]).seq ((C.ops [⟨some 79, none, .mv, [.t 13]⟩, ⟨some 80, none,
  .mv, [.t 15]⟩, ⟨some 81, none, .call 18 true, [.t 79, .t 80]⟩, ⟨some 82, none, .mv, [.t 81]⟩, ⟨some 83, some (82, true), .mv, [.t 14]⟩, ⟨some 84, some (82, true), .mv, [.t 16]⟩,
  ⟨some 85, some (82, true), .bin .eql, [.t 83, .t 84]⟩, ⟨some 86, none, .pick, [.t 82, .t 85, .c (.bool false)]⟩, ⟨some 87, none, .mv, [.t 86]⟩, ⟨some 88, some (87, true), .mv, [.t
  17]⟩, ⟨some 89, some (87, true), .mv, [.t 19]⟩, ⟨some 90, some (87, true), .call 18 true, [.t 88, .t 89]⟩, ⟨some 91, none, .pick, [.t 87, .t 90, .c (.bool false)]⟩, ⟨some 92, none,
  .mv, [.t 91]⟩, ⟨some 93, some (92, true), .mv, [.t 18]⟩, ⟨some 94, some (92, true), .mv, [.t 20]⟩, ⟨some 95, some (92, true), .bin .eql, [.t 93, .t 94]⟩, ⟨some 96, none, .pick, [.t
  92, .t 95, .c (.bool false)]⟩, ⟨some 97, none, .mv, [.t 96]⟩, ⟨some 98, some (97, true), .mv, [.t 21]⟩, ⟨some 99, some (97, true), .mv, [.t 23]⟩, ⟨some 100, some (97, true), .call
  18 true, [.t 98, .t 99]⟩, ⟨some 101, none, .pick, [.t 97, .t 100, .c (.bool false)]⟩, ⟨some 102, none, .mv, [.t 101]⟩, ⟨some 103, some (102, true), .mv, [.t 22]⟩, ⟨some 104, some
  (102, true), .mv, [.t 24]⟩, ⟨some 105, some (102, true), .bin .eql, [.t 103, .t 104]⟩, ⟨some 106, none, .pick, [.t 102, .t 105, .c (.bool false)]⟩, ⟨some 107, none, .mv, [.t 106]⟩,
  ⟨some 108, some (107, true), .call 10 true, []⟩, ⟨some 109, none, .pick, [.t 107, .t 108, .c (.bool false)]⟩, ⟨some 12, none, .mv, [.t 109]⟩]).seq
  C.ret)))))))))
theorem fn4l : FnIs Tryd.prog 4 110 0 [RV.tmp 12] c4l := ⟨Tryd.f4, Tryd.f4.body.getD .skip, [], [93, 67, 70, 45, 59], [], by kernel_rfl, by kernel_rfl, by kernel_rfl, by kernel_rfl, by kernel_rfl, by kernel_rfl, by kernel_rfl⟩
def c7l : C :=
  ((C.ops [⟨some 12, none, .mv, [.c (.bool false)]⟩]).seq ((C.ops [⟨some 13, none, .mv, [.c (.fn (Fn.func 26) [] [])]⟩]).seq (((C.ops [⟨some 32, none, .mv, [.t 0]⟩, ⟨some 33, none,
  .bin .gtr, [.t 32, .c (.int .i64 100)]⟩, ⟨some 34, none, .mv, [.t 33]⟩, ⟨some 35, some (34, true), .mv, [.t 0]⟩, ⟨some 36, some (34, true), .bin .leq, [.t 35, .c (.int .i64
  4096)]⟩, ⟨some 37, none, .pick, [.t 34, .t 36, .c (.bool false)]⟩, ⟨some 38, none, .mv, [.t 37]⟩, ⟨some 39, some (38, false), .mv, [.t 3]⟩, ⟨some 40, some (38, false), .len, [.t
  39]⟩, ⟨some 41, some (38, false), .bin .gtr, [.t 40, .c (.int .i64 8)]⟩, ⟨some 42, none, .pick, [.t 38, .c (.bool true), .t 41]⟩, ⟨some 43, none, .mv, [.t 42]⟩, ⟨some 44, some (43,
  false), .mv, [.t 4]⟩, ⟨some 45, some (43, false), .len, [.t 44]⟩, ⟨some 46, some (43, false), .bin .gtr, [.t 45, .c (.int .i64 8)]⟩, ⟨some 47, none, .pick, [.t 43, .c (.bool true),
  .t 46]⟩, ⟨some 48, none, .mv, [.t 47]⟩, ⟨some 49, some (48, false), .mv, [.t 5]⟩, ⟨some 50, some (48, false), .len, [.t 49]⟩, ⟨some 51, some (48, false), .bin .gtr, [.t 50, .c
  (.int .i64 8)]⟩, ⟨some 52, none, .pick, [.t 48, .c (.bool true), .t 51]⟩, ⟨some 53, none, .mv, [.t 52]⟩, ⟨some 54, some (53, false), .mv, [.t 2]⟩, ⟨some 55, some (53, false),
  .slen, [.t 54]⟩, ⟨some 56, some (53, false), .bin .gtr, [.t 55, .c (.int .i64 80)]⟩, ⟨some 57, none, .pick, [.t 53, .c (.bool true), .t 56]⟩, ⟨some 58, none, .mv, [.t 57]⟩, ⟨some
  59, some (58, false), .mv, [.t 3]⟩, ⟨some 60, some (58, false), .mv, [.t 13]⟩, ⟨some 61, some (58, false), .call 20 true, [.t 59, .t 60]⟩, ⟨some 62, none, .pick, [.t 58, .c (.bool
  true), .t 61]⟩, ⟨some 63, none, .mv, [.t 62]⟩, ⟨some 64, some (63, false), .mv, [.t 4]⟩, ⟨some 65, some (63, false), .mv, [.t 13]⟩, ⟨some 66, some (63, false), .call 20 true, [.t
  64, .t 65]⟩, ⟨some 67, none, .pick, [.t 63, .c (.bool true), .t 66]⟩]).seq (C.cond (.t 67) ((C.ops [⟨some 68, none, .call 10 true, []⟩, ⟨some 12, none, .mv, [.t 68]⟩]).seq C.ret)
  C.skip)).seq ((C.ops [⟨some 70, none, .mv, [.t 0]⟩, ⟨some 71, none, .mv, [.t 1]⟩, ⟨some 72, none, .call 9 true, [.t 70, .t 71]⟩, ⟨some 69, none, .mv, [.t 72]⟩, ⟨some 73, none, .ext
  0, [.t 69]⟩, ⟨some 74, none, .ext 1, [.t 69]⟩, ⟨some 14, none, .mv, [.t 73]⟩, ⟨some 15, none, .mv, [.t 74]⟩]).seq ((C.ops [⟨some 76, none, .mv, [.t 0]⟩, ⟨some 77, none, .mv, [.t
  1]⟩, ⟨some 78, none, .call 27 true, [.t 76, .t 77]⟩, ⟨some 75, none, .mv, [.t 78]⟩, ⟨some 79, none, .ext 0, [.t 75]⟩, ⟨some 80, none, .ext 1, [.t 75]⟩, ⟨some 16, none, .mv, [.t
  79]⟩, ⟨some 17, none, .mv, [.t 80]⟩]).seq ((C.ops [⟨some 82, none, .mv, [.t 0]⟩, ⟨some 83, none, .mv, [.t 1]⟩, ⟨some 84, none, .call 24 true, [.t 82, .t 83]⟩, ⟨some 81, none, .mv,
  [.t 84]⟩, ⟨some 85, none, .ext 0, [.t 81]⟩, ⟨some 86, none, .ext 1, [.t 81]⟩, ⟨some 18, none, .mv, [.t 85]⟩, ⟨some 19, none, .mv, [.t 86]⟩]).seq ((C.ops [⟨some 88, none, .mv, [.t
  0]⟩, ⟨some 89, none, .mv, [.t 1]⟩, ⟨some 90, none, .call 28 true, [.t 88, .t 89]⟩, ⟨some 87, none, .mv, [.t 90]⟩, ⟨some 91, none, .ext 0, [.t 87]⟩, ⟨some 92, none, .ext 1, [.t
  87]⟩, ⟨some 20, none, .mv, [.t 91]⟩, ⟨some 21, none, .mv, [.t 92]⟩]).seq ((C.ops [⟨some 94, none, .mv, [.t 2]⟩, ⟨some 95, none, .call 25 true, [.t 94]⟩, ⟨some 93, none, .mv, [.t
  95]⟩, ⟨some 96, none, .ext 0, [.t 93]⟩, ⟨some 97, none, .ext 1, [.t 93]⟩, ⟨some 98, none, .ext 2, [.t 93]⟩, ⟨some 22, none, .mv, [.t 96]⟩, ⟨some 23, none, .mv, [.t 97]⟩, ⟨some 24,
  none, .mv, [.t 98]⟩]).seq ((C.ops [⟨some 100, none, .mv, [.t 2]⟩, ⟨some 101, none, .call 29 true, [.t 100]⟩, ⟨some 99, none, .mv, [.t 101]⟩, ⟨some 102, none, .ext 0, [.t 99]⟩,
  ⟨some 103, none, .ext 1, [.t 99]⟩, ⟨some 104, none, .ext 2, [.t 99]⟩, ⟨some 25, none, .mv, [.t 102]⟩, ⟨some 26, none, .mv, [.t 103]⟩, ⟨some 27, none, .mv, [.t 104]⟩]).seq ((C.ops
  [⟨some 106, none, .mv, [.t 3]⟩, ⟨some 107, none, .mv, [.t 4]⟩, ⟨some 108, none, .mv, [.t 5]⟩, ⟨some 109, none, .call 21 true, [.t 106, .t 107, .t 108]⟩, ⟨some 105, none, .mv, [.t
  109]⟩, ⟨some 110, none, .ext 0, [.t 105]⟩, ⟨some 111, none, .ext 1, [.t 105]⟩, ⟨some 28, none, .mv, [.t 110]⟩, ⟨some 29, none, .mv, [.t 111]⟩]).seq ((C.ops [⟨some 113, none, .mv,
  [.t 3]⟩, ⟨some 114, none, .mv, [.t 4]⟩, ⟨some 115, none, .mv, [.t 5]⟩, ⟨some 116, none, .call 30 true, [.t 113, .t 114, .t 115]⟩, ⟨some 112, none, .mv, [.t 116]⟩, ⟨some 117, none,
  .ext 0, [.t 112]⟩, ⟨some 118, none, .ext 1, [.t 112]⟩, ⟨some 30, none, .mv, [.t 117]⟩, ⟨some 31, none, .mv, [.t 118]⟩]).seq ((C.ops [⟨some 119, none, .mv, [.t 14]⟩, ⟨some 120,
  none, .mv, [.t 16]⟩, ⟨some 121, none, .call 18 true, [.t 119, .t 120]⟩, ⟨some 122, none, .mv, [.t 121]⟩, ⟨some 123, some (122, true), .mv, [.t 15]⟩, ⟨some 124, some (122, true),
  .mv, [.t 17]⟩, ⟨some 125, some (122, true), .bin .eql, [.t 123, .t 124]⟩, ⟨some 126, none, .pick, [.t 122, .t 125, .c (.bool false)]⟩, ⟨some 127, none, .mv, [.t 126]⟩, ⟨some 128,
  some (127, true), .mv, [.t 18]⟩, ⟨some 129, some (127, true), .mv, [.t 20]⟩, ⟨some 130, some (127, true), .bin .eql, [.t 128, .t 129]⟩, ⟨some 131, none, .pick, [.t 127, .t 130, .c
  (.bool false)]⟩, ⟨some 132, none, .mv, [.t 131]⟩, ⟨some 133, some (132, true), .mv, [.t 19]⟩, ⟨some 134, some (132, true), .mv, [.t 21]⟩, ⟨some 135, some (132, true), .bin .eql,
  [.t 133, .t 134]⟩, ⟨some 136, none, .pick, [.t 132, .t 135, .c (.bool false)]⟩, ⟨some 137, none, .mv, [.t 136]⟩, ⟨some 138, some (137, true), .mv, [.t 22]⟩, ⟨some 139, some (137,
  true), .mv, [.t 25]⟩, ⟨some 140, some (137, true), .bin .eql, [.t 138, .t 139]⟩, ⟨some 141, none, .pick, [.t 137, .t 140, .c (.bool false)]⟩, ⟨some 142, none, .mv, [.t 141]⟩, ⟨some
  143, some (142, true), .mv, [.t 23]⟩, ⟨some 144, some (142, true), .mv, [.t 26]⟩, ⟨some 145, some (142, true), .bin .eql, [.t 143, .t 144]⟩, ⟨some 146, none, .pick, [.t 142, .t
  145, .c (.bool false)]⟩, ⟨some 147, none, .mv, [.t 146]⟩, ⟨some 148, some (147, true), .mv, [.t 24]⟩, ⟨some 149, some (147, true), .mv, [.t 27]⟩, ⟨some 150, some (147, true), .bin
  .eql, [.t 148, .t 149]⟩, ⟨some 151, none, .pick, [.t 147, .t 150, .c (.bool false)]⟩, ⟨some 152, none, .mv, [.t 151]⟩, ⟨some 153, some (152, true), .mv, [.t 28]⟩, ⟨some 154, some
  (152, true), .mv, [.t 30]⟩, ⟨some 155, some (152, true), .call 31 true, [.t 153, .t 154]⟩, ⟨some 156, none, .pick, [.t 152, .t 155, .c (.bool false)]⟩, ⟨some 157, none, .mv, [.t
  156]⟩, ⟨some 158, some (157, true), .mv, [.t 29]⟩, ⟨some 159, some (157, true), .mv, [.t 31]⟩, ⟨some 160, some (157, true), .bin .eql, [.t 158, .t 159]⟩, ⟨some 161, none, .pick,
  [.t 157, .t 160, .c (.bool false)]⟩, ⟨some 162, none, .mv, [.t 161]⟩, ⟨some 163, some (162, true), .call 10 true, []⟩, ⟨some 164, none, .pick, [.t 162, .t 163, .c (.bool false)]⟩,
  ⟨some 12, none, .mv, [.t 164]⟩]).seq
  C.ret))))))))))))
theorem fn7l : FnIs Tryd.prog 7 165 0 [RV.tmp 12] c7l := ⟨Tryd.f7, Tryd.f7.body.getD .skip, [], [93, 67, 70, 45, 59], [], by kernel_rfl, by kernel_rfl, by kernel_rfl, by kernel_rfl, by kernel_rfl, by kernel_rfl, by kernel_rfl⟩
def c9l : C :=
  ((C.ops [⟨some 4, none, .nilo 0 1 3, []⟩, ⟨some 5, none, .mv, [.c (.int .i64 0)]⟩]).seq (((C.ops [⟨some 8, none, .mv, [.t 0]⟩, ⟨some 9, none, .bin .lss, [.t 8, .c (.int .i64 0)]⟩,
  ⟨some 10, none, .mv, [.t 9]⟩, ⟨some 11, some (10, false), .mv, [.t 0]⟩, ⟨some 12, some (10, false), .bin .gtr, [.t 11, .c (.int .i64 4096)]⟩, ⟨some 13, none, .pick, [.t 10, .c
  (.bool true), .t 12]⟩, ⟨some 14, none, .mv, [.t 13]⟩, ⟨some 15, some (14, false), .mv, [.t 1]⟩, ⟨some 16, some (14, false), .bin .lss, [.t 15, .c (.int .i64 1)]⟩, ⟨some 17, none,
  .pick, [.t 14, .c (.bool true), .t 16]⟩, ⟨some 18, none, .mv, [.t 17]⟩, ⟨some 19, some (18, false), .mv, [.t 1]⟩, ⟨some 20, some (18, false), .bin .gtr, [.t 19, .c (.int .i64
  4096)]⟩, ⟨some 21, none, .pick, [.t 18, .c (.bool true), .t 20]⟩]).seq (C.cond (.t 21) ((C.ops [⟨some 4, none, .nilo 0 1 3, []⟩, ⟨some 5, none, .mv, [.c (.int .i64 2)]⟩]).seq
  C.ret) C.skip)).seq ((C.ops [⟨some 6, none, .nilo 1 1 3, []⟩]).seq (((C.ops [⟨some 22, none, .mv, [.t 1]⟩, ⟨some 7, none, .mv, [.t 22]⟩]).seq (C.block 0 (((C.ops [⟨some 23, none,
  .mv, [.t 7]⟩, ⟨some 24, none, .mv, [.t 0]⟩, ⟨some 25, none, .bin .leq, [.t 23, .t 24]⟩]).seq (C.cond (.t 25) C.skip (C.exit 0))).seq ((C.block 1 (C.ops [⟨some 29, none, .mv, [.t
  6]⟩, ⟨some 30, none, .mv, [.t 7]⟩, ⟨some 31, none, .bslc 2 1 1 3 [.int .i64 0] [(0, 1)], [.t 30]⟩, ⟨some 32, none, .app 3 1 3 8, [.t 29, .t 31]⟩, ⟨some 6, none, .mv, [.t
  32]⟩])).seq (C.ops [⟨some 26, none, .mv, [.t 7]⟩, ⟨some 27, none, .mv, [.t 1]⟩, ⟨some 28, none, .bin .add, [.t 26, .t 27]⟩, ⟨some 7, none, .mv, [.t 28]⟩]))).loop)).seq ((C.ops
  [⟨some 33, none, .mv, [.t 6]⟩, ⟨some 4, none, .mv, [.t 33]⟩, ⟨some 5, none, .mv, [.c (.int .i64 0)]⟩]).seq
  C.ret)))))
theorem fn9l : FnIs Tryd.prog 9 34 4 [RV.tmp 4, RV.tmp 5] c9l := ⟨Tryd.f9, Tryd.f9.body.getD .skip, [4, 6, 31, 32], [93, 67, 70, 45, 59], [], by kernel_rfl, by kernel_rfl, by kernel_rfl, by kernel_rfl, by kernel_rfl, by kernel_rfl, by kernel_rfl⟩
def c11l : C :=
  ((C.ops [⟨some 4, none, .mv, [.c (.bool false)]⟩]).seq (((C.ops [⟨some 5, none, .mv, [.c (.int .i64 0)]⟩]).seq (C.block 0 (((C.ops [⟨some 6, none, .mv, [.t 5]⟩, ⟨some 7, none, .mv,
  [.t 0]⟩, ⟨some 8, none, .len, [.t 7]⟩, ⟨some 9, none, .bin .lss, [.t 6, .t 8]⟩]).seq (C.cond (.t 9) C.skip (C.exit 0))).seq ((C.block 1 ((C.ops [⟨some 12, none, .mv, [.t 0]⟩, ⟨some
  13, none, .mv, [.t 5]⟩, ⟨some 14, none, .idxA 6, [.t 12, .t 13]⟩, ⟨some 15, none, .fldA 5, [.t 14]⟩, ⟨some 16, none, .load none, [.t 15]⟩, ⟨some 17, none, .slen, [.t 16]⟩, ⟨some
  18, none, .bin .gtr, [.t 17, .c (.int .i64 66)]⟩]).seq (C.cond (.t 18) ((C.ops [⟨some 4, none, .mv, [.c (.bool true)]⟩]).seq C.ret) C.skip))).seq (C.ops [⟨some 10, none, .mv, [.t
  5]⟩, ⟨some 11, none, .bin .add, [.t 10, .c (.int .i64 1)]⟩, ⟨some 5, none, .mv, [.t 11]⟩]))).loop)).seq ((C.ops [⟨some 19, none, .mv, [.t 0]⟩, ⟨some 20, none, .len, [.t 19]⟩, ⟨some
  21, none, .bin .gtr, [.t 20, .c (.int .i64 30)]⟩, ⟨some 22, none, .mv, [.t 21]⟩, ⟨some 23, some (22, false), .mv, [.t 1]⟩, ⟨some 24, some (22, false), .len, [.t 23]⟩, ⟨some 25,
  some (22, false), .bin .gtr, [.t 24, .c (.int .i64 12)]⟩, ⟨some 26, none, .pick, [.t 22, .c (.bool true), .t 25]⟩, ⟨some 4, none, .mv, [.t 26]⟩]).seq
  C.ret)))
theorem fn11l : FnIs Tryd.prog 11 27 0 [RV.tmp 4] c11l := ⟨Tryd.f11, Tryd.f11.body.getD .skip, [], [93, 67, 70, 45, 59], [], by kernel_rfl, by kernel_rfl, by kernel_rfl, by kernel_rfl, by kernel_rfl, by kernel_rfl, by kernel_rfl⟩
def c12l : C :=
  ((C.ops [⟨some 4, none, .nilo 0 1 3, []⟩, ⟨some 5, none, .mv, [.c (.int .i64 0)]⟩]).seq ((C.ops [⟨some 6, none, .mv, [.t 0]⟩, ⟨some 7, none, .mv, [.t 1]⟩, ⟨some 8, none, .call 38
  true, [.t 6, .t 7, .c (.fn (Fn.func 39) [] [])]⟩, ⟨some 9, none, .ext 0, [.t 8]⟩, ⟨some 10, none, .ext 1, [.t 8]⟩, ⟨some 4, none, .mv, [.t 9]⟩, ⟨some 5, none, .mv, [.t 10]⟩]).seq
  C.ret))
theorem fn12l : FnIs Tryd.prog 12 11 1 [RV.tmp 4, RV.tmp 5] c12l := ⟨Tryd.f12, Tryd.f12.body.getD .skip, [4], [93, 67, 70, 45, 59], [], by kernel_rfl, by kernel_rfl, by kernel_rfl, by kernel_rfl, by kernel_rfl, by kernel_rfl, by kernel_rfl⟩
def c13l : C :=
  ((C.ops [⟨some 4, none, .nilo 0 1 3, []⟩, ⟨some 5, none, .mv, [.c (.int .i64 0)]⟩]).seq ((C.ops [⟨some 10, none, .mv, [.t 0]⟩, ⟨some 11, none, .mv, [.t 1]⟩, ⟨some 12, none, .call
  40 true, [.t 10, .t 11]⟩, ⟨some 9, none, .mv, [.t 12]⟩, ⟨some 13, none, .ext 0, [.t 9]⟩, ⟨some 14, none, .ext 1, [.t 9]⟩, ⟨some 15, none, .ext 2, [.t 9]⟩, ⟨some 6, none, .mv, [.t
  13]⟩, ⟨some 7, none, .mv, [.t 14]⟩, ⟨some 8, none, .mv, [.t 15]⟩]).seq ((C.ops [⟨some 16, none, .mv, [.t 6]⟩, ⟨some 17, none, .mv, [.t 8]⟩, ⟨some 4, none, .mv, [.t 16]⟩, ⟨some 5,
  none, .mv, [.t 17]⟩]).seq
  C.ret)))
theorem fn13l : FnIs Tryd.prog 13 18 1 [RV.tmp 4, RV.tmp 5] c13l := ⟨Tryd.f13, Tryd.f13.body.getD .skip, [4], [93, 67, 70, 45, 59], [], by kernel_rfl, by kernel_rfl, by kernel_rfl, by kernel_rfl, by kernel_rfl, by kernel_rfl, by kernel_rfl⟩
def c14l : C :=
  ((C.ops [⟨some 4, none, .nilo 0 1 3, []⟩, ⟨some 5, none, .mv, [.c (.int .i64 0)]⟩]).seq ((C.ops [⟨some 6, none, .mv, [.t 0]⟩, ⟨some 7, none, .mv, [.t 1]⟩, ⟨some 8, none, .call 38
  true, [.t 6, .t 7, .c (.fn (Fn.func 41) [] [])]⟩, ⟨some 9, none, .ext 0, [.t 8]⟩, ⟨some 10, none, .ext 1, [.t 8]⟩, ⟨some 4, none, .mv, [.t 9]⟩, ⟨some 5, none, .mv, [.t 10]⟩]).seq
  C.ret))
theorem fn14l : FnIs Tryd.prog 14 11 1 [RV.tmp 4, RV.tmp 5] c14l := ⟨Tryd.f14, Tryd.f14.body.getD .skip, [4], [93, 67, 70, 45, 59], [], by kernel_rfl, by kernel_rfl, by kernel_rfl, by kernel_rfl, by kernel_rfl, by kernel_rfl, by kernel_rfl⟩
def c15l : C :=
  ((C.ops [⟨some 4, none, .nilo 0 1 3, []⟩, ⟨some 5, none, .mv, [.c (.int .i64 0)]⟩]).seq ((C.ops [⟨some 10, none, .mv, [.t 0]⟩, ⟨some 11, none, .mv, [.t 1]⟩, ⟨some 12, none, .call
  40 true, [.t 10, .t 11]⟩, ⟨some 9, none, .mv, [.t 12]⟩, ⟨some 13, none, .ext 0, [.t 9]⟩, ⟨some 14, none, .ext 1, [.t 9]⟩, ⟨some 15, none, .ext 2, [.t 9]⟩, ⟨some 6, none, .mv, [.t
  13]⟩, ⟨some 7, none, .mv, [.t 14]⟩, ⟨some 8, none, .mv, [.t 15]⟩]).seq ((C.ops [⟨some 16, none, .mv, [.t 7]⟩, ⟨some 17, none, .mv, [.t 8]⟩, ⟨some 4, none, .mv, [.t 16]⟩, ⟨some 5,
  none, .mv, [.t 17]⟩]).seq
  C.ret)))
theorem fn15l : FnIs Tryd.prog 15 18 1 [RV.tmp 4, RV.tmp 5] c15l := ⟨Tryd.f15, Tryd.f15.body.getD .skip, [4], [93, 67, 70, 45, 59], [], by kernel_rfl, by kernel_rfl, by kernel_rfl, by kernel_rfl, by kernel_rfl, by kernel_rfl, by kernel_rfl⟩
def c16l : C :=
  ((C.ops [⟨some 8, none, .nilo 0 1 3, []⟩, ⟨some 9, none, .mv, [.c (.int .i64 0)]⟩]).seq (((C.ops [⟨some 13, none, .mv, [.t 0]⟩, ⟨some 14, none, .len, [.t 13]⟩, ⟨some 15, none, .mv,
  [.t 1]⟩, ⟨some 16, none, .len, [.t 15]⟩, ⟨some 17, none, .bin .neq, [.t 14, .t 16]⟩]).seq (C.cond (.t 17) ((C.ops [⟨some 8, none, .nilo 0 1 3, []⟩, ⟨some 9, none, .mv, [.c (.int
  .i64 9)]⟩]).seq C.ret) C.skip)).seq (((C.ops [⟨some 18, none, .mv, [.t 2]⟩, ⟨some 19, none, .mv, [.t 3]⟩, ⟨some 20, none, .call 42 true, [.t 18, .t 19]⟩, ⟨some 21, none, .un
  UnOp.not, [.t 20]⟩]).seq (C.cond (.t 21) ((C.ops [⟨some 8, none, .nilo 0 1 3, []⟩, ⟨some 9, none, .mv, [.c (.int .i64 2)]⟩]).seq C.ret) C.skip)).seq ((C.ops [⟨some 10, none, .nilo
  1 1 3, []⟩]).seq (((C.ops [⟨some 22, none, .mv, [.t 0]⟩, ⟨some 23, none, .len, [.t 22]⟩, ⟨some 24, none, .mv, [.c (.int .i64 0)]⟩]).seq (C.block 0 ((C.ops [⟨some 25, none, .bin
  .lss, [.t 24, .t 23]⟩]).seq ((C.cond (.t 25) C.skip (C.exit 0)).seq ((C.block 1 ((C.ops [⟨some 26, none, .mv, [.t 24]⟩, ⟨some 27, none, .idxA 1, [.t 22, .t 24]⟩, ⟨some 28, none,
  .load none, [.t 27]⟩, ⟨some 11, none, .mv, [.t 26]⟩, ⟨some 12, none, .mv, [.t 28]⟩]).seq ((C.ops [⟨some 29, none, .mv, [.t 2]⟩, ⟨some 30, none, .mv, [.t 12]⟩, ⟨some 31, none, .bin
  .leq, [.t 29, .t 30]⟩, ⟨some 32, none, .mv, [.t 31]⟩, ⟨some 33, some (32, true), .mv, [.t 12]⟩, ⟨some 34, some (32, true), .mv, [.t 3]⟩, ⟨some 35, some (32, true), .bin .leq, [.t
  33, .t 34]⟩, ⟨some 36, none, .pick, [.t 32, .t 35, .c (.bool false)]⟩]).seq (C.cond (.t 36) (C.ops [⟨some 37, none, .mv, [.t 10]⟩, ⟨some 38, none, .mv, [.t 11]⟩, ⟨some 39, none,
  .bslc 2 1 1 3 [.int .i64 0] [(0, 1)], [.t 38]⟩, ⟨some 40, none, .app 3 1 3 8, [.t 37, .t 39]⟩, ⟨some 10, none, .mv, [.t 40]⟩]) C.skip)))).seq (C.ops [⟨some 41, none, .bin .add, [.t
  24, .c (.int .i64 1)]⟩, ⟨some 24, none, .mv, [.t 41]⟩])))).loop)).seq ((C.ops [⟨some 42, none, .mv, [.t 10]⟩, ⟨some 8, none, .mv, [.t 42]⟩, ⟨some 9, none, .mv, [.c (.int .i64
  0)]⟩]).seq
  C.ret))))))
theorem fn16l : FnIs Tryd.prog 16 43 4 [RV.tmp 8, RV.tmp 9] c16l := ⟨Tryd.f16, Tryd.f16.body.getD .skip, [8, 10, 39, 40], [93, 67, 70, 45, 59], [], by kernel_rfl, by kernel_rfl, by kernel_rfl, by kernel_rfl, by kernel_rfl, by kernel_rfl, by kernel_rfl⟩
def c17l : C :=
  ((C.ops [⟨some 8, none, .nilo 0 1 3, []⟩, ⟨some 9, none, .mv, [.c (.int .i64 0)]⟩]).seq (((C.ops [⟨some 12, none, .mv, [.t 0]⟩, ⟨some 13, none, .len, [.t 12]⟩, ⟨some 14, none, .mv,
  [.t 1]⟩, ⟨some 15, none, .len, [.t 14]⟩, ⟨some 16, none, .bin .neq, [.t 13, .t 15]⟩]).seq (C.cond (.t 16) ((C.ops [⟨some 17, none, .bslc 1 1 0 3 [.int .i64 0] [], []⟩, ⟨some 8,
  none, .mv, [.t 17]⟩, ⟨some 9, none, .mv, [.c (.int .i64 9)]⟩]).seq C.ret) C.skip)).seq (((C.ops [⟨some 18, none, .mv, [.t 2]⟩, ⟨some 19, none, .bin .lss, [.t 18, .c (.int .i64
  1)]⟩, ⟨some 20, none, .mv, [.t 19]⟩, ⟨some 21, some (20, false), .mv, [.t 2]⟩, ⟨some 22, some (20, false), .mv, [.t 3]⟩, ⟨some 23, some (20, false), .bin .gtr, [.t 21, .t 22]⟩,
  ⟨some 24, none, .pick, [.t 20, .c (.bool true), .t 23]⟩, ⟨some 25, none, .mv, [.t 24]⟩, ⟨some 26, some (25, false), .mv, [.t 3]⟩, ⟨some 27, some (25, false), .bin .gtr, [.t 26, .c
  (.int .i64 4096)]⟩, ⟨some 28, none, .pick, [.t 25, .c (.bool true), .t 27]⟩]).seq (C.cond (.t 28) ((C.ops [⟨some 29, none, .bslc 2 1 0 3 [.int .i64 0] [], []⟩, ⟨some 8, none, .mv,
  [.t 29]⟩, ⟨some 9, none, .mv, [.c (.int .i64 2)]⟩]).seq C.ret) C.skip)).seq ((C.ops [⟨some 30, none, .bslc 3 1 0 3 [.int .i64 0] [], []⟩, ⟨some 10, none, .mv, [.t 30]⟩]).seq
  (((C.ops [⟨some 11, none, .mv, [.c (.int .i64 0)]⟩]).seq (C.block 0 (((C.ops [⟨some 31, none, .mv, [.t 11]⟩, ⟨some 32, none, .mv, [.t 0]⟩, ⟨some 33, none, .len, [.t 32]⟩, ⟨some 34,
  none, .bin .lss, [.t 31, .t 33]⟩]).seq (C.cond (.t 34) C.skip (C.exit 0))).seq ((C.block 1 ((C.ops [⟨some 37, none, .mv, [.t 0]⟩, ⟨some 38, none, .mv, [.t 11]⟩, ⟨some 39, none,
  .idxA 1, [.t 37, .t 38]⟩, ⟨some 40, none, .load none, [.t 39]⟩, ⟨some 41, none, .mv, [.t 2]⟩, ⟨some 42, none, .bin .geq, [.t 40, .t 41]⟩, ⟨some 43, none, .mv, [.t 42]⟩, ⟨some 44,
  some (43, true), .mv, [.t 0]⟩, ⟨some 45, some (43, true), .mv, [.t 11]⟩, ⟨some 46, some (43, true), .idxA 1, [.t 44, .t 45]⟩, ⟨some 47, some (43, true), .load none, [.t 46]⟩, ⟨some
  48, some (43, true), .mv, [.t 3]⟩, ⟨some 49, some (43, true), .bin .leq, [.t 47, .t 48]⟩, ⟨some 50, none, .pick, [.t 43, .t 49, .c (.bool false)]⟩]).seq (C.cond (.t 50) (C.ops
  [⟨some 51, none, .mv, [.t 10]⟩, ⟨some 52, none, .mv, [.t 11]⟩, ⟨some 53, none, .bslc 4 1 1 3 [.int .i64 0] [(0, 1)], [.t 52]⟩, ⟨some 54, none, .app 5 1 3 8, [.t 51, .t 53]⟩, ⟨some
  10, none, .mv, [.t 54]⟩]) C.skip))).seq (C.ops [⟨some 35, none, .mv, [.t 11]⟩, ⟨some 36, none, .bin .add, [.t 35, .c (.int .i64 1)]⟩, ⟨some 11, none, .mv, [.t 36]⟩]))).loop)).seq
  ((C.ops [⟨some 55, none, .mv, [.t 10]⟩, ⟨some 8, none, .mv, [.t 55]⟩, ⟨some 9, none, .mv, [.c (.int .i64 0)]⟩]).seq
  C.ret))))))
theorem fn17l : FnIs Tryd.prog 17 56 6 [RV.tmp 8, RV.tmp 9] c17l := ⟨Tryd.f17, Tryd.f17.body.getD .skip, [8, 17, 29, 30, 53, 54], [93, 67, 70, 45, 59], [], by kernel_rfl, by kernel_rfl, by kernel_rfl, by kernel_rfl, by kernel_rfl, by kernel_rfl, by kernel_rfl⟩
def c18l : C :=
  ((C.ops [⟨some 4, none, .mv, [.c (.bool false)]⟩]).seq (((C.ops [⟨some 6, none, .mv, [.t 0]⟩, ⟨some 7, none, .len, [.t 6]⟩, ⟨some 8, none, .mv, [.t 1]⟩, ⟨some 9, none, .len, [.t
  8]⟩, ⟨some 10, none, .bin .neq, [.t 7, .t 9]⟩]).seq (C.cond (.t 10) ((C.ops [⟨some 4, none, .mv, [.c (.bool false)]⟩]).seq C.ret) C.skip)).seq (((C.ops [⟨some 11, none, .mv, [.t
  0]⟩, ⟨some 12, none, .len, [.t 11]⟩, ⟨some 13, none, .mv, [.c (.int .i64 0)]⟩]).seq (C.block 0 ((C.ops [⟨some 14, none, .bin .lss, [.t 13, .t 12]⟩]).seq ((C.cond (.t 14) C.skip
  (C.exit 0)).seq ((C.block 1 ((C.ops [⟨some 15, none, .mv, [.t 13]⟩, ⟨some 5, none, .mv, [.t 15]⟩]).seq ((C.ops [⟨some 16, none, .mv, [.t 0]⟩, ⟨some 17, none, .mv, [.t 5]⟩, ⟨some
  18, none, .idxA 1, [.t 16, .t 17]⟩, ⟨some 19, none, .load none, [.t 18]⟩, ⟨some 20, none, .mv, [.t 1]⟩, ⟨some 21, none, .mv, [.t 5]⟩, ⟨some 22, none, .idxA 1, [.t 20, .t 21]⟩,
  ⟨some 23, none, .load none, [.t 22]⟩, ⟨some 24, none, .bin .neq, [.t 19, .t 23]⟩]).seq (C.cond (.t 24) ((C.ops [⟨some 4, none, .mv, [.c (.bool false)]⟩]).seq C.ret) C.skip)))).seq
  (C.ops [⟨some 25, none, .bin .add, [.t 13, .c (.int .i64 1)]⟩, ⟨some 13, none, .mv, [.t 25]⟩])))).loop)).seq ((C.ops [⟨some 4, none, .mv, [.c (.bool true)]⟩]).seq
  C.ret))))
theorem fn18l : FnIs Tryd.prog 18 26 0 [RV.tmp 4] c18l := ⟨Tryd.f18, Tryd.f18.body.getD .skip, [], [93, 67, 70, 45, 59], [], by kernel_rfl, by kernel_rfl, by kernel_rfl, by kernel_rfl, by kernel_rfl, by kernel_rfl, by kernel_rfl⟩
def c19l : C :=
  ((C.ops [⟨some 2, none, .mv, [.c (.bool false)]⟩]).seq ((C.ops [⟨some 3, none, .mv, [.t 0]⟩, ⟨some 4, none, .slen, [.t 3]⟩, ⟨some 5, none, .bin .gtr, [.t 4, .c (.int .i64 80)]⟩,
  ⟨some 2, none, .mv, [.t 5]⟩]).seq
  C.ret))
theorem fn19l : FnIs Tryd.prog 19 6 0 [RV.tmp 2] c19l := ⟨Tryd.f19, Tryd.f19.body.getD .skip, [], [93, 67, 70, 45, 59], [], by kernel_rfl, by kernel_rfl, by kernel_rfl, by kernel_rfl, by kernel_rfl, by kernel_rfl, by kernel_rfl⟩
def c20l : C :=
  ((C.ops [⟨some 4, none, .mv, [.c (.bool false)]⟩]).seq ((C.ops [⟨some 5, none, .mv, [.t 0]⟩, ⟨some 6, none, .mv, [.t 1]⟩, ⟨some 7, none, .call 43 true, [.t 5, .t 6]⟩, ⟨some 8,
  none, .bin .geq, [.t 7, .c (.int .i64 0)]⟩, ⟨some 4, none, .mv, [.t 8]⟩]).seq
  C.ret))
theorem fn20l : FnIs Tryd.prog 20 9 0 [RV.tmp 4] c20l := ⟨Tryd.f20, Tryd.f20.body.getD .skip, [], [93, 67, 70, 45, 59], [], by kernel_rfl, by kernel_rfl, by kernel_rfl, by kernel_rfl, by kernel_rfl, by kernel_rfl, by kernel_rfl⟩
def c22l : C :=
  ((C.ops [⟨some 2, none, .mv, [.c (.bool false)]⟩]).seq ((C.ops [⟨some 3, none, .mv, [.t 0]⟩, ⟨some 4, none, .call 23 true, [.t 3, .c (.str [64])]⟩, ⟨some 2, none, .mv, [.t
  4]⟩]).seq
  C.ret))
theorem fn22l : FnIs Tryd.prog 22 5 0 [RV.tmp 2] c22l := ⟨Tryd.f22, Tryd.f22.body.getD .skip, [], [93, 67, 70, 45, 59], [], by kernel_rfl, by kernel_rfl, by kernel_rfl, by kernel_rfl, by kernel_rfl, by kernel_rfl, by kernel_rfl⟩
def c23l : C :=
  ((C.ops [⟨some 4, none, .mv, [.c (.bool false)]⟩]).seq ((C.ops [⟨some 5, none, .mv, [.t 0]⟩, ⟨some 6, none, .mv, [.t 1]⟩, ⟨some 7, none, .call 47 true, [.t 5, .t 6]⟩, ⟨some 8,
  none, .bin .geq, [.t 7, .c (.int .i64 0)]⟩, ⟨some 4, none, .mv, [.t 8]⟩]).seq
  C.ret))
theorem fn23l : FnIs Tryd.prog 23 9 0 [RV.tmp 4] c23l := ⟨Tryd.f23, Tryd.f23.body.getD .skip, [], [93, 67, 70, 45, 59], [], by kernel_rfl, by kernel_rfl, by kernel_rfl, by kernel_rfl, by kernel_rfl, by kernel_rfl, by kernel_rfl⟩
def c24l : C :=
  ((C.ops [⟨some 4, none, .mv, [.c (.str [])]⟩, ⟨some 5, none, .mv, [.c (.int .i64 0)]⟩]).seq (((C.ops [⟨some 6, none, .mv, [.t 0]⟩, ⟨some 7, none, .mv, [.t 1]⟩, ⟨some 8, none, .call
  42 true, [.t 6, .t 7]⟩, ⟨some 9, none, .un UnOp.not, [.t 8]⟩]).seq (C.cond (.t 9) ((C.ops [⟨some 4, none, .mv, [.c (.str [])]⟩, ⟨some 5, none, .mv, [.c (.int .i64 2)]⟩]).seq C.ret)
  C.skip)).seq (((C.ops [⟨some 10, none, .mv, [.t 0]⟩, ⟨some 11, none, .mv, [.t 1]⟩, ⟨some 12, none, .bin .eql, [.t 10, .t 11]⟩]).seq (C.cond (.t 12) ((C.ops [⟨some 13, none, .mv,
  [.t 0]⟩, ⟨some 14, none, .call 48 true, [.t 13]⟩, ⟨some 4, none, .mv, [.t 14]⟩, ⟨some 5, none, .mv, [.c (.int .i64 0)]⟩]).seq C.ret) C.skip)).seq ((C.ops [⟨some 15, none, .mv, [.t
  0]⟩, ⟨some 16, none, .call 48 true, [.t 15]⟩, ⟨some 17, none, .bin .add, [.t 16, .c (.str [45])]⟩, ⟨some 18, none, .mv, [.t 1]⟩, ⟨some 19, none, .call 48 true, [.t 18]⟩, ⟨some 20,
  none, .bin .add, [.t 17, .t 19]⟩, ⟨some 4, none, .mv, [.t 20]⟩, ⟨some 5, none, .mv, [.c (.int .i64 0)]⟩]).seq
  C.ret))))
theorem fn24l : FnIs Tryd.prog 24 21 0 [RV.tmp 4, RV.tmp 5] c24l := ⟨Tryd.f24, Tryd.f24.body.getD .skip, [], [93, 67, 70, 45, 59], [], by kernel_rfl, by kernel_rfl, by kernel_rfl, by kernel_rfl, by kernel_rfl, by kernel_rfl, by kernel_rfl⟩
def c25l : C :=
  ((C.ops [⟨some 2, none, .mv, [.c (.int .i64 0)]⟩, ⟨some 3, none, .mv, [.c (.int .i64 0)]⟩, ⟨some 4, none, .mv, [.c (.int .i64 0)]⟩]).seq ((C.ops [⟨some 15, none, .mv, [.t 0]⟩,
  ⟨some 16, none, .call 49 true, [.t 15, .c (.str [45])]⟩, ⟨some 14, none, .mv, [.t 16]⟩, ⟨some 17, none, .ext 0, [.t 14]⟩, ⟨some 18, none, .ext 1, [.t 14]⟩, ⟨some 19, none, .ext 2,
  [.t 14]⟩, ⟨some 5, none, .mv, [.t 17]⟩, ⟨some 6, none, .mv, [.t 18]⟩, ⟨some 7, none, .mv, [.t 19]⟩]).seq (((C.ops [⟨some 20, none, .mv, [.t 7]⟩, ⟨some 21, none, .un UnOp.not, [.t
  20]⟩]).seq (C.cond (.t 21) (C.ops [⟨some 22, none, .mv, [.t 5]⟩, ⟨some 6, none, .mv, [.t 22]⟩]) C.skip)).seq ((C.ops [⟨some 24, none, .mv, [.t 5]⟩, ⟨some 25, none, .call 50 true,
  [.t 24]⟩, ⟨some 23, none, .mv, [.t 25]⟩, ⟨some 26, none, .ext 0, [.t 23]⟩, ⟨some 27, none, .ext 1, [.t 23]⟩, ⟨some 8, none, .mv, [.t 26]⟩, ⟨some 9, none, .mv, [.t 27]⟩]).seq
  ((C.ops [⟨some 29, none, .mv, [.t 6]⟩, ⟨some 30, none, .call 50 true, [.t 29]⟩, ⟨some 28, none, .mv, [.t 30]⟩, ⟨some 31, none, .ext 0, [.t 28]⟩, ⟨some 32, none, .ext 1, [.t 28]⟩,
  ⟨some 10, none, .mv, [.t 31]⟩, ⟨some 11, none, .mv, [.t 32]⟩]).seq (((C.ops [⟨some 33, none, .mv, [.t 9]⟩, ⟨some 34, none, .isnil .iface true, [.t 33]⟩, ⟨some 35, none, .mv, [.t
  34]⟩, ⟨some 36, some (35, false), .mv, [.t 11]⟩, ⟨some 37, some (35, false), .isnil .iface true, [.t 36]⟩, ⟨some 38, none, .pick, [.t 35, .c (.bool true), .t 37]⟩]).seq (C.cond (.t
  38) ((C.ops [⟨some 2, none, .mv, [.c (.int .i64 0)]⟩, ⟨some 3, none, .mv, [.c (.int .i64 0)]⟩, ⟨some 4, none, .mv, [.c (.int .i64 3)]⟩]).seq C.ret) C.skip)).seq (((C.ops [⟨some 40,
  none, .mv, [.t 8]⟩, ⟨some 41, none, .mv, [.t 10]⟩, ⟨some 42, none, .call 24 true, [.t 40, .t 41]⟩, ⟨some 39, none, .mv, [.t 42]⟩, ⟨some 43, none, .ext 0, [.t 39]⟩, ⟨some 44, none,
  .ext 1, [.t 39]⟩, ⟨some 12, none, .mv, [.t 43]⟩, ⟨some 13, none, .mv, [.t 44]⟩]).seq ((C.ops [⟨some 45, none, .mv, [.t 13]⟩, ⟨some 46, none, .bin .neq, [.t 45, .c (.int .i64 0)]⟩,
  ⟨some 47, none, .mv, [.t 46]⟩, ⟨some 48, some (47, false), .mv, [.t 12]⟩, ⟨some 49, some (47, false), .mv, [.t 0]⟩, ⟨some 50, some (47, false), .bin .neq, [.t 48, .t 49]⟩, ⟨some
  51, none, .pick, [.t 47, .c (.bool true), .t 50]⟩]).seq (C.cond (.t 51) ((C.ops [⟨some 2, none, .mv, [.c (.int .i64 0)]⟩, ⟨some 3, none, .mv, [.c (.int .i64 0)]⟩, ⟨some 4, none,
  .mv, [.c (.int .i64 3)]⟩]).seq C.ret) C.skip))).seq ((C.ops [⟨some 52, none, .mv, [.t 8]⟩, ⟨some 53, none, .mv, [.t 10]⟩, ⟨some 2, none, .mv, [.t 52]⟩, ⟨some 3, none, .mv, [.t
  53]⟩, ⟨some 4, none, .mv, [.c (.int .i64 0)]⟩]).seq
  C.ret))))))))
theorem fn25l : FnIs Tryd.prog 25 54 0 [RV.tmp 2, RV.tmp 3, RV.tmp 4] c25l := ⟨Tryd.f25, Tryd.f25.body.getD .skip, [], [93, 67, 70, 45, 59], [], by kernel_rfl, by kernel_rfl, by kernel_rfl, by kernel_rfl, by kernel_rfl, by kernel_rfl, by kernel_rfl⟩
def c26l : C :=
  ((C.ops [⟨some 2, none, .mv, [.c (.bool false)]⟩]).seq ((C.ops [⟨some 3, none, .mv, [.t 0]⟩, ⟨some 4, none, .slen, [.t 3]⟩, ⟨some 5, none, .bin .gtr, [.t 4, .c (.int .i64 80)]⟩,
  ⟨some 2, none, .mv, [.t 5]⟩]).seq
  C.ret))
theorem fn26l : FnIs Tryd.prog 26 6 0 [RV.tmp 2] c26l := ⟨Tryd.f26, Tryd.f26.body.getD .skip, [], [93, 67, 70, 45, 59], [], by kernel_rfl, by kernel_rfl, by kernel_rfl, by kernel_rfl, by kernel_rfl, by kernel_rfl, by kernel_rfl⟩
def c27l : C :=
  ((C.ops [⟨some 4, none, .nilo 0 1 3, []⟩, ⟨some 5, none, .mv, [.c (.int .i64 0)]⟩]).seq (((C.ops [⟨some 8, none, .mv, [.t 0]⟩, ⟨some 9, none, .bin .lss, [.t 8, .c (.int .i64 0)]⟩,
  ⟨some 10, none, .mv, [.t 9]⟩, ⟨some 11, some (10, false), .mv, [.t 0]⟩, ⟨some 12, some (10, false), .bin .gtr, [.t 11, .c (.int .i64 4096)]⟩, ⟨some 13, none, .pick, [.t 10, .c
  (.bool true), .t 12]⟩, ⟨some 14, none, .mv, [.t 13]⟩, ⟨some 15, some (14, false), .mv, [.t 1]⟩, ⟨some 16, some (14, false), .bin .lss, [.t 15, .c (.int .i64 1)]⟩, ⟨some 17, none,
  .pick, [.t 14, .c (.bool true), .t 16]⟩, ⟨some 18, none, .mv, [.t 17]⟩, ⟨some 19, some (18, false), .mv, [.t 1]⟩, ⟨some 20, some (18, false), .bin .gtr, [.t 19, .c (.int .i64
  4096)]⟩, ⟨some 21, none, .pick, [.t 18, .c (.bool true), .t 20]⟩]).seq (C.cond (.t 21) ((C.ops [⟨some 22, none, .bslc 1 1 0 3 [.int .i64 0] [], []⟩, ⟨some 4, none, .mv, [.t 22]⟩,
  ⟨some 5, none, .mv, [.c (.int .i64 2)]⟩]).seq C.ret) C.skip)).seq ((C.ops [⟨some 23, none, .bslc 2 1 0 3 [.int .i64 0] [], []⟩, ⟨some 6, none, .mv, [.t 23]⟩]).seq (((C.ops [⟨some
  24, none, .mv, [.t 1]⟩, ⟨some 7, none, .mv, [.t 24]⟩]).seq (C.block 0 (((C.ops [⟨some 25, none, .mv, [.t 7]⟩, ⟨some 26, none, .mv, [.t 0]⟩, ⟨some 27, none, .bin .leq, [.t 25, .t
  26]⟩]).seq (C.cond (.t 27) C.skip (C.exit 0))).seq ((C.block 1 (C.ops [⟨some 31, none, .mv, [.t 6]⟩, ⟨some 32, none, .mv, [.t 7]⟩, ⟨some 33, none, .bslc 3 1 1 3 [.int .i64 0] [(0,
  1)], [.t 32]⟩, ⟨some 34, none, .app 4 1 3 8, [.t 31, .t 33]⟩, ⟨some 6, none, .mv, [.t 34]⟩])).seq (C.ops [⟨some 28, none, .mv, [.t 7]⟩, ⟨some 29, none, .mv, [.t 1]⟩, ⟨some 30,
  none, .bin .add, [.t 28, .t 29]⟩, ⟨some 7, none, .mv, [.t 30]⟩]))).loop)).seq ((C.ops [⟨some 35, none, .mv, [.t 6]⟩, ⟨some 4, none, .mv, [.t 35]⟩, ⟨some 5, none, .mv, [.c (.int
  .i64 0)]⟩]).seq
  C.ret)))))
theorem fn27l : FnIs Tryd.prog 27 36 5 [RV.tmp 4, RV.tmp 5] c27l := ⟨Tryd.f27, Tryd.f27.body.getD .skip, [4, 22, 23, 33, 34], [93, 67, 70, 45, 59], [], by kernel_rfl, by kernel_rfl, by kernel_rfl, by kernel_rfl, by kernel_rfl, by kernel_rfl, by kernel_rfl⟩
def c28l : C :=
  ((C.ops [⟨some 4, none, .mv, [.c (.str [])]⟩, ⟨some 5, none, .mv, [.c (.int .i64 0)]⟩]).seq (((C.ops [⟨some 6, none, .mv, [.t 0]⟩, ⟨some 7, none, .bin .lss, [.t 6, .c (.int .i64
  1)]⟩, ⟨some 8, none, .mv, [.t 7]⟩, ⟨some 9, some (8, false), .mv, [.t 0]⟩, ⟨some 10, some (8, false), .mv, [.t 1]⟩, ⟨some 11, some (8, false), .bin .gtr, [.t 9, .t 10]⟩, ⟨some 12,
  none, .pick, [.t 8, .c (.bool true), .t 11]⟩, ⟨some 13, none, .mv, [.t 12]⟩, ⟨some 14, some (13, false), .mv, [.t 1]⟩, ⟨some 15, some (13, false), .bin .gtr, [.t 14, .c (.int .i64
  4096)]⟩, ⟨some 16, none, .pick, [.t 13, .c (.bool true), .t 15]⟩]).seq (C.cond (.t 16) ((C.ops [⟨some 4, none, .mv, [.c (.str [])]⟩, ⟨some 5, none, .mv, [.c (.int .i64 2)]⟩]).seq
  C.ret) C.skip)).seq (((C.ops [⟨some 17, none, .mv, [.t 0]⟩, ⟨some 18, none, .mv, [.t 1]⟩, ⟨some 19, none, .bin .eql, [.t 17, .t 18]⟩]).seq (C.cond (.t 19) ((C.ops [⟨some 20, none,
  .mv, [.t 0]⟩, ⟨some 21, none, .call 51 true, [.t 20]⟩, ⟨some 4, none, .mv, [.t 21]⟩, ⟨some 5, none, .mv, [.c (.int .i64 0)]⟩]).seq C.ret) C.skip)).seq ((C.ops [⟨some 22, none, .mv,
  [.t 0]⟩, ⟨some 23, none, .call 51 true, [.t 22]⟩, ⟨some 24, none, .bin .add, [.t 23, .c (.str [45])]⟩, ⟨some 25, none, .mv, [.t 1]⟩, ⟨some 26, none, .call 51 true, [.t 25]⟩, ⟨some
  27, none, .bin .add, [.t 24, .t 26]⟩, ⟨some 4, none, .mv, [.t 27]⟩, ⟨some 5, none, .mv, [.c (.int .i64 0)]⟩]).seq
  C.ret))))
theorem fn28l : FnIs Tryd.prog 28 28 0 [RV.tmp 4, RV.tmp 5] c28l := ⟨Tryd.f28, Tryd.f28.body.getD .skip, [], [93, 67, 70, 45, 59], [], by kernel_rfl, by kernel_rfl, by kernel_rfl, by kernel_rfl, by kernel_rfl, by kernel_rfl, by kernel_rfl⟩
def c29l : C :=
  ((C.ops [⟨some 2, none, .mv, [.c (.int .i64 0)]⟩, ⟨some 3, none, .mv, [.c (.int .i64 0)]⟩, ⟨some 4, none, .mv, [.c (.int .i64 0)]⟩]).seq ((C.ops [⟨some 11, none, .mv, [.t 0]⟩,
  ⟨some 12, none, .call 52 true, [.t 11]⟩, ⟨some 10, none, .mv, [.t 12]⟩, ⟨some 13, none, .ext 0, [.t 10]⟩, ⟨some 14, none, .ext 1, [.t 10]⟩, ⟨some 5, none, .mv, [.t 13]⟩, ⟨some 6,
  none, .mv, [.t 14]⟩]).seq ((C.ops [⟨some 15, none, .mv, [.t 5]⟩, ⟨some 7, none, .mv, [.t 15]⟩]).seq (((C.ops [⟨some 16, none, .mv, [.t 6]⟩, ⟨some 17, none, .mv, [.t 0]⟩, ⟨some 18,
  none, .slen, [.t 17]⟩, ⟨some 19, none, .bin .lss, [.t 16, .t 18]⟩, ⟨some 20, none, .mv, [.t 19]⟩, ⟨some 21, some (20, true), .mv, [.t 0]⟩, ⟨some 22, some (20, true), .mv, [.t 6]⟩,
  ⟨some 23, some (20, true), .sidx, [.t 21, .t 22]⟩, ⟨some 24, some (20, true), .bin .eql, [.t 23, .c (.int .u8 45)]⟩, ⟨some 25, none, .pick, [.t 20, .t 24, .c (.bool false)]⟩]).seq
  (C.cond (.t 25) (C.ops [⟨some 27, none, .mv, [.t 0]⟩, ⟨some 28, none, .mv, [.t 6]⟩, ⟨some 29, none, .bin .add, [.t 28, .c (.int .i64 1)]⟩, ⟨some 30, none, .sslc true false, [.t 27,
  .t 29]⟩, ⟨some 31, none, .call 52 true, [.t 30]⟩, ⟨some 26, none, .mv, [.t 31]⟩, ⟨some 32, none, .ext 0, [.t 26]⟩, ⟨some 33, none, .ext 1, [.t 26]⟩, ⟨some 7, none, .mv, [.t 32]⟩])
  C.skip)).seq ((C.ops [⟨some 35, none, .mv, [.t 5]⟩, ⟨some 36, none, .mv, [.t 7]⟩, ⟨some 37, none, .call 28 true, [.t 35, .t 36]⟩, ⟨some 34, none, .mv, [.t 37]⟩, ⟨some 38, none,
  .ext 0, [.t 34]⟩, ⟨some 39, none, .ext 1, [.t 34]⟩, ⟨some 8, none, .mv, [.t 38]⟩, ⟨some 9, none, .mv, [.t 39]⟩]).seq (((C.ops [⟨some 40, none, .mv, [.t 9]⟩, ⟨some 41, none, .bin
  .neq, [.t 40, .c (.int .i64 0)]⟩, ⟨some 42, none, .mv, [.t 41]⟩, ⟨some 43, some (42, false), .mv, [.t 8]⟩, ⟨some 44, some (42, false), .mv, [.t 0]⟩, ⟨some 45, some (42, false),
  .bin .neq, [.t 43, .t 44]⟩, ⟨some 46, none, .pick, [.t 42, .c (.bool true), .t 45]⟩]).seq (C.cond (.t 46) ((C.ops [⟨some 2, none, .mv, [.c (.int .i64 0)]⟩, ⟨some 3, none, .mv, [.c
  (.int .i64 0)]⟩, ⟨some 4, none, .mv, [.c (.int .i64 3)]⟩]).seq C.ret) C.skip)).seq ((C.ops [⟨some 47, none, .mv, [.t 5]⟩, ⟨some 48, none, .mv, [.t 7]⟩, ⟨some 2, none, .mv, [.t
  47]⟩, ⟨some 3, none, .mv, [.t 48]⟩, ⟨some 4, none, .mv, [.c (.int .i64 0)]⟩]).seq
  C.ret)))))))
theorem fn29l : FnIs Tryd.prog 29 49 0 [RV.tmp 2, RV.tmp 3, RV.tmp 4] c29l := ⟨Tryd.f29, Tryd.f29.body.getD .skip, [], [93, 67, 70, 45, 59], [], by kernel_rfl, by kernel_rfl, by kernel_rfl, by kernel_rfl, by kernel_rfl, by kernel_rfl, by kernel_rfl⟩
def c30l : C :=
  ((C.ops [⟨some 6, none, .nilo 0 1 9, []⟩, ⟨some 7, none, .mv, [.c (.int .i64 0)]⟩]).seq (((C.ops [⟨some 16, none, .mv, [.t 1]⟩, ⟨some 17, none, .len, [.t 16]⟩, ⟨some 18, none, .mv,
  [.t 2]⟩, ⟨some 19, none, .len, [.t 18]⟩, ⟨some 20, none, .bin .neq, [.t 17, .t 19]⟩]).seq (C.cond (.t 20) ((C.ops [⟨some 21, none, .bslc 1 1 0 9 [.str []] [], []⟩, ⟨some 6, none,
  .mv, [.t 21]⟩, ⟨some 7, none, .mv, [.c (.int .i64 9)]⟩]).seq C.ret) C.skip)).seq (((C.ops [⟨some 22, none, .mv, [.t 1]⟩, ⟨some 23, none, .len, [.t 22]⟩, ⟨some 24, none, .bin .gtr,
  [.t 23, .c (.int .i64 4096)]⟩, ⟨some 25, none, .mv, [.t 24]⟩, ⟨some 26, some (25, false), .mv, [.t 0]⟩, ⟨some 27, some (25, false), .len, [.t 26]⟩, ⟨some 28, some (25, false), .bin
  .gtr, [.t 27, .c (.int .i64 4096)]⟩, ⟨some 29, none, .pick, [.t 25, .c (.bool true), .t 28]⟩]).seq (C.cond (.t 29) ((C.ops [⟨some 30, none, .bslc 2 1 0 9 [.str []] [], []⟩, ⟨some
  6, none, .mv, [.t 30]⟩, ⟨some 7, none, .mv, [.c (.int .i64 4)]⟩]).seq C.ret) C.skip)).seq (((C.ops [⟨some 8, none, .mv, [.c (.int .i64 0)]⟩]).seq (C.block 0 (((C.ops [⟨some 31,
  none, .mv, [.t 8]⟩, ⟨some 32, none, .mv, [.t 1]⟩, ⟨some 33, none, .len, [.t 32]⟩, ⟨some 34, none, .bin .lss, [.t 31, .t 33]⟩]).seq (C.cond (.t 34) C.skip (C.exit 0))).seq ((C.block
  1 (((C.ops [⟨some 37, none, .mv, [.t 1]⟩, ⟨some 38, none, .mv, [.t 8]⟩, ⟨some 39, none, .idxA 1, [.t 37, .t 38]⟩, ⟨some 40, none, .load none, [.t 39]⟩, ⟨some 41, none, .call 53
  true, [.t 40]⟩, ⟨some 42, none, .un UnOp.not, [.t 41]⟩]).seq (C.cond (.t 42) ((C.ops [⟨some 43, none, .bslc 3 1 0 9 [.str []] [], []⟩, ⟨some 6, none, .mv, [.t 43]⟩, ⟨some 7, none,
  .mv, [.c (.int .i64 14)]⟩]).seq C.ret) C.skip)).seq (((C.ops [⟨some 44, none, .mv, [.t 1]⟩, ⟨some 45, none, .mv, [.t 1]⟩, ⟨some 46, none, .mv, [.t 8]⟩, ⟨some 47, none, .idxA 1, [.t
  45, .t 46]⟩, ⟨some 48, none, .load none, [.t 47]⟩, ⟨some 49, none, .call 54 true, [.t 44, .t 48]⟩, ⟨some 50, none, .mv, [.t 8]⟩, ⟨some 51, none, .bin .lss, [.t 49, .t 50]⟩]).seq
  (C.cond (.t 51) ((C.ops [⟨some 52, none, .bslc 4 1 0 9 [.str []] [], []⟩, ⟨some 6, none, .mv, [.t 52]⟩, ⟨some 7, none, .mv, [.c (.int .i64 7)]⟩]).seq C.ret) C.skip)).seq ((C.ops
  [⟨some 53, none, .mv, [.t 2]⟩, ⟨some 54, none, .mv, [.t 8]⟩, ⟨some 55, none, .idxA 1, [.t 53, .t 54]⟩, ⟨some 56, none, .load none, [.t 55]⟩, ⟨some 57, none, .bin .lss, [.t 56, .c
  (.int .i64 1)]⟩, ⟨some 58, none, .mv, [.t 57]⟩, ⟨some 59, some (58, false), .mv, [.t 2]⟩, ⟨some 60, some (58, false), .mv, [.t 8]⟩, ⟨some 61, some (58, false), .idxA 1, [.t 59, .t
  60]⟩, ⟨some 62, some (58, false), .load none, [.t 61]⟩, ⟨some 63, some (58, false), .bin .gtr, [.t 62, .c (.int .i64 4096)]⟩, ⟨some 64, none, .pick, [.t 58, .c (.bool true), .t
  63]⟩]).seq (C.cond (.t 64) ((C.ops [⟨some 65, none, .bslc 5 1 0 9 [.str []] [], []⟩, ⟨some 6, none, .mv, [.t 65]⟩, ⟨some 7, none, .mv, [.c (.int .i64 2)]⟩]).seq C.ret)
  C.skip))))).seq (C.ops [⟨some 35, none, .mv, [.t 8]⟩, ⟨some 36, none, .bin .add, [.t 35, .c (.int .i64 1)]⟩, ⟨some 8, none, .mv, [.t 36]⟩]))).loop)).seq ((C.ops [⟨some 66, none,
  .bslc 6 1 0 9 [.str []] [], []⟩, ⟨some 9, none, .mv, [.t 66]⟩]).seq (((C.ops [⟨some 10, none, .mv, [.c (.int .i64 0)]⟩]).seq (C.block 2 (((C.ops [⟨some 67, none, .mv, [.t 10]⟩,
  ⟨some 68, none, .mv, [.t 0]⟩, ⟨some 69, none, .len, [.t 68]⟩, ⟨some 70, none, .bin .lss, [.t 67, .t 69]⟩]).seq (C.cond (.t 70) C.skip (C.exit 2))).seq ((C.block 3 ((C.ops [⟨some
  73, none, .mv, [.t 0]⟩, ⟨some 74, none, .mv, [.t 10]⟩, ⟨some 75, none, .idxA 1, [.t 73, .t 74]⟩, ⟨some 76, none, .load none, [.t 75]⟩, ⟨some 11, none, .mv, [.t 76]⟩]).seq (((C.ops
  [⟨some 77, none, .mv, [.t 11]⟩, ⟨some 78, none, .slen, [.t 77]⟩, ⟨some 79, none, .bin .gtr, [.t 78, .c (.int .i64 65536)]⟩]).seq (C.cond (.t 79) ((C.ops [⟨some 80, none, .bslc 7 1
  0 9 [.str []] [], []⟩, ⟨some 6, none, .mv, [.t 80]⟩, ⟨some 7, none, .mv, [.c (.int .i64 4)]⟩]).seq C.ret) C.skip)).seq ((C.ops [⟨some 81, none, .bslc 8 1 0 5 [.int .u8 0] [], []⟩,
  ⟨some 12, none, .mv, [.t 81]⟩]).seq (((C.ops [⟨some 13, none, .mv, [.c (.int .i64 0)]⟩]).seq (C.block 4 (((C.ops [⟨some 82, none, .mv, [.t 13]⟩, ⟨some 83, none, .mv, [.t 11]⟩,
  ⟨some 84, none, .slen, [.t 83]⟩, ⟨some 85, none, .bin .lss, [.t 82, .t 84]⟩]).seq (C.cond (.t 85) C.skip (C.exit 4))).seq ((C.block 5 (((C.ops [⟨some 88, none, .mv, [.t 11]⟩, ⟨some
  89, none, .mv, [.t 13]⟩, ⟨some 90, none, .sidx, [.t 88, .t 89]⟩, ⟨some 91, none, .bin .neq, [.t 90, .c (.int .u8 64)]⟩]).seq (C.cond (.t 91) ((C.ops [⟨some 92, none, .mv, [.t 12]⟩,
  ⟨some 93, none, .mv, [.t 11]⟩, ⟨some 94, none, .mv, [.t 13]⟩, ⟨some 95, none, .sidx, [.t 93, .t 94]⟩, ⟨some 96, none, .bslc 9 1 1 5 [.int .u8 0] [(0, 1)], [.t 95]⟩, ⟨some 97, none,
  .app 10 1 5 1, [.t 92, .t 96]⟩, ⟨some 12, none, .mv, [.t 97]⟩]).seq (C.exit 5)) C.skip)).seq ((C.ops [⟨some 98, none, .mv, [.t 13]⟩, ⟨some 99, none, .bin .add, [.t 98, .c (.int
  .i64 1)]⟩, ⟨some 14, none, .mv, [.t 99]⟩]).seq ((C.block 6 (((C.ops [⟨some 100, none, .mv, [.t 14]⟩, ⟨some 101, none, .mv, [.t 11]⟩, ⟨some 102, none, .slen, [.t 101]⟩, ⟨some 103,
  none, .bin .lss, [.t 100, .t 102]⟩, ⟨some 104, none, .mv, [.t 103]⟩, ⟨some 105, some (104, true), .mv, [.t 11]⟩, ⟨some 106, some (104, true), .mv, [.t 14]⟩, ⟨some 107, some (104,
  true), .sidx, [.t 105, .t 106]⟩, ⟨some 108, some (104, true), .call 55 true, [.t 107]⟩, ⟨some 109, some (104, true), .bin .eql, [.t 108, .c (.int .i64 1)]⟩, ⟨some 110, some (104,
  true), .mv, [.t 109]⟩, ⟨some 111, some (110, false), .mv, [.t 11]⟩, ⟨some 112, some (110, false), .mv, [.t 14]⟩, ⟨some 113, some (110, false), .sidx, [.t 111, .t 112]⟩, ⟨some 114,
  some (110, false), .call 55 true, [.t 113]⟩, ⟨some 115, some (110, false), .bin .eql, [.t 114, .c (.int .i64 3)]⟩, ⟨some 116, some (104, true), .pick, [.t 110, .c (.bool true), .t
  115]⟩, ⟨some 117, none, .pick, [.t 104, .t 116, .c (.bool false)]⟩]).seq (C.cond (.t 117) C.skip (C.exit 6))).seq (C.block 7 (C.ops [⟨some 118, none, .mv, [.t 14]⟩, ⟨some 119,
  none, .bin .add, [.t 118, .c (.int .i64 1)]⟩, ⟨some 14, none, .mv, [.t 119]⟩]))).loop).seq ((C.ops [⟨some 120, none, .mv, [.t 1]⟩, ⟨some 121, none, .mv, [.t 11]⟩, ⟨some 122, none,
  .mv, [.t 13]⟩, ⟨some 123, none, .bin .add, [.t 122, .c (.int .i64 1)]⟩, ⟨some 124, none, .mv, [.t 14]⟩, ⟨some 125, none, .sslc true true, [.t 121, .t 123, .t 124]⟩, ⟨some 126,
  none, .call 54 true, [.t 120, .t 125]⟩, ⟨some 15, none, .mv, [.t 126]⟩]).seq (((C.ops [⟨some 127, none, .mv, [.t 15]⟩, ⟨some 128, none, .bin .lss, [.t 127, .c (.int .i64 0)]⟩]).seq
  (C.cond (.t 128) ((C.ops [⟨some 129, none, .bslc 11 1 0 9 [.str []] [], []⟩, ⟨some 6, none, .mv, [.t 129]⟩, ⟨some 7, none, .mv, [.c (.int .i64 26)]⟩]).seq C.ret) C.skip)).seq
  ((C.ops [⟨some 130, none, .mv, [.t 12]⟩, ⟨some 131, none, .mv, [.t 2]⟩, ⟨some 132, none, .mv, [.t 15]⟩, ⟨some 133, none, .idxA 1, [.t 131, .t 132]⟩, ⟨some 134, none, .load none,
  [.t 133]⟩, ⟨some 135, none, .call 51 true, [.t 134]⟩, ⟨some 136, none, .apps 12 5, [.t 130, .t 135]⟩, ⟨some 12, none, .mv, [.t 136]⟩]).seq (C.ops [⟨some 137, none, .mv, [.t 14]⟩,
  ⟨some 138, none, .bin .sub, [.t 137, .c (.int .i64 1)]⟩, ⟨some 13, none, .mv, [.t 138]⟩])))))))).seq (C.ops [⟨some 86, none, .mv, [.t 13]⟩, ⟨some 87, none, .bin .add, [.t 86, .c
  (.int .i64 1)]⟩, ⟨some 13, none, .mv, [.t 87]⟩]))).loop)).seq (((C.ops [⟨some 139, none, .mv, [.t 12]⟩, ⟨some 140, none, .len, [.t 139]⟩, ⟨some 141, none, .bin .gtr, [.t 140, .c
  (.int .i64 65536)]⟩]).seq (C.cond (.t 141) ((C.ops [⟨some 142, none, .bslc 13 1 0 9 [.str []] [], []⟩, ⟨some 6, none, .mv, [.t 142]⟩, ⟨some 7, none, .mv, [.c (.int .i64 4)]⟩]).seq
  C.ret) C.skip)).seq (C.ops [⟨some 143, none, .mv, [.t 9]⟩, ⟨some 144, none, .mv, [.t 12]⟩, ⟨some 145, none, .b2s, [.t 144]⟩, ⟨some 146, none, .bslc 14 1 1 9 [.str []] [(0, 1)], [.t
  145]⟩, ⟨some 147, none, .app 15 1 9 16, [.t 143, .t 146]⟩, ⟨some 9, none, .mv, [.t 147]⟩]))))))).seq (C.ops [⟨some 71, none, .mv, [.t 10]⟩, ⟨some 72, none, .bin .add, [.t 71, .c
  (.int .i64 1)]⟩, ⟨some 10, none, .mv, [.t 72]⟩]))).loop)).seq ((C.ops [⟨some 148, none, .mv, [.t 9]⟩, ⟨some 6, none, .mv, [.t 148]⟩, ⟨some 7, none, .mv, [.c (.int .i64 0)]⟩]).seq
  C.ret)))))))
theorem fn30l : FnIs Tryd.prog 30 149 16 [RV.tmp 6, RV.tmp 7] c30l := ⟨Tryd.f30, Tryd.f30.body.getD .skip, [6, 21, 30, 43, 52, 65, 66, 80, 81, 96, 97, 129, 136, 142, 146, 147], [93, 67, 70, 45, 59], [], by kernel_rfl, by kernel_rfl, by kernel_rfl, by kernel_rfl, by kernel_rfl, by kernel_rfl, by kernel_rfl⟩
def c31l : C :=
  ((C.ops [⟨some 4, none, .mv, [.c (.bool false)]⟩]).seq (((C.ops [⟨some 6, none, .mv, [.t 0]⟩, ⟨some 7, none, .len, [.t 6]⟩, ⟨some 8, none, .mv, [.t 1]⟩, ⟨some 9, none, .len, [.t
  8]⟩, ⟨some 10, none, .bin .neq, [.t 7, .t 9]⟩]).seq (C.cond (.t 10) ((C.ops [⟨some 4, none, .mv, [.c (.bool false)]⟩]).seq C.ret) C.skip)).seq (((C.ops [⟨some 11, none, .mv, [.t
  0]⟩, ⟨some 12, none, .len, [.t 11]⟩, ⟨some 13, none, .mv, [.c (.int .i64 0)]⟩]).seq (C.block 0 ((C.ops [⟨some 14, none, .bin .lss, [.t 13, .t 12]⟩]).seq ((C.cond (.t 14) C.skip
  (C.exit 0)).seq ((C.block 1 ((C.ops [⟨some 15, none, .mv, [.t 13]⟩, ⟨some 5, none, .mv, [.t 15]⟩]).seq ((C.ops [⟨some 16, none, .mv, [.t 0]⟩, ⟨some 17, none, .mv, [.t 5]⟩, ⟨some
  18, none, .idxA 1, [.t 16, .t 17]⟩, ⟨some 19, none, .load none, [.t 18]⟩, ⟨some 20, none, .mv, [.t 1]⟩, ⟨some 21, none, .mv, [.t 5]⟩, ⟨some 22, none, .idxA 1, [.t 20, .t 21]⟩,
  ⟨some 23, none, .load none, [.t 22]⟩, ⟨some 24, none, .bin .neq, [.t 19, .t 23]⟩]).seq (C.cond (.t 24) ((C.ops [⟨some 4, none, .mv, [.c (.bool false)]⟩]).seq C.ret) C.skip)))).seq
  (C.ops [⟨some 25, none, .bin .add, [.t 13, .c (.int .i64 1)]⟩, ⟨some 13, none, .mv, [.t 25]⟩])))).loop)).seq ((C.ops [⟨some 4, none, .mv, [.c (.bool true)]⟩]).seq
  C.ret))))
theorem fn31l : FnIs Tryd.prog 31 26 0 [RV.tmp 4] c31l := ⟨Tryd.f31, Tryd.f31.body.getD .skip, [], [93, 67, 70, 45, 59], [], by kernel_rfl, by kernel_rfl, by kernel_rfl, by kernel_rfl, by kernel_rfl, by kernel_rfl, by kernel_rfl⟩
def c37l : C :=
  ((C.ops [⟨some 2, none, .alloc 0 57 [.int .i64 0, .int .i64 0, .int .i64 0, .int .i64 0, .int .i64 0, .str []], []⟩]).seq ((C.ops [⟨some 3, none, .mv, [.t 0]⟩, ⟨some 4, none,
  .build [.int .i64 0, .int .i64 0, .int .i64 0, .int .i64 0, .int .i64 0, .str []] [(0, 1), (1, 1), (5, 1)], [.c (.int .i64 1), .c (.int .i64 10), .t 3]⟩, ⟨none, none, .store 6, [.t
  2, .t 4]⟩]).seq
  C.ret))
theorem fn37l : FnIs Tryd.prog 37 5 1 [RV.cell 2 (some 6)] c37l := ⟨Tryd.f37, Tryd.f37.body.getD .skip, [2], [93, 67, 70, 45, 59], [], by kernel_rfl, by kernel_rfl, by kernel_rfl, by kernel_rfl, by kernel_rfl, by kernel_rfl, by kernel_rfl⟩
def c38l : C :=
  ((C.ops [⟨some 5, none, .box 0 62, [.t 2]⟩, ⟨some 6, none, .nilo 1 1 3, []⟩, ⟨some 7, none, .mv, [.c (.int .i64 0)]⟩]).seq (((C.ops [⟨some 13, none, .mv, [.t 0]⟩, ⟨some 14, none,
  .call 61 true, [.t 13]⟩, ⟨some 15, none, .bin .neq, [.t 14, .c (.int .i64 0)]⟩]).seq (C.cond (.t 15) ((C.ops [⟨some 6, none, .nilo 1 1 3, []⟩, ⟨some 7, none, .mv, [.c (.int .i64
  1)]⟩]).seq C.ret) C.skip)).seq (((C.ops [⟨some 16, none, .mv, [.t 1]⟩, ⟨some 17, none, .len, [.t 16]⟩, ⟨some 18, none, .bin .gtr, [.t 17, .c (.int .i64 4096)]⟩]).seq (C.cond (.t
  18) ((C.ops [⟨some 6, none, .nilo 1 1 3, []⟩, ⟨some 7, none, .mv, [.c (.int .i64 4)]⟩]).seq C.ret) C.skip)).seq ((C.ops [⟨some 20, none, .mv, [.t 0]⟩, ⟨some 21, none, .mv, [.t 1]⟩,
  ⟨some 22, none, .call 62 true, [.t 20, .t 21]⟩, ⟨some 19, none, .mv, [.t 22]⟩, ⟨some 23, none, .ext 0, [.t 19]⟩, ⟨some 24, none, .ext 1, [.t 19]⟩, ⟨some 8, none, .alloc 2 23 [.nl],
  []⟩, ⟨none, none, .store 1, [.t 8, .t 23]⟩, ⟨some 9, none, .mv, [.t 24]⟩]).seq (((C.ops [⟨some 25, none, .mv, [.t 9]⟩, ⟨some 26, none, .un UnOp.not, [.t 25]⟩]).seq (C.cond (.t 26)
  ((C.ops [⟨some 6, none, .nilo 1 1 3, []⟩, ⟨some 7, none, .mv, [.c (.int .i64 9)]⟩]).seq C.ret) C.skip)).seq ((C.ops [⟨some 10, none, .alloc 3 23 [.nl], []⟩]).seq (((C.ops [⟨some
  27, none, .mv, [.t 0]⟩, ⟨some 28, none, .call 63 true, [.t 27]⟩]).seq (C.block 0 (C.range (.t 28) [29, 30] ((C.ops [⟨some 11, none, .mv, [.t 29]⟩]).seq (C.ops [⟨some 12, none, .mv,
  [.t 30]⟩])) (C.block 1 (C.draw (DT.one ⟨some 32, none, .load none, [.t 5]⟩ (DT.one ⟨some 33, none, .load none, [.t 8]⟩ (DT.one ⟨some 34, none, .mv, [.t 11]⟩ (DT.one ⟨some 35, none,
  .idxA 1, [.t 33, .t 34]⟩ (DT.one ⟨some 36, none, .load none, [.t 35]⟩ (DT.one ⟨some 37, none, .load none, [.t 8]⟩ (DT.one ⟨some 38, none, .mv, [.t 12]⟩ (DT.one ⟨some 39, none,
  .idxA 1, [.t 37, .t 38]⟩ (DT.one ⟨some 40, none, .load none, [.t 39]⟩ (DT.uni ⟨some 41, none, .callv, [.t 32, .t 36, .t 40]⟩ ((DT.one ⟨some 31, none, .load none, [.t 10]⟩ (DT.one
  ⟨some 42, none, .bslc 4 1 1 3 [.int .i64 0] [(0, 1)], [.t 41]⟩ (DT.one ⟨some 43, none, .app 5 1 3 8, [.t 31, .t 42]⟩ (DT.one ⟨none, none, .store 1, [.t 10, .t 43]⟩ DT.nil)))).two
  (DT.one ⟨some 42, none, .bslc 4 1 1 3 [.int .i64 0] [(0, 1)], [.t 41]⟩ (DT.one ⟨some 31, none, .load none, [.t 10]⟩ (DT.one ⟨some 43, none, .app 5 1 3 8, [.t 31, .t 42]⟩ (DT.one
  ⟨none, none, .store 1, [.t 10, .t 43]⟩ DT.nil)))))))))))))))))))).seq ((C.ops [⟨some 44, none, .load none, [.t 10]⟩, ⟨some 6, none, .mv, [.t 44]⟩, ⟨some 7, none, .mv, [.c (.int
  .i64 0)]⟩]).seq
  C.ret))))))))
theorem fn38l : FnIs Tryd.prog 38 45 6 [RV.tmp 6, RV.tmp 7] c38l := ⟨Tryd.f38, Tryd.f38.body.getD .skip, [5, 6, 8, 10, 42, 43], [93, 67, 70, 45, 59], [], by kernel_rfl, by kernel_rfl, by kernel_rfl, by kernel_rfl, by kernel_rfl, by kernel_rfl, by kernel_rfl⟩
def c39l : C :=
  ((C.ops [⟨some 4, none, .mv, [.c (.int .i64 0)]⟩]).seq ((C.ops [⟨some 5, none, .mv, [.t 0]⟩, ⟨some 4, none, .mv, [.t 5]⟩]).seq
  C.ret))
theorem fn39l : FnIs Tryd.prog 39 6 0 [RV.tmp 4] c39l := ⟨Tryd.f39, Tryd.f39.body.getD .skip, [], [93, 67, 70, 45, 59], [], by kernel_rfl, by kernel_rfl, by kernel_rfl, by kernel_rfl, by kernel_rfl, by kernel_rfl, by kernel_rfl⟩
def c40l : C :=
  ((C.ops [⟨some 4, none, .nilo 0 1 3, []⟩, ⟨some 5, none, .nilo 1 1 3, []⟩, ⟨some 6, none, .mv, [.c (.int .i64 0)]⟩]).seq (((C.ops [⟨some 12, none, .mv, [.t 0]⟩, ⟨some 13, none,
  .call 64 true, [.t 12]⟩, ⟨some 14, none, .bin .neq, [.t 13, .c (.int .i64 0)]⟩]).seq (C.cond (.t 14) ((C.ops [⟨some 15, none, .bslc 2 1 0 3 [.int .i64 0] [], []⟩, ⟨some 16, none,
  .bslc 3 1 0 3 [.int .i64 0] [], []⟩, ⟨some 4, none, .mv, [.t 15]⟩, ⟨some 5, none, .mv, [.t 16]⟩, ⟨some 6, none, .mv, [.c (.int .i64 1)]⟩]).seq C.ret) C.skip)).seq (((C.ops [⟨some
  17, none, .mv, [.t 1]⟩, ⟨some 18, none, .len, [.t 17]⟩, ⟨some 19, none, .bin .gtr, [.t 18, .c (.int .i64 4096)]⟩]).seq (C.cond (.t 19) ((C.ops [⟨some 20, none, .bslc 4 1 0 3 [.int
  .i64 0] [], []⟩, ⟨some 21, none, .bslc 5 1 0 3 [.int .i64 0] [], []⟩, ⟨some 4, none, .mv, [.t 20]⟩, ⟨some 5, none, .mv, [.t 21]⟩, ⟨some 6, none, .mv, [.c (.int .i64 4)]⟩]).seq
  C.ret) C.skip)).seq ((C.ops [⟨some 22, none, .bslc 6 1 0 3 [.int .i64 0] [], []⟩, ⟨some 23, none, .bslc 7 1 0 3 [.int .i64 0] [], []⟩, ⟨some 7, none, .mv, [.t 22]⟩, ⟨some 8, none,
  .mv, [.t 23]⟩]).seq ((C.ops [⟨some 9, none, .mv, [.c (.int .i64 1)]⟩]).seq (((C.ops [⟨some 10, none, .mv, [.c (.int .i64 0)]⟩]).seq (C.block 0 (((C.ops [⟨some 24, none, .mv, [.t
  10]⟩, ⟨some 25, none, .mv, [.t 0]⟩, ⟨some 26, none, .len, [.t 25]⟩, ⟨some 27, none, .bin .lss, [.t 24, .t 26]⟩]).seq (C.cond (.t 27) C.skip (C.exit 0))).seq ((C.block 1 (((C.ops
  [⟨some 30, none, .mv, [.t 0]⟩, ⟨some 31, none, .mv, [.t 10]⟩, ⟨some 32, none, .idxA 6, [.t 30, .t 31]⟩, ⟨some 33, none, .fldA 0, [.t 32]⟩, ⟨some 34, none, .load none, [.t 33]⟩,
  ⟨some 35, none, .bin .neq, [.t 34, .c (.int .i64 1)]⟩]).seq (C.cond (.t 35) (C.exit 1) C.skip)).seq ((C.ops [⟨some 36, none, .mv, [.t 1]⟩, ⟨some 37, none, .mv, [.t 10]⟩, ⟨some 38,
  none, .call 65 true, [.t 36, .t 37]⟩, ⟨some 11, none, .mv, [.t 38]⟩]).seq (((C.ops [⟨some 39, none, .mv, [.t 11]⟩, ⟨some 40, none, .mv, [.t 9]⟩, ⟨some 41, none, .bin .lss, [.t 39,
  .t 40]⟩]).seq (C.cond (.t 41) ((C.ops [⟨some 42, none, .bslc 8 1 0 3 [.int .i64 0] [], []⟩, ⟨some 43, none, .bslc 9 1 0 3 [.int .i64 0] [], []⟩, ⟨some 4, none, .mv, [.t 42]⟩, ⟨some
  5, none, .mv, [.t 43]⟩, ⟨some 6, none, .mv, [.c (.int .i64 9)]⟩]).seq C.ret) C.skip)).seq ((C.ops [⟨some 44, none, .mv, [.t 11]⟩, ⟨some 9, none, .mv, [.t 44]⟩]).seq ((C.ops [⟨some
  45, none, .mv, [.t 10]⟩, ⟨some 46, none, .bin .gtr, [.t 45, .c (.int .i64 1)]⟩, ⟨some 47, none, .mv, [.t 46]⟩, ⟨some 48, some (47, true), .mv, [.t 0]⟩, ⟨some 49, some (47, true),
  .mv, [.t 10]⟩, ⟨some 50, some (47, true), .bin .sub, [.t 49, .c (.int .i64 1)]⟩, ⟨some 51, some (47, true), .idxA 6, [.t 48, .t 50]⟩, ⟨some 52, some (47, true), .fldA 0, [.t 51]⟩,
  ⟨some 53, some (47, true), .load none, [.t 52]⟩, ⟨some 54, some (47, true), .bin .eql, [.t 53, .c (.int .i64 3)]⟩, ⟨some 55, none, .pick, [.t 47, .t 54, .c (.bool false)]⟩, ⟨some
  56, none, .mv, [.t 55]⟩, ⟨some 57, some (56, true), .mv, [.t 0]⟩, ⟨some 58, some (56, true), .mv, [.t 10]⟩, ⟨some 59, some (56, true), .bin .sub, [.t 58, .c (.int .i64 1)]⟩, ⟨some
  60, some (56, true), .idxA 6, [.t 57, .t 59]⟩, ⟨some 61, some (56, true), .fldA 4, [.t 60]⟩, ⟨some 62, some (56, true), .load none, [.t 61]⟩, ⟨some 63, some (56, true), .bin .neq,
  [.t 62, .c (.int .i64 (-10000))]⟩, ⟨some 64, none, .pick, [.t 56, .t 63, .c (.bool false)]⟩, ⟨some 65, none, .mv, [.t 64]⟩, ⟨some 66, some (65, true), .mv, [.t 0]⟩, ⟨some 67, some
  (65, true), .mv, [.t 10]⟩, ⟨some 68, some (65, true), .bin .sub, [.t 67, .c (.int .i64 2)]⟩, ⟨some 69, some (65, true), .idxA 6, [.t 66, .t 68]⟩, ⟨some 70, some (65, true), .fldA
  0, [.t 69]⟩, ⟨some 71, some (65, true), .load none, [.t 70]⟩, ⟨some 72, some (65, true), .bin .eql, [.t 71, .c (.int .i64 1)]⟩, ⟨some 73, none, .pick, [.t 65, .t 72, .c (.bool
  false)]⟩]).seq (C.cond (.t 73) (C.ops [⟨some 74, none, .mv, [.t 8]⟩, ⟨some 75, none, .mv, [.t 8]⟩, ⟨some 76, none, .len, [.t 75]⟩, ⟨some 77, none, .bin .sub, [.t 76, .c (.int .i64
  1)]⟩, ⟨some 78, none, .mv, [.t 11]⟩, ⟨some 79, none, .idxA 1, [.t 74, .t 77]⟩, ⟨none, none, .store 1, [.t 79, .t 78]⟩]) (C.ops [⟨some 80, none, .mv, [.t 7]⟩, ⟨some 81, none, .mv,
  [.t 11]⟩, ⟨some 82, none, .bslc 10 1 1 3 [.int .i64 0] [(0, 1)], [.t 81]⟩, ⟨some 83, none, .app 11 1 3 8, [.t 80, .t 82]⟩, ⟨some 84, none, .mv, [.t 8]⟩, ⟨some 85, none, .mv, [.t
  11]⟩, ⟨some 86, none, .bslc 12 1 1 3 [.int .i64 0] [(0, 1)], [.t 85]⟩, ⟨some 87, none, .app 13 1 3 8, [.t 84, .t 86]⟩, ⟨some 7, none, .mv, [.t 83]⟩, ⟨some 8, none, .mv, [.t
  87]⟩])))))))).seq (C.ops [⟨some 28, none, .mv, [.t 10]⟩, ⟨some 29, none, .bin .add, [.t 28, .c (.int .i64 1)]⟩, ⟨some 10, none, .mv, [.t 29]⟩]))).loop)).seq ((C.ops [⟨some 88,
  none, .mv, [.t 7]⟩, ⟨some 89, none, .mv, [.t 8]⟩, ⟨some 4, none, .mv, [.t 88]⟩, ⟨some 5, none, .mv, [.t 89]⟩, ⟨some 6, none, .mv, [.c (.int .i64 0)]⟩]).seq
  C.ret)))))))
theorem fn40l : FnIs Tryd.prog 40 90 14 [RV.tmp 4, RV.tmp 5, RV.tmp 6] c40l := ⟨Tryd.f40, Tryd.f40.body.getD .skip, [4, 5, 15, 16, 20, 21, 22, 23, 42, 43, 82, 83, 86, 87], [93, 67, 70, 45, 59], [], by kernel_rfl, by kernel_rfl, by kernel_rfl, by kernel_rfl, by kernel_rfl, by kernel_rfl, by kernel_rfl⟩
def c41l : C :=
  ((C.ops [⟨some 4, none, .mv, [.c (.int .i64 0)]⟩]).seq ((C.ops [⟨some 5, none, .mv, [.t 1]⟩, ⟨some 4, none, .mv, [.t 5]⟩]).seq
  C.ret))
theorem fn41l : FnIs Tryd.prog 41 6 0 [RV.tmp 4] c41l := ⟨Tryd.f41, Tryd.f41.body.getD .skip, [], [93, 67, 70, 45, 59], [], by kernel_rfl, by kernel_rfl, by kernel_rfl, by kernel_rfl, by kernel_rfl, by kernel_rfl, by kernel_rfl⟩
def c42l : C :=
  ((C.ops [⟨some 4, none, .mv, [.c (.bool false)]⟩]).seq ((C.ops [⟨some 5, none, .mv, [.t 0]⟩, ⟨some 6, none, .bin .leq, [.c (.int .i64 1), .t 5]⟩, ⟨some 7, none, .mv, [.t 6]⟩, ⟨some
  8, some (7, true), .mv, [.t 0]⟩, ⟨some 9, some (7, true), .mv, [.t 1]⟩, ⟨some 10, some (7, true), .bin .leq, [.t 8, .t 9]⟩, ⟨some 11, none, .pick, [.t 7, .t 10, .c (.bool false)]⟩,
  ⟨some 12, none, .mv, [.t 11]⟩, ⟨some 13, some (12, true), .mv, [.t 1]⟩, ⟨some 14, some (12, true), .bin .leq, [.t 13, .c (.int .i64 4096)]⟩, ⟨some 15, none, .pick, [.t 12, .t 14,
  .c (.bool false)]⟩, ⟨some 4, none, .mv, [.t 15]⟩]).seq
  C.ret))
theorem fn42l : FnIs Tryd.prog 42 16 0 [RV.tmp 4] c42l := ⟨Tryd.f42, Tryd.f42.body.getD .skip, [], [93, 67, 70, 45, 59], [], by kernel_rfl, by kernel_rfl, by kernel_rfl, by kernel_rfl, by kernel_rfl, by kernel_rfl, by kernel_rfl⟩
def c43l : C :=
  ((C.ops [⟨some 4, none, .mv, [.c (.int .i64 0)]⟩]).seq (((C.ops [⟨some 6, none, .mv, [.t 0]⟩, ⟨some 7, none, .len, [.t 6]⟩, ⟨some 8, none, .mv, [.c (.int .i64 0)]⟩]).seq (C.block 0
  ((C.ops [⟨some 9, none, .bin .lss, [.t 8, .t 7]⟩]).seq ((C.cond (.t 9) C.skip (C.exit 0)).seq ((C.block 1 ((C.ops [⟨some 10, none, .mv, [.t 8]⟩, ⟨some 5, none, .mv, [.t 10]⟩]).seq
  ((C.ops [⟨some 11, none, .mv, [.t 1]⟩, ⟨some 12, none, .mv, [.t 0]⟩, ⟨some 13, none, .mv, [.t 5]⟩, ⟨some 14, none, .idxA 1, [.t 12, .t 13]⟩, ⟨some 15, none, .load none, [.t 14]⟩,
  ⟨some 16, none, .callv, [.t 11, .t 15]⟩]).seq (C.cond (.t 16) ((C.ops [⟨some 17, none, .mv, [.t 5]⟩, ⟨some 4, none, .mv, [.t 17]⟩]).seq C.ret) C.skip)))).seq (C.ops [⟨some 18,
  none, .bin .add, [.t 8, .c (.int .i64 1)]⟩, ⟨some 8, none, .mv, [.t 18]⟩])))).loop)).seq ((C.ops [⟨some 4, none, .mv, [.c (.int .i64 (-1))]⟩]).seq
  C.ret)))
theorem fn43l : FnIs Tryd.prog 43 19 0 [RV.tmp 4] c43l := ⟨Tryd.f43, Tryd.f43.body.getD .skip, [], [93, 67, 70, 45, 59], [], by kernel_rfl, by kernel_rfl, by kernel_rfl, by kernel_rfl, by kernel_rfl, by kernel_rfl, by kernel_rfl⟩
def c44l : C :=
  ((C.ops [⟨some 2, none, .mv, [.c (.bool false)]⟩]).seq ((C.ops [⟨some 3, none, .mv, [.t 0]⟩, ⟨some 4, none, .bin .neq, [.t 3, .c (.str [])]⟩, ⟨some 5, none, .mv, [.t 4]⟩, ⟨some 6,
  some (5, true), .mv, [.t 0]⟩, ⟨some 7, some (5, true), .slen, [.t 6]⟩, ⟨some 8, some (5, true), .bin .leq, [.t 7, .c (.int .i64 16)]⟩, ⟨some 9, none, .pick, [.t 5, .t 8, .c (.bool
  false)]⟩, ⟨some 10, none, .mv, [.t 9]⟩, ⟨some 11, some (10, true), .mv, [.t 0]⟩, ⟨some 12, some (10, true), .call 66 true, [.t 11]⟩, ⟨some 13, some (10, true), .mv, [.t 0]⟩, ⟨some
  14, some (10, true), .slen, [.t 13]⟩, ⟨some 15, some (10, true), .bin .eql, [.t 12, .t 14]⟩, ⟨some 16, none, .pick, [.t 10, .t 15, .c (.bool false)]⟩, ⟨some 2, none, .mv, [.t
  16]⟩]).seq
  C.ret))
theorem fn44l : FnIs Tryd.prog 44 17 0 [RV.tmp 2] c44l := ⟨Tryd.f44, Tryd.f44.body.getD .skip, [], [93, 67, 70, 45, 59], [], by kernel_rfl, by kernel_rfl, by kernel_rfl, by kernel_rfl, by kernel_rfl, by kernel_rfl, by kernel_rfl⟩
def c45l : C :=
  ((C.ops [⟨some 2, none, .nilo 0 1 9, []⟩]).seq (((C.ops [⟨some 3, none, .mv, [.t 0]⟩, ⟨some 4, none, .isnil .slice false, [.t 3]⟩]).seq (C.cond (.t 4) ((C.ops [⟨some 2, none, .nilo
  0 1 9, []⟩]).seq C.ret) C.skip)).seq ((C.ops [⟨some 5, none, .bslc 1 1 0 9 [.str []] [], []⟩, ⟨some 6, none, .mv, [.t 0]⟩, ⟨some 7, none, .app 2 1 9 16, [.t 5, .t 6]⟩, ⟨some 2,
  none, .mv, [.t 7]⟩]).seq
  C.ret)))
theorem fn45l : FnIs Tryd.prog 45 8 4 [RV.tmp 2] c45l := ⟨Tryd.f45, Tryd.f45.body.getD .skip, [2, 5, 7, 5], [93, 67, 70, 45, 59], [], by kernel_rfl, by kernel_rfl, by kernel_rfl, by kernel_rfl, by kernel_rfl, by kernel_rfl, by kernel_rfl⟩
def c47l : C :=
  ((C.ops [⟨some 4, none, .mv, [.c (.int .i64 0)]⟩]).seq ((C.ops [⟨some 5, none, .mv, [.t 0]⟩, ⟨some 6, none, .mv, [.t 1]⟩, ⟨some 7, none, .call 71 true, [.t 5, .t 6]⟩, ⟨some 4,
  none, .mv, [.t 7]⟩]).seq
  C.ret))
theorem fn47l : FnIs Tryd.prog 47 8 0 [RV.tmp 4] c47l := ⟨Tryd.f47, Tryd.f47.body.getD .skip, [], [93, 67, 70, 45, 59], [], by kernel_rfl, by kernel_rfl, by kernel_rfl, by kernel_rfl, by kernel_rfl, by kernel_rfl, by kernel_rfl⟩
def c48l : C :=
  ((C.ops [⟨some 2, none, .mv, [.c (.str [])]⟩]).seq ((C.ops [⟨some 3, none, .mv, [.t 0]⟩, ⟨some 4, none, .call 72 true, [.t 3]⟩, ⟨some 2, none, .mv, [.t 4]⟩]).seq
  C.ret))
theorem fn48l : FnIs Tryd.prog 48 5 0 [RV.tmp 2] c48l := ⟨Tryd.f48, Tryd.f48.body.getD .skip, [], [93, 67, 70, 45, 59], [], by kernel_rfl, by kernel_rfl, by kernel_rfl, by kernel_rfl, by kernel_rfl, by kernel_rfl, by kernel_rfl⟩
def c49l : C :=
  ((C.ops [⟨some 4, none, .mv, [.c (.str [])]⟩, ⟨some 5, none, .mv, [.c (.str [])]⟩, ⟨some 6, none, .mv, [.c (.bool false)]⟩]).seq ((C.ops [⟨some 7, none, .mv, [.t 0]⟩, ⟨some 8,
  none, .mv, [.t 1]⟩, ⟨some 9, none, .call 73 true, [.t 7, .t 8]⟩, ⟨some 10, none, .ext 0, [.t 9]⟩, ⟨some 11, none, .ext 1, [.t 9]⟩, ⟨some 12, none, .ext 2, [.t 9]⟩, ⟨some 4, none,
  .mv, [.t 10]⟩, ⟨some 5, none, .mv, [.t 11]⟩, ⟨some 6, none, .mv, [.t 12]⟩]).seq
  C.ret))
theorem fn49l : FnIs Tryd.prog 49 13 0 [RV.tmp 4, RV.tmp 5, RV.tmp 6] c49l := ⟨Tryd.f49, Tryd.f49.body.getD .skip, [], [93, 67, 70, 45, 59], [], by kernel_rfl, by kernel_rfl, by kernel_rfl, by kernel_rfl, by kernel_rfl, by kernel_rfl, by kernel_rfl⟩
def c51l : C :=
  ((C.ops [⟨some 2, none, .mv, [.c (.str [])]⟩]).seq ((C.ops [⟨some 3, none, .mv, [.c (.str [])]⟩]).seq ((C.block 0 (((C.ops [⟨some 4, none, .mv, [.t 0]⟩, ⟨some 5, none, .bin .gtr,
  [.t 4, .c (.int .i64 9)]⟩]).seq (C.cond (.t 5) C.skip (C.exit 0))).seq (C.block 1 ((C.ops [⟨some 6, none, .mv, [.t 0]⟩, ⟨some 7, none, .bin .rem, [.t 6, .c (.int .i64 10)]⟩, ⟨some
  8, none, .mv, [.t 0]⟩, ⟨some 9, none, .bin .rem, [.t 8, .c (.int .i64 10)]⟩, ⟨some 10, none, .bin .add, [.t 9, .c (.int .i64 1)]⟩, ⟨some 11, none, .sslc true true, [.c (.str [48,
  49, 50, 51, 52, 53, 54, 55, 56, 57]), .t 7, .t 10]⟩, ⟨some 12, none, .mv, [.t 3]⟩, ⟨some 13, none, .bin .add, [.t 11, .t 12]⟩, ⟨some 3, none, .mv, [.t 13]⟩]).seq (C.ops [⟨some 14,
  none, .mv, [.t 0]⟩, ⟨some 15, none, .bin .quo, [.t 14, .c (.int .i64 10)]⟩, ⟨some 0, none, .mv, [.t 15]⟩])))).loop).seq ((C.ops [⟨some 16, none, .mv, [.t 0]⟩, ⟨some 17, none, .mv,
  [.t 0]⟩, ⟨some 18, none, .bin .add, [.t 17, .c (.int .i64 1)]⟩, ⟨some 19, none, .sslc true true, [.c (.str [48, 49, 50, 51, 52, 53, 54, 55, 56, 57]), .t 16, .t 18]⟩, ⟨some 20,
  none, .mv, [.t 3]⟩, ⟨some 21, none, .bin .add, [.t 19, .t 20]⟩, ⟨some 2, none, .mv, [.t 21]⟩]).seq
  C.ret))))
theorem fn51l : FnIs Tryd.prog 51 22 0 [RV.tmp 2] c51l := ⟨Tryd.f51, Tryd.f51.body.getD .skip, [], [93, 67, 70, 45, 59], [], by kernel_rfl, by kernel_rfl, by kernel_rfl, by kernel_rfl, by kernel_rfl, by kernel_rfl, by kernel_rfl⟩
def c52l : C :=
  ((C.ops [⟨some 2, none, .mv, [.c (.int .i64 0)]⟩, ⟨some 3, none, .mv, [.c (.int .i64 0)]⟩]).seq ((C.ops [⟨some 4, none, .mv, [.c (.int .i64 0)]⟩, ⟨some 5, none, .mv, [.c (.int .i64
  0)]⟩]).seq ((C.block 0 (((C.ops [⟨some 6, none, .mv, [.t 5]⟩, ⟨some 7, none, .mv, [.t 0]⟩, ⟨some 8, none, .slen, [.t 7]⟩, ⟨some 9, none, .bin .lss, [.t 6, .t 8]⟩, ⟨some 10, none,
  .mv, [.t 9]⟩, ⟨some 11, some (10, true), .mv, [.t 5]⟩, ⟨some 12, some (10, true), .bin .lss, [.t 11, .c (.int .i64 9)]⟩, ⟨some 13, none, .pick, [.t 10, .t 12, .c (.bool false)]⟩,
  ⟨some 14, none, .mv, [.t 13]⟩, ⟨some 15, some (14, true), .mv, [.t 0]⟩, ⟨some 16, some (14, true), .mv, [.t 5]⟩, ⟨some 17, some (14, true), .sidx, [.t 15, .t 16]⟩, ⟨some 18, some
  (14, true), .bin .geq, [.t 17, .c (.int .u8 48)]⟩, ⟨some 19, none, .pick, [.t 14, .t 18, .c (.bool false)]⟩, ⟨some 20, none, .mv, [.t 19]⟩, ⟨some 21, some (20, true), .mv, [.t 0]⟩,
  ⟨some 22, some (20, true), .mv, [.t 5]⟩, ⟨some 23, some (20, true), .sidx, [.t 21, .t 22]⟩, ⟨some 24, some (20, true), .bin .leq, [.t 23, .c (.int .u8 57)]⟩, ⟨some 25, none, .pick,
  [.t 20, .t 24, .c (.bool false)]⟩]).seq (C.cond (.t 25) C.skip (C.exit 0))).seq (C.block 1 ((C.ops [⟨some 26, none, .mv, [.t 4]⟩, ⟨some 27, none, .bin .mul, [.c (.int .i64 10), .t
  26]⟩, ⟨some 28, none, .mv, [.t 0]⟩, ⟨some 29, none, .mv, [.t 5]⟩, ⟨some 30, none, .sidx, [.t 28, .t 29]⟩, ⟨some 31, none, .bin .sub, [.t 30, .c (.int .u8 48)]⟩, ⟨some 32, none,
  .conv .i64, [.t 31]⟩, ⟨some 33, none, .bin .add, [.t 27, .t 32]⟩, ⟨some 4, none, .mv, [.t 33]⟩]).seq (C.ops [⟨some 34, none, .mv, [.t 5]⟩, ⟨some 35, none, .bin .add, [.t 34, .c
  (.int .i64 1)]⟩, ⟨some 5, none, .mv, [.t 35]⟩])))).loop).seq ((C.ops [⟨some 36, none, .mv, [.t 4]⟩, ⟨some 37, none, .mv, [.t 5]⟩, ⟨some 2, none, .mv, [.t 36]⟩, ⟨some 3, none, .mv,
  [.t 37]⟩]).seq
  C.ret))))
theorem fn52l : FnIs Tryd.prog 52 38 0 [RV.tmp 2, RV.tmp 3] c52l := ⟨Tryd.f52, Tryd.f52.body.getD .skip, [], [93, 67, 70, 45, 59], [], by kernel_rfl, by kernel_rfl, by kernel_rfl, by kernel_rfl, by kernel_rfl, by kernel_rfl, by kernel_rfl⟩
def c53l : C :=
  ((C.ops [⟨some 2, none, .mv, [.c (.bool false)]⟩]).seq ((C.ops [⟨some 3, none, .mv, [.t 0]⟩, ⟨some 4, none, .slen, [.t 3]⟩, ⟨some 5, none, .bin .leq, [.t 4, .c (.int .i64 16)]⟩,
  ⟨some 6, none, .mv, [.t 5]⟩, ⟨some 7, some (6, true), .mv, [.t 0]⟩, ⟨some 8, some (6, true), .call 76 true, [.t 7]⟩, ⟨some 9, none, .pick, [.t 6, .t 8, .c (.bool false)]⟩, ⟨some
  10, none, .mv, [.t 9]⟩, ⟨some 11, some (10, true), .mv, [.t 0]⟩, ⟨some 12, some (10, true), .call 77 true, [.t 11]⟩, ⟨some 13, some (10, true), .mv, [.t 0]⟩, ⟨some 14, some (10,
  true), .slen, [.t 13]⟩, ⟨some 15, some (10, true), .bin .eql, [.t 12, .t 14]⟩, ⟨some 16, none, .pick, [.t 10, .t 15, .c (.bool false)]⟩, ⟨some 2, none, .mv, [.t 16]⟩]).seq
  C.ret))
theorem fn53l : FnIs Tryd.prog 53 17 0 [RV.tmp 2] c53l := ⟨Tryd.f53, Tryd.f53.body.getD .skip, [], [93, 67, 70, 45, 59], [], by kernel_rfl, by kernel_rfl, by kernel_rfl, by kernel_rfl, by kernel_rfl, by kernel_rfl, by kernel_rfl⟩
def c54l : C :=
  ((C.ops [⟨some 4, none, .mv, [.c (.int .i64 0)]⟩]).seq (((C.ops [⟨some 5, none, .mv, [.c (.int .i64 0)]⟩]).seq (C.block 0 (((C.ops [⟨some 6, none, .mv, [.t 5]⟩, ⟨some 7, none, .mv,
  [.t 0]⟩, ⟨some 8, none, .len, [.t 7]⟩, ⟨some 9, none, .bin .lss, [.t 6, .t 8]⟩]).seq (C.cond (.t 9) C.skip (C.exit 0))).seq ((C.block 1 ((C.ops [⟨some 12, none, .mv, [.t 0]⟩, ⟨some
  13, none, .mv, [.t 5]⟩, ⟨some 14, none, .idxA 1, [.t 12, .t 13]⟩, ⟨some 15, none, .load none, [.t 14]⟩, ⟨some 16, none, .mv, [.t 1]⟩, ⟨some 17, none, .bin .eql, [.t 15, .t
  16]⟩]).seq (C.cond (.t 17) ((C.ops [⟨some 18, none, .mv, [.t 5]⟩, ⟨some 4, none, .mv, [.t 18]⟩]).seq C.ret) C.skip))).seq (C.ops [⟨some 10, none, .mv, [.t 5]⟩, ⟨some 11, none, .bin
  .add, [.t 10, .c (.int .i64 1)]⟩, ⟨some 5, none, .mv, [.t 11]⟩]))).loop)).seq ((C.ops [⟨some 4, none, .mv, [.c (.int .i64 (-1))]⟩]).seq
  C.ret)))
theorem fn54l : FnIs Tryd.prog 54 19 0 [RV.tmp 4] c54l := ⟨Tryd.f54, Tryd.f54.body.getD .skip, [], [93, 67, 70, 45, 59], [], by kernel_rfl, by kernel_rfl, by kernel_rfl, by kernel_rfl, by kernel_rfl, by kernel_rfl, by kernel_rfl⟩
def c55l : C :=
  ((C.ops [⟨some 2, none, .mv, [.c (.int .i64 0)]⟩]).seq ((C.block 0 ((C.ops [⟨some 4, none, .mv, [.t 0]⟩, ⟨some 5, none, .bin .geq, [.t 4, .c (.int .u8 97)]⟩, ⟨some 6, none, .mv,
  [.t 5]⟩, ⟨some 7, some (6, true), .mv, [.t 0]⟩, ⟨some 8, some (6, true), .bin .leq, [.t 7, .c (.int .u8 122)]⟩, ⟨some 9, none, .pick, [.t 6, .t 8, .c (.bool false)]⟩, ⟨some 10,
  none, .mv, [.t 9]⟩, ⟨some 11, some (10, false), .mv, [.t 0]⟩, ⟨some 12, some (10, false), .bin .geq, [.t 11, .c (.int .u8 65)]⟩, ⟨some 13, some (10, false), .mv, [.t 12]⟩, ⟨some
  14, some (13, true), .mv, [.t 0]⟩, ⟨some 15, some (13, true), .bin .leq, [.t 14, .c (.int .u8 90)]⟩, ⟨some 16, some (10, false), .pick, [.t 13, .t 15, .c (.bool false)]⟩, ⟨some 17,
  none, .pick, [.t 10, .c (.bool true), .t 16]⟩, ⟨some 3, none, .mv, [.t 17]⟩]).seq (C.cond (.t 3) ((C.ops [⟨some 2, none, .mv, [.c (.int .i64 1)]⟩]).seq C.ret) ((C.ops [⟨some 19,
  none, .mv, [.t 0]⟩, ⟨some 20, none, .bin .eql, [.t 19, .c (.int .u8 94)]⟩, ⟨some 21, none, .mv, [.t 20]⟩, ⟨some 22, some (21, false), .mv, [.t 0]⟩, ⟨some 23, some (21, false), .bin
  .eql, [.t 22, .c (.int .u8 126)]⟩, ⟨some 24, none, .pick, [.t 21, .c (.bool true), .t 23]⟩, ⟨some 25, none, .mv, [.t 24]⟩, ⟨some 26, some (25, false), .mv, [.t 0]⟩, ⟨some 27, some
  (25, false), .bin .eql, [.t 26, .c (.int .u8 37)]⟩, ⟨some 28, none, .pick, [.t 25, .c (.bool true), .t 27]⟩, ⟨some 18, none, .mv, [.t 28]⟩]).seq (C.cond (.t 18) ((C.ops [⟨some 2,
  none, .mv, [.c (.int .i64 2)]⟩]).seq C.ret) ((C.ops [⟨some 30, none, .mv, [.t 0]⟩, ⟨some 31, none, .bin .geq, [.t 30, .c (.int .u8 48)]⟩, ⟨some 32, none, .mv, [.t 31]⟩, ⟨some 33,
  some (32, true), .mv, [.t 0]⟩, ⟨some 34, some (32, true), .bin .leq, [.t 33, .c (.int .u8 57)]⟩, ⟨some 35, none, .pick, [.t 32, .t 34, .c (.bool false)]⟩, ⟨some 29, none, .mv, [.t
  35]⟩]).seq (C.cond (.t 29) ((C.ops [⟨some 2, none, .mv, [.c (.int .i64 3)]⟩]).seq C.ret) ((C.ops [⟨some 37, none, .mv, [.t 0]⟩, ⟨some 38, none, .bin .eql, [.t 37, .c (.int .u8
  39)]⟩, ⟨some 36, none, .mv, [.t 38]⟩]).seq (C.cond (.t 36) ((C.ops [⟨some 2, none, .mv, [.c (.int .i64 4)]⟩]).seq C.ret) ((C.ops [⟨some 40, none, .mv, [.t 0]⟩, ⟨some 41, none, .bin
  .eql, [.t 40, .c (.int .u8 46)]⟩, ⟨some 42, none, .mv, [.t 41]⟩, ⟨some 43, some (42, false), .mv, [.t 0]⟩, ⟨some 44, some (42, false), .bin .eql, [.t 43, .c (.int .u8 44)]⟩, ⟨some
  45, none, .pick, [.t 42, .c (.bool true), .t 44]⟩, ⟨some 46, none, .mv, [.t 45]⟩, ⟨some 47, some (46, false), .mv, [.t 0]⟩, ⟨some 48, some (46, false), .bin .eql, [.t 47, .c (.int
  .u8 59)]⟩, ⟨some 49, none, .pick, [.t 46, .c (.bool true), .t 48]⟩, ⟨some 50, none, .mv, [.t 49]⟩, ⟨some 51, some (50, false), .mv, [.t 0]⟩, ⟨some 52, some (50, false), .bin .eql,
  [.t 51, .c (.int .u8 58)]⟩, ⟨some 53, none, .pick, [.t 50, .c (.bool true), .t 52]⟩, ⟨some 54, none, .mv, [.t 53]⟩, ⟨some 55, some (54, false), .mv, [.t 0]⟩, ⟨some 56, some (54,
  false), .bin .eql, [.t 55, .c (.int .u8 33)]⟩, ⟨some 57, none, .pick, [.t 54, .c (.bool true), .t 56]⟩, ⟨some 58, none, .mv, [.t 57]⟩, ⟨some 59, some (58, false), .mv, [.t 0]⟩,
  ⟨some 60, some (58, false), .bin .eql, [.t 59, .c (.int .u8 63)]⟩, ⟨some 61, none, .pick, [.t 58, .c (.bool true), .t 60]⟩, ⟨some 62, none, .mv, [.t 61]⟩, ⟨some 63, some (62,
  false), .mv, [.t 0]⟩, ⟨some 64, some (62, false), .bin .eql, [.t 63, .c (.int .u8 40)]⟩, ⟨some 65, none, .pick, [.t 62, .c (.bool true), .t 64]⟩, ⟨some 66, none, .mv, [.t 65]⟩,
  ⟨some 67, some (66, false), .mv, [.t 0]⟩, ⟨some 68, some (66, false), .bin .eql, [.t 67, .c (.int .u8 41)]⟩, ⟨some 69, none, .pick, [.t 66, .c (.bool true), .t 68]⟩, ⟨some 70,
  none, .mv, [.t 69]⟩, ⟨some 71, some (70, false), .mv, [.t 0]⟩, ⟨some 72, some (70, false), .bin .eql, [.t 71, .c (.int .u8 45)]⟩, ⟨some 73, none, .pick, [.t 70, .c (.bool true), .t
  72]⟩, ⟨some 39, none, .mv, [.t 73]⟩]).seq (C.cond (.t 39) ((C.ops [⟨some 2, none, .mv, [.c (.int .i64 5)]⟩]).seq C.ret) ((C.ops [⟨some 75, none, .mv, [.t 0]⟩, ⟨some 76, none, .bin
  .eql, [.t 75, .c (.int .u8 32)]⟩, ⟨some 74, none, .mv, [.t 76]⟩]).seq (C.cond (.t 74) ((C.ops [⟨some 2, none, .mv, [.c (.int .i64 6)]⟩]).seq C.ret) C.skip))))))))))))).seq ((C.ops
  [⟨some 2, none, .mv, [.c (.int .i64 0)]⟩]).seq
  C.ret)))
theorem fn55l : FnIs Tryd.prog 55 77 0 [RV.tmp 2] c55l := ⟨Tryd.f55, Tryd.f55.body.getD .skip, [], [93, 67, 70, 45, 59], [], by kernel_rfl, by kernel_rfl, by kernel_rfl, by kernel_rfl, by kernel_rfl, by kernel_rfl, by kernel_rfl⟩
def c60l : C :=
  ((C.ops [⟨some 4, none, .mv, [.c (.int .i64 0)]⟩]).seq (((C.ops [⟨some 6, none, .mv, [.t 0]⟩, ⟨some 7, none, .len, [.t 6]⟩, ⟨some 8, none, .mv, [.c (.int .i64 0)]⟩]).seq (C.block 0
  ((C.ops [⟨some 9, none, .bin .lss, [.t 8, .t 7]⟩]).seq ((C.cond (.t 9) C.skip (C.exit 0)).seq ((C.block 1 ((C.ops [⟨some 10, none, .mv, [.t 8]⟩, ⟨some 5, none, .mv, [.t 10]⟩]).seq
  ((C.ops [⟨some 11, none, .mv, [.t 1]⟩, ⟨some 12, none, .mv, [.t 0]⟩, ⟨some 13, none, .mv, [.t 5]⟩, ⟨some 14, none, .idxA 1, [.t 12, .t 13]⟩, ⟨some 15, none, .load none, [.t 14]⟩,
  ⟨some 16, none, .callv, [.t 11, .t 15]⟩]).seq (C.cond (.t 16) ((C.ops [⟨some 17, none, .mv, [.t 5]⟩, ⟨some 4, none, .mv, [.t 17]⟩]).seq C.ret) C.skip)))).seq (C.ops [⟨some 18,
  none, .bin .add, [.t 8, .c (.int .i64 1)]⟩, ⟨some 8, none, .mv, [.t 18]⟩])))).loop)).seq ((C.ops [⟨some 4, none, .mv, [.c (.int .i64 (-1))]⟩]).seq
  C.ret)))
theorem fn60l : FnIs Tryd.prog 60 19 0 [RV.tmp 4] c60l := ⟨Tryd.f60, Tryd.f60.body.getD .skip, [], [93, 67, 70, 45, 59], [], by kernel_rfl, by kernel_rfl, by kernel_rfl, by kernel_rfl, by kernel_rfl, by kernel_rfl, by kernel_rfl⟩
def c61l : C :=
  ((C.ops [⟨some 2, none, .mv, [.c (.int .i64 0)]⟩]).seq (((C.ops [⟨some 7, none, .mv, [.t 0]⟩, ⟨some 8, none, .len, [.t 7]⟩, ⟨some 9, none, .bin .gtr, [.t 8, .c (.int .i64
  4096)]⟩]).seq (C.cond (.t 9) ((C.ops [⟨some 2, none, .mv, [.c (.int .i64 4)]⟩]).seq C.ret) C.skip)).seq ((C.ops [⟨some 3, none, .mv, [.c (.int .i64 0)]⟩]).seq (((C.ops [⟨some 10,
  none, .mv, [.t 0]⟩, ⟨some 11, none, .len, [.t 10]⟩, ⟨some 12, none, .mv, [.c (.int .i64 0)]⟩]).seq (C.block 0 ((C.ops [⟨some 13, none, .bin .lss, [.t 12, .t 11]⟩]).seq ((C.cond (.t
  13) C.skip (C.exit 0)).seq ((C.block 1 ((C.ops [⟨some 14, none, .idxA 6, [.t 10, .t 12]⟩, ⟨some 15, none, .load (some 6), [.t 14]⟩, ⟨some 5, none, .alloc 0 57 [.int .i64 0, .int
  .i64 0, .int .i64 0, .int .i64 0, .int .i64 0, .str []], []⟩, ⟨none, none, .store 6, [.t 5, .t 15]⟩]).seq (((C.ops [⟨some 16, none, .load (some 6), [.t 5]⟩, ⟨some 17, none, .call
  89 true, [.t 16]⟩, ⟨some 6, none, .mv, [.t 17]⟩]).seq ((C.ops [⟨some 18, none, .mv, [.t 6]⟩, ⟨some 19, none, .bin .neq, [.t 18, .c (.int .i64 0)]⟩]).seq (C.cond (.t 19) ((C.ops
  [⟨some 20, none, .mv, [.t 6]⟩, ⟨some 2, none, .mv, [.t 20]⟩]).seq C.ret) C.skip))).seq (C.ops [⟨some 21, none, .mv, [.t 3]⟩, ⟨some 22, none, .fldA 1, [.t 5]⟩, ⟨some 23, none, .load
  none, [.t 22]⟩, ⟨some 24, none, .fldA 2, [.t 5]⟩, ⟨some 25, none, .load none, [.t 24]⟩, ⟨some 26, none, .bin .add, [.t 23, .t 25]⟩, ⟨some 27, none, .fldA 3, [.t 5]⟩, ⟨some 28,
  none, .load none, [.t 27]⟩, ⟨some 29, none, .bin .add, [.t 26, .t 28]⟩, ⟨some 30, none, .bin .add, [.t 21, .t 29]⟩, ⟨some 3, none, .mv, [.t 30]⟩])))).seq (C.ops [⟨some 31, none,
  .bin .add, [.t 12, .c (.int .i64 1)]⟩, ⟨some 12, none, .mv, [.t 31]⟩])))).loop)).seq (((C.ops [⟨some 32, none, .mv, [.t 3]⟩, ⟨some 33, none, .bin .gtr, [.t 32, .c (.int .i64
  1073741824)]⟩]).seq (C.cond (.t 33) ((C.ops [⟨some 2, none, .mv, [.c (.int .i64 4)]⟩]).seq C.ret) C.skip)).seq ((C.ops [⟨some 2, none, .mv, [.c (.int .i64 0)]⟩]).seq
  C.ret))))))
theorem fn61l : FnIs Tryd.prog 61 34 1 [RV.tmp 2] c61l := ⟨Tryd.f61, Tryd.f61.body.getD .skip, [5], [93, 67, 70, 45, 59], [], by kernel_rfl, by kernel_rfl, by kernel_rfl, by kernel_rfl, by kernel_rfl, by kernel_rfl, by kernel_rfl⟩
def c62l : C :=
  ((C.ops [⟨some 4, none, .nilo 0 1 3, []⟩, ⟨some 5, none, .mv, [.c (.bool false)]⟩]).seq ((C.ops [⟨some 12, none, .mv, [.t 0]⟩, ⟨some 13, none, .len, [.t 12]⟩, ⟨some 14, none,
  .mkslc 1 1 3 [.int .i64 0] 8, [.t 13, .t 13]⟩, ⟨some 6, none, .mv, [.t 14]⟩]).seq ((C.ops [⟨some 7, none, .mv, [.c (.int .i64 0)]⟩]).seq (((C.ops [⟨some 15, none, .mv, [.t 0]⟩,
  ⟨some 16, none, .len, [.t 15]⟩, ⟨some 17, none, .mv, [.c (.int .i64 0)]⟩]).seq (C.block 0 ((C.ops [⟨some 18, none, .bin .lss, [.t 17, .t 16]⟩]).seq ((C.cond (.t 18) C.skip (C.exit
  0)).seq ((C.block 1 ((C.ops [⟨some 19, none, .mv, [.t 17]⟩, ⟨some 20, none, .idxA 6, [.t 15, .t 17]⟩, ⟨some 21, none, .load (some 6), [.t 20]⟩, ⟨some 9, none, .alloc 2 57 [.int
  .i64 0, .int .i64 0, .int .i64 0, .int .i64 0, .int .i64 0, .str []], []⟩, ⟨some 8, none, .mv, [.t 19]⟩, ⟨none, none, .store 6, [.t 9, .t 21]⟩]).seq (((C.ops [⟨some 22, none, .fldA
  0, [.t 9]⟩, ⟨some 23, none, .load none, [.t 22]⟩, ⟨some 24, none, .bin .neq, [.t 23, .c (.int .i64 1)]⟩]).seq (C.cond (.t 24) (C.exit 1) C.skip)).seq (((C.ops [⟨some 25, none, .mv,
  [.t 1]⟩, ⟨some 26, none, .len, [.t 25]⟩, ⟨some 27, none, .mv, [.c (.int .i64 0)]⟩]).seq (C.block 2 ((C.ops [⟨some 28, none, .bin .lss, [.t 27, .t 26]⟩]).seq ((C.cond (.t 28) C.skip
  (C.exit 2)).seq ((C.block 3 ((C.ops [⟨some 29, none, .mv, [.t 27]⟩, ⟨some 30, none, .idxA 5, [.t 25, .t 27]⟩, ⟨some 31, none, .load (some 5), [.t 30]⟩, ⟨some 11, none, .alloc 3 60
  [.int .i64 0, .int .i64 0, .int .i64 0, .int .i64 0, .str []], []⟩, ⟨some 10, none, .mv, [.t 29]⟩, ⟨none, none, .store 5, [.t 11, .t 31]⟩]).seq (((C.ops [⟨some 32, none, .mv, [.t
  8]⟩, ⟨some 33, none, .fldA 0, [.t 11]⟩, ⟨some 34, none, .load none, [.t 33]⟩, ⟨some 35, none, .bin .lss, [.t 32, .t 34]⟩, ⟨some 36, none, .mv, [.t 35]⟩, ⟨some 37, some (36, false),
  .mv, [.t 8]⟩, ⟨some 38, some (36, false), .fldA 1, [.t 11]⟩, ⟨some 39, some (36, false), .load none, [.t 38]⟩, ⟨some 40, some (36, false), .bin .geq, [.t 37, .t 39]⟩, ⟨some 41,
  none, .pick, [.t 36, .c (.bool true), .t 40]⟩]).seq (C.cond (.t 41) (C.exit 3) C.skip)).seq (((C.ops [⟨some 42, none, .mv, [.t 6]⟩, ⟨some 43, none, .mv, [.t 8]⟩, ⟨some 44, none,
  .idxA 1, [.t 42, .t 43]⟩, ⟨some 45, none, .load none, [.t 44]⟩, ⟨some 46, none, .bin .gtr, [.t 45, .c (.int .i64 0)]⟩]).seq (C.cond (.t 46) ((C.ops [⟨some 4, none, .nilo 0 1 3,
  []⟩, ⟨some 5, none, .mv, [.c (.bool false)]⟩]).seq C.ret) C.skip)).seq (C.ops [⟨some 47, none, .mv, [.t 6]⟩, ⟨some 48, none, .mv, [.t 8]⟩, ⟨some 49, none, .mv, [.t 10]⟩, ⟨some 50,
  none, .bin .add, [.t 49, .c (.int .i64 1)]⟩, ⟨some 51, none, .idxA 1, [.t 47, .t 48]⟩, ⟨none, none, .store 1, [.t 51, .t 50]⟩]))))).seq (C.ops [⟨some 52, none, .bin .add, [.t 27,
  .c (.int .i64 1)]⟩, ⟨some 27, none, .mv, [.t 52]⟩])))).loop)).seq (((C.ops [⟨some 53, none, .mv, [.t 6]⟩, ⟨some 54, none, .mv, [.t 8]⟩, ⟨some 55, none, .idxA 1, [.t 53, .t 54]⟩,
  ⟨some 56, none, .load none, [.t 55]⟩, ⟨some 57, none, .bin .eql, [.t 56, .c (.int .i64 0)]⟩, ⟨some 58, none, .mv, [.t 57]⟩, ⟨some 59, some (58, false), .mv, [.t 6]⟩, ⟨some 60, some
  (58, false), .mv, [.t 8]⟩, ⟨some 61, some (58, false), .idxA 1, [.t 59, .t 60]⟩, ⟨some 62, some (58, false), .load none, [.t 61]⟩, ⟨some 63, some (58, false), .mv, [.t 7]⟩, ⟨some
  64, some (58, false), .bin .lss, [.t 62, .t 63]⟩, ⟨some 65, none, .pick, [.t 58, .c (.bool true), .t 64]⟩]).seq (C.cond (.t 65) ((C.ops [⟨some 4, none, .nilo 0 1 3, []⟩, ⟨some 5,
  none, .mv, [.c (.bool false)]⟩]).seq C.ret) C.skip)).seq (C.ops [⟨some 66, none, .mv, [.t 6]⟩, ⟨some 67, none, .mv, [.t 8]⟩, ⟨some 68, none, .idxA 1, [.t 66, .t 67]⟩, ⟨some 69,
  none, .load none, [.t 68]⟩, ⟨some 7, none, .mv, [.t 69]⟩])))))).seq (C.ops [⟨some 70, none, .bin .add, [.t 17, .c (.int .i64 1)]⟩, ⟨some 17, none, .mv, [.t 70]⟩])))).loop)).seq
  ((C.ops [⟨some 71, none, .mv, [.t 6]⟩, ⟨some 4, none, .mv, [.t 71]⟩, ⟨some 5, none, .mv, [.c (.bool true)]⟩]).seq
  C.ret)))))
theorem fn62l : FnIs Tryd.prog 62 72 4 [RV.tmp 4, RV.tmp 5] c62l := ⟨Tryd.f62, Tryd.f62.body.getD .skip, [4, 14, 9, 11], [93, 67, 70, 45, 59], [], by kernel_rfl, by kernel_rfl, by kernel_rfl, by kernel_rfl, by kernel_rfl, by kernel_rfl, by kernel_rfl⟩
def c63l : C :=
  ((C.ops [⟨some 1, none, .box 0 29, [.t 0]⟩, ⟨some 2, none, .mv, [.c .nilfn]⟩]).seq ((C.ops [⟨some 3, none, .mkfn (Fn.func 90) 0, [.t 1]⟩, ⟨some 2, none, .mv, [.t 3]⟩]).seq
  C.ret))
theorem fn63l : FnIs Tryd.prog 63 4 1 [RV.tmp 2] c63l := ⟨Tryd.f63, Tryd.f63.body.getD .skip, [1], [93, 67, 70, 45, 59], [], by kernel_rfl, by kernel_rfl, by kernel_rfl, by kernel_rfl, by kernel_rfl, by kernel_rfl, by kernel_rfl⟩
def c64l : C :=
  ((C.ops [⟨some 2, none, .mv, [.c (.int .i64 0)]⟩]).seq (((C.ops [⟨some 7, none, .mv, [.t 0]⟩, ⟨some 8, none, .len, [.t 7]⟩, ⟨some 9, none, .bin .gtr, [.t 8, .c (.int .i64
  4096)]⟩]).seq (C.cond (.t 9) ((C.ops [⟨some 2, none, .mv, [.c (.int .i64 4)]⟩]).seq C.ret) C.skip)).seq (((C.ops [⟨some 3, none, .mv, [.c (.int .i64 0)]⟩]).seq (C.block 0 (((C.ops
  [⟨some 10, none, .mv, [.t 3]⟩, ⟨some 11, none, .mv, [.t 0]⟩, ⟨some 12, none, .len, [.t 11]⟩, ⟨some 13, none, .bin .lss, [.t 10, .t 12]⟩]).seq (C.cond (.t 13) C.skip (C.exit
  0))).seq ((C.block 1 ((C.ops [⟨some 16, none, .mv, [.t 0]⟩, ⟨some 17, none, .mv, [.t 3]⟩, ⟨some 18, none, .idxA 6, [.t 16, .t 17]⟩, ⟨some 19, none, .load (some 6), [.t 18]⟩, ⟨some
  20, none, .call 91 true, [.t 19]⟩, ⟨some 4, none, .mv, [.t 20]⟩]).seq ((C.ops [⟨some 21, none, .mv, [.t 4]⟩, ⟨some 22, none, .bin .neq, [.t 21, .c (.int .i64 0)]⟩]).seq (C.cond (.t
  22) ((C.ops [⟨some 23, none, .mv, [.t 4]⟩, ⟨some 2, none, .mv, [.t 23]⟩]).seq C.ret) C.skip)))).seq (C.ops [⟨some 14, none, .mv, [.t 3]⟩, ⟨some 15, none, .bin .add, [.t 14, .c
  (.int .i64 1)]⟩, ⟨some 3, none, .mv, [.t 15]⟩]))).loop)).seq ((C.ops [⟨some 5, none, .mv, [.c (.int .i64 0)]⟩]).seq (((C.ops [⟨some 6, none, .mv, [.c (.int .i64 0)]⟩]).seq (C.block
  2 (((C.ops [⟨some 24, none, .mv, [.t 6]⟩, ⟨some 25, none, .mv, [.t 0]⟩, ⟨some 26, none, .len, [.t 25]⟩, ⟨some 27, none, .bin .lss, [.t 24, .t 26]⟩]).seq (C.cond (.t 27) C.skip
  (C.exit 2))).seq ((C.block 3 ((C.ops [⟨some 30, none, .mv, [.t 5]⟩, ⟨some 31, none, .mv, [.t 0]⟩, ⟨some 32, none, .mv, [.t 6]⟩, ⟨some 33, none, .idxA 6, [.t 31, .t 32]⟩, ⟨some 34,
  none, .fldA 1, [.t 33]⟩, ⟨some 35, none, .load none, [.t 34]⟩, ⟨some 36, none, .bin .add, [.t 30, .t 35]⟩, ⟨some 37, none, .mv, [.t 0]⟩, ⟨some 38, none, .mv, [.t 6]⟩, ⟨some 39,
  none, .idxA 6, [.t 37, .t 38]⟩, ⟨some 40, none, .fldA 2, [.t 39]⟩, ⟨some 41, none, .load none, [.t 40]⟩, ⟨some 42, none, .bin .add, [.t 36, .t 41]⟩, ⟨some 43, none, .mv, [.t 0]⟩,
  ⟨some 44, none, .mv, [.t 6]⟩, ⟨some 45, none, .idxA 6, [.t 43, .t 44]⟩, ⟨some 46, none, .fldA 3, [.t 45]⟩, ⟨some 47, none, .load none, [.t 46]⟩, ⟨some 48, none, .bin .add, [.t 42,
  .t 47]⟩, ⟨some 5, none, .mv, [.t 48]⟩]).seq ((C.ops [⟨some 49, none, .mv, [.t 5]⟩, ⟨some 50, none, .bin .gtr, [.t 49, .c (.int .i64 1073741824)]⟩]).seq (C.cond (.t 50) ((C.ops
  [⟨some 2, none, .mv, [.c (.int .i64 4)]⟩]).seq C.ret) C.skip)))).seq (C.ops [⟨some 28, none, .mv, [.t 6]⟩, ⟨some 29, none, .bin .add, [.t 28, .c (.int .i64 1)]⟩, ⟨some 6, none,
  .mv, [.t 29]⟩]))).loop)).seq ((C.ops [⟨some 2, none, .mv, [.c (.int .i64 0)]⟩]).seq
  C.ret))))))
theorem fn64l : FnIs Tryd.prog 64 51 0 [RV.tmp 2] c64l := ⟨Tryd.f64, Tryd.f64.body.getD .skip, [], [93, 67, 70, 45, 59], [], by kernel_rfl, by kernel_rfl, by kernel_rfl, by kernel_rfl, by kernel_rfl, by kernel_rfl, by kernel_rfl⟩
def c65l : C :=
  ((C.ops [⟨some 4, none, .mv, [.c (.int .i64 0)]⟩]).seq ((C.ops [⟨some 5, none, .mv, [.c (.int .i64 0)]⟩, ⟨some 6, none, .mv, [.c (.int .i64 0)]⟩]).seq (((C.ops [⟨some 7, none, .mv,
  [.c (.int .i64 0)]⟩]).seq (C.block 0 (((C.ops [⟨some 8, none, .mv, [.t 7]⟩, ⟨some 9, none, .mv, [.t 0]⟩, ⟨some 10, none, .len, [.t 9]⟩, ⟨some 11, none, .bin .lss, [.t 8, .t
  10]⟩]).seq (C.cond (.t 11) C.skip (C.exit 0))).seq ((C.block 1 ((C.ops [⟨some 14, none, .mv, [.t 1]⟩, ⟨some 15, none, .mv, [.t 0]⟩, ⟨some 16, none, .mv, [.t 7]⟩, ⟨some 17, none,
  .idxA 5, [.t 15, .t 16]⟩, ⟨some 18, none, .fldA 0, [.t 17]⟩, ⟨some 19, none, .load none, [.t 18]⟩, ⟨some 20, none, .bin .geq, [.t 14, .t 19]⟩, ⟨some 21, none, .mv, [.t 20]⟩, ⟨some
  22, some (21, true), .mv, [.t 1]⟩, ⟨some 23, some (21, true), .mv, [.t 0]⟩, ⟨some 24, some (21, true), .mv, [.t 7]⟩, ⟨some 25, some (21, true), .idxA 5, [.t 23, .t 24]⟩, ⟨some 26,
  some (21, true), .fldA 1, [.t 25]⟩, ⟨some 27, some (21, true), .load none, [.t 26]⟩, ⟨some 28, some (21, true), .bin .lss, [.t 22, .t 27]⟩, ⟨some 29, none, .pick, [.t 21, .t 28, .c
  (.bool false)]⟩]).seq (C.cond (.t 29) (C.ops [⟨some 30, none, .mv, [.t 7]⟩, ⟨some 31, none, .bin .add, [.t 30, .c (.int .i64 1)]⟩, ⟨some 32, none, .mv, [.t 6]⟩, ⟨some 33, none,
  .bin .add, [.t 32, .c (.int .i64 1)]⟩, ⟨some 5, none, .mv, [.t 31]⟩, ⟨some 6, none, .mv, [.t 33]⟩]) C.skip))).seq (C.ops [⟨some 12, none, .mv, [.t 7]⟩, ⟨some 13, none, .bin .add,
  [.t 12, .c (.int .i64 1)]⟩, ⟨some 7, none, .mv, [.t 13]⟩]))).loop)).seq (((C.ops [⟨some 34, none, .mv, [.t 6]⟩, ⟨some 35, none, .bin .neq, [.t 34, .c (.int .i64 1)]⟩]).seq (C.cond
  (.t 35) ((C.ops [⟨some 4, none, .mv, [.c (.int .i64 0)]⟩]).seq C.ret) C.skip)).seq ((C.ops [⟨some 36, none, .mv, [.t 5]⟩, ⟨some 4, none, .mv, [.t 36]⟩]).seq
  C.ret)))))
theorem fn65l : FnIs Tryd.prog 65 37 0 [RV.tmp 4] c65l := ⟨Tryd.f65, Tryd.f65.body.getD .skip, [], [93, 67, 70, 45, 59], [], by kernel_rfl, by kernel_rfl, by kernel_rfl, by kernel_rfl, by kernel_rfl, by kernel_rfl, by kernel_rfl⟩
def c66l : C :=
  ((C.ops [⟨some 2, none, .mv, [.c (.int .i64 0)]⟩]).seq ((C.ops [⟨some 3, none, .mv, [.c (.int .i64 0)]⟩]).seq (((C.ops [⟨some 6, none, .mv, [.t 0]⟩, ⟨some 7, none, .slen, [.t 6]⟩,
  ⟨some 8, none, .mv, [.c (.int .i64 0)]⟩]).seq (C.block 0 ((C.ops [⟨some 9, none, .bin .lss, [.t 8, .t 7]⟩]).seq ((C.cond (.t 9) C.skip (C.exit 0)).seq ((C.block 1 ((C.ops [⟨some
  10, none, .mv, [.t 8]⟩, ⟨some 4, none, .mv, [.t 10]⟩]).seq ((C.ops [⟨some 11, none, .mv, [.t 0]⟩, ⟨some 12, none, .mv, [.t 4]⟩, ⟨some 13, none, .sidx, [.t 11, .t 12]⟩, ⟨some 14,
  none, .call 92 true, [.t 13]⟩, ⟨some 5, none, .mv, [.t 14]⟩]).seq ((C.ops [⟨some 15, none, .mv, [.t 5]⟩, ⟨some 16, none, .bin .eql, [.t 15, .c (.int .i64 1)]⟩, ⟨some 17, none, .mv,
  [.t 16]⟩, ⟨some 18, some (17, false), .mv, [.t 5]⟩, ⟨some 19, some (17, false), .bin .eql, [.t 18, .c (.int .i64 3)]⟩, ⟨some 20, none, .pick, [.t 17, .c (.bool true), .t 19]⟩]).seq
  (C.cond (.t 20) (C.ops [⟨some 21, none, .mv, [.t 3]⟩, ⟨some 22, none, .bin .add, [.t 21, .c (.int .i64 1)]⟩, ⟨some 3, none, .mv, [.t 22]⟩]) C.skip))))).seq (C.ops [⟨some 23, none,
  .bin .add, [.t 8, .c (.int .i64 1)]⟩, ⟨some 8, none, .mv, [.t 23]⟩])))).loop)).seq ((C.ops [⟨some 24, none, .mv, [.t 3]⟩, ⟨some 2, none, .mv, [.t 24]⟩]).seq
  C.ret))))
theorem fn66l : FnIs Tryd.prog 66 25 0 [RV.tmp 2] c66l := ⟨Tryd.f66, Tryd.f66.body.getD .skip, [], [93, 67, 70, 45, 59], [], by kernel_rfl, by kernel_rfl, by kernel_rfl, by kernel_rfl, by kernel_rfl, by kernel_rfl, by kernel_rfl⟩
def c67l : C :=
  ((C.ops [⟨some 4, none, .mv, [.c (.int .i64 0)]⟩, ⟨some 5, none, .mv, [.c .nilif]⟩]).seq ((C.ops [⟨some 6, none, .mv, [.t 0]⟩, ⟨some 7, none, .call 93 false, [.t 6]⟩]).seq ((C.ops
  [⟨some 8, none, .mv, [.t 0]⟩, ⟨some 9, none, .mv, [.t 0]⟩, ⟨some 10, none, .nilchk, [.t 9]⟩, ⟨some 11, none, .fldA 1, [.t 10]⟩, ⟨some 12, none, .load none, [.t 11]⟩, ⟨some 13,
  none, .mv, [.t 1]⟩, ⟨some 14, none, .apps 0 5, [.t 12, .t 13]⟩, ⟨some 15, none, .nilchk, [.t 8]⟩, ⟨some 16, none, .fldA 1, [.t 15]⟩, ⟨none, none, .store 1, [.t 16, .t 14]⟩]).seq
  ((C.ops [⟨some 17, none, .mv, [.t 1]⟩, ⟨some 18, none, .slen, [.t 17]⟩, ⟨some 4, none, .mv, [.t 18]⟩, ⟨some 5, none, .mv, [.c .nilif]⟩]).seq
  C.ret))))
theorem fn67l : FnIs Tryd.prog 67 19 1 [RV.tmp 4, RV.tmp 5] c67l := ⟨Tryd.f67, Tryd.f67.body.getD .skip, [14], [93, 67, 70, 45, 59], [], by kernel_rfl, by kernel_rfl, by kernel_rfl, by kernel_rfl, by kernel_rfl, by kernel_rfl, by kernel_rfl⟩
def c68l : C :=
  ((C.ops [⟨some 2, none, .mv, [.c (.str [])]⟩]).seq ((C.ops [⟨some 3, none, .mv, [.c (.int .i64 0)]⟩]).seq ((C.block 0 (((C.ops [⟨some 4, none, .mv, [.t 3]⟩, ⟨some 5, none, .mv, [.t
  0]⟩, ⟨some 6, none, .slen, [.t 5]⟩, ⟨some 7, none, .bin .lss, [.t 4, .t 6]⟩, ⟨some 8, none, .mv, [.t 7]⟩, ⟨some 9, some (8, true), .mv, [.t 0]⟩, ⟨some 10, some (8, true), .mv, [.t
  3]⟩, ⟨some 11, some (8, true), .mv, [.t 3]⟩, ⟨some 12, some (8, true), .bin .add, [.t 11, .c (.int .i64 1)]⟩, ⟨some 13, some (8, true), .sslc true true, [.t 9, .t 10, .t 12]⟩,
  ⟨some 14, some (8, true), .call 66 true, [.t 13]⟩, ⟨some 15, some (8, true), .bin .eql, [.t 14, .c (.int .i64 1)]⟩, ⟨some 16, none, .pick, [.t 8, .t 15, .c (.bool false)]⟩]).seq
  (C.cond (.t 16) C.skip (C.exit 0))).seq (C.block 1 (C.ops [⟨some 17, none, .mv, [.t 3]⟩, ⟨some 18, none, .bin .add, [.t 17, .c (.int .i64 1)]⟩, ⟨some 3, none, .mv, [.t
  18]⟩]))).loop).seq ((C.ops [⟨some 19, none, .mv, [.t 0]⟩, ⟨some 20, none, .mv, [.t 3]⟩, ⟨some 21, none, .sslc false true, [.t 19, .t 20]⟩, ⟨some 2, none, .mv, [.t 21]⟩]).seq
  C.ret))))
theorem fn68l : FnIs Tryd.prog 68 22 0 [RV.tmp 2] c68l := ⟨Tryd.f68, Tryd.f68.body.getD .skip, [], [93, 67, 70, 45, 59], [], by kernel_rfl, by kernel_rfl, by kernel_rfl, by kernel_rfl, by kernel_rfl, by kernel_rfl, by kernel_rfl⟩
def c69l : C :=
  ((C.ops [⟨some 2, none, .mv, [.c (.int .i64 0)]⟩]).seq ((C.ops [⟨some 3, none, .mv, [.t 0]⟩, ⟨some 4, none, .nilchk, [.t 3]⟩, ⟨some 5, none, .fldA 1, [.t 4]⟩, ⟨some 6, none, .load
  none, [.t 5]⟩, ⟨some 7, none, .len, [.t 6]⟩, ⟨some 2, none, .mv, [.t 7]⟩]).seq
  C.ret))
theorem fn69l : FnIs Tryd.prog 69 8 0 [RV.tmp 2] c69l := ⟨Tryd.f69, Tryd.f69.body.getD .skip, [], [93, 67, 70, 45, 59], [], by kernel_rfl, by kernel_rfl, by kernel_rfl, by kernel_rfl, by kernel_rfl, by kernel_rfl, by kernel_rfl⟩
def c72l : C :=
  ((C.ops [⟨some 2, none, .mv, [.c (.str [])]⟩]).seq ((C.ops [⟨some 3, none, .mv, [.t 0]⟩, ⟨some 4, none, .call 98 true, [.t 3, .c (.int .i64 10)]⟩, ⟨some 2, none, .mv, [.t 4]⟩]).seq
  C.ret))
theorem fn72l : FnIs Tryd.prog 72 5 0 [RV.tmp 2] c72l := ⟨Tryd.f72, Tryd.f72.body.getD .skip, [], [93, 67, 70, 45, 59], [], by kernel_rfl, by kernel_rfl, by kernel_rfl, by kernel_rfl, by kernel_rfl, by kernel_rfl, by kernel_rfl⟩
def c73l : C :=
  ((C.ops [⟨some 4, none, .mv, [.c (.str [])]⟩, ⟨some 5, none, .mv, [.c (.str [])]⟩, ⟨some 6, none, .mv, [.c (.bool false)]⟩]).seq (((C.ops [⟨some 8, none, .mv, [.t 0]⟩, ⟨some 9,
  none, .mv, [.t 1]⟩, ⟨some 10, none, .call 71 true, [.t 8, .t 9]⟩, ⟨some 7, none, .mv, [.t 10]⟩]).seq ((C.ops [⟨some 11, none, .mv, [.t 7]⟩, ⟨some 12, none, .bin .geq, [.t 11, .c
  (.int .i64 0)]⟩]).seq (C.cond (.t 12) ((C.ops [⟨some 13, none, .mv, [.t 0]⟩, ⟨some 14, none, .mv, [.t 7]⟩, ⟨some 15, none, .sslc false true, [.t 13, .t 14]⟩, ⟨some 16, none, .mv,
  [.t 0]⟩, ⟨some 17, none, .mv, [.t 7]⟩, ⟨some 18, none, .mv, [.t 1]⟩, ⟨some 19, none, .slen, [.t 18]⟩, ⟨some 20, none, .bin .add, [.t 17, .t 19]⟩, ⟨some 21, none, .sslc true false,
  [.t 16, .t 20]⟩, ⟨some 4, none, .mv, [.t 15]⟩, ⟨some 5, none, .mv, [.t 21]⟩, ⟨some 6, none, .mv, [.c (.bool true)]⟩]).seq C.ret) C.skip))).seq ((C.ops [⟨some 22, none, .mv, [.t
  0]⟩, ⟨some 4, none, .mv, [.t 22]⟩, ⟨some 5, none, .mv, [.c (.str [])]⟩, ⟨some 6, none, .mv, [.c (.bool false)]⟩]).seq
  C.ret)))
theorem fn73l : FnIs Tryd.prog 73 23 0 [RV.tmp 4, RV.tmp 5, RV.tmp 6] c73l := ⟨Tryd.f73, Tryd.f73.body.getD .skip, [], [93, 67, 70, 45, 59], [], by kernel_rfl, by kernel_rfl, by kernel_rfl, by kernel_rfl, by kernel_rfl, by kernel_rfl, by kernel_rfl⟩
def c76l : C :=
  ((C.ops [⟨some 2, none, .mv, [.c (.bool false)]⟩]).seq (((C.ops [⟨some 5, none, .mv, [.t 0]⟩, ⟨some 6, none, .slen, [.t 5]⟩, ⟨some 7, none, .bin .lss, [.t 6, .c (.int .i64 1)]⟩,
  ⟨some 8, none, .mv, [.t 7]⟩, ⟨some 9, some (8, false), .mv, [.t 0]⟩, ⟨some 10, some (8, false), .slen, [.t 9]⟩, ⟨some 11, some (8, false), .bin .gtr, [.t 10, .c (.int .i64 64)]⟩,
  ⟨some 12, none, .pick, [.t 8, .c (.bool true), .t 11]⟩, ⟨some 13, none, .mv, [.t 12]⟩, ⟨some 14, some (13, false), .mv, [.t 0]⟩, ⟨some 15, some (13, false), .call 104 true, [.t
  14]⟩, ⟨some 16, some (13, false), .bin .neq, [.t 15, .c (.int .i64 0)]⟩, ⟨some 17, none, .pick, [.t 13, .c (.bool true), .t 16]⟩]).seq (C.cond (.t 17) ((C.ops [⟨some 2, none, .mv,
  [.c (.bool false)]⟩]).seq C.ret) C.skip)).seq (((C.ops [⟨some 18, none, .mv, [.t 0]⟩, ⟨some 19, none, .sidx, [.t 18, .c (.int .i64 0)]⟩, ⟨some 20, none, .call 55 true, [.t 19]⟩,
  ⟨some 3, none, .mv, [.t 20]⟩]).seq ((C.ops [⟨some 21, none, .mv, [.t 3]⟩, ⟨some 22, none, .bin .neq, [.t 21, .c (.int .i64 1)]⟩, ⟨some 23, none, .mv, [.t 22]⟩, ⟨some 24, some (23,
  true), .mv, [.t 3]⟩, ⟨some 25, some (23, true), .bin .neq, [.t 24, .c (.int .i64 3)]⟩, ⟨some 26, none, .pick, [.t 23, .t 25, .c (.bool false)]⟩]).seq (C.cond (.t 26) ((C.ops [⟨some
  2, none, .mv, [.c (.bool false)]⟩]).seq C.ret) C.skip))).seq (((C.ops [⟨some 4, none, .mv, [.c (.int .i64 0)]⟩]).seq (C.block 0 (((C.ops [⟨some 27, none, .mv, [.t 4]⟩, ⟨some 28,
  none, .mv, [.t 0]⟩, ⟨some 29, none, .slen, [.t 28]⟩, ⟨some 30, none, .bin .lss, [.t 27, .t 29]⟩]).seq (C.cond (.t 30) C.skip (C.exit 0))).seq ((C.block 1 ((C.ops [⟨some 33, none,
  .mv, [.t 0]⟩, ⟨some 34, none, .mv, [.t 4]⟩, ⟨some 35, none, .sidx, [.t 33, .t 34]⟩, ⟨some 36, none, .call 55 true, [.t 35]⟩, ⟨some 37, none, .bin .gtr, [.t 36, .c (.int .i64
  4)]⟩]).seq (C.cond (.t 37) ((C.ops [⟨some 2, none, .mv, [.c (.bool false)]⟩]).seq C.ret) C.skip))).seq (C.ops [⟨some 31, none, .mv, [.t 4]⟩, ⟨some 32, none, .bin .add, [.t 31, .c
  (.int .i64 1)]⟩, ⟨some 4, none, .mv, [.t 32]⟩]))).loop)).seq ((C.ops [⟨some 2, none, .mv, [.c (.bool true)]⟩]).seq
  C.ret)))))
theorem fn76l : FnIs Tryd.prog 76 38 0 [RV.tmp 2] c76l := ⟨Tryd.f76, Tryd.f76.body.getD .skip, [], [93, 67, 70, 45, 59], [], by kernel_rfl, by kernel_rfl, by kernel_rfl, by kernel_rfl, by kernel_rfl, by kernel_rfl, by kernel_rfl⟩
def c77l : C :=
  ((C.ops [⟨some 2, none, .mv, [.c (.int .i64 0)]⟩]).seq ((C.ops [⟨some 3, none, .mv, [.c (.int .i64 0)]⟩]).seq (((C.ops [⟨some 4, none, .mv, [.c (.int .i64 0)]⟩]).seq (C.block 0
  (((C.ops [⟨some 6, none, .mv, [.t 4]⟩, ⟨some 7, none, .mv, [.t 0]⟩, ⟨some 8, none, .slen, [.t 7]⟩, ⟨some 9, none, .bin .lss, [.t 6, .t 8]⟩]).seq (C.cond (.t 9) C.skip (C.exit
  0))).seq ((C.block 1 ((C.ops [⟨some 12, none, .mv, [.t 0]⟩, ⟨some 13, none, .mv, [.t 4]⟩, ⟨some 14, none, .sidx, [.t 12, .t 13]⟩, ⟨some 15, none, .call 55 true, [.t 14]⟩, ⟨some 5,
  none, .mv, [.t 15]⟩]).seq ((C.ops [⟨some 16, none, .mv, [.t 5]⟩, ⟨some 17, none, .bin .eql, [.t 16, .c (.int .i64 1)]⟩, ⟨some 18, none, .mv, [.t 17]⟩, ⟨some 19, some (18, false),
  .mv, [.t 5]⟩, ⟨some 20, some (18, false), .bin .eql, [.t 19, .c (.int .i64 3)]⟩, ⟨some 21, none, .pick, [.t 18, .c (.bool true), .t 20]⟩]).seq (C.cond (.t 21) (C.ops [⟨some 22,
  none, .mv, [.t 3]⟩, ⟨some 23, none, .bin .add, [.t 22, .c (.int .i64 1)]⟩, ⟨some 3, none, .mv, [.t 23]⟩]) C.skip)))).seq (C.ops [⟨some 10, none, .mv, [.t 4]⟩, ⟨some 11, none, .bin
  .add, [.t 10, .c (.int .i64 1)]⟩, ⟨some 4, none, .mv, [.t 11]⟩]))).loop)).seq ((C.ops [⟨some 24, none, .mv, [.t 3]⟩, ⟨some 2, none, .mv, [.t 24]⟩]).seq
  C.ret))))
theorem fn77l : FnIs Tryd.prog 77 25 0 [RV.tmp 2] c77l := ⟨Tryd.f77, Tryd.f77.body.getD .skip, [], [93, 67, 70, 45, 59], [], by kernel_rfl, by kernel_rfl, by kernel_rfl, by kernel_rfl, by kernel_rfl, by kernel_rfl, by kernel_rfl⟩
def c89l : C :=
  ((C.ops [⟨some 1, none, .box 0 57, [.t 0]⟩, ⟨some 2, none, .mv, [.c (.int .i64 0)]⟩]).seq ((C.block 0 ((C.ops [⟨some 4, none, .fldA 0, [.t 1]⟩, ⟨some 5, none, .load none, [.t 4]⟩,
  ⟨some 6, none, .bin .lss, [.t 5, .c (.int .i64 1)]⟩, ⟨some 7, none, .mv, [.t 6]⟩, ⟨some 8, some (7, false), .fldA 0, [.t 1]⟩, ⟨some 9, some (7, false), .load none, [.t 8]⟩, ⟨some
  10, some (7, false), .bin .gtr, [.t 9, .c (.int .i64 3)]⟩, ⟨some 11, none, .pick, [.t 7, .c (.bool true), .t 10]⟩, ⟨some 3, none, .mv, [.t 11]⟩]).seq (C.cond (.t 3) ((C.ops [⟨some
  2, none, .mv, [.c (.int .i64 8)]⟩]).seq C.ret) ((C.ops [⟨some 13, none, .fldA 1, [.t 1]⟩, ⟨some 14, none, .load none, [.t 13]⟩, ⟨some 15, none, .call 110 true, [.t 14]⟩, ⟨some 16,
  none, .un UnOp.not, [.t 15]⟩, ⟨some 17, none, .mv, [.t 16]⟩, ⟨some 18, some (17, false), .fldA 2, [.t 1]⟩, ⟨some 19, some (17, false), .load none, [.t 18]⟩, ⟨some 20, some (17,
  false), .call 110 true, [.t 19]⟩, ⟨some 21, some (17, false), .un UnOp.not, [.t 20]⟩, ⟨some 22, none, .pick, [.t 17, .c (.bool true), .t 21]⟩, ⟨some 23, none, .mv, [.t 22]⟩, ⟨some
  24, some (23, false), .fldA 3, [.t 1]⟩, ⟨some 25, some (23, false), .load none, [.t 24]⟩, ⟨some 26, some (23, false), .call 110 true, [.t 25]⟩, ⟨some 27, some (23, false), .un
  UnOp.not, [.t 26]⟩, ⟨some 28, none, .pick, [.t 23, .c (.bool true), .t 27]⟩, ⟨some 12, none, .mv, [.t 28]⟩]).seq (C.cond (.t 12) ((C.ops [⟨some 2, none, .mv, [.c (.int .i64
  2)]⟩]).seq C.ret) ((C.ops [⟨some 30, none, .fldA 4, [.t 1]⟩, ⟨some 31, none, .load none, [.t 30]⟩, ⟨some 32, none, .bin .neq, [.t 31, .c (.int .i64 (-10000))]⟩, ⟨some 33, none,
  .mv, [.t 32]⟩, ⟨some 34, some (33, true), .fldA 4, [.t 1]⟩, ⟨some 35, some (33, true), .load none, [.t 34]⟩, ⟨some 36, some (33, true), .bin .lss, [.t 35, .c (.int .i64 0)]⟩, ⟨some
  37, some (33, true), .mv, [.t 36]⟩, ⟨some 38, some (37, false), .fldA 4, [.t 1]⟩, ⟨some 39, some (37, false), .load none, [.t 38]⟩, ⟨some 40, some (37, false), .bin .gtr, [.t 39,
  .c (.int .i64 10000)]⟩, ⟨some 41, some (33, true), .pick, [.t 37, .c (.bool true), .t 40]⟩, ⟨some 42, none, .pick, [.t 33, .t 41, .c (.bool false)]⟩, ⟨some 29, none, .mv, [.t
  42]⟩]).seq (C.cond (.t 29) ((C.ops [⟨some 2, none, .mv, [.c (.int .i64 2)]⟩]).seq C.ret) C.skip))))))).seq (((C.ops [⟨some 43, none, .fldA 0, [.t 1]⟩, ⟨some 44, none, .load none,
  [.t 43]⟩, ⟨some 45, none, .bin .neq, [.t 44, .c (.int .i64 2)]⟩, ⟨some 46, none, .mv, [.t 45]⟩, ⟨some 47, some (46, true), .fldA 2, [.t 1]⟩, ⟨some 48, some (46, true), .load none,
  [.t 47]⟩, ⟨some 49, some (46, true), .bin .neq, [.t 48, .c (.int .i64 0)]⟩, ⟨some 50, some (46, true), .mv, [.t 49]⟩, ⟨some 51, some (50, false), .fldA 3, [.t 1]⟩, ⟨some 52, some
  (50, false), .load none, [.t 51]⟩, ⟨some 53, some (50, false), .bin .neq, [.t 52, .c (.int .i64 0)]⟩, ⟨some 54, some (46, true), .pick, [.t 50, .c (.bool true), .t 53]⟩, ⟨some 55,
  none, .pick, [.t 46, .t 54, .c (.bool false)]⟩, ⟨some 56, none, .mv, [.t 55]⟩, ⟨some 57, some (56, false), .fldA 0, [.t 1]⟩, ⟨some 58, some (56, false), .load none, [.t 57]⟩, ⟨some
  59, some (56, false), .bin .neq, [.t 58, .c (.int .i64 3)]⟩, ⟨some 60, some (56, false), .mv, [.t 59]⟩, ⟨some 61, some (60, true), .fldA 4, [.t 1]⟩, ⟨some 62, some (60, true),
  .load none, [.t 61]⟩, ⟨some 63, some (60, true), .bin .neq, [.t 62, .c (.int .i64 0)]⟩, ⟨some 64, some (56, false), .pick, [.t 60, .t 63, .c (.bool false)]⟩, ⟨some 65, none, .pick,
  [.t 56, .c (.bool true), .t 64]⟩, ⟨some 66, none, .mv, [.t 65]⟩, ⟨some 67, some (66, false), .fldA 0, [.t 1]⟩, ⟨some 68, some (66, false), .load none, [.t 67]⟩, ⟨some 69, some (66,
  false), .bin .eql, [.t 68, .c (.int .i64 2)]⟩, ⟨some 70, some (66, false), .mv, [.t 69]⟩, ⟨some 71, some (70, true), .fldA 5, [.t 1]⟩, ⟨some 72, some (70, true), .load none, [.t
  71]⟩, ⟨some 73, some (70, true), .bin .neq, [.t 72, .c (.str [])]⟩, ⟨some 74, some (66, false), .pick, [.t 70, .t 73, .c (.bool false)]⟩, ⟨some 75, none, .pick, [.t 66, .c (.bool
  true), .t 74]⟩]).seq (C.cond (.t 75) ((C.ops [⟨some 2, none, .mv, [.c (.int .i64 1)]⟩]).seq C.ret) C.skip)).seq ((C.ops [⟨some 2, none, .mv, [.c (.int .i64 0)]⟩]).seq
  C.ret))))
theorem fn89l : FnIs Tryd.prog 89 76 1 [RV.tmp 2] c89l := ⟨Tryd.f89, Tryd.f89.body.getD .skip, [1], [93, 67, 70, 45, 59], [], by kernel_rfl, by kernel_rfl, by kernel_rfl, by kernel_rfl, by kernel_rfl, by kernel_rfl, by kernel_rfl⟩
def c90l : C :=
  ((C.ops [⟨some 3, none, .mv, [.c (.int .i64 (-1))]⟩, ⟨some 4, none, .mv, [.c (.int .i64 (-1))]⟩]).seq (((C.ops [⟨some 7, none, .load none, [.t 1]⟩, ⟨some 8, none, .len, [.t 7]⟩,
  ⟨some 9, none, .mv, [.c (.int .i64 0)]⟩]).seq (C.block 0 ((C.ops [⟨some 10, none, .bin .lss, [.t 9, .t 8]⟩]).seq ((C.cond (.t 10) C.skip (C.exit 0)).seq ((C.block 1 ((C.ops [⟨some
  11, none, .mv, [.t 9]⟩, ⟨some 12, none, .idxA 6, [.t 7, .t 9]⟩, ⟨some 13, none, .load (some 6), [.t 12]⟩, ⟨some 6, none, .alloc 0 57 [.int .i64 0, .int .i64 0, .int .i64 0, .int
  .i64 0, .int .i64 0, .str []], []⟩, ⟨some 5, none, .mv, [.t 11]⟩, ⟨none, none, .store 6, [.t 6, .t 13]⟩]).seq (((C.ops [⟨some 14, none, .fldA 0, [.t 6]⟩, ⟨some 15, none, .load
  none, [.t 14]⟩, ⟨some 16, none, .bin .neq, [.t 15, .c (.int .i64 1)]⟩]).seq (C.cond (.t 16) (C.exit 1) C.skip)).seq (((C.ops [⟨some 17, none, .mv, [.t 5]⟩, ⟨some 18, none, .bin
  .geq, [.t 17, .c (.int .i64 2)]⟩, ⟨some 19, none, .mv, [.t 18]⟩, ⟨some 20, some (19, true), .load none, [.t 1]⟩, ⟨some 21, some (19, true), .mv, [.t 5]⟩, ⟨some 22, some (19, true),
  .bin .sub, [.t 21, .c (.int .i64 1)]⟩, ⟨some 23, some (19, true), .idxA 6, [.t 20, .t 22]⟩, ⟨some 24, some (19, true), .fldA 0, [.t 23]⟩, ⟨some 25, some (19, true), .load none, [.t
  24]⟩, ⟨some 26, some (19, true), .bin .eql, [.t 25, .c (.int .i64 3)]⟩, ⟨some 27, none, .pick, [.t 19, .t 26, .c (.bool false)]⟩, ⟨some 28, none, .mv, [.t 27]⟩, ⟨some 29, some (28,
  true), .load none, [.t 1]⟩, ⟨some 30, some (28, true), .mv, [.t 5]⟩, ⟨some 31, some (28, true), .bin .sub, [.t 30, .c (.int .i64 1)]⟩, ⟨some 32, some (28, true), .idxA 6, [.t 29,
  .t 31]⟩, ⟨some 33, some (28, true), .fldA 4, [.t 32]⟩, ⟨some 34, some (28, true), .load none, [.t 33]⟩, ⟨some 35, some (28, true), .bin .neq, [.t 34, .c (.int .i64 (-10000))]⟩,
  ⟨some 36, none, .pick, [.t 28, .t 35, .c (.bool false)]⟩, ⟨some 37, none, .mv, [.t 36]⟩, ⟨some 38, some (37, true), .load none, [.t 1]⟩, ⟨some 39, some (37, true), .mv, [.t 5]⟩,
  ⟨some 40, some (37, true), .bin .sub, [.t 39, .c (.int .i64 2)]⟩, ⟨some 41, some (37, true), .idxA 6, [.t 38, .t 40]⟩, ⟨some 42, some (37, true), .fldA 0, [.t 41]⟩, ⟨some 43, some
  (37, true), .load none, [.t 42]⟩, ⟨some 44, some (37, true), .bin .eql, [.t 43, .c (.int .i64 1)]⟩, ⟨some 45, none, .pick, [.t 37, .t 44, .c (.bool false)]⟩]).seq (C.cond (.t 45)
  ((C.ops [⟨some 46, none, .mv, [.t 5]⟩, ⟨some 4, none, .mv, [.t 46]⟩]).seq (C.exit 1)) C.skip)).seq (((C.ops [⟨some 47, none, .mv, [.t 3]⟩, ⟨some 48, none, .bin .geq, [.t 47, .c
  (.int .i64 0)]⟩, ⟨some 49, none, .mv, [.t 48]⟩, ⟨some 50, some (49, true), .mv, [.t 0]⟩, ⟨some 51, some (49, true), .mv, [.t 3]⟩, ⟨some 52, some (49, true), .mv, [.t 4]⟩, ⟨some 53,
  some (49, true), .callv, [.t 50, .t 51, .t 52]⟩, ⟨some 54, some (49, true), .un UnOp.not, [.t 53]⟩, ⟨some 55, none, .pick, [.t 49, .t 54, .c (.bool false)]⟩]).seq (C.cond (.t 55)
  C.ret C.skip)).seq (C.ops [⟨some 56, none, .mv, [.t 5]⟩, ⟨some 57, none, .mv, [.t 5]⟩, ⟨some 3, none, .mv, [.t 56]⟩, ⟨some 4, none, .mv, [.t 57]⟩])))))).seq (C.ops [⟨some 58, none,
  .bin .add, [.t 9, .c (.int .i64 1)]⟩, ⟨some 9, none, .mv, [.t 58]⟩])))).loop)).seq ((C.ops [⟨some 59, none, .mv, [.t 3]⟩, ⟨some 60, none, .bin .geq, [.t 59, .c (.int .i64
  0)]⟩]).seq (C.cond (.t 60) (C.ops [⟨some 61, none, .mv, [.t 0]⟩, ⟨some 62, none, .mv, [.t 3]⟩, ⟨some 63, none, .mv, [.t 4]⟩, ⟨some 64, none, .callv, [.t 61, .t 62, .t 63]⟩])
  C.skip))))
theorem fn90l : FnIs Tryd.prog 90 65 1 [] c90l := ⟨Tryd.f90, Tryd.f90.body.getD .skip, [6], [93, 67, 70, 45, 59], [], by kernel_rfl, by kernel_rfl, by kernel_rfl, by kernel_rfl, by kernel_rfl, by kernel_rfl, by kernel_rfl⟩
def c91l : C :=
  ((C.ops [⟨some 1, none, .box 0 57, [.t 0]⟩, ⟨some 2, none, .mv, [.c (.int .i64 0)]⟩]).seq (((C.ops [⟨some 3, none, .fldA 0, [.t 1]⟩, ⟨some 4, none, .load none, [.t 3]⟩, ⟨some 5,
  none, .bin .neq, [.t 4, .c (.int .i64 1)]⟩, ⟨some 6, none, .mv, [.t 5]⟩, ⟨some 7, some (6, true), .fldA 0, [.t 1]⟩, ⟨some 8, some (6, true), .load none, [.t 7]⟩, ⟨some 9, some (6,
  true), .bin .neq, [.t 8, .c (.int .i64 2)]⟩, ⟨some 10, none, .pick, [.t 6, .t 9, .c (.bool false)]⟩, ⟨some 11, none, .mv, [.t 10]⟩, ⟨some 12, some (11, true), .fldA 0, [.t 1]⟩,
  ⟨some 13, some (11, true), .load none, [.t 12]⟩, ⟨some 14, some (11, true), .bin .neq, [.t 13, .c (.int .i64 3)]⟩, ⟨some 15, none, .pick, [.t 11, .t 14, .c (.bool false)]⟩]).seq
  (C.cond (.t 15) ((C.ops [⟨some 2, none, .mv, [.c (.int .i64 8)]⟩]).seq C.ret) C.skip)).seq (((C.ops [⟨some 16, none, .fldA 1, [.t 1]⟩, ⟨some 17, none, .load none, [.t 16]⟩, ⟨some
  18, none, .call 111 true, [.t 17]⟩, ⟨some 19, none, .un UnOp.not, [.t 18]⟩, ⟨some 20, none, .mv, [.t 19]⟩, ⟨some 21, some (20, false), .fldA 2, [.t 1]⟩, ⟨some 22, some (20, false),
  .load none, [.t 21]⟩, ⟨some 23, some (20, false), .call 111 true, [.t 22]⟩, ⟨some 24, some (20, false), .un UnOp.not, [.t 23]⟩, ⟨some 25, none, .pick, [.t 20, .c (.bool true), .t
  24]⟩, ⟨some 26, none, .mv, [.t 25]⟩, ⟨some 27, some (26, false), .fldA 3, [.t 1]⟩, ⟨some 28, some (26, false), .load none, [.t 27]⟩, ⟨some 29, some (26, false), .call 111 true, [.t
  28]⟩, ⟨some 30, some (26, false), .un UnOp.not, [.t 29]⟩, ⟨some 31, none, .pick, [.t 26, .c (.bool true), .t 30]⟩, ⟨some 32, none, .mv, [.t 31]⟩, ⟨some 33, some (32, false), .fldA
  4, [.t 1]⟩, ⟨some 34, some (32, false), .load none, [.t 33]⟩, ⟨some 35, some (32, false), .bin .lss, [.t 34, .c (.int .i64 0)]⟩, ⟨some 36, some (32, false), .mv, [.t 35]⟩, ⟨some
  37, some (36, true), .fldA 4, [.t 1]⟩, ⟨some 38, some (36, true), .load none, [.t 37]⟩, ⟨some 39, some (36, true), .bin .neq, [.t 38, .c (.int .i64 (-10000))]⟩, ⟨some 40, some (32,
  false), .pick, [.t 36, .t 39, .c (.bool false)]⟩, ⟨some 41, none, .pick, [.t 32, .c (.bool true), .t 40]⟩, ⟨some 42, none, .mv, [.t 41]⟩, ⟨some 43, some (42, false), .fldA 4, [.t
  1]⟩, ⟨some 44, some (42, false), .load none, [.t 43]⟩, ⟨some 45, some (42, false), .bin .gtr, [.t 44, .c (.int .i64 10000)]⟩, ⟨some 46, none, .pick, [.t 42, .c (.bool true), .t
  45]⟩]).seq (C.cond (.t 46) ((C.ops [⟨some 2, none, .mv, [.c (.int .i64 2)]⟩]).seq C.ret) C.skip)).seq (((C.ops [⟨some 47, none, .fldA 0, [.t 1]⟩, ⟨some 48, none, .load none, [.t
  47]⟩, ⟨some 49, none, .bin .neq, [.t 48, .c (.int .i64 2)]⟩, ⟨some 50, none, .mv, [.t 49]⟩, ⟨some 51, some (50, true), .fldA 2, [.t 1]⟩, ⟨some 52, some (50, true), .load none, [.t
  51]⟩, ⟨some 53, some (50, true), .bin .neq, [.t 52, .c (.int .i64 0)]⟩, ⟨some 54, some (50, true), .mv, [.t 53]⟩, ⟨some 55, some (54, false), .fldA 3, [.t 1]⟩, ⟨some 56, some (54,
  false), .load none, [.t 55]⟩, ⟨some 57, some (54, false), .bin .neq, [.t 56, .c (.int .i64 0)]⟩, ⟨some 58, some (50, true), .pick, [.t 54, .c (.bool true), .t 57]⟩, ⟨some 59, none,
  .pick, [.t 50, .t 58, .c (.bool false)]⟩, ⟨some 60, none, .mv, [.t 59]⟩, ⟨some 61, some (60, false), .fldA 0, [.t 1]⟩, ⟨some 62, some (60, false), .load none, [.t 61]⟩, ⟨some 63,
  some (60, false), .bin .neq, [.t 62, .c (.int .i64 3)]⟩, ⟨some 64, some (60, false), .mv, [.t 63]⟩, ⟨some 65, some (64, true), .fldA 4, [.t 1]⟩, ⟨some 66, some (64, true), .load
  none, [.t 65]⟩, ⟨some 67, some (64, true), .bin .neq, [.t 66, .c (.int .i64 0)]⟩, ⟨some 68, some (60, false), .pick, [.t 64, .t 67, .c (.bool false)]⟩, ⟨some 69, none, .pick, [.t
  60, .c (.bool true), .t 68]⟩, ⟨some 70, none, .mv, [.t 69]⟩, ⟨some 71, some (70, false), .fldA 0, [.t 1]⟩, ⟨some 72, some (70, false), .load none, [.t 71]⟩, ⟨some 73, some (70,
  false), .bin .eql, [.t 72, .c (.int .i64 2)]⟩, ⟨some 74, some (70, false), .mv, [.t 73]⟩, ⟨some 75, some (74, true), .fldA 5, [.t 1]⟩, ⟨some 76, some (74, true), .load none, [.t
  75]⟩, ⟨some 77, some (74, true), .bin .neq, [.t 76, .c (.str [])]⟩, ⟨some 78, some (70, false), .pick, [.t 74, .t 77, .c (.bool false)]⟩, ⟨some 79, none, .pick, [.t 70, .c (.bool
  true), .t 78]⟩]).seq (C.cond (.t 79) ((C.ops [⟨some 2, none, .mv, [.c (.int .i64 1)]⟩]).seq C.ret) C.skip)).seq ((C.ops [⟨some 2, none, .mv, [.c (.int .i64 0)]⟩]).seq
  C.ret)))))
theorem fn91l : FnIs Tryd.prog 91 80 1 [RV.tmp 2] c91l := ⟨Tryd.f91, Tryd.f91.body.getD .skip, [1], [93, 67, 70, 45, 59], [], by kernel_rfl, by kernel_rfl, by kernel_rfl, by kernel_rfl, by kernel_rfl, by kernel_rfl, by kernel_rfl⟩
def c92l : C :=
  ((C.ops [⟨some 2, none, .mv, [.c (.int .i64 0)]⟩]).seq ((C.block 0 ((C.ops [⟨some 4, none, .mv, [.t 0]⟩, ⟨some 5, none, .bin .geq, [.t 4, .c (.int .u8 97)]⟩, ⟨some 6, none, .mv,
  [.t 5]⟩, ⟨some 7, some (6, true), .mv, [.t 0]⟩, ⟨some 8, some (6, true), .bin .leq, [.t 7, .c (.int .u8 122)]⟩, ⟨some 9, none, .pick, [.t 6, .t 8, .c (.bool false)]⟩, ⟨some 10,
  none, .mv, [.t 9]⟩, ⟨some 11, some (10, false), .mv, [.t 0]⟩, ⟨some 12, some (10, false), .bin .geq, [.t 11, .c (.int .u8 65)]⟩, ⟨some 13, some (10, false), .mv, [.t 12]⟩, ⟨some
  14, some (13, true), .mv, [.t 0]⟩, ⟨some 15, some (13, true), .bin .leq, [.t 14, .c (.int .u8 90)]⟩, ⟨some 16, some (10, false), .pick, [.t 13, .t 15, .c (.bool false)]⟩, ⟨some 17,
  none, .pick, [.t 10, .c (.bool true), .t 16]⟩, ⟨some 3, none, .mv, [.t 17]⟩]).seq (C.cond (.t 3) ((C.ops [⟨some 2, none, .mv, [.c (.int .i64 1)]⟩]).seq C.ret) ((C.ops [⟨some 19,
  none, .mv, [.t 0]⟩, ⟨some 20, none, .bin .eql, [.t 19, .c (.int .u8 94)]⟩, ⟨some 21, none, .mv, [.t 20]⟩, ⟨some 22, some (21, false), .mv, [.t 0]⟩, ⟨some 23, some (21, false), .bin
  .eql, [.t 22, .c (.int .u8 126)]⟩, ⟨some 24, none, .pick, [.t 21, .c (.bool true), .t 23]⟩, ⟨some 25, none, .mv, [.t 24]⟩, ⟨some 26, some (25, false), .mv, [.t 0]⟩, ⟨some 27, some
  (25, false), .bin .eql, [.t 26, .c (.int .u8 37)]⟩, ⟨some 28, none, .pick, [.t 25, .c (.bool true), .t 27]⟩, ⟨some 18, none, .mv, [.t 28]⟩]).seq (C.cond (.t 18) ((C.ops [⟨some 2,
  none, .mv, [.c (.int .i64 2)]⟩]).seq C.ret) ((C.ops [⟨some 30, none, .mv, [.t 0]⟩, ⟨some 31, none, .bin .geq, [.t 30, .c (.int .u8 48)]⟩, ⟨some 32, none, .mv, [.t 31]⟩, ⟨some 33,
  some (32, true), .mv, [.t 0]⟩, ⟨some 34, some (32, true), .bin .leq, [.t 33, .c (.int .u8 57)]⟩, ⟨some 35, none, .pick, [.t 32, .t 34, .c (.bool false)]⟩, ⟨some 29, none, .mv, [.t
  35]⟩]).seq (C.cond (.t 29) ((C.ops [⟨some 2, none, .mv, [.c (.int .i64 3)]⟩]).seq C.ret) ((C.ops [⟨some 37, none, .mv, [.t 0]⟩, ⟨some 38, none, .bin .eql, [.t 37, .c (.int .u8
  39)]⟩, ⟨some 36, none, .mv, [.t 38]⟩]).seq (C.cond (.t 36) ((C.ops [⟨some 2, none, .mv, [.c (.int .i64 4)]⟩]).seq C.ret) ((C.ops [⟨some 40, none, .mv, [.t 0]⟩, ⟨some 41, none, .bin
  .eql, [.t 40, .c (.int .u8 32)]⟩, ⟨some 39, none, .mv, [.t 41]⟩]).seq (C.cond (.t 39) ((C.ops [⟨some 2, none, .mv, [.c (.int .i64 6)]⟩]).seq C.ret) ((C.ops [⟨some 43, none, .mv,
  [.t 0]⟩, ⟨some 44, none, .bin .neq, [.t 43, .c (.int .u8 0)]⟩, ⟨some 45, none, .mv, [.t 44]⟩, ⟨some 46, some (45, true), .mv, [.t 0]⟩, ⟨some 47, some (45, true), .call 112 true,
  [.c (.str [46, 44, 59, 58, 33, 63, 40, 41, 45]), .t 46]⟩, ⟨some 48, some (45, true), .bin .geq, [.t 47, .c (.int .i64 0)]⟩, ⟨some 49, none, .pick, [.t 45, .t 48, .c (.bool
  false)]⟩, ⟨some 42, none, .mv, [.t 49]⟩]).seq (C.cond (.t 42) ((C.ops [⟨some 2, none, .mv, [.c (.int .i64 5)]⟩]).seq C.ret) C.skip))))))))))))).seq ((C.ops [⟨some 2, none, .mv, [.c
  (.int .i64 0)]⟩]).seq
  C.ret)))
theorem fn92l : FnIs Tryd.prog 92 50 0 [RV.tmp 2] c92l := ⟨Tryd.f92, Tryd.f92.body.getD .skip, [], [93, 67, 70, 45, 59], [], by kernel_rfl, by kernel_rfl, by kernel_rfl, by kernel_rfl, by kernel_rfl, by kernel_rfl, by kernel_rfl⟩
def c98l : C :=
  ((C.ops [⟨some 4, none, .mv, [.c (.str [])]⟩]).seq (((C.ops [⟨some 10, none, .mv, [.t 1]⟩, ⟨some 11, none, .bin .eql, [.t 10, .c (.int .i64 10)]⟩]).seq (C.cond (.t 11) (((C.ops
  [⟨some 12, none, .mv, [.t 0]⟩, ⟨some 13, none, .bin .leq, [.c (.int .i64 0), .t 12]⟩, ⟨some 14, none, .mv, [.t 13]⟩, ⟨some 15, some (14, true), .mv, [.t 0]⟩, ⟨some 16, some (14,
  true), .bin .lss, [.t 15, .c (.int .i64 100)]⟩, ⟨some 17, none, .pick, [.t 14, .t 16, .c (.bool false)]⟩]).seq (C.cond (.t 17) ((C.ops [⟨some 18, none, .mv, [.t 0]⟩, ⟨some 19,
  none, .call 116 true, [.t 18]⟩, ⟨some 4, none, .mv, [.t 19]⟩]).seq C.ret) C.skip)).seq ((C.ops [⟨some 5, none, .alloc 0 138 [.int .u8 0, .int .u8 0, .int .u8 0, .int .u8 0, .int
  .u8 0, .int .u8 0, .int .u8 0, .int .u8 0, .int .u8 0, .int .u8 0, .int .u8 0, .int .u8 0, .int .u8 0, .int .u8 0, .int .u8 0, .int .u8 0, .int .u8 0, .int .u8 0, .int .u8 0, .int
  .u8 0, .int .u8 0, .int .u8 0, .int .u8 0, .int .u8 0], []⟩]).seq ((C.ops [⟨some 20, none, .mv, [.t 0]⟩, ⟨some 21, none, .conv .u64, [.t 20]⟩, ⟨some 6, none, .mv, [.t 21]⟩]).seq
  (((C.ops [⟨some 22, none, .mv, [.t 0]⟩, ⟨some 23, none, .bin .lss, [.t 22, .c (.int .i64 0)]⟩]).seq (C.cond (.t 23) (C.ops [⟨some 24, none, .mv, [.t 6]⟩, ⟨some 25, none, .un
  UnOp.neg, [.t 24]⟩, ⟨some 6, none, .mv, [.t 25]⟩]) C.skip)).seq ((C.ops [⟨some 26, none, .mv, [.t 6]⟩, ⟨some 27, none, .call 117 true, [.t 26]⟩, ⟨some 7, none, .mv, [.t 27]⟩]).seq
  (C.bad.seq (((C.ops [⟨some 33, none, .mv, [.t 0]⟩, ⟨some 34, none, .bin .lss, [.t 33, .c (.int .i64 0)]⟩]).seq (C.cond (.t 34) ((C.ops [⟨some 35, none, .idxArr 24 1, [.t 5, .c
  (.int .i64 0)]⟩, ⟨none, none, .store 1, [.t 35, .c (.int .u8 45)]⟩]).seq (C.bad.seq C.ret)) C.skip)).seq (C.bad.seq C.ret)))))))) C.skip)).seq ((C.ops [⟨some 45, none, .mv, [.t
  0]⟩, ⟨some 46, none, .conv .u64, [.t 45]⟩, ⟨some 47, none, .mv, [.t 1]⟩, ⟨some 48, none, .mv, [.t 0]⟩, ⟨some 49, none, .bin .lss, [.t 48, .c (.int .i64 0)]⟩, ⟨some 50, none, .call
  119 true, [.c .nl, .t 46, .t 47, .t 49, .c (.bool false)]⟩, ⟨some 44, none, .mv, [.t 50]⟩, ⟨some 51, none, .ext 0, [.t 44]⟩, ⟨some 52, none, .ext 1, [.t 44]⟩, ⟨some 8, none, .mv,
  [.t 51]⟩, ⟨some 9, none, .mv, [.t 52]⟩]).seq ((C.ops [⟨some 53, none, .mv, [.t 9]⟩, ⟨some 4, none, .mv, [.t 53]⟩]).seq
  C.ret))))
theorem fn98l : FnIs Tryd.prog 98 54 1 [RV.tmp 4] c98l := ⟨Tryd.f98, Tryd.f98.body.getD .skip, [5], [93, 67, 70, 45, 59], [], by kernel_rfl, by kernel_rfl, by kernel_rfl, by kernel_rfl, by kernel_rfl, by kernel_rfl, by kernel_rfl⟩
def c104l : C :=
  ((C.ops [⟨some 2, none, .mv, [.c (.int .i64 0)]⟩]).seq (((C.ops [⟨some 6, none, .mv, [.t 0]⟩, ⟨some 7, none, .slen, [.t 6]⟩, ⟨some 8, none, .bin .gtr, [.t 7, .c (.int .i64
  65536)]⟩]).seq (C.cond (.t 8) ((C.ops [⟨some 2, none, .mv, [.c (.int .i64 4)]⟩]).seq C.ret) C.skip)).seq ((C.ops [⟨some 9, none, .mv, [.t 0]⟩, ⟨some 10, none, .call 123 true, [.t
  9]⟩, ⟨some 3, none, .mv, [.t 10]⟩]).seq (((C.ops [⟨some 4, none, .mv, [.c (.int .i64 0)]⟩]).seq (C.block 0 (((C.ops [⟨some 11, none, .mv, [.t 4]⟩, ⟨some 12, none, .mv, [.t 0]⟩,
  ⟨some 13, none, .slen, [.t 12]⟩, ⟨some 14, none, .bin .lss, [.t 11, .t 13]⟩]).seq (C.cond (.t 14) C.skip (C.exit 0))).seq ((C.block 1 ((C.ops [⟨some 17, none, .mv, [.t 0]⟩, ⟨some
  18, none, .mv, [.t 4]⟩, ⟨some 19, none, .sidx, [.t 17, .t 18]⟩, ⟨some 20, none, .call 55 true, [.t 19]⟩, ⟨some 5, none, .mv, [.t 20]⟩]).seq ((C.ops [⟨some 21, none, .mv, [.t 5]⟩,
  ⟨some 22, none, .bin .eql, [.t 21, .c (.int .i64 0)]⟩, ⟨some 23, none, .mv, [.t 22]⟩, ⟨some 24, some (23, false), .mv, [.t 5]⟩, ⟨some 25, some (23, false), .bin .eql, [.t 24, .c
  (.int .i64 2)]⟩, ⟨some 26, some (23, false), .mv, [.t 25]⟩, ⟨some 27, some (26, true), .mv, [.t 3]⟩, ⟨some 28, some (26, true), .mv, [.t 4]⟩, ⟨some 29, some (26, true), .idxA 1,
  [.t 27, .t 28]⟩, ⟨some 30, some (26, true), .load none, [.t 29]⟩, ⟨some 31, some (26, true), .un UnOp.not, [.t 30]⟩, ⟨some 32, some (23, false), .pick, [.t 26, .t 31, .c (.bool
  false)]⟩, ⟨some 33, none, .pick, [.t 23, .c (.bool true), .t 32]⟩]).seq (C.cond (.t 33) ((C.ops [⟨some 2, none, .mv, [.c (.int .i64 11)]⟩]).seq C.ret) C.skip)))).seq (C.ops [⟨some
  15, none, .mv, [.t 4]⟩, ⟨some 16, none, .bin .add, [.t 15, .c (.int .i64 1)]⟩, ⟨some 4, none, .mv, [.t 16]⟩]))).loop)).seq ((C.ops [⟨some 2, none, .mv, [.c (.int .i64 0)]⟩]).seq
  C.ret)))))
theorem fn104l : FnIs Tryd.prog 104 34 0 [RV.tmp 2] c104l := ⟨Tryd.f104, Tryd.f104.body.getD .skip, [], [93, 67, 70, 45, 59], [], by kernel_rfl, by kernel_rfl, by kernel_rfl, by kernel_rfl, by kernel_rfl, by kernel_rfl, by kernel_rfl⟩
def c110l : C :=
  ((C.ops [⟨some 2, none, .mv, [.c (.bool false)]⟩]).seq ((C.ops [⟨some 3, none, .mv, [.t 0]⟩, ⟨some 4, none, .bin .geq, [.t 3, .c (.int .i64 0)]⟩, ⟨some 5, none, .mv, [.t 4]⟩, ⟨some
  6, some (5, true), .mv, [.t 0]⟩, ⟨some 7, some (5, true), .bin .leq, [.t 6, .c (.int .i64 1073741824)]⟩, ⟨some 8, none, .pick, [.t 5, .t 7, .c (.bool false)]⟩, ⟨some 2, none, .mv,
  [.t 8]⟩]).seq
  C.ret))
theorem fn110l : FnIs Tryd.prog 110 9 0 [RV.tmp 2] c110l := ⟨Tryd.f110, Tryd.f110.body.getD .skip, [], [93, 67, 70, 45, 59], [], by kernel_rfl, by kernel_rfl, by kernel_rfl, by kernel_rfl, by kernel_rfl, by kernel_rfl, by kernel_rfl⟩
def c111l : C :=
  ((C.ops [⟨some 2, none, .mv, [.c (.bool false)]⟩]).seq ((C.ops [⟨some 3, none, .mv, [.t 0]⟩, ⟨some 4, none, .bin .geq, [.t 3, .c (.int .i64 0)]⟩, ⟨some 5, none, .mv, [.t 4]⟩, ⟨some
  6, some (5, true), .mv, [.t 0]⟩, ⟨some 7, some (5, true), .bin .leq, [.t 6, .c (.int .i64 1073741824)]⟩, ⟨some 8, none, .pick, [.t 5, .t 7, .c (.bool false)]⟩, ⟨some 2, none, .mv,
  [.t 8]⟩]).seq
  C.ret))
theorem fn111l : FnIs Tryd.prog 111 9 0 [RV.tmp 2] c111l := ⟨Tryd.f111, Tryd.f111.body.getD .skip, [], [93, 67, 70, 45, 59], [], by kernel_rfl, by kernel_rfl, by kernel_rfl, by kernel_rfl, by kernel_rfl, by kernel_rfl, by kernel_rfl⟩
def c112l : C :=
  ((C.ops [⟨some 4, none, .mv, [.c (.int .i64 0)]⟩]).seq ((C.ops [⟨some 5, none, .mv, [.t 0]⟩, ⟨some 6, none, .mv, [.t 1]⟩, ⟨some 7, none, .call 94 true, [.t 5, .t 6]⟩, ⟨some 4,
  none, .mv, [.t 7]⟩]).seq
  C.ret))
theorem fn112l : FnIs Tryd.prog 112 8 0 [RV.tmp 4] c112l := ⟨Tryd.f112, Tryd.f112.body.getD .skip, [], [93, 67, 70, 45, 59], [], by kernel_rfl, by kernel_rfl, by kernel_rfl, by kernel_rfl, by kernel_rfl, by kernel_rfl, by kernel_rfl⟩
def c116l : C :=
  ((C.ops [⟨some 2, none, .mv, [.c (.str [])]⟩]).seq (((C.ops [⟨some 3, none, .mv, [.t 0]⟩, ⟨some 4, none, .bin .lss, [.t 3, .c (.int .i64 10)]⟩]).seq (C.cond (.t 4) ((C.ops [⟨some
  5, none, .mv, [.t 0]⟩, ⟨some 6, none, .mv, [.t 0]⟩, ⟨some 7, none, .bin .add, [.t 6, .c (.int .i64 1)]⟩, ⟨some 8, none, .sslc true true, [.c (.str [48, 49, 50, 51, 52, 53, 54, 55,
  56, 57, 97, 98, 99, 100, 101, 102, 103, 104, 105, 106, 107, 108, 109, 110, 111, 112, 113, 114, 115, 116, 117, 118, 119, 120, 121, 122]), .t 5, .t 7]⟩, ⟨some 2, none, .mv, [.t
  8]⟩]).seq C.ret) C.skip)).seq ((C.ops [⟨some 9, none, .mv, [.t 0]⟩, ⟨some 10, none, .bin .mul, [.t 9, .c (.int .i64 2)]⟩, ⟨some 11, none, .mv, [.t 0]⟩, ⟨some 12, none, .bin .mul,
  [.t 11, .c (.int .i64 2)]⟩, ⟨some 13, none, .bin .add, [.t 12, .c (.int .i64 2)]⟩, ⟨some 14, none, .sslc true true, [.c (.str [48, 48, 48, 49, 48, 50, 48, 51, 48, 52, 48, 53, 48,
  54, 48, 55, 48, 56, 48, 57, 49, 48, 49, 49, 49, 50, 49, 51, 49, 52, 49, 53, 49, 54, 49, 55, 49, 56, 49, 57, 50, 48, 50, 49, 50, 50, 50, 51, 50, 52, 50, 53, 50, 54, 50, 55, 50, 56,
  50, 57, 51, 48, 51, 49, 51, 50, 51, 51, 51, 52, 51, 53, 51, 54, 51, 55, 51, 56, 51, 57, 52, 48, 52, 49, 52, 50, 52, 51, 52, 52, 52, 53, 52, 54, 52, 55, 52, 56, 52, 57, 53, 48, 53,
  49, 53, 50, 53, 51, 53, 52, 53, 53, 53, 54, 53, 55, 53, 56, 53, 57, 54, 48, 54, 49, 54, 50, 54, 51, 54, 52, 54, 53, 54, 54, 54, 55, 54, 56, 54, 57, 55, 48, 55, 49, 55, 50, 55, 51,
  55, 52, 55, 53, 55, 54, 55, 55, 55, 56, 55, 57, 56, 48, 56, 49, 56, 50, 56, 51, 56, 52, 56, 53, 56, 54, 56, 55, 56, 56, 56, 57, 57, 48, 57, 49, 57, 50, 57, 51, 57, 52, 57, 53, 57,
  54, 57, 55, 57, 56, 57, 57]), .t 10, .t 13]⟩, ⟨some 2, none, .mv, [.t 14]⟩]).seq
  C.ret)))
theorem fn116l : FnIs Tryd.prog 116 15 0 [RV.tmp 2] c116l := ⟨Tryd.f116, Tryd.f116.body.getD .skip, [], [93, 67, 70, 45, 59], [], by kernel_rfl, by kernel_rfl, by kernel_rfl, by kernel_rfl, by kernel_rfl, by kernel_rfl, by kernel_rfl⟩
def c123l : C :=
  ((C.ops [⟨some 2, none, .nilo 0 1 4, []⟩]).seq ((C.ops [⟨some 5, none, .bslc 1 1 0 4 [.bool false] [], []⟩, ⟨some 3, none, .mv, [.t 5]⟩]).seq (((C.ops [⟨some 4, none, .mv, [.c
  (.int .i64 0)]⟩]).seq (C.block 0 (((C.ops [⟨some 6, none, .mv, [.t 4]⟩, ⟨some 7, none, .mv, [.t 0]⟩, ⟨some 8, none, .slen, [.t 7]⟩, ⟨some 9, none, .bin .lss, [.t 6, .t 8]⟩]).seq
  (C.cond (.t 9) C.skip (C.exit 0))).seq ((C.block 1 (C.ops [⟨some 12, none, .mv, [.t 3]⟩, ⟨some 13, none, .mv, [.t 0]⟩, ⟨some 14, none, .mv, [.t 4]⟩, ⟨some 15, none, .sidx, [.t 13,
  .t 14]⟩, ⟨some 16, none, .call 55 true, [.t 15]⟩, ⟨some 17, none, .bin .eql, [.t 16, .c (.int .i64 2)]⟩, ⟨some 18, none, .mv, [.t 17]⟩, ⟨some 19, some (18, true), .mv, [.t 4]⟩,
  ⟨some 20, some (18, true), .bin .gtr, [.t 19, .c (.int .i64 0)]⟩, ⟨some 21, none, .pick, [.t 18, .t 20, .c (.bool false)]⟩, ⟨some 22, none, .mv, [.t 21]⟩, ⟨some 23, some (22,
  true), .mv, [.t 0]⟩, ⟨some 24, some (22, true), .mv, [.t 4]⟩, ⟨some 25, some (22, true), .bin .sub, [.t 24, .c (.int .i64 1)]⟩, ⟨some 26, some (22, true), .sidx, [.t 23, .t 25]⟩,
  ⟨some 27, some (22, true), .call 55 true, [.t 26]⟩, ⟨some 28, some (22, true), .bin .eql, [.t 27, .c (.int .i64 1)]⟩, ⟨some 29, some (22, true), .mv, [.t 28]⟩, ⟨some 30, some (29,
  false), .mv, [.t 3]⟩, ⟨some 31, some (29, false), .mv, [.t 4]⟩, ⟨some 32, some (29, false), .bin .sub, [.t 31, .c (.int .i64 1)]⟩, ⟨some 33, some (29, false), .idxA 1, [.t 30, .t
  32]⟩, ⟨some 34, some (29, false), .load none, [.t 33]⟩, ⟨some 35, some (22, true), .pick, [.t 29, .c (.bool true), .t 34]⟩, ⟨some 36, none, .pick, [.t 22, .t 35, .c (.bool
  false)]⟩, ⟨some 37, none, .bslc 2 1 1 4 [.bool false] [(0, 1)], [.t 36]⟩, ⟨some 38, none, .app 3 1 4 1, [.t 12, .t 37]⟩, ⟨some 3, none, .mv, [.t 38]⟩])).seq (C.ops [⟨some 10, none,
  .mv, [.t 4]⟩, ⟨some 11, none, .bin .add, [.t 10, .c (.int .i64 1)]⟩, ⟨some 4, none, .mv, [.t 11]⟩]))).loop)).seq ((C.ops [⟨some 39, none, .mv, [.t 3]⟩, ⟨some 2, none, .mv, [.t
  39]⟩]).seq
  C.ret))))
theorem fn123l : FnIs Tryd.prog 123 40 4 [RV.tmp 2] c123l := ⟨Tryd.f123, Tryd.f123.body.getD .skip, [2, 5, 37, 38], [93, 67, 70, 45, 59], [], by kernel_rfl, by kernel_rfl, by kernel_rfl, by kernel_rfl, by kernel_rfl, by kernel_rfl, by kernel_rfl⟩

end HY
end

section
namespace HY
def kindI (n : Int) : Int :=
  if (97 ≤ n ∧ n ≤ 122) ∨ (65 ≤ n ∧ n ≤ 90) then 1
  else if n = 94 ∨ n = 126 ∨ n = 37 then 2
  else if 48 ≤ n ∧ n ≤ 57 then 3
  else if n = 39 then 4
  else if n = 32 then 6
  else if n = 46 ∨ n = 44 ∨ n = 59 ∨ n = 58 ∨ n = 33 ∨ n = 63 ∨ n = 40 ∨ n = 41 ∨ n = 45 then 5
  else 0
def kind (b : UInt8) : Int := kindI b.toNat
def ch (s : List UInt8) (i : Nat) : UInt8 := s.getD i 0
theorem ch_eq (s : List UInt8) (i : Nat) : (s[i]?).getD 0 = ch s i := by rw [ch, List.getD_eq_getElem?_getD]

def clusO (frm : Nat) (cur : List UInt8) : List UInt8 → List (Nat × List UInt8)
  | [] => [(frm, cur)]
  | c :: r => if kind c = 2 ∧ kind (ch cur 0) = 1 then clusO frm (cur ++ [c]) r else (frm, cur) :: clusO (frm + cur.length) [c] r
def clusters : List UInt8 → List (Nat × List UInt8)
  | [] => []
  | c :: r => clusO 0 [c] r
def clus (s : List UInt8) : List (List UInt8) := (clusters s).map (·.2)

def rightAt (s : List UInt8) : Nat → Bool
  | 0 => false
  | i + 1 => decide (kind (ch s (i + 1)) = 2) && (decide (kind (ch s i) = 1) || rightAt s i)
def rightL (s : List UInt8) : List Bool := (List.range s.length).map (rightAt s)
theorem rightL_get {s : List UInt8} {i : Nat} (h : i < s.length) : (rightL s).getD i false = rightAt s i := by simp [rightL, List.getD_eq_getElem?_getD, h]
def inClus (s : List UInt8) (f i : Nat) : Prop := f < i ∧ (decide (kind (ch s (i - 1)) = 1) || rightAt s (i - 1)) = decide (kind (ch s f) = 1)
theorem inClus_right {s : List UInt8} {f i : Nat} (h : inClus s f i) : rightAt s i = (decide (kind (ch s i) = 2) && decide (kind (ch s f) = 1)) := by
  obtain ⟨h1, h2⟩ := h
  cases i with
  | zero => omega
  | succ i => simp only [rightAt]; rw [← h2]; rfl
theorem inClus_first (s : List UInt8) : inClus s 0 1 := ⟨by omega, by simp [rightAt]⟩
theorem inClus_go {s : List UInt8} {f i : Nat} (h : inClus s f i) (hr : rightAt s i = true) : inClus s f (i + 1) := by
  have h3 := inClus_right h
  rw [hr] at h3
  refine ⟨by have := h.1; omega, ?_⟩
  rw [Nat.add_sub_cancel, hr, Bool.or_true]
  symm at h3
  simp only [Bool.and_eq_true] at h3
  exact h3.2.symm
theorem inClus_new {s : List UInt8} {f i : Nat} (h : inClus s f i) (hr : rightAt s i = false) : inClus s i (i + 1) :=
  ⟨by omega, by rw [Nat.add_sub_cancel, hr, Bool.or_false]⟩

def badHead (c : List UInt8) : Bool := decide (kind (ch c 0) = 0) || decide (kind (ch c 0) = 2)
def checkC (s : List UInt8) : Int := if 65536 < s.length then 4 else if (clus s).any badHead then 11 else 0
def isWord (s : List UInt8) : Bool :=
  decide (0 < s.length) && decide (s.length ≤ 64) && decide (checkC s = 0) && (decide (kind (ch s 0) = 1) || decide (kind (ch s 0) = 3)) && !(s.any fun c => decide (kind c = 5) || decide (kind c = 6))
end HY
end

section
namespace HY
structure Pat where
  letters : List UInt8
  levels : List Int
  deriving DecidableEq, Inhabited
def hasPre (s p : List UInt8) : Bool := decide (s.take p.length = p)
def hasSuf (s p : List UInt8) : Bool := decide (s.drop (s.length - p.length) = p)
def trimPre (s p : List UInt8) : List UInt8 := if hasPre s p = true then s.drop p.length else s
def trimSuf (s p : List UInt8) : List UInt8 := if hasSuf s p = true then s.take (s.length - p.length) else s
def inner (s : List UInt8) : List UInt8 := trimSuf (trimPre s [46]) [46]
def onlyC (c : UInt8) : Bool := decide (kind c = 1) || decide (kind c = 2) || decide (kind c = 4)
def badLev (n : Int) : Bool := decide (n < 0) || decide (9 < n)
def checkPat (p : Pat) : Int :=
  if 64 < p.letters.length then 4
  else if (inner p.letters).any (fun c => !onlyC c) = true then 11
  else if checkC (inner p.letters) ≠ 0 then 11
  else if inner p.letters = [] then 5
  else if p.levels.length ≠ (clus p.letters).length + 1 then 9
  else if p.levels.any badLev = true ∨ (hasPre p.letters [46] = true ∧ p.levels.getD 0 0 ≠ 0) ∨ (hasSuf p.letters [46] = true ∧ p.levels.getD (p.levels.length - 1) 0 ≠ 0) then 2
  else 0
def badAt (s : List UInt8) (i : Nat) : Bool := decide (kind (ch s i) = 0) || (decide (kind (ch s i) = 2) && !rightAt s i)
end HY
end

section
set_option linter.all false
set_option linter.unusedSimpArgs false
set_option linter.unusedVariables false
set_option linter.unusedSectionVars false
open Go Go.Proofs AF HY
namespace HY
set_option maxRecDepth 100000
def strs (l : List (List UInt8)) : AV := .sl l.length fun i => [.str (l.getD i [])]
theorem okF1 {P : Program} {f : FuncId} {fn : Func} (h : P.funcs[f]? = some fn) (h1 : fn.body.isSome = true) (h2 : (fn.name != "runtime.NumGoroutine") = true) : okF P f = true := by
  unfold okF; rw [h]; simp [h1, h2]
theorem t134 (s : List UInt8) (c : Int) (h : List AObj) : ACalls Tryd.prog 94 [.str s, .int .u8 c] h (.int .i64 (Go.Lib.indexByte s c.toNat.toUInt8)) h := by
  refine ⟨okF1 Tryd.func94 (by kernel_rfl) (by kernel_rfl), fun w σ xs H hv => ?_⟩
  obtain ⟨x, y, rfl, hx, hy⟩ := hv.two
  rw [vr_str hx, vr_int hy]
  refine (callsIn_wide.2 (ib_calls ⟨s.toArray⟩ c w)).mono ?_
  rintro e w' ⟨rfl, rfl⟩
  exact ⟨_, σ, rfl, H, .imm .int, Ext.refl _ _⟩
theorem t126 (s : List UInt8) (c : Int) (h : List AObj) : ACalls Tryd.prog 112 [.str s, .int .u8 c] h (.int .i64 (Go.Lib.indexByte s c.toNat.toUInt8)) h := by
  refine acalls_of fn112l (by simp) ?_
  simp only [List.length_cons, List.length_nil, Nat.reduceAdd, Nat.reduceSub, List.replicate, List.cons_append, List.nil_append, List.append_nil]
  simp (disch := omega) only [c112l, go_sem, wrap64_id, Int.tdiv_eq_ediv_of_nonneg, Int.tmod_eq_emod_of_nonneg]
  repeat' first
    | ((first | refine callA_pure (t134 s c _) ?_ ?_); (next => repeat' first | exact flags_n | refine flags_c (by first | rfl | assumption) ?_); simp (disch := omega) only [go_sem, wrap64_id, Int.tdiv_eq_ediv_of_nonneg, Int.tmod_eq_emod_of_nonneg])
    | ((first | refine callG_pure (fun e => ⟨?_, t134 s c _⟩) ?_); (next => repeat' first | exact flags_n | refine flags_c (by first | rfl | assumption) ?_); simp (disch := omega) only [go_sem, wrap64_id, Int.tdiv_eq_ediv_of_nonneg, Int.tmod_eq_emod_of_nonneg])
    | ((first | refine fnQ_pure1 ?_ ?_ | refine fnQ_pure0 ?_ ?_); (next => repeat' first | exact rvs_n | refine rvs_t ?_ | (simp [go_sem]; done)); simp only [go_sem]; (first | exact VLe.refl _ | refine VLe_int ?_ | refine VLe_bool ?_ | refine VLe_str ?_ | skip))
    | (with_reducible refine And.intro ?_ ?_)
    | with_reducible intro _
theorem punct_iff : ∀ n : Fin 256, (0 ≤ Go.Lib.indexByte [46, 44, 59, 58, 33, 63, 40, 41, 45] (UInt8.ofNat n.val)) ↔ (n.val = 46 ∨ n.val = 44 ∨ n.val = 59 ∨ n.val = 58 ∨ n.val = 33 ∨ n.val = 63 ∨ n.val = 40 ∨ n.val = 41 ∨ n.val = 45) := by decide +kernel
theorem t103 (n : Int) (h : List AObj) (n0 : 0 ≤ n) (n1 : n ≤ 255) : ACalls Tryd.prog 92 [.int .u8 n] h (.int .i64 (kindI n)) h := by
  obtain ⟨m, rfl⟩ : ∃ m : Nat, n = m := ⟨n.toNat, by omega⟩
  have hp := punct_iff ⟨m, by omega⟩
  simp only at hp
  obtain ⟨q, hq⟩ : ∃ q, q = Go.Lib.indexByte [46, 44, 59, 58, 33, 63, 40, 41, 45] (UInt8.ofNat m) := ⟨_, rfl⟩
  rw [← hq] at hp
  have hc : ∀ h, ACalls Tryd.prog 112 [.str [46, 44, 59, 58, 33, 63, 40, 41, 45], .int .u8 (m : Int)] h (.int .i64 q) h := fun h => by rw [hq]; exact t126 _ _ h
  refine acalls_of fn92l (by simp) ?_
  simp only [List.length_cons, List.length_nil, Nat.reduceAdd, Nat.reduceSub, List.replicate, List.cons_append, List.nil_append, List.append_nil]
  simp (disch := omega) only [c92l, go_sem, wrap64_id, Int.tdiv_eq_ediv_of_nonneg, Int.tmod_eq_emod_of_nonneg]
  repeat' first
    | ((first | refine callA_pure (hc _) ?_ ?_); (next => repeat' first | exact flags_n | refine flags_c (by first | rfl | assumption) ?_); simp (disch := omega) only [go_sem, wrap64_id, Int.tdiv_eq_ediv_of_nonneg, Int.tmod_eq_emod_of_nonneg])
    | ((first | refine callG_pure (fun e => ⟨?_, hc _⟩) ?_); (next => repeat' first | exact flags_n | refine flags_c (by first | rfl | assumption) ?_); simp (disch := omega) only [go_sem, wrap64_id, Int.tdiv_eq_ediv_of_nonneg, Int.tmod_eq_emod_of_nonneg])
    | ((first | refine fnQ_pure1 ?_ ?_ | refine fnQ_pure0 ?_ ?_); (next => repeat' first | exact rvs_n | refine rvs_t ?_ | (simp [go_sem]; done)); simp only [go_sem]; (first | exact VLe.refl _ | refine VLe_int ?_ | refine VLe_bool ?_ | refine VLe_str ?_ | skip))
    | (with_reducible refine And.intro ?_ ?_)
    | with_reducible intro _
  all_goals first
    | omega
    | (unfold kindI; (repeat' split) <;> omega)
theorem t117 (n : Int) (h : List AObj) : ACalls Tryd.prog 55 [.int .u8 n] h (.int .i64 (kindI n)) h := by
  refine acalls_of fn55l (by simp) ?_
  simp only [List.length_cons, List.length_nil, Nat.reduceAdd, Nat.reduceSub, List.replicate, List.cons_append, List.nil_append, List.append_nil]
  simp (disch := omega) only [c55l, go_sem, wrap64_id, Int.tdiv_eq_ediv_of_nonneg, Int.tmod_eq_emod_of_nonneg]
  repeat' first
    | ((first | refine fnQ_pure1 ?_ ?_ | refine fnQ_pure0 ?_ ?_); (next => repeat' first | exact rvs_n | refine rvs_t ?_ | (simp [go_sem]; done)); simp only [go_sem]; (first | exact VLe.refl _ | refine VLe_int ?_ | refine VLe_bool ?_ | refine VLe_str ?_ | skip))
    | (with_reducible refine And.intro ?_ ?_)
    | with_reducible intro _
  all_goals first
    | omega
    | grind [kindI]
end HY
end

section
set_option linter.all false
set_option linter.unusedSimpArgs false
set_option linter.unusedVariables false
set_option linter.unusedSectionVars false
open Go Go.Proofs AF HY
namespace HY
set_option maxRecDepth 100000
theorem _root_.AF.LowI.ret {h hh : List AObj} {ts : List AV} {L : LInfo} (s : LS) (hl : LowI h hh) (hts : ∀ c ∈ ts, lowV (h.length + 1) c = true) :
    (hh ++ [AObj.lp s ts L]).length = (h ++ [AObj.lp .ready ts L]).length ∧ ∀ o ∈ hh ++ [AObj.lp s ts L], o ∈ h ++ [AObj.lp .ready ts L] ∨ lowO (h ++ [AObj.lp .ready ts L]).length o := by
  refine ⟨by simp [hl.1], fun o ho => ?_⟩
  rw [List.length_append, List.length_singleton]
  rcases List.mem_append.1 ho with ho | ho
  · rcases hl.2 o ho with h1 | h1
    · exact .inl (List.mem_append_left _ h1)
    · exact .inr h1.2
  · rw [List.mem_singleton] at ho
    subst ho
    exact .inr hts
theorem t117b (b : UInt8) (h : List AObj) : ACalls Tryd.prog 55 [.int .u8 (b.toNat : Int)] h (.int .i64 (kind b)) h := t117 _ h
theorem clus_step {s : List UInt8} {f i : Nat} (hf : f < i) (hi : i < s.length) : clusO f ((s.drop f).take (i - f)) (s.drop i) = if kind (ch s i) = 2 ∧ kind (ch s f) = 1 then clusO f ((s.drop f).take (i + 1 - f)) (s.drop (i + 1)) else (f, (s.drop f).take (i - f)) :: clusO i ((s.drop i).take (i + 1 - i)) (s.drop (i + 1)) := by
  have e1 : s.drop i = ch s i :: s.drop (i + 1) := by rw [List.drop_eq_getElem_cons hi]; simp [ch, hi]
  have e2 : ch ((s.drop f).take (i - f)) 0 = ch s f := by simp [ch, List.getD_eq_getElem?_getD, List.getElem?_take, show 0 < i - f by omega]
  have e3 : (s.drop f).take (i + 1 - f) = (s.drop f).take (i - f) ++ [ch s i] := by
    rw [show i + 1 - f = (i - f) + 1 by omega, List.take_add_one, List.getElem?_drop, show f + (i - f) = i by omega]
    simp [ch, List.getD_eq_getElem?_getD, hi]
  have e4 : f + ((s.drop f).take (i - f)).length = i := by rw [List.length_take, List.length_drop]; omega
  have e5 : (s.drop i).take (i + 1 - i) = [ch s i] := by rw [e1, show i + 1 - i = 1 by omega]; rfl
  rw [e5, e1]
  simp only [clusO, e2, e4, e3]
end HY
end
