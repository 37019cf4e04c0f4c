import Derived.Test.YtbccfgnihmfgmaaG1
import Derived.Test.YtbccfgnihmfgmaaProg
import Derived.Test.YtbccfgnihmfgmaaG2
import Derived.Test.YtbccfgnihmfgmaaG4
import Derived.Test.YtbccfgnihmfgmaaG3
set_option linter.all false
set_option linter.unusedSimpArgs false
set_option linter.unusedVariables false
set_option linter.unusedSectionVars false
section
/-! the text PgCode3 -/
open Go Go.Proofs AF
set_option maxRecDepth 100000
/-- apograph/apographlaw48.ParagraphPenalties -/
def c3m : C :=
  ((C.ops [⟨some 6, none, .mv, [.c (.bool false)]⟩]).seq (((C.ops [⟨some 18, none, .mv, [.t 0]⟩, ⟨some 19, none, .mv, [.t 1]⟩, ⟨some 20, none, .call 10 true, [.t 18, .t 19]⟩, ⟨some
  21, none, .un UnOp.not, [.t 20]⟩]).seq (C.cond (.t 21) ((C.ops [⟨some 22, none, .call 11 true, []⟩, ⟨some 6, none, .mv, [.t 22]⟩]).seq C.ret) C.skip)).seq ((C.ops [⟨some 23, none,
  .mv, [.t 2]⟩, ⟨some 24, none, .conv .i64, [.t 23]⟩, ⟨some 25, none, .bin .rem, [.t 24, .c (.int .i64 1001)]⟩, ⟨some 7, none, .mv, [.t 25]⟩]).seq ((C.ops [⟨some 26, none, .mv, [.t
  0]⟩, ⟨some 27, none, .call 12 false, [.t 26]⟩, ⟨some 8, none, .mv, [.t 27]⟩]).seq ((C.ops [⟨some 9, none, .mv, [.c (.int .i64 0)]⟩]).seq (((C.ops [⟨some 28, none, .mv, [.t 0]⟩,
  ⟨some 29, none, .len, [.t 28]⟩, ⟨some 30, none, .mv, [.c (.int .i64 0)]⟩]).seq (C.block 0 ((C.ops [⟨some 31, none, .bin .lss, [.t 30, .t 29]⟩]).seq ((C.cond (.t 31) C.skip (C.exit
  0)).seq ((C.block 1 ((C.ops [⟨some 32, none, .mv, [.t 30]⟩, ⟨some 33, none, .idxA 6, [.t 28, .t 30]⟩, ⟨some 34, none, .load (some 6), [.t 33]⟩, ⟨some 11, none, .alloc 0 28 [.int
  .i64 0, .int .i64 0, .int .i64 0, .int .i64 0, .int .i64 0, .str []], []⟩, ⟨some 10, none, .mv, [.t 32]⟩, ⟨none, none, .store 6, [.t 11, .t 34]⟩]).seq ((C.ops [⟨some 35, none,
  .fldA 0, [.t 11]⟩, ⟨some 36, none, .load none, [.t 35]⟩, ⟨some 37, none, .bin .eql, [.t 36, .c (.int .i64 3)]⟩, ⟨some 38, none, .mv, [.t 37]⟩, ⟨some 39, some (38, true), .fldA 4,
  [.t 11]⟩, ⟨some 40, some (38, true), .load none, [.t 39]⟩, ⟨some 41, some (38, true), .bin .geq, [.t 40, .c (.int .i64 0)]⟩, ⟨some 42, none, .pick, [.t 38, .t 41, .c (.bool
  false)]⟩, ⟨some 43, none, .mv, [.t 42]⟩, ⟨some 44, some (43, true), .fldA 4, [.t 11]⟩, ⟨some 45, some (43, true), .load none, [.t 44]⟩, ⟨some 46, some (43, true), .mv, [.t 7]⟩,
  ⟨some 47, some (43, true), .bin .add, [.t 45, .t 46]⟩, ⟨some 48, some (43, true), .bin .lss, [.t 47, .c (.int .i64 10000)]⟩, ⟨some 49, none, .pick, [.t 43, .t 48, .c (.bool
  false)]⟩]).seq (C.cond (.t 49) ((C.ops [⟨some 50, none, .mv, [.t 8]⟩, ⟨some 51, none, .mv, [.t 10]⟩, ⟨some 52, none, .idxA 6, [.t 50, .t 51]⟩, ⟨some 53, none, .fldA 4, [.t 52]⟩,
  ⟨some 54, none, .load none, [.t 53]⟩, ⟨some 55, none, .mv, [.t 7]⟩, ⟨some 56, none, .bin .add, [.t 54, .t 55]⟩, ⟨some 57, none, .idxA 6, [.t 50, .t 51]⟩, ⟨some 58, none, .fldA 4,
  [.t 57]⟩, ⟨none, none, .store 1, [.t 58, .t 56]⟩]).seq (C.ops [⟨some 59, none, .mv, [.t 9]⟩, ⟨some 60, none, .bin .add, [.t 59, .c (.int .i64 1)]⟩, ⟨some 9, none, .mv, [.t 60]⟩]))
  C.skip)))).seq (C.ops [⟨some 61, none, .bin .add, [.t 30, .c (.int .i64 1)]⟩, ⟨some 30, none, .mv, [.t 61]⟩])))).loop)).seq ((C.wk.seq (C.ops [⟨some 63, none, .mv, [.t 0]⟩, ⟨some
  64, none, .mv, [.t 1]⟩, ⟨some 65, none, .call 13 true, [.t 63, .t 64]⟩, ⟨some 62, none, .mv, [.t 65]⟩, ⟨some 66, none, .ext 0, [.t 62]⟩, ⟨some 67, none, .ext 1, [.t 62]⟩, ⟨some 68,
  none, .ext 2, [.t 62]⟩, ⟨some 12, none, .mv, [.t 66]⟩, ⟨some 13, none, .mv, [.t 67]⟩, ⟨some 14, none, .mv, [.t 68]⟩])).seq ((C.ops [⟨some 70, none, .mv, [.t 8]⟩, ⟨some 71, none,
  .mv, [.t 1]⟩, ⟨some 72, none, .call 13 true, [.t 70, .t 71]⟩, ⟨some 69, none, .mv, [.t 72]⟩, ⟨some 73, none, .ext 0, [.t 69]⟩, ⟨some 74, none, .ext 1, [.t 69]⟩, ⟨some 75, none,
  .ext 2, [.t 69]⟩, ⟨some 15, none, .mv, [.t 73]⟩, ⟨some 16, none, .mv, [.t 74]⟩, ⟨some 17, none, .mv, [.t 75]⟩]).seq ((C.ops [⟨some 76, none, .mv, [.t 14]⟩, ⟨some 77, none, .mv, [.t
  17]⟩, ⟨some 78, none, .bin .eql, [.t 76, .t 77]⟩, ⟨some 79, none, .mv, [.t 78]⟩, ⟨some 80, some (79, true), .mv, [.t 16]⟩, ⟨some 81, some (79, true), .mv, [.t 13]⟩, ⟨some 82, some
  (79, true), .bin .geq, [.t 80, .t 81]⟩, ⟨some 83, none, .pick, [.t 79, .t 82, .c (.bool false)]⟩, ⟨some 84, none, .mv, [.t 83]⟩, ⟨some 85, some (84, true), .mv, [.t 16]⟩, ⟨some 86,
  some (84, true), .mv, [.t 13]⟩, ⟨some 87, some (84, true), .mv, [.t 7]⟩, ⟨some 88, some (84, true), .mv, [.t 9]⟩, ⟨some 89, some (84, true), .bin .mul, [.t 87, .t 88]⟩, ⟨some 90,
  some (84, true), .bin .add, [.t 86, .t 89]⟩, ⟨some 91, some (84, true), .bin .leq, [.t 85, .t 90]⟩, ⟨some 92, none, .pick, [.t 84, .t 91, .c (.bool false)]⟩, ⟨some 93, none, .mv,
  [.t 92]⟩, ⟨some 94, some (93, true), .call 11 true, []⟩, ⟨some 95, none, .pick, [.t 93, .t 94, .c (.bool false)]⟩, ⟨some 6, none, .mv, [.t 95]⟩]).seq
  C.ret)))))))))
theorem fn3m : FnIs Try.prog 3 96 2 [RV.tmp 6] c3m := ⟨Try.f3, Try.f3.body.getD .skip, [11, 8], [12], [13], by kernel_rfl, by kernel_rfl, by kernel_rfl, by kernel_rfl, by kernel_rfl, by kernel_rfl, by kernel_rfl⟩
end

section
/-! the text PgCode4 -/
open Go Go.Proofs AF
set_option maxRecDepth 100000
/-- (*strings.Builder).WriteString -/
def c78m : C :=
  ((C.ops [⟨some 4, none, .mv, [.c (.int .i64 0)]⟩, ⟨some 5, none, .mv, [.c .nilif]⟩]).seq ((C.ops [⟨some 6, none, .mv, [.t 0]⟩, ⟨some 7, none, .call 97 false, [.t 6]⟩]).seq ((C.ops
  [⟨some 8, none, .mv, [.t 0]⟩, ⟨some 9, none, .mv, [.t 0]⟩, ⟨some 10, none, .nilchk, [.t 9]⟩, ⟨some 11, none, .fldA 1, [.t 10]⟩, ⟨some 12, none, .load none, [.t 11]⟩, ⟨some 13,
  none, .mv, [.t 1]⟩, ⟨some 14, none, .apps 0 5, [.t 12, .t 13]⟩, ⟨some 15, none, .nilchk, [.t 8]⟩, ⟨some 16, none, .fldA 1, [.t 15]⟩, ⟨none, none, .store 1, [.t 16, .t 14]⟩]).seq
  ((C.ops [⟨some 17, none, .mv, [.t 1]⟩, ⟨some 18, none, .slen, [.t 17]⟩, ⟨some 4, none, .mv, [.t 18]⟩, ⟨some 5, none, .mv, [.c .nilif]⟩]).seq
  C.ret))))
theorem fn78m : FnIs Try.prog 78 19 1 [RV.tmp 4, RV.tmp 5] c78m := ⟨Try.f78, Try.f78.body.getD .skip, [14], [97], [], by kernel_rfl, by kernel_rfl, by kernel_rfl, by kernel_rfl, by kernel_rfl, by kernel_rfl, by kernel_rfl⟩
/-- (*strings.Builder).WriteByte -/
def c79m : C :=
  ((C.ops [⟨some 4, none, .mv, [.c .nilif]⟩]).seq ((C.ops [⟨some 5, none, .mv, [.t 0]⟩, ⟨some 6, none, .call 97 false, [.t 5]⟩]).seq ((C.ops [⟨some 7, none, .mv, [.t 0]⟩, ⟨some 8,
  none, .mv, [.t 0]⟩, ⟨some 9, none, .nilchk, [.t 8]⟩, ⟨some 10, none, .fldA 1, [.t 9]⟩, ⟨some 11, none, .load none, [.t 10]⟩, ⟨some 12, none, .mv, [.t 1]⟩, ⟨some 13, none, .bslc 0 1
  1 5 [.int .u8 0] [(0, 1)], [.t 12]⟩, ⟨some 14, none, .app 1 1 5 1, [.t 11, .t 13]⟩, ⟨some 15, none, .nilchk, [.t 7]⟩, ⟨some 16, none, .fldA 1, [.t 15]⟩, ⟨none, none, .store 1, [.t
  16, .t 14]⟩]).seq ((C.ops [⟨some 4, none, .mv, [.c .nilif]⟩]).seq
  C.ret))))
theorem fn79m : FnIs Try.prog 79 17 2 [RV.tmp 4] c79m := ⟨Try.f79, Try.f79.body.getD .skip, [13, 14], [97], [], by kernel_rfl, by kernel_rfl, by kernel_rfl, by kernel_rfl, by kernel_rfl, by kernel_rfl, by kernel_rfl⟩
end

section
/-! the text PgCode5 -/
open Go Go.Proofs AF
set_option maxRecDepth 100000
/-- apograph/paragraph.line -/
def c44m : C :=
  ((C.ops [⟨some 8, none, .alloc 0 44 [.int .i64 0, .int .i64 0, .int .i64 0, .int .i64 0, .str []], []⟩, ⟨some 9, none, .mv, [.c (.bool false)]⟩]).seq ((C.ops [⟨some 17, none, .mv,
  [.t 0]⟩, ⟨some 18, none, .mv, [.t 2]⟩, ⟨some 19, none, .mv, [.t 3]⟩, ⟨some 20, none, .call 75 true, [.t 17, .t 18, .t 19]⟩, ⟨some 2, none, .mv, [.t 20]⟩]).seq ((C.ops [⟨some 10,
  none, .alloc 1 106 [.int .i64 0, .int .i64 0, .int .i64 0], []⟩]).seq ((C.ops [⟨some 11, none, .alloc 2 112 [.nilp, .nl], []⟩]).seq (((C.wk.seq (C.ops [⟨some 21, none, .mv, [.t
  0]⟩, ⟨some 22, none, .mv, [.t 2]⟩, ⟨some 23, none, .mv, [.t 3]⟩, ⟨some 24, none, .slc 6 true true, [.t 21, .t 22, .t 23]⟩, ⟨some 25, none, .len, [.t 24]⟩, ⟨some 26, none, .mv, [.c
  (.int .i64 0)]⟩])).seq (C.block 0 ((C.ops [⟨some 27, none, .bin .lss, [.t 26, .t 25]⟩]).seq ((C.cond (.t 27) C.skip (C.exit 0)).seq ((C.block 1 ((C.ops [⟨some 28, none, .idxA 6,
  [.t 24, .t 26]⟩, ⟨some 29, none, .load (some 6), [.t 28]⟩, ⟨some 13, none, .alloc 3 28 [.int .i64 0, .int .i64 0, .int .i64 0, .int .i64 0, .int .i64 0, .str []], []⟩, ⟨none, none,
  .store 6, [.t 13, .t 29]⟩]).seq ((C.ops [⟨some 30, none, .load (some 6), [.t 13]⟩, ⟨some 31, none, .call 77 false, [.t 10, .t 30]⟩]).seq ((C.ops [⟨some 32, none, .fldA 0, [.t 13]⟩,
  ⟨some 33, none, .load none, [.t 32]⟩]).seq (C.block 2 ((C.ops [⟨some 35, none, .bin .eql, [.t 33, .c (.int .i64 1)]⟩, ⟨some 34, none, .mv, [.t 35]⟩]).seq (C.cond (.t 34) (C.ops
  [⟨some 36, none, .fldA 5, [.t 13]⟩, ⟨some 37, none, .load none, [.t 36]⟩, ⟨some 38, none, .call 78 false, [.t 11, .t 37]⟩]) ((C.ops [⟨some 40, none, .bin .eql, [.t 33, .c (.int
  .i64 2)]⟩, ⟨some 39, none, .mv, [.t 40]⟩]).seq (C.cond (.t 39) (C.ops [⟨some 41, none, .call 79 false, [.t 11, .c (.int .u8 32)]⟩]) C.skip))))))))).seq (C.ops [⟨some 42, none, .bin
  .add, [.t 26, .c (.int .i64 1)]⟩, ⟨some 26, none, .mv, [.t 42]⟩])))).loop)).seq (((C.ops [⟨some 43, none, .mv, [.t 3]⟩, ⟨some 44, none, .mv, [.t 0]⟩, ⟨some 45, none, .len, [.t
  44]⟩, ⟨some 46, none, .bin .lss, [.t 43, .t 45]⟩, ⟨some 47, none, .mv, [.t 46]⟩, ⟨some 48, some (47, true), .mv, [.t 0]⟩, ⟨some 49, some (47, true), .mv, [.t 3]⟩, ⟨some 50, some
  (47, true), .idxA 6, [.t 48, .t 49]⟩, ⟨some 51, some (47, true), .fldA 0, [.t 50]⟩, ⟨some 52, some (47, true), .load none, [.t 51]⟩, ⟨some 53, some (47, true), .bin .eql, [.t 52,
  .c (.int .i64 3)]⟩, ⟨some 54, none, .pick, [.t 47, .t 53, .c (.bool false)]⟩]).seq (C.cond (.t 54) (C.ops [⟨some 55, none, .mv, [.t 0]⟩, ⟨some 56, none, .mv, [.t 3]⟩, ⟨some 57,
  none, .idxA 6, [.t 55, .t 56]⟩, ⟨some 58, none, .fldA 5, [.t 57]⟩, ⟨some 59, none, .load none, [.t 58]⟩, ⟨some 60, none, .call 78 false, [.t 11, .t 59]⟩]) C.skip)).seq ((C.ops
  [⟨some 62, none, .mv, [.t 0]⟩, ⟨some 63, none, .mv, [.t 1]⟩, ⟨some 64, none, .load (some 3), [.t 10]⟩, ⟨some 65, none, .mv, [.t 3]⟩, ⟨some 66, none, .call 76 true, [.t 62, .t 63,
  .t 64, .t 65]⟩, ⟨some 61, none, .mv, [.t 66]⟩, ⟨some 67, none, .ext 0, [.t 61]⟩, ⟨some 68, none, .ext 1, [.t 61]⟩, ⟨some 69, none, .ext 2, [.t 61]⟩, ⟨some 14, none, .mv, [.t 67]⟩,
  ⟨some 15, none, .mv, [.t 68]⟩, ⟨some 16, none, .mv, [.t 69]⟩]).seq ((C.ops [⟨some 70, none, .mv, [.t 2]⟩, ⟨some 71, none, .mv, [.t 3]⟩, ⟨some 72, none, .mv, [.t 14]⟩, ⟨some 73,
  none, .mv, [.t 15]⟩, ⟨some 74, none, .call 80 false, [.t 11]⟩, ⟨some 75, none, .build [.int .i64 0, .int .i64 0, .int .i64 0, .int .i64 0, .str []] [(0, 1), (1, 1), (2, 1), (3, 1),
  (4, 1)], [.t 70, .t 71, .t 72, .t 73, .t 74]⟩, ⟨some 76, none, .mv, [.t 16]⟩, ⟨none, none, .store 5, [.t 8, .t 75]⟩, ⟨some 9, none, .mv, [.t 76]⟩]).seq
  C.ret))))))))
theorem fn44m : FnIs Try.prog 44 77 5 [RV.cell 8 (some 5), RV.tmp 9] c44m := ⟨Try.f44, Try.f44.body.getD .skip, [8, 10, 11, 13, 14], [77, 78, 79, 80], [4], by kernel_rfl, by kernel_rfl, by kernel_rfl, by kernel_rfl, by kernel_rfl, by kernel_rfl, by kernel_rfl⟩
end

section
/-! the text W1 -/
open Go Go.Proofs AF P48
set_option maxRecDepth 100000
abbrev It := P48.Item
def itemC (x : It) : List AV := [.int .i64 x.kind, .int .i64 x.width, .int .i64 x.stretch, .int .i64 x.shrink, .int .i64 x.penalty, .str x.text]
def items (l : List It) : AV := .sl l.length fun i => itemC (it l i)
def ints (l : List Int) : AV := .sl l.length fun i => [.int .i64 (l.getD i 0)]

theorem flag_items (l : List It) : (items l).flag = true := rfl
theorem strip_items (l : List It) : (items l).strip = items l := rfl
theorem flag_ints (l : List Int) : (ints l).flag = true := rfl
theorem strip_ints (l : List Int) : (ints l).strip = ints l := rfl
attribute [go_sem] flag_items strip_items flag_ints strip_ints

theorem t63 (n : Int) (h : List AObj) : ACalls Try.prog 63 [.int .i64 n] h (.bool (isLen n)) h := by
  refine acalls_of fn63 (by simp) ?_
  simp only [List.length_cons, List.length_nil, Nat.reduceAdd, Nat.reduceSub, List.replicate, List.cons_append, List.nil_append, List.append_nil]
  simp (disch := omega) only [c63, go_sem, wrap64_id, Int.tdiv_eq_ediv_of_nonneg, Int.tmod_eq_emod_of_nonneg]
  repeat' first
    | ((first | refine fnQ_pure1 ?_ ?_ | refine fnQ_pure0 ?_ ?_); (next => repeat' first | exact rvs_n | refine rvs_t ?_ | (simp [go_sem]; done)); simp only [go_sem]; (first | exact VLe.refl _ | refine VLe_int ?_ | refine VLe_bool ?_ | refine VLe_str ?_ | skip))
    | (with_reducible refine And.intro ?_ ?_)
    | with_reducible intro _
theorem t68 (n : Int) (h : List AObj) : ACalls Try.prog 68 [.int .i64 n] h (.bool (isLen n)) h := by
  refine acalls_of fn68 (by simp) ?_
  simp only [List.length_cons, List.length_nil, Nat.reduceAdd, Nat.reduceSub, List.replicate, List.cons_append, List.nil_append, List.append_nil]
  simp (disch := omega) only [c68, go_sem, wrap64_id, Int.tdiv_eq_ediv_of_nonneg, Int.tmod_eq_emod_of_nonneg]
  repeat' first
    | ((first | refine fnQ_pure1 ?_ ?_ | refine fnQ_pure0 ?_ ?_); (next => repeat' first | exact rvs_n | refine rvs_t ?_ | (simp [go_sem]; done)); simp only [go_sem]; (first | exact VLe.refl _ | refine VLe_int ?_ | refine VLe_bool ?_ | refine VLe_str ?_ | skip))
    | (with_reducible refine And.intro ?_ ?_)
    | with_reducible intro _
theorem t72 (x : It) (h : List AObj) : ACalls Try.prog 72 [.agg (itemC x)] h (.int .i64 (checkItem x)) h := by
  refine acalls_of fn72 (by simp) ?_
  simp only [List.length_cons, List.length_nil, Nat.reduceAdd, Nat.reduceSub, List.replicate, List.cons_append, List.nil_append, List.append_nil]
  simp (disch := omega) only [c72, itemC, go_sem, wrap64_id, Int.tdiv_eq_ediv_of_nonneg, Int.tmod_eq_emod_of_nonneg]
  repeat' first
    | ((first | refine callA_pure (t63 _ _) ?_ ?_); (next => repeat' first | exact flags_n | refine flags_c (by first | rfl | assumption) ?_); simp (disch := omega) only [go_sem, wrap64_id, Int.tdiv_eq_ediv_of_nonneg, Int.tmod_eq_emod_of_nonneg])
    | ((first | refine callG_pure (fun e => ⟨?_, t63 _ _⟩) ?_); (next => repeat' first | exact flags_n | refine flags_c (by first | rfl | assumption) ?_); simp (disch := omega) only [go_sem, wrap64_id, Int.tdiv_eq_ediv_of_nonneg, Int.tmod_eq_emod_of_nonneg])
    | ((first | refine fnQ_pure1 ?_ ?_ | refine fnQ_pure0 ?_ ?_); (next => repeat' first | exact rvs_n | refine rvs_t ?_ | (simp [go_sem]; done)); simp only [go_sem]; (first | exact VLe.refl _ | refine VLe_int ?_ | refine VLe_bool ?_ | refine VLe_str ?_ | skip))
    | (with_reducible refine And.intro ?_ ?_)
    | with_reducible intro _
  all_goals first
    | omega
    | grind [checkItem]
theorem t43 (l : List It) (i : Nat) (h : List AObj) : ACalls Try.prog 43 [items l, .int .i64 i] h (.bool (forced l i)) h := by
  refine acalls_of fn43 (by simp) ?_
  simp only [List.length_cons, List.length_nil, Nat.reduceAdd, Nat.reduceSub, List.replicate, List.cons_append, List.nil_append, List.append_nil]
  simp (disch := omega) only [c43, items, itemC, go_sem, wrap64_id, Int.tdiv_eq_ediv_of_nonneg, Int.tmod_eq_emod_of_nonneg]
  repeat' first
    | ((first | refine fnQ_pure1 ?_ ?_ | refine fnQ_pure0 ?_ ?_); (next => repeat' first | exact rvs_n | refine rvs_t ?_ | (simp [go_sem]; done)); simp only [go_sem]; (first | exact VLe.refl _ | refine VLe_int ?_ | refine VLe_bool ?_ | refine VLe_str ?_ | skip))
    | (with_reducible refine And.intro ?_ ?_)
    | with_reducible intro _
  all_goals first
    | omega
    | grind [forced]
theorem t42 (l : List It) (i : Nat) (h : List AObj) (hi : i ≤ l.length) (hl : l.length ≤ 100000) : ACalls Try.prog 42 [items l, .int .i64 i] h (.bool (ends l i)) h := by
  refine acalls_of fn42 (by simp) ?_
  simp only [List.length_cons, List.length_nil, Nat.reduceAdd, Nat.reduceSub, List.replicate, List.cons_append, List.nil_append, List.append_nil]
  simp (disch := omega) only [c42, items, itemC, go_sem, wrap64_id, Int.tdiv_eq_ediv_of_nonneg, Int.tmod_eq_emod_of_nonneg]
  repeat' first
    | ((first | refine fnQ_pure1 ?_ ?_ | refine fnQ_pure0 ?_ ?_); (next => repeat' first | exact rvs_n | refine rvs_t ?_ | (simp [go_sem]; done)); simp only [go_sem]; (first | exact VLe.refl _ | refine VLe_int ?_ | refine VLe_bool ?_ | refine VLe_str ?_ | skip))
    | (with_reducible refine And.intro ?_ ?_)
    | with_reducible intro _
  all_goals try simp only [show ((i : Int) - 1).toNat = i - 1 by omega] at *
  all_goals first
    | omega
    | grind [ends]
theorem t45 (l : List It) (i : Nat) (h : List AObj) : ACalls Try.prog 45 [items l, .int .i64 i] h (.int .i64 (penalty l i)) h := by
  refine acalls_of fn45 (by simp) ?_
  simp only [List.length_cons, List.length_nil, Nat.reduceAdd, Nat.reduceSub, List.replicate, List.cons_append, List.nil_append, List.append_nil]
  simp (disch := omega) only [c45, items, itemC, go_sem, wrap64_id, Int.tdiv_eq_ediv_of_nonneg, Int.tmod_eq_emod_of_nonneg]
  repeat' first
    | ((first | refine callA_pure (t43 l i _) ?_ ?_); (next => repeat' first | exact flags_n | refine flags_c (by first | rfl | assumption) ?_); simp (disch := omega) only [go_sem, wrap64_id, Int.tdiv_eq_ediv_of_nonneg, Int.tmod_eq_emod_of_nonneg])
    | ((first | refine callG_pure (fun e => ⟨?_, t43 l i _⟩) ?_); (next => repeat' first | exact flags_n | refine flags_c (by first | rfl | assumption) ?_); simp (disch := omega) only [go_sem, wrap64_id, Int.tdiv_eq_ediv_of_nonneg, Int.tmod_eq_emod_of_nonneg])
    | ((first | refine fnQ_pure1 ?_ ?_ | refine fnQ_pure0 ?_ ?_); (next => repeat' first | exact rvs_n | refine rvs_t ?_ | (simp [go_sem]; done)); simp only [go_sem]; (first | exact VLe.refl _ | refine VLe_int ?_ | refine VLe_bool ?_ | refine VLe_str ?_ | skip))
    | (with_reducible refine And.intro ?_ ?_)
    | with_reducible intro _
  all_goals first
    | omega
    | grind [penalty, atBreak, forced]
theorem t41 (n : Nat) (p : List Int) (i : Nat) (h : List AObj) (hp : p.length = n + 1) (hi : i ≤ n) (hn : n ≤ 1000000) : ACalls Try.prog 41 [ints p, .int .i64 i] h (.int .i64 (behind n p i)) h := by
  refine acalls_of fn41 (by simp) ?_
  simp only [List.length_cons, List.length_nil, Nat.reduceAdd, Nat.reduceSub, List.replicate, List.cons_append, List.nil_append, List.append_nil]
  simp (disch := omega) only [c41, ints, go_sem, wrap64_id, Int.tdiv_eq_ediv_of_nonneg, Int.tmod_eq_emod_of_nonneg]
  repeat' first
    | ((first | refine fnQ_pure1 ?_ ?_ | refine fnQ_pure0 ?_ ?_); (next => repeat' first | exact rvs_n | refine rvs_t ?_ | (simp [go_sem]; done)); simp only [go_sem]; (first | exact VLe.refl _ | refine VLe_int ?_ | refine VLe_bool ?_ | refine VLe_str ?_ | skip))
    | (with_reducible refine And.intro ?_ ?_)
    | with_reducible intro _
  all_goals try simp only [show ((i : Int) + 1).toNat = i + 1 by omega] at *
  all_goals first
    | omega
    | grind [behind]
theorem t75 (l : List It) (a b : Nat) (h : List AObj) (hab : a ≤ b) (hb : b ≤ l.length) (hl : l.length ≤ 100000) : ACalls Try.prog 75 [items l, .int .i64 a, .int .i64 b] h (.int .i64 (begin_ l a b)) h := by
  refine acalls_of fn75 (by simp) ?_
  simp only [List.length_cons, List.length_nil, Nat.reduceAdd, Nat.reduceSub, List.replicate, List.cons_append, List.nil_append, List.append_nil]
  simp (disch := omega) only [c75, items, itemC, go_sem, wrap64_id, Int.tdiv_eq_ediv_of_nonneg, Int.tmod_eq_emod_of_nonneg]
  refine loop_of (T := fun i : Nat => spar 21 [(0, items l), (1, .int .i64 i), (2, .int .i64 b)]) (H := fun _ => h) (inv := fun i => i ≤ b ∧ beginGo l (b - i) i = begin_ l a b) (m := fun i => b - i) a ⟨hab, rfl⟩ (Wk.temps ?_) ?_
  · simp only [items, itemC, spar, List.foldl, List.replicate, go_sem, VLes_nil, VLes_cons, VLe_undef_iff, VLe_self]
    try (repeat' first | (with_reducible refine And.intro ?_ ?_) | (refine VLe_int ?_; omega) | (refine VLe_bool ?_; rfl))
  · rintro i ⟨hi1, hi⟩ K hK
    simp (disch := omega) only [spar, items, itemC, List.foldl, List.replicate, go_sem, wrap64_id, Int.tdiv_eq_ediv_of_nonneg, Int.tmod_eq_emod_of_nonneg]
    repeat' first
      | ((first | refine fnQ_pure1 ?_ ?_ | refine fnQ_pure0 ?_ ?_); (next => repeat' first | exact rvs_n | refine rvs_t ?_ | (simp [go_sem]; done)); simp only [go_sem]; (first | exact VLe.refl _ | refine VLe_int ?_ | refine VLe_bool ?_ | refine VLe_str ?_ | skip))
      | (with_reducible refine And.intro ?_ ?_)
      | with_reducible intro _
    all_goals first
      | omega
      | skip
    · rename_i h1
      refine hK _ _ (i + 1) ⟨by omega, ?_⟩ (by omega) (Wk.temps ?_)
      · rw [show b - i = b - (i + 1) + 1 by omega] at hi
        simpa [beginGo, h1.2] using hi
      · simp only [items, itemC, spar, List.foldl, List.replicate, go_sem, VLes_nil, VLes_cons, VLe_undef_iff, VLe_self]
        try (repeat' first | (with_reducible refine And.intro ?_ ?_) | (refine VLe_int ?_; omega) | (refine VLe_bool ?_; rfl))
    · rename_i h1
      rw [← hi]
      by_cases e : i < b
      · rw [show b - i = b - (i + 1) + 1 by omega]
        simp [beginGo, h1 (by omega)]
      · rw [show b - i = 0 by omega]; rfl
end

section
/-! the text W2 -/
open Go Go.Proofs AF P48
set_option maxRecDepth 100000

theorem wrapu_id {n : Int} (h0 : 0 ≤ n) (h1 : n < 18446744073709551616) : IntKind.u64.wrap n = n := by
  have e1 : (2 : Int) ^ IntKind.bits IntKind.u64 = 18446744073709551616 := rfl
  have e3 : IntKind.signed IntKind.u64 = false := rfl
  unfold IntKind.wrap
  rw [e1, e3]
  simp only [Bool.false_and, Bool.false_eq_true, if_false]
  omega
theorem wrapu_mod (n : Int) : IntKind.u64.wrap n = n % 18446744073709551616 := by
  have e1 : (2 : Int) ^ IntKind.bits IntKind.u64 = 18446744073709551616 := rfl
  have e3 : IntKind.signed IntKind.u64 = false := rfl
  unfold IntKind.wrap
  rw [e1, e3]
  simp only [Bool.false_and, Bool.false_eq_true, if_false]
theorem and_mask {a : Int} (h0 : 0 ≤ a) (h1 : a < 18446744073709551616) : andK .u64 a 4294967295 = a % 4294967296 := by
  obtain ⟨n, rfl⟩ := Int.eq_ofNat_of_zero_le h0
  have e : IntKind.u64.bits = 64 := rfl
  unfold andK
  rw [e, BitVec.toNat_and, BitVec.toNat_ofInt, BitVec.toNat_ofInt]
  have e2 : ((n : Int) % ((2 ^ 64 : Nat) : Int)).toNat = n := by
    rw [show ((2 ^ 64 : Nat) : Int) = 18446744073709551616 by rfl]; omega
  have e3 : ((4294967295 : Int) % ((2 ^ 64 : Nat) : Int)).toNat = 2 ^ 32 - 1 := by rfl
  rw [e2, e3, Nat.and_two_pow_sub_one_eq_mod, wrapu_id (by omega) (by omega)]
  omega
theorem shr_32 {a : Int} : shrK .u64 a 32 = a / 4294967296 := by
  have e : (2 : Int) ^ (min (32 : Int).toNat IntKind.u64.bits) = 4294967296 := rfl
  unfold shrK
  rw [e, Int.fdiv_eq_ediv_of_nonneg _ (by omega)]

theorem mul_bound {a b : Int} (h0 : 0 ≤ a) (h1 : a < 4294967296) (h2 : 0 ≤ b) (h3 : b < 4294967296) : 0 ≤ a * b ∧ a * b ≤ 18446744065119617025 := by
  refine ⟨Int.mul_nonneg h0 h2, ?_⟩
  have := Int.mul_le_mul (show a ≤ 4294967295 by omega) (show b ≤ 4294967295 by omega) h2 (by omega)
  omega

theorem div_of {a b : Int} (h0 : 0 ≤ b) (h1 : b < 4294967296) : (a * 4294967296 + b) / 4294967296 = a := by omega
theorem mod_of {a b : Int} (h0 : 0 ≤ b) (h1 : b < 4294967296) : (a * 4294967296 + b) % 4294967296 = b := by omega
theorem t133a (a b c d : Int) (h : List AObj) (a0 : 0 ≤ a) (a1 : a < 4294967296) (b0 : 0 ≤ b) (b1 : b < 4294967296) (c0 : 0 ≤ c) (c1 : c < 4294967296) (d0 : 0 ≤ d) (d1 : d < 4294967296) :
    ACalls Try.prog 133 [.int .u64 (a * 4294967296 + b), .int .u64 (c * 4294967296 + d)] h (.tup [.int .u64 (a * c + (a * d + b * d / 4294967296) / 4294967296 + ((a * d + b * d / 4294967296) % 4294967296 + b * c) / 4294967296), .int .u64 (IntKind.u64.wrap ((a * 4294967296 + b) * (c * 4294967296 + d)))]) h := by
  have p00 := mul_bound b0 b1 d0 d1
  have p10 := mul_bound a0 a1 d0 d1
  have p01 := mul_bound b0 b1 c0 c1
  have p11 := mul_bound a0 a1 c0 c1
  refine acalls_of fn133 (by simp) ?_
  simp only [List.length_cons, List.length_nil, Nat.reduceAdd, Nat.reduceSub, List.replicate, List.cons_append, List.nil_append, List.append_nil]
  simp only [c133, go_sem]
  repeat' first
    | ((first | refine fnQ_pure1 ?_ ?_ | refine fnQ_pure0 ?_ ?_); (next => repeat' first | exact rvs_n | refine rvs_t ?_ | (simp [go_sem]; done)); simp only [go_sem]; (first | exact VLe.refl _ | refine VLe_int ?_ | refine VLe_bool ?_ | refine VLe_str ?_ | skip))
    | (with_reducible refine And.intro ?_ ?_)
    | with_reducible intro _
  all_goals first
    | omega
    | skip
  simp (disch := omega) only [and_mask, shr_32, div_of, mod_of, wrapu_id]
  exact VLe.refl _
theorem t133 (x y : Int) (h : List AObj) (hx0 : 0 ≤ x) (hx1 : x < 18446744073709551616) (hy0 : 0 ≤ y) (hy1 : y < 18446744073709551616) :
    ACalls Try.prog 133 [.int .u64 x, .int .u64 y] h (.tup [.int .u64 (x * y / 18446744073709551616), .int .u64 (x * y % 18446744073709551616)]) h := by
  have := t133a (x / 4294967296) (x % 4294967296) (y / 4294967296) (y % 4294967296) h (by omega) (by omega) (by omega) (by omega) (by omega) (by omega) (by omega) (by omega)
  rw [show x / 4294967296 * 4294967296 + x % 4294967296 = x by omega, show y / 4294967296 * 4294967296 + y % 4294967296 = y by omega, wrapu_mod] at this
  have e : x * y = (x / 4294967296) * (y / 4294967296) * 18446744073709551616 + ((x / 4294967296) * (y % 4294967296) + (x % 4294967296) * (y / 4294967296)) * 4294967296 + (x % 4294967296) * (y % 4294967296) := by
    have ex : x = x / 4294967296 * 4294967296 + x % 4294967296 := by omega
    have ey : y = y / 4294967296 * 4294967296 + y % 4294967296 := by omega
    generalize x / 4294967296 = a at *
    generalize x % 4294967296 = b at *
    generalize y / 4294967296 = c at *
    generalize y % 4294967296 = d at *
    subst ex ey
    grind
  have p00 := mul_bound (a := x % 4294967296) (b := y % 4294967296) (by omega) (by omega) (by omega) (by omega)
  have e2 : x * y / 18446744073709551616 = (x / 4294967296) * (y / 4294967296) + ((x / 4294967296) * (y % 4294967296) + (x % 4294967296) * (y % 4294967296) / 4294967296) / 4294967296 + (((x / 4294967296) * (y % 4294967296) + (x % 4294967296) * (y % 4294967296) / 4294967296) % 4294967296 + (x % 4294967296) * (y / 4294967296)) / 4294967296 := by
    generalize (x / 4294967296) * (y / 4294967296) = q11 at *
    generalize (x / 4294967296) * (y % 4294967296) = q10 at *
    generalize (x % 4294967296) * (y / 4294967296) = q01 at *
    generalize (x % 4294967296) * (y % 4294967296) = q00 at *
    clear this
    omega
  rw [e2]
  exact this
def wide (v : Int) : AV := .agg [.int .u64 (v / 18446744073709551616), .int .u64 (v % 18446744073709551616)]
theorem t121 (v n : Int) (h : List AObj) (h0 : 0 ≤ v) (h1 : v * n < 340282366920938463463374607431768211456) (hn0 : 0 ≤ n) (hn1 : n < 18446744073709551616) (hv : v < 340282366920938463463374607431768211456) :
    ACalls Try.prog 121 [wide v, .int .u64 n] h (wide (v * n)) h := by
  have p0 : 0 ≤ v / 18446744073709551616 * n := Int.mul_nonneg (by omega) hn0
  have p1 : 0 ≤ v % 18446744073709551616 * n := Int.mul_nonneg (by omega) hn0
  have e : v * n = v / 18446744073709551616 * n * 18446744073709551616 + v % 18446744073709551616 * n := by
    have ev : v = v / 18446744073709551616 * 18446744073709551616 + v % 18446744073709551616 := by omega
    generalize v / 18446744073709551616 = a at *
    generalize v % 18446744073709551616 = b at *
    subst ev
    grind
  refine acalls_of fn121 (by simp) ?_
  simp only [List.length_cons, List.length_nil, Nat.reduceAdd, Nat.reduceSub, List.replicate, List.cons_append, List.nil_append, List.append_nil]
  simp only [c121, wide, go_sem]
  repeat' first
    | (refine callA_pure (t133 _ _ _ (by omega) (by omega) hn0 hn1) ⟨rfl, rfl, trivial⟩ ?_; simp (disch := omega) only [go_sem, wrapu_id])
    | (with_reducible refine And.intro ?_ ?_)
    | (with_reducible intro _)
  all_goals first
    | omega
    | skip
  · repeat' first
      | ((first | refine fnQ_pure1 ?_ ?_ | refine fnQ_pure0 ?_ ?_); (next => repeat' first | exact rvs_n | refine rvs_t ?_ | (simp [go_sem]; done)); simp only [go_sem]; (first | exact VLe.refl _ | refine VLe_int ?_ | refine VLe_bool ?_ | refine VLe_str ?_ | skip))
      | (with_reducible refine And.intro ?_ ?_)
      | with_reducible intro _
    refine VLe_agg (VLes2 (VLe_int ?_) (VLes2 (VLe_int ?_) VLes.nil)) <;> omega
theorem t122 (v u : Int) (h : List AObj) (h0 : 0 ≤ v) (h1 : 0 ≤ u) : ACalls Try.prog 122 [wide v, wide u] h (.bool (decide (u < v))) h := by
  refine acalls_of fn122 (by simp) ?_
  simp only [List.length_cons, List.length_nil, Nat.reduceAdd, Nat.reduceSub, List.replicate, List.cons_append, List.nil_append, List.append_nil]
  simp (disch := omega) only [c122, wide, go_sem, wrap64_id, Int.tdiv_eq_ediv_of_nonneg, Int.tmod_eq_emod_of_nonneg]
  repeat' first
    | ((first | refine fnQ_pure1 ?_ ?_ | refine fnQ_pure0 ?_ ?_); (next => repeat' first | exact rvs_n | refine rvs_t ?_ | (simp [go_sem]; done)); simp only [go_sem]; (first | exact VLe.refl _ | refine VLe_int ?_ | refine VLe_bool ?_ | refine VLe_str ?_ | skip))
    | (with_reducible refine And.intro ?_ ?_)
    | with_reducible intro _
  all_goals first
    | omega
    | (rw [decide_eq_decide]; omega)
    | (rw [Bool.eq_iff_iff]; simp only [Bool.and_eq_true, Bool.or_eq_true, Bool.not_eq_true', decide_eq_true_eq, decide_eq_false_iff_not, Bool.and_eq_false_imp]; omega)

/-- The greatest number of which the first one is no more than the second one, up to 10000: found by halving. -/
theorem bad_div {c t lo hi : Int} (ht : 0 < t) (h0 : 0 ≤ lo) (h1 : hi ≤ 10001) (h2 : hi = lo + 1) (h3 : lo * t ≤ c) (h4 : hi = 10001 ∨ c < hi * t) : min 10000 (c / t) = lo := by
  subst h2
  have h5 : lo ≤ c / t := (Int.le_ediv_iff_mul_le ht).2 h3
  rcases h4 with h4 | h4
  · omega
  · have : c / t < lo + 1 := (Int.ediv_lt_iff_lt_mul ht).2 h4
    omega
theorem cube_bound {c : Int} (h0 : 0 ≤ c) (h1 : c ≤ 1073741824) : 0 ≤ c * c ∧ c * c ≤ 1152921504606846976 ∧ 0 ≤ c * c * c ∧ c * c * c ≤ 1237940039285380274899124224 := by
  have a1 := Int.mul_nonneg h0 h0
  have a2 := Int.mul_le_mul h1 h1 h0 (by omega)
  have a3 := Int.mul_nonneg a1 h0
  have a4 := Int.mul_le_mul (show c * c ≤ 1152921504606846976 by omega) h1 h0 (by omega)
  omega
theorem t96 (c t : Int) (h : List AObj) (hc0 : 0 ≤ c) (hc1 : c ≤ 1000000000000) (ht0 : -1000000000000 ≤ t) (ht1 : t ≤ 1000000000000) : ACalls Try.prog 96 [.int .i64 c, .int .i64 t] h (.int .i64 (badness c t)) h := by
  have ew : ∀ n : Int, 0 ≤ n → n < 18446744073709551616 → (AV.agg [.int .u64 0, .int .u64 n]) = wide n := by
    intro n h0 h1; unfold wide; rw [Int.ediv_eq_zero_of_lt h0 h1, Int.emod_eq_of_lt h0 h1]
  obtain ⟨C, hC⟩ : ∃ C, C = min c 1073741824 := ⟨_, rfl⟩
  obtain ⟨T, hT⟩ : ∃ T, T = min t 1073741824 := ⟨_, rfl⟩
  obtain ⟨b1, b2, b3, b4⟩ := cube_bound (c := C) (by omega) (by omega)
  by_cases c0 : c = 0
  · refine acalls_of fn96 (by simp) ?_
    simp only [List.length_cons, List.length_nil, Nat.reduceAdd, Nat.reduceSub, List.replicate, List.cons_append, List.nil_append, List.append_nil]
    simp (disch := omega) only [c96, wrapu_id, go_sem, wrap64_id, Int.tdiv_eq_ediv_of_nonneg, Int.tmod_eq_emod_of_nonneg]
    repeat' first
      | (with_reducible refine And.intro ?_ ?_)
      | (with_reducible intro _; first | (exfalso; omega) | skip)
    repeat' first
      | ((first | refine fnQ_pure1 ?_ ?_ | refine fnQ_pure0 ?_ ?_); (next => repeat' first | exact rvs_n | refine rvs_t ?_ | (simp [go_sem]; done)); simp only [go_sem]; (first | exact VLe.refl _ | refine VLe_int ?_ | refine VLe_bool ?_ | refine VLe_str ?_ | skip))
      | (with_reducible refine And.intro ?_ ?_)
      | with_reducible intro _
    · simp [badness, c0]
  by_cases t0 : t ≤ 0
  · refine acalls_of fn96 (by simp) ?_
    simp only [List.length_cons, List.length_nil, Nat.reduceAdd, Nat.reduceSub, List.replicate, List.cons_append, List.nil_append, List.append_nil]
    simp (disch := omega) only [c96, wrapu_id, go_sem, wrap64_id, Int.tdiv_eq_ediv_of_nonneg, Int.tmod_eq_emod_of_nonneg]
    repeat' first
      | (with_reducible refine And.intro ?_ ?_)
      | (with_reducible intro _; first | (exfalso; omega) | skip)
    repeat' first
      | ((first | refine fnQ_pure1 ?_ ?_ | refine fnQ_pure0 ?_ ?_); (next => repeat' first | exact rvs_n | refine rvs_t ?_ | (simp [go_sem]; done)); simp only [go_sem]; (first | exact VLe.refl _ | refine VLe_int ?_ | refine VLe_bool ?_ | refine VLe_str ?_ | skip))
      | (with_reducible refine And.intro ?_ ?_)
      | with_reducible intro _
    · simp [badness, c0, t0]
  obtain ⟨d1, d2, d3, d4⟩ := cube_bound (c := T) (by omega) (by omega)
  have cpos : 0 < C := by omega
  have tpos : 0 < T * T * T := Int.mul_pos (Int.mul_pos (by omega) (by omega)) (by omega)
  have hb : badness c t = min 10000 (C * C * C * 100 / (T * T * T)) := by
    unfold badness
    rw [if_neg c0, if_neg t0, show max c (-c) = c by omega, ← hC, ← hT]
    congr 2 <;> grind
  rw [hb]
  refine acalls_of fn96 (by simp) ?_
  simp only [List.length_cons, List.length_nil, Nat.reduceAdd, Nat.reduceSub, List.replicate, List.cons_append, List.nil_append, List.append_nil]
  simp (disch := omega) only [c96, wrapu_id, go_sem, wrap64_id, Int.tdiv_eq_ediv_of_nonneg, Int.tmod_eq_emod_of_nonneg]
  repeat' first
    | (with_reducible refine And.intro ?_ ?_)
    | (with_reducible intro _; first | (exfalso; omega) | skip)
  rw [← hC, ← hT]
  simp (disch := omega) only [wrapu_id, ew, wide]
  repeat' first
    | ((first | refine callA_pure (t121 _ _ _ (by omega) (by omega) (by omega) (by omega) (by omega)) ?_ ?_); (next => repeat' first | exact flags_n | refine flags_c (by first | rfl | assumption) ?_); simp (disch := omega) only [wide, go_sem, wrap64_id, Int.tdiv_eq_ediv_of_nonneg, Int.tmod_eq_emod_of_nonneg])
    | ((first | refine callG_pure (fun e => ⟨?_, t121 _ _ _ (by omega) (by omega) (by omega) (by omega) (by omega)⟩) ?_); (next => repeat' first | exact flags_n | refine flags_c (by first | rfl | assumption) ?_); simp (disch := omega) only [wide, go_sem, wrap64_id, Int.tdiv_eq_ediv_of_nonneg, Int.tmod_eq_emod_of_nonneg])
    | ((first | refine fnQ_pure1 ?_ ?_ | refine fnQ_pure0 ?_ ?_); (next => repeat' first | exact rvs_n | refine rvs_t ?_ | (simp [go_sem]; done)); simp only [go_sem]; (first | exact VLe.refl _ | refine VLe_int ?_ | refine VLe_bool ?_ | refine VLe_str ?_ | skip))
    | (with_reducible refine And.intro ?_ ?_)
    | with_reducible intro _
  simp (disch := omega) only [wrapu_id, ew, wide]
  repeat' first
    | ((first | refine callA_pure (t121 _ _ _ (by omega) (by omega) (by omega) (by omega) (by omega)) ?_ ?_); (next => repeat' first | exact flags_n | refine flags_c (by first | rfl | assumption) ?_); simp (disch := omega) only [wide, go_sem, wrap64_id, Int.tdiv_eq_ediv_of_nonneg, Int.tmod_eq_emod_of_nonneg])
    | ((first | refine callG_pure (fun e => ⟨?_, t121 _ _ _ (by omega) (by omega) (by omega) (by omega) (by omega)⟩) ?_); (next => repeat' first | exact flags_n | refine flags_c (by first | rfl | assumption) ?_); simp (disch := omega) only [wide, go_sem, wrap64_id, Int.tdiv_eq_ediv_of_nonneg, Int.tmod_eq_emod_of_nonneg])
    | ((first | refine fnQ_pure1 ?_ ?_ | refine fnQ_pure0 ?_ ?_); (next => repeat' first | exact rvs_n | refine rvs_t ?_ | (simp [go_sem]; done)); simp only [go_sem]; (first | exact VLe.refl _ | refine VLe_int ?_ | refine VLe_bool ?_ | refine VLe_str ?_ | skip))
    | (with_reducible refine And.intro ?_ ?_)
    | with_reducible intro _
  have hq : T * T * T * 10001 < 340282366920938463463374607431768211456 := by omega
  refine loop_of (T := fun i : Int × Int => spar 57 [(7, .op h.length 1 0), (8, .op (h.length + 1) 1 0), (9, .int .i64 i.1), (10, .int .i64 i.2)])
    (H := fun _ => h ++ [.mem 1 150 [.int .u64 (T * T * T / 18446744073709551616), .int .u64 (T * T * T % 18446744073709551616)], .mem 1 150 [.int .u64 (C * C * C * 100 / 18446744073709551616), .int .u64 (C * C * C * 100 % 18446744073709551616)]])
    (inv := fun i => 0 ≤ i.1 ∧ i.1 < i.2 ∧ i.2 ≤ 10001 ∧ T * T * T * i.1 ≤ C * C * C * 100 ∧ (i.2 = 10001 ∨ C * C * C * 100 < T * T * T * i.2)) (m := fun i => (i.2 - i.1).toNat) (0, 10001)
    ⟨by omega, by omega, by omega, by omega, .inl rfl⟩ (Wk.temps ?_) ?_
  · simp only [spar, List.foldl, List.replicate, go_sem, VLes_nil, VLes_cons, VLe_undef_iff, VLe_self]
    try (repeat' first | (with_reducible refine And.intro ?_ ?_) | (refine VLe_int ?_; omega) | (refine VLe_bool ?_; rfl))
  · rintro ⟨lo, hi⟩ ⟨i1, i2, i3, i4, i5⟩ K hK
    simp only at i1 i2 i3 i4 i5 hK
    obtain ⟨M, hM⟩ : ∃ M, M = (lo + hi) / 2 := ⟨_, rfl⟩
    have im : 0 ≤ M ∧ M ≤ 10000 ∧ lo ≤ M ∧ M < hi := by omega
    have q0 : 0 ≤ T * T * T * M ∧ T * T * T * M ≤ T * T * T * 10001 := ⟨Int.mul_nonneg (by omega) (by omega), Int.mul_le_mul_of_nonneg_left (by omega) (by omega)⟩
    simp (disch := omega) only [spar, List.foldl, List.replicate, wrapu_id, go_sem, wrap64_id, Int.tdiv_eq_ediv_of_nonneg, Int.tmod_eq_emod_of_nonneg]
    rw [← hM]
    repeat' first
      | ((first | refine callA_pure (t121 _ _ _ (by omega) (by omega) (by omega) (by omega) (by omega)) ?_ ?_ | refine callA_pure (t122 _ _ _ (by omega) (by omega)) ?_ ?_); (next => repeat' first | exact flags_n | refine flags_c (by first | rfl | assumption) ?_); simp (disch := omega) only [wide, wrapu_id, go_sem, wrap64_id, Int.tdiv_eq_ediv_of_nonneg, Int.tmod_eq_emod_of_nonneg])
      | ((first | refine callG_pure (fun e => ⟨?_, t121 _ _ _ (by omega) (by omega) (by omega) (by omega) (by omega)⟩) ?_ | refine callG_pure (fun e => ⟨?_, t122 _ _ _ (by omega) (by omega)⟩) ?_); (next => repeat' first | exact flags_n | refine flags_c (by first | rfl | assumption) ?_); simp (disch := omega) only [wide, wrapu_id, go_sem, wrap64_id, Int.tdiv_eq_ediv_of_nonneg, Int.tmod_eq_emod_of_nonneg])
      | ((first | refine fnQ_pure1 ?_ ?_ | refine fnQ_pure0 ?_ ?_); (next => repeat' first | exact rvs_n | refine rvs_t ?_ | (simp [go_sem]; done)); simp only [go_sem]; (first | exact VLe.refl _ | refine VLe_int ?_ | refine VLe_bool ?_ | refine VLe_str ?_ | skip))
      | (with_reducible refine And.intro ?_ ?_)
      | with_reducible intro _
    all_goals first
      | omega
      | skip
    · rename_i h1 h2
      refine hK _ _ (lo, M) ⟨i1, by simp only; omega, by simp only; omega, i4, .inr h2⟩ (by simp only; omega) (Wk.temps ?_)
      simp only [spar, List.foldl, List.replicate, go_sem, VLes_nil, VLes_cons, VLe_undef_iff, VLe_self]
      try (repeat' first | (with_reducible refine And.intro ?_ ?_) | (refine VLe_int ?_; omega) | (refine VLe_bool ?_; rfl))
    · rename_i h1 h2
      refine hK _ _ (M, hi) ⟨by simp only; omega, by simp only; omega, i3, by simp only; omega, i5⟩ (by simp only; omega) (Wk.temps ?_)
      simp only [spar, List.foldl, List.replicate, go_sem, VLes_nil, VLes_cons, VLe_undef_iff, VLe_self]
      try (repeat' first | (with_reducible refine And.intro ?_ ?_) | (refine VLe_int ?_; omega) | (refine VLe_bool ?_; rfl))
    · rename_i h1
      refine (bad_div tpos i1 i3 (by omega) ?_ ?_).symm
      · rw [Int.mul_comm lo]; exact i4
      · rw [Int.mul_comm hi]; exact i5
end

section
/-! the text W3 -/
open Go Go.Proofs AF P48
set_option maxRecDepth 100000

theorem len_itemC (x : It) : (itemC x).length = 6 := rfl
theorem take_itemC (x : It) : List.take 6 (itemC x) = itemC x := rfl
attribute [go_sem] len_itemC take_itemC
def meas (n st sh : Int) : List AV := [.int .i64 n, .int .i64 st, .int .i64 sh]
def sel (x : It) (f : It → Int) : Int := if x.kind = 3 then 0 else f x
theorem t77 (k v : Nat) (n st sh : Int) (x : It) (h : List AObj) (hk : getO k h = some (.mem v 106 (meas n st sh))) (hx : ItemOk x) (n0 : 0 ≤ n) (n1 : n ≤ 400000000000) (s0 : 0 ≤ st) (s1 : st ≤ 400000000000) (h0 : 0 ≤ sh) (h1 : sh ≤ 400000000000) :
    ACalls Try.prog 77 [.op k v 0, .agg (itemC x)] h (.tup []) (setO k h (.mem v 106 (meas (n + sel x Item.width) (st + sel x Item.stretch) (sh + sel x Item.shrink)))) := by
  have hlt := getO_lt hk
  obtain ⟨a1, a2, a3, a4, a5, a6, a7, a8, a9, b1, b2, b3⟩ := hx
  have hc := cellsOf_of hk
  unfold meas at hk hc
  refine acalls_of fn77 (by simp) ?_
  simp only [List.length_cons, List.length_nil, Nat.reduceAdd, Nat.reduceSub, List.replicate, List.cons_append, List.nil_append, List.append_nil]
  simp (disch := omega) only [c77, itemC, getO_left, setO_left, cellsOf_left, hk, hc, getO_set, cellsOf_set, setO_set, go_sem, wrap64_id, Int.tdiv_eq_ediv_of_nonneg, Int.tmod_eq_emod_of_nonneg]
  repeat' first
    | (with_reducible refine And.intro ?_ ?_)
    | (with_reducible intro _)
  all_goals first
    | omega
    | skip
  · rename_i h3
    refine fnQ_effn trivial len_setO (fun o ho => ?_) ⟨rfl, ?_⟩ (VLe.refl _)
    · rcases mem_setO ho with h4 | rfl
      · exact .inl h4
      · right
        intro c hc
        simp at hc
        rcases hc with rfl | rfl | rfl <;> rfl
    · simp [sel, h3, meas]
  · rename_i h3
    refine fnQ_effn trivial rfl (fun o ho => .inl ho) ⟨rfl, ?_⟩ (VLe.refl _)
    rw [setO_same]
    rw [hk]; simp [sel, h3, meas]

def fitAV (r : Int × Int × Bool) : AV := .tup [.int .i64 r.1, .int .i64 r.2.1, .bool r.2.2]
structure Valid (l : List It) : Prop where
  len : l.length ≤ 300
  ok : ∀ i, i < l.length → ItemOk (it l i)
theorem Valid.num {l : List It} (hv : Valid l) (i : Nat) : (0 ≤ (it l i).width ∧ (it l i).width ≤ 1073741824) ∧ (0 ≤ (it l i).stretch ∧ (it l i).stretch ≤ 1073741824) ∧ (0 ≤ (it l i).shrink ∧ (it l i).shrink ≤ 1073741824) ∧ -10000 ≤ (it l i).penalty ∧ (it l i).penalty ≤ 10000 := by
  by_cases h : i < l.length
  · obtain ⟨a1, a2, a3, a4, a5, a6, a7, a8, a9, b1, b2, b3⟩ := hv.ok i h
    omega
  · unfold it
    rw [List.getD_eq_getElem?_getD, List.getElem?_eq_none (by omega)]
    decide
theorem Valid.of {l : List It} (hl : l.length ≤ 300) (hc : check l = 0) : Valid l := ⟨hl, fun _ h => items_ok hc h⟩
theorem VLe_fit {a b : Int} {c : Bool} {r : Int × Int × Bool} (h : (a, b, c) = r) : VLe (.tup [.int .i64 a, .int .i64 b, .bool c]) (fitAV r) := by subst h; exact VLe.refl _
theorem t76 (l : List It) (width n st sh : Int) (to : Nat) (h : List AObj) (hv : Valid l) (w0 : 0 ≤ width) (w1 : width ≤ 1073741824)
    (n0 : 0 ≤ n) (n1 : n ≤ 400000000000) (s0 : 0 ≤ st) (s1 : st ≤ 400000000000) (h0 : 0 ≤ sh) (h1 : sh ≤ 400000000000) :
    ACalls Try.prog 76 [items l, .int .i64 width, .agg (meas n st sh), .int .i64 to] h (fitAV (fit l width n st sh to)) h := by
  obtain ⟨⟨w2, w3⟩, _⟩ := hv.num to
  have hl := hv.len
  refine acalls_of fn76 (by simp) ?_
  simp only [List.length_cons, List.length_nil, Nat.reduceAdd, Nat.reduceSub, List.replicate, List.cons_append, List.nil_append, List.append_nil]
  simp (disch := omega) only [c76, items, itemC, meas, go_sem, wrap64_id, Int.tdiv_eq_ediv_of_nonneg, Int.tmod_eq_emod_of_nonneg]
  repeat' first
    | ((first | refine callA_pure (t43 l to _) ?_ ?_ | refine callA_pure (t96 _ _ _ (by omega) (by omega) (by omega) (by omega)) ?_ ?_); (next => repeat' first | exact flags_n | refine flags_c (by first | rfl | assumption) ?_); simp (disch := omega) only [go_sem, wrap64_id, Int.tdiv_eq_ediv_of_nonneg, Int.tmod_eq_emod_of_nonneg])
    | ((first | refine callG_pure (fun e => ⟨?_, t43 l to _⟩) ?_ | refine callG_pure (fun e => ⟨?_, t96 _ _ _ (by omega) (by omega) (by omega) (by omega)⟩) ?_); (next => repeat' first | exact flags_n | refine flags_c (by first | rfl | assumption) ?_); simp (disch := omega) only [go_sem, wrap64_id, Int.tdiv_eq_ediv_of_nonneg, Int.tmod_eq_emod_of_nonneg])
    | ((first | refine fnQ_pure1 ?_ ?_ | refine fnQ_pure0 ?_ ?_); (next => repeat' first | exact rvs_n | refine rvs_t ?_ | (simp [go_sem]; done)); simp only [go_sem]; (first | exact VLe.refl _ | refine VLe_int ?_ | refine VLe_bool ?_ | refine VLe_str ?_ | skip))
    | (with_reducible refine And.intro ?_ ?_)
    | with_reducible intro _
  all_goals first
    | omega
    | skip
  all_goals refine VLe_fit ?_
  all_goals try simp only [Int.zero_sub] at *
  all_goals first
    | grind [fit, atBreak]
    | (have hb : atBreak l to = false := by
        cases hx : atBreak l to with
        | false => rfl
        | true => simp [atBreak] at hx; omega
       unfold fit
       simp only [hb, Bool.false_eq_true, if_false]
       first
         | (rw [if_neg (by omega), if_neg (by omega)])
         | trace_state)
end

section
/-! the text W4 -/
open Go Go.Proofs AF P48
set_option maxRecDepth 100000
def linesF (l : List It) (width : Int) (frm : Nat) : AV := .fn (.func 74) [] [.ip [items l], .ip [.int .i64 frm], .ip [.int .i64 width]]
theorem t40 (l : List It) (width : Int) (frm : Nat) (h : List AObj) : ACalls Try.prog 40 [items l, .int .i64 width, .int .i64 frm] h (linesF l width frm) h := by
  refine acalls_of fn40 (by simp) ?_
  simp only [List.length_cons, List.length_nil, Nat.reduceAdd, Nat.reduceSub, List.replicate, List.cons_append, List.nil_append, List.append_nil]
  simp (disch := omega) only [c40, linesF, items, go_sem, wrap64_id, Int.tdiv_eq_ediv_of_nonneg, Int.tmod_eq_emod_of_nonneg]
  repeat' first
    | ((first | refine fnQ_pure1 ?_ ?_ | refine fnQ_pure0 ?_ ?_); (next => repeat' first | exact rvs_n | refine rvs_t ?_ | (simp [go_sem]; done)); simp only [go_sem]; (first | exact VLe.refl _ | refine VLe_int ?_ | refine VLe_bool ?_ | refine VLe_str ?_ | skip))
    | (with_reducible refine And.intro ?_ ?_)
    | with_reducible intro _
  all_goals first
    | omega
    | trace_state

/-- What the objects of the caller may be. -/
def Low (h hh : List AObj) : Prop := hh.length = h.length ∧ ∀ o ∈ hh, o ∈ h ∨ (lowO h.length o ∧ lowO (h.length + 1) o)

theorem free_succ {l : List It} {a b : Nat} (h : a ≤ b) : free l a (b + 1) = (free l a b && !forced l b) := by
  rw [Bool.eq_iff_iff, Bool.and_eq_true, free_iff, free_iff]
  simp only [Bool.not_eq_true']
  constructor
  · intro g; exact ⟨fun i h1 h2 => g i h1 (by omega), g b h (by omega)⟩
  · rintro ⟨g1, g2⟩ i h1 h2
    by_cases e : i = b
    · subst e; exact g2
    · exact g1 i h1 (by omega)
theorem free_mono {l : List It} {a b c : Nat} (h : b ≤ c) (hf : free l a b = false) : free l a c = false := by
  cases hx : free l a c with
  | false => rfl
  | true =>
    have : free l a b = true := free_iff.2 fun i h1 h2 => free_iff.1 hx i h1 (by omega)
    rw [hf] at this; cases this

theorem begin_self (l : List It) (a : Nat) : begin_ l a a = a := by have := begin_le l (Nat.le_refl a); omega
theorem Low.ret {h hh : List AObj} {ts : List AV} {L : LInfo} (s : LS) (hl : Low h hh) (hts : ∀ c ∈ ts, lowV (h.length + 1) c = true) :
    (hh ++ [AObj.lp s ts L]).length = (h ++ [AObj.lp .ready ts L]).length ∧ ∀ o ∈ hh ++ [AObj.lp s ts L], o ∈ h ++ [AObj.lp .ready ts L] ∨ lowO (h ++ [AObj.lp .ready ts L]).length o := by
  refine ⟨by simp [hl.1], fun o ho => ?_⟩
  rw [List.length_append, List.length_singleton]
  rcases List.mem_append.1 ho with ho | ho
  · rcases hl.2 o ho with h1 | h1
    · exact .inl (List.mem_append_left _ h1)
    · exact .inr h1.2
  · rw [List.mem_singleton] at ho
    subst ho
    exact .inr hts
section
variable {l : List It} {width : Int} {frm : Nat} (hv : Valid l) (w0 : 0 ≤ width) (w1 : width ≤ 1073741824) (hf : frm ≤ l.length)
  {h : List AObj} {ts : List AV} {L : LInfo} {S : Nat → List AObj → Prop} {E : LS → List AObj → Prop}
  (hS : ∀ i hh, S i hh → Low h hh) (hE : ∀ s hh, E s hh → Low h hh)
  (body : ∀ to c hh tl, frm ≤ to → to ≤ l.length → arc l width frm to = some c → S to hh →
    AYield Try.prog h.length [.int .i64 to, .int .i64 c] (hh ++ .lp .ready ts L :: tl) (fun r h' => ∃ hh', (r = .bool true ∧ S (to + 1) hh' ∧ h' = hh' ++ .lp .ready ts L :: tl) ∨ (∃ s, r = .bool false ∧ E s hh' ∧ h' = hh' ++ .lp s ts L :: tl)))
  (skip : ∀ to hh, frm ≤ to → to ≤ l.length → arc l width frm to = none → S to hh → S (to + 1) hh)
  (start : S frm h) (hts : ∀ c ∈ ts, lowV (h.length + 1) c = true)
include hv w0 w1 hf hS hE body skip start hts

theorem skips {to : Nat} (h0 : frm ≤ to) (hfree : free l frm to = false) : ∀ (k : Nat) {hh : List AObj} {i : Nat}, l.length + 1 - i = k → to ≤ i → i ≤ l.length + 1 → S i hh → S (l.length + 1) hh := by
  intro k
  induction k with
  | zero => intro hh i h1 h2 h3 h4; rwa [show l.length + 1 = i by omega]
  | succ k ih =>
    intro hh i h1 h2 h3 h4
    refine ih (i := i + 1) (by omega) (by omega) (by omega) (skip i hh (by omega) (by omega) ?_ h4)
    unfold arc
    rw [free_mono h2 hfree]
    simp

theorem t74 : ACallsQ Try.prog 74 [.yld h.length, .ip [items l], .ip [.int .i64 frm], .ip [.int .i64 width]] (h ++ [.lp .ready ts L])
    (fun _ h' => ∃ hh, (S (l.length + 1) hh ∧ h' = hh ++ [.lp .ready ts L]) ∨ ∃ s, E s hh ∧ h' = hh ++ [.lp s ts L]) := by
  have hl := hv.len
  have b0 := begin_le l hf
  refine acallsQ_of fn74 (by simp) ?_
  simp only [List.length_cons, List.length_nil, Nat.reduceAdd, Nat.reduceSub, List.replicate, List.cons_append, List.nil_append, List.append_nil]
  simp (disch := omega) only [c74, items, go_sem, wrap64_id, Int.tdiv_eq_ediv_of_nonneg, Int.tmod_eq_emod_of_nonneg]
  repeat' first
    | ((first | refine callA_pure (t75 l frm l.length _ hf (by omega) (by omega)) ?_ ?_); (next => repeat' first | exact flags_n | refine flags_c (by first | rfl | assumption) ?_); simp (disch := omega) only [go_sem, wrap64_id, Int.tdiv_eq_ediv_of_nonneg, Int.tmod_eq_emod_of_nonneg])
    | ((first | refine callG_pure (fun e => ⟨?_, t75 l frm l.length _ hf (by omega) (by omega)⟩) ?_); (next => repeat' first | exact flags_n | refine flags_c (by first | rfl | assumption) ?_); simp (disch := omega) only [go_sem, wrap64_id, Int.tdiv_eq_ediv_of_nonneg, Int.tmod_eq_emod_of_nonneg])
    | ((first | refine fnQ_pure1 ?_ ?_ | refine fnQ_pure0 ?_ ?_); (next => repeat' first | exact rvs_n | refine rvs_t ?_ | (simp [go_sem]; done)); simp only [go_sem]; (first | exact VLe.refl _ | refine VLe_int ?_ | refine VLe_bool ?_ | refine VLe_str ?_ | skip))
    | (with_reducible refine And.intro ?_ ?_)
    | with_reducible intro _
  all_goals first
    | omega
    | skip
  refine loop_of (T := fun i : Nat × List AObj => spar 64 [(0, .yld h.length), (1, .ip [items l]), (2, .ip [.int .i64 frm]), (3, .ip [.int .i64 width]), (5, .op (h ++ [AObj.lp .ready ts L]).length 1 0), (6, .int .i64 (begin_ l frm l.length)), (7, .int .i64 i.1)])
    (H := fun i => (i.2 ++ [.lp .ready ts L]) ++ [.mem 1 106 (meas (sumOf Item.width l (begin_ l frm (min i.1 l.length)) (min i.1 l.length)) (sumOf Item.stretch l (begin_ l frm (min i.1 l.length)) (min i.1 l.length)) (sumOf Item.shrink l (begin_ l frm (min i.1 l.length)) (min i.1 l.length)))])
    (inv := fun i => frm ≤ i.1 ∧ i.1 ≤ l.length + 1 ∧ S i.1 i.2 ∧ free l frm i.1 = true) (m := fun i => l.length + 1 - i.1) (frm, h) ⟨Nat.le_refl _, by simp only; omega, start, by simp only; rw [free_iff]; omega⟩ ?_ ?_
  · simp only [Nat.min_eq_left hf, begin_self, sumOf_self, meas]
    refine Wk.temps ?_
    simp only [items, spar, List.foldl, List.replicate, go_sem, VLes_nil, VLes_cons, VLe_undef_iff, VLe_self]
    try (repeat' first | (with_reducible refine And.intro ?_ ?_) | (refine VLe_int ?_; omega) | (refine VLe_bool ?_; rfl))
  · rintro ⟨to, hh⟩ ⟨i1, i2, i3, i4⟩ K hK
    simp only at i1 i2 i3 i4 hK
    obtain ⟨hlen, hlow⟩ := hS _ _ i3
    have hB : ∀ g : List AObj, g.length = h.length → (h ++ [AObj.lp .ready ts L]).length = (g ++ [AObj.lp .ready ts L]).length := by intro g hg; simp [hg]
    rw [hB hh hlen]
    by_cases hto : to ≤ l.length
    · have em : min to l.length = to := Nat.min_eq_left hto
      have q1 := sumOf_bound Item.width l (fun i => (hv.num i).1) (begin_ l frm to) to (by omega)
      have q2 := sumOf_bound Item.stretch l (fun i => (hv.num i).2.1) (begin_ l frm to) to (by omega)
      have q3 := sumOf_bound Item.shrink l (fun i => (hv.num i).2.2.1) (begin_ l frm to) to (by omega)
      simp (disch := omega) only [spar, items, List.foldl, List.replicate, em, meas, go_sem, wrap64_id, Int.tdiv_eq_ediv_of_nonneg, Int.tmod_eq_emod_of_nonneg]
      refine ⟨by omega, fun _ => ⟨by omega, ?_⟩, fun hc => absurd (by omega) hc⟩
      refine callA_pure (t42 l to _ hto (by omega)) ⟨rfl, rfl, trivial⟩ ?_
      cases he : ends l to with
      | false =>
        have harc : arc l width frm to = none := by unfold arc; simp [he]
        have hn := skip to hh i1 hto harc i3
        simp (disch := omega) only [he, meas, go_sem, wrap64_id, Int.tdiv_eq_ediv_of_nonneg, Int.tmod_eq_emod_of_nonneg]
        refine ⟨by omega, ?_⟩
        refine callA_pure (t43 l to _) ⟨rfl, rfl, trivial⟩ ?_
        cases hfo : forced l to with
        | true =>
          simp (disch := omega) only [hfo, go_sem, wrap64_id, Int.tdiv_eq_ediv_of_nonneg, Int.tmod_eq_emod_of_nonneg]
          have hfr : free l frm (to + 1) = false := by rw [free_succ i1, hfo]; simp
          have hz := skips hv w0 w1 hf hS hE body skip start hts (by omega) hfr _ rfl (Nat.le_refl _) (by omega) hn
          obtain ⟨r1, r2⟩ := (hS _ _ hz).ret (L := L) .ready hts
          exact fnQ_eff trivial r1 r2 ⟨_, .inl ⟨hz, rfl⟩⟩ (VLe.refl _)
        | false =>
          have hfr : free l frm (to + 1) = true := by rw [free_succ i1, hfo, i4]; rfl
          simp (disch := omega) only [hfo, go_sem, wrap64_id, Int.tdiv_eq_ediv_of_nonneg, Int.tmod_eq_emod_of_nonneg]
          have e1 := begin_min l i1 hto
          repeat' first
            | (with_reducible refine And.intro ?_ ?_)
            | (with_reducible intro _)
          all_goals first
            | omega
            | skip
          · rename_i hadd
            refine callA_eff (t77 _ 1 _ _ _ (it l to) _ getO_app0 (hv.ok to (by omega)) q1.1 q1.2 q2.1 q2.2 q3.1 q3.2) ⟨rfl, rfl, trivial⟩ ?_
            simp (disch := omega) only [go_sem, wrap64_id, Int.tdiv_eq_ediv_of_nonneg, Int.tmod_eq_emod_of_nonneg]
            have e2 := begin_min l (show frm ≤ to + 1 by omega) (show to + 1 ≤ l.length by omega)
            have e3 : begin_ l frm (to + 1) = begin_ l frm to := by omega
            have e4 : begin_ l frm to ≤ to := by omega
            refine hK _ _ (to + 1, hh) ⟨by simp only; omega, by simp only; omega, hn, hfr⟩ (by simp only; omega) ?_
            simp only [Nat.min_eq_left (show to + 1 ≤ l.length by omega), e3, sumOf_snoc _ l e4, sel, meas]
            refine Wk.temps ?_
            simp only [items, spar, List.foldl, List.replicate, go_sem, VLes_nil, VLes_cons, VLe_undef_iff, VLe_self]
            try (repeat' first | (with_reducible refine And.intro ?_ ?_) | (refine VLe_int ?_; omega) | (refine VLe_bool ?_; rfl))
            all_goals first
              | rw [hB _ hlen]
              | skip
            all_goals exact VLe.refl _
          · rename_i hadd
            have e5 : ∀ f, sumOf f l (begin_ l frm (min (to + 1) l.length)) (min (to + 1) l.length) = sumOf f l (begin_ l frm to) to := by
              intro f
              by_cases hlt : to < l.length
              · have e2 := begin_min l (show frm ≤ to + 1 by omega) (show to + 1 ≤ l.length by omega)
                rw [Nat.min_eq_left (show to + 1 ≤ l.length by omega), show begin_ l frm (to + 1) = to + 1 by omega, show begin_ l frm to = to by omega, sumOf_self, sumOf_self]
              · rw [show min (to + 1) l.length = to by omega]
            refine hK _ _ (to + 1, hh) ⟨by simp only; omega, by simp only; omega, hn, hfr⟩ (by simp only; omega) ?_
            simp only [e5, meas]
            refine Wk.temps ?_
            simp only [items, spar, List.foldl, List.replicate, go_sem, VLes_nil, VLes_cons, VLe_undef_iff, VLe_self]
            try (repeat' first | (with_reducible refine And.intro ?_ ?_) | (refine VLe_int ?_; omega) | (refine VLe_bool ?_; rfl))
            all_goals first
              | rw [hB _ hlen]
              | skip
            all_goals exact VLe.refl _
      | true =>
        simp (disch := omega) only [he, meas, go_sem, wrap64_id, Int.tdiv_eq_ediv_of_nonneg, Int.tmod_eq_emod_of_nonneg]
        repeat' first
          | ((first | refine callA_pure (t76 l width _ _ _ to _ hv w0 w1 q1.1 q1.2 q2.1 q2.2 q3.1 q3.2) ?_ ?_); (next => repeat' first | exact flags_n | refine flags_c (by first | rfl | assumption) ?_); simp (disch := omega) only [meas, fitAV, go_sem, wrap64_id, Int.tdiv_eq_ediv_of_nonneg, Int.tmod_eq_emod_of_nonneg])
          | ((first | refine callG_pure (fun e => ⟨?_, t76 l width _ _ _ to _ hv w0 w1 q1.1 q1.2 q2.1 q2.2 q3.1 q3.2⟩) ?_); (next => repeat' first | exact flags_n | refine flags_c (by first | rfl | assumption) ?_); simp (disch := omega) only [meas, fitAV, go_sem, wrap64_id, Int.tdiv_eq_ediv_of_nonneg, Int.tmod_eq_emod_of_nonneg])
          | ((first | refine fnQ_pure1 ?_ ?_ | refine fnQ_pure0 ?_ ?_); (next => repeat' first | exact rvs_n | refine rvs_t ?_ | (simp [go_sem]; done)); simp only [go_sem]; (first | exact VLe.refl _ | refine VLe_int ?_ | refine VLe_bool ?_ | refine VLe_str ?_ | skip))
          | (with_reducible refine And.intro ?_ ?_)
          | with_reducible intro _
        all_goals first
          | omega
          | skip
        obtain ⟨r, hr⟩ : ∃ r, r = lineOf l width frm to := ⟨_, rfl⟩
        have hr1 := fit_nonneg l width (sumOf Item.width l (begin_ l frm to) to) (sumOf Item.stretch l (begin_ l frm to) to) (sumOf Item.shrink l (begin_ l frm to) to) to
        rw [show fit l width (sumOf Item.width l (begin_ l frm to) to) (sumOf Item.stretch l (begin_ l frm to) to) (sumOf Item.shrink l (begin_ l frm to) to) to = r from hr.symm] at hr1 ⊢
        have hp1 : -10000 ≤ penalty l to ∧ penalty l to ≤ 10000 := by
          have := (hv.num to).2.2.2
          unfold penalty; split <;> omega
        cases hi : r.2.2 with
        | false =>
          have harc : arc l width frm to = none := by unfold arc cost; rw [← hr]; simp [hi]
          have hn := skip to hh i1 hto harc i3
          repeat' first
            | ((first | refine callA_pure (t45 l to _) ?_ ?_); (next => repeat' first | exact flags_n | refine flags_c (by first | rfl | assumption) ?_); simp (disch := omega) only [hi, go_sem, wrap64_id, Int.tdiv_eq_ediv_of_nonneg, Int.tmod_eq_emod_of_nonneg])
            | ((first | refine callG_pure (fun e => ⟨?_, t45 l to _⟩) ?_); (next => repeat' first | exact flags_n | refine flags_c (by first | rfl | assumption) ?_); simp (disch := omega) only [hi, go_sem, wrap64_id, Int.tdiv_eq_ediv_of_nonneg, Int.tmod_eq_emod_of_nonneg])
            | ((first | refine fnQ_pure1 ?_ ?_ | refine fnQ_pure0 ?_ ?_); (next => repeat' first | exact rvs_n | refine rvs_t ?_ | (simp [go_sem]; done)); simp only [go_sem]; (first | exact VLe.refl _ | refine VLe_int ?_ | refine VLe_bool ?_ | refine VLe_str ?_ | skip))
            | (with_reducible refine And.intro ?_ ?_)
            | with_reducible intro _
          all_goals first
            | omega
            | skip
          refine callA_pure (t43 l to _) ⟨rfl, rfl, trivial⟩ ?_
          cases hfo : forced l to with
          | true =>
            simp (disch := omega) only [hfo, go_sem, wrap64_id, Int.tdiv_eq_ediv_of_nonneg, Int.tmod_eq_emod_of_nonneg]
            have hfr : free l frm (to + 1) = false := by rw [free_succ i1, hfo]; simp
            have hz := skips hv w0 w1 hf hS hE body skip start hts (by omega) hfr _ rfl (Nat.le_refl _) (by omega) hn
            obtain ⟨r1, r2⟩ := (hS _ _ hz).ret (L := L) .ready hts
            exact fnQ_eff trivial r1 r2 ⟨_, .inl ⟨hz, rfl⟩⟩ (VLe.refl _)
          | false =>
            have hfr : free l frm (to + 1) = true := by rw [free_succ i1, hfo, i4]; rfl
            simp (disch := omega) only [hfo, go_sem, wrap64_id, Int.tdiv_eq_ediv_of_nonneg, Int.tmod_eq_emod_of_nonneg]
            have e1 := begin_min l i1 hto
            repeat' first
              | (with_reducible refine And.intro ?_ ?_)
              | (with_reducible intro _)
            all_goals first
              | omega
              | skip
            · rename_i hadd
              refine callA_eff (t77 _ 1 _ _ _ (it l to) _ getO_app0 (hv.ok to (by omega)) q1.1 q1.2 q2.1 q2.2 q3.1 q3.2) ⟨rfl, rfl, trivial⟩ ?_
              simp (disch := omega) only [go_sem, wrap64_id, Int.tdiv_eq_ediv_of_nonneg, Int.tmod_eq_emod_of_nonneg]
              have e2 := begin_min l (show frm ≤ to + 1 by omega) (show to + 1 ≤ l.length by omega)
              have e3 : begin_ l frm (to + 1) = begin_ l frm to := by omega
              have e4 : begin_ l frm to ≤ to := by omega
              refine hK _ _ (to + 1, hh) ⟨by simp only; omega, by simp only; omega, hn, hfr⟩ (by simp only; omega) ?_
              simp only [Nat.min_eq_left (show to + 1 ≤ l.length by omega), e3, sumOf_snoc _ l e4, sel, meas]
              refine Wk.temps ?_
              simp only [items, spar, List.foldl, List.replicate, go_sem, VLes_nil, VLes_cons, VLe_undef_iff, VLe_self]
              try (repeat' first | (with_reducible refine And.intro ?_ ?_) | (refine VLe_int ?_; omega) | (refine VLe_bool ?_; rfl))
              all_goals first
                | rw [hB _ hlen]
                | skip
              all_goals exact VLe.refl _
            · rename_i hadd
              have e5 : ∀ f, sumOf f l (begin_ l frm (min (to + 1) l.length)) (min (to + 1) l.length) = sumOf f l (begin_ l frm to) to := by
                intro f
                by_cases hlt : to < l.length
                · have e2 := begin_min l (show frm ≤ to + 1 by omega) (show to + 1 ≤ l.length by omega)
                  rw [Nat.min_eq_left (show to + 1 ≤ l.length by omega), show begin_ l frm (to + 1) = to + 1 by omega, show begin_ l frm to = to by omega, sumOf_self, sumOf_self]
                · rw [show min (to + 1) l.length = to by omega]
              refine hK _ _ (to + 1, hh) ⟨by simp only; omega, by simp only; omega, hn, hfr⟩ (by simp only; omega) ?_
              simp only [e5, meas]
              refine Wk.temps ?_
              simp only [items, spar, List.foldl, List.replicate, go_sem, VLes_nil, VLes_cons, VLe_undef_iff, VLe_self]
              try (repeat' first | (with_reducible refine And.intro ?_ ?_) | (refine VLe_int ?_; omega) | (refine VLe_bool ?_; rfl))
              all_goals first
                | rw [hB _ hlen]
                | skip
              all_goals exact VLe.refl _
        | true =>
          have harc : arc l width frm to = some (r.1 + penalty l to) := by unfold arc cost; rw [← hr]; simp [hi, he, i4]
          repeat' first
            | ((first | refine callA_pure (t45 l to _) ?_ ?_); (next => repeat' first | exact flags_n | refine flags_c (by first | rfl | assumption) ?_); simp (disch := omega) only [hi, go_sem, wrap64_id, Int.tdiv_eq_ediv_of_nonneg, Int.tmod_eq_emod_of_nonneg])
            | ((first | refine callG_pure (fun e => ⟨?_, t45 l to _⟩) ?_); (next => repeat' first | exact flags_n | refine flags_c (by first | rfl | assumption) ?_); simp (disch := omega) only [hi, go_sem, wrap64_id, Int.tdiv_eq_ediv_of_nonneg, Int.tmod_eq_emod_of_nonneg])
            | ((first | refine fnQ_pure1 ?_ ?_ | refine fnQ_pure0 ?_ ?_); (next => repeat' first | exact rvs_n | refine rvs_t ?_ | (simp [go_sem]; done)); simp only [go_sem]; (first | exact VLe.refl _ | refine VLe_int ?_ | refine VLe_bool ?_ | refine VLe_str ?_ | skip))
            | (with_reducible refine And.intro ?_ ?_)
            | with_reducible intro _
          all_goals first
            | omega
            | skip
          · exact ⟨.ready, ts, L, by rw [List.append_assoc, ← hlen]; exact getO_app0⟩
          · have hbody := body to _ hh [.mem 1 106 (meas (sumOf Item.width l (begin_ l frm to) to) (sumOf Item.stretch l (begin_ l frm to) to) (sumOf Item.shrink l (begin_ l frm to) to))] i1 hto harc i3
            rw [List.append_cons] at hbody
            refine AYield.mono ?_ hbody
            rintro v h' ⟨hh', ⟨rfl, hn, rfl⟩ | ⟨s, rfl, hs, rfl⟩⟩
            · obtain ⟨hlen', hlow'⟩ := hS _ _ hn
              rw [← hB hh hlen, hB hh' hlen', List.append_cons hh' (AObj.lp .ready ts L) [AObj.mem _ _ _]]
              simp (disch := omega) only [hi, meas, go_sem, wrap64_id, Int.tdiv_eq_ediv_of_nonneg, Int.tmod_eq_emod_of_nonneg]
              refine ⟨by omega, ?_⟩
              refine callA_pure (t43 l to _) ⟨rfl, rfl, trivial⟩ ?_
              cases hfo : forced l to with
              | true =>
                simp (disch := omega) only [hfo, go_sem, wrap64_id, Int.tdiv_eq_ediv_of_nonneg, Int.tmod_eq_emod_of_nonneg]
                have hfr : free l frm (to + 1) = false := by rw [free_succ i1, hfo]; simp
                have hz := skips hv w0 w1 hf hS hE body skip start hts (by omega) hfr _ rfl (Nat.le_refl _) (by omega) hn
                obtain ⟨r1, r2⟩ := (hS _ _ hz).ret (L := L) .ready hts
                exact fnQ_eff trivial r1 r2 ⟨_, .inl ⟨hz, rfl⟩⟩ (VLe.refl _)
              | false =>
                have hfr : free l frm (to + 1) = true := by rw [free_succ i1, hfo, i4]; rfl
                simp (disch := omega) only [hfo, go_sem, wrap64_id, Int.tdiv_eq_ediv_of_nonneg, Int.tmod_eq_emod_of_nonneg]
                have e1 := begin_min l i1 hto
                repeat' first
                  | (with_reducible refine And.intro ?_ ?_)
                  | (with_reducible intro _)
                all_goals first
                  | omega
                  | skip
                · rename_i hadd
                  refine callA_eff (t77 _ 1 _ _ _ (it l to) _ getO_app0 (hv.ok to (by omega)) q1.1 q1.2 q2.1 q2.2 q3.1 q3.2) ⟨rfl, rfl, trivial⟩ ?_
                  simp (disch := omega) only [go_sem, wrap64_id, Int.tdiv_eq_ediv_of_nonneg, Int.tmod_eq_emod_of_nonneg]
                  have e2 := begin_min l (show frm ≤ to + 1 by omega) (show to + 1 ≤ l.length by omega)
                  have e3 : begin_ l frm (to + 1) = begin_ l frm to := by omega
                  have e4 : begin_ l frm to ≤ to := by omega
                  refine hK _ _ (to + 1, hh') ⟨by simp only; omega, by simp only; omega, hn, hfr⟩ (by simp only; omega) ?_
                  simp only [Nat.min_eq_left (show to + 1 ≤ l.length by omega), e3, sumOf_snoc _ l e4, sel, meas]
                  refine Wk.temps ?_
                  simp only [items, spar, List.foldl, List.replicate, go_sem, VLes_nil, VLes_cons, VLe_undef_iff, VLe_self]
                  try (repeat' first | (with_reducible refine And.intro ?_ ?_) | (refine VLe_int ?_; omega) | (refine VLe_bool ?_; rfl))
                  all_goals first
                    | rw [hB _ hlen']
                    | skip
                  all_goals exact VLe.refl _
                · rename_i hadd
                  have e5 : ∀ f, sumOf f l (begin_ l frm (min (to + 1) l.length)) (min (to + 1) l.length) = sumOf f l (begin_ l frm to) to := by
                    intro f
                    by_cases hlt : to < l.length
                    · have e2 := begin_min l (show frm ≤ to + 1 by omega) (show to + 1 ≤ l.length by omega)
                      rw [Nat.min_eq_left (show to + 1 ≤ l.length by omega), show begin_ l frm (to + 1) = to + 1 by omega, show begin_ l frm to = to by omega, sumOf_self, sumOf_self]
                    · rw [show min (to + 1) l.length = to by omega]
                  refine hK _ _ (to + 1, hh') ⟨by simp only; omega, by simp only; omega, hn, hfr⟩ (by simp only; omega) ?_
                  simp only [e5, meas]
                  refine Wk.temps ?_
                  simp only [items, spar, List.foldl, List.replicate, go_sem, VLes_nil, VLes_cons, VLe_undef_iff, VLe_self]
                  try (repeat' first | (with_reducible refine And.intro ?_ ?_) | (refine VLe_int ?_; omega) | (refine VLe_bool ?_; rfl))
                  all_goals first
                    | rw [hB _ hlen']
                    | skip
                  all_goals exact VLe.refl _
            · rw [← hB hh hlen, hB hh' (hE _ _ hs).1, List.append_cons hh' (AObj.lp s ts L) [AObj.mem _ _ _]]
              simp (disch := omega) only [hi, meas, go_sem, wrap64_id, Int.tdiv_eq_ediv_of_nonneg, Int.tmod_eq_emod_of_nonneg]
              obtain ⟨r1, r2⟩ := (hE _ _ hs).ret (L := L) s hts
              exact fnQ_eff trivial r1 r2 ⟨_, .inr ⟨s, hs, rfl⟩⟩ (VLe.refl _)
    · simp (disch := omega) only [spar, items, List.foldl, List.replicate, meas, go_sem, wrap64_id, Int.tdiv_eq_ediv_of_nonneg, Int.tmod_eq_emod_of_nonneg]
      refine ⟨by omega, fun hc => absurd hc (by omega), fun _ => ?_⟩
      have e : to = l.length + 1 := by omega
      subst e
      obtain ⟨r1, r2⟩ := (hS _ _ i3).ret (L := L) .ready hts
      exact fnQ_effn trivial r1 r2 ⟨_, .inl ⟨i3, rfl⟩⟩ (VLe.refl _)
end
end
