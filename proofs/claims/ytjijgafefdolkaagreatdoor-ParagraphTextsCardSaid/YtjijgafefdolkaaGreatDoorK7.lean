import Derived.Test.YtjijgafefdolkaaGreatDoorK5
import Derived.Test.YtjijgafefdolkaaGreatDoorK6
import Derived.Test.YtjijgafefdolkaaGreatDoorK1
import Derived.Test.YtjijgafefdolkaaGreatDoorK3
import Derived.Test.YtjijgafefdolkaaGreatDoorProg
import Derived.Lib.IndexMore
import Derived.Lib.CountLaws
import Derived.Laws.Strings3
import Derived.Shelf.Strings.BuilderX
import Derived.Shelf.RegionOpenPlain
import Derived.Lib.Strings
import Derived.Lib.Slices
import Derived.Lib.Walk
import Derived.Lib.Builder
import Derived.Lib.AppendStr
import Derived.Lib.UnsafeStr
import Derived.Lib.MakeNoZero
import Derived.WalkKit
import Derived.Laws.Externs
import Derived.RangeFuncBox
import Derived.Laws.Rows
set_option linter.all false
set_option linter.unusedSimpArgs false
set_option linter.unusedVariables false
set_option linter.unusedSectionVars false
section
set_option linter.all false
set_option linter.unusedSimpArgs false
set_option linter.unusedVariables false
set_option linter.unusedSectionVars false
open Go Go.Proofs AF HY
namespace HY
set_option maxRecDepth 100000
def eqI (n m : Nat) (f g : Nat → Int) : Bool := decide (n = m) && (List.range n).all fun i => decide (f i = g i)
theorem qfh {f g : Nat → Int} {n : Nat} (h : ∀ j, j < n → f j = g j) : ((List.range n).all fun i => decide (f i = g i)) = true := by
 rw [List.all_eq_true]
 intro j hj
 simpa using h j (by simpa using hj)
theorem qd2 {f g : Nat → Int} {n i : Nat} (hi : i < n) (h : ¬ f i = g i) : ((List.range n).all fun i => decide (f i = g i)) = false := by
 rw [Bool.eq_false_iff]
 intro hc
 rw [List.all_eq_true] at hc
 have := hc i (by simpa using hi)
 simp at this
 exact h this
theorem ql5 (a b : List Int) : eqI a.length b.length (fun i => a.getD i 0) (fun i => b.getD i 0) = decide (a = b) := by
 unfold eqI
 by_cases hl : a.length = b.length
 ·by_cases he : a = b
  ·subst he; rw [qfh (fun _ _ => rfl)]; simp
  ·rw [decide_eq_false he]
   have : ∃ i, i < a.length ∧ ¬ a.getD i 0 = b.getD i 0 := by
    apply Classical.byContradiction
    intro hn
    apply he
    apply List.ext_getElem hl
    intro i h1 h2
    have := Classical.not_not.1 (fun hx => hn ⟨i, h1, hx⟩)
    simpa [List.getD_eq_getElem?_getD, h1, h2] using this
   obtain ⟨i, h1, h2⟩ := this
   rw [qd2 h1 h2, Bool.and_false]
 ·have hne : ¬ a = b := fun e => hl (by rw [e])
  rw [decide_eq_false hl, decide_eq_false hne]; rfl
theorem u17 (n m : Nat) (f g : Nat → Int) (h : List AObj) (hn : n ≤ 1000000000) : qs Tryz.prog 34 [.sl n fun i => [.int .i64 (f i)], .sl m fun i => [.int .i64 (g i)]] h (.bool (eqI n m f g)) h := by
 unfold eqI
 by_cases g0 : n = m
 ·subst g0
  refine qo qs4 (by simp) ?_
  simp only [lcP, lnP, Nat.reduceAdd, Nat.reduceSub, List.replicate, caP, naP, List.append_nil]
  simp (disch := omega) only [qxx, go_sem, qc, dvP, mdP]
  repeat' first
   | ((first | refine qe ?_ ?_ | refine qg ?_ ?_); (next => exact rvk); simp only [go_sem]; (first | exact VLe.refl _ | refine qh ?_ | refine qd ?_ | refine ql ?_ | skip))
   | with_reducible first | refine And.intro ?_ ?_ | intro _
  all_goals try exact clz
  refine qJ (T := fun i : Nat => qv 26 [(0, .sl n fun i => [.int .i64 (f i)]), (1, .sl n fun i => [.int .i64 (g i)]), (12, .int .i64 n), (13, .int .i64 i)]) (H := fun _ => h) (inv := fun i => i ≤ n ∧ ∀ j, j < i → f j = g j) (m := fun i => n - i) 0 ⟨by omega, by omega⟩ (Wk.temps ?_) ?_
  ·(simp only [qv, List.foldl, List.replicate, go_sem, qr, qp, qm, qq]; try (repeat' first | (with_reducible refine And.intro ?_ ?_) | (refine qh ?_; omega) | (refine qd ?_; rfl) | exact VLe.refl _))
  rintro i ⟨i1, i2⟩ K hK
  by_cases hi : i < n
  ·by_cases hb : f i = g i
   ·have k1 : (f i = g i) = True := eq_true hb
    simp (disch := omega) only [qv, List.foldl, List.replicate, k1, go_sem, qc, dvP, mdP]
    repeat' first
     | ((first | refine qe ?_ ?_ | refine qg ?_ ?_); (next => exact rvk); simp only [go_sem]; (first | exact VLe.refl _ | refine qh ?_ | refine qd ?_ | refine ql ?_ | skip))
     | with_reducible first | refine And.intro ?_ ?_ | intro _
    all_goals try exact clz
    refine hK _ _ (i + 1) ⟨by omega, fun j hj => ?_⟩ (by omega) (Wk.temps ?_)
    ·by_cases e : j = i
     ·subst e; exact hb
     ·exact i2 j (by omega)
    ·(simp only [qv, List.foldl, List.replicate, go_sem, qr, qp, qm, qq]; try (repeat' first | (with_reducible refine And.intro ?_ ?_) | (refine qh ?_; omega) | (refine qd ?_; rfl) | exact VLe.refl _))
   ·have k1 : (f i = g i) = False := eq_false hb
    rw [qd2 hi hb]
    simp (disch := omega) only [qv, List.foldl, List.replicate, k1, go_sem, qc, dvP, mdP]
    repeat' first
     | ((first | refine qe ?_ ?_ | refine qg ?_ ?_); (next => exact rvk); simp only [go_sem]; (first | exact VLe.refl _ | refine qh ?_ | refine qd ?_ | refine ql ?_ | skip))
     | with_reducible first | refine And.intro ?_ ?_ | intro _
    all_goals try exact clz
  ·have e : i = n := by omega
   subst e
   rw [qfh i2]
   simp (disch := omega) only [qv, List.foldl, List.replicate, go_sem, qc, dvP, mdP]
   repeat' first
    | ((first | refine qe ?_ ?_ | refine qg ?_ ?_); (next => exact rvk); simp only [go_sem]; (first | exact VLe.refl _ | refine qh ?_ | refine qd ?_ | refine ql ?_ | skip))
    | with_reducible first | refine And.intro ?_ ?_ | intro _
   all_goals try exact clz
 ·have k0 : ((n : Int) = m) = False := eq_false (by omega)
  rw [decide_eq_false g0]
  refine qo qs4 (by simp) ?_
  simp only [lcP, lnP, Nat.reduceAdd, Nat.reduceSub, List.replicate, caP, naP, List.append_nil]
  simp (disch := omega) only [qxx, k0, go_sem, qc, dvP, mdP]
  repeat' first
   | ((first | refine qe ?_ ?_ | refine qg ?_ ?_); (next => exact rvk); simp only [go_sem]; (first | exact VLe.refl _ | refine qh ?_ | refine qd ?_ | refine ql ?_ | skip))
   | with_reducible first | refine And.intro ?_ ?_ | intro _
  all_goals try exact clz
theorem qAM (a b : List Int) (h : List AObj) (hn : a.length ≤ 1000000000) : qs Tryz.prog 34 [qy a, qy b] h (.bool (decide (a = b))) h := by
 rw [← ql5]; exact u17 _ _ _ _ h hn
end HY
end
section
open Go Go.Proofs AF
set_option maxRecDepth 100000
def c3z : C :=
 ((C.ops [O1 2 (.box 0 29) 0, MC 4 (.bool false)]).seq (((C.ops [O1 20 (.load (some 15)) 2, O1 21 (.call 6 true) 20, MV 22 21, MG 23 22 false 1, PC 24 22 false (.bin .lss) 23 (i6
 0), ⟨some 25, none, .pick, [.t 22, .c (.bool true), .t 24]⟩, MV 26 25, MG 27 26 false 1, PC 28 26 false (.bin .gtr) 27 (i6 1073741824), ⟨some 29, none, .pick, [.t 26, .c (.bool
 true), .t 28]⟩, MV 30 29, P1 31 30 false (.fldA 14) 2, P1 32 30 false (.load none) 31, PC 33 30 false (.call 7 true) 32 (.fn (Fn.func 8) [] []), ⟨some 34, none, .pick, [.t 30, .c
 (.bool true), .t 33]⟩]).seq (C.cond (.t 34) ((C.ops [⟨some 35, none, .call 11 true, []⟩, MV 4 35]).seq C.ret) C.skip)).seq ((C.ops [O1 37 (.fldA 0) 2, O1 38 (.load (some 13)) 37,
 O1 39 (.fldA 13) 2, LD 40 39, O1 41 (.fldA 14) 2, LD 42 41, ⟨some 43, none, .call 12 true, [.t 38, .t 40, .t 42]⟩, MV 36 43, O1 44 (.ext 0) 36, O1 45 (.ext 1) 36, MV 5 44, MV 6
 45]).seq (((C.ops [MV 46 6, BC 47 .neq 46 (i6 0)]).seq (C.cond (.t 47) ((C.ops [MV 48 5, O1 49 .len 48, BC 50 .eql 49 (i6 0), MV 51 50, ⟨some 52, some (51, true), .call 11 true,
 []⟩, ⟨some 53, none, .pick, [.t 51, .t 52, .c (.bool false)]⟩, MV 4 53]).seq C.ret) C.skip)).seq ((C.ops [MV 55 5, MV 56 1, O2 57 (.call 13 true) 55 56, MV 54 57, O1 58 (.ext 0)
 54, O1 59 (.ext 1) 54, O1 60 (.ext 2) 54, MV 7 58, MV 8 59, MV 9 60]).seq (((C.ops [MV 61 9, BC 62 .neq 61 (i6 0)]).seq (C.cond (.t 62) ((C.ops [MV 63 9, BC 64 .eql 63 (i6 23), MV
 65 64, ⟨some 66, some (65, true), .call 11 true, []⟩, ⟨some 67, none, .pick, [.t 65, .t 66, .c (.bool false)]⟩, MV 4 67]).seq C.ret) C.skip)).seq ((C.ops [MV 69 5, MV 70 1, MV 71
 7, ⟨some 72, none, .call 14 true, [.t 69, .t 70, .t 71]⟩, MV 68 72, O1 73 (.ext 0) 68, O1 74 (.ext 1) 68, MV 10 73, MV 11 74]).seq (((C.ops [MV 75 11, BC 76 .neq 75 (i6 0)]).seq
 (C.cond (.t 76) ((C.ops [MC 4 (.bool false)]).seq C.ret) C.skip)).seq ((C.ops [MC 12 (.str []), MC 13 (.str [])]).seq (((C.ops [MV 77 10, O1 78 .len 77, MC 79 (i6 0)]).seq (C.block
 0 ((C.ops [BI 80 .lss 79 78]).seq ((C.cond (.t 80) C.skip (C.exit 0)).seq ((C.block 1 ((C.ops [MV 81 79, O2 82 (.idxA 5) 77 79, O1 83 (.load (some 5)) 82, ⟨some 15, none, .alloc 1
 49 [i6 0, i6 0, i6 0, i6 0, .str []], []⟩, MV 14 81, ST 5 15 83]).seq ((C.ops [O1 84 (.fldA 4) 15, LD 85 84, MV 16 85]).seq (((C.ops [MV 86 14, MV 87 10, O1 88 .len 87, BC 89 .sub
 88 (i6 1), BI 90 .lss 86 89]).seq (C.cond (.t 90) (C.ops [MV 91 16, OC 92 (.call 15 true) 91 (.str [61]), MV 16 92]) C.skip)).seq (C.ops [MV 93 12, MV 94 16, BI 95 .add 93 94, MV
 12 95]))))).seq (C.ops [BC 96 .add 79 (i6 1), MV 79 96])))).loop)).seq ((C.ops [MC 17 (i6 0)]).seq (((C.ops [O1 97 (.fldA 14) 2, LD 98 97, O1 99 .len 98, MC 100 (i6 0)]).seq
 (C.block 2 ((C.ops [BI 101 .lss 100 99]).seq ((C.cond (.t 101) C.skip (C.exit 2)).seq ((C.block 3 ((C.ops [MV 102 100, O2 103 (.idxA 7) 98 100, O1 104 (.load (some 7)) 103, ⟨some
 19, none, .alloc 2 33 [.str [], i6 0, i6 0, i6 0, .bool false, .bool false, .str []], []⟩, MV 18 102, ST 7 19 104]).seq ((C.ops [MV 105 13, O1 106 (.fldA 0) 19, LD 107 106, BI 108
 .add 105 107, MV 13 108]).seq ((C.ops [MV 109 18, BC 110 .gtr 109 (i6 0), MV 111 110, P1 112 111 true (.fldA 5) 19, P1 113 111 true (.load none) 112, ⟨some 114, none, .pick, [.t
 111, .t 113, .c (.bool false)]⟩]).seq (C.cond (.t 114) (C.ops [MV 115 17, BC 116 .add 115 (i6 1), MV 17 116]) C.skip))))).seq (C.ops [BC 117 .add 100 (i6 1), MV 100
 117])))).loop)).seq ((C.ops [MV 118 12, ⟨some 119, none, .call 16 true, [.t 118, .c (.str [32]), .c (.str [])]⟩, MV 120 13, BI 121 .eql 119 120, MV 122 121, MG 123 122 true 10, P1
 124 122 true .len 123, MG 125 122 true 17, P2 126 122 true (.bin .gtr) 124 125, ⟨some 127, none, .pick, [.t 122, .t 126, .c (.bool false)]⟩, MV 128 127, ⟨some 129, some (128,
 true), .call 11 true, []⟩, ⟨some 130, none, .pick, [.t 128, .t 129, .c (.bool false)]⟩, MV 4 130]).seq
 C.ret)))))))))))))
theorem qs6 : zj Tryz.prog 3 131 3 [RV.tmp 4] c3z := ⟨Tryz.f3, Tryz.f3.body.getD .skip, [2, 15, 19], [76, 140, 144, 67, 78, 79, 80, 113, 85], [], by kernel_rfl, by kernel_rfl, by kernel_rfl, by kernel_rfl, by kernel_rfl, by kernel_rfl, by kernel_rfl⟩
def c4z : C :=
 ((C.ops [O1 3 (.box 0 25) 0, MC 6 (.bool false)]).seq ((C.ops [O1 16 (.load (some 13)) 3, MV 17 1, MV 18 2, ⟨some 19, none, .call 17 true, [.t 16, .t 17, .t 18]⟩, MV 15 19, O1 20
 (.ext 0) 15, O1 21 (.ext 1) 15, O1 22 (.ext 2) 15, MV 7 20, MV 8 21, MV 9 22]).seq (((C.ops [MV 23 9, O1 24 (.un UnOp.not) 23]).seq (C.cond (.t 24) ((C.ops [⟨some 25, none, .call
 18 true, []⟩, MV 6 25]).seq C.ret) C.skip)).seq ((C.ops [MV 27 7, MV 28 8, O2 29 (.call 19 true) 27 28, MV 26 29, O1 30 (.ext 0) 26, O1 31 (.ext 1) 26, MV 10 30, MV 11 31]).seq
 ((C.ops [MV 33 7, MV 34 8, O2 35 (.call 20 true) 33 34, MV 32 35, O1 36 (.ext 0) 32, O1 37 (.ext 1) 32, MV 12 36, MV 13 37]).seq (((C.ops [MV 38 11, BC 39 .neq 38 (i6 0), MV 40 39,
 MG 41 40 false 13, PC 42 40 false (.bin .neq) 41 (i6 0), ⟨some 43, none, .pick, [.t 40, .c (.bool true), .t 42]⟩, MV 44 43, MG 45 44 false 10, P1 46 44 false .len 45, MG 47 44
 false 2, P1 48 44 false .len 47, P2 49 44 false (.bin .neq) 46 48, ⟨some 50, none, .pick, [.t 44, .c (.bool true), .t 49]⟩, MV 51 50, MG 52 51 false 12, P1 53 51 false .len 52, MG
 54 51 false 2, P1 55 51 false .len 54, P2 56 51 false (.bin .neq) 53 55, ⟨some 57, none, .pick, [.t 51, .c (.bool true), .t 56]⟩]).seq (C.cond (.t 57) ((C.ops [MC 6 (.bool
 false)]).seq C.ret) C.skip)).seq (((C.ops [MV 58 10, O1 59 .len 58, MC 60 (i6 0)]).seq (C.block 0 ((C.ops [BI 61 .lss 60 59]).seq ((C.cond (.t 61) C.skip (C.exit 0)).seq ((C.block
 1 ((C.ops [MV 62 60, MV 14 62]).seq ((C.ops [MV 63 10, MV 64 14, O2 65 (.idxA 1) 63 64, LD 66 65, BC 67 .lss 66 (i6 1), MV 68 67, MG 69 68 false 10, MG 70 68 false 14, P2 71 68
 false (.idxA 1) 69 70, P1 72 68 false (.load none) 71, MG 73 68 false 12, MG 74 68 false 14, P2 75 68 false (.idxA 1) 73 74, P1 76 68 false (.load none) 75, P2 77 68 false (.bin
 .gtr) 72 76, ⟨some 78, none, .pick, [.t 68, .c (.bool true), .t 77]⟩, MV 79 78, MG 80 79 false 12, MG 81 79 false 14, P2 82 79 false (.idxA 1) 80 81, P1 83 79 false (.load none)
 82, MG 84 79 false 8, P1 85 79 false .len 84, P2 86 79 false (.bin .gtr) 83 85, ⟨some 87, none, .pick, [.t 79, .c (.bool true), .t 86]⟩, MV 88 87, MG 89 88 false 14, PC 90 88 false
 (.bin .gtr) 89 (i6 0), MG 91 88 false 90, MG 92 91 true 10, MG 93 91 true 14, P2 94 91 true (.idxA 1) 92 93, P1 95 91 true (.load none) 94, MG 96 91 true 12, MG 97 91 true 14, PC
 98 91 true (.bin .sub) 97 (i6 1), P2 99 91 true (.idxA 1) 96 98, P1 100 91 true (.load none) 99, P2 101 91 true (.bin .lss) 95 100, ⟨some 102, some (88, false), .pick, [.t 91, .t
 101, .c (.bool false)]⟩, ⟨some 103, none, .pick, [.t 88, .c (.bool true), .t 102]⟩]).seq (C.cond (.t 103) ((C.ops [MC 6 (.bool false)]).seq C.ret) C.skip)))).seq (C.ops [BC 104
 .add 60 (i6 1), MV 60 104])))).loop)).seq ((C.ops [⟨some 105, none, .call 18 true, []⟩, MV 6 105]).seq
 C.ret))))))))
theorem qzN : zj Tryz.prog 4 106 1 [RV.tmp 6] c4z := ⟨Tryz.f4, Tryz.f4.body.getD .skip, [3], [76, 140, 144, 67, 78, 79, 80, 113, 85], [], by kernel_rfl, by kernel_rfl, by kernel_rfl, by kernel_rfl, by kernel_rfl, by kernel_rfl, by kernel_rfl⟩
def c5z : C :=
 ((C.ops [O1 3 (.box 0 25) 0, MC 6 (.bool false)]).seq ((C.ops [O1 22 (.load (some 13)) 3, MV 23 1, MV 24 2, ⟨some 25, none, .call 17 true, [.t 22, .t 23, .t 24]⟩, MV 21 25, O1 26
 (.ext 0) 21, O1 27 (.ext 1) 21, O1 28 (.ext 2) 21, MV 7 26, MV 8 27, MV 9 28]).seq (((C.ops [MV 29 9, O1 30 (.un UnOp.not) 29]).seq (C.cond (.t 30) ((C.ops [⟨some 31, none, .call
 18 true, []⟩, MV 6 31]).seq C.ret) C.skip)).seq ((C.ops [MV 33 7, MV 34 8, O2 35 (.call 19 true) 33 34, MV 32 35, O1 36 (.ext 0) 32, O1 37 (.ext 1) 32, MV 10 36, MV 11 37]).seq
 ((C.ops [MV 39 7, MV 40 8, O2 41 (.call 20 true) 39 40, MV 38 41, O1 42 (.ext 0) 38, O1 43 (.ext 1) 38, MV 12 42, MV 13 43]).seq (((C.ops [MV 44 11, BC 45 .neq 44 (i6 0), MV 46 45,
 MG 47 46 false 13, PC 48 46 false (.bin .neq) 47 (i6 0), ⟨some 49, none, .pick, [.t 46, .c (.bool true), .t 48]⟩, MV 50 49, MG 51 50 false 10, P1 52 50 false .len 51, MG 53 50
 false 2, P1 54 50 false .len 53, P2 55 50 false (.bin .neq) 52 54, ⟨some 56, none, .pick, [.t 50, .c (.bool true), .t 55]⟩, MV 57 56, MG 58 57 false 12, P1 59 57 false .len 58, MG
 60 57 false 2, P1 61 57 false .len 60, P2 62 57 false (.bin .neq) 59 61, ⟨some 63, none, .pick, [.t 57, .c (.bool true), .t 62]⟩]).seq (C.cond (.t 63) ((C.ops [MC 6 (.bool
 false)]).seq C.ret) C.skip)).seq ((C.ops [MC 14 (i6 0), MC 15 (i6 0)]).seq (((C.ops [MV 64 10, O1 65 .len 64, MC 66 (i6 0)]).seq (C.block 0 ((C.ops [BI 67 .lss 66 65]).seq ((C.cond
 (.t 67) C.skip (C.exit 0)).seq ((C.block 1 ((C.ops [MV 68 66, MV 16 68]).seq (C.ops [MV 69 14, MV 70 12, MV 71 16, O2 72 (.idxA 1) 70 71, LD 73 72, MV 74 10, MV 75 16, O2 76 (.idxA
 1) 74 75, LD 77 76, BI 78 .sub 73 77, BI 79 .add 69 78, MV 14 79]))).seq (C.ops [BC 80 .add 66 (i6 1), MV 66 80])))).loop)).seq (((C.ops [MV 81 8, O1 82 .len 81, MC 83 (i6 0)]).seq
 (C.block 2 ((C.ops [BI 84 .lss 83 82]).seq ((C.cond (.t 84) C.skip (C.exit 2)).seq ((C.block 3 ((C.ops [O2 85 (.idxA 5) 81 83, O1 86 (.load (some 5)) 85, ⟨some 18, none, .alloc 1
 49 [i6 0, i6 0, i6 0, i6 0, .str []], []⟩, ST 5 18 86]).seq ((C.ops [O1 87 (.fldA 1) 18, LD 88 87, BC 89 .geq 88 (i6 0), MV 90 89, P1 91 90 true (.fldA 1) 18, P1 92 90 true (.load
 none) 91, MG 93 90 true 7, P1 94 90 true .len 93, P2 95 90 true (.bin .lss) 92 94, ⟨some 96, none, .pick, [.t 90, .t 95, .c (.bool false)]⟩, MV 97 96, MG 98 97 true 7, P1 99 97
 true (.fldA 1) 18, P1 100 97 true (.load none) 99, P2 101 97 true (.idxA 6) 98 100, P1 102 97 true (.fldA 0) 101, P1 103 97 true (.load none) 102, PC 104 97 true (.bin .eql) 103
 (i6 3), ⟨some 105, none, .pick, [.t 97, .t 104, .c (.bool false)]⟩, MV 106 105, MG 107 106 true 7, P1 108 106 true (.fldA 1) 18, P1 109 106 true (.load none) 108, P2 110 106 true
 (.idxA 6) 107 109, P1 111 106 true (.fldA 4) 110, P1 112 106 true (.load none) 111, PC 113 106 true (.bin .neq) 112 (i6 (-10000)), ⟨some 114, none, .pick, [.t 106, .t 113, .c
 (.bool false)]⟩]).seq (C.cond (.t 114) (C.ops [MV 115 15, BC 116 .add 115 (i6 1), MV 15 116]) C.skip)))).seq (C.ops [BC 117 .add 83 (i6 1), MV 83 117])))).loop)).seq (((C.ops [MV
 118 2, O1 119 .len 118, MC 120 (i6 0)]).seq (C.block 4 ((C.ops [BI 121 .lss 120 119]).seq ((C.cond (.t 121) C.skip (C.exit 4)).seq ((C.block 5 ((C.ops [MV 122 120, O2 123 (.idxA 7)
 118 120, O1 124 (.load (some 7)) 123, ⟨some 20, none, .alloc 2 33 [.str [], i6 0, i6 0, i6 0, .bool false, .bool false, .str []], []⟩, MV 19 122, ST 7 20 124]).seq ((C.ops [MV 125
 10, MV 126 19, O2 127 (.idxA 1) 125 126, LD 128 127, BC 129 .lss 128 (i6 1), MV 130 129, MG 131 130 false 10, MG 132 130 false 19, P2 133 130 false (.idxA 1) 131 132, P1 134 130
 false (.load none) 133, MG 135 130 false 8, P1 136 130 false .len 135, P2 137 130 false (.bin .gtr) 134 136, ⟨some 138, none, .pick, [.t 130, .c (.bool true), .t 137]⟩, MV 139 138,
 MG 140 139 false 8, MG 141 139 false 10, MG 142 139 false 19, P2 143 139 false (.idxA 1) 141 142, P1 144 139 false (.load none) 143, PC 145 139 false (.bin .sub) 144 (i6 1), P2 146
 139 false (.idxA 5) 140 145, P1 147 139 false (.fldA 4) 146, P1 148 139 false (.load none) 147, P1 149 139 false (.fldA 0) 20, P1 150 139 false (.load none) 149, PC 151 139 false
 (.sslc false true) 150 (i6 1), P2 152 139 false (.call 10 true) 148 151, P1 153 139 false (.un UnOp.not) 152, ⟨some 154, none, .pick, [.t 139, .c (.bool true), .t 153]⟩]).seq
 (C.cond (.t 154) ((C.ops [MC 6 (.bool false)]).seq C.ret) C.skip)))).seq (C.ops [BC 155 .add 120 (i6 1), MV 120 155])))).loop)).seq ((C.ops [MV 156 14, MV 157 15, BI 158 .eql 156
 157, MV 159 158, ⟨some 160, some (159, true), .call 18 true, []⟩, ⟨some 161, none, .pick, [.t 159, .t 160, .c (.bool false)]⟩, MV 6 161]).seq
 C.ret)))))))))))
theorem qzO : zj Tryz.prog 5 162 3 [RV.tmp 6] c5z := ⟨Tryz.f5, Tryz.f5.body.getD .skip, [3, 18, 20], [76, 140, 144, 67, 78, 79, 80, 113, 85], [], by kernel_rfl, by kernel_rfl, by kernel_rfl, by kernel_rfl, by kernel_rfl, by kernel_rfl, by kernel_rfl⟩
def qxH : C :=
 ((C.ops [MC 4 (.bool false)]).seq ((C.ops [MV 5 0, MV 6 1, O2 7 (.call 32 true) 5 6, BC 8 .geq 7 (i6 0), MV 4 8]).seq
 C.ret))
theorem qvy : zj Tryz.prog 10 9 0 [RV.tmp 4] qxH := ⟨Tryz.f10, Tryz.f10.body.getD .skip, [], [76, 140, 144, 67, 78, 79, 80, 113, 85], [], by kernel_rfl, by kernel_rfl, by kernel_rfl, by kernel_rfl, by kernel_rfl, by kernel_rfl, by kernel_rfl⟩
def qlw : C :=
 ((C.ops [O1 3 (.box 0 25) 0, ⟨some 6, none, .nilo 1 6 58, []⟩, ⟨some 7, none, .nilo 2 5 49, []⟩, MC 8 (.bool false)]).seq (((C.ops [MV 14 2, O1 15 .len 14, BC 16 .gtr 15 (i6 8), MV
 17 16, MG 18 17 false 1, P1 19 17 false .len 18, PC 20 17 false (.bin .gtr) 19 (i6 12), ⟨some 21, none, .pick, [.t 17, .c (.bool true), .t 20]⟩, MV 22 21, MG 23 22 false 2, PC 24
 22 false (.call 7 true) 23 (.fn (Fn.func 49) [] []), ⟨some 25, none, .pick, [.t 22, .c (.bool true), .t 24]⟩, MV 26 25, MG 27 26 false 1, PC 28 26 false (.call 22 true) 27 (.fn
 (Fn.func 50) [] []), ⟨some 29, none, .pick, [.t 26, .c (.bool true), .t 28]⟩]).seq (C.cond (.t 29) ((C.ops [⟨some 6, none, .nilo 1 6 58, []⟩, ⟨some 7, none, .nilo 2 5 49, []⟩, MC 8
 (.bool false)]).seq C.ret) C.skip)).seq ((C.ops [O1 31 (.load (some 13)) 3, MV 32 1, MV 33 2, ⟨some 34, none, .call 12 true, [.t 31, .t 32, .t 33]⟩, MV 30 34, O1 35 (.ext 0) 30, O1
 36 (.ext 1) 30, MV 9 35, MV 10 36]).seq (((C.ops [MV 37 10, BC 38 .neq 37 (i6 0), MV 39 38, MG 40 39 false 9, PC 41 39 false (.call 51 true) 40 .nl, ⟨some 42, none, .pick, [.t 39,
 .c (.bool true), .t 41]⟩]).seq (C.cond (.t 42) ((C.ops [⟨some 6, none, .nilo 1 6 58, []⟩, ⟨some 7, none, .nilo 2 5 49, []⟩, MC 8 (.bool false)]).seq C.ret) C.skip)).seq ((C.ops [MV
 44 9, O1 45 (.fldA 0) 3, LD 46 45, O2 47 (.call 13 true) 44 46, MV 43 47, O1 48 (.ext 0) 43, O1 49 (.ext 1) 43, O1 50 (.ext 2) 43, MV 11 48, MV 12 49, MV 10 50]).seq (((C.ops [MV
 51 10, BC 52 .neq 51 (i6 0)]).seq (C.cond (.t 52) ((C.ops [⟨some 6, none, .nilo 1 6 58, []⟩, ⟨some 7, none, .nilo 2 5 49, []⟩, MC 8 (.bool false)]).seq C.ret) C.skip)).seq ((C.ops
 [MV 54 9, O1 55 (.fldA 0) 3, LD 56 55, MV 57 11, ⟨some 58, none, .call 14 true, [.t 54, .t 56, .t 57]⟩, MV 53 58, O1 59 (.ext 0) 53, O1 60 (.ext 1) 53, MV 13 59, MV 10 60]).seq
 ((C.ops [MV 61 9, MV 62 13, MV 63 10, BC 64 .eql 63 (i6 0), MV 65 64, MG 66 65 true 13, P1 67 65 true .len 66, PC 68 65 true (.bin .leq) 67 (i6 12), ⟨some 69, none, .pick, [.t 65,
 .t 68, .c (.bool false)]⟩, MV 6 61, MV 7 62, MV 8 69]).seq
 C.ret))))))))
theorem qdO : zj Tryz.prog 17 70 3 [RV.tmp 6, RV.tmp 7, RV.tmp 8] qlw := ⟨Tryz.f17, Tryz.f17.body.getD .skip, [3, 6, 7], [76, 140, 144, 67, 78, 79, 80, 113, 85], [], by kernel_rfl, by kernel_rfl, by kernel_rfl, by kernel_rfl, by kernel_rfl, by kernel_rfl, by kernel_rfl⟩
def qzg : C :=
 ((C.ops [⟨some 4, none, .nilo 0 1 3, []⟩, MC 5 (i6 0)]).seq ((C.ops [MV 6 0, MV 7 1, ⟨some 8, none, .call 55 true, [.t 6, .t 7, .c (.fn (Fn.func 56) [] [])]⟩, O1 9 (.ext 0) 8, O1
 10 (.ext 1) 8, MV 4 9, MV 5 10]).seq
 C.ret))
theorem qx1 : zj Tryz.prog 19 11 1 [RV.tmp 4, RV.tmp 5] qzg := ⟨Tryz.f19, Tryz.f19.body.getD .skip, [4], [76, 140, 144, 67, 78, 79, 80, 113, 85], [], by kernel_rfl, by kernel_rfl, by kernel_rfl, by kernel_rfl, by kernel_rfl, by kernel_rfl, by kernel_rfl⟩
def qzh : C :=
 ((C.ops [⟨some 4, none, .nilo 0 1 3, []⟩, MC 5 (i6 0)]).seq ((C.ops [MV 6 0, MV 7 1, ⟨some 8, none, .call 55 true, [.t 6, .t 7, .c (.fn (Fn.func 57) [] [])]⟩, O1 9 (.ext 0) 8, O1
 10 (.ext 1) 8, MV 4 9, MV 5 10]).seq
 C.ret))
theorem qx2 : zj Tryz.prog 20 11 1 [RV.tmp 4, RV.tmp 5] qzh := ⟨Tryz.f20, Tryz.f20.body.getD .skip, [4], [76, 140, 144, 67, 78, 79, 80, 113, 85], [], by kernel_rfl, by kernel_rfl, by kernel_rfl, by kernel_rfl, by kernel_rfl, by kernel_rfl, by kernel_rfl⟩
def qzk : C :=
 ((C.ops [MC 4 (i6 0)]).seq ((C.ops [MV 5 0, MV 6 1, O2 7 (.call 63 true) 5 6, MV 4 7]).seq
 C.ret))
theorem qx6 : zj Tryz.prog 32 8 0 [RV.tmp 4] qzk := ⟨Tryz.f32, Tryz.f32.body.getD .skip, [], [76, 140, 144, 67, 78, 79, 80, 113, 85], [], by kernel_rfl, by kernel_rfl, by kernel_rfl, by kernel_rfl, by kernel_rfl, by kernel_rfl, by kernel_rfl⟩
def qzr : C :=
 ((C.ops [O1 1 (.box 0 33) 0, MC 2 (.bool false)]).seq ((C.ops [O1 3 (.fldA 0) 1, LD 4 3, O1 5 .slen 4, BC 6 .gtr 5 (i6 16), MV 7 6, P1 8 7 false (.fldA 6) 1, P1 9 7 false (.load
 none) 8, P1 10 7 false .slen 9, PC 11 7 false (.bin .gtr) 10 (i6 20), ⟨some 12, none, .pick, [.t 7, .c (.bool true), .t 11]⟩, MV 2 12]).seq
 C.ret))
theorem qye : zj Tryz.prog 49 13 1 [RV.tmp 2] qzr := ⟨Tryz.f49, Tryz.f49.body.getD .skip, [1], [76, 140, 144, 67, 78, 79, 80, 113, 85], [], by kernel_rfl, by kernel_rfl, by kernel_rfl, by kernel_rfl, by kernel_rfl, by kernel_rfl, by kernel_rfl⟩
def qzs : C :=
 ((C.ops [O1 1 (.box 0 61) 0, MC 2 (.bool false)]).seq ((C.ops [O1 3 (.fldA 0) 1, LD 4 3, O1 5 .slen 4, BC 6 .gtr 5 (i6 8), MV 7 6, P1 8 7 false (.fldA 1) 1, P1 9 7 false (.load
 none) 8, P1 10 7 false .len 9, PC 11 7 false (.bin .gtr) 10 (i6 10), ⟨some 12, none, .pick, [.t 7, .c (.bool true), .t 11]⟩, MV 2 12]).seq
 C.ret))
theorem qyf : zj Tryz.prog 50 13 1 [RV.tmp 2] qzs := ⟨Tryz.f50, Tryz.f50.body.getD .skip, [1], [76, 140, 144, 67, 78, 79, 80, 113, 85], [], by kernel_rfl, by kernel_rfl, by kernel_rfl, by kernel_rfl, by kernel_rfl, by kernel_rfl, by kernel_rfl⟩
def qzt : C :=
 ((C.ops [MC 4 (.bool false)]).seq (((C.ops [MC 5 (i6 0)]).seq (C.block 0 (((C.ops [MV 6 5, MV 7 0, O1 8 .len 7, BI 9 .lss 6 8]).seq (C.cond (.t 9) C.skip (C.exit 0))).seq ((C.block
 1 ((C.ops [MV 12 0, MV 13 5, O2 14 (.idxA 6) 12 13, O1 15 (.fldA 5) 14, LD 16 15, O1 17 .slen 16, BC 18 .gtr 17 (i6 66)]).seq (C.cond (.t 18) ((C.ops [MC 4 (.bool true)]).seq
 C.ret) C.skip))).seq (C.ops [MV 10 5, BC 11 .add 10 (i6 1), MV 5 11]))).loop)).seq ((C.ops [MV 19 0, O1 20 .len 19, BC 21 .gtr 20 (i6 30), MV 22 21, MG 23 22 false 1, P1 24 22
 false .len 23, PC 25 22 false (.bin .gtr) 24 (i6 12), ⟨some 26, none, .pick, [.t 22, .c (.bool true), .t 25]⟩, MV 4 26]).seq
 C.ret)))
theorem qyg : zj Tryz.prog 51 27 0 [RV.tmp 4] qzt := ⟨Tryz.f51, Tryz.f51.body.getD .skip, [], [76, 140, 144, 67, 78, 79, 80, 113, 85], [], by kernel_rfl, by kernel_rfl, by kernel_rfl, by kernel_rfl, by kernel_rfl, by kernel_rfl, by kernel_rfl⟩
def qzu : C :=
 ((C.ops [⟨some 2, none, .alloc 0 58 [i6 0, i6 0, i6 0, i6 0, i6 0, .str []], []⟩]).seq ((C.ops [MV 3 0, ⟨some 4, none, .build [i6 0, i6 0, i6 0, i6 0, i6 0, .str []] [(0, 1), (1,
 1), (5, 1)], [.c (i6 1), .c (i6 10), .t 3]⟩, ST 6 2 4]).seq
 C.ret))
theorem qyh : zj Tryz.prog 52 5 1 [RV.cell 2 (some 6)] qzu := ⟨Tryz.f52, Tryz.f52.body.getD .skip, [2], [76, 140, 144, 67, 78, 79, 80, 113, 85], [], by kernel_rfl, by kernel_rfl, by kernel_rfl, by kernel_rfl, by kernel_rfl, by kernel_rfl, by kernel_rfl⟩
def qu6 : C :=
 ((C.ops [⟨some 6, none, .nilo 0 1 9, []⟩, MC 7 (i6 0)]).seq (((C.ops [MV 18 1, O1 19 .len 18, MV 20 2, O1 21 .len 20, BI 22 .neq 19 21]).seq (C.cond (.t 22) ((C.ops [⟨some 6, none,
 .nilo 0 1 9, []⟩, MC 7 (i6 9)]).seq C.ret) C.skip)).seq (((C.ops [MV 23 1, O1 24 .len 23, BC 25 .gtr 24 (i6 4096), MV 26 25, MG 27 26 false 0, P1 28 26 false .len 27, PC 29 26
 false (.bin .gtr) 28 (i6 4096), ⟨some 30, none, .pick, [.t 26, .c (.bool true), .t 29]⟩]).seq (C.cond (.t 30) ((C.ops [⟨some 6, none, .nilo 0 1 9, []⟩, MC 7 (i6 4)]).seq C.ret)
 C.skip)).seq ((C.ops [⟨some 31, none, .mkmap 1, []⟩, MV 8 31]).seq (((C.ops [MV 32 1, O1 33 .len 32, MC 34 (i6 0)]).seq (C.block 0 ((C.ops [BI 35 .lss 34 33]).seq ((C.cond (.t 35)
 C.skip (C.exit 0)).seq ((C.block 1 ((C.ops [MV 36 34, O2 37 (.idxA 1) 32 34, LD 38 37, MV 9 36, MV 10 38]).seq (((C.ops [MV 39 10, O1 40 (.call 84 true) 39, O1 41 (.un UnOp.not)
 40]).seq (C.cond (.t 41) ((C.ops [⟨some 6, none, .nilo 0 1 9, []⟩, MC 7 (i6 14)]).seq C.ret) C.skip)).seq (((C.ops [MV 43 8, MV 44 10, O2 45 (.mlk .str true (i6 0)) 43 44, MV 42
 45, O1 46 (.ext 0) 42, O1 47 (.ext 1) 42, MV 11 46, MV 12 47]).seq ((C.ops [MV 48 12]).seq (C.cond (.t 48) ((C.ops [⟨some 6, none, .nilo 0 1 9, []⟩, MC 7 (i6 7)]).seq C.ret)
 C.skip))).seq (((C.ops [MV 49 2, MV 50 9, O2 51 (.idxA 1) 49 50, LD 52 51, BC 53 .lss 52 (i6 1), MV 54 53, MG 55 54 false 2, MG 56 54 false 9, P2 57 54 false (.idxA 1) 55 56, P1 58
 54 false (.load none) 57, PC 59 54 false (.bin .gtr) 58 (i6 4096), ⟨some 60, none, .pick, [.t 54, .c (.bool true), .t 59]⟩]).seq (C.cond (.t 60) ((C.ops [⟨some 6, none, .nilo 0 1
 9, []⟩, MC 7 (i6 2)]).seq C.ret) C.skip)).seq (C.ops [MV 61 8, MV 62 10, MV 63 2, MV 64 9, O2 65 (.idxA 1) 63 64, LD 66 65, ⟨none, none, .mupd .str, [.t 61, .t 62, .t
 66]⟩])))))).seq (C.ops [BC 67 .add 34 (i6 1), MV 34 67])))).loop)).seq ((C.ops [MV 68 0, O1 69 (.call 85 false) 68, MV 13 69]).seq (((C.ops [MV 70 0, O1 71 .len 70, MC 72 (i6
 0)]).seq (C.block 2 ((C.ops [BI 73 .lss 72 71]).seq ((C.cond (.t 73) C.skip (C.exit 2)).seq ((C.block 3 ((C.ops [MV 74 72, O2 75 (.idxA 1) 70 72, LD 76 75, MV 14 74, MV 15 76]).seq
 ((C.ops [MV 78 15, MV 79 8, O2 80 (.call 86 true) 78 79, MV 77 80, O1 81 (.ext 0) 77, O1 82 (.ext 1) 77, MV 16 81, MV 17 82]).seq (((C.ops [MV 83 17, BC 84 .neq 83 (i6 0)]).seq
 (C.cond (.t 84) ((C.ops [MV 85 17, ⟨some 6, none, .nilo 0 1 9, []⟩, MV 7 85]).seq C.ret) C.skip)).seq (C.ops [MV 86 13, MV 87 14, MV 88 16, O2 89 (.idxA 1) 86 87, ST 1 89
 88]))))).seq (C.ops [BC 90 .add 72 (i6 1), MV 72 90])))).loop)).seq ((C.ops [MV 91 13, MV 6 91, MC 7 (i6 0)]).seq
 C.ret))))))))
theorem qp4 : zj Tryz.prog 53 92 3 [RV.tmp 6, RV.tmp 7] qu6 := ⟨Tryz.f53, Tryz.f53.body.getD .skip, [6, 31, 69], [76, 140, 144, 67, 78, 79, 80, 113, 85], [], by kernel_rfl, by kernel_rfl, by kernel_rfl, by kernel_rfl, by kernel_rfl, by kernel_rfl, by kernel_rfl⟩
def qu7 : C :=
 ((C.ops [O1 5 (.box 0 95) 2, ⟨some 6, none, .nilo 1 1 3, []⟩, MC 7 (i6 0)]).seq (((C.ops [MV 13 0, O1 14 (.call 40 true) 13, BC 15 .neq 14 (i6 0)]).seq (C.cond (.t 15) ((C.ops
 [⟨some 6, none, .nilo 1 1 3, []⟩, MC 7 (i6 1)]).seq C.ret) C.skip)).seq (((C.ops [MV 16 1, O1 17 .len 16, BC 18 .gtr 17 (i6 4096)]).seq (C.cond (.t 18) ((C.ops [⟨some 6, none,
 .nilo 1 1 3, []⟩, MC 7 (i6 4)]).seq C.ret) C.skip)).seq ((C.ops [MV 20 0, MV 21 1, O2 22 (.call 87 true) 20 21, MV 19 22, O1 23 (.ext 0) 19, O1 24 (.ext 1) 19, ⟨some 8, none,
 .alloc 2 42 [.nl], []⟩, ST 1 8 23, MV 9 24]).seq (((C.ops [MV 25 9, O1 26 (.un UnOp.not) 25]).seq (C.cond (.t 26) ((C.ops [⟨some 6, none, .nilo 1 1 3, []⟩, MC 7 (i6 9)]).seq C.ret)
 C.skip)).seq ((C.ops [⟨some 10, none, .alloc 3 42 [.nl], []⟩]).seq (((C.ops [MV 27 0, O1 28 (.call 88 true) 27]).seq (C.block 0 (C.range (.t 28) [29, 30] ((C.ops [MV 11 29]).seq
 (C.ops [MV 12 30])) (C.block 1 (C.draw (DT.one ⟨some 32, none, .load none, [.t 5]⟩ (DT.one ⟨some 33, none, .load none, [.t 8]⟩ (DT.one ⟨some 34, none, .mv, [.t 11]⟩ (DT.one ⟨some
 35, none, .idxA 1, [.t 33, .t 34]⟩ (DT.one ⟨some 36, none, .load none, [.t 35]⟩ (DT.one ⟨some 37, none, .load none, [.t 8]⟩ (DT.one ⟨some 38, none, .mv, [.t 12]⟩ (DT.one ⟨some 39,
 none, .idxA 1, [.t 37, .t 38]⟩ (DT.one ⟨some 40, none, .load none, [.t 39]⟩ (DT.uni ⟨some 41, none, .callv, [.t 32, .t 36, .t 40]⟩ ((DT.one ⟨some 31, none, .load none, [.t 10]⟩
 (DT.one ⟨some 42, none, .bslc 4 1 1 3 [i6 0] [(0, 1)], [.t 41]⟩ (DT.one ⟨some 43, none, .app 5 1 3 8, [.t 31, .t 42]⟩ (DT.one ⟨none, none, .store 1, [.t 10, .t 43]⟩ DT.nil)))).two
 (DT.one ⟨some 42, none, .bslc 4 1 1 3 [i6 0] [(0, 1)], [.t 41]⟩ (DT.one ⟨some 31, none, .load none, [.t 10]⟩ (DT.one ⟨some 43, none, .app 5 1 3 8, [.t 31, .t 42]⟩ (DT.one ⟨none,
 none, .store 1, [.t 10, .t 43]⟩ DT.nil)))))))))))))))))))).seq ((C.ops [LD 44 10, MV 6 44, MC 7 (i6 0)]).seq
 C.ret))))))))
theorem qp5 : zj Tryz.prog 55 45 6 [RV.tmp 6, RV.tmp 7] qu7 := ⟨Tryz.f55, Tryz.f55.body.getD .skip, [5, 6, 8, 10, 42, 43], [76, 140, 144, 67, 78, 79, 80, 113, 85], [], by kernel_rfl, by kernel_rfl, by kernel_rfl, by kernel_rfl, by kernel_rfl, by kernel_rfl, by kernel_rfl⟩
def qzv : C :=
 ((C.ops [MC 4 (i6 0)]).seq ((C.ops [MV 5 0, MV 4 5]).seq
 C.ret))
theorem qyi : zj Tryz.prog 56 6 0 [RV.tmp 4] qzv := ⟨Tryz.f56, Tryz.f56.body.getD .skip, [], [76, 140, 144, 67, 78, 79, 80, 113, 85], [], by kernel_rfl, by kernel_rfl, by kernel_rfl, by kernel_rfl, by kernel_rfl, by kernel_rfl, by kernel_rfl⟩
def qzw : C :=
 ((C.ops [MC 4 (i6 0)]).seq ((C.ops [MV 5 1, MV 4 5]).seq
 C.ret))
theorem qyj : zj Tryz.prog 57 6 0 [RV.tmp 4] qzw := ⟨Tryz.f57, Tryz.f57.body.getD .skip, [], [76, 140, 144, 67, 78, 79, 80, 113, 85], [], by kernel_rfl, by kernel_rfl, by kernel_rfl, by kernel_rfl, by kernel_rfl, by kernel_rfl, by kernel_rfl⟩
def qu8 : C :=
 ((C.ops [MC 2 (.bool false)]).seq ((C.ops [MV 3 0, BC 4 .neq 3 (.str []), MV 5 4, MG 6 5 true 0, P1 7 5 true .slen 6, PC 8 5 true (.bin .leq) 7 (i6 16), ⟨some 9, none, .pick, [.t
 5, .t 8, .c (.bool false)]⟩, MV 10 9, MG 11 10 true 0, P1 12 10 true (.call 117 true) 11, MG 13 10 true 0, P1 14 10 true .slen 13, P2 15 10 true (.bin .eql) 12 14, ⟨some 16, none,
 .pick, [.t 10, .t 15, .c (.bool false)]⟩, MV 2 16]).seq
 C.ret))
theorem qp7 : zj Tryz.prog 84 17 0 [RV.tmp 2] qu8 := ⟨Tryz.f84, Tryz.f84.body.getD .skip, [], [76, 140, 144, 67, 78, 79, 80, 113, 85], [], by kernel_rfl, by kernel_rfl, by kernel_rfl, by kernel_rfl, by kernel_rfl, by kernel_rfl, by kernel_rfl⟩
def qxP : C :=
 ((C.ops [⟨some 2, none, .nilo 0 1 9, []⟩]).seq (((C.ops [MV 3 0, O1 4 (.isnil .slice false) 3]).seq (C.cond (.t 4) ((C.ops [⟨some 2, none, .nilo 0 1 9, []⟩]).seq C.ret)
 C.skip)).seq ((C.ops [⟨some 5, none, .bslc 1 1 0 9 [.str []] [], []⟩, MV 6 0, O2 7 (.app 2 1 9 16) 5 6, MV 2 7]).seq
 C.ret)))
theorem qv8 : zj Tryz.prog 85 8 4 [RV.tmp 2] qxP := ⟨Tryz.f85, Tryz.f85.body.getD .skip, [2, 5, 7, 5], [76, 140, 144, 67, 78, 79, 80, 113, 85], [], by kernel_rfl, by kernel_rfl, by kernel_rfl, by kernel_rfl, by kernel_rfl, by kernel_rfl, by kernel_rfl⟩
def qxQ : C :=
 ((C.ops [MC 4 (.str []), MC 5 (i6 0)]).seq (((C.ops [MV 13 0, O1 14 .slen 13, BC 15 .gtr 14 (i6 65536)]).seq (C.cond (.t 15) ((C.ops [MC 4 (.str []), MC 5 (i6 4)]).seq C.ret)
 C.skip)).seq ((C.ops [⟨some 6, none, .alloc 0 122 [.nilp, .nl], []⟩]).seq ((C.block 0 (C.block 1 ((C.ops [MV 17 0, OC 18 (.call 118 true) 17 (.str [64]), MV 16 18, O1 19 (.ext 0)
 16, O1 20 (.ext 1) 16, O1 21 (.ext 2) 16, MV 7 19, MV 8 20, MV 9 21]).seq ((C.ops [MV 22 7, O2 23 (.call 78 false) 6 22]).seq (((C.ops [MV 24 9, O1 25 (.un UnOp.not) 24]).seq
 (C.cond (.t 25) (C.exit 0) C.skip)).seq ((C.ops [MV 26 8, O1 27 (.call 119 true) 26, MV 10 27]).seq ((C.ops [MV 29 1, MV 30 10, O2 31 (.mlk .str true (i6 0)) 29 30, MV 28 31, O1 32
 (.ext 0) 28, O1 33 (.ext 1) 28, MV 11 32, MV 12 33]).seq (((C.ops [MV 34 12, O1 35 (.un UnOp.not) 34]).seq (C.cond (.t 35) ((C.ops [MC 4 (.str []), MC 5 (i6 26)]).seq C.ret)
 C.skip)).seq ((C.ops [MV 36 11, O1 37 (.call 120 true) 36, O2 38 (.call 78 false) 6 37]).seq (C.ops [MV 39 8, MV 40 10, O1 41 .slen 40, O2 42 (.sslc true false) 39 41, MV 0
 42]))))))))).loop).seq (((C.ops [O1 43 (.call 121 true) 6, BC 44 .gtr 43 (i6 65536)]).seq (C.cond (.t 44) ((C.ops [MC 4 (.str []), MC 5 (i6 4)]).seq C.ret) C.skip)).seq ((C.ops [O1
 45 (.call 80 false) 6, MV 4 45, MC 5 (i6 0)]).seq
 C.ret))))))
theorem qv9 : zj Tryz.prog 86 46 2 [RV.tmp 4, RV.tmp 5] qxQ := ⟨Tryz.f86, Tryz.f86.body.getD .skip, [6, 6], [76, 140, 144, 67, 78, 79, 80, 113, 85], [], by kernel_rfl, by kernel_rfl, by kernel_rfl, by kernel_rfl, by kernel_rfl, by kernel_rfl, by kernel_rfl⟩
def qzJ : C :=
 ((C.ops [⟨some 4, none, .nilo 0 1 3, []⟩, MC 5 (.bool false)]).seq ((C.ops [MV 12 0, O1 13 .len 12, ⟨some 14, none, .mkslc 1 1 3 [i6 0] 8, [.t 13, .t 13]⟩, MV 6 14]).seq ((C.ops
 [MC 7 (i6 0)]).seq (((C.ops [MV 15 0, O1 16 .len 15, MC 17 (i6 0)]).seq (C.block 0 ((C.ops [BI 18 .lss 17 16]).seq ((C.cond (.t 18) C.skip (C.exit 0)).seq ((C.block 1 ((C.ops [MV
 19 17, O2 20 (.idxA 6) 15 17, O1 21 (.load (some 6)) 20, ⟨some 9, none, .alloc 2 58 [i6 0, i6 0, i6 0, i6 0, i6 0, .str []], []⟩, MV 8 19, ST 6 9 21]).seq (((C.ops [O1 22 (.fldA 0)
 9, LD 23 22, BC 24 .neq 23 (i6 1)]).seq (C.cond (.t 24) (C.exit 1) C.skip)).seq (((C.ops [MV 25 1, O1 26 .len 25, MC 27 (i6 0)]).seq (C.block 2 ((C.ops [BI 28 .lss 27 26]).seq
 ((C.cond (.t 28) C.skip (C.exit 2)).seq ((C.block 3 ((C.ops [MV 29 27, O2 30 (.idxA 5) 25 27, O1 31 (.load (some 5)) 30, ⟨some 11, none, .alloc 3 49 [i6 0, i6 0, i6 0, i6 0, .str
 []], []⟩, MV 10 29, ST 5 11 31]).seq (((C.ops [MV 32 8, O1 33 (.fldA 0) 11, LD 34 33, BI 35 .lss 32 34, MV 36 35, MG 37 36 false 8, P1 38 36 false (.fldA 1) 11, P1 39 36 false
 (.load none) 38, P2 40 36 false (.bin .geq) 37 39, ⟨some 41, none, .pick, [.t 36, .c (.bool true), .t 40]⟩]).seq (C.cond (.t 41) (C.exit 3) C.skip)).seq (((C.ops [MV 42 6, MV 43 8,
 O2 44 (.idxA 1) 42 43, LD 45 44, BC 46 .gtr 45 (i6 0)]).seq (C.cond (.t 46) ((C.ops [⟨some 4, none, .nilo 0 1 3, []⟩, MC 5 (.bool false)]).seq C.ret) C.skip)).seq (C.ops [MV 47 6,
 MV 48 8, MV 49 10, BC 50 .add 49 (i6 1), O2 51 (.idxA 1) 47 48, ST 1 51 50]))))).seq (C.ops [BC 52 .add 27 (i6 1), MV 27 52])))).loop)).seq (((C.ops [MV 53 6, MV 54 8, O2 55 (.idxA
 1) 53 54, LD 56 55, BC 57 .eql 56 (i6 0), MV 58 57, MG 59 58 false 6, MG 60 58 false 8, P2 61 58 false (.idxA 1) 59 60, P1 62 58 false (.load none) 61, MG 63 58 false 7, P2 64 58
 false (.bin .lss) 62 63, ⟨some 65, none, .pick, [.t 58, .c (.bool true), .t 64]⟩]).seq (C.cond (.t 65) ((C.ops [⟨some 4, none, .nilo 0 1 3, []⟩, MC 5 (.bool false)]).seq C.ret)
 C.skip)).seq (C.ops [MV 66 6, MV 67 8, O2 68 (.idxA 1) 66 67, LD 69 68, MV 7 69])))))).seq (C.ops [BC 70 .add 17 (i6 1), MV 17 70])))).loop)).seq ((C.ops [MV 71 6, MV 4 71, MC 5
 (.bool true)]).seq
 C.ret)))))
theorem qyx : zj Tryz.prog 87 72 4 [RV.tmp 4, RV.tmp 5] qzJ := ⟨Tryz.f87, Tryz.f87.body.getD .skip, [4, 14, 9, 11], [76, 140, 144, 67, 78, 79, 80, 113, 85], [], by kernel_rfl, by kernel_rfl, by kernel_rfl, by kernel_rfl, by kernel_rfl, by kernel_rfl, by kernel_rfl⟩
def qzK : C :=
 ((C.ops [O1 1 (.box 0 38) 0, MC 2 .nilfn]).seq ((C.ops [O1 3 (.mkfn (Fn.func 122) 0) 1, MV 2 3]).seq
 C.ret))
theorem qyy : zj Tryz.prog 88 4 1 [RV.tmp 2] qzK := ⟨Tryz.f88, Tryz.f88.body.getD .skip, [1], [76, 140, 144, 67, 78, 79, 80, 113, 85], [], by kernel_rfl, by kernel_rfl, by kernel_rfl, by kernel_rfl, by kernel_rfl, by kernel_rfl, by kernel_rfl⟩
def quP : C :=
 ((C.ops [MC 2 (i6 0)]).seq ((C.ops [MC 3 (i6 0)]).seq (((C.ops [MV 6 0, O1 7 .slen 6, MC 8 (i6 0)]).seq (C.block 0 ((C.ops [BI 9 .lss 8 7]).seq ((C.cond (.t 9) C.skip (C.exit
 0)).seq ((C.block 1 ((C.ops [MV 10 8, MV 4 10]).seq ((C.ops [MV 11 0, MV 12 4, O2 13 .sidx 11 12, O1 14 (.call 98 true) 13, MV 5 14]).seq ((C.ops [MV 15 5, BC 16 .eql 15 (i6 1), MV
 17 16, MG 18 17 false 5, PC 19 17 false (.bin .eql) 18 (i6 3), ⟨some 20, none, .pick, [.t 17, .c (.bool true), .t 19]⟩]).seq (C.cond (.t 20) (C.ops [MV 21 3, BC 22 .add 21 (i6 1),
 MV 3 22]) C.skip))))).seq (C.ops [BC 23 .add 8 (i6 1), MV 8 23])))).loop)).seq ((C.ops [MV 24 3, MV 2 24]).seq
 C.ret))))
theorem qvB : zj Tryz.prog 117 25 0 [RV.tmp 2] quP := ⟨Tryz.f117, Tryz.f117.body.getD .skip, [], [76, 140, 144, 67, 78, 79, 80, 113, 85], [], by kernel_rfl, by kernel_rfl, by kernel_rfl, by kernel_rfl, by kernel_rfl, by kernel_rfl, by kernel_rfl⟩
def qso : C :=
 ((C.ops [MC 4 (.str []), MC 5 (.str []), MC 6 (.bool false)]).seq ((C.ops [MV 7 0, MV 8 1, O2 9 (.call 136 true) 7 8, O1 10 (.ext 0) 9, O1 11 (.ext 1) 9, O1 12 (.ext 2) 9, MV 4 10,
 MV 5 11, MV 6 12]).seq
 C.ret))
theorem qrR : zj Tryz.prog 118 13 0 [RV.tmp 4, RV.tmp 5, RV.tmp 6] qso := ⟨Tryz.f118, Tryz.f118.body.getD .skip, [], [76, 140, 144, 67, 78, 79, 80, 113, 85], [], by kernel_rfl, by kernel_rfl, by kernel_rfl, by kernel_rfl, by kernel_rfl, by kernel_rfl, by kernel_rfl⟩
def quQ : C :=
 ((C.ops [MC 2 (.str [])]).seq ((C.ops [MC 3 (i6 0)]).seq ((C.block 0 (((C.ops [MV 4 3, MV 5 0, O1 6 .slen 5, BI 7 .lss 4 6, MV 8 7, MG 9 8 true 0, MG 10 8 true 3, MG 11 8 true 3,
 PC 12 8 true (.bin .add) 11 (i6 1), ⟨some 13, some (8, true), .sslc true true, [.t 9, .t 10, .t 12]⟩, P1 14 8 true (.call 117 true) 13, PC 15 8 true (.bin .eql) 14 (i6 1), ⟨some
 16, none, .pick, [.t 8, .t 15, .c (.bool false)]⟩]).seq (C.cond (.t 16) C.skip (C.exit 0))).seq (C.block 1 (C.ops [MV 17 3, BC 18 .add 17 (i6 1), MV 3 18]))).loop).seq ((C.ops [MV
 19 0, MV 20 3, O2 21 (.sslc false true) 19 20, MV 2 21]).seq
 C.ret))))
theorem qvC : zj Tryz.prog 119 22 0 [RV.tmp 2] quQ := ⟨Tryz.f119, Tryz.f119.body.getD .skip, [], [76, 140, 144, 67, 78, 79, 80, 113, 85], [], by kernel_rfl, by kernel_rfl, by kernel_rfl, by kernel_rfl, by kernel_rfl, by kernel_rfl, by kernel_rfl⟩
def quR : C :=
 ((C.ops [MC 2 (.str [])]).seq ((C.ops [MV 3 0, O1 4 (.call 137 true) 3, MV 2 4]).seq
 C.ret))
theorem qvD : zj Tryz.prog 120 5 0 [RV.tmp 2] quR := ⟨Tryz.f120, Tryz.f120.body.getD .skip, [], [76, 140, 144, 67, 78, 79, 80, 113, 85], [], by kernel_rfl, by kernel_rfl, by kernel_rfl, by kernel_rfl, by kernel_rfl, by kernel_rfl, by kernel_rfl⟩
def quS : C :=
 ((C.ops [MC 2 (i6 0)]).seq ((C.ops [MV 3 0, O1 4 .nilchk 3, O1 5 (.fldA 1) 4, LD 6 5, O1 7 .len 6, MV 2 7]).seq
 C.ret))
theorem qvE : zj Tryz.prog 121 8 0 [RV.tmp 2] quS := ⟨Tryz.f121, Tryz.f121.body.getD .skip, [], [76, 140, 144, 67, 78, 79, 80, 113, 85], [], by kernel_rfl, by kernel_rfl, by kernel_rfl, by kernel_rfl, by kernel_rfl, by kernel_rfl, by kernel_rfl⟩
def quT : C :=
 ((C.ops [MC 3 (i6 (-1)), MC 4 (i6 (-1))]).seq (((C.ops [LD 7 1, O1 8 .len 7, MC 9 (i6 0)]).seq (C.block 0 ((C.ops [BI 10 .lss 9 8]).seq ((C.cond (.t 10) C.skip (C.exit 0)).seq
 ((C.block 1 ((C.ops [MV 11 9, O2 12 (.idxA 6) 7 9, O1 13 (.load (some 6)) 12, ⟨some 6, none, .alloc 0 58 [i6 0, i6 0, i6 0, i6 0, i6 0, .str []], []⟩, MV 5 11, ST 6 6 13]).seq
 (((C.ops [O1 14 (.fldA 0) 6, LD 15 14, BC 16 .neq 15 (i6 1)]).seq (C.cond (.t 16) (C.exit 1) C.skip)).seq (((C.ops [MV 17 5, BC 18 .geq 17 (i6 2), MV 19 18, P1 20 19 true (.load
 none) 1, MG 21 19 true 5, PC 22 19 true (.bin .sub) 21 (i6 1), P2 23 19 true (.idxA 6) 20 22, P1 24 19 true (.fldA 0) 23, P1 25 19 true (.load none) 24, PC 26 19 true (.bin .eql)
 25 (i6 3), ⟨some 27, none, .pick, [.t 19, .t 26, .c (.bool false)]⟩, MV 28 27, P1 29 28 true (.load none) 1, MG 30 28 true 5, PC 31 28 true (.bin .sub) 30 (i6 1), P2 32 28 true
 (.idxA 6) 29 31, P1 33 28 true (.fldA 4) 32, P1 34 28 true (.load none) 33, PC 35 28 true (.bin .neq) 34 (i6 (-10000)), ⟨some 36, none, .pick, [.t 28, .t 35, .c (.bool false)]⟩, MV
 37 36, P1 38 37 true (.load none) 1, MG 39 37 true 5, PC 40 37 true (.bin .sub) 39 (i6 2), P2 41 37 true (.idxA 6) 38 40, P1 42 37 true (.fldA 0) 41, P1 43 37 true (.load none) 42,
 PC 44 37 true (.bin .eql) 43 (i6 1), ⟨some 45, none, .pick, [.t 37, .t 44, .c (.bool false)]⟩]).seq (C.cond (.t 45) ((C.ops [MV 46 5, MV 4 46]).seq (C.exit 1)) C.skip)).seq
 (((C.ops [MV 47 3, BC 48 .geq 47 (i6 0), MV 49 48, MG 50 49 true 0, MG 51 49 true 3, MG 52 49 true 4, ⟨some 53, some (49, true), .callv, [.t 50, .t 51, .t 52]⟩, P1 54 49 true (.un
 UnOp.not) 53, ⟨some 55, none, .pick, [.t 49, .t 54, .c (.bool false)]⟩]).seq (C.cond (.t 55) C.ret C.skip)).seq (C.ops [MV 56 5, MV 57 5, MV 3 56, MV 4 57])))))).seq (C.ops [BC 58
 .add 9 (i6 1), MV 9 58])))).loop)).seq ((C.ops [MV 59 3, BC 60 .geq 59 (i6 0)]).seq (C.cond (.t 60) (C.ops [MV 61 0, MV 62 3, MV 63 4, ⟨some 64, none, .callv, [.t 61, .t 62, .t
 63]⟩])
 C.skip))))
theorem qvF : zj Tryz.prog 122 65 1 [] quT := ⟨Tryz.f122, Tryz.f122.body.getD .skip, [6], [76, 140, 144, 67, 78, 79, 80, 113, 85], [], by kernel_rfl, by kernel_rfl, by kernel_rfl, by kernel_rfl, by kernel_rfl, by kernel_rfl, by kernel_rfl⟩
def qsr : C :=
 ((C.ops [MC 4 (.str []), MC 5 (.str []), MC 6 (.bool false)]).seq (((C.ops [MV 8 0, MV 9 1, O2 10 (.call 63 true) 8 9, MV 7 10]).seq ((C.ops [MV 11 7, BC 12 .geq 11 (i6 0)]).seq
 (C.cond (.t 12) ((C.ops [MV 13 0, MV 14 7, O2 15 (.sslc false true) 13 14, MV 16 0, MV 17 7, MV 18 1, O1 19 .slen 18, BI 20 .add 17 19, O2 21 (.sslc true false) 16 20, MV 4 15, MV
 5 21, MC 6 (.bool true)]).seq C.ret) C.skip))).seq ((C.ops [MV 22 0, MV 4 22, MC 5 (.str []), MC 6 (.bool false)]).seq
 C.ret)))
theorem qrU : zj Tryz.prog 136 23 0 [RV.tmp 4, RV.tmp 5, RV.tmp 6] qsr := ⟨Tryz.f136, Tryz.f136.body.getD .skip, [], [76, 140, 144, 67, 78, 79, 80, 113, 85], [], by kernel_rfl, by kernel_rfl, by kernel_rfl, by kernel_rfl, by kernel_rfl, by kernel_rfl, by kernel_rfl⟩
def quZ : C :=
 ((C.ops [MC 2 (.str [])]).seq ((C.ops [MV 3 0, OC 4 (.call 143 true) 3 (i6 10), MV 2 4]).seq
 C.ret))
theorem qvM : zj Tryz.prog 137 5 0 [RV.tmp 2] quZ := ⟨Tryz.f137, Tryz.f137.body.getD .skip, [], [76, 140, 144, 67, 78, 79, 80, 113, 85], [], by kernel_rfl, by kernel_rfl, by kernel_rfl, by kernel_rfl, by kernel_rfl, by kernel_rfl, by kernel_rfl⟩
def qu2 : C :=
 ((C.ops [MC 4 (.str [])]).seq (((C.ops [MV 10 1, BC 11 .eql 10 (i6 10)]).seq (C.cond (.t 11) (((C.ops [MV 12 0, ⟨some 13, none, .bin .leq, [.c (i6 0), .t 12]⟩, MV 14 13, MG 15 14
 true 0, PC 16 14 true (.bin .lss) 15 (i6 100), ⟨some 17, none, .pick, [.t 14, .t 16, .c (.bool false)]⟩]).seq (C.cond (.t 17) ((C.ops [MV 18 0, O1 19 (.call 147 true) 18, MV 4
 19]).seq C.ret) C.skip)).seq ((C.ops [⟨some 5, none, .alloc 0 188 [.int .u8 0, .int .u8 0, .int .u8 0, .int .u8 0, .int .u8 0, .int .u8 0, .int .u8 0, .int .u8 0, .int .u8 0, .int
 .u8 0, .int .u8 0, .int .u8 0, .int .u8 0, .int .u8 0, .int .u8 0, .int .u8 0, .int .u8 0, .int .u8 0, .int .u8 0, .int .u8 0, .int .u8 0, .int .u8 0, .int .u8 0, .int .u8 0],
 []⟩]).seq ((C.ops [MV 20 0, O1 21 (.conv .u64) 20, MV 6 21]).seq (((C.ops [MV 22 0, BC 23 .lss 22 (i6 0)]).seq (C.cond (.t 23) (C.ops [MV 24 6, O1 25 (.un UnOp.neg) 24, MV 6 25])
 C.skip)).seq ((C.ops [MV 26 6, O1 27 (.call 148 true) 26, MV 7 27]).seq (C.bad.seq (((C.ops [MV 33 0, BC 34 .lss 33 (i6 0)]).seq (C.cond (.t 34) ((C.ops [OC 35 (.idxArr 24 1) 5 (i6
 0), ⟨none, none, .store 1, [.t 35, .c (.int .u8 45)]⟩]).seq (C.bad.seq C.ret)) C.skip)).seq (C.bad.seq C.ret)))))))) C.skip)).seq ((C.ops [MV 45 0, O1 46 (.conv .u64) 45, MV 47 1,
 MV 48 0, BC 49 .lss 48 (i6 0), ⟨some 50, none, .call 150 true, [.c .nl, .t 46, .t 47, .t 49, .c (.bool false)]⟩, MV 44 50, O1 51 (.ext 0) 44, O1 52 (.ext 1) 44, MV 8 51, MV 9
 52]).seq ((C.ops [MV 53 9, MV 4 53]).seq
 C.ret))))
theorem qvS : zj Tryz.prog 143 54 1 [RV.tmp 4] qu2 := ⟨Tryz.f143, Tryz.f143.body.getD .skip, [5], [76, 140, 144, 67, 78, 79, 80, 113, 85], [], by kernel_rfl, by kernel_rfl, by kernel_rfl, by kernel_rfl, by kernel_rfl, by kernel_rfl, by kernel_rfl⟩
def qss : C :=
 ((C.ops [MC 2 (.str [])]).seq (((C.ops [MV 3 0, BC 4 .lss 3 (i6 10)]).seq (C.cond (.t 4) ((C.ops [MV 5 0, MV 6 0, BC 7 .add 6 (i6 1), ⟨some 8, none, .sslc true true, [.c (.str [48,
 49, 50, 51, 52, 53, 54, 55, 56, 57, 97, 98, 99, 100, 101, 102, 103, 104, 105, 106, 107, 108, 109, 110, 111, 112, 113, 114, 115, 116, 117, 118, 119, 120, 121, 122]), .t 5, .t 7]⟩,
 MV 2 8]).seq C.ret) C.skip)).seq ((C.ops [MV 9 0, BC 10 .mul 9 (i6 2), MV 11 0, BC 12 .mul 11 (i6 2), BC 13 .add 12 (i6 2), ⟨some 14, none, .sslc true true, [.c (.str [48, 48, 48,
 49, 48, 50, 48, 51, 48, 52, 48, 53, 48, 54, 48, 55, 48, 56, 48, 57, 49, 48, 49, 49, 49, 50, 49, 51, 49, 52, 49, 53, 49, 54, 49, 55, 49, 56, 49, 57, 50, 48, 50, 49, 50, 50, 50, 51,
 50, 52, 50, 53, 50, 54, 50, 55, 50, 56, 50, 57, 51, 48, 51, 49, 51, 50, 51, 51, 51, 52, 51, 53, 51, 54, 51, 55, 51, 56, 51, 57, 52, 48, 52, 49, 52, 50, 52, 51, 52, 52, 52, 53, 52,
 54, 52, 55, 52, 56, 52, 57, 53, 48, 53, 49, 53, 50, 53, 51, 53, 52, 53, 53, 53, 54, 53, 55, 53, 56, 53, 57, 54, 48, 54, 49, 54, 50, 54, 51, 54, 52, 54, 53, 54, 54, 54, 55, 54, 56,
 54, 57, 55, 48, 55, 49, 55, 50, 55, 51, 55, 52, 55, 53, 55, 54, 55, 55, 55, 56, 55, 57, 56, 48, 56, 49, 56, 50, 56, 51, 56, 52, 56, 53, 56, 54, 56, 55, 56, 56, 56, 57, 57, 48, 57,
 49, 57, 50, 57, 51, 57, 52, 57, 53, 57, 54, 57, 55, 57, 56, 57, 57]), .t 10, .t 13]⟩, MV 2 14]).seq
 C.ret)))
theorem qrV : zj Tryz.prog 147 15 0 [RV.tmp 2] qss := ⟨Tryz.f147, Tryz.f147.body.getD .skip, [], [76, 140, 144, 67, 78, 79, 80, 113, 85], [], by kernel_rfl, by kernel_rfl, by kernel_rfl, by kernel_rfl, by kernel_rfl, by kernel_rfl, by kernel_rfl⟩
def qzf : C :=
 ((C.ops [MC 0 (.bool false)]).seq ((C.ops [MC 1 (.fn (Fn.func 52) [] [])]).seq ((C.ops [⟨some 12, none, .build [i6 0, i6 0, i6 0, i6 0, i6 0, .str []] [(0, 1), (1, 1)], [.c (i6 2),
 .c (i6 5)]⟩, ⟨some 13, none, .build [i6 0, i6 0, i6 0, i6 0, i6 0, .str []] [(0, 1), (1, 1), (4, 1), (5, 1)], [.c (i6 3), .c (i6 5), .c (i6 50), .c (.str [61])]⟩, ⟨some 2, none,
 .alloc 0 58 [i6 0, i6 0, i6 0, i6 0, i6 0, .str []], []⟩, ⟨some 3, none, .alloc 1 58 [i6 0, i6 0, i6 0, i6 0, i6 0, .str []], []⟩, ST 6 2 12, ST 6 3 13]).seq ((C.draw (DT.one ⟨some
 14, none, .mv, [.t 1]⟩ (DT.uni ⟨some 15, none, .callv, [.t 14, .c (.str [100, 101, 117, 115])]⟩ (DT.one ⟨some 16, none, .load (some 6), [.t 2]⟩ (DT.one ⟨some 17, none, .mv, [.t 1]⟩
 (DT.uni ⟨some 18, none, .callv, [.t 17, .c (.str [101])]⟩ (DT.one ⟨some 19, none, .load (some 6), [.t 3]⟩ (DT.one ⟨some 20, none, .mv, [.t 1]⟩ (DT.uni ⟨some 21, none, .callv, [.t
 20, .c (.str [115, 116])]⟩ (DT.one ⟨some 22, none, .load (some 6), [.t 2]⟩ (DT.one ⟨some 23, none, .mv, [.t 1]⟩ (DT.uni ⟨some 24, none, .callv, [.t 23, .c (.str [98, 111, 110, 117,
 115])]⟩ (DT.one ⟨some 25, none, .bslc 2 6 7 58 [i6 0, i6 0, i6 0, i6 0, i6 0, .str []] [(0, 6), (6, 6), (12, 6), (18, 6), (24, 6), (30, 6), (36, 6)], [.t 15, .t 16, .t 18, .t 19,
 .t 21, .t 22, .t 24]⟩ (DT.one ⟨some 4, none, .mv, [.t 25]⟩ DT.nil)))))))))))))).seq ((C.ops [⟨some 26, none, .build [i6 0, i6 0, i6 0, i6 0, .str []] [(0, 1), (1, 1)], [.c (i6 0),
 .c (i6 3)]⟩, ⟨some 27, none, .build [i6 0, i6 0, i6 0, i6 0, .str []] [(0, 1), (1, 1)], [.c (i6 4), .c (i6 7)]⟩, ⟨some 28, none, .bslc 3 5 2 49 [i6 0, i6 0, i6 0, i6 0, .str []]
 [(0, 5), (5, 5)], [.t 26, .t 27]⟩, MV 5 28]).seq ((C.wk.seq (C.ops [MV 30 4, MV 31 5, O2 32 (.call 19 true) 30 31, MV 29 32, O1 33 (.ext 0) 29, O1 34 (.ext 1) 29, MV 6 33, MV 7
 34])).seq ((C.ops [MV 36 4, MV 37 5, O2 38 (.call 20 true) 36 37, MV 35 38, O1 39 (.ext 0) 35, O1 40 (.ext 1) 35, MV 8 39, MV 9 40]).seq ((C.ops [⟨some 42, none, .bslc 4 1 1 9
 [.str []] [(0, 1)], [.c (.str [99, 102, 46, 32, 64, 97])]⟩, ⟨some 43, none, .bslc 5 1 1 9 [.str []] [(0, 1)], [.c (.str [97])]⟩, ⟨some 44, none, .bslc 6 1 1 3 [i6 0] [(0, 1)], [.c
 (i6 12)]⟩, ⟨some 45, none, .call 53 false, [.t 42, .t 43, .t 44]⟩, MV 41 45, O1 46 (.ext 0) 41, O1 47 (.ext 1) 41, MV 10 46, MV 11 47]).seq ((C.ops [MV 48 7, BC 49 .eql 48 (i6 0),
 MV 50 49, MG 51 50 true 9, PC 52 50 true (.bin .eql) 51 (i6 0), ⟨some 53, none, .pick, [.t 50, .t 52, .c (.bool false)]⟩, MV 54 53, MG 55 54 true 11, PC 56 54 true (.bin .eql) 55
 (i6 0), ⟨some 57, none, .pick, [.t 54, .t 56, .c (.bool false)]⟩, MV 58 57, MG 59 58 true 6, ⟨some 60, some (58, true), .bslc 7 1 3 3 [i6 0] [(0, 1), (1, 1), (2, 1)], [.c (i6 1),
 .c (i6 1), .c (i6 2)]⟩, P2 61 58 true (.call 34 true) 59 60, ⟨some 62, none, .pick, [.t 58, .t 61, .c (.bool false)]⟩, MV 63 62, MG 64 63 true 8, ⟨some 65, some (63, true), .bslc 8
 1 3 3 [i6 0] [(0, 1), (1, 1), (2, 1)], [.c (i6 1), .c (i6 2), .c (i6 2)]⟩, P2 66 63 true (.call 34 true) 64 65, ⟨some 67, none, .pick, [.t 63, .t 66, .c (.bool false)]⟩, MV 68 67,
 MG 69 68 true 10, ⟨some 70, some (68, true), .bslc 9 1 1 9 [.str []] [(0, 1)], [.c (.str [99, 102, 46, 32, 49, 50])]⟩, P2 71 68 true (.call 54 true) 69 70, ⟨some 72, none, .pick,
 [.t 68, .t 71, .c (.bool false)]⟩, MV 0 72]).seq
 C.ret)))))))))
theorem qx0 : zj Tryz.prog 18 73 10 [RV.tmp 0] qzf := ⟨Tryz.f18, Tryz.f18.body.getD .skip, [2, 3, 25, 28, 42, 43, 44, 60, 65, 70], [76, 140, 144, 67, 78, 79, 80, 113, 85, 53], [5], by kernel_rfl, by kernel_rfl, by kernel_rfl, by kernel_rfl, by kernel_rfl, by kernel_rfl, by kernel_rfl⟩
end
section
set_option linter.all false
set_option linter.unusedSimpArgs false
set_option linter.unusedVariables false
set_option linter.unusedSectionVars false
open Go Go.Proofs AF HY
namespace HY
set_option maxRecDepth 100000
end HY
end
section
set_option linter.all false
set_option linter.unusedSimpArgs false
set_option linter.unusedVariables false
set_option linter.unusedSectionVars false
open Go Go.Proofs AF HY
namespace HY
set_option maxRecDepth 100000
end HY
end
section
set_option linter.all false
set_option linter.unusedSimpArgs false
set_option linter.unusedVariables false
set_option linter.unusedSectionVars false
set_option linter.unusedVariables false
namespace Go.Proofs
open Go.Shelf Go.RowKit Go.Lib
set_option maxHeartbeats 2000000 in
set_option maxRecDepth 100000 in
theorem qfO (s : ByteArray) (c : UInt8) (w : World) :
  Calls Tryz.prog 63 #[.string s, .string ⟨#[c]⟩] w fun e w' => e = .returned (.int .i64 (Lib.indexByte s.data.toList c)) ∧ w' = w := by
 have e92 : ∀ args w, (callFunc 92 args).run Tryz.prog w = .ok (.enter 92 args) w := enters_of Tryz.func92 (by kernel_rfl) rfl
 go_enter Tryz.func63, Tryz.ntmps63
 go_wp2_with (go_at_fn 92; refine (qh1 _ _ _).mono ?_; rintro e w' ⟨rfl, rfl⟩)
 ·have h : ([c] == s.toList) = true := by assumption
  go_ret
  refine ⟨?_, rfl⟩
  have e : s.data.toList = [c] := by rw [← Lib.toList_data]; exact (beq_iff_eq.1 h).symm
  rw [e]
  simp [Lib.indexByte]
 ·go_ret
  exact ⟨rfl, rfl⟩
set_option maxHeartbeats 1000000 in
theorem qqh (s : ByteArray) (c : UInt8) (w : World) :
  Calls Tryz.prog 32 #[.string s, .string ⟨#[c]⟩] w fun e w' => e = .returned (.int .i64 (Lib.indexByte s.data.toList c)) ∧ w' = w := by
 have e63 : ∀ args w, (callFunc 63 args).run Tryz.prog w = .ok (.enter 63 args) w := enters_of Tryz.func63 (by kernel_rfl) rfl
 go_enter Tryz.func32, Tryz.ntmps32
 go_wp2_with (go_at_fn 63; refine (qfO _ _ _).mono ?_; rintro e w' ⟨rfl, rfl⟩)
 go_ret
 exact ⟨rfl, rfl⟩
end Go.Proofs
end
section
set_option linter.all false
set_option linter.unusedSimpArgs false
set_option linter.unusedVariables false
set_option linter.unusedSectionVars false
open Go Go.Proofs AF HY
namespace HY
set_option maxRecDepth 100000
def cutAt (c : UInt8) (s : List UInt8) : Nat := (s.takeWhile (· != c)).length
theorem cutAt_cons (c b : UInt8) (s : List UInt8) : cutAt c (b :: s) = if b = c then 0 else cutAt c s + 1 := by
 unfold cutAt
 rw [List.takeWhile_cons]
 by_cases e : b = c
 ·simp [e]
 ·simp [e]
theorem index_cut (c : UInt8) : ∀ (s : List UInt8), 0 < s.count c → Go.Lib.indexByte s c = cutAt c s := by
 intro s
 induction s with
 | nil => intro h; simp at h
 | cons b s ih =>
  intro h
  unfold Go.Lib.indexByte
  rw [cutAt_cons]
  by_cases e : b = c
  ·simp [e]
  ·rw [List.count_cons, if_neg (by simpa using e)] at h
   have := ih (by omega)
   rw [if_neg (by simpa using e), if_neg e, this, if_neg (by simp <;> omega)]
   rfl
theorem cutAt_lt (c : UInt8) : ∀ (s : List UInt8), 0 < s.count c → cutAt c s < s.length := by
 intro s
 induction s with
 | nil => intro h; simp at h
 | cons b s ih =>
  intro h
  rw [cutAt_cons]
  by_cases e : b = c
  ·simp [e]
  ·rw [List.count_cons, if_neg (by simpa using e)] at h
   have := ih (by omega)
   rw [if_neg e, List.length_cons]
   omega
theorem count_cut (c : UInt8) : ∀ (s : List UInt8), 0 < s.count c → (s.drop (cutAt c s + 1)).count c = s.count c - 1 := by
 intro s
 induction s with
 | nil => intro h; simp at h
 | cons b s ih =>
  intro h
  rw [cutAt_cons]
  by_cases e : b = c
  ·simp [e]
  ·rw [List.count_cons, if_neg (by simpa using e)] at h
   have := ih (by omega)
   rw [if_neg e, List.drop_succ_cons, this, List.count_cons, if_neg (by simpa using e)]
   rfl
end HY
end
section
set_option linter.all false
set_option linter.unusedSimpArgs false
set_option linter.unusedVariables false
set_option linter.unusedSectionVars false
open Go Go.Proofs AF HY
namespace HY
set_option maxRecDepth 100000
end HY
end
section
set_option linter.all false
set_option linter.unusedSimpArgs false
set_option linter.unusedVariables false
set_option linter.unusedSectionVars false
open Go Go.Proofs AF HY
namespace HY
set_option maxRecDepth 100000
def dg (b : UInt8) : Bool := decide (qg3 (b.toNat : Int) = 3)
def qAe (s : List UInt8) (i : Nat) : Bool := dg (s.getD i 0) && (decide (s.getD i 0 = 48) || (decide (i + 1 < s.length) && (dg (s.getD (i + 1) 0) || decide (qg3 ((s.getD (i + 1) 0).toNat : Int) = 2))))
def qxz (s : List UInt8) : List UInt8 := s.filter fun b => !dg b
def qwt (s : List UInt8) (st : Nat × List Int) (u : List UInt8) : Nat × List Int :=
 if dg (s.getD st.1 0) then (st.1 + 1 + u.length, st.2 ++ [((s.getD st.1 0).toNat : Int) - 48]) else (st.1 + u.length, st.2 ++ [0])
def qtf (s : List UInt8) (us : List (List UInt8)) : Nat × List Int := us.foldl (qwt s) (0, [])
def qr0 (s : List UInt8) : Prop := s ≠ [] ∧ (∀ i, i < s.length → qAe s i = false) ∧
 (∀ i, i < (qV (qxz s)).length → (qtf s ((qV (qxz s)).take i)).1 < s.length) ∧ ((qtf s (qV (qxz s))).1 < s.length → dg (s.getD (qtf s (qV (qxz s))).1 0) = true)
end HY
end
section
set_option linter.all false
set_option linter.unusedSimpArgs false
set_option linter.unusedVariables false
set_option linter.unusedSectionVars false
open Go Go.Proofs AF HY
namespace HY
set_option maxRecDepth 100000
end HY
end
section
set_option linter.all false
set_option linter.unusedSimpArgs false
set_option linter.unusedVariables false
set_option linter.unusedSectionVars false
open Go Go.Proofs AF HY
namespace HY
set_option maxRecDepth 100000
end HY
end
section
set_option linter.all false
set_option linter.unusedSimpArgs false
set_option linter.unusedVariables false
set_option linter.unusedSectionVars false
open Go Go.Proofs AF HY
namespace HY
set_option maxRecDepth 100000
end HY
end
section
set_option linter.all false
set_option linter.unusedSimpArgs false
set_option linter.unusedVariables false
set_option linter.unusedSectionVars false
open Go Go.Proofs AF HY
namespace HY
set_option maxRecDepth 100000
def qbf (L : List Int) (j : Nat) : Int := if j = 0 then 0 else L.getD (j - 1) 0
def qdB (w : List UInt8) (L : List Int) (j : Nat) : List UInt8 := (w.drop (qbf L j).toNat).take ((L.getD j 0).toNat - (qbf L j).toNat)
theorem qn0 {v n : Nat} {L : List (List UInt8)} {fz : Nat → Bool} {h : List AObj} : VLe (qo8 (some (kC v 9 (jh L))) v 1 0 L.length (rei fz h (n + 1))) (qF L) := by
 unfold kC
 split
 ·rename_i e
  have : L = [] := by cases L with
   | nil => rfl
   | cons a l => simp [jh] at e
  subst this
  rw [slOf_emp, if_pos rfl]
  exact kH
 ·rw [slOf_mem, if_pos ⟨rfl, by rw [zJ]; omega⟩]
  simp only [Nat.zero_add, Nat.mul_one]
  exact qe1 rfl
end HY
end
section
set_option linter.all false
set_option linter.unusedSimpArgs false
set_option linter.unusedVariables false
set_option linter.unusedSectionVars false
open Go Go.Proofs AF HY
namespace HY
set_option maxRecDepth 100000
def txt : List UInt8 := [97, 49, 98, 32, 46, 99, 50, 100, 51, 101, 46]
instance (s : List UInt8) : Decidable (qr0 s) := by unfold qr0; infer_instance
end HY
end
section
set_option linter.all false
set_option linter.unusedSimpArgs false
set_option linter.unusedVariables false
set_option linter.unusedSectionVars false
open Go Go.Proofs AF HY
namespace HY
set_option maxRecDepth 100000
theorem qAi {P : Program} {f : FuncId} {args : List AV} {h h' : List AObj} {r : AV} (ks : List Nat) (hs : qbj ks h = true) (hc : qs P f (args.map (frz (fun k => ks.contains k) h 8)) (qg2 ks h) r h') : qs P f args h r h' := by
 refine ⟨hc.1, fun w σ xs H hv => ?_⟩
 obtain ⟨σ', g1, g2, g3, g4⟩ := qfQ ks H hs
 refine (hc.2 w σ' xs g1 ⟨by rw [hv.1]; simp, fun i c x hcc hx => ?_⟩).mono ?_
 ·rw [List.getElem?_map, Option.map_eq_some_iff] at hcc
  obtain ⟨c0, hcc, rfl⟩ := hcc
  exact qmy H (fun b hb => (g4 b hb).elim fun j ⟨o, h1, h2, h3⟩ => ⟨j, o, by simpa using h1, h2, h3⟩) (fun j o hj ho => g3 j o (by simpa using hj) ho) 8 (hv.2 i c0 x hcc hx)
 ·rintro e w' ⟨v, σ2, rfl, k1, k2, k3⟩
  exact ⟨v, σ2, rfl, k1, k2, g2.trans k3⟩
theorem qz9 (L M : List Int) (k v : Nat) (h : List AObj) (hk : qL k h = some (kC v 3 (q9 M))) (hl : L.length ≤ 1000000) : qs Tryz.prog 34 [qy L, .osl k v 1 0 M.length] h (.bool (decide (L = M))) h := by
 refine qs.borrow ?_ rfl
 refine qs.le (qAM L M [] (by omega)) ?_ (VLe.refl _)
 simp only [List.map_cons, List.map_nil, rei_osl, if_true, hk]
 exact zU (VLe.refl _) (zU qgn j4.nil)
theorem qAN (L M : List (List UInt8)) (k v : Nat) (h : List AObj) (hk : qL k h = some (kC v 9 (jh M))) (hl : L.length ≤ 1000000) : qs Tryz.prog 54 [qF L, .osl k v 1 0 M.length] h (.bool (eqS L.length M.length (fun i => L.getD i []) (fun i => M.getD i []))) h := by
 refine qs.borrow ?_ rfl
 refine qs.le (qz4 L.length M.length (fun i => L.getD i []) (fun i => M.getD i []) [] (by omega)) ?_ (VLe.refl _)
 simp only [List.map_cons, List.map_nil, rei_osl, if_true, hk]
 exact zU (VLe.refl _) (zU qn0 j4.nil)
theorem e5 : decide ([0, 1, 0, 0, 3] = ([0, 1, 0, 0, 3] : List Int)) = true := by decide
theorem e2 : decide ([2, 3] = ([2, 3] : List Int)) = true := by decide
end HY
end
section
set_option linter.all false
set_option linter.unusedSimpArgs false
set_option linter.unusedVariables false
set_option linter.unusedSectionVars false
open Go Go.Proofs AF HY
namespace HY
set_option maxRecDepth 100000
def ji (N : Nat) (T : List Int → List Int) (c : Nat → Int) : Prop := (∀ i, 0 ≤ c i ∧ c i ≤ 9) ∧ ∀ all, all.length = N → (∀ i, i < N → 0 ≤ all.getD i 0) → (T all).length = N ∧ ∀ i, i < N → (T all).getD i 0 = max (all.getD i 0) (c i)
theorem ji.id (N : Nat) : ji N (fun a => a) (fun _ => 0) := ⟨fun _ => by dsimp only; omega, fun all hl h0 => ⟨hl, fun i hi => by have := h0 i hi; dsimp only; omega⟩⟩
theorem ji.comp {N : Nat} {T U : List Int → List Int} {c d : Nat → Int} (hT : ji N T c) (hU : ji N U d) : ji N (fun a => U (T a)) (fun i => max (c i) (d i)) := by
 refine ⟨fun i => by have := hT.1 i; have := hU.1 i; dsimp only; omega, fun all hl h0 => ?_⟩
 obtain ⟨t1, t2⟩ := hT.2 all hl h0
 obtain ⟨u1, u2⟩ := hU.2 (T all) t1 (fun i hi => by rw [t2 i hi]; have := h0 i hi; omega)
 exact ⟨u1, fun i hi => by rw [u2 i hi, t2 i hi]; dsimp only; omega⟩
theorem qcW (l : List Int) (a i : Nat) (x : Int) : (l.set a x).getD i 0 = if a = i ∧ i < l.length then x else l.getD i 0 := by
 rw [List.getD_eq_getElem?_getD, List.getD_eq_getElem?_getD, List.getElem?_set]
 by_cases e : a = i
 ·subst e
  by_cases h : a < l.length
  ·simp [h]
  ·simp [h]
 ·simp [e]
theorem ji.set (N a : Nat) {x : Int} (h0 : 0 ≤ x) (h9 : x ≤ 9) : ji N (fun all => all.set a (max (all.getD a 0) x)) (fun i => if a = i then x else 0) := by
 refine ⟨fun i => by dsimp only; split <;> omega, fun all hl hn => ⟨by simp [hl], fun i hi => ?_⟩⟩
 rw [qcW]
 have := hn i hi
 by_cases e : a = i
 ·subst e; rw [if_pos ⟨rfl, by omega⟩]; dsimp only; rw [if_pos rfl]
 ·rw [if_neg (fun h => e h.1)]; dsimp only; rw [if_neg e]; omega
def qww (r : List Int) : Prop := ∀ x ∈ r, 0 ≤ x ∧ x ≤ 9
theorem ji.addAt {N : Nat} : ∀ (r : List Int) (a : Nat), qww r → ∃ c, ji N (fun all => addAt all a r) c := by
 intro r
 induction r with
 | nil => intro a _; exact ⟨_, ji.id N⟩
 | cons x r ih =>
  intro a h
  obtain ⟨c, hc⟩ := ih (a + 1) (fun y hy => h y (List.mem_cons_of_mem _ hy))
  obtain ⟨h0, h9⟩ := h x List.mem_cons_self
  exact ⟨_, (ji.set N a h0 h9).comp hc⟩
theorem ji.foldl {α : Type} {N : Nat} {f : List Int → α → List Int} : ∀ (l : List α), (∀ x ∈ l, ∃ c, ji N (fun a => f a x) c) → ∃ c, ji N (fun a => l.foldl f a) c := by
 intro l
 induction l with
 | nil => intro _; exact ⟨_, ji.id N⟩
 | cons x l ih =>
  intro h
  obtain ⟨c, hc⟩ := h x List.mem_cons_self
  obtain ⟨d, hd⟩ := ih (fun y hy => h y (List.mem_cons_of_mem _ hy))
  exact ⟨_, hc.comp hd⟩
def qwx (ps : List Pat) : Prop := ∀ p ∈ ps, qww p.levels
theorem qo5 (N i : Nat) : (List.replicate N (0 : Int)).getD i 0 = 0 := by
 rw [List.getD_eq_getElem?_getD, List.getElem?_replicate]
 split <;> rfl
structure qAT (ps : List Pat) : Prop where
 len : ps.length ≤ 8
 ok : qa6 ps
 jk : jm ps = 0
 all : ∀ p ∈ ps, j5 p = 0
 lev : qwx ps
end HY
end
section
set_option linter.all false
set_option linter.unusedSimpArgs false
set_option linter.unusedVariables false
set_option linter.unusedSectionVars false
open Go Go.Proofs AF HY
namespace HY
set_option maxRecDepth 100000
end HY
end
section
set_option linter.all false
set_option linter.unusedSimpArgs false
set_option linter.unusedVariables false
set_option linter.unusedSectionVars false
open Go Go.Proofs AF HY
namespace HY
set_option maxRecDepth 100000
end HY
end
section
set_option linter.all false
set_option linter.unusedSimpArgs false
set_option linter.unusedVariables false
set_option linter.unusedSectionVars false
open Go Go.Proofs AF HY
namespace HY
set_option maxRecDepth 100000
theorem kY (L : List Int) : (qy L).cells = [qy L] := rfl
theorem qai (L : List Int) : (qy L).solid = true := rfl
end HY
end
section
open Go Go.Proofs AF HY
namespace HY
set_option maxRecDepth 100000
end HY
end
section
set_option linter.unusedVariables false
namespace Go.Proofs
open Go.Shelf Go.RowKit
set_option maxHeartbeats 1000000 in
set_option maxRecDepth 100000 in
theorem qsx (b : Nat) (w : World) (h0 : w.cell? ⟨b, 0, none⟩ = some (.pointer (some ⟨b, 0, none⟩))) :
  Calls Tryz.prog 113 #[.pointer (some ⟨b, 0, none⟩)] w fun e w' => e = .returned (.tuple #[]) ∧ w' = w := by
 obtain ⟨j, hj, _⟩ := Option.map_eq_some_iff.1 (show (Tryz.prog.info? 122).map (·.size) = some 2 by kernel_rfl)
 go_enter Tryz.func113, Tryz.ntmps113
 go_wp2
 rw [Lib.run_neq_ptr_same w _ Tryz.underlying119 hj]
 go_wp2
 go_end0
 exact ⟨rfl, rfl⟩
theorem qtd (n : Nat) (hn : 2 ≤ n) : liesAt Tryz.prog Tryz.prog.depth 122 (n / Tryz.prog.cellsOf 122) 0 122 1 = true := by
 have e : Tryz.prog.cellsOf 122 = 2 := by kernel_rfl
 have hf : sameLayout Tryz.prog Tryz.prog.depth 122 122 = true := by kernel_rfl
 have h1 : 1 ≤ n / 2 := by omega
 rw [e]
 obtain ⟨d, hd⟩ : ∃ d, Tryz.prog.depth = d + 1 := ⟨2 * (Tryz.prog.types.size + Made.depth) + 1, rfl⟩
 have hr : rowAt Tryz.prog (sameLayout Tryz.prog Tryz.prog.depth · 122) Tryz.prog.depth 122 (n / 2) 0 1 = true := by
  conv => lhs; arg 3; rw [hd]
  unfold rowAt
  simp only [e]
  rw [if_neg (by omega)]
  simp [hf, h1]
 conv => lhs; arg 2; rw [hd]
 unfold liesAt
 rw [hr]
 rfl
set_option maxHeartbeats 1000000 in
set_option maxRecDepth 100000 in
theorem qpu (b : Nat) (w : World) (h0 : w.cell? ⟨b, 0, none⟩ = some (.pointer none)) (n : Nat) (hn : 2 ≤ n) (hsh : w.shape? b = some (122, n)) (hfz : w.frozen? ⟨b, 0, none⟩ = false) :
  Calls Tryz.prog 113 #[.pointer (some ⟨b, 0, none⟩)] w fun e w' => e = .returned (.tuple #[]) ∧ w' = w.setCell ⟨b, 0, none⟩ (.pointer (some ⟨b, 0, none⟩)) := by
 obtain ⟨j, hj, hjs⟩ := Option.map_eq_some_iff.1 (show (Tryz.prog.info? 122).map (·.size) = some 2 by kernel_rfl)
 go_enter Tryz.func113, Tryz.ntmps113
 go_wp2
 rw [Lib.run_to_unsafe w ⟨b, 0, none⟩ Tryz.underlying119 Tryz.underlying175 hj (by rw [hjs]; decide) hsh (Nat.lt_of_lt_of_le (Nat.zero_lt_succ 1) hn)]
 simp only [Result.andThen]
 rw [Oper.upon_value]
 go_wp2
 rw [run_callFunc_extern Tryz.func134 (by kernel_rfl) (by kernel_rfl) (by kernel_rfl) (e := Extern.AbiNoEscape.same) (by kernel_rfl)]
 rw [Lib.run_noEscape]
 simp only [Result.andThen]
 rw [Oper.upon_value]
 go_wp2
 rw [Lib.run_from_unsafe w ⟨b, 0, none⟩ Tryz.underlying175 Tryz.underlying119 hj hsh (qtd n hn)]
 simp only [Result.andThen]
 rw [Oper.upon_value]
 go_wp2
 go_end0
 exact ⟨rfl, rfl⟩
set_option maxHeartbeats 1000000 in
set_option maxRecDepth 100000 in
theorem qrj (b g cap : Nat) (l : List UInt8) (cur : Array Value) (w : World) (h0 : l ≠ []) (c0 : w.cell? ⟨b, 1, none⟩ = some (.slice (some ⟨g, 0, none⟩) l.length cap)) (hg : w.heap[g]? = some (.cells cur 5 (0, 0)))
  (hnc : l.length ≤ cap) (hcm : cap ≤ maxLen) (hcs : cap ≤ cur.size) (hcell : ∀ (j : Nat) x, l[j]? = some x → w.cell? ⟨g, j, none⟩ = some (.int .u8 x.toNat)) :
  Calls Tryz.prog 80 #[.pointer (some ⟨b, 0, none⟩)] w fun e w' => e = .returned (.string ⟨l.toArray⟩) ∧ w' = w.drew.freeze ⟨g, 0, none⟩ l.length := by
 have hl0 : l.length ≠ 0 := by simpa using h0
 have c1 : w.drew.cell? ⟨b, 1, none⟩ = some (.slice (some ⟨g, 0, none⟩) l.length cap) := c0
 have hSD : (Builtin.unsafeSliceData_ #[120] 152 #[.slice (some ⟨g, 0, none⟩) l.length cap]).run Tryz.prog w.drew = .ok (.pointer (some ⟨g, 0, none⟩)) w.drew :=
  Lib.run_unsafeSliceData_row _ _ _ _ _ _ (by omega)
 have hUS : (Builtin.unsafeString_ #[152, 3] 9 #[.pointer (some ⟨g, 0, none⟩), .int .i64 l.length]).run Tryz.prog w.drew = .ok (.string ⟨l.toArray⟩) (w.drew.freeze ⟨g, 0, none⟩ l.length) := by
  refine Lib.run_unsafeString_row w.drew 152 3 9 5 Tryz.underlying152 (by kernel_rfl) g cur.size (by have hg' : w.drew.heap[g]? = some (.cells cur 5 (0, 0)) := hg; simp [World.shape?, hg']) l h0 (by omega) (by unfold maxLen at hcm; omega) ?_
  intro j x hx
  have := hcell j x hx
  cases j with
  | zero => exact this
  | succ j =>
   have e : (⟨g, 0, none⟩ : Addr).add (j + 1) = ⟨g, j + 1, none⟩ := by
    unfold Addr.add
    rw [if_neg (Nat.succ_ne_zero j)]
    simp only [Nat.zero_add]
   rw [e]
   exact this
 have mixed : Tryz.prog.follows .mixedOrders = true := by kernel_rfl
 go_enter Tryz.func80, Tryz.ntmps80
 go_wp2
 go_region_o
 all_goals (go_wp2; go_ret; exact ⟨rfl, rfl⟩)
set_option maxHeartbeats 2000000 in
set_option maxRecDepth 100000 in
theorem qri (b : Nat) (w : World) (c0 : w.cell? ⟨b, 1, none⟩ = some (.slice none 0 0)) :
  Calls Tryz.prog 80 #[.pointer (some ⟨b, 0, none⟩)] w fun e w' => e = .returned (.string ⟨#[]⟩) ∧ w' = w.drew := by
 have hUS : ∀ (W : World) (q : Option Addr), (Builtin.unsafeString_ #[152, 3] 9 #[.pointer q, .int .i64 0]).run Tryz.prog W = .ok (.string .empty) W := fun W q => Lib.run_unsafeString_none W _ _ _ q
 have c1 : w.drew.cell? ⟨b, 1, none⟩ = some (.slice none 0 0) := c0
 have hSD : (Builtin.unsafeSliceData_ #[120] 152 #[.slice none 0 0]).run Tryz.prog w.drew = .ok (.pointer none) w.drew := rfl
 have mixed : Tryz.prog.follows .mixedOrders = true := by kernel_rfl
 go_enter Tryz.func80, Tryz.ntmps80
 go_wp2
 go_region_o
 all_goals (go_wp2; go_ret; exact ⟨rfl, rfl⟩)
end Go.Proofs
end
section
open Go Go.Proofs AF HY
namespace HY
set_option maxRecDepth 100000
theorem v81 (kb vb : Nat) (A B : AV) (h : List AObj) (hk : qL kb h = some (.mem vb 122 [A, B])) (hA : A = .nilp ∨ A = .op kb vb 0) : qs Tryz.prog 113 [.op kb vb 0] h (.tup []) (qO kb h (.mem vb 122 [.op kb vb 0, B])) := by
 refine ⟨qux Tryz.func113 (by kernel_rfl) (by kernel_rfl), fun w σ xs H hv => ?_⟩
 obtain ⟨x, rfl, hx⟩ := hv.one
 have hc := jK hk
 obtain ⟨cs, o, b, arr, g1, rfl, g2, g3, g4, g5, g6, g7, g9, g8⟩ := qaf H hx (by rw [hc]; rfl)
 rw [hc] at g1
 cases g1
 have hobj := H.obj kb _ o hk g2
 obtain ⟨_, hty, _⟩ := hobj
 rw [hty] at g5
 have g5b := g5
 have g5 := g5.plain (by decide)
 have hsz : 2 ≤ arr.size := g7
 have hc0 : w.cell? ⟨b, 0, none⟩ = some arr[0] := by rw [kV g5b]; simp
 have hA0 := g8 0 A arr[0] rfl (by simp)
 have hsh : w.shape? b = some (122, arr.size) := by simp [World.shape?, g5]
 have hfz : w.frozen? ⟨b, 0, none⟩ = false := by simp [World.frozen?, g5]
 have hkl := zX hk
 rcases hA with rfl | rfl
 ·rw [qhH hA0] at hc0
  refine (callsIn_wide.2 (qpu b w hc0 arr.size hsz hsh hfz)).mono ?_
  rintro e w' ⟨rfl, rfl⟩
  have hg : w.grownBy (w.setCell ⟨b, 0, none⟩ (.pointer (some ⟨b, 0, none⟩))) o.blk := by rw [g4]; exact grownBy_setCell' w b _
  have hh := heap_setCell_same w b 0 arr 122 (.pointer (some ⟨b, 0, none⟩)) g5
  obtain ⟨u1, u2⟩ := H.update (o' := o) (a' := .mem vb 122 [.op kb vb 0, B]) g2 hg (Nat.le_refl _) (fun _ => rfl)
   (by intro b' e; rw [g4] at e; cases e; exact ⟨.inl g4, (Array.getElem?_eq_some_iff.1 hh).1⟩) (fun b' r e hr => by rw [g4] at e; cases e; rw [g5] at hr; cases hr)
   (fun e => ⟨g3, hty, b, _, g4, by rw [hty]; exact .mk hh, by simp [g6], by simp; exact hsz, fun i y hi hy => by
    simp only [Array.getElem?_setIfInBounds] at hy
    split at hy
    ·split at hy
     ·cases hy; rfl
     ·cases hy
    ·exact g9 i y (by simpa using hi) hy, fun i c y hc hy => by
    simp only [Array.getElem?_setIfInBounds] at hy
    split at hy
    ·rename_i e0
     split at hy
     ·cases hy
      subst e0
      simp at hc
      subst hc
      have hko : (σ.set kb o)[kb]? = some o := by rw [List.getElem?_set_self (by rw [H.len]; exact hkl)]
      exact .op o hko ⟨_, rfl⟩ (by omega) (fun _ => ⟨b, g4, rfl⟩)
     ·cases hy
    ·rename_i e0
     have : i = 1 ∨ 2 ≤ i := by omega
     rcases this with rfl | h2
     ·exact (g8 1 c y hc hy).ext e
     ·match i, h2, hc with
      | i + 2, _, hc => simp at hc⟩)
  exact ⟨_, _, rfl, u1, .imm (.tup rfl (fun i c x hc => by simp at hc)), u2⟩
 ·obtain ⟨o', q1, q2, q3⟩ := qw2 hA0
  rw [g2] at q1
  cases q1
  obtain ⟨b', q4, q5⟩ := q3 g3
  rw [g4] at q4
  cases q4
  rw [q5] at hc0
  refine (callsIn_wide.2 (qsx b w hc0)).mono ?_
  rintro e w' ⟨rfl, rfl⟩
  rw [qgj hk]
  exact ⟨_, σ, rfl, H, .imm (.tup rfl (fun i c x hc => by simp at hc)), Ext.refl w' σ⟩
def bufO (v : Nat) (s : List UInt8) : AObj := if s = [] then .emp v else .mem v 5 (qT s)
theorem bufO_nil (v : Nat) : bufO v [] = .emp v := rfl
theorem bufO_ne {s : List UInt8} (h : s ≠ []) (v : Nat) : bufO v s = .mem v 5 (qT s) := if_neg h
theorem bytesA_app (s u : List UInt8) : qT (s ++ u) = qT s ++ qT u := by simp [qT]
theorem bytesA_low (s : List UInt8) (n : Nat) : ∀ c ∈ qT s, jf n c = true := by
 intro c hc
 unfold qT at hc
 rw [List.mem_map] at hc
 obtain ⟨a, _, rfl⟩ := hc
 rfl
theorem bufO_low (v : Nat) (s : List UInt8) (n : Nat) : qdu n (bufO v s) := by
 unfold bufO
 split
 ·trivial
 ·exact bytesA_low s n
theorem bld_set {kb kj : Nat} {h : List AObj} {X Y Z : AObj} (hne : kb ≠ kj) : qO kb (qO kj (qO kb h X) Y) Z = qO kj (qO kb h Z) Y := by
 rw [qnW hne, qgk]
theorem bld_low {kb vb kj v m : Nat} {h : List AObj} {s : List UInt8} (hkl : kb < h.length) (hjl : kj < h.length) : ∀ o ∈ qO kj (qO kb h (.mem vb 122 [.op kb vb 0, .osl kj v 1 0 m])) (bufO v s), o ∈ h ∨ qdu h.length o := by
 intro o ho
 rcases qbF ho with h1 | rfl
 ·rcases qbF h1 with h2 | rfl
  ·exact .inl h2
  ·right
   intro c hc
   simp only [List.mem_cons, List.not_mem_nil, or_false] at hc
   rcases hc with rfl | rfl
   ·simpa [jf] using hkl
   ·simpa [jf] using hjl
 ·exact .inr (bufO_low v s _)
theorem bufO_if (v : Nat) (u : List UInt8) : (if u.length = 0 then AObj.emp v else AObj.mem v 5 (qT u)) = bufO v u := by
 unfold bufO
 by_cases h : u = []
 ·simp [h]
 ·rw [if_neg h, if_neg (by simpa using h)]
theorem v50 (kb vb kj v : Nat) (A : AV) (s u : List UInt8) (h : List AObj) (hne : kj ≠ kb) (hk : qL kb h = some (.mem vb 122 [A, .osl kj v 1 0 s.length])) (hA : A = .nilp ∨ A = .op kb vb 0) (hj : qL kj h = some (bufO v s)) (hl : s.length + u.length ≤ 140737488355328) :
  qs Tryz.prog 78 [.op kb vb 0, .str u] h (.tup [.int .i64 u.length, .nilif]) (qO kj (qO kb h (.mem vb 122 [.op kb vb 0, .osl kj (v + 1) 1 0 (s.length + u.length)])) (bufO (v + 1) (s ++ u))) := by
 have hkl := zX hk
 have hjl := zX hj
 have hne' : kb ≠ kj := fun e => hne e.symm
 have hk1 : ∀ l, qL kb (h ++ l) = some (.mem vb 122 [A, .osl kj v 1 0 s.length]) := fun l => by rw [zV hkl, hk]
 refine qo qyv (by simp) ?_
 simp only [lcP, lnP, Nat.reduceAdd, Nat.reduceSub, List.replicate, caP, naP, List.append_nil]
 simp (disch := omega) only [qzH, go_sem, qc, dvP, mdP]
 refine qX (v81 kb vb A _ _ (hk1 _) hA) ⟨rfl, trivial⟩ ?_
 by_cases hs : s = []
 ·subst hs
  rw [bufO_nil] at hj
  simp (disch := omega) only [jR, jQ, kz, qeF, qeG, qeU, qeV, kX, qbC, kW, qaP, qaO, hj, go_sem]
  refine ⟨by omega, ⟨by simp, by simp at hl; omega⟩, ?_⟩
  rw [bld_set hne', bufO_if]
  refine qac ⟨trivial, trivial, trivial⟩ (by simp only [zl]) (bld_low hkl hjl) ⟨rfl, ?_⟩ (VLe.refl _)
  simp
 ·rw [bufO_ne hs] at hj
  simp (disch := omega) only [jR, jQ, kz, qeF, qeG, qeU, qeV, kX, qbC, kW, qaP, qaO, hj, jx, go_sem]
  repeat' first
   | (with_reducible refine And.intro ?_ ?_)
  all_goals first
   | omega
   | (simp [jx]; done)
   | skip
  rw [bld_set hne', List.take_of_length_le (by simp [jx]), ← bytesA_app, ← bufO_ne (by simp [hs])]
  exact qac ⟨trivial, trivial, trivial⟩ (by simp only [zl]) (bld_low hkl hjl) ⟨rfl, rfl⟩ (VLe.refl _)
theorem qfF (w : World) (g n : Nat) : w.grownBy (w.drew.freeze ⟨g, 0, none⟩ n) (some g) := by
 unfold World.freeze
 split
 ·exact ⟨rfl, rfl, rfl, Nat.le_refl _, fun _ _ _ => rfl⟩
 ·refine ⟨rfl, rfl, rfl, ?_, fun k hk hne => ?_⟩
  ·show w.heap.size ≤ (w.heap.modify g _).size
   rw [Array.size_modify]
   exact Nat.le_refl _
  ·have : g ≠ k := fun e => hne (by rw [e])
   show (w.heap.modify g _)[k]? = w.heap[k]?
   rw [Array.getElem?_modify, if_neg this]
theorem v52 (kb vb kj v : Nat) (A : AV) (s : List UInt8) (h : List AObj) (hne : kj ≠ kb) (hk : qL kb h = some (.mem vb 122 [A, .osl kj v 1 0 s.length])) (hj : qL kj h = some (bufO v s)) :
  qs Tryz.prog 80 [.op kb vb 0] h (.str s) (qO kj h (.emp (v + 1))) := by
 refine ⟨qux Tryz.func80 (by kernel_rfl) (by kernel_rfl), fun w σ xs H hv => ?_⟩
 obtain ⟨x, rfl, hx⟩ := hv.one
 have hc := jK hk
 obtain ⟨cs, o, b, arr, g1, rfl, g2, g3, g4, g5, g6, g7, g9, g8⟩ := qaf H hx (by rw [hc]; rfl)
 rw [hc] at g1
 cases g1
 have hty := (H.obj kb _ o hk g2).2.1
 rw [hty] at g5
 have g5b := g5
 have g5 := g5.plain (by decide)
 have hsz : 2 ≤ arr.size := g7
 have hc1 : w.cell? ⟨b, 1, none⟩ = some arr[1] := by rw [kV g5b]; simp
 have hB := g8 1 _ arr[1] rfl (by simp)
 obtain ⟨oj, j1, j2, j3⟩ := qsc hB
 have hobj := H.obj kj _ oj hj j1
 have hkj := zX hj
 by_cases hs : s = []
 ·subst hs
  rw [bufO_nil] at hj hobj
  obtain ⟨m1, m2⟩ := hobj
  rcases j3 m1 with ⟨_, _, _, e⟩ | ⟨b', cap, e, _⟩
  ·rw [e] at hc1
   refine (callsIn_wide.2 (qri b w hc1)).mono ?_
   rintro e w' ⟨rfl, rfl⟩
   obtain ⟨u1, u2⟩ := H.update (w' := w.drew) (o' := { oj with blk := none, ver := v + 1 }) (a' := .emp (v + 1)) j1 ⟨rfl, rfl, rfl, Nat.le_refl _, fun _ _ _ => rfl⟩ (by simp only; omega) (by simp only; omega) (by intro b' e; cases e) (fun b' r e hr => ⟨r, hr⟩) (fun _ => ⟨rfl, rfl⟩)
   exact ⟨_, _, rfl, u1, .imm .str, u2⟩
  ·rw [m2] at e; cases e
 ·rw [bufO_ne hs] at hj hobj
  obtain ⟨m1, m2, bj, arrj, m3, m4, m5, m6, m7, m8⟩ := hobj
  rcases j3 m1 with ⟨e, _⟩ | ⟨b', cap, e1, e2, e3, e4, e5⟩
  ·rw [m3] at e; cases e
  ·rw [m3] at e1
   cases e1
   rw [e2] at hc1
   rw [m2] at m4
   have m4b := m4
   have m4 := m4.plain (by decide)
   rw [jx] at m6
   refine (callsIn_wide.2 (qrj b bj cap s arrj w hs hc1 m4 e3 e4 (by omega) (fun j x hx => ?_))).mono ?_
   ·have hjl : j < s.length := (List.getElem?_eq_some_iff.1 hx).1
    rw [kV m4b]
    have ea : arrj[j]? = some arrj[j] := by simp
    have := m8 j (.int .u8 x.toNat) arrj[j] (by simp [qT, hx]) ea
    rw [ea, zO this]
   ·rintro e w' ⟨rfl, rfl⟩
    have hg : w.grownBy (w.drew.freeze ⟨bj, 0, none⟩ s.length) oj.blk := by
     rw [m3]
     exact qfF w bj s.length
    obtain ⟨u1, u2⟩ := H.update (o' := { oj with blk := none, ver := v + 1 }) (a' := .emp (v + 1)) j1 hg (by simp only; omega) (by simp only; omega) (by intro b' e; cases e)
     (fun b' r e hr => by rw [m3] at e; cases e; rw [m4] at hr; cases hr) (fun _ => ⟨rfl, rfl⟩)
    exact ⟨_, _, rfl, u1, .imm .str, u2⟩
end HY
end
section
open Go Go.Proofs AF HY
namespace LN
set_option maxRecDepth 100000
def qfN (n : Nat) : List UInt8 := if n < 10 then [UInt8.ofNat (48 + n)] else [UInt8.ofNat (48 + n / 10), UInt8.ofNat (48 + n % 10)]
theorem qn2 : ∀ n : Fin 10, (([48, 49, 50, 51, 52, 53, 54, 55, 56, 57, 97, 98, 99, 100, 101, 102, 103, 104, 105, 106, 107, 108, 109, 110, 111, 112, 113, 114, 115, 116, 117, 118, 119, 120, 121, 122] : List UInt8).drop n.val).take (n.val + 1 - n.val) = qfN n.val := by decide +kernel
def qyW : List UInt8 := (List.range 100).flatMap fun n => [UInt8.ofNat (48 + n / 10), UInt8.ofNat (48 + n % 10)]
theorem qn3 : ∀ n : Fin 100, 10 ≤ n.val → ((qyW.drop (n.val * 2)).take (n.val * 2 + 2 - n.val * 2)) = qfN n.val := by decide +kernel
theorem qyO (n : Nat) (h : List AObj) (hn : n < 100) : qs Tryz.prog 147 [.int .i64 (n : Int)] h (.str (qfN n)) h := by
 by_cases g : n < 10
 ·have k1 : ((n : Int) < 10) = True := eq_true (by omega)
  have e := qn2 ⟨n, g⟩
  simp only at e
  refine qo qrV (by simp) ?_
  simp only [lcP, lnP, Nat.reduceAdd, Nat.reduceSub, List.replicate, caP, naP, List.append_nil]
  simp (disch := omega) only [qss, k1, go_sem, qc, dvP, mdP]
  repeat' first
   | ((first | refine qe ?_ ?_ | refine qg ?_ ?_); (next => exact rvk); simp only [go_sem]; (first | exact VLe.refl _ | refine qh ?_ | refine qd ?_ | refine ql ?_ | skip))
   | with_reducible first | refine And.intro ?_ ?_ | intro _
  all_goals try exact clz
  rw [show ((n : Int) + 1).toNat = n + 1 by omega]
  exact e
 ·have k1 : ((n : Int) < 10) = False := eq_false (by omega)
  refine qo qrV (by simp) ?_
  simp only [lcP, lnP, Nat.reduceAdd, Nat.reduceSub, List.replicate, caP, naP, List.append_nil]
  simp (disch := omega) only [qss, k1, go_sem, qc, dvP, mdP]
  repeat' first
   | ((first | refine qe ?_ ?_ | refine qg ?_ ?_); (next => exact rvk); simp only [go_sem]; (first | exact VLe.refl _ | refine qh ?_ | refine qd ?_ | refine ql ?_ | skip))
   | with_reducible first | refine And.intro ?_ ?_ | intro _
  all_goals try exact clz
  rw [show ((n : Int) * 2 + 2).toNat = n * 2 + 2 by omega, show ((n : Int) * 2).toNat = n * 2 by omega]
  have e := qn3 ⟨n, hn⟩ (by show 10 ≤ n; omega)
  refine Eq.trans ?_ e
  simp only
  congr 2
theorem qAL (n : Nat) (h : List AObj) (hn : n < 100) : qs Tryz.prog 143 [.int .i64 (n : Int), .int .i64 10] h (.str (qfN n)) h := by
 have c116 := fun h => qyO n h hn
 have k1 : (0 ≤ (n : Int)) = True := eq_true (by omega)
 have k2 : ((n : Int) < 100) = True := eq_true (by omega)
 refine qo qvS (by simp) ?_
 simp only [lcP, lnP, Nat.reduceAdd, Nat.reduceSub, List.replicate, caP, naP, List.append_nil]
 simp (disch := omega) only [qu2, k1, k2, go_sem, qc, dvP, mdP]
 repeat' first
  | ((first | refine qj (c116 _) ?_ ?_); (next => exact flk); simp (disch := omega) only [k1, k2, go_sem, qc, dvP, mdP])
  | ((first | refine qn (fun _ => c116 _) ?_ ?_); (next => exact flk); simp (disch := omega) only [k1, k2, go_sem, qc, dvP, mdP])
  | ((first | refine qk (fun e => ⟨?_, c116 _⟩) ?_); (next => exact flk); simp (disch := omega) only [k1, k2, go_sem, qc, dvP, mdP])
  | ((first | refine qe ?_ ?_ | refine qg ?_ ?_); (next => exact rvk); simp only [go_sem]; (first | exact VLe.refl _ | refine qh ?_ | refine qd ?_ | refine ql ?_ | skip))
  | with_reducible first | refine And.intro ?_ ?_ | intro _
 all_goals try exact clz
theorem qAI (n : Nat) (h : List AObj) (hn : n < 100) : qs Tryz.prog 120 [.int .i64 (n : Int)] h (.str (qfN n)) h := by
 have c98 := fun h => qAL n h hn
 have c72 : ∀ h, qs Tryz.prog 137 [.int .i64 (n : Int)] h (.str (qfN n)) h := fun h => by
  refine qo qvM (by simp) ?_
  simp only [lcP, lnP, Nat.reduceAdd, Nat.reduceSub, List.replicate, caP, naP, List.append_nil]
  simp (disch := omega) only [quZ, go_sem, qc, dvP, mdP]
  repeat' first
   | ((first | refine qj (c98 _) ?_ ?_); (next => exact flk); simp (disch := omega) only [go_sem, qc, dvP, mdP])
   | ((first | refine qn (fun _ => c98 _) ?_ ?_); (next => exact flk); simp (disch := omega) only [go_sem, qc, dvP, mdP])
   | ((first | refine qk (fun e => ⟨?_, c98 _⟩) ?_); (next => exact flk); simp (disch := omega) only [go_sem, qc, dvP, mdP])
   | ((first | refine qe ?_ ?_ | refine qg ?_ ?_); (next => exact rvk); simp only [go_sem]; (first | exact VLe.refl _ | refine qh ?_ | refine qd ?_ | refine ql ?_ | skip))
   | with_reducible first | refine And.intro ?_ ?_ | intro _
  all_goals try exact clz
 refine qo qvD (by simp) ?_
 simp only [lcP, lnP, Nat.reduceAdd, Nat.reduceSub, List.replicate, caP, naP, List.append_nil]
 simp (disch := omega) only [quR, go_sem, qc, dvP, mdP]
 repeat' first
  | ((first | refine qj (c72 _) ?_ ?_); (next => exact flk); simp (disch := omega) only [go_sem, qc, dvP, mdP])
  | ((first | refine qn (fun _ => c72 _) ?_ ?_); (next => exact flk); simp (disch := omega) only [go_sem, qc, dvP, mdP])
  | ((first | refine qk (fun e => ⟨?_, c72 _⟩) ?_); (next => exact flk); simp (disch := omega) only [go_sem, qc, dvP, mdP])
  | ((first | refine qe ?_ ?_ | refine qg ?_ ?_); (next => exact rvk); simp only [go_sem]; (first | exact VLe.refl _ | refine qh ?_ | refine qd ?_ | refine ql ?_ | skip))
  | with_reducible first | refine And.intro ?_ ?_ | intro _
 all_goals try exact clz
theorem qz8 (s : List UInt8) (c : UInt8) (h : List AObj) : qs Tryz.prog 63 [.str s, .str [c]] h (.int .i64 (Go.Lib.indexByte s c)) h := by
 refine ⟨qux Tryz.func63 (by kernel_rfl) (by kernel_rfl), fun w σ xs H hv => ?_⟩
 obtain ⟨x, y, rfl, hx, hy⟩ := hv.two
 rw [ja hx, ja hy]
 refine (callsIn_wide.2 (qfO ⟨s.toArray⟩ c w)).mono ?_
 rintro e w' ⟨rfl, rfl⟩
 exact ⟨_, σ, rfl, H, .imm .int, Ext.refl _ _⟩
end LN
end
section
open Go Go.Proofs AF HY
namespace LN
set_option maxRecDepth 100000
theorem qed (c : UInt8) : ∀ (s : List UInt8), s.count c = 0 → Go.Lib.indexByte s c = -1 := by
 intro s
 induction s with
 | nil => intro _; rfl
 | cons b s ih =>
  intro h
  unfold Go.Lib.indexByte
  rw [List.count_cons] at h
  by_cases e : b = c
  ·subst e
   simp at h
  ·rw [if_neg (by simpa using e), ih (by omega)]
   rfl
theorem qAK (s : List UInt8) (c : UInt8) (h : List AObj) (hl : s.length ≤ 1000000000) : qs Tryz.prog 136 [.str s, .str [c]] h (.tup (if 0 < s.count c then [.str (s.take (cutAt c s)), .str (s.drop (cutAt c s + 1)), .bool true] else [.str s, .str [], .bool false])) h := by
 have c71 := fun h => qz8 s c h
 by_cases g : 0 < s.count c
 ·rw [if_pos g]
  have hlt := cutAt_lt c s g
  rw [index_cut c s g] at c71
  obtain ⟨k, hk⟩ : ∃ k, k = cutAt c s := ⟨_, rfl⟩
  rw [← hk] at c71 hlt ⊢
  have k1 : (0 ≤ (k : Int)) = True := eq_true (by omega)
  have k2 : ((k : Int) + 1 ≤ s.length) = True := eq_true (by omega)
  have k3 : ((k : Int) ≤ s.length) = True := eq_true (by omega)
  have k4 : (0 ≤ (k : Int) + 1) = True := eq_true (by omega)
  refine qo qrU (by simp) ?_
  simp only [lcP, lnP, Nat.reduceAdd, Nat.reduceSub, List.replicate, caP, naP, List.append_nil]
  simp (disch := omega) only [qsr, k1, k2, k3, k4, go_sem, qc, dvP, mdP]
  repeat' first
   | ((first | refine qj (c71 _) ?_ ?_); (next => exact flk); simp (disch := omega) only [k1, k2, k3, k4, go_sem, qc, dvP, mdP])
   | ((first | refine qn (fun _ => c71 _) ?_ ?_); (next => exact flk); simp (disch := omega) only [k1, k2, k3, k4, go_sem, qc, dvP, mdP])
   | ((first | refine qk (fun e => ⟨?_, c71 _⟩) ?_); (next => exact flk); simp (disch := omega) only [k1, k2, k3, k4, go_sem, qc, dvP, mdP])
   | ((first | refine qe ?_ ?_ | refine qg ?_ ?_); (next => exact rvk); simp only [go_sem]; (first | exact VLe.refl _ | refine qh ?_ | refine qd ?_ | refine ql ?_ | skip))
   | with_reducible first | refine And.intro ?_ ?_ | intro _
  all_goals try exact clz
  rw [Nat.sub_zero, show ((k : Int) + ((1 : Nat) : Int)).toNat = k + 1 by omega, List.take_of_length_le (l := s.drop (k + 1)) (by simp)]
  exact VLe.refl _
 ·rw [if_neg g]
  rw [qed c s (by omega)] at c71
  refine qo qrU (by simp) ?_
  simp only [lcP, lnP, Nat.reduceAdd, Nat.reduceSub, List.replicate, caP, naP, List.append_nil]
  simp (disch := omega) only [qsr, go_sem, qc, dvP, mdP]
  repeat' first
   | ((first | refine qj (c71 _) ?_ ?_); (next => exact flk); simp (disch := omega) only [go_sem, qc, dvP, mdP])
   | ((first | refine qn (fun _ => c71 _) ?_ ?_); (next => exact flk); simp (disch := omega) only [go_sem, qc, dvP, mdP])
   | ((first | refine qk (fun e => ⟨?_, c71 _⟩) ?_); (next => exact flk); simp (disch := omega) only [go_sem, qc, dvP, mdP])
   | ((first | refine qe ?_ ?_ | refine qg ?_ ?_); (next => exact rvk); simp only [go_sem]; (first | exact VLe.refl _ | refine qh ?_ | refine qd ?_ | refine ql ?_ | skip))
   | with_reducible first | refine And.intro ?_ ?_ | intro _
  all_goals try exact clz
theorem qAJ (s : List UInt8) (c : UInt8) (h : List AObj) (hl : s.length ≤ 1000000000) : qs Tryz.prog 118 [.str s, .str [c]] h (.tup (if 0 < s.count c then [.str (s.take (cutAt c s)), .str (s.drop (cutAt c s + 1)), .bool true] else [.str s, .str [], .bool false])) h := by
 have c73 := fun h => qAK s c h hl
 by_cases g : 0 < s.count c
 ·rw [if_pos g] at c73 ⊢
  refine qo qrR (by simp) ?_
  simp only [lcP, lnP, Nat.reduceAdd, Nat.reduceSub, List.replicate, caP, naP, List.append_nil]
  simp (disch := omega) only [qso, go_sem, qc, dvP, mdP]
  repeat' first
   | ((first | refine qj (c73 _) ?_ ?_); (next => exact flk); simp (disch := omega) only [go_sem, qc, dvP, mdP])
   | ((first | refine qn (fun _ => c73 _) ?_ ?_); (next => exact flk); simp (disch := omega) only [go_sem, qc, dvP, mdP])
   | ((first | refine qk (fun e => ⟨?_, c73 _⟩) ?_); (next => exact flk); simp (disch := omega) only [go_sem, qc, dvP, mdP])
   | ((first | refine qe ?_ ?_ | refine qg ?_ ?_); (next => exact rvk); simp only [go_sem]; (first | exact VLe.refl _ | refine qh ?_ | refine qd ?_ | refine ql ?_ | skip))
   | with_reducible first | refine And.intro ?_ ?_ | intro _
  all_goals try exact clz
 ·rw [if_neg g] at c73 ⊢
  refine qo qrR (by simp) ?_
  simp only [lcP, lnP, Nat.reduceAdd, Nat.reduceSub, List.replicate, caP, naP, List.append_nil]
  simp (disch := omega) only [qso, go_sem, qc, dvP, mdP]
  repeat' first
   | ((first | refine qj (c73 _) ?_ ?_); (next => exact flk); simp (disch := omega) only [go_sem, qc, dvP, mdP])
   | ((first | refine qn (fun _ => c73 _) ?_ ?_); (next => exact flk); simp (disch := omega) only [go_sem, qc, dvP, mdP])
   | ((first | refine qk (fun e => ⟨?_, c73 _⟩) ?_); (next => exact flk); simp (disch := omega) only [go_sem, qc, dvP, mdP])
   | ((first | refine qe ?_ ?_ | refine qg ?_ ?_); (next => exact rvk); simp only [go_sem]; (first | exact VLe.refl _ | refine qh ?_ | refine qd ?_ | refine ql ?_ | skip))
   | with_reducible first | refine And.intro ?_ ?_ | intro _
  all_goals try exact clz
def ld (c : UInt8) : Bool := decide (kind c = 1) || decide (kind c = 3)
theorem t66 (s : List UInt8) (h : List AObj) (hs : s.length ≤ 1000000000) : qs Tryz.prog 117 [.str s] h (.int .i64 ((s.countP ld : Nat) : Int)) h := by
 refine qo qvB (by simp) ?_
 simp only [lcP, lnP, Nat.reduceAdd, Nat.reduceSub, List.replicate, caP, naP, List.append_nil]
 simp (disch := omega) only [quP, go_sem, qc, dvP, mdP]
 repeat' first
  | ((first | refine qe ?_ ?_ | refine qg ?_ ?_); (next => exact rvk); simp only [go_sem]; (first | exact VLe.refl _ | refine qh ?_ | refine qd ?_ | refine ql ?_ | skip))
  | with_reducible first | refine And.intro ?_ ?_ | intro _
 all_goals try exact clz
 refine qJ (T := fun i : Nat => qv 25 [(0, .str s), (3, .int .i64 (((s.take i).countP ld : Nat) : Int)), (7, .int .i64 s.length), (8, .int .i64 i)]) (H := fun _ => h) (inv := fun i => i ≤ s.length) (m := fun i => s.length - i) 0 (by omega) (Wk.temps ?_) ?_
 ·(simp only [qv, List.foldl, List.replicate, go_sem, qr, qp, qm, qq]; try (repeat' first | (with_reducible refine And.intro ?_ ?_) | (refine qh ?_; omega) | (refine qd ?_; rfl) | exact VLe.refl _))
 ·rintro i i1 K hK
  by_cases hi : i < s.length
  ·obtain ⟨c, hc⟩ : ∃ c, c = s.getD i 0 := ⟨_, rfl⟩
   have e1 : (s[i]?).getD 0 = c := by rw [hc, List.getD_eq_getElem?_getD]
   have e2 : s.take (i + 1) = s.take i ++ [c] := by rw [List.take_add_one, hc, List.getD_eq_getElem?_getD, List.getElem?_eq_getElem hi]; rfl
   have hb := c.toNat_lt
   have c92 := fun h => qzU (c.toNat : Int) h (by omega) (by omega)
   have hn : (s.take i).countP ld ≤ s.length := Nat.le_trans List.countP_le_length (by simp; omega)
   obtain ⟨n, hN⟩ : ∃ n, n = (s.take i).countP ld := ⟨_, rfl⟩
   rw [← hN] at hn ⊢
   obtain ⟨k, hk⟩ : ∃ k, k = qg3 (c.toNat : Int) := ⟨_, rfl⟩
   have hk' : k = kind c := hk
   rw [← hk] at c92
   have e3 : (s.take (i + 1)).countP ld = n + if ld c = true then 1 else 0 := by
    rw [e2, List.countP_append, ← hN]
    simp [List.countP_cons]
   by_cases g1 : k = 1
   ·have k1 : (k = 1) = True := eq_true g1
    have g : ld c = true := by unfold ld; rw [← hk', g1]; rfl
    rw [if_pos g] at e3
    simp (disch := omega) only [qv, List.foldl, List.replicate, e1, k1, go_sem, qc, dvP, mdP]
    repeat' first
     | ((first | refine qj (c92 _) ?_ ?_); (next => exact flk); simp (disch := omega) only [e1, k1, go_sem, qc, dvP, mdP])
     | ((first | refine qn (fun _ => c92 _) ?_ ?_); (next => exact flk); simp (disch := omega) only [e1, k1, go_sem, qc, dvP, mdP])
     | ((first | refine qk (fun e => ⟨?_, c92 _⟩) ?_); (next => exact flk); simp (disch := omega) only [e1, k1, go_sem, qc, dvP, mdP])
     | ((first | refine qe ?_ ?_ | refine qg ?_ ?_); (next => exact rvk); simp only [go_sem]; (first | exact VLe.refl _ | refine qh ?_ | refine qd ?_ | refine ql ?_ | skip))
     | with_reducible first | refine And.intro ?_ ?_ | intro _
    all_goals try exact clz
    refine hK _ _ (i + 1) (by omega) (by omega) (Wk.temps ?_)
    rw [e3]
    (simp only [qv, List.foldl, List.replicate, go_sem, qr, qp, qm, qq]; try (repeat' first | (with_reducible refine And.intro ?_ ?_) | (refine qh ?_; omega) | (refine qd ?_; rfl) | exact VLe.refl _))
   ·have k1 : (k = 1) = False := eq_false g1
    by_cases g2 : k = 3
    ·have k2 : (k = 3) = True := eq_true g2
     have g : ld c = true := by unfold ld; rw [← hk', g2]; rfl
     rw [if_pos g] at e3
     simp (disch := omega) only [qv, List.foldl, List.replicate, e1, k1, k2, go_sem, qc, dvP, mdP]
     repeat' first
      | ((first | refine qj (c92 _) ?_ ?_); (next => exact flk); simp (disch := omega) only [e1, k1, k2, go_sem, qc, dvP, mdP])
      | ((first | refine qn (fun _ => c92 _) ?_ ?_); (next => exact flk); simp (disch := omega) only [e1, k1, k2, go_sem, qc, dvP, mdP])
      | ((first | refine qk (fun e => ⟨?_, c92 _⟩) ?_); (next => exact flk); simp (disch := omega) only [e1, k1, k2, go_sem, qc, dvP, mdP])
      | ((first | refine qe ?_ ?_ | refine qg ?_ ?_); (next => exact rvk); simp only [go_sem]; (first | exact VLe.refl _ | refine qh ?_ | refine qd ?_ | refine ql ?_ | skip))
      | with_reducible first | refine And.intro ?_ ?_ | intro _
     all_goals try exact clz
     refine hK _ _ (i + 1) (by omega) (by omega) (Wk.temps ?_)
     rw [e3]
     (simp only [qv, List.foldl, List.replicate, go_sem, qr, qp, qm, qq]; try (repeat' first | (with_reducible refine And.intro ?_ ?_) | (refine qh ?_; omega) | (refine qd ?_; rfl) | exact VLe.refl _))
    ·have k2 : (k = 3) = False := eq_false g2
     have g : ¬ ld c = true := by unfold ld; rw [← hk', decide_eq_false g1, decide_eq_false g2]; simp
     rw [if_neg g] at e3
     simp (disch := omega) only [qv, List.foldl, List.replicate, e1, k1, k2, go_sem, qc, dvP, mdP]
     repeat' first
      | ((first | refine qj (c92 _) ?_ ?_); (next => exact flk); simp (disch := omega) only [e1, k1, k2, go_sem, qc, dvP, mdP])
      | ((first | refine qn (fun _ => c92 _) ?_ ?_); (next => exact flk); simp (disch := omega) only [e1, k1, k2, go_sem, qc, dvP, mdP])
      | ((first | refine qk (fun e => ⟨?_, c92 _⟩) ?_); (next => exact flk); simp (disch := omega) only [e1, k1, k2, go_sem, qc, dvP, mdP])
      | ((first | refine qe ?_ ?_ | refine qg ?_ ?_); (next => exact rvk); simp only [go_sem]; (first | exact VLe.refl _ | refine qh ?_ | refine qd ?_ | refine ql ?_ | skip))
      | with_reducible first | refine And.intro ?_ ?_ | intro _
     all_goals try exact clz
     refine hK _ _ (i + 1) (by omega) (by omega) (Wk.temps ?_)
     rw [e3, Nat.add_zero]
     (simp only [qv, List.foldl, List.replicate, go_sem, qr, qp, qm, qq]; try (repeat' first | (with_reducible refine And.intro ?_ ?_) | (refine qh ?_; omega) | (refine qd ?_; rfl) | exact VLe.refl _))
  ·have e : i = s.length := by omega
   subst e
   rw [List.take_length]
   simp (disch := omega) only [qv, List.foldl, List.replicate, go_sem, qc, dvP, mdP]
   repeat' first
    | ((first | refine qe ?_ ?_ | refine qg ?_ ?_); (next => exact rvk); simp only [go_sem]; (first | exact VLe.refl _ | refine qh ?_ | refine qd ?_ | refine ql ?_ | skip))
    | with_reducible first | refine And.intro ?_ ?_ | intro _
   all_goals try exact clz
end LN
end
section
open Go Go.Proofs AF HY
namespace LN
set_option maxRecDepth 100000
theorem qia {s : List UInt8} {i : Nat} (hi : i < s.length) : (s.drop i).take (i + 1 - i) = [s.getD i 0] := by
 rw [show i + 1 - i = 1 by omega, List.drop_eq_getElem_cons hi, List.getD_eq_getElem?_getD, List.getElem?_eq_getElem hi]
 rfl
theorem qtX {s : List UInt8} {p : UInt8 → Bool} {i : Nat} (hi : i < s.length) (h1 : i ≤ (s.takeWhile p).length) : (p (s.getD i 0) = true ↔ i + 1 ≤ (s.takeWhile p).length) := by
 induction s generalizing i with
 | nil => simp at hi
 | cons c s ih =>
  rw [List.takeWhile_cons] at h1 ⊢
  cases i with
  | zero =>
   rw [List.getD_cons_zero]
   cases hp : p c <;> simp
  | succ i =>
   rw [List.getD_cons_succ]
   cases hp : p c with
   | false => rw [hp] at h1; simp at h1
   | true =>
    rw [hp] at h1
    simp at h1 hi ⊢
    exact ih hi h1
theorem qot {s : List UInt8} {p : UInt8 → Bool} : s.take (s.takeWhile p).length = s.takeWhile p := by
 induction s with
 | nil => rfl
 | cons c s ih =>
  rw [List.takeWhile_cons]
  cases hp : p c with
  | false => simp
  | true => simp [ih]
theorem qsa {s : List UInt8} {p : UInt8 → Bool} : (s.takeWhile p).length ≤ s.length := (List.takeWhile_sublist p).length_le
set_option maxHeartbeats 1000000 in
theorem t68 (s : List UInt8) (h : List AObj) (hs : s.length ≤ 1000000000) : qs Tryz.prog 119 [.str s] h (.str (s.takeWhile ld)) h := by
 have hl := qsa (s := s) (p := ld)
 refine qo qvC (by simp) ?_
 simp only [lcP, lnP, Nat.reduceAdd, Nat.reduceSub, List.replicate, caP, naP, List.append_nil]
 simp (disch := omega) only [quQ, go_sem, qc, dvP, mdP]
 repeat' first
  | ((first | refine qe ?_ ?_ | refine qg ?_ ?_); (next => exact rvk); simp only [go_sem]; (first | exact VLe.refl _ | refine qh ?_ | refine qd ?_ | refine ql ?_ | skip))
  | with_reducible first | refine And.intro ?_ ?_ | intro _
 all_goals try exact clz
 refine qJ (T := fun i : Nat => qv 22 [(0, .str s), (3, .int .i64 i)]) (H := fun _ => h) (inv := fun i => i ≤ (s.takeWhile ld).length) (m := fun i => s.length - i) 0 (by omega) (Wk.temps ?_) ?_
 ·(simp only [qv, List.foldl, List.replicate, go_sem, qr, qp, qm, qq]; try (repeat' first | (with_reducible refine And.intro ?_ ?_) | (refine qh ?_; omega) | (refine qd ?_; rfl) | exact VLe.refl _))
 ·rintro i i1 K hK
  by_cases hi : i < s.length
  ·have k0 : ((i : Int) < s.length) = True := eq_true (by omega)
   have k1 : (0 ≤ (i : Int)) = True := eq_true (by omega)
   have k2 : ((i : Int) ≤ (i : Int) + 1) = True := eq_true (by omega)
   have k3 : ((i : Int) + 1 ≤ s.length) = True := eq_true (by omega)
   have hst := qtX (p := ld) hi i1
   have c66 := fun h => t66 [s.getD i 0] h (by simp)
   rw [← qia hi, show i + 1 - i = ((i : Int) + 1).toNat - i by omega] at c66
   have hco : (((s.drop i).take (((i : Int) + 1).toNat - i)).countP ld) = if ld (s.getD i 0) = true then 1 else 0 := by
    rw [show ((i : Int) + 1).toNat - i = i + 1 - i by omega, qia hi]
    simp [List.countP_cons]
   cases hp : ld (s.getD i 0) with
   | true =>
    rw [hco, hp, if_pos rfl] at c66
    rw [hp] at hst
    simp (disch := omega) only [qv, List.foldl, List.replicate, k0, k1, k2, k3, go_sem, qc, dvP, mdP]
    repeat' first
     | ((first | refine qj (c66 _) ?_ ?_); (next => exact flk); simp (disch := omega) only [k0, k1, k2, k3, go_sem, qc, dvP, mdP])
     | ((first | refine qn (fun _ => c66 _) ?_ ?_); (next => exact flk); simp (disch := omega) only [k0, k1, k2, k3, go_sem, qc, dvP, mdP])
     | ((first | refine qk (fun e => ⟨?_, c66 _⟩) ?_); (next => exact flk); simp (disch := omega) only [k0, k1, k2, k3, go_sem, qc, dvP, mdP])
     | ((first | refine qe ?_ ?_ | refine qg ?_ ?_); (next => exact rvk); simp only [go_sem]; (first | exact VLe.refl _ | refine qh ?_ | refine qd ?_ | refine ql ?_ | skip))
     | with_reducible first | refine And.intro ?_ ?_ | intro _
    all_goals try exact clz
    refine hK _ _ (i + 1) (hst.1 rfl) (by omega) (Wk.temps ?_)
    (simp only [qv, List.foldl, List.replicate, go_sem, qr, qp, qm, qq]; try (repeat' first | (with_reducible refine And.intro ?_ ?_) | (refine qh ?_; omega) | (refine qd ?_; rfl) | exact VLe.refl _))
   | false =>
    rw [hco, hp, if_neg (by simp)] at c66
    rw [hp] at hst
    have e : i = (s.takeWhile ld).length := by
     have : ¬ i + 1 ≤ (s.takeWhile ld).length := fun hc => by cases hst.2 hc
     omega
    have k4 : ((i : Int) ≤ s.length) = True := eq_true (by omega)
    simp (disch := omega) only [qv, List.foldl, List.replicate, k0, k1, k2, k3, k4, go_sem, qc, dvP, mdP]
    repeat' first
     | ((first | refine qj (c66 _) ?_ ?_); (next => exact flk); simp (disch := omega) only [k0, k1, k2, k3, k4, go_sem, qc, dvP, mdP])
     | ((first | refine qn (fun _ => c66 _) ?_ ?_); (next => exact flk); simp (disch := omega) only [k0, k1, k2, k3, k4, go_sem, qc, dvP, mdP])
     | ((first | refine qk (fun e => ⟨?_, c66 _⟩) ?_); (next => exact flk); simp (disch := omega) only [k0, k1, k2, k3, k4, go_sem, qc, dvP, mdP])
     | ((first | refine qe ?_ ?_ | refine qg ?_ ?_); (next => exact rvk); simp only [go_sem]; (first | exact VLe.refl _ | refine qh ?_ | refine qd ?_ | refine ql ?_ | skip))
     | with_reducible first | refine And.intro ?_ ?_ | intro _
    all_goals try exact clz
    all_goals (rw [Nat.sub_zero, e, qot])
  ·have e : i = s.length := by omega
   have e2 : (s.takeWhile ld).length = i := by omega
   have k0 : ((i : Int) < s.length) = False := eq_false (by omega)
   have k4 : ((i : Int) ≤ s.length) = True := eq_true (by omega)
   have k1 : (0 ≤ (i : Int)) = True := eq_true (by omega)
   simp (disch := omega) only [qv, List.foldl, List.replicate, k0, k1, k4, go_sem, qc, dvP, mdP]
   repeat' first
    | (refine qP ((.str [])) ?_; simp (disch := omega) only [k0, k1, k4, go_sem, qc, dvP, mdP])
    | (refine qP ((.int .i64 0)) ?_; simp (disch := omega) only [k0, k1, k4, go_sem, qc, dvP, mdP])
    | ((first | refine qe ?_ ?_ | refine qg ?_ ?_); (next => exact rvk); simp only [go_sem]; (first | exact VLe.refl _ | refine qh ?_ | refine qd ?_ | refine ql ?_ | skip))
    | with_reducible first | refine And.intro ?_ ?_ | intro _
   all_goals try exact clz
   all_goals (rw [Nat.sub_zero, ← e2, qot])
def qh2 (s : List UInt8) : Bool := decide (s ≠ []) && (decide (s.length ≤ 16) && decide (s.countP ld = s.length))
theorem t44 (s : List UInt8) (h : List AObj) (hs : s.length ≤ 1000000000) : qs Tryz.prog 84 [.str s] h (.bool (qh2 s)) h := by
 have c66 := fun h => t66 s h hs
 unfold qh2
 by_cases g1 : s = []
 ·have k1 : (s = []) = True := eq_true g1
  rw [decide_eq_false (show ¬ s ≠ [] from fun hc => hc g1)]
  refine qo qp7 (by simp) ?_
  simp only [lcP, lnP, Nat.reduceAdd, Nat.reduceSub, List.replicate, caP, naP, List.append_nil]
  simp (disch := omega) only [qu8, k1, go_sem, qc, dvP, mdP]
  repeat' first
   | (refine qP ((.int .i64 0)) ?_; simp (disch := omega) only [k1, go_sem, qc, dvP, mdP])
   | ((first | refine qe ?_ ?_ | refine qg ?_ ?_); (next => exact rvk); simp only [go_sem]; (first | exact VLe.refl _ | refine qh ?_ | refine qd ?_ | refine ql ?_ | skip))
   | with_reducible first | refine And.intro ?_ ?_ | intro _
  all_goals try exact clz
 ·have k1 : (s = []) = False := eq_false g1
  rw [decide_eq_true (show s ≠ [] from g1)]
  by_cases g2 : s.length ≤ 16
  ·have k2 : ((s.length : Int) ≤ 16) = True := eq_true (by omega)
   rw [decide_eq_true g2]
   by_cases g3 : s.countP ld = s.length
   ·have k3 : (((s.countP ld : Nat) : Int) = s.length) = True := eq_true (by omega)
    rw [decide_eq_true g3]
    refine qo qp7 (by simp) ?_
    simp only [lcP, lnP, Nat.reduceAdd, Nat.reduceSub, List.replicate, caP, naP, List.append_nil]
    simp (disch := omega) only [qu8, k1, k2, k3, go_sem, qc, dvP, mdP]
    repeat' first
     | ((first | refine qj (c66 _) ?_ ?_); (next => exact flk); simp (disch := omega) only [k1, k2, k3, go_sem, qc, dvP, mdP])
     | ((first | refine qn (fun _ => c66 _) ?_ ?_); (next => exact flk); simp (disch := omega) only [k1, k2, k3, go_sem, qc, dvP, mdP])
     | ((first | refine qk (fun e => ⟨?_, c66 _⟩) ?_); (next => exact flk); simp (disch := omega) only [k1, k2, k3, go_sem, qc, dvP, mdP])
     | ((first | refine qe ?_ ?_ | refine qg ?_ ?_); (next => exact rvk); simp only [go_sem]; (first | exact VLe.refl _ | refine qh ?_ | refine qd ?_ | refine ql ?_ | skip))
     | with_reducible first | refine And.intro ?_ ?_ | intro _
    all_goals try exact clz
   ·have k3 : (((s.countP ld : Nat) : Int) = s.length) = False := eq_false (by omega)
    rw [decide_eq_false g3]
    refine qo qp7 (by simp) ?_
    simp only [lcP, lnP, Nat.reduceAdd, Nat.reduceSub, List.replicate, caP, naP, List.append_nil]
    simp (disch := omega) only [qu8, k1, k2, k3, go_sem, qc, dvP, mdP]
    repeat' first
     | ((first | refine qj (c66 _) ?_ ?_); (next => exact flk); simp (disch := omega) only [k1, k2, k3, go_sem, qc, dvP, mdP])
     | ((first | refine qn (fun _ => c66 _) ?_ ?_); (next => exact flk); simp (disch := omega) only [k1, k2, k3, go_sem, qc, dvP, mdP])
     | ((first | refine qk (fun e => ⟨?_, c66 _⟩) ?_); (next => exact flk); simp (disch := omega) only [k1, k2, k3, go_sem, qc, dvP, mdP])
     | ((first | refine qe ?_ ?_ | refine qg ?_ ?_); (next => exact rvk); simp only [go_sem]; (first | exact VLe.refl _ | refine qh ?_ | refine qd ?_ | refine ql ?_ | skip))
     | with_reducible first | refine And.intro ?_ ?_ | intro _
    all_goals try exact clz
  ·have k2 : ((s.length : Int) ≤ 16) = False := eq_false (by omega)
   rw [decide_eq_false g2]
   refine qo qp7 (by simp) ?_
   simp only [lcP, lnP, Nat.reduceAdd, Nat.reduceSub, List.replicate, caP, naP, List.append_nil]
   simp (disch := omega) only [qu8, k1, k2, go_sem, qc, dvP, mdP]
   repeat' first
    | (refine qP ((.int .i64 0)) ?_; simp (disch := omega) only [k1, k2, go_sem, qc, dvP, mdP])
    | ((first | refine qe ?_ ?_ | refine qg ?_ ?_); (next => exact rvk); simp only [go_sem]; (first | exact VLe.refl _ | refine qh ?_ | refine qd ?_ | refine ql ?_ | skip))
    | with_reducible first | refine And.intro ?_ ?_ | intro _
   all_goals try exact clz
end LN
end
section
open Go Go.Proofs AF HY
namespace HY
set_option maxRecDepth 100000
theorem v51 (kb vb kj v : Nat) (A : AV) (s : List UInt8) (h : List AObj) (hk : qL kb h = some (.mem vb 122 [A, .osl kj v 1 0 s.length])) (hj : qL kj h = some (bufO v s)) :
  qs Tryz.prog 121 [.op kb vb 0] h (.int .i64 s.length) h := by
 have hc : cellsOf h kb vb = some [A, .osl kj v 1 0 s.length] := jK hk
 have hl : zz h kj v = true := by
  unfold zz
  rw [hj]
  by_cases e : s = []
  ·rw [e, bufO_nil]; simp
  ·rw [bufO_ne e]; simp
 refine qo qvE (by simp) ?_
 simp only [lcP, lnP, Nat.reduceAdd, Nat.reduceSub, List.replicate, caP, naP, List.append_nil]
 simp (disch := omega) only [quS, hc, hl, go_sem, qc, dvP, mdP]
 repeat' first
  | ((first | refine qe ?_ ?_ | refine qg ?_ ?_); (next => exact rvk); simp only [go_sem]; (first | exact VLe.refl _ | refine qh ?_ | refine qd ?_ | refine ql ?_ | skip))
  | with_reducible first | refine And.intro ?_ ?_ | intro _
 all_goals try exact clz
theorem Wk.nilcell {t : List AV} {h : List AObj} {k j v ver : Nat} {ty : TypeId} {cs cs' : List AV} (hk : qL k h = some (.mem ver ty cs)) (hj : qL j h = some (.emp v)) (hl : cs'.length = cs.length)
  (hc : ∀ (i : Nat) c c', cs[i]? = some c → cs'[i]? = some c' → c' = c ∨ (c = .nl ∧ ∃ sz, c' = .osl j v sz 0 0)) : Wk t h t (qO k h (.mem ver ty cs')) := by
 intro N w σ a H
 refine ⟨σ, ⟨⟨by rw [H.hr.len, zl], H.hr.inj, H.hr.lt, fun i x o hx ho => ?_⟩, H.sz, H.tm, H.df⟩, Ext.refl w σ⟩
 have hkl := zX hk
 by_cases e : i = k
 ·subst e
  have := jQ (o := .mem ver ty cs') hkl
  unfold qL at this
  rw [this] at hx
  cases hx
  obtain ⟨m1, m2, b, arr, m3, m4, m5, m6, m7, m8⟩ := H.hr.obj i _ o hk ho
  refine ⟨m1, m2, b, arr, m3, m4, m5, by omega, fun n y hn hy => m7 n y (by omega) hy, fun n c' y hc' hy => ?_⟩
  have hn : n < cs.length := by have := (List.getElem?_eq_some_iff.1 hc').1; omega
  have e1 : cs[n]? = some cs[n] := List.getElem?_eq_getElem hn
  rcases hc n _ _ e1 hc' with rfl | ⟨e2, sz, rfl⟩
  ·exact m8 n _ y e1 hy
  ·have := m8 n _ y e1 hy
   rw [e2] at this
   have e3 := qcN this
   subst e3
   have hjl : j < σ.length := by rw [H.hr.len]; exact zX hj
   have ej : σ[j]? = some σ[j] := List.getElem?_eq_getElem hjl
   obtain ⟨q1, q2⟩ := H.hr.obj j _ _ hj ej
   exact .osl _ ej ⟨_, _, _, rfl⟩ (by omega) (fun _ => .inl ⟨q2, rfl, rfl, rfl⟩)
 ·unfold qO at hx
  rw [List.getElem?_set_ne (fun e' => e e'.symm)] at hx
  exact H.hr.obj i x o hx ho
end HY
end
section
open Go Go.Proofs AF HY
namespace LN
set_option maxRecDepth 100000
def qkw (m : List (List UInt8 × Int)) (it : Int → List UInt8) : Nat → List UInt8 → Option (List UInt8)
 | 0, _ => none
 | n + 1, s => if 0 < s.count 64 then
   match m.lookup ((s.drop (cutAt 64 s + 1)).takeWhile ld) with
   | none => none
   | some k => (qkw m it n ((s.drop (cutAt 64 s + 1)).drop ((s.drop (cutAt 64 s + 1)).takeWhile ld).length)).map fun t => s.take (cutAt 64 s) ++ (it k ++ t)
  else some s
def qdE (m : List (List UInt8 × Int)) (it : Int → List UInt8) (s : List UInt8) : List UInt8 × Int :=
 if 65536 < s.length then ([], 4) else match qkw m it (s.length + 1) s with
  | none => ([], 26)
  | some t => if 65536 < t.length then ([], 4) else (t, 0)
theorem qAR {t : List AV} {h : List AObj} : Wk t (h ++ [.mem 1 122 [.nilp, .nl], .emp 0]) t (h ++ [.mem 1 122 [.nilp, .osl (h.length + 1) 0 1 0 0], .emp 0]) := by
 have := Wk.nilcell (t := t) (h := h ++ [.mem 1 122 [.nilp, .nl], .emp 0]) (k := h.length) (j := h.length + 1) (v := 0) (ver := 1) (ty := 122) (cs := [.nilp, .nl]) (cs' := [.nilp, .osl (h.length + 1) 0 1 0 0]) (by simp only [go_sem]) (by simp only [go_sem]) rfl (fun i c c' hc hc' => by
  match i, hc, hc' with
  | 0, hc, hc' => left; simp at hc hc'; rw [← hc, ← hc']
  | 1, hc, hc' => right; simp at hc hc'; exact ⟨hc.symm, 1, hc'.symm⟩)
 simpa [qO] using this
set_option maxHeartbeats 4000000 in
theorem t46 (m : List (List UInt8 × Int)) (it : Int → List UInt8) (s : List UInt8) (kv vv : Nat) (h : List AObj) (hm : jo h kv vv = some (qgD m))
  (hit : ∀ n, (∃ k, m.lookup k = some n) → (it n).length ≤ 20 ∧ ∀ l, qs Tryz.prog 120 [.int .i64 n] (h ++ l) (.str (it n)) (h ++ l)) (hs : s.length ≤ 1000000000) :
  qs Tryz.prog 86 [.str s, .mp kv vv] h (.tup [.str (qdE m it s).1, .int .i64 (qdE m it s).2]) h := by
 have hml : ∀ l, jo (h ++ l) kv vv = some (qgD m) := fun l => by
  have hkv : kv < h.length := by
   unfold jo at hm
   split at hm
   ·rename_i e; exact zX e
   ·cases hm
  unfold jo at hm ⊢
  rw [zV hkv]
  exact hm
 by_cases g0 : 65536 < s.length
 ·have k0 : (65536 < (s.length : Int)) = True := eq_true (by omega)
  have hV : qdE m it s = ([], 4) := by unfold qdE; rw [if_pos g0]
  rw [hV]
  refine qo qv9 (by simp) ?_
  simp only [lcP, lnP, Nat.reduceAdd, Nat.reduceSub, List.replicate, caP, naP, List.append_nil]
  simp (disch := omega) only [qxQ, k0, go_sem, qc, dvP, mdP]
  repeat' first
   | ((first | refine qe ?_ ?_ | refine qg ?_ ?_); (next => exact rvk); simp only [go_sem]; (first | exact VLe.refl _ | refine qh ?_ | refine qd ?_ | refine ql ?_ | skip))
   | with_reducible first | refine And.intro ?_ ?_ | intro _
  all_goals try exact clz
 have k0 : (65536 < (s.length : Int)) = False := eq_false (by omega)
 refine qo qv9 (by simp) ?_
 simp only [lcP, lnP, Nat.reduceAdd, Nat.reduceSub, List.replicate, caP, naP, List.append_nil]
 simp (disch := omega) only [qxQ, k0, go_sem, qc, dvP, mdP]
 repeat' first
  | ((first | refine qe ?_ ?_ | refine qg ?_ ?_); (next => exact rvk); simp only [go_sem]; (first | exact VLe.refl _ | refine qh ?_ | refine qd ?_ | refine ql ?_ | skip))
  | with_reducible first | refine And.intro ?_ ?_ | intro _
 all_goals try exact clz
 refine qJ (T := fun i : Nat × List UInt8 × List UInt8 × AV × Nat => qv 46 [(0, .str i.2.1), (1, .mp kv vv), (6, .op h.length 1 0)])
  (H := fun i => h ++ [.mem 1 122 [i.2.2.2.1, .osl (h.length + 1) i.2.2.2.2 1 0 i.2.2.1.length], bufO i.2.2.2.2 i.2.2.1])
  (inv := fun i => (i.2.2.2.1 = .nilp ∨ i.2.2.2.1 = .op h.length 1 0) ∧ i.2.1.length < i.1 ∧ i.2.2.1.length + 21 * i.2.1.length ≤ 21 * s.length ∧ qkw m it (s.length + 1) s = (qkw m it i.1 i.2.1).map (i.2.2.1 ++ ·)) (m := fun i => i.1) (s.length + 1, s, [], .nilp, 0)
  ⟨.inl rfl, by simp, by simp, by cases qkw m it (s.length + 1) s <;> simp⟩ (Wk.trans qAR (Wk.temps ?_)) ?_
 ·(simp only [qv, List.foldl, List.replicate, go_sem, qr, qp, qm, qq]; try (repeat' first | (with_reducible refine And.intro ?_ ?_) | (refine qh ?_; omega) | (refine qd ?_; rfl) | exact VLe.refl _))
 rintro ⟨n, r, S, A, v⟩ ⟨i1, i2, i3, i5⟩ K hK
 simp only at i1 i2 i3 i5 hK
 obtain ⟨n', rfl⟩ : ∃ n', n = n' + 1 := ⟨n - 1, by omega⟩
 have c49 := fun h => qAJ r 64 h (by omega)
 by_cases g : 0 < r.count 64
 ·rw [if_pos g] at c49
  have hlt := cutAt_lt 64 r g
  have hstep : qkw m it (n' + 1) r = match m.lookup ((r.drop (cutAt 64 r + 1)).takeWhile ld) with
   | none => none
   | some k => (qkw m it n' ((r.drop (cutAt 64 r + 1)).drop ((r.drop (cutAt 64 r + 1)).takeWhile ld).length)).map fun t => r.take (cutAt 64 r) ++ (it k ++ t) := by
   conv => lhs; unfold qkw
   rw [if_pos g]
  obtain ⟨B, hB⟩ : ∃ B, B = r.take (cutAt 64 r) := ⟨_, rfl⟩
  have hBl : B.length = cutAt 64 r := by rw [hB]; simp; omega
  obtain ⟨r1, hr1⟩ : ∃ r1, r1 = r.drop (cutAt 64 r + 1) := ⟨_, rfl⟩
  have hr1l : r1.length + B.length + 1 = r.length := by rw [hr1, hBl]; simp; omega
  rw [← hB, ← hr1] at c49 hstep
  obtain ⟨nm, hnm⟩ : ∃ nm, nm = r1.takeWhile ld := ⟨_, rfl⟩
  have hnl : nm.length ≤ r1.length := by rw [hnm]; exact qsa
  have c68 := fun h => t68 r1 h (by omega)
  rw [← hnm] at c68 hstep
  cases hk : m.lookup nm with
  | none =>
   rw [hk] at hstep
   have hV : qdE m it s = ([], 26) := by unfold qdE; rw [if_neg g0, i5, hstep]; rfl
   rw [hV]
   have e1 := qa4 (z := .int .i64 0) hk
   simp (disch := omega) only [qv, List.foldl, List.replicate, go_sem, qc, dvP, mdP]
   repeat' first
    | ((first | refine qj (c49 _) ?_ ?_); (next => exact flk); simp (disch := omega) only [go_sem, qc, dvP, mdP])
    | ((first | refine qn (fun _ => c49 _) ?_ ?_); (next => exact flk); simp (disch := omega) only [go_sem, qc, dvP, mdP])
    | ((first | refine qk (fun e => ⟨?_, c49 _⟩) ?_); (next => exact flk); simp (disch := omega) only [go_sem, qc, dvP, mdP])
    | ((first | refine qe ?_ ?_ | refine qg ?_ ?_); (next => exact rvk); simp only [go_sem]; (first | exact VLe.refl _ | refine qh ?_ | refine qd ?_ | refine ql ?_ | skip))
    | with_reducible first | refine And.intro ?_ ?_ | intro _
   all_goals try exact clz
   refine qX (v50 h.length 1 (h.length + 1) v A S B _ (by omega) (by simp only [go_sem]) i1 (by simp only [go_sem]) (by omega)) ⟨rfl, rfl, trivial⟩ ?_
   simp (disch := omega) only [hml, e1, qK, Option.getD_some, Option.isSome_some, go_sem, qc, dvP, mdP]
   repeat' first
    | ((first | refine qj (c68 _) ?_ ?_); (next => exact flk); simp (disch := omega) only [hml, e1, qK, Option.getD_some, Option.isSome_some, go_sem, qc, dvP, mdP])
    | ((first | refine qn (fun _ => c68 _) ?_ ?_); (next => exact flk); simp (disch := omega) only [hml, e1, qK, Option.getD_some, Option.isSome_some, go_sem, qc, dvP, mdP])
    | ((first | refine qk (fun e => ⟨?_, c68 _⟩) ?_); (next => exact flk); simp (disch := omega) only [hml, e1, qK, Option.getD_some, Option.isSome_some, go_sem, qc, dvP, mdP])
    | ((first | refine qe ?_ ?_ | refine qg ?_ ?_); (next => exact rvk); simp only [go_sem]; (first | exact VLe.refl _ | refine qh ?_ | refine qd ?_ | refine ql ?_ | skip))
    | with_reducible first | refine And.intro ?_ ?_ | intro _
   all_goals try exact clz
  | some k =>
   rw [hk] at hstep
   simp only at hstep
   obtain ⟨q1, q2⟩ := hit k ⟨_, hk⟩
   have e1 := qa5 (z := .int .i64 0) hk
   have k4 : (0 ≤ (nm.length : Int)) = True := eq_true (by omega)
   have k5 : ((nm.length : Int) ≤ r1.length) = True := eq_true (by omega)
   have eD : List.take (r1.length - nm.length) (List.drop nm.length r1) = r1.drop nm.length := List.take_of_length_le (by simp)
   simp (disch := omega) only [qv, List.foldl, List.replicate, go_sem, qc, dvP, mdP]
   repeat' first
    | ((first | refine qj (c49 _) ?_ ?_); (next => exact flk); simp (disch := omega) only [go_sem, qc, dvP, mdP])
    | ((first | refine qn (fun _ => c49 _) ?_ ?_); (next => exact flk); simp (disch := omega) only [go_sem, qc, dvP, mdP])
    | ((first | refine qk (fun e => ⟨?_, c49 _⟩) ?_); (next => exact flk); simp (disch := omega) only [go_sem, qc, dvP, mdP])
    | ((first | refine qe ?_ ?_ | refine qg ?_ ?_); (next => exact rvk); simp only [go_sem]; (first | exact VLe.refl _ | refine qh ?_ | refine qd ?_ | refine ql ?_ | skip))
    | with_reducible first | refine And.intro ?_ ?_ | intro _
   all_goals try exact clz
   refine qX (v50 h.length 1 (h.length + 1) v A S B _ (by omega) (by simp only [go_sem]) i1 (by simp only [go_sem]) (by omega)) ⟨rfl, rfl, trivial⟩ ?_
   simp (disch := omega) only [hml, e1, qK, Option.getD_some, Option.isSome_some, go_sem, qc, dvP, mdP]
   repeat' first
    | ((first | refine qj (c68 _) ?_ ?_ | refine qj (q2 _) ?_ ?_); (next => exact flk); simp (disch := omega) only [hml, e1, qK, Option.getD_some, Option.isSome_some, go_sem, qc, dvP, mdP])
    | ((first | refine qn (fun _ => c68 _) ?_ ?_ | refine qn (fun _ => q2 _) ?_ ?_); (next => exact flk); simp (disch := omega) only [hml, e1, qK, Option.getD_some, Option.isSome_some, go_sem, qc, dvP, mdP])
    | ((first | refine qk (fun e => ⟨?_, c68 _⟩) ?_ | refine qk (fun e => ⟨?_, q2 _⟩) ?_); (next => exact flk); simp (disch := omega) only [hml, e1, qK, Option.getD_some, Option.isSome_some, go_sem, qc, dvP, mdP])
    | ((first | refine qe ?_ ?_ | refine qg ?_ ?_); (next => exact rvk); simp only [go_sem]; (first | exact VLe.refl _ | refine qh ?_ | refine qd ?_ | refine ql ?_ | skip))
    | with_reducible first | refine And.intro ?_ ?_ | intro _
   all_goals try exact clz
   refine qX (v50 h.length 1 (h.length + 1) (v + 1) (.op h.length 1 0) (S ++ B) (it k) _ (by omega) (by simp only [go_sem, List.length_append]) (.inr rfl) (by simp only [go_sem]) (by simp only [List.length_append]; omega)) ⟨rfl, rfl, trivial⟩ ?_
   simp (disch := omega) only [k4, k5, eD, go_sem, qc, dvP, mdP]
   repeat' first
    | ((first | refine qe ?_ ?_ | refine qg ?_ ?_); (next => exact rvk); simp only [go_sem]; (first | exact VLe.refl _ | refine qh ?_ | refine qd ?_ | refine ql ?_ | skip))
    | with_reducible first | refine And.intro ?_ ?_ | intro _
   all_goals try exact clz
   refine hK _ _ (n', r1.drop nm.length, S ++ B ++ it k, .op h.length 1 0, v + 1 + 1) ⟨.inr rfl, by simp only [List.length_drop]; omega, by simp only [List.length_drop, List.length_append]; omega, ?_⟩ (by simp only; omega) ?_
   ·rw [i5, hstep]
    cases qkw m it n' (r1.drop nm.length) <;> simp
   ·simp only [List.length_append]
    refine Wk.temps ?_
    (simp only [eD, qv, List.foldl, List.replicate, go_sem, qr, qp, qm, qq]; try (repeat' first | (with_reducible refine And.intro ?_ ?_) | (refine qh ?_; omega) | (refine qd ?_; rfl) | exact VLe.refl _))
 ·rw [if_neg g] at c49
  have hstep : qkw m it (n' + 1) r = some r := by
   unfold qkw
   rw [if_neg g]
  rw [hstep] at i5
  obtain ⟨T, hT⟩ : ∃ T, T = S ++ r := ⟨_, rfl⟩
  have hTl : T.length = S.length + r.length := by rw [hT]; simp
  have i5 : qkw m it (s.length + 1) s = some T := by rw [i5, hT]; rfl
  have c51 := v51 h.length 1 (h.length + 1) (v + 1) (.op h.length 1 0) T (h ++ [.mem 1 122 [.op h.length 1 0, .osl (h.length + 1) (v + 1) 1 0 T.length], bufO (v + 1) T]) (by simp only [go_sem]) (by simp only [go_sem])
  have c67 := v50 h.length 1 (h.length + 1) v A S r (h ++ [.mem 1 122 [A, .osl (h.length + 1) v 1 0 S.length], bufO v S]) (by omega) (by simp only [go_sem]) i1 (by simp only [go_sem]) (by omega)
  rw [← hT, ← hTl] at c67
  by_cases hbig : 65536 < T.length
  ·have k1 : (65536 < (T.length : Int)) = True := eq_true (by omega)
   have hV : qdE m it s = ([], 4) := by unfold qdE; rw [if_neg g0, i5]; simp only; rw [if_pos hbig]
   rw [hV]
   simp (disch := omega) only [qv, List.foldl, List.replicate, go_sem, qc, dvP, mdP]
   repeat' first
    | ((first | refine qj (c49 _) ?_ ?_); (next => exact flk); simp (disch := omega) only [go_sem, qc, dvP, mdP])
    | ((first | refine qn (fun _ => c49 _) ?_ ?_); (next => exact flk); simp (disch := omega) only [go_sem, qc, dvP, mdP])
    | ((first | refine qk (fun e => ⟨?_, c49 _⟩) ?_); (next => exact flk); simp (disch := omega) only [go_sem, qc, dvP, mdP])
    | ((first | refine qe ?_ ?_ | refine qg ?_ ?_); (next => exact rvk); simp only [go_sem]; (first | exact VLe.refl _ | refine qh ?_ | refine qd ?_ | refine ql ?_ | skip))
    | with_reducible first | refine And.intro ?_ ?_ | intro _
   all_goals try exact clz
   refine qX c67 ⟨rfl, rfl, trivial⟩ ?_
   simp (disch := omega) only [k1, go_sem, qc, dvP, mdP]
   repeat' first
    | ((first | refine qj (c51) ?_ ?_); (next => exact flk); simp (disch := omega) only [k1, go_sem, qc, dvP, mdP])
    | ((first | refine qk (fun e => ⟨?_, c51⟩) ?_); (next => exact flk); simp (disch := omega) only [k1, go_sem, qc, dvP, mdP])
    | ((first | refine qe ?_ ?_ | refine qg ?_ ?_); (next => exact rvk); simp only [go_sem]; (first | exact VLe.refl _ | refine qh ?_ | refine qd ?_ | refine ql ?_ | skip))
    | with_reducible first | refine And.intro ?_ ?_ | intro _
   all_goals try exact clz
  ·have k1 : (65536 < (T.length : Int)) = False := eq_false (by omega)
   have hV : qdE m it s = (T, 0) := by unfold qdE; rw [if_neg g0, i5]; simp only; rw [if_neg hbig]
   rw [hV]
   simp (disch := omega) only [qv, List.foldl, List.replicate, go_sem, qc, dvP, mdP]
   repeat' first
    | ((first | refine qj (c49 _) ?_ ?_); (next => exact flk); simp (disch := omega) only [go_sem, qc, dvP, mdP])
    | ((first | refine qn (fun _ => c49 _) ?_ ?_); (next => exact flk); simp (disch := omega) only [go_sem, qc, dvP, mdP])
    | ((first | refine qk (fun e => ⟨?_, c49 _⟩) ?_); (next => exact flk); simp (disch := omega) only [go_sem, qc, dvP, mdP])
    | ((first | refine qe ?_ ?_ | refine qg ?_ ?_); (next => exact rvk); simp only [go_sem]; (first | exact VLe.refl _ | refine qh ?_ | refine qd ?_ | refine ql ?_ | skip))
    | with_reducible first | refine And.intro ?_ ?_ | intro _
   all_goals try exact clz
   refine qX c67 ⟨rfl, rfl, trivial⟩ ?_
   simp (disch := omega) only [k1, go_sem, qc, dvP, mdP]
   repeat' first
    | ((first | refine qj (c51) ?_ ?_); (next => exact flk); simp (disch := omega) only [k1, go_sem, qc, dvP, mdP])
    | ((first | refine qk (fun e => ⟨?_, c51⟩) ?_); (next => exact flk); simp (disch := omega) only [k1, go_sem, qc, dvP, mdP])
    | ((first | refine qe ?_ ?_ | refine qg ?_ ?_); (next => exact rvk); simp only [go_sem]; (first | exact VLe.refl _ | refine qh ?_ | refine qd ?_ | refine ql ?_ | skip))
    | with_reducible first | refine And.intro ?_ ?_ | intro _
   all_goals try exact clz
   refine qX (v52 h.length 1 (h.length + 1) (v + 1) (.op h.length 1 0) T _ (by omega) (by simp only [go_sem]) (by simp only [go_sem])) ⟨rfl, trivial⟩ ?_
   simp (disch := omega) only [go_sem, qc, dvP, mdP]
   repeat' first
    | ((first | refine qe ?_ ?_ | refine qg ?_ ?_); (next => exact rvk); simp only [go_sem]; (first | exact VLe.refl _ | refine qh ?_ | refine qd ?_ | refine ql ?_ | skip))
    | with_reducible first | refine And.intro ?_ ?_ | intro _
   all_goals try exact clz
end LN
end
