import Derived.Test.YtjijgafefdolkaaGreatDoorK2
import Derived.Below
import Derived.Shelf.Strings.BuilderX
import Derived.Shelf.RegionOpenPlain
import Derived.Lib.Strings
import Derived.Lib.Slices
import Derived.Lib.Walk
import Derived.Lib.Bytealg
import Derived.WalkKit
import Derived.Laws.Externs
import Derived.Test.YtjijgafefdolkaaGreatDoorProg
import Derived.Test.YtjijgafefdolkaaGreatDoorK0
import Derived.Test.YtjijgafefdolkaaGreatDoorK1
set_option linter.all false
set_option linter.unusedSimpArgs false
set_option linter.unusedVariables false
set_option linter.unusedSectionVars false
section
namespace AF
open Go Go.RowKit
theorem Ext.ofBelow {w w' : World} {σ : List OB} {h : List AObj} (H : HR w σ h) (hb : Below w.heap.size w w') : HR w' σ h ∧ Ext w σ w' σ := by
 have e : Ext w σ w' σ := ⟨hb.os, hb.tape, hb.output, hb.size, fun b hl _ => hb.block b hl, fun _ h => .inl h, fun _ o h => ⟨o, h, Nat.le_refl _, fun _ => rfl⟩,
  fun b r h => ⟨r, (hb.block b (Array.getElem?_eq_some_iff.1 h).1).trans h⟩⟩
 exact ⟨⟨H.len, H.inj, fun k o b h1 h2 => Nat.lt_of_lt_of_le (H.lt k o b h1 h2) hb.size, fun k a o h1 h2 => (H.obj k a o h1 h2).ext e (fun b h3 => hb.block b (H.lt k o b h2 h3))⟩, e⟩
end AF
end
section
set_option linter.unusedVariables false
namespace Go.Proofs
open Go.Shelf Go.RowKit
set_option maxHeartbeats 1000000 in
set_option maxRecDepth 100000 in
theorem qh1 (s : ByteArray) (c : Int) (w : World) :
  Calls Tryz.prog 92 #[.string s, .int .u8 c] w fun e w' => e = .returned (.int .i64 (Lib.indexByte s.data.toList c.toNat.toUInt8)) ∧ w' = w := by
 go_enter Tryz.func92, Tryz.ntmps92
 go_wp2
 rw [run_callFunc_extern Tryz.func125 (by kernel_rfl) (by kernel_rfl) (by kernel_rfl) (e := Extern.BytealgIndexByte.indexByte) (by kernel_rfl)]
 rw [Lib.run_indexByteString]
 simp only [Result.andThen]
 rw [Oper.upon_value]
 go_wp2
 all_goals (go_ret; exact ⟨rfl, rfl⟩)
end Go.Proofs
end
section
section
namespace AF
open Go
abbrev MV (d a : Nat) : RO := ⟨some d, none, .mv, [.t a]⟩
abbrev MC (d : Nat) (v : AV) : RO := ⟨some d, none, .mv, [.c v]⟩
abbrev MG (d j : Nat) (u : Bool) (a : Nat) : RO := ⟨some d, some (j, u), .mv, [.t a]⟩
abbrev LD (d a : Nat) : RO := ⟨some d, none, .load none, [.t a]⟩
abbrev O1 (d : Nat) (op : R) (a : Nat) : RO := ⟨some d, none, op, [.t a]⟩
abbrev O2 (d : Nat) (op : R) (a b : Nat) : RO := ⟨some d, none, op, [.t a, .t b]⟩
abbrev OC (d : Nat) (op : R) (a : Nat) (v : AV) : RO := ⟨some d, none, op, [.t a, .c v]⟩
abbrev P1 (d j : Nat) (u : Bool) (op : R) (a : Nat) : RO := ⟨some d, some (j, u), op, [.t a]⟩
abbrev P2 (d j : Nat) (u : Bool) (op : R) (a b : Nat) : RO := ⟨some d, some (j, u), op, [.t a, .t b]⟩
abbrev PC (d j : Nat) (u : Bool) (op : R) (a : Nat) (v : AV) : RO := ⟨some d, some (j, u), op, [.t a, .c v]⟩
abbrev ST (n a b : Nat) : RO := ⟨none, none, .store n, [.t a, .t b]⟩
abbrev BI (d : Nat) (op : BinOp) (a b : Nat) : RO := ⟨some d, none, .bin op, [.t a, .t b]⟩
abbrev BC (d : Nat) (op : BinOp) (a : Nat) (v : AV) : RO := ⟨some d, none, .bin op, [.t a, .c v]⟩
abbrev i6 (n : Int) : AV := .int .i64 n
end AF
end
end
section
open Go Go.Proofs AF
set_option maxRecDepth 100000
def c6z : C :=
 ((C.ops [O1 1 (.box 0 29) 0, MC 2 (.bool false)]).seq ((C.ops [O1 3 (.fldA 13) 1, LD 4 3, O1 5 .len 4, BC 6 .gtr 5 (i6 5), MV 7 6, P1 8 7 false (.fldA 14) 1, P1 9 7 false (.load
 none) 8, P1 10 7 false .len 9, PC 11 7 false (.bin .gtr) 10 (i6 6), ⟨some 12, none, .pick, [.t 7, .c (.bool true), .t 11]⟩, MV 13 12, P1 14 13 false (.fldA 14) 1, P1 15 13 false
 (.load none) 14, PC 16 13 false (.call 7 true) 15 (.fn (Fn.func 21) [] []), ⟨some 17, none, .pick, [.t 13, .c (.bool true), .t 16]⟩, MV 18 17, P1 19 18 false (.fldA 13) 1, P1 20 18
 false (.load none) 19, PC 21 18 false (.call 22 true) 20 (.fn (Fn.func 23) [] []), ⟨some 22, none, .pick, [.t 18, .c (.bool true), .t 21]⟩, MV 2 22]).seq
 C.ret))
theorem qym : zj Tryz.prog 6 23 1 [RV.tmp 2] c6z := ⟨Tryz.f6, Tryz.f6.body.getD .skip, [1], [76, 140, 144, 67, 78, 79, 80, 113], [], by kernel_rfl, by kernel_rfl, by kernel_rfl, by kernel_rfl, by kernel_rfl, by kernel_rfl, by kernel_rfl⟩
def c7z : C :=
 ((C.ops [MC 4 (.bool false)]).seq ((C.ops [MV 5 0, MV 6 1, O2 7 (.call 24 true) 5 6, BC 8 .geq 7 (i6 0), MV 4 8]).seq
 C.ret))
theorem qzP : zj Tryz.prog 7 9 0 [RV.tmp 4] c7z := ⟨Tryz.f7, Tryz.f7.body.getD .skip, [], [76, 140, 144, 67, 78, 79, 80, 113], [], by kernel_rfl, by kernel_rfl, by kernel_rfl, by kernel_rfl, by kernel_rfl, by kernel_rfl, by kernel_rfl⟩
def c8z : C :=
 ((C.ops [O1 1 (.box 0 33) 0, MC 2 (.bool false)]).seq ((C.ops [O1 3 (.fldA 0) 1, LD 4 3, OC 5 (.call 9 true) 4 (.str [32, 61]), O1 6 (.fldA 0) 1, LD 7 6, BI 8 .neq 5 7, MV 9 8, P1
 10 9 false (.fldA 0) 1, P1 11 9 false (.load none) 10, PC 12 9 false (.call 10 true) 11 (.str [32]), ⟨some 13, none, .pick, [.t 9, .c (.bool true), .t 12]⟩, MV 2 13]).seq
 C.ret))
theorem qzQ : zj Tryz.prog 8 14 1 [RV.tmp 2] c8z := ⟨Tryz.f8, Tryz.f8.body.getD .skip, [1], [76, 140, 144, 67, 78, 79, 80, 113], [], by kernel_rfl, by kernel_rfl, by kernel_rfl, by kernel_rfl, by kernel_rfl, by kernel_rfl, by kernel_rfl⟩
def qze : C :=
 ((C.ops [MC 0 (.bool false)]).seq ((C.ops [⟨some 11, none, .call 33 true, []⟩, OC 12 (.call 13 true) 11 (i6 70), MV 10 12, O1 13 (.ext 0) 10, O1 14 (.ext 1) 10, O1 15 (.ext 2) 10,
 MV 1 13, MV 2 14, MV 3 15]).seq ((C.ops [⟨some 17, none, .call 33 true, []⟩, OC 18 (.call 13 true) 17 (i6 72), MV 16 18, O1 19 (.ext 0) 16, O1 20 (.ext 1) 16, O1 21 (.ext 2) 16, MV
 4 19, MV 5 20, MV 6 21]).seq ((C.ops [⟨some 23, none, .call 13 true, [.c .nl, .c (i6 5)]⟩, MV 22 23, O1 24 (.ext 0) 22, O1 25 (.ext 1) 22, O1 26 (.ext 2) 22, MV 7 24, MV 8 25, MV 9
 26]).seq ((C.ops [MV 27 3, MV 28 6, MV 29 9, ⟨some 30, none, .mm true, [.t 27, .t 28, .t 29]⟩, BC 31 .eql 30 (i6 0), MV 32 31, MG 33 32 true 1, ⟨some 34, some (32, true), .bslc 0 1
 2 3 [i6 0] [(0, 1), (1, 1)], [.c (i6 3), .c (i6 5)]⟩, P2 35 32 true (.call 34 true) 33 34, ⟨some 36, none, .pick, [.t 32, .t 35, .c (.bool false)]⟩, MV 37 36, MG 38 37 true 2, PC
 39 37 true (.bin .eql) 38 (i6 0), ⟨some 40, none, .pick, [.t 37, .t 39, .c (.bool false)]⟩, MV 41 40, MG 42 41 true 4, ⟨some 43, some (41, true), .bslc 1 1 2 3 [i6 0] [(0, 1), (1,
 1)], [.c (i6 3), .c (i6 5)]⟩, P2 44 41 true (.call 34 true) 42 43, ⟨some 45, none, .pick, [.t 41, .t 44, .c (.bool false)]⟩, MV 46 45, MG 47 46 true 5, PC 48 46 true (.bin .eql) 47
 (i6 6), ⟨some 49, none, .pick, [.t 46, .t 48, .c (.bool false)]⟩, MV 50 49, MG 51 50 true 7, ⟨some 52, some (50, true), .bslc 2 1 1 3 [i6 0] [(0, 1)], [.c (i6 0)]⟩, P2 53 50 true
 (.call 34 true) 51 52, ⟨some 54, none, .pick, [.t 50, .t 53, .c (.bool false)]⟩, MV 55 54, MG 56 55 true 8, PC 57 55 true (.bin .eql) 56 (i6 0), ⟨some 58, none, .pick, [.t 55, .t
 57, .c (.bool false)]⟩, MV 0 58]).seq
 C.ret)))))
theorem qxY : zj Tryz.prog 11 59 3 [RV.tmp 0] qze := ⟨Tryz.f11, Tryz.f11.body.getD .skip, [34, 43, 52], [76, 140, 144, 67, 78, 79, 80, 113], [], by kernel_rfl, by kernel_rfl, by kernel_rfl, by kernel_rfl, by kernel_rfl, by kernel_rfl, by kernel_rfl⟩
def qur : C :=
 ((C.ops [O1 3 (.box 0 25) 0, ⟨some 6, none, .nilo 1 6 58, []⟩, MC 7 (i6 0)]).seq (((C.ops [O1 15 (.fldA 8) 3, LD 16 15, O1 17 (.call 35 true) 16, O1 18 (.un UnOp.not) 17, MV 19 18,
 P1 20 19 false (.fldA 5) 3, P1 21 19 false (.load none) 20, P1 22 19 false (.call 35 true) 21, P1 23 19 false (.un UnOp.not) 22, ⟨some 24, none, .pick, [.t 19, .c (.bool true), .t
 23]⟩, MV 25 24, P1 26 25 false (.fldA 6) 3, P1 27 25 false (.load none) 26, P1 28 25 false (.call 35 true) 27, P1 29 25 false (.un UnOp.not) 28, ⟨some 30, none, .pick, [.t 25, .c
 (.bool true), .t 29]⟩, MV 31 30, P1 32 31 false (.fldA 7) 3, P1 33 31 false (.load none) 32, P1 34 31 false (.call 35 true) 33, P1 35 31 false (.un UnOp.not) 34, ⟨some 36, none,
 .pick, [.t 31, .c (.bool true), .t 35]⟩, MV 37 36, P1 38 37 false (.fldA 9) 3, P1 39 37 false (.load none) 38, PC 40 37 false (.bin .lss) 39 (i6 0), ⟨some 41, none, .pick, [.t 37,
 .c (.bool true), .t 40]⟩, MV 42 41, P1 43 42 false (.fldA 9) 3, P1 44 42 false (.load none) 43, PC 45 42 false (.bin .gtr) 44 (i6 10000), ⟨some 46, none, .pick, [.t 42, .c (.bool
 true), .t 45]⟩]).seq (C.cond (.t 46) ((C.ops [⟨some 6, none, .nilo 1 6 58, []⟩, MC 7 (i6 2)]).seq C.ret) C.skip)).seq (((C.ops [MV 47 1, O1 48 (.call 36 true) 47, BC 49 .neq 48 (i6
 0), MV 50 49, MG 51 50 false 2, PC 52 50 false (.call 7 true) 51 (.fn (Fn.func 37) [] []), ⟨some 53, none, .pick, [.t 50, .c (.bool true), .t 52]⟩]).seq (C.cond (.t 53) ((C.ops
 [⟨some 6, none, .nilo 1 6 58, []⟩, MC 7 (i6 1)]).seq C.ret) C.skip)).seq (((C.ops [MV 54 2, O1 55 .len 54, BC 56 .gtr 55 (i6 4096)]).seq (C.cond (.t 56) ((C.ops [⟨some 6, none,
 .nilo 1 6 58, []⟩, MC 7 (i6 4)]).seq C.ret) C.skip)).seq ((C.ops [⟨some 8, none, .nilo 2 6 58, []⟩]).seq (((C.ops [MV 57 2, O1 58 .len 57, MC 59 (i6 0)]).seq (C.block 0 ((C.ops [BI
 60 .lss 59 58]).seq ((C.cond (.t 60) C.skip (C.exit 0)).seq ((C.block 1 ((C.ops [MV 61 59, O2 62 (.idxA 7) 57 59, O1 63 (.load (some 7)) 62, ⟨some 10, none, .alloc 3 33 [.str [],
 i6 0, i6 0, i6 0, .bool false, .bool false, .str []], []⟩, MV 9 61, ST 7 10 63]).seq ((C.block 2 ((C.ops [MV 65 9, BC 66 .eql 65 (i6 0), MV 64 66]).seq (C.cond (.t 64) C.skip
 ((C.ops [O1 68 (.fldA 5) 10, LD 69 68, MV 67 69]).seq (C.cond (.t 67) (C.ops [MV 70 8, ⟨some 71, none, .build [i6 0, i6 0, i6 0, i6 0, i6 0, .str []] [(0, 1), (4, 1)], [.c (i6 3),
 .c (i6 (-10000))]⟩, ⟨some 72, none, .bslc 4 6 1 58 [i6 0, i6 0, i6 0, i6 0, i6 0, .str []] [(0, 6)], [.t 71]⟩, O2 73 (.app 5 6 58 56) 70 72, MV 8 73]) ((C.ops [O1 75 (.fldA 4) 10,
 LD 76 75, O1 77 (.un UnOp.not) 76, MV 74 77]).seq (C.cond (.t 74) (C.ops [MV 78 8, O1 79 (.fldA 5) 3, LD 80 79, O1 81 (.fldA 6) 3, LD 82 81, O1 83 (.fldA 7) 3, LD 84 83, ⟨some 85,
 none, .build [i6 0, i6 0, i6 0, i6 0, i6 0, .str []] [(0, 1), (1, 1), (2, 1), (3, 1)], [.c (i6 2), .t 80, .t 82, .t 84]⟩, ⟨some 86, none, .bslc 6 6 1 58 [i6 0, i6 0, i6 0, i6 0, i6
 0, .str []] [(0, 6)], [.t 85]⟩, O2 87 (.app 7 6 58 56) 78 86, MV 8 87]) C.skip))))))).seq ((C.ops [MV 89 1, O1 90 (.fldA 0) 10, LD 91 90, O2 92 (.call 38 true) 89 91, MV 88 92, O1
 93 (.ext 0) 88, O1 94 (.ext 1) 88, MV 11 93, MV 12 94]).seq (((C.ops [MV 95 12, BC 96 .neq 95 (i6 0)]).seq (C.cond (.t 96) ((C.ops [MV 97 12, ⟨some 6, none, .nilo 1 6 58, []⟩, MV 7
 97]).seq C.ret) C.skip)).seq ((C.ops [MV 98 11, O1 99 .len 98, MC 100 (i6 0)]).seq (C.block 3 ((C.ops [BI 101 .lss 100 99]).seq ((C.cond (.t 101) C.skip (C.exit 3)).seq ((C.block 4
 ((C.ops [MV 102 100, O2 103 (.idxA 1) 98 100, LD 104 103, MV 13 102, MV 14 104]).seq (((C.ops [MV 105 13, BC 106 .gtr 105 (i6 0)]).seq (C.cond (.t 106) (C.ops [MV 107 8, O1 108
 (.fldA 8) 3, LD 109 108, O1 110 (.fldA 9) 3, LD 111 110, ⟨some 112, none, .build [i6 0, i6 0, i6 0, i6 0, i6 0, .str []] [(0, 1), (1, 1), (4, 1), (5, 1)], [.c (i6 3), .t 109, .t
 111, .c (.str [61])]⟩, ⟨some 113, none, .bslc 8 6 1 58 [i6 0, i6 0, i6 0, i6 0, i6 0, .str []] [(0, 6)], [.t 112]⟩, O2 114 (.app 9 6 58 56) 107 113, MV 8 114]) C.skip)).seq (C.ops
 [MV 115 8, O1 116 (.fldA 8) 3, LD 117 116, MV 118 14, O1 119 (.call 39 true) 118, O1 120 .len 119, BI 121 .mul 117 120, MV 122 14, ⟨some 123, none, .build [i6 0, i6 0, i6 0, i6 0,
 i6 0, .str []] [(0, 1), (1, 1), (5, 1)], [.c (i6 1), .t 121, .t 122]⟩, ⟨some 124, none, .bslc 10 6 1 58 [i6 0, i6 0, i6 0, i6 0, i6 0, .str []] [(0, 6)], [.t 123]⟩, O2 125 (.app 11
 6 58 56) 115 124, MV 8 125])))).seq (C.ops [BC 126 .add 100 (i6 1), MV 100 126])))).loop))))))).seq (C.ops [BC 127 .add 59 (i6 1), MV 59 127])))).loop)).seq (((C.ops [MV 128 8, O1
 129 (.call 40 true) 128, BC 130 .neq 129 (i6 0)]).seq (C.cond (.t 130) ((C.ops [⟨some 6, none, .nilo 1 6 58, []⟩, MC 7 (i6 4)]).seq C.ret) C.skip)).seq ((C.ops [MV 131 8, MV 6 131,
 MC 7 (i6 0)]).seq
 C.ret))))))))
theorem qmq : zj Tryz.prog 12 132 12 [RV.tmp 6, RV.tmp 7] qur := ⟨Tryz.f12, Tryz.f12.body.getD .skip, [3, 6, 8, 10, 72, 73, 86, 87, 113, 114, 124, 125], [76, 140, 144, 67, 78, 79, 80, 113], [], by kernel_rfl, by kernel_rfl, by kernel_rfl, by kernel_rfl, by kernel_rfl, by kernel_rfl, by kernel_rfl⟩
def qxv : C :=
 ((C.ops [⟨some 4, none, .nilo 0 1 3, []⟩, MC 5 (i6 0), MC 6 (i6 0)]).seq (((C.ops [MV 14 0, MV 15 1, O2 16 (.call 41 true) 14 15, MV 7 16]).seq ((C.ops [MV 17 7, BC 18 .neq 17 (i6
 0)]).seq (C.cond (.t 18) ((C.ops [MV 19 7, ⟨some 4, none, .nilo 0 1 3, []⟩, MC 5 (i6 0), MV 6 19]).seq C.ret) C.skip))).seq ((C.ops [MV 20 0, MV 21 1, O2 22 (.call 42 true) 20 21,
 ⟨some 8, none, .alloc 1 42 [.nl], []⟩, ST 1 8 22]).seq (((C.ops [LD 23 8, OC 24 (.idxA 1) 23 (i6 0), LD 25 24, BC 26 .lss 25 (i6 0)]).seq (C.cond (.t 26) ((C.ops [⟨some 4, none,
 .nilo 0 1 3, []⟩, MC 5 (i6 0), MC 6 (i6 23)]).seq C.ret) C.skip)).seq ((C.ops [⟨some 9, none, .alloc 2 42 [.nl], []⟩]).seq (((C.ops [⟨some 10, none, .alloc 3 3 [i6 0], []⟩, ⟨none,
 none, .store 1, [.t 10, .c (i6 0)]⟩]).seq (C.block 0 (((C.ops [LD 27 9, O1 28 .len 27, BC 29 .eql 28 (i6 0), MV 30 29, P1 31 30 false (.load none) 9, P1 32 30 false (.load none) 9,
 P1 33 30 false .len 32, PC 34 30 false (.bin .sub) 33 (i6 1), P2 35 30 false (.idxA 1) 31 34, P1 36 30 false (.load none) 35, MG 37 30 false 0, P1 38 30 false .len 37, P2 39 30
 false (.bin .lss) 36 38, ⟨some 40, none, .pick, [.t 30, .c (.bool true), .t 39]⟩]).seq (C.cond (.t 40) C.skip (C.exit 0))).seq ((C.block 1 ((C.ops [MV 41 0, MV 42 1, LD 43 10,
 ⟨some 44, none, .call 43 true, [.t 41, .t 42, .t 43]⟩]).seq (C.block 2 (C.range (.t 44) [45, 46] ((C.ops [MV 11 45]).seq (C.ops [MV 12 46])) (C.block 3 ((C.ops [LD 47 8, MV 48 11,
 O2 49 (.call 44 true) 47 48, MV 13 49]).seq ((C.ops [MV 50 13, BC 51 .geq 50 (i6 0), MV 52 51, MG 53 52 true 12, MG 54 52 true 13, P2 55 52 true (.bin .add) 53 54, P1 56 52 true
 (.load none) 8, P1 57 52 true (.load none) 10, P2 58 52 true (.idxA 1) 56 57, P1 59 52 true (.load none) 58, P2 60 52 true (.bin .eql) 55 59, ⟨some 61, none, .pick, [.t 52, .t 60,
 .c (.bool false)]⟩]).seq (C.cond (.t 61) ((C.ops [LD 62 9, MV 63 11, ⟨some 64, none, .bslc 4 1 1 3 [i6 0] [(0, 1)], [.t 63]⟩, O2 65 (.app 5 1 3 8) 62 64, ST 1 9 65]).seq ((C.ops
 [MV 66 11, BC 67 .add 66 (i6 1), ST 1 10 67]).seq (C.exit 2))) C.skip)))))))).seq ((C.ops [LD 68 10]).seq (C.ops [⟨some 10, none, .alloc 3 3 [i6 0], []⟩, ST 1 10 68])))).loop)).seq
 ((C.ops [LD 69 9, LD 70 8, OC 71 (.idxA 1) 70 (i6 0), LD 72 71, MV 4 69, MV 5 72, MC 6 (i6 0)]).seq
 C.ret)))))))
theorem qs2 : zj Tryz.prog 13 73 6 [RV.tmp 4, RV.tmp 5, RV.tmp 6] qxv := ⟨Tryz.f13, Tryz.f13.body.getD .skip, [4, 8, 9, 10, 64, 65], [76, 140, 144, 67, 78, 79, 80, 113], [], by kernel_rfl, by kernel_rfl, by kernel_rfl, by kernel_rfl, by kernel_rfl, by kernel_rfl, by kernel_rfl⟩
def qxw : C :=
 ((C.ops [⟨some 6, none, .nilo 0 5 49, []⟩, MC 7 (i6 0)]).seq (((C.ops [MV 15 0, MV 16 1, O2 17 (.call 41 true) 15 16, MV 8 17]).seq ((C.ops [MV 18 8, BC 19 .neq 18 (i6 0)]).seq
 (C.cond (.t 19) ((C.ops [MV 20 8, ⟨some 6, none, .nilo 0 5 49, []⟩, MV 7 20]).seq C.ret) C.skip))).seq (((C.ops [MV 21 0, MV 22 2, O2 23 (.call 45 true) 21 22, O1 24 (.un UnOp.not)
 23]).seq (C.cond (.t 24) ((C.ops [⟨some 6, none, .nilo 0 5 49, []⟩, MC 7 (i6 23)]).seq C.ret) C.skip)).seq ((C.ops [⟨some 9, none, .nilo 1 5 49, []⟩]).seq ((C.ops [MC 10 (i6
 0)]).seq (((C.ops [MV 25 2, O1 26 .len 25, MC 27 (i6 0)]).seq (C.block 0 ((C.ops [BI 28 .lss 27 26]).seq ((C.cond (.t 28) C.skip (C.exit 0)).seq ((C.block 1 ((C.ops [O2 29 (.idxA
 1) 25 27, LD 30 29, MV 12 30]).seq ((C.ops [MV 32 0, MV 33 1, MV 34 10, MV 35 12, ⟨some 36, none, .call 46 true, [.t 32, .t 33, .t 34, .t 35]⟩, MV 31 36, O1 37 (.ext 0) 31, O1 38
 (.ext 1) 31, ⟨some 13, none, .alloc 2 49 [i6 0, i6 0, i6 0, i6 0, .str []], []⟩, ST 5 13 37, MV 14 38]).seq (((C.ops [MV 39 14, O1 40 (.un UnOp.not) 39]).seq (C.cond (.t 40)
 ((C.ops [⟨some 6, none, .nilo 0 5 49, []⟩, MC 7 (i6 21)]).seq C.ret) C.skip)).seq ((C.ops [MV 41 9, O1 42 (.load (some 5)) 13, ⟨some 43, none, .bslc 3 5 1 49 [i6 0, i6 0, i6 0, i6
 0, .str []] [(0, 5)], [.t 42]⟩, O2 44 (.app 4 5 49 48) 41 43, MV 9 44]).seq (C.ops [MV 45 12, BC 46 .add 45 (i6 1), MV 10 46])))))).seq (C.ops [BC 47 .add 27 (i6 1), MV 27
 47])))).loop)).seq ((C.ops [MV 48 9, MV 6 48, MC 7 (i6 0)]).seq
 C.ret)))))))
theorem qs3 : zj Tryz.prog 14 49 5 [RV.tmp 6, RV.tmp 7] qxw := ⟨Tryz.f14, Tryz.f14.body.getD .skip, [6, 9, 13, 43, 44], [76, 140, 144, 67, 78, 79, 80, 113], [], by kernel_rfl, by kernel_rfl, by kernel_rfl, by kernel_rfl, by kernel_rfl, by kernel_rfl, by kernel_rfl⟩
def qus : C :=
 ((C.ops [MC 4 (.str [])]).seq ((C.ops [MV 5 0, MV 6 1, O2 7 (.call 47 true) 5 6, MV 4 7]).seq
 C.ret))
theorem qxZ : zj Tryz.prog 15 8 0 [RV.tmp 4] qus := ⟨Tryz.f15, Tryz.f15.body.getD .skip, [], [76, 140, 144, 67, 78, 79, 80, 113], [], by kernel_rfl, by kernel_rfl, by kernel_rfl, by kernel_rfl, by kernel_rfl, by kernel_rfl, by kernel_rfl⟩
def qzi : C :=
 ((C.ops [O1 1 (.box 0 33) 0, MC 2 (.bool false)]).seq ((C.ops [O1 3 (.fldA 0) 1, LD 4 3, O1 5 .slen 4, BC 6 .gtr 5 (i6 10), MV 7 6, P1 8 7 true (.fldA 0) 1, P1 9 7 true (.load
 none) 8, P1 10 7 true .slen 9, PC 11 7 true (.bin .leq) 10 (i6 64), ⟨some 12, none, .pick, [.t 7, .t 11, .c (.bool false)]⟩, MV 13 12, P1 14 13 false (.fldA 0) 1, P1 15 13 false
 (.load none) 14, P1 16 13 false .slen 15, PC 17 13 false (.bin .gtr) 16 (i6 67), ⟨some 18, none, .pick, [.t 13, .c (.bool true), .t 17]⟩, MV 2 18]).seq
 C.ret))
theorem qx3 : zj Tryz.prog 21 19 1 [RV.tmp 2] qzi := ⟨Tryz.f21, Tryz.f21.body.getD .skip, [1], [76, 140, 144, 67, 78, 79, 80, 113], [], by kernel_rfl, by kernel_rfl, by kernel_rfl, by kernel_rfl, by kernel_rfl, by kernel_rfl, by kernel_rfl⟩
def qut : C :=
 ((C.ops [MC 4 (.bool false)]).seq ((C.ops [MV 5 0, MV 6 1, O2 7 (.call 58 true) 5 6, BC 8 .geq 7 (i6 0), MV 4 8]).seq
 C.ret))
theorem qx4 : zj Tryz.prog 22 9 0 [RV.tmp 4] qut := ⟨Tryz.f22, Tryz.f22.body.getD .skip, [], [76, 140, 144, 67, 78, 79, 80, 113], [], by kernel_rfl, by kernel_rfl, by kernel_rfl, by kernel_rfl, by kernel_rfl, by kernel_rfl, by kernel_rfl⟩
def qzj : C :=
 ((C.ops [O1 1 (.box 0 61) 0, MC 2 (.bool false)]).seq ((C.ops [O1 3 (.fldA 0) 1, LD 4 3, O1 5 .slen 4, BC 6 .gtr 5 (i6 12), MV 7 6, P1 8 7 false (.fldA 1) 1, P1 9 7 false (.load
 none) 8, P1 10 7 false .len 9, PC 11 7 false (.bin .gtr) 10 (i6 14), ⟨some 12, none, .pick, [.t 7, .c (.bool true), .t 11]⟩, MV 2 12]).seq
 C.ret))
theorem qx5 : zj Tryz.prog 23 13 1 [RV.tmp 2] qzj := ⟨Tryz.f23, Tryz.f23.body.getD .skip, [1], [76, 140, 144, 67, 78, 79, 80, 113], [], by kernel_rfl, by kernel_rfl, by kernel_rfl, by kernel_rfl, by kernel_rfl, by kernel_rfl, by kernel_rfl⟩
def qxI : C :=
 ((C.ops [MC 4 (i6 0)]).seq (((C.ops [MV 6 0, O1 7 .len 6, MC 8 (i6 0)]).seq (C.block 0 ((C.ops [BI 9 .lss 8 7]).seq ((C.cond (.t 9) C.skip (C.exit 0)).seq ((C.block 1 ((C.ops [MV
 10 8, MV 5 10]).seq ((C.ops [MV 11 1, MV 12 0, MV 13 5, O2 14 (.idxA 7) 12 13, O1 15 (.load (some 7)) 14, O2 16 .callv 11 15]).seq (C.cond (.t 16) ((C.ops [MV 17 5, MV 4 17]).seq
 C.ret) C.skip)))).seq (C.ops [BC 18 .add 8 (i6 1), MV 8 18])))).loop)).seq ((C.ops [MC 4 (i6 (-1))]).seq
 C.ret)))
theorem qvW : zj Tryz.prog 24 19 0 [RV.tmp 4] qxI := ⟨Tryz.f24, Tryz.f24.body.getD .skip, [], [76, 140, 144, 67, 78, 79, 80, 113], [], by kernel_rfl, by kernel_rfl, by kernel_rfl, by kernel_rfl, by kernel_rfl, by kernel_rfl, by kernel_rfl⟩
def qzl : C :=
 ((C.ops [⟨some 0, none, .nilo 0 6 58, []⟩]).seq ((C.ops [⟨some 3, none, .build [i6 0, i6 0, i6 0, i6 0, i6 0, .str []] [(0, 1), (1, 1), (5, 1)], [.c (i6 1), .c (i6 30), .c (.str
 [97, 98, 99])]⟩, ⟨some 4, none, .build [i6 0, i6 0, i6 0, i6 0, i6 0, .str []] [(0, 1), (1, 1), (2, 1), (3, 1)], [.c (i6 2), .c (i6 10), .c (i6 5), .c (i6 3)]⟩, ⟨some 1, none,
 .alloc 1 58 [i6 0, i6 0, i6 0, i6 0, i6 0, .str []], []⟩, ⟨some 2, none, .alloc 2 58 [i6 0, i6 0, i6 0, i6 0, i6 0, .str []], []⟩, ST 6 1 3, ST 6 2 4]).seq ((C.ops [O1 5 (.load
 (some 6)) 1, O1 6 (.load (some 6)) 2, O1 7 (.load (some 6)) 1, O1 8 (.load (some 6)) 2, O1 9 (.load (some 6)) 1, ⟨some 10, none, .bslc 3 6 5 58 [i6 0, i6 0, i6 0, i6 0, i6 0, .str
 []] [(0, 6), (6, 6), (12, 6), (18, 6), (24, 6)], [.t 5, .t 6, .t 7, .t 8, .t 9]⟩, MV 0 10]).seq
 C.ret)))
theorem qx7 : zj Tryz.prog 33 11 4 [RV.tmp 0] qzl := ⟨Tryz.f33, Tryz.f33.body.getD .skip, [0, 1, 2, 10], [76, 140, 144, 67, 78, 79, 80, 113], [], by kernel_rfl, by kernel_rfl, by kernel_rfl, by kernel_rfl, by kernel_rfl, by kernel_rfl, by kernel_rfl⟩
def qxx : C :=
 ((C.ops [MC 4 (.bool false)]).seq (((C.ops [MV 6 0, O1 7 .len 6, MV 8 1, O1 9 .len 8, BI 10 .neq 7 9]).seq (C.cond (.t 10) ((C.ops [MC 4 (.bool false)]).seq C.ret) C.skip)).seq
 (((C.ops [MV 11 0, O1 12 .len 11, MC 13 (i6 0)]).seq (C.block 0 ((C.ops [BI 14 .lss 13 12]).seq ((C.cond (.t 14) C.skip (C.exit 0)).seq ((C.block 1 ((C.ops [MV 15 13, MV 5 15]).seq
 ((C.ops [MV 16 0, MV 17 5, O2 18 (.idxA 1) 16 17, LD 19 18, MV 20 1, MV 21 5, O2 22 (.idxA 1) 20 21, LD 23 22, BI 24 .neq 19 23]).seq (C.cond (.t 24) ((C.ops [MC 4 (.bool
 false)]).seq C.ret) C.skip)))).seq (C.ops [BC 25 .add 13 (i6 1), MV 13 25])))).loop)).seq ((C.ops [MC 4 (.bool true)]).seq
 C.ret))))
theorem qs4 : zj Tryz.prog 34 26 0 [RV.tmp 4] qxx := ⟨Tryz.f34, Tryz.f34.body.getD .skip, [], [76, 140, 144, 67, 78, 79, 80, 113], [], by kernel_rfl, by kernel_rfl, by kernel_rfl, by kernel_rfl, by kernel_rfl, by kernel_rfl, by kernel_rfl⟩
def qxJ : C :=
 ((C.ops [MC 2 (.bool false)]).seq ((C.ops [MV 3 0, BC 4 .geq 3 (i6 0), MV 5 4, MG 6 5 true 0, PC 7 5 true (.bin .leq) 6 (i6 1073741824), ⟨some 8, none, .pick, [.t 5, .t 7, .c
 (.bool false)]⟩, MV 2 8]).seq
 C.ret))
theorem qvX : zj Tryz.prog 35 9 0 [RV.tmp 2] qxJ := ⟨Tryz.f35, Tryz.f35.body.getD .skip, [], [76, 140, 144, 67, 78, 79, 80, 113], [], by kernel_rfl, by kernel_rfl, by kernel_rfl, by kernel_rfl, by kernel_rfl, by kernel_rfl, by kernel_rfl⟩
def qbS : C :=
 ((C.ops [MC 2 (i6 0)]).seq (((C.ops [MV 6 0, O1 7 .len 6, BC 8 .gtr 7 (i6 4096)]).seq (C.cond (.t 8) ((C.ops [MC 2 (i6 4)]).seq C.ret) C.skip)).seq (((C.ops [MV 9 0, O1 10 .len 9,
 MC 11 (i6 0)]).seq (C.block 0 ((C.ops [BI 12 .lss 11 10]).seq ((C.cond (.t 12) C.skip (C.exit 0)).seq ((C.block 1 ((C.ops [O2 13 (.idxA 2) 9 11, O1 14 (.load (some 2)) 13, ⟨some 4,
 none, .alloc 0 61 [.str [], .nl], []⟩, ST 2 4 14]).seq ((C.ops [O1 15 (.load (some 2)) 4, O1 16 (.call 64 true) 15, MV 5 16]).seq ((C.ops [MV 17 5, BC 18 .neq 17 (i6 0)]).seq
 (C.cond (.t 18) ((C.ops [MV 19 5, MV 2 19]).seq C.ret) C.skip))))).seq (C.ops [BC 20 .add 11 (i6 1), MV 11 20])))).loop)).seq ((C.ops [MC 2 (i6 0)]).seq
 C.ret))))
theorem qvY : zj Tryz.prog 36 21 1 [RV.tmp 2] qbS := ⟨Tryz.f36, Tryz.f36.body.getD .skip, [4], [76, 140, 144, 67, 78, 79, 80, 113], [], by kernel_rfl, by kernel_rfl, by kernel_rfl, by kernel_rfl, by kernel_rfl, by kernel_rfl, by kernel_rfl⟩
def qxK : C :=
 ((C.ops [O1 1 (.box 0 33) 0, MC 2 (.bool false)]).seq ((C.ops [O1 3 (.fldA 0) 1, LD 4 3, BC 5 .eql 4 (.str []), MV 6 5, P1 7 6 false (.fldA 0) 1, P1 8 6 false (.load none) 7, P1 9
 6 false .slen 8, PC 10 6 false (.bin .gtr) 9 (i6 64), ⟨some 11, none, .pick, [.t 6, .c (.bool true), .t 10]⟩, MV 2 11]).seq
 C.ret))
theorem qvZ : zj Tryz.prog 37 12 1 [RV.tmp 2] qxK := ⟨Tryz.f37, Tryz.f37.body.getD .skip, [1], [76, 140, 144, 67, 78, 79, 80, 113], [], by kernel_rfl, by kernel_rfl, by kernel_rfl, by kernel_rfl, by kernel_rfl, by kernel_rfl, by kernel_rfl⟩
def qfc : C :=
 ((C.ops [⟨some 4, none, .nilo 0 1 9, []⟩, MC 5 (i6 0)]).seq (((C.ops [MV 12 1, O1 13 (.call 65 true) 12, O1 14 (.un UnOp.not) 13]).seq (C.cond (.t 14) ((C.ops [MV 15 1, ⟨some 16,
 none, .bslc 1 1 1 9 [.str []] [(0, 1)], [.t 15]⟩, MV 4 16, MC 5 (i6 0)]).seq C.ret) C.skip)).seq ((C.ops [MV 18 0, MV 19 1, O2 20 (.call 66 true) 18 19, MV 17 20, O1 21 (.ext 0)
 17, O1 22 (.ext 1) 17, MV 6 21, MV 7 22]).seq (((C.ops [MV 23 7, BC 24 .neq 23 (i6 0)]).seq (C.cond (.t 24) ((C.ops [MV 25 7, ⟨some 4, none, .nilo 0 1 9, []⟩, MV 5 25]).seq C.ret)
 C.skip)).seq ((C.ops [⟨some 8, none, .nilo 2 1 9, []⟩]).seq ((C.ops [MC 9 (i6 0)]).seq (((C.ops [MV 26 6, O1 27 (.call 67 false) 26, MV 28 1, O1 29 .slen 28, ⟨some 30, none, .bslc
 3 1 1 3 [i6 0] [(0, 1)], [.t 29]⟩, O2 31 (.app 4 1 3 8) 27 30, O1 32 .len 31, MC 33 (i6 0)]).seq (C.block 0 ((C.ops [BI 34 .lss 33 32]).seq ((C.cond (.t 34) C.skip (C.exit 0)).seq
 ((C.block 1 ((C.ops [O2 35 (.idxA 1) 31 33, LD 36 35, MV 11 36]).seq ((C.ops [MV 37 8, MV 38 1, MV 39 9, MV 40 11, ⟨some 41, none, .sslc true true, [.t 38, .t 39, .t 40]⟩, ⟨some
 42, none, .bslc 5 1 1 9 [.str []] [(0, 1)], [.t 41]⟩, O2 43 (.app 6 1 9 16) 37 42, MV 8 43]).seq (C.ops [MV 44 11, MV 9 44])))).seq (C.ops [BC 45 .add 33 (i6 1), MV 33
 45])))).loop)).seq ((C.ops [MV 46 8, MV 4 46, MC 5 (i6 0)]).seq
 C.ret))))))))
theorem qs5 : zj Tryz.prog 38 47 8 [RV.tmp 4, RV.tmp 5] qfc := ⟨Tryz.f38, Tryz.f38.body.getD .skip, [4, 16, 8, 30, 31, 42, 43, 27], [76, 140, 144, 67, 78, 79, 80, 113], [], by kernel_rfl, by kernel_rfl, by kernel_rfl, by kernel_rfl, by kernel_rfl, by kernel_rfl, by kernel_rfl⟩
def qbn : C :=
 ((C.ops [⟨some 2, none, .nilo 0 1 9, []⟩]).seq ((C.ops [⟨some 3, none, .alloc 1 23 [.nl], []⟩]).seq (((C.ops [MV 6 0, O1 7 (.call 68 true) 6]).seq (C.block 0 (C.range (.t 7) [8, 9]
 (C.ops [MV 5 9]) (C.block 1 (C.ops [LD 10 3, MV 11 5, ⟨some 12, none, .bslc 2 1 1 9 [.str []] [(0, 1)], [.t 11]⟩, O2 13 (.app 3 1 9 16) 10 12, ST 1 3 13]))))).seq ((C.ops [LD 14 3,
 MV 2 14]).seq
 C.ret))))
theorem qx8 : zj Tryz.prog 39 15 4 [RV.tmp 2] qbn := ⟨Tryz.f39, Tryz.f39.body.getD .skip, [2, 3, 12, 13], [76, 140, 144, 67, 78, 79, 80, 113], [], by kernel_rfl, by kernel_rfl, by kernel_rfl, by kernel_rfl, by kernel_rfl, by kernel_rfl, by kernel_rfl⟩
def qpq : C :=
 ((C.ops [MC 2 (i6 0)]).seq (((C.ops [MV 7 0, O1 8 .len 7, BC 9 .gtr 8 (i6 4096)]).seq (C.cond (.t 9) ((C.ops [MC 2 (i6 4)]).seq C.ret) C.skip)).seq ((C.ops [MC 3 (i6 0)]).seq
 (((C.ops [MV 10 0, O1 11 .len 10, MC 12 (i6 0)]).seq (C.block 0 ((C.ops [BI 13 .lss 12 11]).seq ((C.cond (.t 13) C.skip (C.exit 0)).seq ((C.block 1 ((C.ops [O2 14 (.idxA 6) 10 12,
 O1 15 (.load (some 6)) 14, ⟨some 5, none, .alloc 0 58 [i6 0, i6 0, i6 0, i6 0, i6 0, .str []], []⟩, ST 6 5 15]).seq (((C.ops [O1 16 (.load (some 6)) 5, O1 17 (.call 69 true) 16, MV
 6 17]).seq ((C.ops [MV 18 6, BC 19 .neq 18 (i6 0)]).seq (C.cond (.t 19) ((C.ops [MV 20 6, MV 2 20]).seq C.ret) C.skip))).seq (C.ops [MV 21 3, O1 22 (.fldA 1) 5, LD 23 22, O1 24
 (.fldA 2) 5, LD 25 24, BI 26 .add 23 25, O1 27 (.fldA 3) 5, LD 28 27, BI 29 .add 26 28, BI 30 .add 21 29, MV 3 30])))).seq (C.ops [BC 31 .add 12 (i6 1), MV 12 31])))).loop)).seq
 (((C.ops [MV 32 3, BC 33 .gtr 32 (i6 1073741824)]).seq (C.cond (.t 33) ((C.ops [MC 2 (i6 4)]).seq C.ret) C.skip)).seq ((C.ops [MC 2 (i6 0)]).seq
 C.ret))))))
theorem qv0 : zj Tryz.prog 40 34 1 [RV.tmp 2] qpq := ⟨Tryz.f40, Tryz.f40.body.getD .skip, [5], [76, 140, 144, 67, 78, 79, 80, 113], [], by kernel_rfl, by kernel_rfl, by kernel_rfl, by kernel_rfl, by kernel_rfl, by kernel_rfl, by kernel_rfl⟩
def qzm : C :=
 ((C.ops [MC 4 (i6 0)]).seq ((C.block 0 ((C.ops [MV 6 0, O1 7 (.call 40 true) 6, BC 8 .neq 7 (i6 0), MV 5 8]).seq (C.cond (.t 5) ((C.ops [MC 4 (i6 1)]).seq C.ret) ((C.ops [MV 10 1,
 O1 11 (.call 35 true) 10, O1 12 (.un UnOp.not) 11, MV 9 12]).seq (C.cond (.t 9) ((C.ops [MC 4 (i6 2)]).seq C.ret) C.skip))))).seq ((C.ops [MC 4 (i6 0)]).seq
 C.ret)))
theorem qx9 : zj Tryz.prog 41 13 0 [RV.tmp 4] qzm := ⟨Tryz.f41, Tryz.f41.body.getD .skip, [], [76, 140, 144, 67, 78, 79, 80, 113], [], by kernel_rfl, by kernel_rfl, by kernel_rfl, by kernel_rfl, by kernel_rfl, by kernel_rfl, by kernel_rfl⟩
def qzn : C :=
 ((C.ops [⟨some 4, none, .nilo 0 1 3, []⟩]).seq ((C.ops [MV 11 0, O1 12 .len 11, BC 13 .add 12 (i6 1), ⟨some 14, none, .mkslc 1 1 3 [i6 0] 8, [.t 13, .t 13]⟩, ⟨some 5, none, .alloc
 2 42 [.nl], []⟩, ST 1 5 14]).seq (((C.ops [MV 15 0, O1 16 .len 15, MV 6 16]).seq (C.block 0 (((C.ops [MV 17 6, BC 18 .geq 17 (i6 0)]).seq (C.cond (.t 18) C.skip (C.exit 0))).seq
 ((C.block 1 ((C.ops [⟨some 7, none, .alloc 3 3 [i6 0], []⟩, ⟨none, none, .store 1, [.t 7, .c (i6 (-1))]⟩]).seq (((C.ops [MV 21 0, MV 22 1, MV 23 6, ⟨some 24, none, .call 43 true,
 [.t 21, .t 22, .t 23]⟩]).seq (C.block 2 (C.range (.t 24) [25, 26] ((C.ops [MV 8 25]).seq (C.ops [MV 9 26])) (C.block 3 ((C.ops [LD 27 5, MV 28 8, O2 29 (.call 44 true) 27 28, MV 10
 29]).seq ((C.ops [MV 30 10, BC 31 .geq 30 (i6 0), MV 32 31, P1 33 32 true (.load none) 7, PC 34 32 true (.bin .lss) 33 (i6 0), MG 35 32 true 34, MG 36 35 false 9, MG 37 35 false
 10, P2 38 35 false (.bin .add) 36 37, P1 39 35 false (.load none) 7, P2 40 35 false (.bin .lss) 38 39, ⟨some 41, some (32, true), .pick, [.t 35, .c (.bool true), .t 40]⟩, ⟨some 42,
 none, .pick, [.t 32, .t 41, .c (.bool false)]⟩]).seq (C.cond (.t 42) (C.ops [MV 43 9, MV 44 10, BI 45 .add 43 44, ST 1 7 45]) C.skip))))))).seq (C.ops [LD 46 5, MV 47 6, LD 48 7,
 O2 49 (.idxA 1) 46 47, ST 1 49 48])))).seq (C.ops [MV 19 6, BC 20 .sub 19 (i6 1), MV 6 20]))).loop)).seq ((C.ops [LD 50 5, MV 4 50]).seq
 C.ret))))
theorem qya : zj Tryz.prog 42 51 4 [RV.tmp 4] qzn := ⟨Tryz.f42, Tryz.f42.body.getD .skip, [4, 14, 5, 7], [76, 140, 144, 67, 78, 79, 80, 113], [], by kernel_rfl, by kernel_rfl, by kernel_rfl, by kernel_rfl, by kernel_rfl, by kernel_rfl, by kernel_rfl⟩
def qzo : C :=
 ((C.ops [O1 3 (.box 0 38) 0, O1 4 (.box 1 3) 1, O1 5 (.box 2 3) 2, MC 6 .nilfn]).seq ((C.ops [⟨some 7, none, .mkfn (Fn.func 70) 0, [.t 3, .t 5, .t 4]⟩, MV 6 7]).seq
 C.ret))
theorem qyb : zj Tryz.prog 43 8 3 [RV.tmp 6] qzo := ⟨Tryz.f43, Tryz.f43.body.getD .skip, [3, 4, 5], [76, 140, 144, 67, 78, 79, 80, 113], [], by kernel_rfl, by kernel_rfl, by kernel_rfl, by kernel_rfl, by kernel_rfl, by kernel_rfl, by kernel_rfl⟩
def qzp : C :=
 ((C.ops [MC 4 (i6 0)]).seq (((C.ops [MV 5 1, MV 6 0, O1 7 .len 6, BC 8 .sub 7 (i6 1), BI 9 .eql 5 8]).seq (C.cond (.t 9) ((C.ops [MC 4 (i6 0)]).seq C.ret) C.skip)).seq ((C.ops [MV
 10 0, MV 11 1, BC 12 .add 11 (i6 1), O2 13 (.idxA 1) 10 12, LD 14 13, MV 4 14]).seq
 C.ret)))
theorem qyc : zj Tryz.prog 44 15 0 [RV.tmp 4] qzp := ⟨Tryz.f44, Tryz.f44.body.getD .skip, [], [76, 140, 144, 67, 78, 79, 80, 113], [], by kernel_rfl, by kernel_rfl, by kernel_rfl, by kernel_rfl, by kernel_rfl, by kernel_rfl, by kernel_rfl⟩
def qxy : C :=
 ((C.ops [MC 4 (.bool false)]).seq (((C.ops [MV 8 1, O1 9 .len 8, BC 10 .eql 9 (i6 0), MV 11 10, MG 12 11 false 1, MG 13 11 false 1, P1 14 11 false .len 13, PC 15 11 false (.bin
 .sub) 14 (i6 1), P2 16 11 false (.idxA 1) 12 15, P1 17 11 false (.load none) 16, MG 18 11 false 0, P1 19 11 false .len 18, P2 20 11 false (.bin .neq) 17 19, ⟨some 21, none, .pick,
 [.t 11, .c (.bool true), .t 20]⟩]).seq (C.cond (.t 21) ((C.ops [MC 4 (.bool false)]).seq C.ret) C.skip)).seq (((C.ops [MV 22 1, O1 23 .len 22, MC 24 (i6 0)]).seq (C.block 0 ((C.ops
 [BI 25 .lss 24 23]).seq ((C.cond (.t 25) C.skip (C.exit 0)).seq ((C.block 1 ((C.ops [MV 26 24, O2 27 (.idxA 1) 22 24, LD 28 27, MV 5 26, MV 6 28]).seq ((C.ops [MV 29 6, BC 30 .lss
 29 (i6 0), MV 31 30, MG 32 31 false 6, MG 33 31 false 0, P1 34 31 false .len 33, P2 35 31 false (.bin .gtr) 32 34, ⟨some 36, none, .pick, [.t 31, .c (.bool true), .t 35]⟩, MV 37
 36, MG 38 37 false 5, PC 39 37 false (.bin .gtr) 38 (i6 0), MG 40 37 false 39, MG 41 40 true 6, MG 42 40 true 1, MG 43 40 true 5, PC 44 40 true (.bin .sub) 43 (i6 1), P2 45 40 true
 (.idxA 1) 42 44, P1 46 40 true (.load none) 45, P2 47 40 true (.bin .leq) 41 46, ⟨some 48, some (37, false), .pick, [.t 40, .t 47, .c (.bool false)]⟩, ⟨some 49, none, .pick, [.t
 37, .c (.bool true), .t 48]⟩, MV 50 49, MG 51 50 false 0, MG 52 50 false 6, P2 53 50 false (.call 72 true) 51 52, P1 54 50 false (.un UnOp.not) 53, ⟨some 55, none, .pick, [.t 50,
 .c (.bool true), .t 54]⟩]).seq (C.cond (.t 55) ((C.ops [MC 4 (.bool false)]).seq C.ret) C.skip)))).seq (C.ops [BC 56 .add 24 (i6 1), MV 24 56])))).loop)).seq (((C.ops [MV 57 0, O1
 58 .len 57, MC 59 (i6 0)]).seq (C.block 2 ((C.ops [BI 60 .lss 59 58]).seq ((C.cond (.t 60) C.skip (C.exit 2)).seq ((C.block 3 ((C.ops [MV 61 59, MV 7 61]).seq ((C.ops [MV 62 0, MV
 63 7, O2 64 (.call 75 true) 62 63, MV 65 64, MG 66 65 true 1, MG 67 65 true 7, P2 68 65 true (.call 77 true) 66 67, P1 69 65 true (.un UnOp.not) 68, ⟨some 70, none, .pick, [.t 65,
 .t 69, .c (.bool false)]⟩]).seq (C.cond (.t 70) ((C.ops [MC 4 (.bool false)]).seq C.ret) C.skip)))).seq (C.ops [BC 71 .add 59 (i6 1), MV 59 71])))).loop)).seq ((C.ops [MC 4 (.bool
 true)]).seq
 C.ret)))))
theorem qs7 : zj Tryz.prog 45 72 0 [RV.tmp 4] qxy := ⟨Tryz.f45, Tryz.f45.body.getD .skip, [], [76, 140, 144, 67, 78, 79, 80, 113], [], by kernel_rfl, by kernel_rfl, by kernel_rfl, by kernel_rfl, by kernel_rfl, by kernel_rfl, by kernel_rfl⟩
def qxL : C :=
 ((C.ops [MC 4 (.str [])]).seq (((C.ops [MV 5 0, MV 6 1, O2 7 (.call 81 true) 5 6]).seq (C.cond (.t 7) ((C.ops [MV 8 0, MV 9 0, O1 10 .slen 9, MV 11 1, O1 12 .slen 11, BI 13 .sub 10
 12, O2 14 (.sslc false true) 8 13, MV 4 14]).seq C.ret) C.skip)).seq ((C.ops [MV 15 0, MV 4 15]).seq
 C.ret)))
theorem qv1 : zj Tryz.prog 47 16 0 [RV.tmp 4] qxL := ⟨Tryz.f47, Tryz.f47.body.getD .skip, [], [76, 140, 144, 67, 78, 79, 80, 113], [], by kernel_rfl, by kernel_rfl, by kernel_rfl, by kernel_rfl, by kernel_rfl, by kernel_rfl, by kernel_rfl⟩
def qkv : C :=
 ((C.ops [MC 4 (.bool false)]).seq (((C.ops [MV 6 0, O1 7 .len 6, MV 8 1, O1 9 .len 8, BI 10 .neq 7 9]).seq (C.cond (.t 10) ((C.ops [MC 4 (.bool false)]).seq C.ret) C.skip)).seq
 (((C.ops [MV 11 0, O1 12 .len 11, MC 13 (i6 0)]).seq (C.block 0 ((C.ops [BI 14 .lss 13 12]).seq ((C.cond (.t 14) C.skip (C.exit 0)).seq ((C.block 1 ((C.ops [MV 15 13, MV 5 15]).seq
 ((C.ops [MV 16 0, MV 17 5, O2 18 (.idxA 1) 16 17, LD 19 18, MV 20 1, MV 21 5, O2 22 (.idxA 1) 20 21, LD 23 22, BI 24 .neq 19 23]).seq (C.cond (.t 24) ((C.ops [MC 4 (.bool
 false)]).seq C.ret) C.skip)))).seq (C.ops [BC 25 .add 13 (i6 1), MV 13 25])))).loop)).seq ((C.ops [MC 4 (.bool true)]).seq
 C.ret))))
theorem qv2 : zj Tryz.prog 54 26 0 [RV.tmp 4] qkv := ⟨Tryz.f54, Tryz.f54.body.getD .skip, [], [76, 140, 144, 67, 78, 79, 80, 113], [], by kernel_rfl, by kernel_rfl, by kernel_rfl, by kernel_rfl, by kernel_rfl, by kernel_rfl, by kernel_rfl⟩
def qzx : C :=
 ((C.ops [MC 4 (i6 0)]).seq (((C.ops [MV 6 0, O1 7 .len 6, MC 8 (i6 0)]).seq (C.block 0 ((C.ops [BI 9 .lss 8 7]).seq ((C.cond (.t 9) C.skip (C.exit 0)).seq ((C.block 1 ((C.ops [MV
 10 8, MV 5 10]).seq ((C.ops [MV 11 1, MV 12 0, MV 13 5, O2 14 (.idxA 2) 12 13, O1 15 (.load (some 2)) 14, O2 16 .callv 11 15]).seq (C.cond (.t 16) ((C.ops [MV 17 5, MV 4 17]).seq
 C.ret) C.skip)))).seq (C.ops [BC 18 .add 8 (i6 1), MV 8 18])))).loop)).seq ((C.ops [MC 4 (i6 (-1))]).seq
 C.ret)))
theorem qyk : zj Tryz.prog 58 19 0 [RV.tmp 4] qzx := ⟨Tryz.f58, Tryz.f58.body.getD .skip, [], [76, 140, 144, 67, 78, 79, 80, 113], [], by kernel_rfl, by kernel_rfl, by kernel_rfl, by kernel_rfl, by kernel_rfl, by kernel_rfl, by kernel_rfl⟩
def qlx : C :=
 ((C.ops [O1 1 (.box 0 61) 0, MC 2 (i6 0)]).seq (((C.ops [O1 7 (.fldA 0) 1, LD 8 7, O1 9 .slen 8, BC 10 .gtr 9 (i6 64)]).seq (C.cond (.t 10) ((C.ops [MC 2 (i6 4)]).seq C.ret)
 C.skip)).seq ((C.ops [O1 11 (.fldA 0) 1, LD 12 11, OC 13 (.call 96 true) 12 (.str [46]), OC 14 (.call 15 true) 13 (.str [46]), MV 3 14]).seq ((C.ops [MC 4 (.fn (Fn.func 97) []
 [])]).seq ((C.ops [MC 5 (.bool false)]).seq (((C.ops [MV 15 3, O1 16 .slen 15, MC 17 (i6 0)]).seq (C.block 0 ((C.ops [BI 18 .lss 17 16]).seq ((C.cond (.t 18) C.skip (C.exit 0)).seq
 ((C.block 1 ((C.ops [MV 19 17, MV 6 19]).seq (((C.ops [MV 20 4, MV 21 3, MV 22 6, O2 23 .sidx 21 22, O2 24 .callv 20 23, O1 25 (.un UnOp.not) 24]).seq (C.cond (.t 25) ((C.ops [MC 2
 (i6 11)]).seq C.ret) C.skip)).seq (C.ops [MV 26 5, MV 27 26, MG 28 27 false 3, MG 29 27 false 6, P2 30 27 false .sidx 28 29, P1 31 27 false (.call 98 true) 30, PC 32 27 false (.bin
 .neq) 31 (i6 2), ⟨some 33, none, .pick, [.t 27, .c (.bool true), .t 32]⟩, MV 5 33])))).seq (C.ops [BC 34 .add 17 (i6 1), MV 17 34])))).loop)).seq (((C.ops [MV 35 3, O1 36 (.call 99
 true) 35, BC 37 .neq 36 (i6 0)]).seq (C.cond (.t 37) ((C.ops [MC 2 (i6 11)]).seq C.ret) C.skip)).seq (((C.ops [MV 38 5, O1 39 (.un UnOp.not) 38]).seq (C.cond (.t 39) ((C.ops [MC 2
 (i6 5)]).seq C.ret) C.skip)).seq (((C.ops [O1 40 (.fldA 1) 1, LD 41 40, O1 42 .len 41, O1 43 (.fldA 0) 1, LD 44 43, O1 45 (.call 100 true) 44, O1 46 .len 45, BC 47 .add 46 (i6 1),
 BI 48 .neq 42 47]).seq (C.cond (.t 48) ((C.ops [MC 2 (i6 9)]).seq C.ret) C.skip)).seq (((C.ops [O1 49 (.fldA 1) 1, LD 50 49, OC 51 (.call 101 true) 50 (.fn (Fn.func 102) [] []), MV
 52 51, P1 53 52 false (.fldA 0) 1, P1 54 52 false (.load none) 53, PC 55 52 false (.call 103 true) 54 (.str [46]), MG 56 52 false 55, P1 57 56 true (.fldA 1) 1, P1 58 56 true
 (.load none) 57, PC 59 56 true (.idxA 1) 58 (i6 0), P1 60 56 true (.load none) 59, PC 61 56 true (.bin .neq) 60 (i6 0), ⟨some 62, some (52, false), .pick, [.t 56, .t 61, .c (.bool
 false)]⟩, ⟨some 63, none, .pick, [.t 52, .c (.bool true), .t 62]⟩, MV 64 63, P1 65 64 false (.fldA 0) 1, P1 66 64 false (.load none) 65, PC 67 64 false (.call 104 true) 66 (.str
 [46]), MG 68 64 false 67, P1 69 68 true (.fldA 1) 1, P1 70 68 true (.load none) 69, P1 71 68 true (.fldA 1) 1, P1 72 68 true (.load none) 71, P1 73 68 true .len 72, PC 74 68 true
 (.bin .sub) 73 (i6 1), P2 75 68 true (.idxA 1) 70 74, P1 76 68 true (.load none) 75, PC 77 68 true (.bin .neq) 76 (i6 0), ⟨some 78, some (64, false), .pick, [.t 68, .t 77, .c
 (.bool false)]⟩, ⟨some 79, none, .pick, [.t 64, .c (.bool true), .t 78]⟩]).seq (C.cond (.t 79) ((C.ops [MC 2 (i6 2)]).seq C.ret) C.skip)).seq ((C.ops [MC 2 (i6 0)]).seq
 C.ret)))))))))))
theorem qv3 : zj Tryz.prog 64 80 1 [RV.tmp 2] qlx := ⟨Tryz.f64, Tryz.f64.body.getD .skip, [1], [76, 140, 144, 67, 78, 79, 80, 113], [], by kernel_rfl, by kernel_rfl, by kernel_rfl, by kernel_rfl, by kernel_rfl, by kernel_rfl, by kernel_rfl⟩
def qbT : C :=
 ((C.ops [MC 2 (.bool false)]).seq (((C.ops [MV 4 0, BC 5 .eql 4 (.str []), MV 6 5, MG 7 6 false 0, P1 8 6 false .slen 7, PC 9 6 false (.bin .gtr) 8 (i6 64), ⟨some 10, none, .pick,
 [.t 6, .c (.bool true), .t 9]⟩, MV 11 10, MG 12 11 false 0, P1 13 11 false (.call 99 true) 12, PC 14 11 false (.bin .neq) 13 (i6 0), ⟨some 15, none, .pick, [.t 11, .c (.bool true),
 .t 14]⟩]).seq (C.cond (.t 15) ((C.ops [MC 2 (.bool false)]).seq C.ret) C.skip)).seq (((C.ops [MV 16 0, OC 17 .sidx 16 (i6 0), O1 18 (.call 98 true) 17, MV 3 18]).seq ((C.ops [MV 19
 3, BC 20 .neq 19 (i6 1), MV 21 20, MG 22 21 true 3, PC 23 21 true (.bin .neq) 22 (i6 3), ⟨some 24, none, .pick, [.t 21, .t 23, .c (.bool false)]⟩]).seq (C.cond (.t 24) ((C.ops [MC
 2 (.bool false)]).seq C.ret) C.skip))).seq ((C.ops [MV 25 0, O1 26 .s2b 25, OC 27 (.call 105 true) 26 (.fn (Fn.func 106) [] []), O1 28 (.un UnOp.not) 27, MV 2 28]).seq
 C.ret))))
theorem qp6 : zj Tryz.prog 65 29 0 [RV.tmp 2] qbT := ⟨Tryz.f65, Tryz.f65.body.getD .skip, [], [76, 140, 144, 67, 78, 79, 80, 113], [], by kernel_rfl, by kernel_rfl, by kernel_rfl, by kernel_rfl, by kernel_rfl, by kernel_rfl, by kernel_rfl⟩
def qly : C :=
 ((C.ops [⟨some 4, none, .nilo 0 1 3, []⟩, MC 5 (i6 0)]).seq (((C.ops [MV 9 0, MV 10 1, O2 11 (.call 107 true) 9 10, MV 6 11]).seq ((C.ops [MV 12 6, BC 13 .neq 12 (i6 0)]).seq
 (C.cond (.t 13) ((C.ops [MV 14 6, ⟨some 4, none, .nilo 0 1 3, []⟩, MV 5 14]).seq C.ret) C.skip))).seq ((C.ops [MV 16 0, MV 17 1, O2 18 (.call 108 true) 16 17, MV 15 18, O1 19 (.ext
 0) 15, O1 20 (.ext 1) 15, MV 7 19, MV 8 20]).seq ((C.ops [MV 21 7, MV 4 21, MC 5 (i6 0)]).seq
 C.ret))))
theorem qv4 : zj Tryz.prog 66 22 1 [RV.tmp 4, RV.tmp 5] qly := ⟨Tryz.f66, Tryz.f66.body.getD .skip, [4], [76, 140, 144, 67, 78, 79, 80, 113], [], by kernel_rfl, by kernel_rfl, by kernel_rfl, by kernel_rfl, by kernel_rfl, by kernel_rfl, by kernel_rfl⟩
def qxM : C :=
 ((C.ops [⟨some 2, none, .nilo 0 1 3, []⟩]).seq (((C.ops [MV 3 0, O1 4 (.isnil .slice false) 3]).seq (C.cond (.t 4) ((C.ops [⟨some 2, none, .nilo 0 1 3, []⟩]).seq C.ret)
 C.skip)).seq ((C.ops [⟨some 5, none, .bslc 1 1 0 3 [i6 0] [], []⟩, MV 6 0, O2 7 (.app 2 1 3 8) 5 6, MV 2 7]).seq
 C.ret)))
theorem qv5 : zj Tryz.prog 67 8 3 [RV.tmp 2] qxM := ⟨Tryz.f67, Tryz.f67.body.getD .skip, [2, 5, 7], [76, 140, 144, 67, 78, 79, 80, 113], [], by kernel_rfl, by kernel_rfl, by kernel_rfl, by kernel_rfl, by kernel_rfl, by kernel_rfl, by kernel_rfl⟩
def qzy : C :=
 ((C.ops [O1 1 (.box 0 9) 0, MC 2 .nilfn]).seq ((C.ops [O1 3 (.mkfn (Fn.func 109) 0) 1, MV 2 3]).seq
 C.ret))
theorem qyl : zj Tryz.prog 68 4 1 [RV.tmp 2] qzy := ⟨Tryz.f68, Tryz.f68.body.getD .skip, [1], [76, 140, 144, 67, 78, 79, 80, 113], [], by kernel_rfl, by kernel_rfl, by kernel_rfl, by kernel_rfl, by kernel_rfl, by kernel_rfl, by kernel_rfl⟩
def qxN : C :=
 ((C.ops [O1 1 (.box 0 58) 0, MC 2 (i6 0)]).seq ((C.block 0 ((C.ops [O1 4 (.fldA 0) 1, LD 5 4, BC 6 .lss 5 (i6 1), MV 7 6, P1 8 7 false (.fldA 0) 1, P1 9 7 false (.load none) 8, PC
 10 7 false (.bin .gtr) 9 (i6 3), ⟨some 11, none, .pick, [.t 7, .c (.bool true), .t 10]⟩, MV 3 11]).seq (C.cond (.t 3) ((C.ops [MC 2 (i6 8)]).seq C.ret) ((C.ops [O1 13 (.fldA 1) 1,
 LD 14 13, O1 15 (.call 35 true) 14, O1 16 (.un UnOp.not) 15, MV 17 16, P1 18 17 false (.fldA 2) 1, P1 19 17 false (.load none) 18, P1 20 17 false (.call 35 true) 19, P1 21 17 false
 (.un UnOp.not) 20, ⟨some 22, none, .pick, [.t 17, .c (.bool true), .t 21]⟩, MV 23 22, P1 24 23 false (.fldA 3) 1, P1 25 23 false (.load none) 24, P1 26 23 false (.call 35 true) 25,
 P1 27 23 false (.un UnOp.not) 26, ⟨some 28, none, .pick, [.t 23, .c (.bool true), .t 27]⟩, MV 12 28]).seq (C.cond (.t 12) ((C.ops [MC 2 (i6 2)]).seq C.ret) ((C.ops [O1 30 (.fldA 4)
 1, LD 31 30, BC 32 .neq 31 (i6 (-10000)), MV 33 32, P1 34 33 true (.fldA 4) 1, P1 35 33 true (.load none) 34, PC 36 33 true (.bin .lss) 35 (i6 0), MG 37 33 true 36, P1 38 37 false
 (.fldA 4) 1, P1 39 37 false (.load none) 38, PC 40 37 false (.bin .gtr) 39 (i6 10000), ⟨some 41, some (33, true), .pick, [.t 37, .c (.bool true), .t 40]⟩, ⟨some 42, none, .pick,
 [.t 33, .t 41, .c (.bool false)]⟩, MV 29 42]).seq (C.cond (.t 29) ((C.ops [MC 2 (i6 2)]).seq C.ret) C.skip))))))).seq (((C.ops [O1 43 (.fldA 0) 1, LD 44 43, BC 45 .neq 44 (i6 2),
 MV 46 45, P1 47 46 true (.fldA 2) 1, P1 48 46 true (.load none) 47, PC 49 46 true (.bin .neq) 48 (i6 0), MG 50 46 true 49, P1 51 50 false (.fldA 3) 1, P1 52 50 false (.load none)
 51, PC 53 50 false (.bin .neq) 52 (i6 0), ⟨some 54, some (46, true), .pick, [.t 50, .c (.bool true), .t 53]⟩, ⟨some 55, none, .pick, [.t 46, .t 54, .c (.bool false)]⟩, MV 56 55, P1
 57 56 false (.fldA 0) 1, P1 58 56 false (.load none) 57, PC 59 56 false (.bin .neq) 58 (i6 3), MG 60 56 false 59, P1 61 60 true (.fldA 4) 1, P1 62 60 true (.load none) 61, PC 63 60
 true (.bin .neq) 62 (i6 0), ⟨some 64, some (56, false), .pick, [.t 60, .t 63, .c (.bool false)]⟩, ⟨some 65, none, .pick, [.t 56, .c (.bool true), .t 64]⟩, MV 66 65, P1 67 66 false
 (.fldA 0) 1, P1 68 66 false (.load none) 67, PC 69 66 false (.bin .eql) 68 (i6 2), MG 70 66 false 69, P1 71 70 true (.fldA 5) 1, P1 72 70 true (.load none) 71, PC 73 70 true (.bin
 .neq) 72 (.str []), ⟨some 74, some (66, false), .pick, [.t 70, .t 73, .c (.bool false)]⟩, ⟨some 75, none, .pick, [.t 66, .c (.bool true), .t 74]⟩]).seq (C.cond (.t 75) ((C.ops [MC
 2 (i6 1)]).seq C.ret) C.skip)).seq ((C.ops [MC 2 (i6 0)]).seq
 C.ret))))
theorem qv6 : zj Tryz.prog 69 76 1 [RV.tmp 2] qxN := ⟨Tryz.f69, Tryz.f69.body.getD .skip, [1], [76, 140, 144, 67, 78, 79, 80, 113], [], by kernel_rfl, by kernel_rfl, by kernel_rfl, by kernel_rfl, by kernel_rfl, by kernel_rfl, by kernel_rfl⟩
def qzz : C :=
 ((C.ops [⟨some 5, none, .alloc 0 111 [i6 0, i6 0, i6 0], []⟩]).seq ((C.ops [LD 11 1, LD 12 2, LD 13 1, O1 14 .len 13, ⟨some 15, none, .call 71 true, [.t 11, .t 12, .t 14]⟩, MV 6
 15]).seq ((C.ops [LD 16 2, MV 7 16]).seq (C.block 0 (((C.ops [MV 17 7, LD 18 1, O1 19 .len 18, BI 20 .leq 17 19]).seq (C.cond (.t 20) C.skip (C.exit 0))).seq ((C.block 1 (((C.ops
 [LD 23 1, MV 24 7, O2 25 (.call 72 true) 23 24]).seq (C.cond (.t 25) ((C.ops [LD 27 1, LD 28 3, O1 29 (.load (some 3)) 5, MV 30 7, ⟨some 31, none, .call 73 true, [.t 27, .t 28, .t
 29, .t 30]⟩, MV 26 31, O1 32 (.ext 0) 26, O1 33 (.ext 1) 26, O1 34 (.ext 2) 26, MV 8 32, MV 9 33, MV 10 34]).seq ((C.ops [MV 35 10, MV 36 35, MG 37 36 true 0, MG 38 36 true 7, MG
 39 36 true 8, P1 40 36 true (.load none) 1, MG 41 36 true 7, P2 42 36 true (.call 74 true) 40 41, P2 43 36 true (.bin .add) 39 42, ⟨some 44, some (36, true), .callv, [.t 37, .t 38,
 .t 43]⟩, P1 45 36 true (.un UnOp.not) 44, ⟨some 46, none, .pick, [.t 36, .t 45, .c (.bool false)]⟩]).seq (C.cond (.t 46) C.ret C.skip))) C.skip)).seq (((C.ops [LD 47 1, MV 48 7, O2
 49 (.call 75 true) 47 48]).seq (C.cond (.t 49) C.ret C.skip)).seq ((C.ops [MV 50 7, LD 51 1, O1 52 .len 51, BI 53 .lss 50 52, MV 54 53, MG 55 54 true 7, MG 56 54 true 6, P2 57 54
 true (.bin .geq) 55 56, ⟨some 58, none, .pick, [.t 54, .t 57, .c (.bool false)]⟩]).seq (C.cond (.t 58) (C.ops [LD 59 1, MV 60 7, O2 61 (.idxA 6) 59 60, O1 62 (.load (some 6)) 61,
 O2 63 (.call 76 false) 5 62]) C.skip))))).seq (C.ops [MV 21 7, BC 22 .add 21 (i6 1), MV 7
 22]))).loop))))
theorem qyn : zj Tryz.prog 70 64 1 [] qzz := ⟨Tryz.f70, Tryz.f70.body.getD .skip, [5], [76, 140, 144, 67, 78, 79, 80, 113], [], by kernel_rfl, by kernel_rfl, by kernel_rfl, by kernel_rfl, by kernel_rfl, by kernel_rfl, by kernel_rfl⟩
def qzA : C :=
 ((C.ops [MC 6 (i6 0)]).seq ((C.block 0 (((C.ops [MV 7 1, MV 8 2, BI 9 .lss 7 8, MV 10 9, MG 11 10 true 0, MG 12 10 true 1, P2 13 10 true (.idxA 6) 11 12, P1 14 10 true (.fldA 0)
 13, P1 15 10 true (.load none) 14, PC 16 10 true (.bin .eql) 15 (i6 2), ⟨some 17, none, .pick, [.t 10, .t 16, .c (.bool false)]⟩]).seq (C.cond (.t 17) C.skip (C.exit 0))).seq
 (C.block 1 (C.ops [MV 18 1, BC 19 .add 18 (i6 1), MV 1 19]))).loop).seq ((C.ops [MV 20 1, MV 6 20]).seq
 C.ret)))
theorem qyo : zj Tryz.prog 71 21 0 [RV.tmp 6] qzA := ⟨Tryz.f71, Tryz.f71.body.getD .skip, [], [76, 140, 144, 67, 78, 79, 80, 113], [], by kernel_rfl, by kernel_rfl, by kernel_rfl, by kernel_rfl, by kernel_rfl, by kernel_rfl, by kernel_rfl⟩
def qzB : C :=
 ((C.ops [MC 4 (.bool false)]).seq (((C.ops [MV 5 1, MV 6 0, O1 7 .len 6, BI 8 .eql 5 7]).seq (C.cond (.t 8) ((C.ops [MC 4 (.bool true)]).seq C.ret) C.skip)).seq (((C.ops [MV 9 0,
 MV 10 1, O2 11 (.idxA 6) 9 10, O1 12 (.fldA 0) 11, LD 13 12]).seq (C.block 0 ((C.ops [BC 15 .eql 13 (i6 2), MV 14 15]).seq (C.cond (.t 14) ((C.ops [MV 16 1, BC 17 .gtr 16 (i6 0),
 MV 18 17, MG 19 18 true 0, MG 20 18 true 1, PC 21 18 true (.bin .sub) 20 (i6 1), P2 22 18 true (.idxA 6) 19 21, P1 23 18 true (.fldA 0) 22, P1 24 18 true (.load none) 23, PC 25 18
 true (.bin .eql) 24 (i6 1), ⟨some 26, none, .pick, [.t 18, .t 25, .c (.bool false)]⟩, MV 4 26]).seq C.ret) ((C.ops [BC 28 .eql 13 (i6 3), MV 27 28]).seq (C.cond (.t 27) ((C.ops [MV
 29 0, MV 30 1, O2 31 (.idxA 6) 29 30, O1 32 (.fldA 4) 31, LD 33 32, BC 34 .neq 33 (i6 10000), MV 4 34]).seq C.ret) C.skip)))))).seq ((C.ops [MC 4 (.bool false)]).seq
 C.ret))))
theorem qyp : zj Tryz.prog 72 35 0 [RV.tmp 4] qzB := ⟨Tryz.f72, Tryz.f72.body.getD .skip, [], [76, 140, 144, 67, 78, 79, 80, 113], [], by kernel_rfl, by kernel_rfl, by kernel_rfl, by kernel_rfl, by kernel_rfl, by kernel_rfl, by kernel_rfl⟩
def qzC : C :=
 ((C.ops [O1 6 (.box 0 111) 2, MC 8 (i6 0), MC 9 (i6 0), MC 10 (.bool false)]).seq (((C.ops [MV 11 3, MV 12 0, O1 13 .len 12, BI 14 .lss 11 13, MV 15 14, MG 16 15 true 0, MG 17 15
 true 3, P2 18 15 true (.idxA 6) 16 17, P1 19 15 true (.fldA 0) 18, P1 20 15 true (.load none) 19, PC 21 15 true (.bin .eql) 20 (i6 3), ⟨some 22, none, .pick, [.t 15, .t 21, .c
 (.bool false)]⟩]).seq (C.cond (.t 22) (C.ops [O1 23 (.fldA 0) 6, LD 24 23, MV 25 0, MV 26 3, O2 27 (.idxA 6) 25 26, O1 28 (.fldA 1) 27, LD 29 28, BI 30 .add 24 29, O1 31 (.fldA 0)
 6, ST 1 31 30]) C.skip)).seq ((C.ops [MV 32 1, O1 33 (.fldA 0) 6, LD 34 33, BI 35 .sub 32 34, MV 9 35]).seq ((C.block 0 ((C.ops [MV 37 9, BC 38 .geq 37 (i6 0), MV 39 38, MG 40 39
 true 3, MG 41 39 true 0, P1 42 39 true .len 41, P2 43 39 true (.bin .eql) 40 42, MG 44 39 true 43, MG 45 44 false 0, MG 46 44 false 3, P2 47 44 false (.call 75 true) 45 46, ⟨some
 48, some (39, true), .pick, [.t 44, .c (.bool true), .t 47]⟩, ⟨some 49, none, .pick, [.t 39, .t 48, .c (.bool false)]⟩, MV 36 49]).seq (C.cond (.t 36) ((C.ops [MC 8 (i6 0), MC 9
 (i6 0), MC 10 (.bool true)]).seq C.ret) ((C.ops [MV 51 9, BC 52 .geq 51 (i6 0), MV 50 52]).seq (C.cond (.t 50) ((C.ops [MV 53 9, O1 54 (.fldA 1) 6, LD 55 54, O2 56 (.call 111 true)
 53 55, MV 57 9, MV 8 56, MV 9 57, MC 10 (.bool true)]).seq C.ret) ((C.ops [MV 59 9, O1 60 (.un UnOp.neg) 59, O1 61 (.fldA 2) 6, LD 62 61, BI 63 .leq 60 62, MV 58 63]).seq (C.cond
 (.t 58) ((C.ops [MV 64 9, O1 65 (.un UnOp.neg) 64, O1 66 (.fldA 2) 6, LD 67 66, O2 68 (.call 111 true) 65 67, MV 69 9, MV 8 68, MV 9 69, MC 10 (.bool true)]).seq C.ret)
 C.skip))))))).seq ((C.ops [MC 8 (i6 0), MC 9 (i6 0), MC 10 (.bool false)]).seq
 C.ret)))))
theorem qyq : zj Tryz.prog 73 70 1 [RV.tmp 8, RV.tmp 9, RV.tmp 10] qzC := ⟨Tryz.f73, Tryz.f73.body.getD .skip, [6], [76, 140, 144, 67, 78, 79, 80, 113], [], by kernel_rfl, by kernel_rfl, by kernel_rfl, by kernel_rfl, by kernel_rfl, by kernel_rfl, by kernel_rfl⟩
def qzD : C :=
 ((C.ops [MC 4 (i6 0)]).seq (((C.ops [MV 5 1, MV 6 0, O1 7 .len 6, BI 8 .lss 5 7, MV 9 8, MG 10 9 true 0, MG 11 9 true 1, P2 12 9 true (.idxA 6) 10 11, P1 13 9 true (.fldA 0) 12, P1
 14 9 true (.load none) 13, PC 15 9 true (.bin .eql) 14 (i6 3), ⟨some 16, none, .pick, [.t 9, .t 15, .c (.bool false)]⟩, MV 17 16, MG 18 17 true 0, MG 19 17 true 1, P2 20 17 true
 (.call 75 true) 18 19, P1 21 17 true (.un UnOp.not) 20, ⟨some 22, none, .pick, [.t 17, .t 21, .c (.bool false)]⟩]).seq (C.cond (.t 22) ((C.ops [MV 23 0, MV 24 1, O2 25 (.idxA 6) 23
 24, O1 26 (.fldA 4) 25, LD 27 26, MV 4 27]).seq C.ret) C.skip)).seq ((C.ops [MC 4 (i6 0)]).seq
 C.ret)))
theorem qyr : zj Tryz.prog 74 28 0 [RV.tmp 4] qzD := ⟨Tryz.f74, Tryz.f74.body.getD .skip, [], [76, 140, 144, 67, 78, 79, 80, 113], [], by kernel_rfl, by kernel_rfl, by kernel_rfl, by kernel_rfl, by kernel_rfl, by kernel_rfl, by kernel_rfl⟩
def qzE : C :=
 ((C.ops [MC 4 (.bool false)]).seq ((C.ops [MV 5 1, MV 6 0, O1 7 .len 6, BI 8 .lss 5 7, MV 9 8, MG 10 9 true 0, MG 11 9 true 1, P2 12 9 true (.idxA 6) 10 11, P1 13 9 true (.fldA 0)
 12, P1 14 9 true (.load none) 13, PC 15 9 true (.bin .eql) 14 (i6 3), ⟨some 16, none, .pick, [.t 9, .t 15, .c (.bool false)]⟩, MV 17 16, MG 18 17 true 0, MG 19 17 true 1, P2 20 17
 true (.idxA 6) 18 19, P1 21 17 true (.fldA 4) 20, P1 22 17 true (.load none) 21, PC 23 17 true (.bin .eql) 22 (i6 (-10000)), ⟨some 24, none, .pick, [.t 17, .t 23, .c (.bool
 false)]⟩, MV 4 24]).seq
 C.ret))
theorem qys : zj Tryz.prog 75 25 0 [RV.tmp 4] qzE := ⟨Tryz.f75, Tryz.f75.body.getD .skip, [], [76, 140, 144, 67, 78, 79, 80, 113], [], by kernel_rfl, by kernel_rfl, by kernel_rfl, by kernel_rfl, by kernel_rfl, by kernel_rfl, by kernel_rfl⟩
def qzF : C :=
 ((C.ops [O1 3 (.box 0 58) 1]).seq ((C.ops [O1 4 (.fldA 0) 3, LD 5 4, BC 6 .neq 5 (i6 3)]).seq (C.cond (.t 6) ((C.ops [MV 7 0, O1 8 .nilchk 7, O1 9 (.fldA 0) 8, LD 10 9, O1 11
 (.fldA 1) 3, LD 12 11, BI 13 .add 10 12, O1 14 .nilchk 7, O1 15 (.fldA 0) 14, ST 1 15 13]).seq ((C.ops [MV 16 0, O1 17 .nilchk 16, O1 18 (.fldA 1) 17, LD 19 18, O1 20 (.fldA 2) 3,
 LD 21 20, BI 22 .add 19 21, O1 23 .nilchk 16, O1 24 (.fldA 1) 23, ST 1 24 22]).seq (C.ops [MV 25 0, O1 26 .nilchk 25, O1 27 (.fldA 2) 26, LD 28 27, O1 29 (.fldA 3) 3, LD 30 29, BI
 31 .add 28 30, O1 32 .nilchk 25, O1 33 (.fldA 2) 32, ST 1 33 31])))
 C.skip)))
theorem qyt : zj Tryz.prog 76 34 1 [] qzF := ⟨Tryz.f76, Tryz.f76.body.getD .skip, [3], [76, 140, 144, 67, 78, 79, 80, 113], [], by kernel_rfl, by kernel_rfl, by kernel_rfl, by kernel_rfl, by kernel_rfl, by kernel_rfl, by kernel_rfl⟩
def qzG : C :=
 ((C.ops [MC 4 (.bool false)]).seq ((C.ops [MV 5 0, MV 6 1, O2 7 (.call 112 true) 5 6, BC 8 .geq 7 (i6 0), MV 4 8]).seq
 C.ret))
theorem qyu : zj Tryz.prog 77 9 0 [RV.tmp 4] qzG := ⟨Tryz.f77, Tryz.f77.body.getD .skip, [], [76, 140, 144, 67, 78, 79, 80, 113], [], by kernel_rfl, by kernel_rfl, by kernel_rfl, by kernel_rfl, by kernel_rfl, by kernel_rfl, by kernel_rfl⟩
def qzH : C :=
 ((C.ops [MC 4 (i6 0), MC 5 .nilif]).seq ((C.ops [MV 6 0, O1 7 (.call 113 false) 6]).seq ((C.ops [MV 8 0, MV 9 0, O1 10 .nilchk 9, O1 11 (.fldA 1) 10, LD 12 11, MV 13 1, O2 14
 (.apps 0 5) 12 13, O1 15 .nilchk 8, O1 16 (.fldA 1) 15, ST 1 16 14]).seq ((C.ops [MV 17 1, O1 18 .slen 17, MV 4 18, MC 5 .nilif]).seq
 C.ret))))
theorem qyv : zj Tryz.prog 78 19 1 [RV.tmp 4, RV.tmp 5] qzH := ⟨Tryz.f78, Tryz.f78.body.getD .skip, [14], [76, 140, 144, 67, 78, 79, 80, 113], [], by kernel_rfl, by kernel_rfl, by kernel_rfl, by kernel_rfl, by kernel_rfl, by kernel_rfl, by kernel_rfl⟩
def qzI : C :=
 ((C.ops [MC 4 .nilif]).seq ((C.ops [MV 5 0, O1 6 (.call 113 false) 5]).seq ((C.ops [MV 7 0, MV 8 0, O1 9 .nilchk 8, O1 10 (.fldA 1) 9, LD 11 10, MV 12 1, ⟨some 13, none, .bslc 0 1
 1 5 [.int .u8 0] [(0, 1)], [.t 12]⟩, O2 14 (.app 1 1 5 1) 11 13, O1 15 .nilchk 7, O1 16 (.fldA 1) 15, ST 1 16 14]).seq ((C.ops [MC 4 .nilif]).seq
 C.ret))))
theorem qyw : zj Tryz.prog 79 17 2 [RV.tmp 4] qzI := ⟨Tryz.f79, Tryz.f79.body.getD .skip, [13, 14], [76, 140, 144, 67, 78, 79, 80, 113], [], by kernel_rfl, by kernel_rfl, by kernel_rfl, by kernel_rfl, by kernel_rfl, by kernel_rfl, by kernel_rfl⟩
def qxO : C :=
 ((C.ops [MC 4 (.bool false)]).seq ((C.ops [MV 5 0, O1 6 .slen 5, MV 7 1, O1 8 .slen 7, BI 9 .geq 6 8, MV 10 9, MG 11 10 true 0, MG 12 10 true 0, P1 13 10 true .slen 12, MG 14 10
 true 1, P1 15 10 true .slen 14, P2 16 10 true (.bin .sub) 13 15, P2 17 10 true (.sslc true false) 11 16, MG 18 10 true 1, P2 19 10 true (.bin .eql) 17 18, ⟨some 20, none, .pick,
 [.t 10, .t 19, .c (.bool false)]⟩, MV 4 20]).seq
 C.ret))
theorem qv7 : zj Tryz.prog 81 21 0 [RV.tmp 4] qxO := ⟨Tryz.f81, Tryz.f81.body.getD .skip, [], [76, 140, 144, 67, 78, 79, 80, 113], [], by kernel_rfl, by kernel_rfl, by kernel_rfl, by kernel_rfl, by kernel_rfl, by kernel_rfl, by kernel_rfl⟩
def quu : C :=
 ((C.ops [MC 4 (.str [])]).seq ((C.ops [MV 5 0, MV 6 1, O2 7 (.call 127 true) 5 6, MV 4 7]).seq
 C.ret))
theorem qyz : zj Tryz.prog 96 8 0 [RV.tmp 4] quu := ⟨Tryz.f96, Tryz.f96.body.getD .skip, [], [76, 140, 144, 67, 78, 79, 80, 113], [], by kernel_rfl, by kernel_rfl, by kernel_rfl, by kernel_rfl, by kernel_rfl, by kernel_rfl, by kernel_rfl⟩
def qst : C :=
 ((C.ops [MC 2 (.bool false)]).seq ((C.ops [MV 4 0, O1 5 (.call 98 true) 4, MV 3 5]).seq ((C.ops [MV 6 3, BC 7 .eql 6 (i6 1), MV 8 7, MG 9 8 false 3, PC 10 8 false (.bin .eql) 9 (i6
 2), ⟨some 11, none, .pick, [.t 8, .c (.bool true), .t 10]⟩, MV 12 11, MG 13 12 false 3, PC 14 12 false (.bin .eql) 13 (i6 4), ⟨some 15, none, .pick, [.t 12, .c (.bool true), .t
 14]⟩, MV 2 15]).seq
 C.ret)))
theorem qyA : zj Tryz.prog 97 16 0 [RV.tmp 2] qst := ⟨Tryz.f97, Tryz.f97.body.getD .skip, [], [76, 140, 144, 67, 78, 79, 80, 113], [], by kernel_rfl, by kernel_rfl, by kernel_rfl, by kernel_rfl, by kernel_rfl, by kernel_rfl, by kernel_rfl⟩
def qzL : C :=
 ((C.ops [MC 2 (i6 0)]).seq ((C.block 0 ((C.ops [MV 4 0, BC 5 .geq 4 (.int .u8 97), MV 6 5, MG 7 6 true 0, PC 8 6 true (.bin .leq) 7 (.int .u8 122), ⟨some 9, none, .pick, [.t 6, .t
 8, .c (.bool false)]⟩, MV 10 9, MG 11 10 false 0, PC 12 10 false (.bin .geq) 11 (.int .u8 65), MG 13 10 false 12, MG 14 13 true 0, PC 15 13 true (.bin .leq) 14 (.int .u8 90), ⟨some
 16, some (10, false), .pick, [.t 13, .t 15, .c (.bool false)]⟩, ⟨some 17, none, .pick, [.t 10, .c (.bool true), .t 16]⟩, MV 3 17]).seq (C.cond (.t 3) ((C.ops [MC 2 (i6 1)]).seq
 C.ret) ((C.ops [MV 19 0, BC 20 .eql 19 (.int .u8 94), MV 21 20, MG 22 21 false 0, PC 23 21 false (.bin .eql) 22 (.int .u8 126), ⟨some 24, none, .pick, [.t 21, .c (.bool true), .t
 23]⟩, MV 25 24, MG 26 25 false 0, PC 27 25 false (.bin .eql) 26 (.int .u8 37), ⟨some 28, none, .pick, [.t 25, .c (.bool true), .t 27]⟩, MV 18 28]).seq (C.cond (.t 18) ((C.ops [MC 2
 (i6 2)]).seq C.ret) ((C.ops [MV 30 0, BC 31 .geq 30 (.int .u8 48), MV 32 31, MG 33 32 true 0, PC 34 32 true (.bin .leq) 33 (.int .u8 57), ⟨some 35, none, .pick, [.t 32, .t 34, .c
 (.bool false)]⟩, MV 29 35]).seq (C.cond (.t 29) ((C.ops [MC 2 (i6 3)]).seq C.ret) ((C.ops [MV 37 0, BC 38 .eql 37 (.int .u8 39), MV 36 38]).seq (C.cond (.t 36) ((C.ops [MC 2 (i6
 4)]).seq C.ret) ((C.ops [MV 40 0, BC 41 .eql 40 (.int .u8 32), MV 39 41]).seq (C.cond (.t 39) ((C.ops [MC 2 (i6 6)]).seq C.ret) ((C.ops [MV 43 0, BC 44 .neq 43 (.int .u8 0), MV 45
 44, MG 46 45 true 0, ⟨some 47, some (45, true), .call 123 true, [.c (.str [46, 44, 59, 58, 33, 63, 40, 41, 45]), .t 46]⟩, PC 48 45 true (.bin .geq) 47 (i6 0), ⟨some 49, none,
 .pick, [.t 45, .t 48, .c (.bool false)]⟩, MV 42 49]).seq (C.cond (.t 42) ((C.ops [MC 2 (i6 5)]).seq C.ret) C.skip))))))))))))).seq ((C.ops [MC 2 (i6 0)]).seq
 C.ret)))
theorem qyB : zj Tryz.prog 98 50 0 [RV.tmp 2] qzL := ⟨Tryz.f98, Tryz.f98.body.getD .skip, [], [76, 140, 144, 67, 78, 79, 80, 113], [], by kernel_rfl, by kernel_rfl, by kernel_rfl, by kernel_rfl, by kernel_rfl, by kernel_rfl, by kernel_rfl⟩
def qgB : C :=
 ((C.ops [⟨some 2, none, .alloc 0 39 [i6 0], []⟩]).seq (((C.ops [MV 6 0, O1 7 .slen 6, BC 8 .gtr 7 (i6 65536)]).seq (C.cond (.t 8) ((C.ops [⟨none, none, .store 1, [.t 2, .c (i6
 4)]⟩]).seq C.ret) C.skip)).seq (((C.ops [MV 9 0, O1 10 (.call 68 true) 9]).seq (C.block 0 (C.range (.t 10) [11, 12] (C.ops [MV 4 12]) (C.block 1 ((C.ops [MV 13 4, OC 14 .sidx 13
 (i6 0), O1 15 (.call 98 true) 14, MV 5 15]).seq ((C.ops [MV 16 5, BC 17 .eql 16 (i6 0), MV 18 17, MG 19 18 false 5, PC 20 18 false (.bin .eql) 19 (i6 2), ⟨some 21, none, .pick, [.t
 18, .c (.bool true), .t 20]⟩]).seq (C.cond (.t 21) ((C.ops [⟨none, none, .store 1, [.t 2, .c (i6 11)]⟩]).seq C.ret) C.skip))))))).seq ((C.ops [⟨none, none, .store 1, [.t 2, .c (i6
 0)]⟩]).seq
 C.ret))))
theorem qwa : zj Tryz.prog 99 22 1 [RV.cell 2 none] qgB := ⟨Tryz.f99, Tryz.f99.body.getD .skip, [2], [76, 140, 144, 67, 78, 79, 80, 113], [], by kernel_rfl, by kernel_rfl, by kernel_rfl, by kernel_rfl, by kernel_rfl, by kernel_rfl, by kernel_rfl⟩
def qbs : C :=
 ((C.ops [⟨some 2, none, .nilo 0 1 9, []⟩]).seq ((C.ops [MV 3 0, O1 4 (.call 39 true) 3, MV 2 4]).seq
 C.ret))
theorem qvp : zj Tryz.prog 100 5 1 [RV.tmp 2] qbs := ⟨Tryz.f100, Tryz.f100.body.getD .skip, [2], [76, 140, 144, 67, 78, 79, 80, 113], [], by kernel_rfl, by kernel_rfl, by kernel_rfl, by kernel_rfl, by kernel_rfl, by kernel_rfl, by kernel_rfl⟩
def qiC : C :=
 ((C.ops [MC 4 (.bool false)]).seq ((C.ops [MV 5 0, MV 6 1, O2 7 (.call 128 true) 5 6, BC 8 .geq 7 (i6 0), MV 4 8]).seq
 C.ret))
theorem qvq : zj Tryz.prog 101 9 0 [RV.tmp 4] qiC := ⟨Tryz.f101, Tryz.f101.body.getD .skip, [], [76, 140, 144, 67, 78, 79, 80, 113], [], by kernel_rfl, by kernel_rfl, by kernel_rfl, by kernel_rfl, by kernel_rfl, by kernel_rfl, by kernel_rfl⟩
def quJ : C :=
 ((C.ops [MC 2 (.bool false)]).seq ((C.ops [MV 3 0, BC 4 .lss 3 (i6 0), MV 5 4, MG 6 5 false 0, PC 7 5 false (.bin .gtr) 6 (i6 9), ⟨some 8, none, .pick, [.t 5, .c (.bool true), .t
 7]⟩, MV 2 8]).seq
 C.ret))
theorem qvr : zj Tryz.prog 102 9 0 [RV.tmp 2] quJ := ⟨Tryz.f102, Tryz.f102.body.getD .skip, [], [76, 140, 144, 67, 78, 79, 80, 113], [], by kernel_rfl, by kernel_rfl, by kernel_rfl, by kernel_rfl, by kernel_rfl, by kernel_rfl, by kernel_rfl⟩
def qiD : C :=
 ((C.ops [MC 4 (.bool false)]).seq ((C.ops [MV 5 0, MV 6 1, O2 7 (.call 129 true) 5 6, MV 4 7]).seq
 C.ret))
theorem qvs : zj Tryz.prog 103 8 0 [RV.tmp 4] qiD := ⟨Tryz.f103, Tryz.f103.body.getD .skip, [], [76, 140, 144, 67, 78, 79, 80, 113], [], by kernel_rfl, by kernel_rfl, by kernel_rfl, by kernel_rfl, by kernel_rfl, by kernel_rfl, by kernel_rfl⟩
def qiE : C :=
 ((C.ops [MC 4 (.bool false)]).seq ((C.ops [MV 5 0, MV 6 1, O2 7 (.call 81 true) 5 6, MV 4 7]).seq
 C.ret))
theorem qvt : zj Tryz.prog 104 8 0 [RV.tmp 4] qiE := ⟨Tryz.f104, Tryz.f104.body.getD .skip, [], [76, 140, 144, 67, 78, 79, 80, 113], [], by kernel_rfl, by kernel_rfl, by kernel_rfl, by kernel_rfl, by kernel_rfl, by kernel_rfl, by kernel_rfl⟩
def quK : C :=
 ((C.ops [MC 4 (.bool false)]).seq ((C.ops [MV 5 0, MV 6 1, O2 7 (.call 130 true) 5 6, BC 8 .geq 7 (i6 0), MV 4 8]).seq
 C.ret))
theorem qvu : zj Tryz.prog 105 9 0 [RV.tmp 4] quK := ⟨Tryz.f105, Tryz.f105.body.getD .skip, [], [76, 140, 144, 67, 78, 79, 80, 113], [], by kernel_rfl, by kernel_rfl, by kernel_rfl, by kernel_rfl, by kernel_rfl, by kernel_rfl, by kernel_rfl⟩
def quL : C :=
 ((C.ops [MC 2 (.bool false)]).seq ((C.ops [MV 4 0, O1 5 (.call 98 true) 4, MV 3 5]).seq ((C.ops [MV 6 3, BC 7 .eql 6 (i6 5), MV 8 7, MG 9 8 false 3, PC 10 8 false (.bin .eql) 9 (i6
 6), ⟨some 11, none, .pick, [.t 8, .c (.bool true), .t 10]⟩, MV 2 11]).seq
 C.ret)))
theorem qvv : zj Tryz.prog 106 12 0 [RV.tmp 2] quL := ⟨Tryz.f106, Tryz.f106.body.getD .skip, [], [76, 140, 144, 67, 78, 79, 80, 113], [], by kernel_rfl, by kernel_rfl, by kernel_rfl, by kernel_rfl, by kernel_rfl, by kernel_rfl, by kernel_rfl⟩
def qcF : C :=
 ((C.ops [MC 4 (i6 0)]).seq ((C.block 0 ((C.ops [MV 6 0, O1 7 (.call 36 true) 6, BC 8 .neq 7 (i6 0), MV 5 8]).seq (C.cond (.t 5) ((C.ops [MC 4 (i6 1)]).seq C.ret) ((C.ops [MV 10 1,
 O1 11 (.call 65 true) 10, O1 12 (.un UnOp.not) 11, MV 9 12]).seq (C.cond (.t 9) ((C.ops [MC 4 (i6 11)]).seq C.ret) C.skip))))).seq ((C.ops [MC 4 (i6 0)]).seq
 C.ret)))
theorem qmo : zj Tryz.prog 107 13 0 [RV.tmp 4] qcF := ⟨Tryz.f107, Tryz.f107.body.getD .skip, [], [76, 140, 144, 67, 78, 79, 80, 113], [], by kernel_rfl, by kernel_rfl, by kernel_rfl, by kernel_rfl, by kernel_rfl, by kernel_rfl, by kernel_rfl⟩
def qiF : C :=
 ((C.ops [⟨some 4, none, .nilo 0 1 3, []⟩, ⟨some 5, none, .nilo 1 1 3, []⟩]).seq ((C.ops [⟨some 6, none, .nilo 2 1 3, []⟩, ⟨some 7, none, .nilo 3 1 3, []⟩]).seq ((C.ops [MV 12 1, O1
 13 (.call 100 true) 12, MV 8 13]).seq ((C.ops [MC 9 (i6 0)]).seq (((C.ops [MV 14 0, MV 15 1, O2 16 (.call 131 true) 14 15, O1 17 .len 16, MC 18 (i6 0)]).seq (C.block 0 ((C.ops [BI
 19 .lss 18 17]).seq ((C.cond (.t 19) C.skip (C.exit 0)).seq ((C.block 1 ((C.ops [MV 20 18, O2 21 (.idxA 1) 16 18, LD 22 21, MV 10 20, MV 11 22]).seq ((C.ops [MV 23 9, MV 24 8, MV
 25 10, O2 26 (.idxA 1) 24 25, LD 27 26, O1 28 .slen 27, BI 29 .add 23 28, MV 9 29]).seq ((C.ops [MV 30 11, BC 31 .rem 30 (i6 2), BC 32 .eql 31 (i6 1), MV 33 32, MG 34 33 true 10,
 PC 35 33 true (.bin .geq) 34 (i6 1), ⟨some 36, none, .pick, [.t 33, .t 35, .c (.bool false)]⟩, MV 37 36, MG 38 37 true 8, P1 39 37 true .len 38, MG 40 37 true 10, P2 41 37 true
 (.bin .sub) 39 40, PC 42 37 true (.bin .sub) 41 (i6 1), PC 43 37 true (.bin .geq) 42 (i6 2), ⟨some 44, none, .pick, [.t 37, .t 43, .c (.bool false)]⟩]).seq (C.cond (.t 44) (C.ops
 [MV 45 6, MV 46 9, ⟨some 47, none, .bslc 4 1 1 3 [i6 0] [(0, 1)], [.t 46]⟩, O2 48 (.app 5 1 3 8) 45 47, MV 49 7, MV 50 11, ⟨some 51, none, .bslc 6 1 1 3 [i6 0] [(0, 1)], [.t 50]⟩,
 O2 52 (.app 7 1 3 8) 49 51, MV 6 48, MV 7 52]) C.skip))))).seq (C.ops [BC 53 .add 18 (i6 1), MV 18 53])))).loop)).seq ((C.ops [MV 54 6, MV 55 7, MV 4 54, MV 5 55]).seq
 C.ret))))))
theorem qvw : zj Tryz.prog 108 56 8 [RV.tmp 4, RV.tmp 5] qiF := ⟨Tryz.f108, Tryz.f108.body.getD .skip, [4, 5, 6, 7, 47, 48, 51, 52], [76, 140, 144, 67, 78, 79, 80, 113], [], by kernel_rfl, by kernel_rfl, by kernel_rfl, by kernel_rfl, by kernel_rfl, by kernel_rfl, by kernel_rfl⟩
def quM : C :=
 ((C.ops [MC 3 (i6 0)]).seq ((C.ops [MC 4 (i6 1)]).seq (C.block 0 (((C.ops [MV 5 4, LD 6 1, O1 7 .slen 6, BI 8 .leq 5 7]).seq (C.cond (.t 8) C.skip (C.exit 0))).seq ((C.block 1
 (((C.ops [MV 11 4, LD 12 1, O1 13 .slen 12, BI 14 .lss 11 13, MV 15 14, P1 16 15 true (.load none) 1, MG 17 15 true 4, P2 18 15 true .sidx 16 17, P1 19 15 true (.call 98 true) 18,
 PC 20 15 true (.bin .eql) 19 (i6 2), ⟨some 21, none, .pick, [.t 15, .t 20, .c (.bool false)]⟩, MV 22 21, P1 23 22 true (.load none) 1, MG 24 22 true 3, MG 25 22 true 4, ⟨some 26,
 some (22, true), .call 110 true, [.t 23, .t 24, .t 25]⟩, ⟨some 27, none, .pick, [.t 22, .t 26, .c (.bool false)]⟩]).seq (C.cond (.t 27) (C.exit 1) C.skip)).seq (((C.ops [MV 28 0,
 MV 29 3, LD 30 1, MV 31 3, MV 32 4, ⟨some 33, none, .sslc true true, [.t 30, .t 31, .t 32]⟩, ⟨some 34, none, .callv, [.t 28, .t 29, .t 33]⟩, O1 35 (.un UnOp.not) 34]).seq (C.cond
 (.t 35) C.ret C.skip)).seq (C.ops [MV 36 4, MV 3 36])))).seq (C.ops [MV 9 4, BC 10 .add 9 (i6 1), MV 4
 10]))).loop)))
theorem qvx : zj Tryz.prog 109 37 0 [] quM := ⟨Tryz.f109, Tryz.f109.body.getD .skip, [], [76, 140, 144, 67, 78, 79, 80, 113], [], by kernel_rfl, by kernel_rfl, by kernel_rfl, by kernel_rfl, by kernel_rfl, by kernel_rfl, by kernel_rfl⟩
def quN : C :=
 ((C.ops [MC 6 (.bool false)]).seq ((C.ops [MV 7 0, MV 8 1, O2 9 .sidx 7 8, O1 10 (.call 98 true) 9, BC 11 .eql 10 (i6 1), MV 12 11, MG 13 12 true 2, MG 14 12 true 1, P2 15 12 true
 (.bin .gtr) 13 14, ⟨some 16, none, .pick, [.t 12, .t 15, .c (.bool false)]⟩, MV 6 16]).seq
 C.ret))
theorem qvz : zj Tryz.prog 110 17 0 [RV.tmp 6] quN := ⟨Tryz.f110, Tryz.f110.body.getD .skip, [], [76, 140, 144, 67, 78, 79, 80, 113], [], by kernel_rfl, by kernel_rfl, by kernel_rfl, by kernel_rfl, by kernel_rfl, by kernel_rfl, by kernel_rfl⟩
def qpp : C :=
 ((C.ops [MC 4 (i6 0)]).seq ((C.ops [MV 12 0, O1 13 (.conv .u64) 12, MV 5 13]).seq (((C.ops [MV 14 0, BC 15 .lss 14 (i6 0)]).seq (C.cond (.t 15) (C.ops [MV 16 5, O1 17 (.un
 UnOp.neg) 16, MV 5 17]) C.skip)).seq ((C.ops [MV 18 5, OC 19 (.mm false) 18 (.int .u64 1073741824), MV 5 19]).seq (((C.ops [MV 20 5, BC 21 .eql 20 (.int .u64 0)]).seq (C.cond (.t
 21) ((C.ops [MC 4 (i6 0)]).seq C.ret) C.skip)).seq (((C.ops [MV 22 1, BC 23 .leq 22 (i6 0)]).seq (C.cond (.t 23) ((C.ops [MC 4 (i6 10000)]).seq C.ret) C.skip)).seq ((C.ops [MV 24
 1, OC 25 (.mm false) 24 (i6 1073741824), O1 26 (.conv .u64) 25, MV 6 26]).seq ((C.ops [MV 27 6, ⟨some 28, none, .build [.int .u64 0, .int .u64 0] [(0, 1), (1, 1)], [.c (.int .u64
 0), .t 27]⟩, MV 29 6, O2 30 (.call 132 true) 28 29, MV 31 6, O2 32 (.call 132 true) 30 31, ⟨some 7, none, .alloc 0 172 [.int .u64 0, .int .u64 0], []⟩, ST 2 7 32]).seq ((C.ops [MV
 33 5, ⟨some 34, none, .build [.int .u64 0, .int .u64 0] [(0, 1), (1, 1)], [.c (.int .u64 0), .t 33]⟩, MV 35 5, O2 36 (.call 132 true) 34 35, MV 37 5, O2 38 (.call 132 true) 36 37,
 OC 39 (.call 132 true) 38 (.int .u64 100), ⟨some 8, none, .alloc 1 172 [.int .u64 0, .int .u64 0], []⟩, ST 2 8 39]).seq ((C.ops [MC 9 (i6 0), MC 10 (i6 10001)]).seq ((C.block 0
 (((C.ops [MV 40 10, MV 41 9, BI 42 .sub 40 41, BC 43 .gtr 42 (i6 1)]).seq (C.cond (.t 43) C.skip (C.exit 0))).seq (C.block 1 ((C.ops [MV 44 9, MV 45 10, BI 46 .add 44 45, BC 47
 .quo 46 (i6 2), MV 11 47]).seq ((C.ops [O1 48 (.load (some 2)) 7, MV 49 11, O1 50 (.conv .u64) 49, O2 51 (.call 132 true) 48 50, O1 52 (.load (some 2)) 8, O2 53 (.call 133 true) 51
 52]).seq (C.cond (.t 53) (C.ops [MV 54 11, MV 10 54]) (C.ops [MV 55 11, MV 9 55])))))).loop).seq ((C.ops [MV 56 9, MV 4 56]).seq
 C.ret))))))))))))
theorem qmp : zj Tryz.prog 111 57 2 [RV.tmp 4] qpp := ⟨Tryz.f111, Tryz.f111.body.getD .skip, [7, 8], [76, 140, 144, 67, 78, 79, 80, 113], [], by kernel_rfl, by kernel_rfl, by kernel_rfl, by kernel_rfl, by kernel_rfl, by kernel_rfl, by kernel_rfl⟩
def quO : C :=
 ((C.ops [MC 4 (i6 0)]).seq (((C.ops [MV 6 0, O1 7 .len 6, MC 8 (i6 0)]).seq (C.block 0 ((C.ops [BI 9 .lss 8 7]).seq ((C.cond (.t 9) C.skip (C.exit 0)).seq ((C.block 1 ((C.ops [MV
 10 8, MV 5 10]).seq ((C.ops [MV 11 1, MV 12 0, MV 13 5, O2 14 (.idxA 1) 12 13, LD 15 14, BI 16 .eql 11 15]).seq (C.cond (.t 16) ((C.ops [MV 17 5, MV 4 17]).seq C.ret)
 C.skip)))).seq (C.ops [BC 18 .add 8 (i6 1), MV 8 18])))).loop)).seq ((C.ops [MC 4 (i6 (-1))]).seq
 C.ret)))
theorem qvA : zj Tryz.prog 112 19 0 [RV.tmp 4] quO := ⟨Tryz.f112, Tryz.f112.body.getD .skip, [], [76, 140, 144, 67, 78, 79, 80, 113], [], by kernel_rfl, by kernel_rfl, by kernel_rfl, by kernel_rfl, by kernel_rfl, by kernel_rfl, by kernel_rfl⟩
def quU : C :=
 ((C.ops [MC 4 (i6 0)]).seq ((C.ops [MV 5 0, MV 6 1, O2 7 (.call 92 true) 5 6, MV 4 7]).seq
 C.ret))
theorem qvG : zj Tryz.prog 123 8 0 [RV.tmp 4] quU := ⟨Tryz.f123, Tryz.f123.body.getD .skip, [], [76, 140, 144, 67, 78, 79, 80, 113], [], by kernel_rfl, by kernel_rfl, by kernel_rfl, by kernel_rfl, by kernel_rfl, by kernel_rfl, by kernel_rfl⟩
def qsp : C :=
 ((C.ops [MC 4 (.str [])]).seq (((C.ops [MV 5 0, MV 6 1, O2 7 (.call 129 true) 5 6]).seq (C.cond (.t 7) ((C.ops [MV 8 0, MV 9 1, O1 10 .slen 9, O2 11 (.sslc true false) 8 10, MV 4
 11]).seq C.ret) C.skip)).seq ((C.ops [MV 12 0, MV 4 12]).seq
 C.ret)))
theorem qrS : zj Tryz.prog 127 13 0 [RV.tmp 4] qsp := ⟨Tryz.f127, Tryz.f127.body.getD .skip, [], [76, 140, 144, 67, 78, 79, 80, 113], [], by kernel_rfl, by kernel_rfl, by kernel_rfl, by kernel_rfl, by kernel_rfl, by kernel_rfl, by kernel_rfl⟩
def quV : C :=
 ((C.ops [MC 4 (i6 0)]).seq (((C.ops [MV 6 0, O1 7 .len 6, MC 8 (i6 0)]).seq (C.block 0 ((C.ops [BI 9 .lss 8 7]).seq ((C.cond (.t 9) C.skip (C.exit 0)).seq ((C.block 1 ((C.ops [MV
 10 8, MV 5 10]).seq ((C.ops [MV 11 1, MV 12 0, MV 13 5, O2 14 (.idxA 1) 12 13, LD 15 14, O2 16 .callv 11 15]).seq (C.cond (.t 16) ((C.ops [MV 17 5, MV 4 17]).seq C.ret)
 C.skip)))).seq (C.ops [BC 18 .add 8 (i6 1), MV 8 18])))).loop)).seq ((C.ops [MC 4 (i6 (-1))]).seq
 C.ret)))
theorem qvH : zj Tryz.prog 128 19 0 [RV.tmp 4] quV := ⟨Tryz.f128, Tryz.f128.body.getD .skip, [], [76, 140, 144, 67, 78, 79, 80, 113], [], by kernel_rfl, by kernel_rfl, by kernel_rfl, by kernel_rfl, by kernel_rfl, by kernel_rfl, by kernel_rfl⟩
def qsq : C :=
 ((C.ops [MC 4 (.bool false)]).seq ((C.ops [MV 5 0, O1 6 .slen 5, MV 7 1, O1 8 .slen 7, BI 9 .geq 6 8, MV 10 9, MG 11 10 true 0, MG 12 10 true 1, P1 13 10 true .slen 12, P2 14 10
 true (.sslc false true) 11 13, MG 15 10 true 1, P2 16 10 true (.bin .eql) 14 15, ⟨some 17, none, .pick, [.t 10, .t 16, .c (.bool false)]⟩, MV 4 17]).seq
 C.ret))
theorem qrT : zj Tryz.prog 129 18 0 [RV.tmp 4] qsq := ⟨Tryz.f129, Tryz.f129.body.getD .skip, [], [76, 140, 144, 67, 78, 79, 80, 113], [], by kernel_rfl, by kernel_rfl, by kernel_rfl, by kernel_rfl, by kernel_rfl, by kernel_rfl, by kernel_rfl⟩
def quW : C :=
 ((C.ops [MC 4 (i6 0)]).seq (((C.ops [MV 6 0, O1 7 .len 6, MC 8 (i6 0)]).seq (C.block 0 ((C.ops [BI 9 .lss 8 7]).seq ((C.cond (.t 9) C.skip (C.exit 0)).seq ((C.block 1 ((C.ops [MV
 10 8, MV 5 10]).seq ((C.ops [MV 11 1, MV 12 0, MV 13 5, O2 14 (.idxA 1) 12 13, LD 15 14, O2 16 .callv 11 15]).seq (C.cond (.t 16) ((C.ops [MV 17 5, MV 4 17]).seq C.ret)
 C.skip)))).seq (C.ops [BC 18 .add 8 (i6 1), MV 8 18])))).loop)).seq ((C.ops [MC 4 (i6 (-1))]).seq
 C.ret)))
theorem qvI : zj Tryz.prog 130 19 0 [RV.tmp 4] quW := ⟨Tryz.f130, Tryz.f130.body.getD .skip, [], [76, 140, 144, 67, 78, 79, 80, 113], [], by kernel_rfl, by kernel_rfl, by kernel_rfl, by kernel_rfl, by kernel_rfl, by kernel_rfl, by kernel_rfl⟩
def qgN : C :=
 ((C.ops [⟨some 4, none, .nilo 0 1 3, []⟩]).seq ((C.ops [⟨some 13, none, .bslc 1 1 1 9 [.str []] [(0, 1)], [.c (.str [46])]⟩, MV 14 1, O1 15 (.call 139 true) 14, ⟨some 16, none,
 .bslc 2 1 1 9 [.str []] [(0, 1)], [.c (.str [46])]⟩, ⟨some 17, none, .bslc 3 1 3 23 [.nl] [(0, 1), (1, 1), (2, 1)], [.t 13, .t 15, .t 16]⟩, O1 18 (.call 138 true) 17, MV 5 18]).seq
 ((C.ops [MV 19 5, O1 20 .len 19, BC 21 .add 20 (i6 1), ⟨some 22, none, .mkslc 4 1 3 [i6 0] 8, [.t 21, .t 21]⟩, ⟨some 6, none, .alloc 5 42 [.nl], []⟩, ST 1 6 22]).seq ((C.ops [O1 23
 (.mkfn (Fn.func 140) 0) 6, ⟨some 7, none, .alloc 6 179 [.nilfn], []⟩, ST 1 7 23]).seq (((C.ops [MV 24 0, O1 25 .len 24, MC 26 (i6 0)]).seq (C.block 0 ((C.ops [BI 27 .lss 26
 25]).seq ((C.cond (.t 27) C.skip (C.exit 0)).seq ((C.block 1 ((C.ops [O2 28 (.idxA 2) 24 26, O1 29 (.load (some 2)) 28, ⟨some 9, none, .alloc 7 61 [.str [], .nl], []⟩, ST 2 9
 29]).seq ((C.ops [O1 30 (.fldA 0) 9, LD 31 30, O1 32 (.call 139 true) 31, MV 33 5, O2 34 (.call 141 true) 32 33]).seq (C.block 2 (C.range (.t 34) [35] (C.ops [MV 10 35]) (C.block 3
 ((C.ops [O1 36 (.fldA 1) 9, LD 37 36, O1 38 .len 37, MC 39 (i6 0)]).seq (C.block 4 ((C.ops [BI 40 .lss 39 38]).seq ((C.cond (.t 40) C.skip (C.exit 4)).seq ((C.block 5 ((C.ops [MV
 41 39, O2 42 (.idxA 1) 37 39, LD 43 42, MV 11 41, MV 12 43]).seq (C.ops [LD 44 7, MV 45 10, MV 46 11, BI 47 .add 45 46, MV 48 12, ⟨some 49, none, .callv, [.t 44, .t 47, .t
 48]⟩]))).seq (C.ops [BC 50 .add 39 (i6 1), MV 39 50])))).loop)))))))).seq (C.ops [BC 51 .add 26 (i6 1), MV 26 51])))).loop)).seq ((C.ops [LD 52 6, MV 53 5, O1 54 .len 53, BC 55
 .sub 54 (i6 1), ⟨some 56, none, .slc 1 true true, [.t 52, .c (i6 2), .t 55]⟩, MV 4 56]).seq
 C.ret))))))
theorem qvJ : zj Tryz.prog 131 57 8 [RV.tmp 4] qgN := ⟨Tryz.f131, Tryz.f131.body.getD .skip, [4, 13, 16, 17, 22, 6, 7, 9], [76, 140, 144, 67, 78, 79, 80, 113], [], by kernel_rfl, by kernel_rfl, by kernel_rfl, by kernel_rfl, by kernel_rfl, by kernel_rfl, by kernel_rfl⟩
def quX : C :=
 ((C.ops [O1 2 (.box 0 172) 0, ⟨some 4, none, .alloc 1 172 [.int .u64 0, .int .u64 0], []⟩]).seq ((C.ops [O1 8 (.fldA 1) 2, LD 9 8, MV 10 1, O2 11 (.call 142 true) 9 10, MV 7 11, O1
 12 (.ext 0) 7, O1 13 (.ext 1) 7, MV 5 12, MV 6 13]).seq ((C.ops [MV 14 5, O1 15 (.fldA 0) 2, LD 16 15, MV 17 1, BI 18 .mul 16 17, BI 19 .add 14 18, MV 20 6, ⟨some 21, none, .build
 [.int .u64 0, .int .u64 0] [(0, 1), (1, 1)], [.t 19, .t 20]⟩, ST 2 4 21]).seq
 C.ret)))
theorem qvK : zj Tryz.prog 132 22 2 [RV.cell 4 (some 2)] quX := ⟨Tryz.f132, Tryz.f132.body.getD .skip, [2, 4], [76, 140, 144, 67, 78, 79, 80, 113], [], by kernel_rfl, by kernel_rfl, by kernel_rfl, by kernel_rfl, by kernel_rfl, by kernel_rfl, by kernel_rfl⟩
def quY : C :=
 ((C.ops [O1 2 (.box 0 172) 0, O1 3 (.box 1 172) 1, MC 4 (.bool false)]).seq (((C.ops [O1 5 (.fldA 0) 2, LD 6 5, O1 7 (.fldA 0) 3, LD 8 7, BI 9 .neq 6 8]).seq (C.cond (.t 9) ((C.ops
 [O1 10 (.fldA 0) 2, LD 11 10, O1 12 (.fldA 0) 3, LD 13 12, BI 14 .gtr 11 13, MV 4 14]).seq C.ret) C.skip)).seq ((C.ops [O1 15 (.load (some 2)) 2, O1 16 (.load (some 2)) 3, ⟨some
 17, none, .aeq [.int, .int] true, [.t 15, .t 16]⟩, MV 18 17, P1 19 18 true (.fldA 1) 2, P1 20 18 true (.load none) 19, P1 21 18 true (.fldA 1) 3, P1 22 18 true (.load none) 21, P2
 23 18 true (.bin .gtr) 20 22, ⟨some 24, none, .pick, [.t 18, .t 23, .c (.bool false)]⟩, MV 4 24]).seq
 C.ret)))
theorem qvL : zj Tryz.prog 133 25 2 [RV.tmp 4] quY := ⟨Tryz.f133, Tryz.f133.body.getD .skip, [2, 3], [76, 140, 144, 67, 78, 79, 80, 113], [], by kernel_rfl, by kernel_rfl, by kernel_rfl, by kernel_rfl, by kernel_rfl, by kernel_rfl, by kernel_rfl⟩
def qlv : C :=
 ((C.ops [⟨some 2, none, .nilo 0 1 9, []⟩]).seq ((C.ops [MC 3 (i6 0)]).seq (((C.ops [MV 9 0, O1 10 .len 9, MC 11 (i6 0)]).seq (C.block 0 ((C.ops [BI 12 .lss 11 10]).seq ((C.cond (.t
 12) C.skip (C.exit 0)).seq ((C.block 1 ((C.ops [O2 13 (.idxA 1) 9 11, LD 14 13, MV 5 14]).seq ((C.ops [MV 15 3, MV 16 5, O1 17 .len 16, BI 18 .add 15 17, MV 3 18]).seq ((C.ops [MV
 19 3, BC 20 .lss 19 (i6 0)]).seq (C.cond (.t 20) C.bad C.skip))))).seq (C.ops [BC 22 .add 11 (i6 1), MV 11 22])))).loop)).seq ((C.ops [MV 23 3, ⟨some 24, none, .call 144 false, [.c
 .nl, .t 23]⟩, MV 6 24]).seq (((C.ops [MV 25 0, O1 26 .len 25, MC 27 (i6 0)]).seq (C.block 2 ((C.ops [BI 28 .lss 27 26]).seq ((C.cond (.t 28) C.skip (C.exit 2)).seq ((C.block 3
 ((C.ops [O2 29 (.idxA 1) 25 27, LD 30 29, MV 8 30]).seq (C.ops [MV 31 6, MV 32 8, O2 33 (.app 1 1 9 16) 31 32, MV 6 33]))).seq (C.ops [BC 34 .add 27 (i6 1), MV 27
 34])))).loop)).seq ((C.ops [MV 35 6, MV 2 35]).seq
 C.ret))))))
theorem qvN : zj Tryz.prog 138 36 3 [RV.tmp 2] qlv := ⟨Tryz.f138, Tryz.f138.body.getD .skip, [2, 33, 24], [76, 140, 144, 67, 78, 79, 80, 113], [], by kernel_rfl, by kernel_rfl, by kernel_rfl, by kernel_rfl, by kernel_rfl, by kernel_rfl, by kernel_rfl⟩
def qiH : C :=
 ((C.ops [⟨some 2, none, .nilo 0 1 9, []⟩]).seq ((C.ops [MV 3 0, O1 4 (.call 145 true) 3, O1 5 (.call 100 true) 4, MV 2 5]).seq
 C.ret))
theorem qvO : zj Tryz.prog 139 6 1 [RV.tmp 2] qiH := ⟨Tryz.f139, Tryz.f139.body.getD .skip, [2], [76, 140, 144, 67, 78, 79, 80, 113], [], by kernel_rfl, by kernel_rfl, by kernel_rfl, by kernel_rfl, by kernel_rfl, by kernel_rfl, by kernel_rfl⟩
def qu0 : C :=
 (C.ops [LD 5 2, MV 6 0, LD 7 2, MV 8 0, O2 9 (.idxA 1) 7 8, LD 10 9, MV 11 1, O2 12 (.mm true) 10 11, O2 13 (.idxA 1) 5 6, ST 1 13
 12])
theorem qvP : zj Tryz.prog 140 14 0 [] qu0 := ⟨Tryz.f140, Tryz.f140.body.getD .skip, [], [76, 140, 144, 67, 78, 79, 80, 113], [], by kernel_rfl, by kernel_rfl, by kernel_rfl, by kernel_rfl, by kernel_rfl, by kernel_rfl, by kernel_rfl⟩
def qiI : C :=
 ((C.ops [O1 2 (.box 0 23) 0, O1 3 (.box 1 23) 1, MC 4 .nilfn]).seq ((C.ops [O2 5 (.mkfn (Fn.func 146) 0) 2 3, MV 4 5]).seq
 C.ret))
theorem qvQ : zj Tryz.prog 141 6 2 [RV.tmp 4] qiI := ⟨Tryz.f141, Tryz.f141.body.getD .skip, [2, 3], [76, 140, 144, 67, 78, 79, 80, 113], [], by kernel_rfl, by kernel_rfl, by kernel_rfl, by kernel_rfl, by kernel_rfl, by kernel_rfl, by kernel_rfl⟩
def qu1 : C :=
 ((C.ops [MC 4 (.int .u64 0), MC 5 (.int .u64 0)]).seq ((C.ops [MV 14 0, BC 15 .and 14 (.int .u64 4294967295), MV 6 15]).seq ((C.ops [MV 16 0, BC 17 .shr 16 (.int .u64 32), MV 7
 17]).seq ((C.ops [MV 18 1, BC 19 .and 18 (.int .u64 4294967295), MV 8 19]).seq ((C.ops [MV 20 1, BC 21 .shr 20 (.int .u64 32), MV 9 21]).seq ((C.ops [MV 22 6, MV 23 8, BI 24 .mul
 22 23, MV 10 24]).seq ((C.ops [MV 25 7, MV 26 8, BI 27 .mul 25 26, MV 28 10, BC 29 .shr 28 (.int .u64 32), BI 30 .add 27 29, MV 11 30]).seq ((C.ops [MV 31 11, BC 32 .and 31 (.int
 .u64 4294967295), MV 12 32]).seq ((C.ops [MV 33 11, BC 34 .shr 33 (.int .u64 32), MV 13 34]).seq ((C.ops [MV 35 12, MV 36 6, MV 37 9, BI 38 .mul 36 37, BI 39 .add 35 38, MV 12
 39]).seq ((C.ops [MV 40 7, MV 41 9, BI 42 .mul 40 41, MV 43 13, BI 44 .add 42 43, MV 45 12, BC 46 .shr 45 (.int .u64 32), BI 47 .add 44 46, MV 4 47]).seq ((C.ops [MV 48 0, MV 49 1,
 BI 50 .mul 48 49, MV 5 50]).seq
 C.ret))))))))))))
theorem qvR : zj Tryz.prog 142 51 0 [RV.tmp 4, RV.tmp 5] qu1 := ⟨Tryz.f142, Tryz.f142.body.getD .skip, [], [76, 140, 144, 67, 78, 79, 80, 113], [], by kernel_rfl, by kernel_rfl, by kernel_rfl, by kernel_rfl, by kernel_rfl, by kernel_rfl, by kernel_rfl⟩
def qu3 : C :=
 ((C.ops [⟨some 4, none, .nilo 0 1 9, []⟩]).seq (((C.ops [MV 5 1, BC 6 .lss 5 (i6 0)]).seq (C.cond (.t 6) C.bad C.skip)).seq (((C.ops [MV 8 1, MV 9 0, O1 10 .cap 9, MV 11 0, O1 12
 .len 11, BI 13 .sub 10 12, BI 14 .sub 8 13, MV 1 14]).seq ((C.ops [MV 15 1, BC 16 .gtr 15 (i6 0)]).seq (C.cond (.t 16) (C.ops [MV 17 0, MV 18 0, O1 19 .cap 18, O2 20 (.slc 1 false
 true) 17 19, MV 21 1, ⟨some 22, none, .appz 1 1 9 [.str []] 16, [.t 20, .t 21]⟩, MV 23 0, O1 24 .len 23, O2 25 (.slc 1 false true) 22 24, MV 0 25]) C.skip))).seq ((C.ops [MV 26 0,
 MV 4 26]).seq
 C.ret))))
theorem qvT : zj Tryz.prog 144 27 2 [RV.tmp 4] qu3 := ⟨Tryz.f144, Tryz.f144.body.getD .skip, [4, 22], [76, 140, 144, 67, 78, 79, 80, 113], [], by kernel_rfl, by kernel_rfl, by kernel_rfl, by kernel_rfl, by kernel_rfl, by kernel_rfl, by kernel_rfl⟩
def qu4 : C :=
 ((C.ops [MC 2 (.str [])]).seq ((C.ops [MV 6 0, O1 7 (.s2bo 0 5) 6, MV 3 7]).seq (((C.ops [MV 8 3, O1 9 .len 8, MC 10 (i6 0)]).seq (C.block 0 ((C.ops [BI 11 .lss 10 9]).seq ((C.cond
 (.t 11) C.skip (C.exit 0)).seq ((C.block 1 ((C.ops [MV 12 10, O2 13 (.idxA 1) 8 10, LD 14 13, MV 4 12, MV 5 14]).seq ((C.ops [MV 15 5, BC 16 .geq 15 (.int .u8 65), MV 17 16, MG 18
 17 true 5, PC 19 17 true (.bin .leq) 18 (.int .u8 90), ⟨some 20, none, .pick, [.t 17, .t 19, .c (.bool false)]⟩]).seq (C.cond (.t 20) (C.ops [MV 21 3, MV 22 4, MV 23 5, BC 24 .sub
 23 (.int .u8 65), BC 25 .add 24 (.int .u8 97), O2 26 (.idxA 1) 21 22, ST 1 26 25]) C.skip)))).seq (C.ops [BC 27 .add 10 (i6 1), MV 10 27])))).loop)).seq ((C.ops [MV 28 3, O1 29
 .b2s 28, MV 2 29]).seq
 C.ret))))
theorem qvU : zj Tryz.prog 145 30 1 [RV.tmp 2] qu4 := ⟨Tryz.f145, Tryz.f145.body.getD .skip, [7], [76, 140, 144, 67, 78, 79, 80, 113], [], by kernel_rfl, by kernel_rfl, by kernel_rfl, by kernel_rfl, by kernel_rfl, by kernel_rfl, by kernel_rfl⟩
def qu5 : C :=
 ((C.ops [MC 4 (i6 0)]).seq (C.block 0 (((C.ops [MV 5 4, LD 6 1, O1 7 .len 6, BI 8 .add 5 7, LD 9 2, O1 10 .len 9, BI 11 .leq 8 10]).seq (C.cond (.t 11) C.skip (C.exit 0))).seq
 ((C.block 1 ((C.ops [LD 14 2, MV 15 4, MV 16 4, LD 17 1, O1 18 .len 17, BI 19 .add 16 18, ⟨some 20, none, .slc 1 true true, [.t 14, .t 15, .t 19]⟩, LD 21 1, O2 22 (.call 54 true)
 20 21, MV 23 22, MG 24 23 true 0, MG 25 23 true 4, P2 26 23 true .callv 24 25, P1 27 23 true (.un UnOp.not) 26, ⟨some 28, none, .pick, [.t 23, .t 27, .c (.bool false)]⟩]).seq
 (C.cond (.t 28) C.ret C.skip))).seq (C.ops [MV 12 4, BC 13 .add 12 (i6 1), MV 4
 13]))).loop))
theorem qvV : zj Tryz.prog 146 29 0 [] qu5 := ⟨Tryz.f146, Tryz.f146.body.getD .skip, [], [76, 140, 144, 67, 78, 79, 80, 113], [], by kernel_rfl, by kernel_rfl, by kernel_rfl, by kernel_rfl, by kernel_rfl, by kernel_rfl, by kernel_rfl⟩
def qzq : C :=
 ((C.ops [⟨some 8, none, .alloc 0 49 [i6 0, i6 0, i6 0, i6 0, .str []], []⟩, MC 9 (.bool false)]).seq ((C.ops [MV 17 0, MV 18 2, MV 19 3, ⟨some 20, none, .call 71 true, [.t 17, .t
 18, .t 19]⟩, MV 2 20]).seq ((C.ops [⟨some 10, none, .alloc 1 111 [i6 0, i6 0, i6 0], []⟩]).seq ((C.ops [⟨some 11, none, .alloc 2 122 [.nilp, .nl], []⟩]).seq (((C.wk.seq (C.ops [MV
 21 0, MV 22 2, MV 23 3, ⟨some 24, none, .slc 6 true true, [.t 21, .t 22, .t 23]⟩, O1 25 .len 24, MC 26 (i6 0)])).seq (C.block 0 ((C.ops [BI 27 .lss 26 25]).seq ((C.cond (.t 27)
 C.skip (C.exit 0)).seq ((C.block 1 ((C.ops [O2 28 (.idxA 6) 24 26, O1 29 (.load (some 6)) 28, ⟨some 13, none, .alloc 3 58 [i6 0, i6 0, i6 0, i6 0, i6 0, .str []], []⟩, ST 6 13
 29]).seq ((C.ops [O1 30 (.load (some 6)) 13, O2 31 (.call 76 false) 10 30]).seq ((C.ops [O1 32 (.fldA 0) 13, LD 33 32]).seq (C.block 2 ((C.ops [BC 35 .eql 33 (i6 1), MV 34 35]).seq
 (C.cond (.t 34) (C.ops [O1 36 (.fldA 5) 13, LD 37 36, O2 38 (.call 78 false) 11 37]) ((C.ops [BC 40 .eql 33 (i6 2), MV 39 40]).seq (C.cond (.t 39) (C.ops [OC 41 (.call 79 false) 11
 (.int .u8 32)]) C.skip))))))))).seq (C.ops [BC 42 .add 26 (i6 1), MV 26 42])))).loop)).seq (((C.ops [MV 43 3, MV 44 0, O1 45 .len 44, BI 46 .lss 43 45, MV 47 46, MG 48 47 true 0,
 MG 49 47 true 3, P2 50 47 true (.idxA 6) 48 49, P1 51 47 true (.fldA 0) 50, P1 52 47 true (.load none) 51, PC 53 47 true (.bin .eql) 52 (i6 3), ⟨some 54, none, .pick, [.t 47, .t
 53, .c (.bool false)]⟩]).seq (C.cond (.t 54) (C.ops [MV 55 0, MV 56 3, O2 57 (.idxA 6) 55 56, O1 58 (.fldA 5) 57, LD 59 58, O2 60 (.call 78 false) 11 59]) C.skip)).seq ((C.ops [MV
 62 0, MV 63 1, O1 64 (.load (some 3)) 10, MV 65 3, ⟨some 66, none, .call 73 true, [.t 62, .t 63, .t 64, .t 65]⟩, MV 61 66, O1 67 (.ext 0) 61, O1 68 (.ext 1) 61, O1 69 (.ext 2) 61,
 MV 14 67, MV 15 68, MV 16 69]).seq ((C.ops [MV 70 2, MV 71 3, MV 72 14, MV 73 15, O1 74 (.call 80 false) 11, ⟨some 75, none, .build [i6 0, i6 0, i6 0, i6 0, .str []] [(0, 1), (1,
 1), (2, 1), (3, 1), (4, 1)], [.t 70, .t 71, .t 72, .t 73, .t 74]⟩, MV 76 16, ST 5 8 75, MV 9 76]).seq
 C.ret))))))))
theorem qyd : zj Tryz.prog 46 77 5 [RV.cell 8 (some 5), RV.tmp 9] qzq := ⟨Tryz.f46, Tryz.f46.body.getD .skip, [8, 10, 11, 13, 14], [76, 140, 144, 67, 78, 79, 80, 113], [4], by kernel_rfl, by kernel_rfl, by kernel_rfl, by kernel_rfl, by kernel_rfl, by kernel_rfl, by kernel_rfl⟩
end
section
namespace HY
def qg3 (n : Int) : Int :=
 if (97 ≤ n ∧ n ≤ 122) ∨ (65 ≤ n ∧ n ≤ 90) then 1
 else if n = 94 ∨ n = 126 ∨ n = 37 then 2
 else if 48 ≤ n ∧ n ≤ 57 then 3
 else if n = 39 then 4
 else if n = 32 then 6
 else if n = 46 ∨ n = 44 ∨ n = 59 ∨ n = 58 ∨ n = 33 ∨ n = 63 ∨ n = 40 ∨ n = 41 ∨ n = 45 then 5
 else 0
def kind (b : UInt8) : Int := qg3 b.toNat
def ch (s : List UInt8) (i : Nat) : UInt8 := s.getD i 0
theorem jA (s : List UInt8) (i : Nat) : (s[i]?).getD 0 = ch s i := by rw [ch, List.getD_eq_getElem?_getD]
def jT (frm : Nat) (cur : List UInt8) : List UInt8 → List (Nat × List UInt8)
 | [] => [(frm, cur)]
 | c :: r => if kind c = 2 ∧ kind (ch cur 0) = 1 then jT frm (cur ++ [c]) r else (frm, cur) :: jT (frm + cur.length) [c] r
def zC : List UInt8 → List (Nat × List UInt8)
 | [] => []
 | c :: r => jT 0 [c] r
def qV (s : List UInt8) : List (List UInt8) := (zC s).map (·.2)
theorem qpB (frm : Nat) (cur r : List UInt8) : jT frm cur r ≠ [] := by
 induction r generalizing frm cur with
 | nil => simp [jT]
 | cons c r ih => simp only [jT]; split; exact ih _ _; simp
theorem qiP (frm : Nat) (cur r : List UInt8) : ((jT frm cur r).map (·.2)).flatten = cur ++ r := by
 induction r generalizing frm cur with
 | nil => simp [jT]
 | cons c r ih =>
  simp only [jT]
  split
  ·rw [ih]; simp
  ·simp [ih]
theorem qaw (s : List UInt8) : (qV s).flatten = s := by
 cases s with
 | nil => rfl
 | cons c r => simpa [qV, zC] using qiP 0 [c] r
theorem qlR {frm : Nat} {cur r : List UInt8} (hc : cur ≠ []) : ∀ x ∈ jT frm cur r, x.2 ≠ [] := by
 induction r generalizing frm cur with
 | nil => intro x hx; simp [jT] at hx; subst hx; exact hc
 | cons c r ih =>
  intro x hx
  simp only [jT] at hx
  split at hx
  ·exact ih (by simp) x hx
  ·rcases List.mem_cons.1 hx with rfl | hx
   ·exact hc
   ·exact ih (by simp) x hx
theorem qlT {s : List UInt8} : ∀ x ∈ qV s, x ≠ [] := by
 cases s with
 | nil => intro x hx; simp [qV, zC] at hx
 | cons c r =>
  intro x hx
  simp only [qV, zC, List.mem_map] at hx
  obtain ⟨y, hy, rfl⟩ := hx
  exact qlR (by simp) y hy
theorem qp3 {l : List (List UInt8)} (h : ∀ x ∈ l, x ≠ []) : l.length ≤ l.flatten.length := by
 induction l with
 | nil => simp
 | cons x l ih =>
  have h1 := ih (fun y hy => h y (by simp [hy]))
  have h2 : 0 < x.length := List.length_pos_iff.2 (h x (by simp))
  simp only [List.length_cons, List.flatten_cons, List.length_append]
  omega
theorem jB (s : List UInt8) : (qV s).length ≤ s.length := by
 have := qp3 (l := qV s) qlT
 rwa [qaw] at this
def jX (s : List UInt8) : Nat → Bool
 | 0 => false
 | i + 1 => decide (kind (ch s (i + 1)) = 2) && (decide (kind (ch s i) = 1) || jX s i)
def qcv (s : List UInt8) (f i : Nat) : Prop := f < i ∧ (decide (kind (ch s (i - 1)) = 1) || jX s (i - 1)) = decide (kind (ch s f) = 1)
theorem qcw {s : List UInt8} {f i : Nat} (h : qcv s f i) : jX s i = (decide (kind (ch s i) = 2) && decide (kind (ch s f) = 1)) := by
 obtain ⟨h1, h2⟩ := h
 cases i with
 | zero => omega
 | succ i => simp only [jX]; rw [← h2]; rfl
theorem qfH (s : List UInt8) : qcv s 0 1 := ⟨by omega, by simp [jX]⟩
theorem qmE {s : List UInt8} {f i : Nat} (h : qcv s f i) (hr : jX s i = true) : qcv s f (i + 1) := by
 have h3 := qcw h
 rw [hr] at h3
 refine ⟨by have := h.1; omega, ?_⟩
 rw [Nat.add_sub_cancel, hr, Bool.or_true]
 symm at h3
 simp only [Bool.and_eq_true] at h3
 exact h3.2.symm
theorem qjh {s : List UInt8} {f i : Nat} (h : qcv s f i) (hr : jX s i = false) : qcv s i (i + 1) :=
 ⟨by omega, by rw [Nat.add_sub_cancel, hr, Bool.or_false]⟩
def zS (c : List UInt8) : Bool := decide (kind (ch c 0) = 0) || decide (kind (ch c 0) = 2)
def qbu (s : List UInt8) : Int := if 65536 < s.length then 4 else if (qV s).any zS then 11 else 0
def qa2 (s : List UInt8) : Bool :=
 decide (0 < s.length) && decide (s.length ≤ 64) && decide (qbu s = 0) && (decide (kind (ch s 0) = 1) || decide (kind (ch s 0) = 3)) && !(s.any fun c => decide (kind c = 5) || decide (kind c = 6))
def qdP (c : UInt8) : UInt8 := if 65 ≤ c ∧ c ≤ 90 then c + 32 else c
def kg (s : List UInt8) : List UInt8 := s.map qdP
end HY
end
section
namespace HY
structure Pat where
 letters : List UInt8
 levels : List Int
 deriving DecidableEq, Inhabited
def qcu (s p : List UInt8) : Bool := decide (s.take p.length = p)
def qan (s p : List UInt8) : Bool := decide (s.drop (s.length - p.length) = p)
def qaI (s p : List UInt8) : List UInt8 := if qcu s p = true then s.drop p.length else s
def je (s p : List UInt8) : List UInt8 := if qan s p = true then s.take (s.length - p.length) else s
def qji (s : List UInt8) : List UInt8 := je (qaI s [46]) [46]
def qjy (c : UInt8) : Bool := decide (kind c = 1) || decide (kind c = 2) || decide (kind c = 4)
def qkE (n : Int) : Bool := decide (n < 0) || decide (9 < n)
def j5 (p : Pat) : Int :=
 if 64 < p.letters.length then 4
 else if (qji p.letters).any (fun c => !qjy c) = true then 11
 else if qbu (qji p.letters) ≠ 0 then 11
 else if qji p.letters = [] then 5
 else if p.levels.length ≠ (qV p.letters).length + 1 then 9
 else if p.levels.any qkE = true ∨ (qcu p.letters [46] = true ∧ p.levels.getD 0 0 ≠ 0) ∨ (qan p.letters [46] = true ∧ p.levels.getD (p.levels.length - 1) 0 ≠ 0) then 2
 else 0
def qcE (s : List UInt8) (i : Nat) : Bool := decide (kind (ch s i) = 0) || (decide (kind (ch s i) = 2) && !jX s i)
end HY
end
section
open Go Go.Proofs AF HY
namespace HY
set_option maxRecDepth 100000
def qF (l : List (List UInt8)) : AV := .sl l.length fun i => [.str (l.getD i [])]
theorem qux {P : Program} {f : FuncId} {fn : Func} (h : P.funcs[f]? = some fn) (h1 : fn.body.isSome = true) (h2 : (fn.name != "runtime.NumGoroutine") = true) : okF P f = true := by
 unfold okF; rw [h]; simp [h1, h2]
theorem qyQ (s : List UInt8) (c : Int) (h : List AObj) : qs Tryz.prog 92 [.str s, .int .u8 c] h (.int .i64 (Go.Lib.indexByte s c.toNat.toUInt8)) h := by
 refine ⟨qux Tryz.func92 (by kernel_rfl) (by kernel_rfl), fun w σ xs H hv => ?_⟩
 obtain ⟨x, y, rfl, hx, hy⟩ := hv.two
 rw [ja hx, zO hy]
 refine (callsIn_wide.2 (qh1 ⟨s.toArray⟩ c w)).mono ?_
 rintro e w' ⟨rfl, rfl⟩
 exact ⟨_, σ, rfl, H, .imm .int, Ext.refl _ _⟩
theorem qAy (s : List UInt8) (c : Int) (h : List AObj) : qs Tryz.prog 123 [.str s, .int .u8 c] h (.int .i64 (Go.Lib.indexByte s c.toNat.toUInt8)) h := by
 refine qo qvG (by simp) ?_
 simp only [lcP, lnP, Nat.reduceAdd, Nat.reduceSub, List.replicate, caP, naP, List.append_nil]
 simp (disch := omega) only [quU, go_sem, qc, dvP, mdP]
 repeat' first
  | ((first | refine qj (qyQ s c _) ?_ ?_); (next => exact flk); simp (disch := omega) only [go_sem, qc, dvP, mdP])
  | ((first | refine qn (fun _ => qyQ s c _) ?_ ?_); (next => exact flk); simp (disch := omega) only [go_sem, qc, dvP, mdP])
  | ((first | refine qk (fun e => ⟨?_, qyQ s c _⟩) ?_); (next => exact flk); simp (disch := omega) only [go_sem, qc, dvP, mdP])
  | ((first | refine qe ?_ ?_ | refine qg ?_ ?_); (next => exact rvk); simp only [go_sem]; (first | exact VLe.refl _ | refine qh ?_ | refine qd ?_ | refine ql ?_ | skip))
  | with_reducible first | refine And.intro ?_ ?_ | intro _
theorem qnF : ∀ n : Fin 256, (0 ≤ Go.Lib.indexByte [46, 44, 59, 58, 33, 63, 40, 41, 45] (UInt8.ofNat n.val)) ↔ (n.val = 46 ∨ n.val = 44 ∨ n.val = 59 ∨ n.val = 58 ∨ n.val = 33 ∨ n.val = 63 ∨ n.val = 40 ∨ n.val = 41 ∨ n.val = 45) := by decide +kernel
theorem qzU (n : Int) (h : List AObj) (n0 : 0 ≤ n) (n1 : n ≤ 255) : qs Tryz.prog 98 [.int .u8 n] h (.int .i64 (qg3 n)) h := by
 obtain ⟨m, rfl⟩ : ∃ m : Nat, n = m := ⟨n.toNat, by omega⟩
 have hp := qnF ⟨m, by omega⟩
 simp only at hp
 obtain ⟨q, hq⟩ : ∃ q, q = Go.Lib.indexByte [46, 44, 59, 58, 33, 63, 40, 41, 45] (UInt8.ofNat m) := ⟨_, rfl⟩
 rw [← hq] at hp
 have hc : ∀ h, qs Tryz.prog 123 [.str [46, 44, 59, 58, 33, 63, 40, 41, 45], .int .u8 (m : Int)] h (.int .i64 q) h := fun h => by rw [hq]; exact qAy _ _ h
 refine qo qyB (by simp) ?_
 simp only [lcP, lnP, Nat.reduceAdd, Nat.reduceSub, List.replicate, caP, naP, List.append_nil]
 simp (disch := omega) only [qzL, go_sem, qc, dvP, mdP]
 repeat' first
  | ((first | refine qj (hc _) ?_ ?_); (next => exact flk); simp (disch := omega) only [go_sem, qc, dvP, mdP])
  | ((first | refine qn (fun _ => hc _) ?_ ?_); (next => exact flk); simp (disch := omega) only [go_sem, qc, dvP, mdP])
  | ((first | refine qk (fun e => ⟨?_, hc _⟩) ?_); (next => exact flk); simp (disch := omega) only [go_sem, qc, dvP, mdP])
  | ((first | refine qe ?_ ?_ | refine qg ?_ ?_); (next => exact rvk); simp only [go_sem]; (first | exact VLe.refl _ | refine qh ?_ | refine qd ?_ | refine ql ?_ | skip))
  | with_reducible first | refine And.intro ?_ ?_ | intro _
 all_goals first
  | omega
  | (unfold qg3; (repeat' split) <;> omega)
end HY
end
section
open Go Go.Proofs AF HY
namespace HY
set_option maxRecDepth 100000
theorem _root_.AF.LowI.ret {h hh : List AObj} {ts : List AV} {L : LInfo} (s : LS) (hl : LowI h hh) (hts : ∀ c ∈ ts, jf (h.length + 1) c = true) :
  (hh ++ [AObj.lp s ts L]).length = (h ++ [AObj.lp .ready ts L]).length ∧ ∀ o ∈ hh ++ [AObj.lp s ts L], o ∈ h ++ [AObj.lp .ready ts L] ∨ qdu (h ++ [AObj.lp .ready ts L]).length o := by
 refine ⟨by simp [hl.1], fun o ho => ?_⟩
 rw [List.length_append, List.length_singleton]
 rcases List.mem_append.1 ho with ho | ho
 ·rcases hl.2 o ho with h1 | h1
  ·exact .inl (List.mem_append_left _ h1)
  ·exact .inr h1.2
 ·rw [List.mem_singleton] at ho
  subst ho
  exact .inr hts
theorem qe2 (b : UInt8) : 0 ≤ ((b.toNat : Nat) : Int) ∧ ((b.toNat : Nat) : Int) ≤ 255 := by
 have := b.toNat_lt
 omega
theorem jP (b : UInt8) (h : List AObj) : qs Tryz.prog 98 [.int .u8 (b.toNat : Int)] h (.int .i64 (kind b)) h := qzU _ h (qe2 b).1 (qe2 b).2
theorem qxA (s : List UInt8) (f a : Nat) (h : List AObj) (hf : f < s.length) : qs Tryz.prog 110 [.str s, .int .i64 f, .int .i64 a] h (.bool (decide (kind (ch s f) = 1) && decide (f < a))) h := by
 refine qo qvz (by simp) ?_
 simp only [lcP, lnP, Nat.reduceAdd, Nat.reduceSub, List.replicate, caP, naP, List.append_nil]
 simp (disch := omega) only [quN, jA, go_sem, qc, dvP, mdP]
 repeat' first
  | ((first | refine qj (jP _ _) ?_ ?_); (next => exact flk); simp (disch := omega) only [jA, go_sem, qc, dvP, mdP])
  | ((first | refine qn (fun _ => jP _ _) ?_ ?_); (next => exact flk); simp (disch := omega) only [jA, go_sem, qc, dvP, mdP])
  | ((first | refine qk (fun e => ⟨?_, jP _ _⟩) ?_); (next => exact flk); simp (disch := omega) only [jA, go_sem, qc, dvP, mdP])
  | ((first | refine qe ?_ ?_ | refine qg ?_ ?_); (next => exact rvk); simp only [go_sem]; (first | exact VLe.refl _ | refine qh ?_ | refine qd ?_ | refine ql ?_ | skip))
  | with_reducible first | refine And.intro ?_ ?_ | intro _
 all_goals first
  | omega
  | (congr 1; exact decide_eq_decide.2 (by omega))
  | skip
theorem qde {s : List UInt8} {f i : Nat} (hf : f < i) (hi : i < s.length) : jT f ((s.drop f).take (i - f)) (s.drop i) = if kind (ch s i) = 2 ∧ kind (ch s f) = 1 then jT f ((s.drop f).take (i + 1 - f)) (s.drop (i + 1)) else (f, (s.drop f).take (i - f)) :: jT i ((s.drop i).take (i + 1 - i)) (s.drop (i + 1)) := by
 have e1 : s.drop i = ch s i :: s.drop (i + 1) := by rw [List.drop_eq_getElem_cons hi]; simp [ch, hi]
 have e2 : ch ((s.drop f).take (i - f)) 0 = ch s f := by simp [ch, List.getD_eq_getElem?_getD, List.getElem?_take, show 0 < i - f by omega]
 have e3 : (s.drop f).take (i + 1 - f) = (s.drop f).take (i - f) ++ [ch s i] := by
  rw [show i + 1 - f = (i - f) + 1 by omega, List.take_add_one, List.getElem?_drop, show f + (i - f) = i by omega]
  simp [ch, List.getD_eq_getElem?_getD, hi]
 have e4 : f + ((s.drop f).take (i - f)).length = i := by rw [List.length_take, List.length_drop]; omega
 have e5 : (s.drop i).take (i + 1 - i) = [ch s i] := by rw [e1, show i + 1 - i = 1 by omega]; rfl
 rw [e5, e1]
 simp only [jT, e2, e4, e3]
theorem qwn (s : List UInt8) (hs : s.length ≤ 1000000000) : qxu Tryz.prog 109 [.ip [.str s]] ((zC s).map fun x => [.int .i64 (x.1 : Int), .str x.2]) := by
 intro h ts L S E hS hE body start hts
 refine kI qvx (by simp) ?_
 simp only [lcP, lnP, Nat.reduceAdd, Nat.reduceSub, List.replicate, caP, naP, List.append_nil]
 simp (disch := omega) only [quM, go_sem, qc, dvP, mdP]
 repeat' first
  | ((first | refine qe ?_ ?_ | refine qg ?_ ?_); (next => exact rvk); simp only [go_sem]; (first | exact VLe.refl _ | refine qh ?_ | refine qd ?_ | refine ql ?_ | skip))
  | with_reducible first | refine And.intro ?_ ?_ | intro _
 all_goals first
  | omega
  | skip
 refine qJ (T := fun i : Nat × Nat × Nat × List AObj => qv 37 [(0, .yld h.length), (1, .ip [.str s]), (3, .int .i64 i.1), (4, .int .i64 i.2.1)]) (H := fun i => i.2.2.2 ++ [.lp .ready ts L])
  (inv := fun i => S i.2.2.1 i.2.2.2 ∧ ((i.2.1 ≤ s.length ∧ i.1 < i.2.1 ∧ (zC s).drop i.2.2.1 = jT i.1 ((s.drop i.1).take (i.2.1 - i.1)) (s.drop i.2.1)) ∨ (s.length < i.2.1 ∧ i.2.1 ≤ s.length + 1 ∧ i.2.2.1 = (zC s).length))) (m := fun i => s.length + 1 - i.2.1) (0, 1, 0, h) ⟨start, ?_⟩ (Wk.temps ?_) ?_
 ·simp only
  cases s with
  | nil => right; simp [zC]
  | cons c r => left; simp [zC]
 ·(simp only [qv, List.foldl, List.replicate, go_sem, qr, qp, qm, qq]; try (repeat' first | (with_reducible refine And.intro ?_ ?_) | (refine qh ?_; omega) | (refine qd ?_; rfl) | exact VLe.refl _))
 ·rintro ⟨f, i, j, hh⟩ ⟨i1, i2⟩ K hK
  simp only at i1 i2 hK
  obtain ⟨hlen, hlow⟩ := hS _ _ i1
  rcases i2 with ⟨g1, g2, g3⟩ | ⟨g1, g2, rfl⟩
  ·have hjl : j < (zC s).length := by
    have : (zC s).drop j ≠ [] := by rw [g3]; exact qpB _ _ _
    by_cases hj : j < (zC s).length
    ·exact hj
    ·exact absurd (List.drop_of_length_le (by omega)) this
   by_cases hk : i < s.length ∧ kind (ch s i) = 2 ∧ kind (ch s f) = 1
   ·have hst := qde g2 hk.1
    rw [if_pos hk.2] at hst
    simp (disch := omega) only [qv, List.foldl, List.replicate, jA, hk.2.1, hk.2.2, go_sem, qc, dvP, mdP]
    repeat' first
     | ((first | refine qj (jP _ _) ?_ ?_ | refine qj (qxA s f i _ (by omega)) ?_ ?_); (next => exact flk); simp (disch := omega) only [jA, hk.2.1, hk.2.2, go_sem, qc, dvP, mdP])
     | ((first | refine qn (fun _ => jP _ _) ?_ ?_); (next => exact flk); simp (disch := omega) only [jA, hk.2.1, hk.2.2, go_sem, qc, dvP, mdP])
     | ((first | refine qk (fun e => ⟨?_, jP _ _⟩) ?_ | refine qk (fun e => ⟨?_, qxA s f i _ (by omega)⟩) ?_); (next => exact flk); simp (disch := omega) only [jA, hk.2.1, hk.2.2, go_sem, qc, dvP, mdP])
     | ((first | refine qe ?_ ?_ | refine qg ?_ ?_); (next => exact rvk); simp only [go_sem]; (first | exact VLe.refl _ | refine qh ?_ | refine qd ?_ | refine ql ?_ | skip))
     | with_reducible first | refine And.intro ?_ ?_ | intro _
    all_goals first
     | omega
     | skip
    refine hK _ _ (f, i + 1, j, hh) ⟨i1, .inl ⟨by simp only; omega, by simp only; omega, by rw [g3, hst]⟩⟩ (by simp only; omega) (Wk.temps ?_)
    (simp only [qv, List.foldl, List.replicate, go_sem, qr, qp, qm, qq]; try (repeat' first | (with_reducible refine And.intro ?_ ?_) | (refine qh ?_; omega) | (refine qd ?_; rfl) | exact VLe.refl _))
   ·obtain ⟨rest, hrest, hr1⟩ : ∃ rest, (zC s).drop j = (f, (s.drop f).take (i - f)) :: rest ∧ (if i < s.length then rest = jT i ((s.drop i).take (i + 1 - i)) (s.drop (i + 1)) else rest = []) := by
     by_cases hi : i < s.length
     ·have hst := qde g2 hi
      rw [if_neg (fun h => hk ⟨hi, h⟩)] at hst
      exact ⟨_, g3.trans hst, by rw [if_pos hi]⟩
     ·refine ⟨[], ?_, by rw [if_neg hi]⟩
      rw [g3, show s.drop i = [] from List.drop_of_length_le (by omega)]; rfl
    rw [List.drop_eq_getElem_cons hjl] at hrest
    obtain ⟨hget, hdrop⟩ := List.cons.inj hrest
    have hb := body j hh [] (by simpa using hjl) i1
    rw [List.getElem_map, hget] at hb
    simp only at hb
    have hfit : (i : Int) - f = ((i - f : Nat) : Int) := by omega
    simp (disch := omega) only [qv, List.foldl, List.replicate, jA, go_sem, qc, dvP, mdP]
    repeat' first
     | ((first | refine qj (jP _ _) ?_ ?_ | refine qj (qxA s f i _ (by omega)) ?_ ?_); (next => exact flk); simp (disch := omega) only [jA, go_sem, qc, dvP, mdP])
     | ((first | refine qn (fun _ => jP _ _) ?_ ?_); (next => exact flk); simp (disch := omega) only [jA, go_sem, qc, dvP, mdP])
     | ((first | refine qk (fun e => ⟨?_, jP _ _⟩) ?_ | refine qk (fun e => ⟨?_, qxA s f i _ (by omega)⟩) ?_); (next => exact flk); simp (disch := omega) only [jA, go_sem, qc, dvP, mdP])
     | ((first | refine qe ?_ ?_ | refine qg ?_ ?_); (next => exact rvk); simp only [go_sem]; (first | exact VLe.refl _ | refine qh ?_ | refine qd ?_ | refine ql ?_ | skip))
     | with_reducible first | refine And.intro ?_ ?_ | intro _
    all_goals first
     | omega
     | exact ⟨.ready, ts, L, qcs hlen⟩
     | skip
    refine kq.mono ?_ hb
    rintro v h' ⟨hh', ⟨rfl, hn, rfl⟩ | ⟨st, rfl, hs', rfl⟩⟩
    ·simp (disch := omega) only [go_sem, qc, dvP, mdP]
     repeat' first
      | ((first | refine qe ?_ ?_ | refine qg ?_ ?_); (next => exact rvk); simp only [go_sem]; (first | exact VLe.refl _ | refine qh ?_ | refine qd ?_ | refine ql ?_ | skip))
      | with_reducible first | refine And.intro ?_ ?_ | intro _
     all_goals first
      | omega
      | (rename_i hx; revert hx; simp; done)
      | skip
     by_cases hi : i < s.length
     ·rw [if_pos hi] at hr1
      refine hK _ _ (i, i + 1, j + 1, hh') ⟨hn, .inl ⟨by simp only; omega, by simp only; omega, by simp only; rw [hdrop, hr1]⟩⟩ (by simp only; omega) (Wk.temps ?_)
      (simp only [qv, List.foldl, List.replicate, go_sem, qr, qp, qm, qq]; try (repeat' first | (with_reducible refine And.intro ?_ ?_) | (refine qh ?_; omega) | (refine qd ?_; rfl) | exact VLe.refl _))
     ·rw [if_neg hi] at hr1
      refine hK _ _ (i, i + 1, j + 1, hh') ⟨hn, .inr ⟨by simp only; omega, by simp only; omega, ?_⟩⟩ (by simp only; omega) (Wk.temps ?_)
      ·have : ((zC s).drop (j + 1)).length = 0 := by rw [hdrop, hr1]; rfl
       rw [List.length_drop] at this
       simp only; omega
      ·(simp only [qv, List.foldl, List.replicate, go_sem, qr, qp, qm, qq]; try (repeat' first | (with_reducible refine And.intro ?_ ?_) | (refine qh ?_; omega) | (refine qd ?_; rfl) | exact VLe.refl _))
    ·simp (disch := omega) only [go_sem, qc, dvP, mdP]
     obtain ⟨r1, r2⟩ := (hE _ _ hs').ret (L := L) st hts
     exact qhY trivial r1 r2 ⟨_, .inr ⟨st, hs', rfl⟩⟩ (VLe.refl _)
  ·simp (disch := omega) only [qv, List.foldl, List.replicate, go_sem, qc, dvP, mdP]
   repeat' first
    | ((first | refine qe ?_ ?_ | refine qg ?_ ?_); (next => exact rvk); simp only [go_sem]; (first | exact VLe.refl _ | refine qh ?_ | refine qd ?_ | refine ql ?_ | skip))
    | with_reducible first | refine And.intro ?_ ?_ | intro _
   all_goals first
    | omega
    | skip
   obtain ⟨r1, r2⟩ := (hS _ _ i1).ret (L := L) .ready hts
   exact qdm trivial r1 r2 ⟨hh, .inl ⟨by simpa using i1, rfl⟩⟩ (VLe.refl _)
end HY
end
section
open Go Go.Proofs AF HY
namespace HY
set_option maxRecDepth 100000
theorem qr8 {cs : List AV} {n m k : Nat} {f : Nat → List AV} {fz : Nat → Bool} {h : List AObj} (e : cs.length = m) (ek : k = m) (hf : ∀ i c, cs[i]? = some c → f i = [c]) (hr : ∀ c ∈ cs, rei fz h (n + 1) c = c) : VLe (.sl m fun i => ((List.drop i cs).take 1).map (rei fz h (n + 1))) (.sl k f) := by
 subst e ek
 refine qc6 rfl (fun i hi => ?_)
 rw [List.drop_eq_getElem_cons hi, hf i cs[i] (List.getElem?_eq_getElem hi)]
 show [rei fz h (n + 1) cs[i]] = _
 rw [hr cs[i] (List.getElem_mem hi)]
def jh (l : List (List UInt8)) : List AV := l.map .str
theorem zJ (l : List (List UInt8)) : (jh l).length = l.length := by simp [jh]
theorem qoh (l : List (List UInt8)) (x : List UInt8) : jh (l ++ [x]) = jh l ++ [.str x] := by simp [jh]
theorem qe1 {l : List (List UInt8)} {n m : Nat} {fz : Nat → Bool} {h : List AObj} (e : l.length = m) : VLe (.sl m fun i => ((List.drop i (jh l)).take 1).map (rei fz h (n + 1))) (qF l) := by
 subst e
 refine qr8 (zJ l) rfl (fun i c hc => ?_) (fun c hc => ?_)
 ·unfold jh at hc
  rw [List.getElem?_map, Option.map_eq_some_iff] at hc
  obtain ⟨x, hx, rfl⟩ := hc
  simp [List.getD_eq_getElem?_getD, hx]
 ·unfold jh at hc
  rw [List.mem_map] at hc
  obtain ⟨x, _, rfl⟩ := hc
  rfl
end HY
end
section
open Go Go.Proofs AF HY
namespace HY
set_option maxRecDepth 100000
theorem qdN (s : List UInt8) {f i : Nat} (h : f ≤ i) (hi : i < s.length) : (s.drop f).take (i + 1 - f) = (s.drop f).take (i - f) ++ [ch s i] := by
 rw [show i + 1 - f = (i - f) + 1 by omega, List.take_add_one, List.getElem?_drop, show f + (i - f) = i by omega]
 simp [ch, List.getD_eq_getElem?_getD, hi]
theorem qr1 (s : List UInt8) {i : Nat} (hi : i < s.length) : (s.drop i).take (i + 1 - i) = [ch s i] := by
 rw [qdN s (Nat.le_refl _) hi, Nat.sub_self]; rfl
def done (s : List UInt8) (D : List (List UInt8)) (f i : Nat) : Prop := qcv s f i ∧ i ≤ s.length ∧ qV s = D ++ (jT f ((s.drop f).take (i - f)) (s.drop i)).map (·.2)
theorem qiU {s : List UInt8} (h : 0 < s.length) : done s [] 0 1 := by
 refine ⟨qfH s, h, ?_⟩
 cases s with
 | nil => simp at h
 | cons c r => simp [qV, zC]
end HY
end
section
open Go Go.Proofs AF HY
namespace HY
set_option maxRecDepth 100000
theorem qlQ {s : List UInt8} : ∀ (k : Nat) {f i : Nat}, s.length - i = k → qcv s f i → i ≤ s.length → zS ((s.drop f).take (i - f)) = zS [ch s f] →
  ((jT f ((s.drop f).take (i - f)) (s.drop i)).map (·.2)).any zS = (zS [ch s f] || (List.range' i (s.length - i)).any (qcE s)) := by
 intro k
 induction k with
 | zero =>
  intro f i hk hc hi hb
  have e : i = s.length := by omega
  subst e
  rw [List.drop_length, Nat.sub_self]
  simp [jT, hb]
 | succ k ih =>
  intro f i hk hc hi hb
  have hi' : i < s.length := by omega
  rw [qde hc.1 hi']
  rw [show s.length - i = (s.length - (i + 1)) + 1 by omega, List.range'_succ, List.any_cons]
  have hr := qcw hc
  by_cases hg : kind (ch s i) = 2 ∧ kind (ch s f) = 1
  ·rw [if_pos hg]
   have hrt : jX s i = true := by rw [hr]; simp [hg]
   have hb2 : zS ((s.drop f).take (i + 1 - f)) = zS [ch s f] := by
    rw [← hb]
    unfold zS
    have e : ch ((s.drop f).take (i + 1 - f)) 0 = ch ((s.drop f).take (i - f)) 0 := by
     have := hc.1
     simp [ch, List.getD_eq_getElem?_getD, List.getElem?_take, show 0 < i - f by omega, show 0 < i + 1 - f by omega]
    rw [e]
   rw [ih (by omega) (qmE hc hrt) hi' hb2]
   have : qcE s i = false := by unfold qcE; rw [hrt, hg.1]; rfl
   rw [this, Bool.false_or]
  ·rw [if_neg hg]
   have hrf : jX s i = false := by
    rw [hr]
    cases h2 : decide (kind (ch s i) = 2) <;> cases h3 : decide (kind (ch s f) = 1) <;> simp_all
   simp only [List.map_cons, List.any_cons, hb]
   have h1 : (s.drop i).take (i + 1 - i) = [ch s i] := qr1 s hi'
   rw [ih (by omega) (qjh hc hrf) hi' (by rw [h1])]
   have : qcE s i = zS [ch s i] := by unfold qcE zS; rw [hrf]; simp [ch]
   rw [this]
theorem qpC (s : List UInt8) : (qV s).any zS = (List.range s.length).any (qcE s) := by
 cases hs : s with
 | nil => rfl
 | cons c r =>
  rw [← hs]
  have h0 : 0 < s.length := by rw [hs]; simp
  have hd := qiU h0
  have h1 : (s.drop 0).take (1 - 0) = [ch s 0] := qr1 s h0
  have := qlQ (s := s) _ rfl hd.1 h0 (by rw [h1])
  rw [← List.nil_append ((jT 0 ((s.drop 0).take (1 - 0)) (s.drop 1)).map (·.2)), ← hd.2.2] at this
  rw [this, List.range_eq_range', show s.length = (s.length - 1) + 1 by omega, List.range'_succ, List.any_cons]
  have : qcE s 0 = zS [ch s 0] := by unfold qcE zS; simp [jX, ch]
  rw [this]; simp
theorem qlP (s : List UInt8) : qbu s = if 65536 < s.length then 4 else if (List.range s.length).any (qcE s) = true then 11 else 0 := by unfold qbu; rw [qpC]
theorem qdL {p : Nat → Bool} {n i : Nat} (hi : i < n) (h : p i = true) : (List.range n).any p = true := List.any_eq_true.2 ⟨i, by simpa using hi, h⟩
end HY
end
section
open Go Go.Proofs AF HY
namespace HY
set_option maxRecDepth 100000
def spc (c : UInt8) : Bool := decide (kind c = 5) || decide (kind c = 6)
end HY
end
section
open Go Go.Proofs AF HY
namespace HY
set_option maxRecDepth 100000
def qiN (s : List UInt8) : AV := .fn (.func 109) [] [.ip [.str s]]
def qdM (s : List UInt8) : List (List AV) := (zC s).map fun x => [.int .i64 (x.1 : Int), .str x.2]
theorem qbv (s : List UInt8) : (qdM s).length = (qV s).length := by simp [qdM, qV]
theorem qft (s : List UInt8) {i : Nat} (hi : i < (qdM s).length) : ∃ n : Nat, (qdM s)[i] = [.int .i64 (n : Int), .str ((qV s).getD i [])] := by
 have h1 : i < (zC s).length := by simpa [qdM] using hi
 refine ⟨((zC s)[i]).1, ?_⟩
 simp [qdM, qV, List.getD_eq_getElem?_getD, h1]
theorem t91 (s : List UInt8) (h : List AObj) : qs Tryz.prog 68 [.str s] h (qiN s) h := by
 refine qo qyl (by simp) ?_
 simp only [lcP, lnP, Nat.reduceAdd, Nat.reduceSub, List.replicate, caP, naP, List.append_nil]
 simp (disch := omega) only [qzy, go_sem, qc, dvP, mdP]
 repeat' first
  | ((first | refine qe ?_ ?_ | refine qg ?_ ?_); (next => exact rvk); simp only [go_sem]; (first | exact VLe.refl _ | refine qh ?_ | refine qd ?_ | refine ql ?_ | skip))
  | with_reducible first | refine And.intro ?_ ?_ | intro _
 all_goals try exact clz
theorem qi2 (s : List UInt8) : (qiN s).flag = true := rfl
theorem qhr (s : List UInt8) : (qiN s).strip = qiN s := rfl
attribute [go_sem] qi2 qhr
theorem _root_.AF.LowI.app {h a b : List AObj} (e : b.length = a.length) (hb : ∀ o ∈ b, o ∈ a ∨ (qdu (h.length + a.length) o ∧ qdu (h.length + a.length + 1) o)) : LowI (h ++ a) (h ++ b) := by
 refine ⟨by simp [e], fun o ho => ?_⟩
 rw [List.length_append]
 rcases List.mem_append.1 ho with ho | ho
 ·exact .inl (List.mem_append_left _ ho)
 ·rcases hb o ho with h1 | h1
  ·exact .inl (List.mem_append_right _ h1)
  ·exact .inr h1
theorem qqo {l : List (List UInt8)} {n : Nat} {c : AV} (h : c ∈ jh l) : jf n c = true := by
 unfold jh at h
 rw [List.mem_map] at h
 obtain ⟨x, _, rfl⟩ := h
 rfl
theorem qgv (l : List (List UInt8)) {i : Nat} (h : i < l.length) : l.take (i + 1) = l.take i ++ [l.getD i []] := by
 rw [List.take_add_one, List.getElem?_eq_getElem h]
 simp [List.getD_eq_getElem?_getD, h]
set_option maxHeartbeats 4000000 in
theorem t67 (s : List UInt8) (h : List AObj) (hs : s.length ≤ 1000000000) : qs Tryz.prog 39 [.str s] h (qF (qV s)) h := by
 have hcl := jB s
 have hit := qwn s hs
 refine qo qx8 (by simp) ?_
 simp only [lcP, lnP, Nat.reduceAdd, Nat.reduceSub, List.replicate, caP, naP, List.append_nil]
 simp (disch := omega) only [qbn, qM, go_sem, qc, dvP, mdP]
 repeat' first
  | ((first | refine qj (t91 s _) ?_ ?_); (next => exact flk); simp (disch := omega) only [qM, go_sem, qc, dvP, mdP])
  | ((first | refine qn (fun _ => t91 s _) ?_ ?_); (next => exact flk); simp (disch := omega) only [qM, go_sem, qc, dvP, mdP])
  | ((first | refine qk (fun e => ⟨?_, t91 s _⟩) ?_); (next => exact flk); simp (disch := omega) only [qM, go_sem, qc, dvP, mdP])
  | ((first | refine qe ?_ ?_ | refine qg ?_ ?_); (next => exact rvk); simp only [go_sem]; (first | exact VLe.refl _ | refine qh ?_ | refine qd ?_ | refine ql ?_ | skip))
  | with_reducible first | refine And.intro ?_ ?_ | intro _
 all_goals try exact clz
 refine qaV (xs := qdM s) hit (by intro a ha; simp [qdM] at ha; obtain ⟨_, _, _, rfl⟩ := ha; rfl)
  (S := fun i hh => (i = 0 ∧ hh = h ++ [.emp 1, .mem 1 23 [.nl], .emp 0, .emp 0]) ∨ (0 < i ∧ ∃ (v w : Nat) (x : List UInt8), hh = h ++ [.emp 1, .mem 1 23 [.osl (h.length + 3) v 1 0 i], .mem w 9 [.str x], .mem v 9 (jh ((qV s).take i))]))
  (E := fun _ _ => False) ?_ (fun _ _ h => h.elim) ?_ ?_ ?_ ?_ (fun _ _ h => h.elim)
 ·rintro i hh (⟨rfl, rfl⟩ | ⟨_, v, w, x, rfl⟩)
  ·exact LowI.refl _
  ·refine LowI.app rfl (fun o ho => ?_)
   simp only [List.mem_cons, List.not_mem_nil, or_false] at ho
   rcases ho with rfl | rfl | rfl | rfl
   ·left; simp
   ·right; constructor <;> (intro c hc; simp at hc; subst hc; simp [jf] <;> omega)
   ·right; constructor <;> (intro c hc; simp at hc; subst hc; rfl)
   ·right; constructor <;> exact fun c hc => qqo hc
 ·exact .inl ⟨rfl, rfl⟩
 ·simp [jf, jf.lowVs, qiN]
  try omega
 ·rintro i hh tl L hi hS hlen
  obtain ⟨n, hx⟩ := qft s hi
  rw [qbv] at hi
  rw [hx]
  have hts := qgv (qV s) hi
  simp only [qbi]
  rcases hS with ⟨rfl, rfl⟩ | ⟨hpos, v, w, x, rfl⟩
  ·simp (disch := omega) only [List.append_assoc, eq_self, qM, go_sem, qc, dvP, mdP]
   repeat' first
    | ((first | refine qe ?_ ?_ | refine qg ?_ ?_); (next => exact rvk); simp only [go_sem]; (first | exact VLe.refl _ | refine qh ?_ | refine qd ?_ | refine ql ?_ | skip))
    | with_reducible first | refine And.intro ?_ ?_ | intro _
   all_goals try exact clz
   refine ⟨h ++ [.emp 1, .mem 1 23 [.osl (h.length + 3) 1 1 0 1], .mem 1 9 [.str ((qV s).getD 0 [])], .mem 1 9 [.str ((qV s).getD 0 [])]], by simp, by simp, .inr ⟨by omega, 1, 1, (qV s).getD 0 [], ?_⟩⟩
   rw [hts]; rfl
  ·have eL : (jh ((qV s).take i)).length = i := by rw [zJ, List.length_take]; omega
   have eT : List.take i (jh ((qV s).take i)) = jh ((qV s).take i) := List.take_of_length_le (by omega)
   simp (disch := omega) only [List.append_assoc, eq_self, qM, eL, eT, go_sem, qc, dvP, mdP]
   repeat' first
    | ((first | refine qe ?_ ?_ | refine qg ?_ ?_); (next => exact rvk); simp only [go_sem]; (first | exact VLe.refl _ | refine qh ?_ | refine qd ?_ | refine ql ?_ | skip))
    | with_reducible first | refine And.intro ?_ ?_ | intro _
   all_goals try exact clz
   refine ⟨h ++ [.emp 1, .mem 1 23 [.osl (h.length + 3) (v + 1) 1 0 (i + 1)], .mem (w + 1) 9 [.str ((qV s).getD i [])], .mem (v + 1) 9 (jh ((qV s).take i) ++ [.str ((qV s).getD i [])])], by simp, by simp, ?_⟩
   have hfin : ∃ (v' w' : Nat) (x' : List UInt8), h ++ [AObj.emp 1, .mem 1 23 [.osl (h.length + 3) (v + 1) 1 0 (i + 1)], .mem (w + 1) 9 [.str ((qV s).getD i [])], .mem (v + 1) 9 (jh ((qV s).take i) ++ [.str ((qV s).getD i [])])] = h ++ [.emp 1, .mem 1 23 [.osl (h.length + 3) v' 1 0 (i + 1)], .mem w' 9 [.str x'], .mem v' 9 (jh ((qV s).take (i + 1)))] := ⟨v + 1, w + 1, (qV s).getD i [], by rw [hts, qoh]⟩
   first
    | exact .inr ⟨by omega, hfin⟩
    | exact .inr hfin
    | exact hfin
 ·rintro hh hS
  rw [qbv] at hS
  rcases hS with ⟨h0, rfl⟩ | ⟨hpos, v, w, x, rfl⟩
  ·have e : qV s = [] := List.eq_nil_of_length_eq_zero h0
   rw [e]
   simp (disch := omega) only [go_sem, qc, dvP, mdP]
   repeat' first
    | ((first | refine qe ?_ ?_ | refine qg ?_ ?_); (next => exact rvk); simp only [go_sem]; (first | exact VLe.refl _ | refine qh ?_ | refine qd ?_ | refine ql ?_ | skip))
    | with_reducible first | refine And.intro ?_ ?_ | intro _
   all_goals try exact clz
   exact kH
  ·rw [List.take_length]
   have eL := zJ (qV s)
   simp (disch := omega) only [eL, go_sem, qc, dvP, mdP]
   repeat' first
    | ((first | refine qe ?_ ?_ | refine qg ?_ ?_); (next => exact rvk); simp only [go_sem]; (first | exact VLe.refl _ | refine qh ?_ | refine qd ?_ | refine ql ?_ | skip))
    | with_reducible first | refine And.intro ?_ ?_ | intro _
   all_goals try exact clz
   rw [if_pos (by omega)]
   exact qe1 rfl
end HY
end
section
open Go Go.Proofs AF HY
namespace HY
set_option maxRecDepth 100000
theorem qew {l : List (List UInt8)} {p : List UInt8 → Bool} {i : Nat} (h : i < l.length) : (l.take (i + 1)).any p = ((l.take i).any p || p (l.getD i [])) := by
 rw [qgv l h, List.any_append]; simp
theorem quE {l : List (List UInt8)} {p : List UInt8 → Bool} {i : Nat} (h : i < l.length) (hp : p (l.getD i []) = true) : l.any p = true := by
 rw [List.any_eq_true]
 refine ⟨l.getD i [], ?_, hp⟩
 rw [List.getD_eq_getElem?_getD, List.getElem?_eq_getElem h]
 exact List.getElem_mem h
theorem qgS {s : List UInt8} {i : Nat} (h : i < (qV s).length) : 0 < ((qV s).getD i []).length := by
 apply List.length_pos_iff.2
 apply qlT (s := s)
 rw [List.getD_eq_getElem?_getD, List.getElem?_eq_getElem h]
 exact List.getElem_mem h
set_option maxHeartbeats 4000000 in
theorem qzV (s : List UInt8) (h : List AObj) (hs : s.length ≤ 1000000000) : qs Tryz.prog 99 [.str s] h (.int .i64 (qbu s)) h := by
 have hit := qwn s hs
 unfold qbu
 by_cases hl : 65536 < s.length
 ·have hl' : (65536 < (s.length : Int)) = True := eq_true (by omega)
  rw [if_pos hl]
  refine qo qwa (by simp) ?_
  simp only [lcP, lnP, Nat.reduceAdd, Nat.reduceSub, List.replicate, caP, naP, List.append_nil]
  simp (disch := omega) only [qgB, hl', go_sem, qc, dvP, mdP]
  repeat' first
   | ((first | refine qe ?_ ?_ | refine qg ?_ ?_); (next => exact rvk); simp only [go_sem]; (first | exact VLe.refl _ | refine qh ?_ | refine qd ?_ | refine ql ?_ | skip))
   | with_reducible first | refine And.intro ?_ ?_ | intro _
  all_goals try exact clz
  all_goals trace_state
 ·have hl' : (65536 < (s.length : Int)) = False := eq_false (by omega)
  rw [if_neg hl]
  refine qo qwa (by simp) ?_
  simp only [lcP, lnP, Nat.reduceAdd, Nat.reduceSub, List.replicate, caP, naP, List.append_nil]
  simp (disch := omega) only [qgB, hl', go_sem, qc, dvP, mdP]
  repeat' first
   | ((first | refine qj (t91 s _) ?_ ?_); (next => exact flk); simp (disch := omega) only [hl', go_sem, qc, dvP, mdP])
   | ((first | refine qn (fun _ => t91 s _) ?_ ?_); (next => exact flk); simp (disch := omega) only [hl', go_sem, qc, dvP, mdP])
   | ((first | refine qk (fun e => ⟨?_, t91 s _⟩) ?_); (next => exact flk); simp (disch := omega) only [hl', go_sem, qc, dvP, mdP])
   | ((first | refine qe ?_ ?_ | refine qg ?_ ?_); (next => exact rvk); simp only [go_sem]; (first | exact VLe.refl _ | refine qh ?_ | refine qd ?_ | refine ql ?_ | skip))
   | with_reducible first | refine And.intro ?_ ?_ | intro _
  all_goals try exact clz
  refine qaV (xs := qdM s) hit (by intro a ha; simp [qdM] at ha; obtain ⟨_, _, _, rfl⟩ := ha; rfl)
   (S := fun i hh => hh = h ++ [.mem 1 39 [.int .i64 0]] ∧ ((qV s).take i).any zS = false)
   (E := fun e hh => e = .ret ∧ hh = h ++ [.mem 1 39 [.int .i64 11]] ∧ (qV s).any zS = true) ?_ ?_ ?_ ?_ ?_ ?_ ?_
  ·rintro i hh ⟨rfl, _⟩
   exact LowI.refl _
  ·rintro e hh ⟨_, rfl, _⟩
   refine LowI.app rfl (fun o ho => ?_)
   simp only [List.mem_cons, List.not_mem_nil, or_false] at ho
   subst ho
   right; constructor <;> (intro c hc; simp at hc; subst hc; rfl)
  ·exact ⟨rfl, by simp⟩
  ·simp [jf, jf.lowVs, qiN]
   try omega
  ·rintro i hh tl L hi ⟨rfl, hno⟩ hlen
   obtain ⟨n, hx⟩ := qft s hi
   rw [qbv] at hi
   rw [hx]
   have hnx := qew (p := zS) hi
   rw [hno, Bool.false_or] at hnx
   have hat := quE (p := zS) hi
   obtain ⟨c, hc⟩ : ∃ c, c = (qV s).getD i [] := ⟨_, rfl⟩
   have hcl := qgS hi
   rw [← hc] at hcl hnx hat ⊢
   simp only [qbi]
   simp (disch := omega) only [List.append_assoc, eq_self, jA, go_sem, qc, dvP, mdP]
   repeat' first
    | ((first | refine qj (jP _ _) ?_ ?_); (next => exact flk); simp (disch := omega) only [List.append_assoc, eq_self, jA, go_sem, qc, dvP, mdP])
    | ((first | refine qn (fun _ => jP _ _) ?_ ?_); (next => exact flk); simp (disch := omega) only [List.append_assoc, eq_self, jA, go_sem, qc, dvP, mdP])
    | ((first | refine qk (fun e => ⟨?_, jP _ _⟩) ?_); (next => exact flk); simp (disch := omega) only [List.append_assoc, eq_self, jA, go_sem, qc, dvP, mdP])
    | ((first | refine qe ?_ ?_ | refine qg ?_ ?_); (next => exact rvk); simp only [go_sem]; (first | exact VLe.refl _ | refine qh ?_ | refine qd ?_ | refine ql ?_ | skip))
    | with_reducible first | refine And.intro ?_ ?_ | intro _
   all_goals try exact clz
   ·rename_i hx
    exact ⟨h ++ [.mem 1 39 [.int .i64 11]], by simp, by simp, by simp, hat (by unfold zS; simpa using hx)⟩
   ·rename_i hx
    exact ⟨h ++ [.mem 1 39 [.int .i64 0]], by simp, by simp, by simp, by rw [hnx]; unfold zS; simpa using hx⟩
  ·rintro hh ⟨rfl, hno⟩
   rw [qbv, List.take_length] at hno
   rw [hno]
   simp (disch := omega) only [go_sem, qc, dvP, mdP]
   repeat' first
    | ((first | refine qe ?_ ?_ | refine qg ?_ ?_); (next => exact rvk); simp only [go_sem]; (first | exact VLe.refl _ | refine qh ?_ | refine qd ?_ | refine ql ?_ | skip))
    | with_reducible first | refine And.intro ?_ ?_ | intro _
   all_goals try exact clz
   all_goals trace_state
  ·rintro e hh ⟨rfl, rfl, hb⟩
   rw [hb]
   show Ex.inBlock 0 _ .ret _ _
   simp (disch := omega) only [go_sem, qc, dvP, mdP]
   repeat' first
    | ((first | refine qe ?_ ?_ | refine qg ?_ ?_); (next => exact rvk); simp only [go_sem]; (first | exact VLe.refl _ | refine qh ?_ | refine qd ?_ | refine ql ?_ | skip))
    | with_reducible first | refine And.intro ?_ ?_ | intro _
   all_goals try exact clz
   all_goals trace_state
end HY
end
