import Derived.Test.YtmieflnoheifbaaGreatDoorK3
import Derived.Test.YtmieflnoheifbaaGreatDoorK5
import Derived.Test.YtmieflnoheifbaaGreatDoorK8
import Derived.Test.YtmieflnoheifbaaGreatDoorProg
import Derived.Test.YtmieflnoheifbaaGreatDoorK11
import Derived.Test.YtmieflnoheifbaaGreatDoorK12
import Derived.Shelf.Strings.BuilderX
import Derived.Shelf.RegionOpenPlain
import Derived.Lib.Strings
import Derived.Lib.Slices
import Derived.Lib.Walk
import Derived.Lib.Builder
import Derived.Lib.AppendStr
import Derived.Lib.UnsafeStr
import Derived.Lib.MakeNoZero
import Derived.WalkKit
import Derived.Laws.Externs
import Derived.RangeFuncBox
import Derived.Laws.Rows
import Derived.Test.YtmieflnoheifbaaGreatDoorK9
set_option linter.all false
set_option maxHeartbeats 64000000
set_option maxRecDepth 100000
section
open Go Go.Proofs AF
def zI:List Nat:= []
def qw6:C:=
 (vS [⟨some 2,none,.alloc 0 28 [i6 0],[]⟩] (vS [⟨some 3,none,.alloc 1 3 [i6 0],[]⟩,⟨none,none,.store 1,[.t 3,.c (i6 4096)]⟩] (vS [O1 8 (.mkfn (Fn.func 337) 0) 3,⟨some
 4,none,.alloc 2 30 [.nilfn],[]⟩,ST 1 4 8] ((vS [MV 9 0,O1 10 (.call 338 true) 9] (C.block 0 (C.range (.t 10) [11] (vW [⟨some 5,none,.alloc 3 386 [i6 0,.str [],i6 0,.nl,i6
 0,.bool false],[]⟩,ST 6 5 11]) (C.block 1 (vS [LD 12 4,O1 13 .callv 12,O1 14 (.un UnOp.not) 13,MV 15 14,vZ 16 15 4 5,v6 17 15 16,vR 18 15 (.bin .geq) 17 (i6 16),vQ 19 15 18,P1
 20 19 true (.fldA 0) 5,P1 21 19 true (.fldA 3) 20,P1 22 19 true (.load none) 21,P1 23 19 true .len 22,PC 24 19 true (.bin .gtr) 23 (i6 0),QF 25 15 false 19 24,PT 26 15 25] (vT
 26 (vV [⟨none,none,.store 1,[.t 2,.c (i6 4)]⟩]))))))).seq ((vS [MV 27 0,O1 28 (.call 338 true) 27] (C.block 2 (C.range (.t 28) [29] (vW [⟨some 6,none,.alloc 4 386 [i6 0,.str
 [],i6 0,.nl,i6 0,.bool false],[]⟩,ST 6 6 29]) (C.block 3 (vS [O1 30 (.load (some 6)) 6,O1 31 (.call 339 true) 30,MV 7 31] (vS [MV 32 7,vN 33 .neq 32 0] (vT 33 (vV [MV 34 7,ST 1
 2 34])))))))).seq ((vS [MV 35 0,O1 36 (.call 340 true) 35,O1 37 .slen 36,vN 38 .gtr 37 65536] (vT 38 (vV [⟨none,none,.store 1,[.t 2,.c (i6 4)]⟩]))).seq (vV [⟨none,none,.store
 1,[.t 2,.c (i6 0)]⟩])))))))
theorem qyJ:qK Tryz.prog 283 39 5 [RV.cell 2 none] qw6:=fi Tryz.f283 [2,3,4,5,6] zI []
def qxe:C:=
 (vS [MC 1 (.bool false)] (vS [LD 2 0,vN 3 .sub 2 1,ST 1 0 3] (vV [LD 4 0,vN 5 .geq 4 0,MV 1 5])))
theorem qyS:qK Tryz.prog 337 6 0 [RV.tmp 1] qxe:=fi Tryz.f337 [] zI []
def qxf:C:=
 (vS [O1 1 (.box 0 232) 0,MC 2 .nilfn] (vV [O1 3 (.mkfn (Fn.func 372) 0) 1,MV 2 3]))
theorem qyT:qK Tryz.prog 338 4 1 [RV.tmp 2] qxf:=fi Tryz.f338 [1] zI []
def qxn:C:=
 (vS [O1 2 (.box 0 411) 0] (vS [⟨some 3,none,.alloc 1 412 [.nilfn],[]⟩] (vS [O2 4 (.mkfn (Fn.func 373) 0) 2 3,ST 1 3 4] (vW [LD 5 3,LD 6 1,ON 7 .callv [.t 5,.t 6,.c (i6 0)]]))))
theorem qy1:qK Tryz.prog 372 8 2 [] qxn:=fi Tryz.f372 [2,3] zI []
def qs3:C:=
 (vS [MC 6 (.bool false)] (vS [MC 7 (.bool false)] ((vS [MV 10 0,O1 11 .len 10,vM 12 0] (C.block 0 (vS [BI 13 .lss 12 11] ((vU 13 0).seq ((C.block 1 (vS [O2 14 (.idxA 4) 10 12,O1
 15 (.load (some 4)) 14,⟨some 9,none,.alloc 0 234 [i6 0,.str [],i6 0,.nl],[]⟩,ST 4 9 15] ((vS [LD 16 2,O1 17 (.load (some 4)) 9,MV 18 1,MV 19 7,⟨some 20,none,.build [i6 0,.str
 [],i6 0,.nl,i6 0,.bool false] [(0,4),(4,1),(5,1)],[.t 17,.t 18,.t 19]⟩,O2 21 .callv 16 20,O1 22 (.un UnOp.not) 21,MV 23 22,vQ 24 23 1,vR 25 23 (.bin .leq) 24 (i6 16),vQ 26 23
 25,P1 27 26 true (.load none) 3,P1 28 26 true (.fldA 3) 9,P1 29 26 true (.load none) 28,MG 30 26 true 1,PC 31 26 true (.bin .add) 30 (i6 1),PN 32 26 true .callv [.t 27,.t 29,.t
 31],P1 33 26 true (.un UnOp.not) 32,QF 34 23 false 26 33,PT 35 23 34] (vT 35 (vV [MC 6 (.bool false)]))).seq (vW [vL 36 0 9,LD 37 36,vN 38 .eql 37 1,MV 7 38])))).seq (vW [vN 39
 .add 12 1,MV 12 39])))).loop)).seq (vV [MC 6 (.bool true)]))))
theorem qrX:qK Tryz.prog 373 40 1 [RV.tmp 6] qs3:=fi Tryz.f373 [9] zI []
def qxg:C:=
 (vS [O1 1 (.box 0 386) 0,vM 2 0] (vS [vL 6 0 1,O1 7 (.load (some 4)) 6,⟨some 3,none,.alloc 1 234 [i6 0,.str [],i6 0,.nl],[]⟩,ST 4 3 7] ((vS [vL 8 0 3,LD 9 8,vN 10 .lss 9 1,MV 11
 10,vZ 12 11 0 3,v6 13 11 12,vR 14 11 (.bin .gtr) 13 (i6 11),PT 15 11 14] (vT 15 (vV [vM 2 8]))).seq (vS [vL 16 0 3,LD 17 16,O1 18 (.gix 4 12 4) 17,O1 19 (.load (some 4))
 18,⟨some 4,none,.alloc 2 414 [.str [],.bool false,.bool false,.bool false],[]⟩,ST 4 4 19] (vS [vL 20 0 3,LD 21 20,vN 22 .eql 21 6,MV 5 22] ((C.block 0 (vS [vL 24 1 4,LD 25
 24,O1 26 (.un UnOp.not) 25,MV 27 26,P1 28 27 true (.fldA 1) 3,P1 29 27 true (.load none) 28,PC 30 27 true (.bin .neq) 29 (.str []),PF 31 27 30,MV 32 31,vZ 33 32 2 4,v6 34 32
 33,vO 35 32 (.un UnOp.not) 34,vQ 36 32 35,P1 37 36 true (.fldA 2) 3,P1 38 36 true (.load none) 37,PC 39 36 true (.bin .neq) 38 (i6 0),QF 40 32 false 36 39,PT 41 32 40,MV 42
 41,vZ 43 42 3 4,v6 44 42 43,vO 45 42 (.un UnOp.not) 44,vQ 46 42 45,P1 47 46 true (.fldA 3) 3,P1 48 46 true (.load none) 47,P1 49 46 true .len 48,PC 50 46 true (.bin .gtr) 49
 (i6 0),QF 51 42 false 46 50,PT 52 42 51,MV 23 52] (C.cond (.t 23) (vV [vM 2 8]) (vS [vL 54 0 3,LD 55 54,vN 56 .eql 55 1,MV 57 56,P1 58 57 true (.fldA 1) 3,P1 59 57 true (.load
 none) 58,PC 60 57 true (.bin .eql) 59 (.str []),PF 61 57 60,MV 62 61,vZ 63 62 3 4,v6 64 62 63,vQ 65 62 64,P1 66 65 true (.fldA 3) 3,P1 67 65 true (.load none) 66,P1 68 65 true
 .len 67,PC 69 65 true (.bin .eql) 68 (i6 0),QF 70 62 false 65 69,PT 71 62 70,MV 53 71] (C.cond (.t 53) (vV [vM 2 5]) (vS [vL 73 0 3,LD 74 73,vN 75 .eql 74 1,MV 76 75,P1 77 76
 true (.fldA 1) 3,P1 78 76 true (.load none) 77,P1 79 76 true (.call 219 true) 78,PC 80 76 true (.bin .neq) 79 (i6 0),PF 81 76 80,MV 72 81] (C.cond (.t 72) (vV [vM 2 11]) ((vS
 [vL 83 0 3,LD 84 83,vN 85 .eql 84 10,MV 86 85,P1 87 86 true (.fldA 1) 3,P1 88 86 true (.load none) 87,P1 89 86 true (.call 145 true) 88,P1 90 86 true (.un UnOp.not) 89,PF 91 86
 90,MV 82 91] (C.cond (.t 82) C.skip (vW [vL 92 1 4,LD 93 92,MV 94 93,P1 95 94 true (.fldA 0) 3,P1 96 94 true (.load none) 95,PC 97 94 true (.bin .neq) 96 (i6 1),PF 98 94 97,MV
 99 98,P1 100 99 true (.fldA 0) 3,P1 101 99 true (.load none) 100,PC 102 99 true (.bin .neq) 101 (i6 10),PF 103 99 102,MV 104 103,P1 105 104 true (.fldA 1) 3,P1 106 104 true
 (.load none) 105,P1 107 104 true (.call 181 true) 106,P1 108 104 true (.un UnOp.not) 107,PF 109 104 108,MV 82 109]))).seq (C.cond (.t 82) (vV [vM 2 14]) ((vS [vL 111 2 4,LD 112
 111,MV 113 112,P1 114 113 true (.fldA 2) 3,P1 115 113 true (.load none) 114,PC 116 113 true (.bin .lss) 115 (i6 1),PF 117 113 116,MV 110 117] (C.cond (.t 110) C.skip (vS [MV
 118 5,MV 119 118,P1 120 119 true (.fldA 2) 3,P1 121 119 true (.load none) 120,PC 122 119 true (.bin .gtr) 121 (i6 64),PF 123 119 122,MV 110 123] (C.cond (.t 110) C.skip (vW [vL
 124 2 4,LD 125 124,MV 126 125,MG 127 126 true 5,P1 128 126 true (.un UnOp.not) 127,PF 129 126 128,MV 130 129,P1 131 130 true (.fldA 2) 3,P1 132 130 true (.load none) 131,PC 133
 130 true (.bin .gtr) 132 (i6 8),PF 134 130 133,MV 110 134]))))).seq (C.cond (.t 110) (vV [vM 2 2]) (vS [vL 136 0 3,LD 137 136,vN 138 .eql 137 1,MV 139 138,P1 140 139 true
 (.fldA 5) 1,P1 141 139 true (.load none) 140,PF 142 139 141,MV 135 142] (C.cond (.t 135) (vV [vM 2 10]) (vS [vL 144 0 3,LD 145 144,vN 146 .eql 145 4,MV 147 146,P1 148 147 true
 (.fldA 4) 1,P1 149 147 true (.load none) 148,PC 150 147 true (.bin .gtr) 149 (i6 0),PF 151 147 150,MV 143 151] (vT 143 (vV [vM 2 12])))))))))))))))).seq (vV [vM 2 0])))))))
theorem qyU:qK Tryz.prog 339 152 3 [RV.tmp 2] qxg:=fi Tryz.f339 [1,3,4] zI []
def qw8:C:=
 (vS [O1 3 (.box 0 3) 1,vM 4 0,vM 5 0] ((vS [MV 8 0,O1 9 (.call 283 true) 8,vN 10 .neq 9 0] (vT 10 (vV [vM 4 0,vM 5 1]))).seq ((vS [LD 11 3,vN 12 .lss 11 1,MV 13 12,v6 14 13 3,vR
 15 13 (.bin .gtr) 14 (i6 11),PT 16 13 15] (vT 16 (vV [vM 4 0,vM 5 8]))).seq (vS [⟨some 6,none,.alloc 1 3 [i6 0],[]⟩,⟨none,none,.store 1,[.t 6,.c (i6 0)]⟩] ((vS [MV 17 0,O1 18
 (.call 338 true) 17] (C.block 0 (C.range (.t 18) [19] (vW [⟨some 7,none,.alloc 2 386 [i6 0,.str [],i6 0,.nl,i6 0,.bool false],[]⟩,ST 6 7 19]) (C.block 1 (vS [vL 20 0 7,vL 21 0
 20,LD 22 21,LD 23 3,BI 24 .eql 22 23] (vT 24 (vW [LD 25 6,vN 26 .add 25 1,ST 1 6 26]))))))).seq (vV [LD 27 6,MV 4 27,vM 5 0]))))))
theorem qyL:qK Tryz.prog 285 28 3 [RV.tmp 4,RV.tmp 5] qw8:=fi Tryz.f285 [3,6,7] zI []
def qw7:C:=
 (vS [vM 2 0] ((vS [MV 6 0,O1 7 .len 6,vN 8 .gtr 7 64] (vT 8 (vV [vM 2 4]))).seq ((vS [MV 9 0,O1 10 .len 9,vM 11 0] (C.block 0 (vS [BI 12 .lss 11 10] ((vU 12 0).seq ((C.block 1
 (vS [O2 13 (.idxA 2) 9 11,O1 14 (.load (some 2)) 13,⟨some 4,none,.alloc 0 357 [.str [],.str []],[]⟩,ST 2 4 14] (vS [O1 15 (.load (some 2)) 4,O1 16 (.call 341 true) 15,MV 5 16]
 (vS [MV 17 5,vN 18 .neq 17 0] (vT 18 (vV [MV 19 5,MV 2 19])))))).seq (vW [vN 20 .add 11 1,MV 11 20])))).loop)).seq (vV [vM 2 0]))))
theorem qyK:qK Tryz.prog 284 21 1 [RV.tmp 2] qw7:=fi Tryz.f284 [4] zI []
def qxm:C:=
 (vS [MC 4 (.str []),vM 5 0] (vS [MV 9 0,MV 10 1,O2 11 (.call 378 true) 9 10,MV 8 11,O1 12 (.ext 0) 8,O1 13 (.ext 1) 8,MV 6 12,MV 7 13] ((vS [MV 14 7,vN 15 .neq 14 0] (vT 15 (vV
 [MV 16 7,MC 4 (.str []),MV 5 16]))).seq (vV [MV 17 6,MV 18 6,O1 19 .len 18,vN 20 .sub 19 1,O2 21 (.idxA 1) 17 20,LD 22 21,MV 4 22,vM 5 0]))))
theorem qy0:qK Tryz.prog 348 23 0 [RV.tmp 4,RV.tmp 5] qxm:=fi Tryz.f348 [] zI []
def qxr:C:=
 (vS [ON 4 (.nilo 0 1 9) [],vM 5 0] ((vS [MV 7 0,MV 8 1,O2 9 (.call 386 true) 7 8,MV 6 9] (vS [MV 10 6,vN 11 .neq 10 0] (vT 11 (vV [MV 12 6,ON 4 (.nilo 0 1 9) [],MV 5 12])))).seq
 (vV [MV 13 0,MV 14 1,O2 15 (.call 387 true) 13 14,O1 16 (.ext 0) 15,O1 17 (.ext 1) 15,MV 4 16,MV 5 17])))
theorem qy5:qK Tryz.prog 378 18 1 [RV.tmp 4,RV.tmp 5] qxr:=fi Tryz.f378 [4] zI []
def qxt:C:=
 (vS [ON 4 (.nilo 0 1 9) [],vM 5 0] (vS [MV 9 1,⟨some 10,none,.bslc 1 1 1 9 [.str []] [(0,1)],[.t 9]⟩,MV 6 10] (C.block 0 (C.block 1 (vS [MV 12 0,MV 13 6,MV 14 6,O1 15 .len 14,vN
 16 .sub 15 1,O2 17 (.idxA 1) 13 16,LD 18 17,O2 19 (.call 390 true) 12 18,MV 11 19,O1 20 (.ext 0) 11,O1 21 (.ext 1) 11,MV 7 20,MV 8 21] ((vS [MV 22 8,O1 23 (.un UnOp.not) 22]
 (vT 23 (vV [MV 24 6,MV 4 24,vM 5 0]))).seq ((vS [MV 25 6,O1 26 .len 25,vN 27 .eql 26 4096] (vT 27 (vV [ON 4 (.nilo 0 1 9) [],vM 5 4]))).seq (vW [MV 28 6,MV 29 7,⟨some
 30,none,.bslc 2 1 1 9 [.str []] [(0,1)],[.t 29]⟩,O2 31 (.app 3 1 9 16) 28 30,MV 6 31]))))).loop)))
theorem qy7:qK Tryz.prog 387 32 4 [RV.tmp 4,RV.tmp 5] qxt:=fi Tryz.f387 [4,10,30,31] zI []
def qxs:C:=
 (vS [vM 4 0] ((C.block 0 (vS [MV 6 0,O1 7 (.call 284 true) 6,vN 8 .neq 7 0,MV 5 8] (C.cond (.t 5) (vV [vM 4 1]) (vS [MV 10 1,O1 11 .slen 10,vN 12 .gtr 11 64,MV 9 12] (C.cond (.t
 9) (vV [vM 4 4]) (vS [MV 14 1,O1 15 (.call 376 true) 14,O1 16 (.un UnOp.not) 15,MV 13 16] (vT 13 (vV [vM 4 11])))))))).seq (vV [vM 4 0])))
theorem qy6:qK Tryz.prog 386 17 0 [RV.tmp 4] qxs:=fi Tryz.f386 [] zI []
def qxp:C:=
 (vS [MC 2 (.bool false)] ((vS [MV 4 0,O1 5 .slen 4,vM 6 0] (C.block 0 (vS [BI 7 .lss 6 5] ((vU 7 0).seq ((C.block 1 (vS [MV 8 6,MV 3 8] (vS [MV 9 0,MV 10 3,O2 11 .sidx 9 10,O1
 12 (.call 220 true) 11] (C.block 2 ((vS [vN 14 .eql 12 1,MV 13 14] (C.cond (.t 13) C.skip (vS [vN 15 .eql 12 2,MV 13 15] (C.cond (.t 13) C.skip (vS [vN 16 .eql 12 3,MV 13 16]
 (C.cond (.t 13) C.skip (vW [vN 17 .eql 12 4,MV 13 17]))))))).seq (C.cond (.t 13) C.skip (vV [MC 2 (.bool false)]))))))).seq (vW [vN 18 .add 6 1,MV 6 18])))).loop)).seq (vV [MC
 2 (.bool true)])))
theorem qy3:qK Tryz.prog 376 19 0 [RV.tmp 2] qxp:=fi Tryz.f376 [] zI []
def qxu:C:=
 (vS [⟨some 4,none,.alloc 0 9 [.str []],[]⟩,⟨some 5,none,.alloc 1 4 [.bool false],[]⟩] ((vS [MV 7 0,MV 8 1,O2 9 (.call 391 true) 7 8] (C.block 0 (C.range (.t 9) [10] (vW [MV 6
 10]) (C.block 1 (vV [MV 11 6,ST 1 4 11,⟨none,none,.store 1,[.t 5,.c (.bool true)]⟩]))))).seq (vV [MV 12 1,ST 1 4 12,⟨none,none,.store 1,[.t 5,.c (.bool false)]⟩])))
theorem qy8:qK Tryz.prog 390 13 2 [RV.cell 4 none,RV.cell 5 none] qxu:=fi Tryz.f390 [4,5] zI []
def qxv:C:=
 (vS [O1 2 (.box 0 296) 0,O1 3 (.box 1 9) 1,MC 4 .nilfn] (vV [O2 5 (.mkfn (Fn.func 392) 0) 3 2,MV 4 5]))
theorem qy9:qK Tryz.prog 391 6 2 [RV.tmp 4] qxv:=fi Tryz.f391 [2,3] zI []
def qxw:C:=
 (vS [LD 9 1,O1 10 .slen 9,vM 11 0] (C.block 0 (vS [BI 12 .lss 11 10] ((vU 12 0).seq ((C.block 1 (vS [MV 13 11,MV 4 13] (vS [LD 14 2,O1 15 .len 14,vM 16 0] (C.block 2 (vS [BI 17
 .lss 16 15] ((vU 17 2).seq ((C.block 3 (vS [O2 18 (.idxA 2) 14 16,O1 19 (.load (some 2)) 18,⟨some 6,none,.alloc 0 357 [.str [],.str []],[]⟩,ST 2 6 19] (vS [LD 21 1,MV 22 4,O2
 23 (.sslc true false) 21 22,vL 24 0 6,LD 25 24,O2 26 (.call 264 true) 23 25,MV 20 26,O1 27 (.ext 0) 20,O1 28 (.ext 1) 20,MV 7 27,MV 8 28] (vS [MV 29 8,MV 30 29,MG 31 30 true
 0,P1 32 30 true (.load none) 1,MG 33 30 true 4,P2 34 30 true (.sslc false true) 32 33,P1 35 30 true (.fldA 1) 6,P1 36 30 true (.load none) 35,P2 37 30 true (.bin .add) 34 36,MG
 38 30 true 7,P2 39 30 true (.bin .add) 37 38,P2 40 30 true .callv 31 39,P1 41 30 true (.un UnOp.not) 40,PF 42 30 41] (vT 42 C.ret))))).seq (vW [vN 43 .add 16 1,MV 16
 43])))).loop)))).seq (vW [vN 44 .add 11 1,MV 11 44])))).loop))
theorem qza:qK Tryz.prog 392 45 1 [] qxw:=fi Tryz.f392 [6] zI []
def qw9:C:=
 (vS [O1 2 (.box 0 117) 0,O1 3 (.box 1 232) 1,MC 4 .nilfn] (vV [O2 5 (.mkfn (Fn.func 342) 0) 2 3,MV 4 5]))
theorem qyM:qK Tryz.prog 286 6 2 [RV.tmp 4] qw9:=fi Tryz.f286 [2,3] zI []
def qxi:C:=
 (vS [O1 3 (.box 0 389) 0] (vS [O1 6 (.load (some 2)) 1,⟨some 7,none,.build [i6 0,.int .u8 0,i6 0,.str [],i6 0,.bool false,.str []] [(3,2)],[.t 6]⟩,⟨some 4,none,.alloc 1 348 [i6
 0,.int .u8 0,i6 0,.str [],i6 0,.bool false,.str []],[]⟩,ST 7 4 7] (vS [⟨some 5,none,.alloc 2 390 [.nilfn],[]⟩] (vS [ON 8 (.mkfn (Fn.func 343) 0) [.t 4,.t 3,.t 5],ST 1 5 8] (vW
 [LD 9 5,LD 10 2,O2 11 .callv 9 10])))))
theorem qyW:qK Tryz.prog 342 12 3 [] qxi:=fi Tryz.f342 [3,4,5] zI []
@[go_sem]def vd:DT:= DT.one ⟨some 22,none,.fldA 2,[.t 1]⟩ (DT.one ⟨none,none,.store 1,[.t 22,.t 20]⟩ DT.nil)
@[go_sem]def vf:DT:= DT.one ⟨some 49,none,.fldA 6,[.t 1]⟩ (DT.one ⟨none,none,.store 1,[.t 49,.t 47]⟩ DT.nil)
def qxj:C:=
 (vS [MC 5 (.bool false)] ((vS [MV 11 0,O1 12 .len 11,vM 13 0] (C.block 0 (vS [BI 14 .lss 13 12] ((vU 14 0).seq ((C.block 1 (vS [O2 15 (.idxA 4) 11 13,O1 16 (.load (some 4))
 15,⟨some 7,none,.alloc 0 234 [i6 0,.str [],i6 0,.nl],[]⟩,ST 4 7 16] ((C.draw (DT.one ⟨some 17,none,.fldA 0,[.t 7]⟩ (DT.one ⟨some 18,none,.load none,[.t 17]⟩ (DT.one ⟨some
 21,none,.fldA 0,[.t 1]⟩ ((DT.one ⟨some 19,none,.fldA 2,[.t 7]⟩ ((DT.one ⟨some 20,none,.load none,[.t 19]⟩ (DT.one ⟨none,none,.store 1,[.t 21,.t 18]⟩ vd)).two (DT.one
 ⟨none,none,.store 1,[.t 21,.t 18]⟩ (DT.one ⟨some 20,none,.load none,[.t 19]⟩ vd)))).two (DT.one ⟨none,none,.store 1,[.t 21,.t 18]⟩ (DT.one ⟨some 19,none,.fldA 2,[.t 7]⟩ (DT.one
 ⟨some 20,none,.load none,[.t 19]⟩ vd)))))))).seq (vS [vL 23 0 7,LD 24 23] (C.block 2 (vS [vN 53 .eql 24 2,MV 52 53] (C.cond (.t 52) (vW [vL 54 3 1,vL 55 1 54,LD 56 55,vN 57
 .add 56 1,vL 58 3 1,vL 59 1 58,ST 1 59 57]) (vS [vN 61 .eql 24 3,MV 60 61] (C.cond (.t 60) (vW [vL 62 1 7,LD 63 62,⟨some 64,none,.build [.str [],i6 0] [(0,1)],[.t 63]⟩,vL 65 3
 1,ST 2 65 64]) (vS [vN 67 .eql 24 1,MV 66 67] (C.cond (.t 66) (vS [vL 68 1 7,LD 69 68,O1 70 .slen 69,vM 71 0] (C.block 3 (vS [BI 72 .lss 71 70] ((vU 72 3).seq ((C.block 4 (vS
 [MV 73 71,MV 8 73] (vS [vL 74 1 7,LD 75 74,MV 76 8,O2 77 .sidx 75 76,vL 78 1 1,ST 1 78 77] (vS [LD 79 2,O1 80 (.load (some 7)) 1,O2 81 .callv 79 80,O1 82 (.un UnOp.not) 81] (vT
 82 (vV [MC 5 (.bool false)])))))).seq (vW [vN 83 .add 71 1,MV 71 83])))).loop)) ((vS [vN 85 .eql 24 6,MV 84 85] (C.cond (.t 84) C.skip (vS [vN 86 .eql 24 5,MV 84 86] (C.cond
 (.t 84) C.skip (vW [vN 87 .eql 24 4,MV 84 87]))))).seq (C.cond (.t 84) (vS [LD 88 2,O1 89 (.load (some 7)) 1,O2 90 .callv 88 89,O1 91 (.un UnOp.not) 90] (vT 91 (vV [MC 5 (.bool
 false)]))) (vS [O1 25 (.load (some 7)) 1,⟨some 9,none,.alloc 1 348 [i6 0,.int .u8 0,i6 0,.str [],i6 0,.bool false,.str []],[]⟩,ST 7 9 25] (vS [vL 26 5 1,LD 27 26,MV 28 27,vZ 29
 28 0 7,v6 30 28 29,vR 31 28 (.bin .eql) 30 (i6 7),PT 32 28 31,vL 33 5 1,ST 1 33 32] ((vS [vL 34 0 7,LD 35 34,vN 36 .eql 35 11] (vT 36 (vW [vL 37 1 7,LD 38 37,vL 39 6 1,ST 1 39
 38]))).seq (vS [LD 40 3,vL 41 3 7,LD 42 41,O2 43 .callv 40 42,MV 10 43] ((C.draw (DT.one ⟨some 44,none,.fldA 5,[.t 9]⟩ (DT.one ⟨some 45,none,.load none,[.t 44]⟩ (DT.one ⟨some
 48,none,.fldA 5,[.t 1]⟩ ((DT.one ⟨some 46,none,.fldA 6,[.t 9]⟩ ((DT.one ⟨some 47,none,.load none,[.t 46]⟩ (DT.one ⟨none,none,.store 1,[.t 48,.t 45]⟩ vf)).two (DT.one
 ⟨none,none,.store 1,[.t 48,.t 45]⟩ (DT.one ⟨some 47,none,.load none,[.t 46]⟩ vf)))).two (DT.one ⟨none,none,.store 1,[.t 48,.t 45]⟩ (DT.one ⟨some 46,none,.fldA 6,[.t 9]⟩ (DT.one
 ⟨some 47,none,.load none,[.t 46]⟩ vf)))))))).seq (vS [MV 50 10,O1 51 (.un UnOp.not) 50] (vT 51 (vV [MC 5 (.bool false)]))))))))))))))))))))).seq (vW [vN 92 .add 13 1,MV 13
 92])))).loop)).seq (vV [MC 5 (.bool true)])))
theorem qyX:qK Tryz.prog 343 93 2 [RV.tmp 5] qxj:=fi Tryz.f343 [7,9] zI []
def qxk:C:=
 (vS [MC 2 .nilp] (vV [MV 3 0,O1 4 .nilchk 3,vL 5 0 4,LD 6 5,MV 7 0,O1 8 .nilchk 7,vL 9 0 8,LD 10 9,O1 11 .len 10,vN 12 .sub 11 1,O2 13 (.idxA 6) 6 12,MV 2 13]))
theorem qyY:qK Tryz.prog 346 14 0 [RV.tmp 2] qxk:=fi Tryz.f346 [] zI []
def qsX:C:=
 (vS [O1 1 (.box 0 119) 0,MC 2 (.bool false)] (vV [vL 3 0 1,LD 4 3,O1 5 .slen 4,vN 6 .gtr 5 64,MV 2 6]))
theorem qrR:qK Tryz.prog 289 7 1 [RV.tmp 2] qsX:=fi Tryz.f289 [1] zI []
def qDE:C:=
 (vS [ON 2 (.nilo 0 1 9) []] (vS [ON 3 (.nilo 1 1 9) []] ((vS [MV 6 0,O1 7 .len 6,vM 8 0] (C.block 0 (vS [BI 9 .lss 8 7] ((vU 9 0).seq ((C.block 1 (vS [O2 10 (.idxA 6) 6 8,O1 11
 (.load (some 6)) 10,⟨some 5,none,.alloc 2 119 [.str [],.str [],.str [],i6 0,i6 0,.str []],[]⟩,ST 6 5 11] (vW [MV 12 3,vL 13 0 5,LD 14 13,⟨some 15,none,.bslc 3 1 1 9 [.str []]
 [(0,1)],[.t 14]⟩,O2 16 (.app 4 1 9 16) 12 15,MV 3 16]))).seq (vW [vN 17 .add 8 1,MV 8 17])))).loop)).seq (vV [MV 18 3,MV 2 18]))))
theorem qCs:qK Tryz.prog 64 19 5 [RV.tmp 2] qDE:=fi Tryz.f64 [2,3,5,15,16] zI []
end
section
open Go Go.Proofs AF HY LN
namespace RC
abbrev frmN:Nat:=4
def frmC:wg:= [.str [],.bool false,.bool false,.bool false,.str [],.bool true,.bool false,.bool false,.str [108,98],.bool false,.bool false,.bool false,.str [112,98],.bool true,.bool false,.bool false,
 .str [115,101,99],.bool true,.bool false,.bool false,.str [118],.bool false,.bool false,.bool false,.str [103,97,112],.bool false,.bool true,.bool false,.str [117,110,99,108,101,97,114],.bool false,.bool false,.bool true,
 .str [97,100,100],.bool false,.bool true,.bool true,.str [100,101,108],.bool false,.bool true,.bool true,.str [97,98],.bool true,.bool false,.bool true,.str [110,97,109,101],.bool true,.bool false,.bool true]
def qzk:wg:= [.str [],.bool true,.bool false,.bool false]
theorem qrY:(frmC.drop ((1:Int).toNat*4)).take 4=qzk:=rfl
def PF(h:we):Prop:=ku SG h∧z6 h frmN frmC
theorem PF.app{h:we}(hp:PF h)(l:we):PF (h++l):=⟨hp.1.app l,hp.2.app⟩
def ndC(s:Str):wg:= [.int .i64 1,.str s,.int .i64 0,.nl]
def jT(s:Str):AV:= .sl 1 λ_=>ndC s
def plC(s:Str):wg:= [.int .i64 1,.str s,.int .i64 0,.nl,.int .i64 0,.bool false]
theorem qER(s:Str)(h:we)(hs:s≠ [])(hl:s.length<=1000000)(hc:zG s=0)(hg:z6 h frmN frmC):ACalls Tryz.prog 339 [.agg (plC s)] h (.int .i64 0) h:=by
 have c1:=λh=>qC3 s h om
 rw[hc]at c1;have k1:(s= [])=False:=eqf hs;refine acO qyU ?_;simp (disch:=omega) only[qxg,plC,go_sem]
 repeat' first|(apply qa;exact rvk;simp only[go_sem];apply qe)|(with_reducible first|intro _|apply aiA)|exact clz|fail
 refine qrZ (cs:=frmC) hg.app ⟨by decide,by decide⟩ rfl ?_;rw[qrY];simp (disch:=omega) only[qzk,k1,go_sem]
 repeat' first|(refine ql ( .bool false) ?_;simp (disch:=omega) only[go_sem])|(refine cG (λe=>c1 _) flk ?_;simp (disch:=omega) only[go_sem])|(apply qa;exact rvk;simp only[go_sem];first|exact qi|apply qe)|(with_reducible first|intro _|apply aiA)|exact clz|fail
end RC
end
section
open Go Go.Proofs AF HY LN
namespace AF
mutual
theorem kk{n m:Nat}(h:n<=m): ∀c,qS n c=true->qS m c=true
 | .osl k v z o l,hc=>by simp only[qS,decide_eq_true_eq]at*;omega
 | .op k v o,hc=>by simp only[qS,decide_eq_true_eq]at*;omega
 | .mp k v,hc=>by simp only[qS,decide_eq_true_eq]at*;omega
 | .yld k,hc=>by simp only[qS,decide_eq_true_eq]at*;omega
 | .agg cs,hc=>by simp only[qS]at*;exact kO h cs hc
 | .tup cs,hc=>by simp only[qS]at*;exact kO h cs hc
 | .fn f a b,hc=>by simp only[qS,Bool.and_eq_true]at*;exact⟨kO h a hc.1,kO h b hc.2⟩
 | .gd g v,hc=>by
  cases g with
  |false=>rfl
  |true=>simp only[qS,Bool.not_true,Bool.false_or]at*;exact kk h v hc
 | .undef,_=>rfl
 | .bool _,_=>rfl
 | .int _ _,_=>rfl
 | .str _,_=>rfl
 | .sl _ _,_=>rfl
 | .ip _,_=>rfl
 | .nilp,_=>rfl
 | .nl,_=>rfl
 | .el,_=>rfl
 | .nilfn,_=>rfl
 | .ifc,_=>rfl
 | .nilif,_=>rfl
 | .anyb,_=>rfl
theorem kO{n m:Nat}(h:n<=m): ∀cs,qS.lowVs n cs=true->qS.lowVs m cs=true
 | [],_=>rfl
 |c::r,hc=>by simp only[qS.lowVs,Bool.and_eq_true]at*;exact⟨kk h c hc.1,kO h r hc.2⟩
end
theorem lowO_mono{n m:Nat}(h:n<=m){o:AObj}(ho:lowO n o):lowO m o:=by
 cases o with
 |mem v ty cs=>exact λc hc=>kk h c (ho c hc)
 |emp v=>trivial
 |lp s ts L=>exact λc hc=>kk h c (ho c hc)
 |map v es=>exact λp hp=>kk h p.2 (ho p hp)
 |pin bs G=>trivial
theorem LowI.retX{h hh xs:we}{ts:wg}{L:LInfo}(s:LS)(hl:LowI h hh)(hts: ∀c∈ts,qS (h.length+1) c=true):
  (hh++ .lp s ts L::xs).length=(h++ .lp .ready ts L::xs).length∧ ∀o∈hh++ .lp s ts L::xs,o∈h++ .lp .ready ts L::xs∨lowO (h++ .lp .ready ts L::xs).length o:=by
 refine⟨by simp[hl.1],λo ho=> ?_⟩;rcases List.mem_append.1 ho with ho|ho
 ·rcases hl.2 o ho with h1|⟨h1,_⟩
  ·exact .inl (List.mem_append_left _ h1)
  ·exact .inr (lowO_mono (by simp) h1)
 ·rcases List.mem_cons.1 ho with rfl|ho
  ·exact .inr (λc hc=>kk (by simp) c (hts c hc))
  ·exact .inl (List.mem_append_right _ (List.mem_cons_of_mem _ ho))
end AF
namespace RC
theorem qFj(d:Int)(a b:AV)(h:we):ACalls Tryz.prog 373 [.nl,.int .i64 d,a,b] h (.bool true) h:=by
 refine acO qrX ?_;simp (disch:=omega) only[qs3,go_sem];refine qt (T:=λ_:Unit=>zg 40 [(1,.int .i64 d),(2,a),(3,b),(7,.bool false),(10,.nl),(11,.int .i64 0),(12,.int .i64 0)]) (H:=λ_=>h++ [.emp 0]) (inv:=λ_=>True) (m:=λ_=>0) () trivial (Wk.temps ?_) ?_
 ·(simp only[go_sem,qh,qf,qb,qg];try exact wa)
 rintro⟨⟩ _ K hK;simp (disch:=omega) only[go_sem]
 repeat' first|exact v7|(with_reducible first|intro _|apply aiA)|exact clz|fail
def cyl(n:Nat):AObj:= .mem 1 411 [.yld n]
def cwk(n:Nat):AObj:= .mem 1 412 [.fn (.func 373) [] [.op (n+1) 1 0,.op (n+2) 1 0]]
section
variable {n : Nat} {hh m : we} {st : LS} {ts : wg} {LI : LInfo}
theorem qzY(hl:hh.length=n):cellsOf (hh++ .lp st ts LI::cyl n::cwk n::m) (n+1) 1=some [.yld n]:=qQ (show qq _ _=some (cyl n) by subst hl;unfold qq;simp)
theorem qzZ(hl:hh.length=n):cellsOf (hh++ .lp st ts LI::cyl n::cwk n::m) (n+2) 1=some [.fn (.func 373) [] [.op (n+1) 1 0,.op (n+2) 1 0]]:=qQ (show qq _ _=some (cwk n) by subst hl;unfold qq;simp)
end
theorem wlk1(s:Str)(h:we)(ts:wg)(LI:LInfo)(S:Nat->we->Prop)(E:LS->we->Prop)(hS: ∀i hh,S i hh->LowI h hh)(hE: ∀s hh,E s hh->LowI h hh)
  (body: ∀i hh tl,(hi:i< [[AV.agg (plC s)]].length)->S i hh->jD Tryz.prog h.length ([[AV.agg (plC s)]][i]) (hh++ .lp .ready ts LI::tl) (λr h'=> ∃hh',(r= .bool true∧S (i+1) hh'∧h'=hh'++ .lp .ready ts LI::tl)∨(∃s,r= .bool false∧E s hh'∧h'=hh'++ .lp s ts LI::tl)))
  (start:S 0 h) (hts: ∀c∈ts,qS (h.length+1) c=true):
  zU Tryz.prog 373 [jT s,.int .i64 0,.op (h.length+1) 1 0,.op (h.length+2) 1 0] (h++ [.lp .ready ts LI,cyl h.length,cwk h.length])
   (λr h'=> ∃hh',(r= .bool true∧S 1 hh'∧h'=hh'++ [.lp .ready ts LI,cyl h.length,cwk h.length])∨(∃st,r= .bool false∧E st hh'∧h'=hh'++ [.lp st ts LI,cyl h.length,cwk h.length])):=by
 refine acQ qrX ?_;simp (disch:=omega) only[qs3,jT,ndC,go_sem];refine qt (T:=λi:Nat×we×AObj=>zg 40 [(1,.int .i64 0),(2,.op (h.length+1) 1 0),(3,.op (h.length+2) 1 0),(7,.bool (decide (i.1=1))),(10,jT s),(11,.int .i64 ((1:Nat):Int)),(12,.int .i64 i.1)])
  (H:=λi=>i.2.1++ [.lp .ready ts LI,cyl h.length,cwk h.length]++ [i.2.2])
  (inv:=λi=>i.1<=1∧S i.1 i.2.1∧qH [i.2.2] 0=true) (m:=λi=>1-i.1) (0,h,.emp 0) ⟨nzl _,start,rfl⟩ (Wk.temps ?_) ?_
 ·(simp only[jT,ndC,go_sem,qh,qf,qb,qg];try exact wa)
 rintro⟨i,hh,O⟩ ⟨i1,i2,i3⟩ K hK;simp only at i1 i2 i3 hK;obtain⟨hlen,hlow⟩:=hS _ _ i2;have hb:(h++ [AObj.lp LS.ready ts LI,cyl h.length,cwk h.length]).length=(hh++ [AObj.lp LS.ready ts LI,cyl h.length,cwk h.length]).length:=by simp[hlen]
 rw[hb];have i3': ∀m,qH (O::m) 0=true:=λ_=>i3
 have ea: ∀(g:we) m,g++ [AObj.lp LS.ready ts LI,cyl h.length,cwk h.length]++m=g++ .lp .ready ts LI::cyl h.length::cwk h.length::m:=λg m=>by simp
 have d1: ∀m,cellsOf (hh++ [AObj.lp LS.ready ts LI,cyl h.length,cwk h.length]++m) (h.length+1) 1=some [.yld h.length]:=λm=>by rw[ea];exact qzY hlen
 have d2: ∀m,cellsOf (hh++ [AObj.lp LS.ready ts LI,cyl h.length,cwk h.length]++m) (h.length+2) 1=some [.fn (.func 373) [] [.op (h.length+1) 1 0,.op (h.length+2) 1 0]]:=λm=>by rw[ea];exact qzZ hlen
 by_cases hi:i<1
 ·obtain rfl:i=0:=by omega
  have hb':=λO'=>body 0 hh [cyl h.length,cwk h.length,O'] (by simp) i2
  simp (disch:=omega) only[jT,ndC,i3',d1,go_sem]
  repeat' first|(with_reducible first|intro _|apply aiA)|exact clz|fail
  ·exact⟨.ready,ts,LI,by rw[ea];exact jW hlen⟩
  ·rw[ea];refine jD.mono ?_ (hb' _);rintro v h' ⟨hh',⟨rfl,hn,rfl⟩|⟨st,rfl,hs',rfl⟩⟩
   ·have hl':=(hS _ _ hn).1;have hq:(hh++ [AObj.lp LS.ready ts LI,cyl h.length,cwk h.length]).length=(hh'++ [AObj.lp LS.ready ts LI,cyl h.length,cwk h.length]).length:=by simp[hlen,hl']
    rw[<-ea,hq];have e1: ∀m,cellsOf (hh'++ [AObj.lp LS.ready ts LI,cyl h.length,cwk h.length]++m) (h.length+1) 1=some [.yld h.length]:=λm=>by rw[ea];exact qzY hl'
    have e2: ∀m,cellsOf (hh'++ [AObj.lp LS.ready ts LI,cyl h.length,cwk h.length]++m) (h.length+2) 1=some [.fn (.func 373) [] [.op (h.length+1) 1 0,.op (h.length+2) 1 0]]:=λm=>by rw[ea];exact qzZ hl'
    simp (disch:=omega) only[e2,go_sem]
    repeat' first|(refine qF (qFj _ _ _ _) ?_;simp (disch:=omega) only[go_sem])|(with_reducible first|intro _|apply aiA)|exact clz|fail
    refine hK _ _ (1,hh',.mem (qo (some O)+1) 234 (ndC s)) ⟨nlr _,hn,rfl⟩ (by simp only;omega) (Wk.temps ?_)
    (simp only[jT,ndC,go_sem,qh,qf,qb,qg];try exact wa)
   ·simp (disch:=omega) only[go_sem]
    repeat' first|(with_reducible first|intro _|apply aiA)|exact clz|fail
    obtain⟨r1,r2⟩:=(hE _ _ hs').retX (L:=LI) (xs:= [cyl h.length,cwk h.length]) st hts;have eO: ∀O',hh'++ .lp st ts LI::cyl h.length::cwk h.length:: [O']=(hh'++ [.lp st ts LI,cyl h.length,cwk h.length])++ [O']:=λ_=>by simp
    rw[eO];exact kZ ⟨trivial,trivial⟩ r1 r2 ⟨hh',.inr ⟨st,rfl,hs',rfl⟩⟩ (qi)
 ·obtain rfl:i=1:=by omega
  simp (disch:=omega) only[jT,ndC,go_sem]
  repeat' first|(with_reducible first|intro _|apply aiA)|exact clz|fail
  obtain⟨r1,r2⟩:=(hS _ _ i2).retX (L:=LI) (xs:= [cyl h.length,cwk h.length]) .ready hts;exact kZ ⟨trivial,trivial⟩ r1 r2 ⟨hh,.inl ⟨rfl,i2,rfl⟩⟩ (qi)
end RC
end
section
namespace Go.Proofs
open Go.Shelf Go.RowKit
set_option maxHeartbeats 1000000 in
set_option maxRecDepth 100000 in
theorem qkj(b d:Nat)(w:World)(h0:w.cell? ⟨b,d,none⟩=some (.pointer (some ⟨b,d,none⟩))):
  Calls Tryz.prog 333 #[.pointer (some ⟨b,d,none⟩)] w λe w'=>e= .returned (.tuple #[])∧w'=w:=by
 obtain⟨j,hj,_⟩:=Option.map_eq_some_iff.1 (show (Tryz.prog.info? 333).map (·.size)=some 2 by kernel_rfl)
 go_enter Tryz.func333,Tryz.ntmps333
 go_wp2
 rw[Lib.run_neq_ptr_same w _ Tryz.underlying331 hj]
 go_wp2
 go_end0
 exact⟨rfl,rfl⟩
set_option maxHeartbeats 1000000 in
set_option maxRecDepth 100000 in
theorem qgo(b d ty n:Nat)(w:World)(h0:w.cell? ⟨b,d,none⟩=some (.pointer none))(hn:d+2<=n)(hsh:w.shape? b=some (ty,n))(hfz:w.frozen? ⟨b,d,none⟩=false)
  (hl:liesAt Tryz.prog Tryz.prog.depth ty (n/Tryz.prog.cellsOf ty) d 333 1=true):
  Calls Tryz.prog 333 #[.pointer (some ⟨b,d,none⟩)] w λe w'=>e= .returned (.tuple #[])∧w'=w.setCell ⟨b,d,none⟩ (.pointer (some ⟨b,d,none⟩)):=by
 obtain⟨j,hj,hjs⟩:=Option.map_eq_some_iff.1 (show (Tryz.prog.info? 333).map (·.size)=some 2 by kernel_rfl)
 go_enter Tryz.func333,Tryz.ntmps333
 go_wp2
 rw[Lib.run_to_unsafe w ⟨b,d,none⟩ Tryz.underlying331 Tryz.underlying408 hj (by rw[hjs];decide) hsh (show d<n by omega)];simp only[Result.andThen];rw[Oper.upon_value]
 go_wp2
 rw[run_callFunc_extern Tryz.func370 (by kernel_rfl) (by kernel_rfl) (by kernel_rfl) (e:=Extern.AbiNoEscape.same) (by kernel_rfl)];rw[Lib.run_noEscape];simp only[Result.andThen];rw[Oper.upon_value]
 go_wp2
 rw[Lib.run_from_unsafe w ⟨b,d,none⟩ Tryz.underlying408 Tryz.underlying331 hj hsh hl];simp only[Result.andThen];rw[Oper.upon_value]
 go_wp2
 go_end0
 exact⟨rfl,rfl⟩
set_option maxHeartbeats 1000000 in
set_option maxRecDepth 100000 in
theorem qg7(b d g cap:Nat)(l:List UInt8)(cur:Array Value)(w:World)(h0:l≠ [])(c0:w.cell? ⟨b,d+1,none⟩=some (.slice (some ⟨g,0,none⟩) l.length cap))(hg:w.heap[g]? =some (.cells cur 5 (0,0)))
  (hnc:l.length<=cap) (hcm:cap<=maxLen) (hcs:cap<=cur.size) (hcell: ∀(j:Nat) x,l[j]? =some x->w.cell? ⟨g,j,none⟩=some (.int .u8 x.toNat)):
  Calls Tryz.prog 278 #[.pointer (some ⟨b,d,none⟩)] w λe w'=>e= .returned (.string ⟨l.toArray⟩)∧w'=w.drew.freeze ⟨g,0,none⟩ l.length:=by
 have hl0:l.length≠0:=by simpa using h0
 have c1:w.drew.cell? ⟨b,d+1,none⟩=some (.slice (some ⟨g,0,none⟩) l.length cap):=c0;have hSD:(Builtin.unsafeSliceData_ #[289] 379 #[.slice (some ⟨g,0,none⟩) l.length cap]).run Tryz.prog w.drew= .ok (.pointer (some ⟨g,0,none⟩)) w.drew:=
  Lib.run_unsafeSliceData_row _ _ _ _ _ _ om
 have hUS:(Builtin.unsafeString_ #[379,3] 9 #[.pointer (some ⟨g,0,none⟩),.int .i64 l.length]).run Tryz.prog w.drew= .ok (.string ⟨l.toArray⟩) (w.drew.freeze ⟨g,0,none⟩ l.length):=by
  refine Lib.run_unsafeString_row w.drew 379 3 9 5 Tryz.underlying379 (by kernel_rfl) g cur.size (by have hg':w.drew.heap[g]? =some (.cells cur 5 (0,0)):=hg;simp[World.shape?,hg']) l h0 om (by unfold maxLen at hcm;omega) ?_;intro j x hx
  have:=hcell j x hx
  cases j with
  |zero=>exact this
  |succ j=>
   have e:(⟨g,0,none⟩:Addr).add (j+1)=⟨g,j+1,none⟩:=by
    unfold Addr.add;rw[ine (Nat.succ_ne_zero j)];simp only[Nat.zero_add]
   rw[e];exact this
 have mixed:Tryz.prog.follows .mixedOrders=true:=by kernel_rfl
 go_enter Tryz.func278,Tryz.ntmps278
 go_wp2
 go_region_o
 all_goals (go_wp2;go_ret;exact⟨rfl,rfl⟩)
set_option maxHeartbeats 2000000 in
set_option maxRecDepth 100000 in
theorem qg6(b d:Nat)(w:World)(c0:w.cell? ⟨b,d+1,none⟩=some (.slice none 0 0)):
  Calls Tryz.prog 278 #[.pointer (some ⟨b,d,none⟩)] w λe w'=>e= .returned (.string ⟨#[]⟩)∧w'=w.drew:=by
 have hUS: ∀(W:World) (q:Option Addr),(Builtin.unsafeString_ #[379,3] 9 #[.pointer q,.int .i64 0]).run Tryz.prog W= .ok (.string .empty) W:=λW q=>Lib.run_unsafeString_none W _ _ _ q
 have c1:w.drew.cell? ⟨b,d+1,none⟩=some (.slice none 0 0):=c0;have hSD:(Builtin.unsafeSliceData_ #[289] 379 #[.slice none 0 0]).run Tryz.prog w.drew= .ok (.pointer none) w.drew:=rfl;have mixed:Tryz.prog.follows .mixedOrders=true:=by kernel_rfl
 go_enter Tryz.func278,Tryz.ntmps278
 go_wp2
 go_region_o
 all_goals (go_wp2;go_ret;exact⟨rfl,rfl⟩)
end Go.Proofs
end
section
open Go Go.Proofs AF
def qln:List Nat:= [333,277,377,278,347]
def qw2:C:=
 (vS [vM 4 0,MC 5 .nilif] (vS [MV 6 0,O1 7 (.call 333 false) 6] (vS [MV 8 0,MV 9 0,O1 10 .nilchk 9,vL 11 1 10,LD 12 11,MV 13 1,O2 14 (.apps 0 5) 12 13,O1 15 .nilchk 8,vL 16 1
 15,ST 1 16 14] (vV [MV 17 1,O1 18 .slen 17,MV 4 18,MC 5 .nilif]))))
theorem qyF:qK Tryz.prog 277 19 1 [RV.tmp 4,RV.tmp 5] qw2:=fi Tryz.f277 [14] qln []
def qxq:C:=
 (vS [MC 4 .nilif] (vS [MV 5 0,O1 6 (.call 333 false) 5] (vS [MV 7 0,MV 8 0,O1 9 .nilchk 8,vL 10 1 9,LD 11 10,MV 12 1,⟨some 13,none,.bslc 0 1 1 5 [.int .u8 0] [(0,1)],[.t 12]⟩,O2
 14 (.app 1 1 5 1) 11 13,O1 15 .nilchk 7,vL 16 1 15,ST 1 16 14] (vV [MC 4 .nilif]))))
theorem qy4:qK Tryz.prog 377 17 2 [RV.tmp 4] qxq:=fi Tryz.f377 [13,14] qln []
end
section
open Go Go.Proofs AF HY RC LN
namespace HY
def qcp(v:Nat)(s:List UInt8):AObj:=if s= [] then .emp v else .mem v 5 (zC s)
theorem qby(v:Nat):qcp v []= .emp v:=rfl
theorem UT{s:List UInt8}(h:s≠ [])(v:Nat):qcp v s= .mem v 5 (zC s):=ine h
theorem qcE(s u:List UInt8):zC (s++u)=zC s++zC u:=by simp[zC]
theorem qhs(s:List UInt8)(n:Nat): ∀c∈zC s,qS n c=true:=by
 intro c hc;unfold zC at hc;rw[List.mem_map]at hc;obtain⟨a,_,rfl⟩:=hc;rfl
theorem zX(v:Nat)(s:List UInt8)(n:Nat):lowO n (qcp v s):=by
 unfold qcp;split
 ·trivial
 ·exact qhs s n
theorem qdd{kb kj:Nat}{h:we}{X Y Z:AObj}(hne:kb≠kj):qn kb (qn kj (qn kb h X) Y) Z=qn kj (qn kb h Z) Y:=by
 rw[kq hne,kR]
theorem qsJ(v:Nat)(u:List UInt8):(if u.length=0 then AObj.emp v else AObj.mem v 5 (zC u))=qcp v u:=by
 unfold qcp
 by_cases h:u= []
 ·simp[h]
 ·rw[ine h,ine (by simpa using h)]
theorem qbd(w:World)(g n:Nat):w.grownBy (w.drew.freeze ⟨g,0,none⟩ n) (some g):=by
 unfold World.freeze;split
 ·exact⟨rfl,rfl,rfl,nlr _,λ_ _ _=>rfl⟩
 ·refine⟨rfl,rfl,rfl,?_,λk hk hne=> ?_⟩
  ·show w.heap.size<=(w.heap.modify g _).size;rw[Array.size_modify];exact nlr _
  ·have:g≠k:=λe=>hne (by rw[e])
   show (w.heap.modify g _)[k]? =w.heap[k]?;rw[Array.getElem?_modify,ine this]
theorem qif{p:Program}{fits:TypeId->Bool}{e:TypeId}{c c' off n:Nat}(hc:c<=c'): ∀d,rowAt p fits d e c off n=true->rowAt p fits d e c' off n=true:=by
 intro d;cases d with
 |zero=>exact id
 |succ d=>
  unfold rowAt;simp only;split
  ·exact id
  ·intro h;rw[Bool.or_eq_true]at h ⊢;rcases h with h|h
   ·refine .inl ?_;simp only[Bool.and_eq_true,decide_eq_true_iff]at h ⊢;exact⟨⟨h.1.1,om⟩,h.2⟩
   ·refine .inr ?_;rw[Bool.and_eq_true]at h ⊢;exact⟨by simp only[decide_eq_true_iff]at h ⊢;omega,h.2⟩
theorem qb7{p:Program}{e u:TypeId}{c c' off n:Nat}(hc:c<=c'): ∀d,liesAt p d e c off u n=true->liesAt p d e c' off u n=true:=by
 intro d
 induction d generalizing u n with
 |zero=>exact id
 |succ d ih=>
  unfold liesAt;intro h;rw[Bool.or_eq_true]at h ⊢;rcases h with h|h
  ·exact .inl (qif hc _ h)
  ·refine .inr ?_;split at h
   ·exact ih h
   ·cases h
theorem qCI(n:Nat)(hn:2<=n):liesAt Tryz.prog Tryz.prog.depth 333 (n/Tryz.prog.cellsOf 333) 0 333 1=true:=by
 have e1:Tryz.prog.cellsOf 333=2:=by kernel_rfl
 have h1:liesAt Tryz.prog Tryz.prog.depth 333 1 0 333 1=true:=by kernel_rfl
 rw[e1];exact qb7 om _ h1
theorem ccS(kb vb:Nat)(A B:AV)(h:we)(hk:qq kb h=some (.mem vb 333 [A,B]))(hA:A= .nilp∨A= .op kb vb 0):ACalls Tryz.prog 333 [.op kb vb 0] h (.tup []) (qn kb h (.mem vb 333 [.op kb vb 0,B])):=by
 refine⟨qoh Tryz.func333 (by kernel_rfl) (by kernel_rfl),λw σ xs H hv=> ?_⟩;obtain⟨x,rfl,hx⟩:=hv.one;have hc:=qQ hk;obtain⟨cs,o,b,arr,g1,rfl,g2,g3,g4,g5,g6,g7,g9,g8⟩:=km H hx (by rw[hc];rfl);rw[hc]at g1;cases g1;have hobj:=H.obj kb _ o hk g2;obtain⟨_,hty,_⟩:=hobj;rw[hty]at g5;have g5b:=g5;have g5:=g5.plain (by decide);have hsz:2<=arr.size:=g7;have hc0:w.cell? ⟨b,0,none⟩=some arr[0]:=by rw[jO g5b];simp
 have hA0:=g8 0 A arr[0] rfl (by simp);have hsh:w.shape? b=some (333,arr.size):=by simp[World.shape?,g5]
 have hfz:w.frozen? ⟨b,0,none⟩=false:=by simp[World.frozen?,g5]
 have hkl:=zE hk;rcases hA with rfl|rfl
 ·rw[qd5 hA0]at hc0;refine (callsIn_wide.2 (qgo b 0 333 arr.size w hc0 om hsh hfz (qCI _ hsz))).mono ?_;rintro e w' ⟨rfl,rfl⟩;have hg:w.grownBy (w.setCell ⟨b,0,none⟩ (.pointer (some ⟨b,0,none⟩))) o.blk:=by rw[g4];exact grownBy_setCell' w b _
  have hh:=heap_setCell_same w b 0 arr 333 (.pointer (some ⟨b,0,none⟩)) g5;obtain⟨u1,u2⟩:=H.update (o':=o) (a':= .mem vb 333 [.op kb vb 0,B]) g2 hg (nlr _) (λ_=>rfl)
   (by intro b' e;rw[g4]at e;cases e;exact⟨.inl g4,(Array.getElem?_eq_some_iff.1 hh).1⟩) (λb' r e hr=>by rw[g4]at e;cases e;rw[g5]at hr;cases hr)
   (λe=>⟨g3,hty,b,_,g4,by rw[hty];exact .mk hh,by simp[g6],by simp;exact hsz,λi y hi hy=>by
    simp only[Array.getElem?_setIfInBounds]at hy;split at hy
    ·split at hy
     ·cases hy;rfl
     ·cases hy
    ·exact g9 i y (by simpa using hi) hy,λi c y hc hy=>by
    simp only[Array.getElem?_setIfInBounds]at hy;split at hy
    ·rename_i e0;split at hy
     ·cases hy;subst e0;simp at hc;subst hc;have hko:(σ.set kb o)[kb]? =some o:=by rw[List.getElem?_set_self (by rw[H.len];exact hkl)]
      exact .op o hko ⟨_,rfl⟩ om (λ_=>⟨b,g4,rfl⟩)
     ·cases hy
    ·rename_i e0;have hne:i≠0:=λe1=>e0 e1.symm
     have hcs: [.op kb vb 0,B]= [.nilp,B].set 0 (.op kb vb 0):=rfl;rw[hcs,List.getElem?_set_ne (λe1=>hne e1.symm)]at hc
     exact (g8 i c y hc hy).ext e⟩)
  exact⟨_,_,rfl,u1,.imm (.tup rfl (λi c x hc=>by simp at hc)),u2⟩
 ·obtain⟨o',q1,q2,q3⟩:=qvy hA0;rw[g2]at q1;cases q1;obtain⟨b',q4,q5⟩:=q3 g3;rw[g4]at q4;cases q4;rw[q5]at hc0;refine (callsIn_wide.2 (qkj b 0 w hc0)).mono ?_;rintro e w' ⟨rfl,rfl⟩;rw[jz hk];exact⟨_,σ,rfl,H,.imm (.tup rfl (λi c x hc=>by simp at hc)),Ext.refl w' σ⟩
theorem qdc{kb vb kj v m:Nat}{h:we}{s:List UInt8}(hkl:kb<h.length)(hjl:kj<h.length): ∀o∈qn kj (qn kb h (.mem vb 333 [.op kb vb 0,.osl kj v 1 0 m])) (qcp v s),o∈h∨lowO h.length o:=by
 intro o ho;rcases jc ho with h1|rfl
 ·rcases jc h1 with h2|rfl
  ·exact .inl h2
  ·right;intro c hc;simp only[List.mem_cons,List.not_mem_nil,or_false]at hc;rcases hc with rfl|rfl
   ·simpa[qS] using hkl
   ·simpa[qS] using hjl
 ·exact .inr (zX v s _)
theorem qFo(kb vb kj v:Nat)(A:AV)(s u:List UInt8)(h:we)(hne:kj≠kb)(hk:qq kb h=some (.mem vb 333 [A,.osl kj v 1 0 s.length]))(hA:A= .nilp∨A= .op kb vb 0)(hj:qq kj h=some (qcp v s))(hl:s.length+u.length<=140737488355328):
  ACalls Tryz.prog 277 [.op kb vb 0,.str u] h (.tup [.int .i64 u.length,.nilif]) (qn kj (qn kb h (.mem vb 333 [.op kb vb 0,.osl kj (v+1) 1 0 (s.length+u.length)])) (qcp (v+1) (s++u))):=by
 have hkl:=zE hk;have hjl:=zE hj;have hne':kb≠kj:=λe=>hne e.symm
 have hk1: ∀l,qq kb (h++l)=some (.mem vb 333 [A,.osl kj v 1 0 s.length]):=λl=>by rw[zx hkl,hk]
 refine acO qyF ?_;simp (disch:=omega) only[qw2,go_sem];refine qy (ccS kb vb A _ _ (hk1 _) hA) ⟨rfl,trivial⟩ ?_
 by_cases hs:s= []
 ·subst hs;rw[qby]at hj;simp (disch:=omega) only[zy,jh,qR,qdq,qdr,qdM,qdN,zM,ji,qk,qcQ,hj,go_sem];refine⟨om,⟨by simp,by simp at hl;omega⟩,?_⟩;rw[qdd hne',qsJ];refine kZ ⟨trivial,trivial,trivial⟩ (by simp only[qL]) (qdc hkl hjl) ⟨rfl,?_⟩ (qi);simp
 ·rw[UT hs]at hj;simp (disch:=omega) only[zy,jh,qR,qdq,qdr,qdM,qdN,zM,ji,qk,UK,hj,jp,go_sem]
  repeat' first|(with_reducible apply aiA)
  all_goals first
   |omega
   |(simp[jp];done)
   |skip
  rw[qdd hne',ltl (by simp[jp]),<-qcE,<-UT (by simp[hs])];exact kZ ⟨trivial,trivial,trivial⟩ (by simp only[qL]) (qdc hkl hjl) ⟨rfl,rfl⟩ (qi)
theorem qE3(kb vb kj v:Nat)(A:AV)(s:List UInt8)(h:we)(hne:kj≠kb)(hk:qq kb h=some (.mem vb 333 [A,.osl kj v 1 0 s.length]))(hj:qq kj h=some (qcp v s)):
  ACalls Tryz.prog 278 [.op kb vb 0] h (.str s) (qn kj h (.emp (v+1))):=by
 refine⟨qoh Tryz.func278 (by kernel_rfl) (by kernel_rfl),λw σ xs H hv=> ?_⟩;obtain⟨x,rfl,hx⟩:=hv.one;have hc:=qQ hk;obtain⟨cs,o,b,arr,g1,rfl,g2,g3,g4,g5,g6,g7,g9,g8⟩:=km H hx (by rw[hc];rfl);rw[hc]at g1;cases g1;have hty:=(H.obj kb _ o hk g2).2.1;rw[hty]at g5;have g5b:=g5;have g5:=g5.plain (by decide);have hsz:2<=arr.size:=g7;have hc1:w.cell? ⟨b,0+1,none⟩=some arr[0+1]:=by rw[jO g5b];simp
 have hB:=g8 (0+1) _ arr[0+1] rfl (by simp);obtain⟨oj,j1,j2,j3⟩:=qn6 hB;have hobj:=H.obj kj _ oj hj j1;have hkj:=zE hj
 by_cases hs:s= []
 ·subst hs;rw[qby]at hj hobj;obtain⟨m1,m2⟩:=hobj;rcases j3 m1 with⟨_,_,_,e⟩|⟨b',cap,e,_⟩
  ·rw[e]at hc1;refine (callsIn_wide.2 (qg6 b 0 w hc1)).mono ?_;rintro e w' ⟨rfl,rfl⟩;obtain⟨u1,u2⟩:=H.update (w':=w.drew) (o':= { oj with blk:=none,ver:=v+1 }) (a':= .emp (v+1)) j1 ⟨rfl,rfl,rfl,nlr _,λ_ _ _=>rfl⟩ (by simp only;omega) (by simp only;omega) (by intro b' e;cases e) (λb' r e hr=>⟨r,hr⟩) (λ_=>⟨rfl,rfl⟩);exact⟨_,_,rfl,u1,.imm .str,u2⟩
  ·rw[m2]at e;cases e
 ·rw[UT hs]at hj hobj;obtain⟨m1,m2,bj,arrj,m3,m4,m5,m6,m7,m8⟩:=hobj;rcases j3 m1 with⟨e,_⟩|⟨b',cap,e1,e2,e3,e4,e5⟩
  ·rw[m3]at e;cases e
  ·rw[m3]at e1;cases e1;rw[e2]at hc1;rw[m2]at m4;have m4b:=m4;have m4:=m4.plain (by decide);rw[jp]at m6;refine (callsIn_wide.2 (qg7 b 0 bj cap s arrj w hs hc1 m4 e3 e4 om (λj x hx=> ?_))).mono ?_
   ·have hjl:j<s.length:=(lgs.1 hx).1;rw[jO m4b];have ea:arrj[j]? =some arrj[j]:=by simp
    have:=m8 j (.int .u8 x.toNat) arrj[j] (by simp[zC,hx]) ea
    rw[ea,zz this]
   ·rintro e w' ⟨rfl,rfl⟩;have hg:w.grownBy (w.drew.freeze ⟨bj,0,none⟩ s.length) oj.blk:=by
     rw[m3];exact qbd w bj s.length
    obtain⟨u1,u2⟩:=H.update (o':= { oj with blk:=none,ver:=v+1 }) (a':= .emp (v+1)) j1 hg (by simp only;omega) (by simp only;omega) (by intro b' e;cases e)
     (λb' r e hr=>by rw[m3]at e;cases e;rw[m4]at hr;cases hr) (λ_=>⟨rfl,rfl⟩)
    exact⟨_,_,rfl,u1,.imm .str,u2⟩
end HY
end
section
open Go Go.Proofs AF
def qaP:List Nat:= [277,278,377,347,287,344,288,345,290]
def qxo:C:=
 (vS [MV 7 0,O1 8 .len 7,vM 9 0] (C.block 0 (vS [BI 10 .lss 9 8] ((vU 10 0).seq ((C.block 1 (vS [O2 11 (.idxA 4) 7 9,O1 12 (.load (some 4)) 11,⟨some 5,none,.alloc 0 234 [i6
 0,.str [],i6 0,.nl],[]⟩,ST 4 5 12] (vS [vL 13 0 5,LD 14 13,O1 15 (.gix 4 12 4) 14,O1 16 (.load (some 4)) 15,⟨some 6,none,.alloc 1 414 [.str [],.bool false,.bool false,.bool
 false],[]⟩,ST 4 6 16] (C.block 2 (vS [vL 26 0 5,LD 27 26,vN 28 .eql 27 1,MV 25 28] (C.cond (.t 25) (vW [vL 29 1 5,LD 30 29,O2 31 (.call 277 false) 1 30]) (vS [vL 33 3 6,LD 34
 33,MV 32 34] (C.cond (.t 32) (vS [vL 35 0 6,LD 36 35,ON 37 (.bin .add) [.c (.str [60]),.t 36],O1 38 (.load (some 4)) 5,O1 39 (.call 375 true) 38,BI 40 .add 37 39,BC 41 .add 40
 (.str [62]),O2 42 (.call 277 false) 1 41] (vS [LD 43 2,vL 44 3 5,LD 45 44,O2 46 .callv 43 45] (vW [vL 47 0 6,LD 48 47,ON 49 (.bin .add) [.c (.str [60,47]),.t 48],BC 50 .add 49
 (.str [62]),O2 51 (.call 277 false) 1 50]))) (vW [vL 17 0 6,LD 18 17,ON 19 (.bin .add) [.c (.str [60]),.t 18],O1 20 (.load (some 4)) 5,O1 21 (.call 375 true) 20,BI 22 .add 19
 21,BC 23 .add 22 (.str [47,62]),O2 24 (.call 277 false) 1 23]))))))))).seq (vW [vN 52 .add 9 1,MV 9 52])))).loop))
theorem qy2:qK Tryz.prog 374 53 2 [] qxo:=fi Tryz.f374 [5,6] qaP []
@[go_sem]def vh:DT:= DT.one ⟨some 22,none,.nilchk,[.t 10]⟩ (DT.one ⟨some 23,none,.fldA 5,[.t 22]⟩ (DT.one ⟨none,none,.store 1,[.t 23,.t 19]⟩ DT.nil))
@[go_sem]def vg:DT:= DT.one ⟨some 17,some (15,false),.load none,[.t 16]⟩ (DT.one ⟨some 18,some (15,false),.bin .eql,[.t 17,.c (i6 5)]⟩ (DT.one ⟨some 19,none,.pick,[.t 15,.c (.bool true),.t 18]⟩ vh))
def qxa:C:=
 (vS [O1 3 (.box 0 348) 1] (vS [vL 5 0 3,LD 6 5] (C.block 0 (vS [vN 25 .eql 6 1,MV 24 25] (C.cond (.t 24) (vW [MV 26 0,O1 27 (.load (some 7)) 3,O2 28 (.call 344 false) 26 27])
 (vS [vN 30 .eql 6 6,MV 29 30] (C.cond (.t 29) (vS [MV 31 0,O1 32 (.call 288 false) 31] (vS [vM 4 2] ((vS [vL 33 5 3,LD 34 33] (vT 34 (vW [MV 35 4,vN 36 .or 35 1,MV 4 36]))).seq
 (vS [MV 37 0,O1 38 (.load (some 7)) 3,MV 39 4,ON 40 (.call 345 false) [.t 37,.t 38,.t 39]] (vW [MV 41 0,O1 42 (.call 346 true) 41,vL 43 2 3,LD 44 43,O1 45 (.call 116 true)
 44,ON 46 (.bin .add) [.c (.str [91]),.t 45],BC 47 .add 46 (.str [93]),O1 48 .nilchk 42,vL 49 0 48,ST 1 49 47]))))) (vS [MV 7 0,O1 8 (.call 288 false) 7] (C.draw (DT.one ⟨some
 9,none,.mv,[.t 0]⟩ (DT.one ⟨some 10,none,.mv,[.t 0]⟩ (DT.one ⟨some 11,none,.mv,[.t 0]⟩ (DT.one ⟨some 12,none,.nilchk,[.t 11]⟩ (DT.one ⟨some 13,none,.fldA 5,[.t 12]⟩ (DT.one
 ⟨some 14,none,.load none,[.t 13]⟩ (DT.one ⟨some 15,none,.mv,[.t 14]⟩ (DT.one ⟨some 20,none,.nilchk,[.t 9]⟩ (DT.one ⟨some 21,none,.fldA 4,[.t 20]⟩ ((DT.one ⟨some 16,some
 (15,false),.fldA 0,[.t 3]⟩ ((DT.one ⟨some 17,some (15,false),.load none,[.t 16]⟩ (DT.one ⟨some 18,some (15,false),.bin .eql,[.t 17,.c (i6 5)]⟩ (DT.one ⟨some 19,none,.pick,[.t
 15,.c (.bool true),.t 18]⟩ (DT.one ⟨none,none,.store 1,[.t 21,.c (.bool false)]⟩ vh)))).two (DT.one ⟨none,none,.store 1,[.t 21,.c (.bool false)]⟩ vg))).two (DT.one
 ⟨none,none,.store 1,[.t 21,.c (.bool false)]⟩ (DT.one ⟨some 16,some (15,false),.fldA 0,[.t 3]⟩ vg)))))))))))))))))))))
theorem qyN:qK Tryz.prog 287 50 1 [] qxa:=fi Tryz.f287 [3] qaP []
def qsW:C:=
 ((vS [MV 2 0,O1 3 .nilchk 2,vL 4 3 3,LD 5 4] (vT 5 (vW [MV 6 0,O1 7 (.call 346 true) 6,MV 8 0,O1 9 .nilchk 8,vL 10 1 9,O1 11 (.call 278 false) 10,O1 12 .nilchk 7,vL 13 0 12,ST 1
 13 11]))).seq (vS [MV 14 0,O1 15 .nilchk 14,vL 16 3 15,⟨none,none,.store 1,[.t 16,.c (.bool false)]⟩] (vW [MV 17 0,O1 18 .nilchk 17,vL 19 1 18,O1 20 (.call 347 false) 19])))
theorem qrQ:qK Tryz.prog 288 21 0 [] qsW:=fi Tryz.f288 [] qaP []
@[go_sem]def vk:DT:= DT.one ⟨some 38,none,.app 2 6 119 80,[.t 30,.t 37]⟩ (DT.one ⟨some 39,none,.nilchk,[.t 26]⟩ (DT.one ⟨some 40,none,.fldA 0,[.t 39]⟩ (DT.one ⟨none,none,.store 1,[.t 40,.t 38]⟩
 DT.nil)))
@[go_sem]def vm:DT:= DT.one ⟨some 30,none,.load none,[.t 29]⟩ vk
def qoK:C:=
 (vS [O1 4 (.box 0 348) 1] ((vS [MV 6 0,O1 7 .nilchk 6,vL 8 4 7,LD 9 8,MV 10 9,MG 11 10 true 0,P1 12 10 true .nilchk 11,P1 13 10 true (.fldA 0) 12,P1 14 10 true (.load none)
 13,P1 15 10 true .len 14,PC 16 10 true (.bin .gtr) 15 (i6 0),PF 17 10 16] (vT 17 (vW [MV 18 2,vN 19 .or 18 16,MV 2 19]))).seq ((vS [MV 20 0,O1 21 .nilchk 20,vL 22 5 21,LD 23
 22] (vT 23 (vW [MV 24 2,vN 25 .or 24 4,MV 2 25]))).seq ((C.draw (DT.one ⟨some 26,none,.mv,[.t 0]⟩ (DT.one ⟨some 27,none,.mv,[.t 0]⟩ (DT.one ⟨some 31,none,.fldA 3,[.t 4]⟩
 (DT.one ⟨some 32,none,.load (some 2),[.t 31]⟩ (DT.one ⟨some 33,none,.mv,[.t 2]⟩ (DT.one ⟨some 34,none,.fldA 6,[.t 4]⟩ (DT.one ⟨some 35,none,.load none,[.t 34]⟩ (DT.one ⟨some
 36,none,.build [.str [],.str [],.str [],i6 0,i6 0,.str []] [(2,2),(4,1),(5,1)],[.t 32,.t 33,.t 35]⟩ ((DT.one ⟨some 28,none,.nilchk,[.t 27]⟩ ((DT.one ⟨some 29,none,.fldA 0,[.t
 28]⟩ ((DT.one ⟨some 30,none,.load none,[.t 29]⟩ (DT.one ⟨some 37,none,.bslc 1 6 1 119 [.str [],.str [],.str [],i6 0,i6 0,.str []] [(0,6)],[.t 36]⟩ vk)).two (DT.one ⟨some
 37,none,.bslc 1 6 1 119 [.str [],.str [],.str [],i6 0,i6 0,.str []] [(0,6)],[.t 36]⟩ vm))).two (DT.one ⟨some 37,none,.bslc 1 6 1 119 [.str [],.str [],.str [],i6 0,i6 0,.str []]
 [(0,6)],[.t 36]⟩ (DT.one ⟨some 29,none,.fldA 0,[.t 28]⟩ vm)))).two (DT.one ⟨some 37,none,.bslc 1 6 1 119 [.str [],.str [],.str [],i6 0,i6 0,.str []] [(0,6)],[.t 36]⟩ (DT.one
 ⟨some 28,none,.nilchk,[.t 27]⟩ (DT.one ⟨some 29,none,.fldA 0,[.t 28]⟩ vm))))))))))))).seq (vW [MV 41 0,MV 42 0,O1 43 .nilchk 41,vL 44 4 43,⟨none,none,.store 1,[.t 44,.c (.bool
 true)]⟩,O1 45 .nilchk 42,vL 46 5 45,⟨none,none,.store 1,[.t 46,.c (.bool false)]⟩])))))
theorem qla:qK Tryz.prog 345 47 3 [] qoK:=fi Tryz.f345 [4,37,38] qaP []
def qxl:C:=
 (vS [MV 2 0,O1 3 .nilchk 2,vL 4 0 3,⟨none,none,.store 1,[.t 4,.c .nilp]⟩] (vW [MV 5 0,O1 6 .nilchk 5,vL 7 1 6,⟨none,none,.store 1,[.t 7,.c .nl]⟩]))
theorem qyZ:qK Tryz.prog 347 8 0 [] qxl:=fi Tryz.f347 [] qaP []
def qxb:C:=
 (vS [ON 4 (.nilo 0 6 119) [],vM 5 0] ((vS [MV 9 1,O1 10 .len 9,vM 11 0] (C.block 0 (vS [BI 12 .lss 11 10] ((vU 12 0).seq ((C.block 1 (vS [MV 13 11,MV 6 13] (vS [MV 14 1,MV 15
 6,MV 16 1,MV 17 6,O2 18 (.idxA 6) 16 17,vL 19 0 18,LD 20 19,O2 21 (.idxA 6) 14 15,vL 22 1 21,ST 1 22 20] ((vS [MV 23 1,MV 24 6,O2 25 (.idxA 6) 23 24,O1 26 (.load (some 6))
 25,O1 27 (.call 258 true) 26,O1 28 (.un UnOp.not) 27] (vT 28 (C.exit 1))).seq (vS [MV 30 0,MV 31 1,MV 32 6,O2 33 (.idxA 6) 31 32,vL 34 0 33,LD 35 34,O2 36 (.call 348 true) 30
 35,MV 29 36,O1 37 (.ext 0) 29,O1 38 (.ext 1) 29,MV 7 37,MV 8 38] ((vS [MV 39 8,vN 40 .neq 39 0] (vT 40 (vV [MV 41 8,ON 4 (.nilo 0 6 119) [],MV 5 41]))).seq (vW [MV 42 1,MV 43
 6,MV 44 7,O2 45 (.idxA 6) 42 43,vL 46 1 45,ST 1 46 44]))))))).seq (vW [vN 47 .add 11 1,MV 11 47])))).loop)).seq (vV [MV 48 1,MV 4 48,vM 5 0])))
theorem qyO:qK Tryz.prog 290 49 1 [RV.tmp 4,RV.tmp 5] qxb:=fi Tryz.f290 [4] qaP []
end
section
open Go Go.Proofs AF HY LN
namespace RC
theorem itN(s:Str):qi8 Tryz.prog 372 [.ip [jT s]] [[.agg (plC s)]]:=by
 intro h ts LI S E hS hE body start hts;have hb:(h++ [AObj.lp LS.ready ts LI]).length=h.length+1:=by simp
 have ea: ∀st,h++ [AObj.lp st ts LI]++ [.mem 1 411 [.yld h.length],.mem 1 412 [.fn (.func 373) [] [.op (h.length+1) 1 0,.op (h.length+2) 1 0]]]=h++ [AObj.lp st ts LI,cyl h.length,cwk h.length]:=λst=>by simp[cyl,cwk]
 refine acQ qy1 ?_;simp (disch:=omega) only[qxn,jT,go_sem]
 repeat' first|with_reducible apply aiA|exact clz|fail
 simp only[hb,Nat.add_assoc,Nat.reduceAdd,ea];refine qke (wlk1 s h ts LI S E hS hE body start hts) ?_;rintro v h' ⟨hh',⟨rfl,hn,rfl⟩|⟨st,rfl,hs',rfl⟩⟩
 ·simp (disch:=omega) only[go_sem];obtain⟨r1,r2⟩:=(hS _ _ hn).retX (L:=LI) (xs:= []) .ready hts;have eO:hh'++ [.lp .ready ts LI,cyl h.length,cwk h.length]=(hh'++ [.lp .ready ts LI])++ [cyl h.length,cwk h.length]:=by simp
  rw[eO];exact zK trivial r1 r2 ⟨hh',.inl ⟨hn,rfl⟩⟩ (qi)
 ·simp (disch:=omega) only[go_sem];obtain⟨r1,r2⟩:=(hE _ _ hs').retX (L:=LI) (xs:= []) st hts;have eO:hh'++ [.lp st ts LI,cyl h.length,cwk h.length]=(hh'++ [.lp st ts LI])++ [cyl h.length,cwk h.length]:=by simp
  rw[eO];exact zK trivial r1 r2 ⟨hh',.inr ⟨st,hs',rfl⟩⟩ (qi)
theorem quN(s:Str)(h:we):ACalls Tryz.prog 338 [jT s] h (.fn (.func 372) [] [.ip [jT s]]) h:=by
 refine acO qyT ?_;simp (disch:=omega) only[qxf,jT,ndC,go_sem]
 repeat' first|exact v7|fail
theorem qEY(n:Int)(k v:Nat)(h:we)(hk:qq k h=some (.mem v 3 [.int .i64 n]))(h0:1<=n)(h1:n<=4096):ACalls Tryz.prog 337 [.op k v 0] h (.bool true) (qn k h (.mem v 3 [.int .i64 (n-1)])):=by
 have hkl:=zE hk;have c1:=qQ hk;have k1:(0<=n-1)=True:=wh;have ht:qiO (qq k h)=3:=by rw[hk];rfl
 refine acO qyS ?_;simp (disch:=omega) only[qxe,c1,k1,go_sem]
 repeat' first|with_reducible apply aiA|exact clz|fail
 rw[ht];exact qgy ⟨trivial,trivial⟩ qL (qpR (λn c hc=>by simp at hc;subst hc;rfl)) ⟨rfl,rfl⟩ (qi)
theorem qfH(s:Str)(v:Nat)(ty:TypeId): ∀n,lowO n (.mem v ty (plC s)):=λn c hc=>by
 simp[plC]at hc;rcases hc with rfl|rfl|rfl|rfl|rfl|rfl<;>rfl
theorem qDI(s:Str)(k:Int)(h:we)(h1:2<=k)(h2:k<=11)(hc: ∀l,ACalls Tryz.prog 283 [jT s] (h++l) (.int .i64 0) (h++l)):ACalls Tryz.prog 285 [jT s,.int .i64 k] h (.tup [.int .i64 0,.int .i64 0]) h:=by
 have c1:=λh=>quN s h
 have k1:(k<1)=False:=wi;have k2:(11<k)=False:=wi;have k3:((1:Int)=k)=False:=wi;unfold jT at c1 hc;refine acO qyL ?_;simp (disch:=omega) only[qw8,jT,go_sem]
 repeat' first|((first|refine cA (hc _) ?_ ?_|refine cA (c1 _) ?_ ?_);exact flk;simp (disch:=omega) only[k1,k2,go_sem])|with_reducible apply aiA|exact clz|fail
 refine qY (xs:= [[.agg (plC s)]]) (itN s) (by simp)
  (S:=λi hh=> ∃O,qH [O] 0=true∧(∀n,lowO n O)∧hh=h++ [.mem 1 3 [.int .i64 k],.mem 1 3 [.int .i64 0],O]) (E:=λ_ _=>False) ?_ ?_ ?_ ?_ ?_ ?_ ?_
 ·rintro i hh ⟨O,_,l1,rfl⟩;refine LowI.app rfl (λo ho=> ?_);simp only[List.mem_cons,List.not_mem_nil,or_false]at ho;rcases ho with rfl|rfl|rfl
  ·left;simp
  ·left;simp
  ·right;exact⟨l1 _,l1 _⟩
 ·intro s hh hf;exact hf.elim
 ·exact⟨.emp 0,rfl,λ_=>trivial,rfl⟩
 ·simp[qS,qS.lowVs]
  try omega
 ·rintro i hh tl LI TS hi ⟨O,s1,l1,rfl⟩ hlen K K2 hK hN hR' hX;obtain rfl:i=0:=by simp at hi;omega
  have s1': ∀m,qH (O::m) 0=true:=λ_=>s1
  show qW _ _ _ _ (jV _ _ [.agg (plC s)]) _;simp only[jV];simp (disch:=omega) only[List.append_assoc,plC,s1',go_sem];refine hK _ _ (h++ [.mem 1 3 [.int .i64 k],.mem 1 3 [.int .i64 0],.mem (qo (some O)+1) 386 (plC s)]) (by simp[plC]) (by simp) ?_;simp (disch:=omega) only[List.append_assoc,plC,k3,go_sem]
  repeat' first|with_reducible apply aiA|exact clz|fail
  refine hN _ _ (h++ [.mem 1 3 [.int .i64 k],.mem 1 3 [.int .i64 0],.mem (qo (some O)+1) 386 (plC s)]) (by simp[plC]) (by simp) ⟨.mem (qo (some O)+1) 386 (plC s),rfl,qfH s _ _,rfl⟩
 ·rintro hh ⟨O,s1,l1,rfl⟩;simp (disch:=omega) only[go_sem]
  repeat' first|exact v7|with_reducible apply aiA|exact clz|fail
 ·intro e hh hf;exact hf.elim
end RC
end
section
open Go Go.Proofs AF
def qt2:List Nat:= [277,278,377,347,287,344,288,345,290]
def qxh:C:=
 (vS [MC 2 (.str [])] (vS [⟨some 3,none,.alloc 0 333 [.nilp,.nl],[]⟩] (vS [⟨some 4,none,.alloc 1 416 [.nilfn],[]⟩] (vS [O2 5 (.mkfn (Fn.func 374) 0) 3 4,ST 1 4 5] ((C.wk.seq (vW
 [LD 6 4,MV 7 0,O2 8 .callv 6 7])).seq (vV [O1 9 (.call 278 false) 3,MV 2 9]))))))
theorem qyV:qK Tryz.prog 340 10 3 [RV.tmp 2] qxh:=fi Tryz.f340 [3,4,8] qt2 [4]
end
section
open Go Go.Proofs AF HY LN
namespace RC
theorem qFp(s:Str)(kb vb kj v kw:Nat)(h:we)(hne:kj≠kb)(hk:qq kb h=some (.mem vb 333 [.nilp,.osl kj v 1 0 0]))(hj:qq kj h=some (.emp v))(hl:s.length<=1000000)(hs:s≠ [])(hg:z6 h frmN frmC):
  ACalls Tryz.prog 374 [jT s,.op kb vb 0,.op kw 1 0] h (.tup []) (qn kj (qn kb h (.mem vb 333 [.op kb vb 0,.osl kj (v+1) 1 0 s.length])) (qcp (v+1) s)):=by
 have hkl:=zE hk;have hjl:=zE hj;refine acO qy2 ?_;simp (disch:=omega) only[qxo,jT,ndC,go_sem];obtain⟨H1,hH1⟩:=wc (qn kj (qn kb h (.mem vb 333 [.op kb vb 0,.osl kj (v+1) 1 0 s.length])) (qcp (v+1) s))
 rw[<-hH1];have hH1l:H1.length=h.length:=by rw[hH1];simp only[qL]
 refine qt (T:=λi:Nat×AObj×AObj=>zg 53 [(1,.op kb vb 0),(2,.op kw 1 0),(7,jT s),(8,.int .i64 ((1:Nat):Int)),(9,.int .i64 i.1)])
  (H:=λi=>(if i.1=0 then h else H1)++ [i.2.1,i.2.2])
  (inv:=λi=>i.1<=1∧qH [i.2.1] 0=true∧qH [i.2.2] 0=true) (m:=λi=>1-i.1) (0,.emp 0,.emp 0) ⟨nzl _,rfl,rfl⟩ (Wk.temps ?_) ?_
 ·(simp only[jT,ndC,go_sem,qh,qf,qb,qg];try exact wa)
 rintro⟨i,O5,O6⟩ ⟨i1,i2,i3⟩ K hK;simp only at i1 i2 i3 hK;have i2': ∀m,qH (O5::m) 0=true:=λ_=>i2
 have i3': ∀m,qH (O6::m) 0=true:=λ_=>i3
 by_cases hi:i<1
 ·obtain rfl:i=0:=by omega
  simp only[if_true];simp (disch:=omega) only[jT,ndC,i2',go_sem]
  repeat' first|(with_reducible first|intro _|apply aiA)|exact clz|fail
  refine qrZ (cs:=frmC) hg.app ⟨by decide,by decide⟩ rfl ?_;rw[qrY];simp (disch:=omega) only[qzk,i3',go_sem];refine qy (qFo kb vb kj v .nilp [] s _ hne (by rw[zx hkl];exact hk) (.inl rfl) (by rw[zx hjl];exact hj) (by simp;omega)) (by exact flk) ?_;have eH: ∀l,qn kj (qn kb (h++l) (.mem vb 333 [.op kb vb 0,.osl kj (v+1) 1 0 (([]:Str).length+s.length)])) (qcp (v+1) ([]++s))=H1++l:=λl=>by
   rw[hH1,lnl,Nat.zero_add,lna,zy hkl,zy (by rw[qL];exact hjl)]
  rw[eH];simp (disch:=omega) only[go_sem];refine hK _ _ (1,.mem (qo (some O5)+1) 234 (ndC s),.mem (qo (some O6)+1) 414 qzk) ⟨nlr _,rfl,rfl⟩ (by simp only;omega) ?_;rw[ine (by simp)];simp only[ndC,qzk];refine Wk.temps ?_
  (simp only[jT,ndC,go_sem,qh,qf,qb,qg];try exact wa)
 ·obtain rfl:i=1:=by omega
  rw[ine (by simp)];simp (disch:=omega) only[jT,ndC,go_sem]
  repeat' first|(with_reducible first|intro _|apply aiA)|exact clz|fail
  refine zK trivial hH1l ?_ ⟨rfl,rfl⟩ (qi);rw[hH1];exact qdc hkl hjl
theorem qCM(s:Str)(h:we)(hl:s.length<=1000000)(hs:s≠ [])(hg:z6 h frmN frmC):ACalls Tryz.prog 340 [jT s] h (.str s) h:=by
 refine acO qyV ?_;simp (disch:=omega) only[qxh,jT,go_sem];refine⟨_,_,Wk.ownNil (j:=h.length) (i:=1) (k:=h.length+2) (v:=1) (ty:=333) (cs:= [.nilp,.nl]) (ve:=0) (sz:=1) ?m1 rfl ?m2,?_⟩
 case m1=>simp only[go_sem]
 case m2=>simp only[go_sem]
 simp (disch:=omega) only[List.set_cons_zero,List.set_cons_succ,go_sem]
 repeat' first|with_reducible apply aiA|exact clz|fail
 refine kf (qFp s h.length 1 (h.length+2) 0 (h.length+1) _ om (by simp only[go_sem]) (by simp only[go_sem]) hl hs hg.app) ?_;simp (disch:=omega) only[go_sem];refine qy (qE3 h.length 1 (h.length+2) 1 (.op h.length 1 0) s _ om (by simp only[go_sem]) (by simp only[go_sem])) (by exact flk) ?_;simp (disch:=omega) only[go_sem]
 repeat' first|exact v7|fail
theorem qBX(s:Str)(h:we)(hl:s.length<=1000000)(hl2:s.length<=65536)(hs:s≠ [])(hc:zG s=0)(hg:z6 h frmN frmC):ACalls Tryz.prog 283 [jT s] h (.int .i64 0) h:=by
 have c1:=λh=>quN s h
 unfold jT at c1;obtain⟨cs,hcs⟩:=wc (AObj.mem 1 30 [.fn (.func 337) [] [.op (h.length+1) 1 0]])
 refine acO qyJ ?_;simp (disch:=omega) only[qw6,jT,go_sem]
 repeat' first|(refine cA (c1 _) flk ?_;simp (disch:=omega) only[go_sem])
 refine qY (xs:= [[.agg (plC s)]]) (itN s) (by simp)
  (S:=λi hh=> ∃O,qH [O] 0=true∧(∀n,lowO n O)∧hh=h++ [.mem 1 28 [.int .i64 0],.mem 1 3 [.int .i64 (4096-i)],cs,O,.emp 0]) (E:=λ_ _=>False) ?_ ?_ ?_ ?_ ?_ ?_ ?_
 ·rintro i hh ⟨O,_,l1,rfl⟩;refine LowI.app rfl (λo ho=> ?_);simp only[List.mem_cons,List.not_mem_nil,or_false]at ho;rcases ho with rfl|rfl|rfl|rfl|rfl
  ·left;simp
  ·right;exact⟨λc hc=>(by simp at hc;subst hc;rfl),λc hc=>(by simp at hc;subst hc;rfl)⟩
  ·left;rw[hcs];simp
  ·right;exact⟨l1 _,l1 _⟩
  ·left;simp
 ·intro s hh hf;exact hf.elim
 ·exact⟨.emp 0,rfl,λ_=>trivial,by rw[hcs];rfl⟩
 ·simp[qS,qS.lowVs]
  try omega
 ·rintro i hh tl LI TS hi ⟨O,s1,l1,rfl⟩ hlen K K2 hK hN hR' hX;obtain rfl:i=0:=by simp at hi;omega
  have s1': ∀m,qH (O::m) 0=true:=λ_=>s1
  show qW _ _ _ _ (jV _ _ [.agg (plC s)]) _;simp only[jV];simp (disch:=omega) only[List.append_assoc,plC,s1',go_sem];refine hK _ _ (h++ [.mem 1 28 [.int .i64 0],.mem 1 3 [.int .i64 4096],cs,.mem (qo (some O)+1) 386 (plC s),.emp 0]) (by simp[plC]) (by simp) ?_;rw[hcs];simp (disch:=omega) only[List.append_assoc,plC,go_sem]
  repeat' first|with_reducible apply aiA|exact clz|fail
  refine kf (qEY 4096 (h.length+1) 1 _ (by simp only[go_sem]) om om) ?_;simp (disch:=omega) only[go_sem]
  repeat' first|(with_reducible first|intro _|apply aiA)|exact clz|fail
  refine hN _ _ (h++ [.mem 1 28 [.int .i64 0],.mem 1 3 [.int .i64 4095],cs,.mem (qo (some O)+1) 386 (plC s),.emp 0]) (by rw[hcs];simp[plC]) (by simp) ⟨.mem (qo (some O)+1) 386 (plC s),rfl,qfH s _ _,rfl⟩
 ·rintro hh ⟨O,s1,l1,rfl⟩;have c2:=λh=>quN s h
  unfold jT at c2;rw[hcs];simp (disch:=omega) only[go_sem]
  repeat' first|(refine cA (c2 _) flk ?_;simp (disch:=omega) only[go_sem])
  have c5:=λl=>qER s (h++l) hs hl hc hg.app
  have c6:=λl=>qCM s (h++l) hl hs hg.app
  unfold jT at c6;unfold plC at c5;refine qY (xs:= [[.agg (plC s)]]) (itN s) (by simp)
   (S:=λi hh=> ∃O6,qH [O6] 0=true∧(∀n,lowO n O6)∧hh=h++ [.mem 1 28 [.int .i64 0],.mem 1 3 [.int .i64 4095],cs,O,O6]) (E:=λ_ _=>False) ?_ ?_ ?_ ?_ ?_ ?_ ?_
  ·rintro i hh ⟨O6,_,l2,rfl⟩;refine LowI.app rfl (λo ho=> ?_);simp only[List.mem_cons,List.not_mem_nil,or_false]at ho;rcases ho with rfl|rfl|rfl|rfl|rfl
   ·left;simp
   ·left;simp
   ·left;rw[hcs];simp
   ·left;simp
   ·right;exact⟨l2 _,l2 _⟩
  ·intro s hh hf;exact hf.elim
  ·exact⟨.emp 0,rfl,λ_=>trivial,by rw[hcs];rfl⟩
  ·simp[qS,qS.lowVs]
   try omega
  ·rintro i hh tl LI TS hi ⟨O6,s6,l6,rfl⟩ hlen K K2 hK hN hR' hX;obtain rfl:i=0:=by simp at hi;omega
   have s6': ∀m,qH (O6::m) 0=true:=λ_=>s6
   show qW _ _ _ _ (jV _ _ [.agg (plC s)]) _;simp only[jV];simp (disch:=omega) only[List.append_assoc,plC,s6',go_sem];refine hK _ _ (h++ [.mem 1 28 [.int .i64 0],.mem 1 3 [.int .i64 4095],cs,O,.mem (qo (some O6)+1) 386 (plC s)]) (by simp[plC]) (by simp) ?_;simp (disch:=omega) only[List.append_assoc,plC,go_sem]
   repeat' first|(refine cA (c5 _) flk ?_;simp (disch:=omega) only[go_sem])
   refine hN _ _ (h++ [.mem 1 28 [.int .i64 0],.mem 1 3 [.int .i64 4095],cs,O,.mem (qo (some O6)+1) 386 (plC s)]) (by simp[plC]) (by simp) ⟨.mem (qo (some O6)+1) 386 (plC s),rfl,qfH s _ _,rfl⟩
  ·rintro hh ⟨O6,s6,l6,rfl⟩;have k1:((65536:Int)<s.length)=False:=wi;simp (disch:=omega) only[go_sem]
   repeat' first|(refine cA (c6 _) flk ?_;simp (disch:=omega) only[k1,go_sem])|exact v7|fail
  ·intro e hh hf;exact hf.elim
 ·intro e hh hf;exact hf.elim
theorem qDW(h:we):ACalls Tryz.prog 284 [.nl] h (.int .i64 0) h:=by
 refine acO qyK ?_;simp (disch:=omega) only[qw7,go_sem]
 repeat' first|(apply qa;exact rvk;simp only[go_sem];apply qe)|(with_reducible first|intro _|apply aiA)|exact clz|fail
 refine qt (T:=λ_:Unit=>zg 21 [(9,.nl),(10,.int .i64 0),(11,.int .i64 0)]) (H:=λ_=>h++ [.emp 0]) (inv:=λ_=>True) (m:=λ_=>0) () trivial (Wk.temps ?_) ?_
 ·(simp only[go_sem,qh,qf,qb,qg];try exact wa)
 rintro⟨⟩ _ K hK;simp (disch:=omega) only[go_sem]
 repeat' first|exact v7|(with_reducible first|intro _|apply aiA)|exact clz|fail
theorem qFi(s:Str)(h:we)(hs:s.length<=1000000)(hw: ∀i,i<s.length->UX (ch s i)=true):ACalls Tryz.prog 376 [.str s] h (.bool true) h:=by
 refine acO qy3 ?_;simp (disch:=omega) only[qxp,go_sem];refine qt (T:=λi:Nat=>zg 19 [(0,.str s),(4,.str s),(5,.int .i64 s.length),(6,.int .i64 i)]) (H:=λ_=>h) (inv:=λi=>i<=s.length) (m:=λi=>s.length-i) 0 (nzl _) (Wk.temps ?_) ?_
 ·(simp only[go_sem,qh,qf,qb,qg];try exact wa)
 rintro i i1 K hK
 by_cases hi:i<s.length
 ·have k1:((i:Int)<s.length)=True:=wh;have e:(s[i]?).getD 0=ch s i:=by simp[ch,gdqA]
  have c1:=λh=>qa7 (ch s i) h
  have g:=hw i hi;unfold UX at g;simp only[Bool.or_eq_true,decide_eq_true_eq]at g;obtain⟨k,hk⟩:=wc (kind (ch s i))
  rw[<-hk]at g;simp only[<-hk]at c1
  by_cases g1:k=1
  ·subst g1;simp (disch:=omega) only[k1,e,go_sem]
   repeat' first|(refine cA (c1 _) flk ?_;simp (disch:=omega) only[go_sem])|with_reducible apply aiA|exact clz|fail
   refine hK _ _ (i+1) hi om (Wk.temps ?_)
   (simp only[go_sem,qh,qf,qb,qg];try exact wa)
  by_cases g2:k=2
  ·subst g2;simp (disch:=omega) only[k1,e,go_sem]
   repeat' first|(refine cA (c1 _) flk ?_;simp (disch:=omega) only[go_sem])|(apply qc;exact rvk;simp only[go_sem];apply qd)|(with_reducible first|intro _|apply aiA)|exact clz|fail
   refine hK _ _ (i+1) hi om (Wk.temps ?_)
   (simp only[go_sem,qh,qf,qb,qg];try exact wa)
  by_cases g3:k=3
  ·subst g3;simp (disch:=omega) only[k1,e,go_sem]
   repeat' first|(refine cA (c1 _) flk ?_;simp (disch:=omega) only[go_sem])|(apply qc;exact rvk;simp only[go_sem];apply qd)|(with_reducible first|intro _|apply aiA)|exact clz|fail
   refine hK _ _ (i+1) hi om (Wk.temps ?_)
   (simp only[go_sem,qh,qf,qb,qg];try exact wa)
  obtain rfl:k=4:=by omega
  simp (disch:=omega) only[k1,e,go_sem]
  repeat' first|(refine cA (c1 _) flk ?_;simp (disch:=omega) only[go_sem])|(apply qc;exact rvk;simp only[go_sem];apply qd)|(with_reducible first|intro _|apply aiA)|exact clz|fail
  refine hK _ _ (i+1) hi om (Wk.temps ?_)
  (simp only[go_sem,qh,qf,qb,qg];try exact wa)
 have k1:((i:Int)<s.length)=False:=wi;simp (disch:=omega) only[k1,go_sem]
 repeat' first|exact v8|fail
theorem qEz(s:Str)(hs:s.length<=1000000):qi8 Tryz.prog 392 [.ip [.str s],.ip [.nl]] []:=by
 intro h ts LI S E hS hE body start hts;refine acQ qza ?_;simp (disch:=omega) only[qxw,go_sem]
 repeat' first|with_reducible apply aiA|exact clz|fail
 refine qt (T:=λi:Nat=>zg 45 [(0,.yld h.length),(1,.ip [.str s]),(2,.ip [.nl]),(10,.int .i64 s.length),(11,.int .i64 i)]) (H:=λ_=>h++ [.lp .ready ts LI]++ [.emp 0]) (inv:=λi=>i<=s.length) (m:=λi=>s.length-i) 0 (nzl _) (Wk.temps ?_) ?_
 ·(simp only[go_sem,qh,qf,qb,qg];try exact wa)
 rintro i i1 K hK
 by_cases hi:i<s.length
 ·have k1:((i:Int)<s.length)=True:=wh;simp (disch:=omega) only[k1,go_sem]
  repeat' first|with_reducible apply aiA|exact clz|fail
  refine qt (T:=λ_:Unit=>zg 45 [(0,.yld h.length),(1,.ip [.str s]),(2,.ip [.nl]),(4,.int .i64 i),(10,.int .i64 s.length),(11,.int .i64 i),(14,.nl),(15,.int .i64 0),(16,.int .i64 0)]) (H:=λ_=>h++ [.lp .ready ts LI]++ [.emp 0]) (inv:=λ_=>True) (m:=λ_=>0) () trivial (Wk.temps ?_) ?_
  ·(simp only[go_sem,qh,qf,qb,qg];try exact wa)
  rintro⟨⟩ _ K' hK';simp (disch:=omega) only[go_sem]
  repeat' first|(with_reducible first|intro _|apply aiA)|exact clz|fail
  refine hK _ _ (i+1) hi om (Wk.temps ?_)
  (simp only[go_sem,qh,qf,qb,qg];try exact wa)
 have k1:((i:Int)<s.length)=False:=wi;simp (disch:=omega) only[k1,go_sem];obtain⟨r1,r2⟩:=(hS _ _ start).retX (L:=LI) (xs:= []) .ready hts;exact zK trivial r1 r2 ⟨h,.inl ⟨start,rfl⟩⟩ (qi)
theorem qEO(s:Str)(h:we):ACalls Tryz.prog 391 [.nl,.str s] h (.fn (.func 392) [] [.ip [.str s],.ip [.nl]]) h:=by
 refine acO qy9 ?_;simp (disch:=omega) only[qxv,go_sem]
 repeat' first|exact v7|fail
theorem qE2(s:Str)(h:we)(hs:s.length<=1000000):ACalls Tryz.prog 390 [.nl,.str s] h (.tup [.str s,.bool false]) h:=by
 have c1:=λh=>qEO s h
 refine acO qy8 ?_;simp (disch:=omega) only[qxu,go_sem]
 repeat' first|(refine cA (c1 _) flk ?_;simp (disch:=omega) only[go_sem])
 refine qY (xs:= []) (qEz s hs) (by simp) (S:=λi hh=>hh=h++ [.mem 1 9 [.str []],.mem 1 4 [.bool false]]) (E:=λ_ _=>False) ?_ ?_ ?_ ?_ ?_ ?_ ?_
 ·rintro i hh rfl;exact LowI.refl _
 ·intro s hh hf;exact hf.elim
 ·rfl
 ·simp[qS,qS.lowVs]
  try omega
 ·rintro i hh tl LI TS hi;exact absurd hi (by simp)
 ·rintro hh rfl;simp (disch:=omega) only[go_sem]
  repeat' first|exact v7|fail
 ·intro e hh hf;exact hf.elim
theorem qFc(s:Str)(h:we)(hs:s.length<=1000000):ACalls Tryz.prog 387 [.nl,.str s] h (.tup [strs [s],.int .i64 0]) h:=by
 have c1:=λh=>qE2 s h hs
 refine acO qy7 ?_;simp (disch:=omega) only[qxt,go_sem];refine qt (T:=λ_:Unit=>zg 32 [(0,.nl),(6,.osl (h.length+1) 1 1 0 1)]) (H:=λ_=>h++ [.emp 1,.mem 1 9 [.str s],.emp 0,.emp 0]) (inv:=λ_=>True) (m:=λ_=>0) () trivial (Wk.temps ?_) ?_
 ·(simp only[go_sem,qh,qf,qb,qg];try exact wa)
 rintro⟨⟩ _ K hK;simp (disch:=omega) only[go_sem]
 repeat' first|(refine cA (c1 _) flk ?_;simp (disch:=omega) only[go_sem])|(apply qa;exact rvk;simp only[go_sem])|with_reducible apply aiA|exact clz|fail
 refine qsu ⟨VLe.sl_eq rfl (λi hi=> ?_),qi,trivial⟩;obtain rfl:i=0:=by simp at hi;omega
 rfl
theorem qD2(s:Str)(h:we)(hs:s.length<=64)(hw: ∀i,i<s.length->UX (ch s i)=true):ACalls Tryz.prog 378 [.nl,.str s] h (.tup [strs [s],.int .i64 0]) h:=by
 have c1:=λh=>qFc s h om
 have c2: ∀h,ACalls Tryz.prog 386 [.nl,.str s] h (.int .i64 0) h:=λh=>by
  have d1:=λh=>qDW h
  have d2:=λh=>qFi s h om hw
  have k1:((64:Int)<s.length)=False:=wi;refine acO qy6 ?_;simp (disch:=omega) only[qxs,go_sem]
  repeat' first|((first|refine cA (d1 _) ?_ ?_|refine cA (d2 _) ?_ ?_);exact flk;simp (disch:=omega) only[k1,go_sem])|exact v8|fail
 refine acO qy5 ?_;simp (disch:=omega) only[qxr,go_sem]
 repeat' first|((first|refine cA (c1 _) ?_ ?_|refine cA (c2 _) ?_ ?_);exact flk;simp (disch:=omega) only[go_sem])|exact v7|with_reducible apply aiA|exact clz|fail
theorem qCQ(s:Str)(h:we)(hs:s.length<=64)(hw: ∀i,i<s.length->UX (ch s i)=true):ACalls Tryz.prog 348 [.nl,.str s] h (.tup [.str s,.int .i64 0]) h:=by
 have c1:=λh=>qD2 s h hs hw
 unfold strs at c1;refine acO qy0 ?_;simp (disch:=omega) only[qxm,go_sem]
 repeat' first|(refine cA (c1 _) flk ?_;simp (disch:=omega) only[go_sem])|exact v8|with_reducible apply aiA|exact clz|fail
end RC
end
section
open Go Go.Proofs AF HY LN
namespace AF
theorem LowI.retY{h hh xs ys:we}{ts:wg}{L:LInfo}(s:LS)(hl:LowI h hh)(hts: ∀c∈ts,qS (h.length+1) c=true)(hy:ys.length=xs.length)(hz: ∀o∈ys,o∈xs∨ ∀n,lowO n o):
  (hh++ .lp s ts L::ys).length=(h++ .lp .ready ts L::xs).length∧ ∀o∈hh++ .lp s ts L::ys,o∈h++ .lp .ready ts L::xs∨lowO (h++ .lp .ready ts L::xs).length o:=by
 refine⟨by simp[hl.1,hy],λo ho=> ?_⟩;rcases List.mem_append.1 ho with ho|ho
 ·rcases hl.2 o ho with h1|⟨h1,_⟩
  ·exact .inl (List.mem_append_left _ h1)
  ·exact .inr (lowO_mono (by simp) h1)
 ·rcases List.mem_cons.1 ho with rfl|ho
  ·exact .inr (λc hc=>kk (by simp) c (hts c hc))
  ·rcases hz o ho with h1|h1
   ·exact .inl (List.mem_append_right _ (List.mem_cons_of_mem _ h1))
   ·exact .inr (h1 _)
end AF
namespace RC
def atC(k:Int)(c:UInt8):wg:= [.int .i64 k,.int .u8 (c.toNat:Int),.int .i64 0,.str [],.int .i64 0,.bool false,.str []]
def atX(s:Str):List wg:=s.map λc=> [.agg (atC 1 c)]
theorem qbT(s:Str):(atX s).length=s.length:=by unfold atX;simp
theorem qrx{s:Str}{i:Nat}(hi:i<(atX s).length):(atX s)[i]= [.agg (atC 1 (ch s i))]:=by
 have:i<s.length:=by rw[qbT]at hi;exact hi
 simp[atX,ch,gdqA,this]
def quQ(s:Str)(j:Nat):UInt8:=if j=0 then 0 else ch s (j-1)
def cyA(n:Nat):AObj:= .mem 1 389 [.yld n]
def cxA(k:Int)(c:UInt8):AObj:= .mem 1 348 (atC k c)
def ceA(n:Nat):AObj:= .mem 1 390 [.fn (.func 343) [] [.op (n+2) 1 0,.op (n+1) 1 0,.op (n+3) 1 0]]
theorem qkK(k:Int)(c:UInt8): ∀n,lowO n (cxA k c):=λn d hd=>by
 simp[atC]at hd;rcases hd with rfl|rfl|rfl|rfl|rfl|rfl|rfl<;>rfl
section
variable {n : Nat} {hh m : we} {st : LS} {ts : wg} {LI : LInfo} {k : Int} {c : UInt8} {X : AObj}
theorem qBE(hl:hh.length=n):cellsOf (hh++ .lp st ts LI::cyA n::X::ceA n::m) (n+1) 1=some [.yld n]:=qQ (show qq _ _=some (cyA n) by subst hl;unfold qq;simp)
theorem qBF(hl:hh.length=n):qq (n+2) (hh++ .lp st ts LI::cyA n::X::ceA n::m)=some X:=by subst hl;unfold qq;simp
theorem qwi{Y:AObj}(hl:hh.length=n):qn (n+2) (hh++ .lp st ts LI::cyA n::X::ceA n::m) Y=hh++ .lp st ts LI::cyA n::Y::ceA n::m:=by subst hl;unfold qn;simp
end
theorem eachT(s:Str)(hl:s.length<=1000000)(h:we)(ts:wg)(LI:LInfo)(S:Nat->we->Prop)(E:LS->we->Prop)(hS: ∀i hh,S i hh->LowI h hh)(hE: ∀s hh,E s hh->LowI h hh)
  (body: ∀i hh tl,(hi:i<(atX s).length)->S i hh->jD Tryz.prog h.length ((atX s)[i]) (hh++ .lp .ready ts LI::tl) (λr h'=> ∃hh',(r= .bool true∧S (i+1) hh'∧h'=hh'++ .lp .ready ts LI::tl)∨(∃s,r= .bool false∧E s hh'∧h'=hh'++ .lp s ts LI::tl)))
  (start:S 0 h) (hts: ∀c∈ts,qS (h.length+1) c=true):
  zU Tryz.prog 343 [jT s,.op (h.length+2) 1 0,.op (h.length+1) 1 0,.op (h.length+3) 1 0] (h++ [.lp .ready ts LI,cyA h.length,cxA 0 0,ceA h.length])
   (λr h'=> ∃hh' c,(r= .bool true∧S s.length hh'∧h'=hh'++ [.lp .ready ts LI,cyA h.length,cxA 1 c,ceA h.length])∨(∃st,r= .bool false∧E st hh'∧h'=hh'++ [.lp st ts LI,cyA h.length,cxA 1 c,ceA h.length])):=by
 refine acQ qyX ?_;simp (disch:=omega) only[qxj,jT,ndC,go_sem];have key: ∀(hh:we) (k:Int) (c:UInt8),hh.length=h.length-> ∃B,B=hh++ [AObj.lp LS.ready ts LI,cyA h.length,cxA k c,ceA h.length]∧B.length=h.length+4∧qq (h.length+2) B=some (cxA k c)∧(∀Y m,cellsOf (qn (h.length+2) B Y++m) (h.length+1) 1=some [.yld h.length])∧
   (∀Y m,qn (h.length+2) B Y++m=hh++ [AObj.lp LS.ready ts LI,cyA h.length,Y,ceA h.length]++m):=λhh k c hl=>by
  refine⟨_,rfl,by simp[hl],qBF (m:= []) hl,λY m=> ?_,λY m=> ?_⟩
  ·rw[qwi (m:= []) hl];have e:hh++ [AObj.lp LS.ready ts LI,cyA h.length,Y,ceA h.length]++m=hh++ .lp .ready ts LI::cyA h.length::Y::ceA h.length::m:=by simp
   rw[e];exact qBE hl
  ·rw[qwi (m:= []) hl]
 have ea: ∀(g:we) st (X:AObj) m,g++ [AObj.lp st ts LI,cyA h.length,X,ceA h.length]++m=g++ .lp st ts LI::cyA h.length::X::ceA h.length::m:=λg st X m=>by simp
 refine qt (T:=λi:Nat×we×AObj×AObj×UInt8=>zg 93 [(1,.op (h.length+2) 1 0),(2,.op (h.length+1) 1 0),(3,.op (h.length+3) 1 0),(11,jT s),(12,.int .i64 ((1:Nat):Int)),(13,.int .i64 i.1)])
  (H:=λi=>i.2.1++ [.lp .ready ts LI,cyA h.length,cxA (if i.1=0 then 0 else 1) i.2.2.2.2,ceA h.length]++ [i.2.2.1,i.2.2.2.1])
  (inv:=λi=>i.1<=1∧S (if i.1=0 then 0 else s.length) i.2.1∧qH [i.2.2.1] 0=true∧qH [i.2.2.2.1] 0=true∧(i.1=0->i.2.2.2.2=0)) (m:=λi=>1-i.1) (0,h,.emp 0,.emp 0,0) ⟨nzl _,start,rfl,rfl,λ_=>rfl⟩ (Wk.temps ?_) ?_
 ·(simp only[jT,ndC,go_sem,qh,qf,qb,qg];try exact wa)
 rintro⟨i,hh,O7,O9,c⟩ ⟨i1,i2,i3,i4,i5⟩ K hK;simp only at i1 i2 i3 i4 i5 hK;obtain⟨hlen,hlow⟩:=hS _ _ i2;have i3': ∀m,qH (O7::m) 0=true:=λ_=>i3
 have i4': ∀m,qH (O9::m) 0=true:=λ_=>i4
 by_cases hi:i<1
 ·obtain rfl:i=0:=by omega
  obtain rfl:=i5 rfl;rw[ipo rfl]at i2;obtain⟨B,hB,hBl,hk,d1,d2⟩:=key hh 0 0 hlen;have hb:(h++ [AObj.lp LS.ready ts LI,cyA h.length,cxA 0 0,ceA h.length]).length=B.length:=by rw[hBl];simp
  have hkl:h.length+2<B.length:=by omega
  have s1: ∀ {l w cs z},cellsOf (qn (h.length+2) B (.mem w 348 cs)++l) (h.length+2) z=if w=z then some cs else none:=kU hkl
  have s2: ∀ {l o o'},qn (h.length+2) (qn (h.length+2) B o++l) o'=qn (h.length+2) B o'++l:=qdO hkl;have s4: ∀ {l o},qq (h.length+2) (qn (h.length+2) B o++l)=some o:=qbE hkl;show qW _ _ _ _ _ (hh++ [.lp .ready ts LI,cyA h.length,cxA 0 0,ceA h.length]++ [O7,O9]);rw[hb,<-hB];have hB0:B=qn (h.length+2) B (.mem 1 348 (atC 0 0)):=(jz hk).symm;rw[show B++ [O7,O9]=qn (h.length+2) B (.mem 1 348 (atC 0 0))++ [O7,O9]from by rw[<-hB0]];unfold atC;simp (disch:=omega) only[jT,ndC,i3',go_sem]
  repeat' first|(with_reducible first|intro _|apply aiA)|exact clz|fail
  refine kg ?T ?H ?h1 ?h2
  case h1=>
   simp (disch:=omega) only[s1,s2,s4,go_sem]
   repeat' first|with_reducible apply aiA
   all_goals first
    |omega
    |rfl
    |skip
  case h2=>
  simp (disch:=omega) only[s1,s2,s4,go_sem]
  repeat' first|(with_reducible first|intro _|apply aiA)|exact clz|fail
  rw[d2];obtain⟨O7',hO7⟩:=wc (AObj.mem (qo (some O7)+1) 234 (ndC s))
  refine qt (T:=λj:Nat×we=>zg 93 [(1,.op (h.length+2) 1 0),(2,.op (h.length+1) 1 0),(3,.op (h.length+3) 1 0),(7,.op B.length (qo (some O7)+1) 0),(11,jT s),(12,.int .i64 ((1:Nat):Int)),(13,.int .i64 ((0:Nat):Int)),(70,.int .i64 s.length),(71,.int .i64 j.1)])
   (H:=λj=>j.2++ [.lp .ready ts LI,cyA h.length,cxA 1 (quQ s j.1),ceA h.length]++ [O7',O9])
   (inv:=λj=>j.1<=s.length∧S j.1 j.2) (m:=λj=>s.length-j.1) (0,hh) ⟨nzl _,i2⟩ ?_ ?_
  ·rw[hO7];refine Wk.temps ?_
   (simp only[jT,ndC,go_sem,qh,qf,qb,qg];try exact wa)
  rintro⟨j,hj⟩ ⟨j1,j2⟩ K' hK';simp only at j1 j2 hK';obtain⟨jlen,jlow⟩:=hS _ _ j2;obtain⟨C,hC,hCl,ck,e1,e2⟩:=key hj 1 (quQ s j) jlen;have ckl:h.length+2<C.length:=by omega
  have t1: ∀ {l w cs z},cellsOf (qn (h.length+2) C (.mem w 348 cs)++l) (h.length+2) z=if w=z then some cs else none:=kU ckl
  have t2: ∀ {l o o'},qn (h.length+2) (qn (h.length+2) C o++l) o'=qn (h.length+2) C o'++l:=qdO ckl;have t4: ∀ {l o},qq (h.length+2) (qn (h.length+2) C o++l)=some o:=qbE ckl;show qW _ _ _ _ _ (hj++ [.lp .ready ts LI,cyA h.length,cxA 1 (quQ s j),ceA h.length]++ [O7',O9]);have hbc:B.length=C.length:=by rw[hBl,hCl]
  simp only[hbc];rw[<-hC];have hC0:C=qn (h.length+2) C (.mem 1 348 (atC 1 (quQ s j))):=(jz ck).symm;rw[show C++ [O7',O9]=qn (h.length+2) C (.mem 1 348 (atC 1 (quQ s j)))++ [O7',O9]from by rw[<-hC0]];unfold atC;rw[hO7]
  by_cases hjl:j<s.length
  ·have k1:((j:Int)<s.length)=True:=wh;have e:(s[j]?).getD 0=ch s j:=by simp[ch,gdqA]
   have hb':=λtl=>body j hj tl (by rw[qbT];exact hjl) j2
   simp only[qrx,atC]at hb';simp (disch:=omega) only[jT,ndC,t1,t2,t4,k1,e,e1,go_sem]
   repeat' first|with_reducible apply aiA|exact clz|fail
   ·rw[e2,ea];exact⟨.ready,ts,LI,jW jlen⟩
   ·rw[e2,ea];refine jD.mono ?_ (hb' _);rintro v h' ⟨hh',⟨rfl,hn,rfl⟩|⟨st,rfl,hs',rfl⟩⟩
    ·simp (disch:=omega) only[go_sem];rw[<-ea];refine hK' _ _ (j+1,hh') ⟨hjl,hn⟩ (by simp only;omega) ?_;simp only[hO7,quQ,Nat.add_sub_cancel,hbc];rw[ine om];refine Wk.temps ?_
     (simp only[jT,ndC,go_sem,qh,qf,qb,qg];try exact wa)
    ·simp (disch:=omega) only[go_sem];rw[<-ea hh' st];obtain⟨r1,r2⟩:=(hE _ _ hs').retY (L:=LI) (xs:= [cyA h.length,cxA 0 0,ceA h.length]) (ys:= [cyA h.length,cxA 1 (ch s j),ceA h.length]) st hts rfl (λo ho=>by
      simp only[List.mem_cons,List.not_mem_nil,or_false]at ho;rcases ho with rfl|rfl|rfl
      ·left;simp
      ·right;exact qkK 1 _
      ·left;simp)
     exact kZ ⟨trivial,trivial⟩ r1 r2 ⟨hh',ch s j,.inr ⟨st,rfl,hs',rfl⟩⟩ (qi)
  have k1:((j:Int)<s.length)=False:=wi;obtain rfl:j=s.length:=by omega
  simp (disch:=omega) only[jT,ndC,k1,go_sem];rw[e2];refine hK _ _ (1,hj,O7',O9,quQ s s.length) ⟨nlr _,j2,by rw[hO7];rfl,i4,λh=>absurd h (by simp)⟩ (by simp only;omega) ?_;simp only[hO7];refine Wk.temps ?_
  (simp only[jT,ndC,go_sem,qh,qf,qb,qg];try exact wa)
 ·obtain rfl:i=1:=by omega
  have i2:S s.length hh:=i2;show qW _ _ _ _ _ (hh++ [.lp .ready ts LI,cyA h.length,cxA 1 c,ceA h.length]++ [O7,O9]);simp (disch:=omega) only[jT,ndC,go_sem]
  repeat' first|(with_reducible first|intro _|apply aiA)|exact clz|fail
  obtain⟨r1,r2⟩:=(hS _ _ i2).retY (L:=LI) (xs:= [cyA h.length,cxA 0 0,ceA h.length]) (ys:= [cyA h.length,cxA 1 c,ceA h.length]) .ready hts rfl (λo ho=>by
   simp only[List.mem_cons,List.not_mem_nil,or_false]at ho;rcases ho with rfl|rfl|rfl
   ·left;simp
   ·right;exact qkK 1 c
   ·left;simp)
  exact kZ ⟨trivial,trivial⟩ r1 r2 ⟨hh,c,.inl ⟨rfl,i2,rfl⟩⟩ (qi)
end RC
end
section
open Go Go.Proofs AF HY LN
namespace RC
theorem itA(s:Str)(hl:s.length<=1000000):qi8 Tryz.prog 342 [.ip [.str [],.int .i64 0],.ip [jT s]] (atX s):=by
 intro h ts LI S E hS hE body start hts;have hb:(h++ [AObj.lp LS.ready ts LI]).length=h.length+1:=by simp
 have ea: ∀st,h++ [AObj.lp st ts LI]++ [.mem 1 389 [.yld h.length],.mem 1 348 [.int .i64 0,.int .u8 0,.int .i64 0,.str [],.int .i64 0,.bool false,.str []],.mem 1 390 [.fn (.func 343) [] [.op (h.length+2) 1 0,.op (h.length+1) 1 0,.op (h.length+3) 1 0]]]=h++ [AObj.lp st ts LI,cyA h.length,cxA 0 0,ceA h.length]:=λst=>by simp[cyA,cxA,ceA,atC]
 refine acQ qyW ?_;simp (disch:=omega) only[qxi,jT,go_sem]
 repeat' first|with_reducible apply aiA|exact clz|fail
 simp only[hb,Nat.add_assoc,Nat.reduceAdd,ea];refine qke (eachT s hl h ts LI S E hS hE body start hts) ?_;rintro v h' ⟨hh',c,⟨rfl,hn,rfl⟩|⟨st,rfl,hs',rfl⟩⟩
 ·simp (disch:=omega) only[go_sem];obtain⟨r1,r2⟩:=(hS _ _ hn).retX (L:=LI) (xs:= []) .ready hts;have eO:hh'++ [.lp .ready ts LI,cyA h.length,cxA 1 c,ceA h.length]=(hh'++ [.lp .ready ts LI])++ [cyA h.length,cxA 1 c,ceA h.length]:=by simp
  rw[eO];exact zK trivial r1 r2 ⟨hh',.inl ⟨by rw[qbT];exact hn,rfl⟩⟩ (qi)
 ·simp (disch:=omega) only[go_sem];obtain⟨r1,r2⟩:=(hE _ _ hs').retX (L:=LI) (xs:= []) st hts;have eO:hh'++ [.lp st ts LI,cyA h.length,cxA 1 c,ceA h.length]=(hh'++ [.lp st ts LI])++ [cyA h.length,cxA 1 c,ceA h.length]:=by simp
  rw[eO];exact zK trivial r1 r2 ⟨hh',.inr ⟨st,hs',rfl⟩⟩ (qi)
theorem qEd(s:Str)(h:we):ACalls Tryz.prog 286 [.agg [.str [],.int .i64 0],jT s] h (.fn (.func 342) [] [.ip [.str [],.int .i64 0],.ip [jT s]]) h:=by
 refine acO qyM ?_;simp (disch:=omega) only[qw9,jT,ndC,go_sem]
 repeat' first|exact v7|fail
end RC
end
section
open Go Go.Proofs AF HY RC LN
namespace HY
theorem qaO(w:World)(b d:Nat)(v:Value):w.grownBy (w.setCell ⟨b,d,none⟩ v) (some b):=by
 unfold World.setCell;refine⟨rfl,rfl,rfl,?_,λk hk hne=> ?_⟩
 ·simp
 ·have:b≠k:=λe=>hne (by rw[e])
  simp[Array.getElem?_modify,this]
theorem qCJ(n:Nat)(hn:6<=n):liesAt Tryz.prog Tryz.prog.depth 343 (n/Tryz.prog.cellsOf 343) 1 333 1=true:=by
 have e1:Tryz.prog.cellsOf 343=6:=by kernel_rfl
 have h1:liesAt Tryz.prog Tryz.prog.depth 343 1 1 333 1=true:=by kernel_rfl
 rw[e1];exact qb7 om _ h1
theorem ccT(kb vb:Nat)(z0 z1 z2 z3:AV)(A B:AV)(h:we)(hk:qq kb h=some (.mem vb 343 [z0,A,B,z1,z2,z3]))(hA:A= .nilp∨A= .op kb vb 1):ACalls Tryz.prog 333 [.op kb vb 1] h (.tup []) (qn kb h (.mem vb 343 [z0,.op kb vb 1,B,z1,z2,z3])):=by
 refine⟨qoh Tryz.func333 (by kernel_rfl) (by kernel_rfl),λw σ xs H hv=> ?_⟩;obtain⟨x,rfl,hx⟩:=hv.one;have hc:=qQ hk;obtain⟨cs,o,b,arr,g1,rfl,g2,g3,g4,g5,g6,g7,g9,g8⟩:=km H hx (by rw[hc];rfl);rw[hc]at g1;cases g1;have hobj:=H.obj kb _ o hk g2;obtain⟨_,hty,_⟩:=hobj;rw[hty]at g5;have g5b:=g5;have g5:=g5.plain (by decide);have hsz:6<=arr.size:=g7;have hc0:w.cell? ⟨b,1,none⟩=some arr[1]:=by rw[jO g5b];simp
 have hA0:=g8 1 A arr[1] rfl (by simp);have hsh:w.shape? b=some (343,arr.size):=by simp[World.shape?,g5]
 have hfz:w.frozen? ⟨b,1,none⟩=false:=by simp[World.frozen?,g5]
 have hkl:=zE hk;rcases hA with rfl|rfl
 ·rw[qd5 hA0]at hc0;refine (callsIn_wide.2 (qgo b 1 343 arr.size w hc0 om hsh hfz (qCJ _ hsz))).mono ?_;rintro e w' ⟨rfl,rfl⟩;have hg:w.grownBy (w.setCell ⟨b,1,none⟩ (.pointer (some ⟨b,1,none⟩))) o.blk:=by rw[g4];exact qaO w b 1 _
  have hh:=heap_setCell_same w b 1 arr 343 (.pointer (some ⟨b,1,none⟩)) g5;obtain⟨u1,u2⟩:=H.update (o':=o) (a':= .mem vb 343 [z0,.op kb vb 1,B,z1,z2,z3]) g2 hg (nlr _) (λ_=>rfl)
   (by intro b' e;rw[g4]at e;cases e;exact⟨.inl g4,(Array.getElem?_eq_some_iff.1 hh).1⟩) (λb' r e hr=>by rw[g4]at e;cases e;rw[g5]at hr;cases hr)
   (λe=>⟨g3,hty,b,_,g4,by rw[hty];exact .mk hh,by simp[g6],by simp;exact hsz,λi y hi hy=>by
    simp only[Array.getElem?_setIfInBounds]at hy;split at hy
    ·split at hy
     ·cases hy;rfl
     ·cases hy
    ·exact g9 i y (by simpa using hi) hy,λi c y hc hy=>by
    simp only[Array.getElem?_setIfInBounds]at hy;split at hy
    ·rename_i e0;split at hy
     ·cases hy;subst e0;simp at hc;subst hc;have hko:(σ.set kb o)[kb]? =some o:=by rw[List.getElem?_set_self (by rw[H.len];exact hkl)]
      exact .op o hko ⟨_,rfl⟩ om (λ_=>⟨b,g4,rfl⟩)
     ·cases hy
    ·rename_i e0;have hne:i≠1:=λe1=>e0 e1.symm
     have hcs: [z0,.op kb vb 1,B,z1,z2,z3]= [z0,.nilp,B,z1,z2,z3].set 1 (.op kb vb 1):=rfl;rw[hcs,List.getElem?_set_ne (λe1=>hne e1.symm)]at hc
     exact (g8 i c y hc hy).ext e⟩)
  exact⟨_,_,rfl,u1,.imm (.tup rfl (λi c x hc=>by simp at hc)),u2⟩
 ·obtain⟨o',q1,q2,q3⟩:=qvy hA0;rw[g2]at q1;cases q1;obtain⟨b',q4,q5⟩:=q3 g3;rw[g4]at q4;cases q4;rw[q5]at hc0;refine (callsIn_wide.2 (qkj b 1 w hc0)).mono ?_;rintro e w' ⟨rfl,rfl⟩;rw[jz hk];exact⟨_,σ,rfl,H,.imm (.tup rfl (λi c x hc=>by simp at hc)),Ext.refl w' σ⟩
theorem qgn{kb vb kj v m:Nat}{z0 z1 z2 z3:AV}{h:we}{s:List UInt8}(lz0:qS h.length z0=true)(lz1:qS h.length z1=true)(lz2:qS h.length z2=true)(lz3:qS h.length z3=true)(hkl:kb<h.length)(hjl:kj<h.length): ∀o∈qn kj (qn kb h (.mem vb 343 [z0,.op kb vb 1,.osl kj v 1 0 m,z1,z2,z3])) (qcp v s),o∈h∨lowO h.length o:=by
 intro o ho;rcases jc ho with h1|rfl
 ·rcases jc h1 with h2|rfl
  ·exact .inl h2
  ·right;intro c hc;simp only[List.mem_cons,List.not_mem_nil,or_false]at hc;rcases hc with rfl|rfl|rfl|rfl|rfl|rfl
   ·exact lz0
   ·simpa[qS] using hkl
   ·simpa[qS] using hjl
   ·exact lz1
   ·exact lz2
   ·exact lz3
 ·exact .inr (zX v s _)
theorem qFm(kb vb kj v:Nat)(z0 z1 z2 z3:AV)(A:AV)(s:List UInt8)(u:UInt8)(h:we)(lz0:qS h.length z0=true)(lz1:qS h.length z1=true)(lz2:qS h.length z2=true)(lz3:qS h.length z3=true)(hne:kj≠kb)(hk:qq kb h=some (.mem vb 343 [z0,A,.osl kj v 1 0 s.length,z1,z2,z3]))(hA:A= .nilp∨A= .op kb vb 1)(hj:qq kj h=some (qcp v s))(hl:s.length+1<=140737488355328):
  ACalls Tryz.prog 377 [.op kb vb 1,.int .u8 u.toNat] h .nilif (qn kj (qn kb h (.mem vb 343 [z0,.op kb vb 1,.osl kj (v+1) 1 0 (s.length+1),z1,z2,z3])) (qcp (v+1) (s++ [u]))):=by
 have hkl:=zE hk;have hjl:=zE hj;have hne':kb≠kj:=λe=>hne e.symm
 have hj0:kj≠h.length:=by omega
 have hj1:kj≠h.length+1:=by omega
 have hk1: ∀l,qq kb (h++l)=some (.mem vb 343 [z0,A,.osl kj v 1 0 s.length,z1,z2,z3]):=λl=>by rw[zx hkl,hk]
 refine acO qy4 ?_;simp (disch:=omega) only[qxq,go_sem];refine qy (ccT kb vb z0 z1 z2 z3 A _ _ (hk1 _) hA) ⟨rfl,trivial⟩ ?_
 by_cases hs:s= []
 ·subst hs;rw[qby]at hj;simp (disch:=omega) only[zy,jh,qR,qdq,qdr,qdM,qdN,zM,ji,qk,qcQ,hj,zf,go_sem]
  repeat' first|(with_reducible apply aiA)
  all_goals first
   |omega
   |(rw[bne_iff_ne];exact hj0)
   |(simp;done)
   |skip
  rw[qdd hne',show AObj.mem (v+1) 5 [AV.int IntKind.u8 u.toNat]=qcp (v+1) [u]from (UT (s:= [u]) (by simp) _).symm];exact kZ ⟨trivial,trivial⟩ (by simp only[qL]) (qgn lz0 lz1 lz2 lz3 hkl hjl) ⟨rfl,rfl⟩ (qi)
 ·rw[UT hs]at hj;simp (disch:=omega) only[zy,jh,qR,qdq,qdr,qdM,qdN,zM,ji,qk,UK,hj,jp,zf,go_sem]
  repeat' first|(with_reducible apply aiA)
  all_goals first
   |omega
   |(rw[bne_iff_ne];exact hj0)
   |(simp[jp];done)
   |skip
  rw[qdd hne',ltl (by simp[jp]),show zC s++ [AV.int IntKind.u8 u.toNat]=zC (s++ [u])from (qcE s [u]).symm,<-UT (s:=s++ [u]) (by simp)];exact kZ ⟨trivial,trivial⟩ (by simp only[qL]) (qgn lz0 lz1 lz2 lz3 hkl hjl) ⟨rfl,rfl⟩ (qi)
theorem qE4(kb vb kj v:Nat)(z0 z1 z2 z3:AV)(A:AV)(s:List UInt8)(h:we)(hne:kj≠kb)(hk:qq kb h=some (.mem vb 343 [z0,A,.osl kj v 1 0 s.length,z1,z2,z3]))(hj:qq kj h=some (qcp v s)):
  ACalls Tryz.prog 278 [.op kb vb 1] h (.str s) (qn kj h (.emp (v+1))):=by
 refine⟨qoh Tryz.func278 (by kernel_rfl) (by kernel_rfl),λw σ xs H hv=> ?_⟩;obtain⟨x,rfl,hx⟩:=hv.one;have hc:=qQ hk;obtain⟨cs,o,b,arr,g1,rfl,g2,g3,g4,g5,g6,g7,g9,g8⟩:=km H hx (by rw[hc];rfl);rw[hc]at g1;cases g1;have hty:=(H.obj kb _ o hk g2).2.1;rw[hty]at g5;have g5b:=g5;have g5:=g5.plain (by decide);have hsz:6<=arr.size:=g7;have hc1:w.cell? ⟨b,1+1,none⟩=some arr[1+1]:=by rw[jO g5b];simp
 have hB:=g8 (1+1) _ arr[1+1] rfl (by simp);obtain⟨oj,j1,j2,j3⟩:=qn6 hB;have hobj:=H.obj kj _ oj hj j1;have hkj:=zE hj
 by_cases hs:s= []
 ·subst hs;rw[qby]at hj hobj;obtain⟨m1,m2⟩:=hobj;rcases j3 m1 with⟨_,_,_,e⟩|⟨b',cap,e,_⟩
  ·rw[e]at hc1;refine (callsIn_wide.2 (qg6 b 1 w hc1)).mono ?_;rintro e w' ⟨rfl,rfl⟩;obtain⟨u1,u2⟩:=H.update (w':=w.drew) (o':= { oj with blk:=none,ver:=v+1 }) (a':= .emp (v+1)) j1 ⟨rfl,rfl,rfl,nlr _,λ_ _ _=>rfl⟩ (by simp only;omega) (by simp only;omega) (by intro b' e;cases e) (λb' r e hr=>⟨r,hr⟩) (λ_=>⟨rfl,rfl⟩);exact⟨_,_,rfl,u1,.imm .str,u2⟩
  ·rw[m2]at e;cases e
 ·rw[UT hs]at hj hobj;obtain⟨m1,m2,bj,arrj,m3,m4,m5,m6,m7,m8⟩:=hobj;rcases j3 m1 with⟨e,_⟩|⟨b',cap,e1,e2,e3,e4,e5⟩
  ·rw[m3]at e;cases e
  ·rw[m3]at e1;cases e1;rw[e2]at hc1;rw[m2]at m4;have m4b:=m4;have m4:=m4.plain (by decide);rw[jp]at m6;refine (callsIn_wide.2 (qg7 b 1 bj cap s arrj w hs hc1 m4 e3 e4 om (λj x hx=> ?_))).mono ?_
   ·have hjl:j<s.length:=(lgs.1 hx).1;rw[jO m4b];have ea:arrj[j]? =some arrj[j]:=by simp
    have:=m8 j (.int .u8 x.toNat) arrj[j] (by simp[zC,hx]) ea
    rw[ea,zz this]
   ·rintro e w' ⟨rfl,rfl⟩;have hg:w.grownBy (w.drew.freeze ⟨bj,0,none⟩ s.length) oj.blk:=by
     rw[m3];exact qbd w bj s.length
    obtain⟨u1,u2⟩:=H.update (o':= { oj with blk:=none,ver:=v+1 }) (a':= .emp (v+1)) j1 hg (by simp only;omega) (by simp only;omega) (by intro b' e;cases e)
     (λb' r e hr=>by rw[m3]at e;cases e;rw[m4]at hr;cases hr) (λ_=>⟨rfl,rfl⟩)
    exact⟨_,_,rfl,u1,.imm .str,u2⟩
end HY
end
section
open Go Go.Proofs AF HY LN
namespace AF
def tri(h:we)(a b c:Nat)(X Y Z:AObj):we:=qn c (qn b (qn a h X) Y) Z
structure T3 (h:we) (a b c:Nat):Prop where
 la:a<h.length
 lb:b<h.length
 lc:c<h.length
 ab:a≠b
 ac:a≠c
 bc:b≠c
section
variable {h l : we} {a b c n v : Nat} {X Y Z o : AObj}
theorem T3.app(t:T3 h a b c)(l:we):T3 (h++l) a b c:=by
 have:=t.la;have:=t.lb;have:=t.lc
 exact⟨by rw[lap];omega,by rw[lap];omega,by rw[lap];omega,t.ab,t.ac,t.bc⟩
theorem tri_len:(tri h a b c X Y Z).length=h.length:=by unfold tri;simp only[qL]
theorem qvq(t:T3 h a b c):tri (h++l) a b c X Y Z=tri h a b c X Y Z++l:=by
 unfold tri;rw[zy t.la,zy (by rw[qL];exact t.lb),zy (by rw[qL,qL];exact t.lc)]
theorem dB(t:T3 h a b c):qq a (tri h a b c X Y Z++l)=some X:=by
 rw[zx (by rw[tri_len];exact t.la)];unfold tri;rw[qR t.ac,qR t.ab,jh t.la]
theorem UE(t:T3 h a b c):qq b (tri h a b c X Y Z++l)=some Y:=by
 rw[zx (by rw[tri_len];exact t.lb)];unfold tri;rw[qR t.bc,jh (by rw[qL];exact t.lb)]
theorem ey(t:T3 h a b c):qq c (tri h a b c X Y Z++l)=some Z:=by
 rw[zx (by rw[tri_len];exact t.lc)];unfold tri;rw[jh (by rw[qL,qL];exact t.lc)]
theorem UF(t:T3 h a b c):qn a (tri h a b c X Y Z++l) o=tri h a b c o Y Z++l:=by
 rw[zy (by rw[tri_len];exact t.la)];unfold tri;rw[kq t.ac,kq t.ab,kR]
theorem UQ(t:T3 h a b c):qn b (tri h a b c X Y Z++l) o=tri h a b c X o Z++l:=by
 rw[zy (by rw[tri_len];exact t.lb)];unfold tri;rw[kq t.bc,kR]
theorem UR(t:T3 h a b c):qn c (tri h a b c X Y Z++l) o=tri h a b c X Y o++l:=by
 rw[zy (by rw[tri_len];exact t.lc)];unfold tri;rw[kR]
theorem tri_go:qq (h.length+n) (tri h a b c X Y Z++l)=l[n]? :=by
 have:= @getO_app (tri h a b c X Y Z) l n
 rwa [tri_len]at this
theorem tri_go0:qq h.length (tri h a b c X Y Z++l)=l[0]? :=by
 have:= @getO_app0 (tri h a b c X Y Z) l
 rwa [tri_len]at this
theorem tri_so:qn (h.length+n) (tri h a b c X Y Z++l) o=tri h a b c X Y Z++l.set n o:=by
 have:= @setO_app (tri h a b c X Y Z) l n o
 rwa [tri_len]at this
theorem tri_so0:qn h.length (tri h a b c X Y Z++l) o=tri h a b c X Y Z++l.set 0 o:=by
 have:= @setO_app0 (tri h a b c X Y Z) l o
 rwa [tri_len]at this
theorem tri_co:cellsOf (tri h a b c X Y Z++l) (h.length+n) v=cellsOf l n v:=by unfold cellsOf;rw[tri_go];rfl
theorem tri_co0:cellsOf (tri h a b c X Y Z++l) h.length v=cellsOf l 0 v:=by unfold cellsOf;rw[tri_go0];rfl
theorem tri_to:qH (tri h a b c X Y Z++l) (h.length+n)=qH l n:=by unfold qH;rw[tri_go];rfl
theorem tri_to0:qH (tri h a b c X Y Z++l) h.length=qH l 0:=by unfold qH;rw[tri_go0];rfl
theorem tri_lo:qE (tri h a b c X Y Z++l) (h.length+n) v=qE l n v:=by unfold qE;rw[tri_go];rfl
theorem qay(t:T3 h a b c):cellsOf (tri h a b c X Y Z++l) a v=qr (some X) v:=by rw[zM,dB t]
theorem qaz(t:T3 h a b c):cellsOf (tri h a b c X Y Z++l) b v=qr (some Y) v:=by rw[zM,UE t]
theorem qaA(t:T3 h a b c):cellsOf (tri h a b c X Y Z++l) c v=qr (some Z) v:=by rw[zM,ey t]
theorem qaB(t:T3 h a b c):qE (tri h a b c X Y Z++l) a v=qG (some X) v:=by rw[ji,dB t]
theorem qaC(t:T3 h a b c):qE (tri h a b c X Y Z++l) b v=qG (some Y) v:=by rw[ji,UE t]
theorem qaD(t:T3 h a b c):qE (tri h a b c X Y Z++l) c v=qG (some Z) v:=by rw[ji,ey t]
theorem qvs(t:T3 h a b c){X' Y' Z':AObj}:tri (tri h a b c X Y Z) a b c X' Y' Z'=tri h a b c X' Y' Z':=by
 have e1:=UF (X:=X) (Y:=Y) (Z:=Z) (l:= []) (o:=X') t;have e2:=UQ (X:=X') (Y:=Y) (Z:=Z) (l:= []) (o:=Y') t;have e3:=UR (X:=X') (Y:=Y') (Z:=Z) (l:= []) (o:=Z') t;simp only[lan]at e1 e2 e3
 conv=>lhs;unfold tri
 rw[show qn c (qn b (qn a h X) Y) Z=tri h a b c X Y Z from rfl,e1,e2,e3]
theorem jB(t:T3 h a b c){X' Y' Z':AObj}(hx:lowO h.length X')(hy:lowO h.length Y')(hz:lowO h.length Z'): ∀o∈tri h a b c X' Y' Z',o∈tri h a b c X Y Z∨lowO (tri h a b c X Y Z).length o:=by
 intro o ho;rw[tri_len];rw[<-qvs (X:=X) (Y:=Y) (Z:=Z) t]at ho;unfold tri at ho;rcases jc ho with h1|rfl
 ·rcases jc h1 with h1|rfl
  ·rcases jc h1 with h1|rfl
   ·exact .inl h1
   ·exact .inr hx
  ·exact .inr hy
 ·exact .inr hz
end
attribute [go_sem] tri_len tri_go tri_go0 tri_so tri_so0 tri_co tri_co0 tri_to tri_to0 tri_lo
theorem ACalls.wk{P:Program}{f:FuncId}{args:wg}{h h' h'':we}{r:AV}(hc:ACalls P f args h r h')(hw:Wk [] h' [] h''):ACalls P f args h r h'':=by
 refine⟨hc.1,λw σ xs H hv=>(hc.2 w σ xs H hv).mono ?_⟩;rintro e w' ⟨v,σ',rfl,g1,g2,g3⟩;obtain⟨σ2,s1,s2⟩:=hw w'.heap.size w' σ' { tmps:= #[],defers:= [] } ⟨g1,rfl,λi c x hc=>(by simp at hc),⟨[],rfl,.nil,nlr _,λr hr=>(by cases hr)⟩⟩;exact⟨v,σ2,rfl,s1.hr,g2.ext s2,g3.trans s2⟩
end AF
namespace RC
def z8(L:List Tk):wg:=L.flatMap tkC
theorem qf5(t:Tk):(tkC t).length=6:=rfl
theorem jA(L:List Tk):(z8 L).length=L.length*6:=by
 unfold z8
 induction L with
 |nil=>rfl
 |cons a L ih=>rw[List.flatMap_cons,lap,ih,lco,qf5];omega
theorem qdX(A B:List Tk):z8 (A++B)=z8 A++z8 B:=by simp[z8]
theorem qg9(a:Tk):z8 [a]=tkC a:=by simp[z8]
theorem qnw(L:List Tk): ∀i,(z8 L).take (i*6)=z8 (L.take i):=by
 induction L with
 |nil=>intro i;simp[z8]
 |cons a L ih=>
  intro i;cases i with
  |zero=>simp[z8]
  |succ i=>
   rw[show z8 (a::L)=tkC a++z8 L from rfl,show (a::L).take (i+1)=a::L.take i from rfl,show z8 (a::L.take i)=tkC a++z8 (L.take i)from rfl,<-ih i];rw[show (i+1)*6=(tkC a).length+i*6 by rw[qf5];omega,List.take_append,ltl om,Nat.add_sub_cancel_left]
theorem qe7(L:List Tk): ∀i,(z8 L).drop (i*6)=z8 (L.drop i):=by
 induction L with
 |nil=>intro i;simp[z8]
 |cons a L ih=>
  intro i;cases i with
  |zero=>simp
  |succ i=>
   rw[show z8 (a::L)=tkC a++z8 L from rfl,show (a::L).drop (i+1)=L.drop i from rfl,<-ih i];rw[show (i+1)*6=(tkC a).length+i*6 by rw[qf5];omega,List.drop_append,List.drop_eq_nil_of_le om,lna,Nat.add_sub_cancel_left]
theorem qaw{L:List Tk}{i:Nat}(hi:i<L.length):((z8 L).drop (i*6)).take 6=tkC (L.getD i default):=by
 rw[qe7,List.drop_eq_getElem_cons hi,gdqA,zH hi];rfl
theorem qha{L:List Tk}{i:Nat}(e:Tk)(hi:i<L.length):(z8 L).take (i*6)++(tkC e++(z8 L).drop (i*6+6))=z8 (L.set i e):=by
 rw[List.set_eq_take_append_cons_drop,ipo hi,show i*6+6=(i+1)*6 by omega,qnw,qe7,qdX];rw[show e::List.drop (i+1) L= [e]++List.drop (i+1) L from rfl,qdX,qg9]
theorem qdY{L:List Tk}{i k:Nat}(hi:i<L.length)(hk:k<6):(z8 L)[i*6+k]? =(tkC (L.getD i default))[k]? :=by
 rw[<-qaw hi,List.getElem?_take,ipo hk,List.getElem?_drop]
theorem j6(L:List Tk)(n:Nat): ∀c∈z8 L,qS n c=true:=by
 intro c hc;unfold z8 at hc;obtain⟨x,_,hx⟩:=List.mem_flatMap.1 hc;unfold tkC at hx;simp only[List.mem_cons,List.not_mem_nil,or_false]at hx;rcases hx with rfl|rfl|rfl|rfl|rfl|rfl<;>rfl
structure Br where
 out:List Tk
 word:Str
 opn:Bool
 jn:Bool
 vo:Nat
 vw:Nat
 ad:Bool
def brX(a b c va:Nat)(q:Br):AObj:= .mem va 343 [.osl b q.vo 6 0 q.out.length,if q.ad=true then .op a va 1 else .nilp,.osl c q.vw 1 0 q.word.length,.bool q.opn,.bool q.jn,.bool false]
def brY(q:Br):AObj:=zw q.vo 119 (z8 q.out)
def brO(h:we)(a b c va:Nat)(q:Br):we:=tri h a b c (brX a b c va q) (brY q) (qcp q.vw q.word)
def U3(L:List Tk)(w:Str):List Tk:=L.set (L.length-1) ⟨w,(L.getD (L.length-1) default).norm,(L.getD (L.length-1) default).page,(L.getD (L.length-1) default).line,(L.getD (L.length-1) default).flags,(L.getD (L.length-1) default).name⟩
def Br.nd(q:Br):Br:=if q.opn=true then ⟨U3 q.out q.word,[],false,q.jn,q.vo,q.vw+1,false⟩ else ⟨q.out,[],false,q.jn,q.vo,q.vw,false⟩
def Br.st(q:Br)(f:Int):Br:=⟨q.out++ [tkF (f+jfl q.jn q.out.length) []],q.word,q.opn,true,q.vo+1,q.vw,q.ad⟩
def Br.wb(q:Br)(c:UInt8):Br:=⟨q.out,q.word++ [c],q.opn,q.jn,q.vo,q.vw+1,true⟩
def Br.op(q:Br):Br:=⟨q.out,q.word,true,q.jn,q.vo,q.vw,q.ad⟩
def Br.sp(q:Br):Br:=⟨q.out,q.word,q.opn,false,q.vo,q.vw,q.ad⟩
def Br.tx(q:Br)(w:Str):Br:=⟨U3 q.out w,q.word,q.opn,q.jn,q.vo,q.vw,q.ad⟩
def Br.pt(q:Br)(c:UInt8):Br:=if q.opn=true∧UX c=true then q.wb c else if bgn c=true then ((q.st 0).op).wb c else if kind c=6 then q.nd.sp else (q.nd.st 8).tx [c]
theorem jE{h:we}{a b c:Nat}(t:T3 h a b c)(va:Nat)(q:Br):lowO h.length (brX a b c va q):=by
 intro x hx
 have:=t.la;have:=t.lb;have:=t.lc
 simp only[List.mem_cons,List.not_mem_nil,or_false]at hx;rcases hx with rfl|rfl|rfl|rfl|rfl|rfl
 ·simp[qS];assumption
 ·split
  ·simp[qS];assumption
  ·rfl
 ·simp[qS];assumption
 ·rfl
 ·rfl
 ·rfl
theorem kT(q:Br)(n:Nat):lowO n (brY q):=jl (j6 q.out n)
theorem qde{h:we}{a b c va:Nat}{q:Br}:(brO h a b c va q).length=h.length:=tri_len
end RC
end
