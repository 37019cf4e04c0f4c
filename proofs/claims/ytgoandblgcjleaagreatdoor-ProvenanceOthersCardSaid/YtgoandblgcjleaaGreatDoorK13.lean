import Derived.Test.YtgoandblgcjleaaGreatDoorK3
import Derived.Test.YtgoandblgcjleaaGreatDoorK4
import Derived.Test.YtgoandblgcjleaaGreatDoorK8
import Derived.Test.YtgoandblgcjleaaGreatDoorProg
import Derived.Test.YtgoandblgcjleaaGreatDoorK12
import Derived.Test.YtgoandblgcjleaaGreatDoorK11
import Derived.Test.YtgoandblgcjleaaGreatDoorK10
import Derived.Test.YtgoandblgcjleaaGreatDoorK9
set_option linter.all false
set_option linter.unusedSimpArgs false
set_option linter.unusedVariables false
set_option linter.unusedSectionVars false
set_option maxHeartbeats 128000000
set_option maxRecDepth 100000
section
open Go Go.Proofs AF
def zm:List Nat:= []
def qs4:C:=
 ((C.ops [O1 2 (.box 0 29) 0,O1 3 (.box 1 3) 1,MC 4 .nilfn]).seq ((C.ops [O2 5 (.mkfn (Fn.func 173) 0) 2 3,MV 4 5]).seq
 C.ret))
theorem qum:qI Tryz.prog 108 6 2 [RV.tmp 4] qs4:=fi Tryz.f108 [2,3] zm []
def qtd:C:=
 ((C.ops [LD 6 1,O1 7 .len 6,MC 8 (i6 0)]).seq (C.block 0 ((C.ops [BI 9 .lss 8 7]).seq ((C.cond (.t 9) C.skip (C.exit 0)).seq ((C.block 1 ((C.ops [MV 10 8,O2 11 (.idxA 7) 6 8,O1
 12 (.load (some 7)) 11,⟨some 5,none,.alloc 0 64 [.str [],i6 0,i6 0,i6 0,.bool false,.bool false,.str []],[]⟩,MV 4 10,ST 7 5 12]).seq ((C.ops [O1 13 (.fldA 2) 5,LD 14
 13,LD 15 2,BI 16 .eql 14 15,MV 17 16,MG 18 17 true 0,MG 19 17 true 4,P1 20 17 true (.load (some 7)) 5,PN 21 17 true .callv [.t 18,.t 19,.t 20],P1 22 17 true (.un
 UnOp.not) 21,PF 23 17 22]).seq (C.cond (.t 23) C.ret C.skip)))).seq (C.ops [BC 24 .add 8 (i6 1),MV 8
 24])))).loop))
theorem quw:qI Tryz.prog 173 25 1 [] qtd:=fi Tryz.f173 [5] zm []
def qtc:C:=
 ((C.ops [O1 2 (.box 0 89) 0,MC 3 (.bool false)]).seq ((C.ops [O1 4 (.fldA 0) 2,LD 5 4,LD 6 1,O2 7 (.call 53 true) 5 6,MV 3 7]).seq
 C.ret))
theorem quv:qI Tryz.prog 172 8 1 [RV.tmp 3] qtc:=fi Tryz.f172 [2] zm []
def qtN:C:=
 ((C.ops [O1 4 (.box 0 26) 0,ON 8 (.nilo 1 1 3) [],MC 9 (i6 0)]).seq (((C.ops [O1 11 (.load (some 4)) 4,MV 12 1,MV 13 2,ON 14 (.call 38 true) [.t 11,.t 12,.t 13],MV 10
 14]).seq ((C.ops [MV 15 10,BC 16 .neq 15 (i6 0)]).seq (C.cond (.t 16) ((C.ops [MV 17 10,ON 8 (.nilo 1 1 3) [],MV 9 17]).seq C.ret) C.skip))).seq (((C.ops [MV 18 3,BC 19 .lss 18
 (i6 0),MV 20 19,MG 21 20 false 3,MG 22 20 false 2,P1 23 20 false .len 22,P2 24 20 false (.bin .geq) 21 23,PT 25 20 24]).seq (C.cond (.t 25) ((C.ops [ON 8 (.nilo 1 1 3) [],MC
 9 (i6 2)]).seq C.ret) C.skip)).seq ((C.ops [O1 26 (.load (some 4)) 4,MV 27 1,MV 28 2,MV 29 3,ON 30 (.call 84 true) [.t 26,.t 27,.t 28,.t 29],MV 8 30,MC 9 (i6 0)]).seq
 C.ret))))
theorem qm6:qI Tryz.prog 32 31 2 [RV.tmp 8,RV.tmp 9] qtN:=fi Tryz.f32 [4,8] zm []
def qiJ:C:=
 ((C.ops [O1 4 (.box 0 26) 0,⟨some 8,none,.alloc 1 34 [.str [],i6 0],[]⟩,MC 9 (i6 0)]).seq (((C.ops [O1 12 (.load (some 4)) 4,O1 13 (.call 81 true) 12,BC 14 .neq 13 (i6
 0)]).seq (C.cond (.t 14) ((C.ops [⟨some 15,none,.build [.str [],i6 0] [],[]⟩,ST 2 8 15,MC 9 (i6 1)]).seq C.ret) C.skip)).seq (((C.ops [MV 16 2,BC 17 .lss 16 (i6 0),MV 18
 17,MG 19 18 false 2,MG 20 18 false 1,P1 21 18 false .len 20,P2 22 18 false (.bin .geq) 19 21,PT 23 18 22,MV 24 23,MG 25 24 false 3,PC 26 24 false (.bin .lss) 25 (i6 0),PT
 27 24 26,MV 28 27,MG 29 28 false 3,P1 30 28 false (.fldA 1) 4,P1 31 28 false (.load none) 30,P1 32 28 false .len 31,P2 33 28 false (.bin .geq) 29 32,PT 34 28 33]).seq
 (C.cond (.t 34) ((C.ops [⟨some 35,none,.build [.str [],i6 0] [],[]⟩,ST 2 8 35,MC 9 (i6 2)]).seq C.ret) C.skip)).seq (((C.ops [MV 36 1,MV 37 2,O2 38 (.idxA 7) 36 37,O1 39
 (.fldA 1) 38,LD 40 39,MV 10 40]).seq ((C.ops [MV 41 10,BC 42 .lss 41 (i6 0),MV 43 42,MG 44 43 false 10,P1 45 43 false (.fldA 3) 4,P1 46 43 false (.load none) 45,P1 47 43
 false .len 46,P2 48 43 false (.bin .geq) 44 47,PT 49 43 48]).seq (C.cond (.t 49) ((C.ops [⟨some 50,none,.build [.str [],i6 0] [],[]⟩,ST 2 8 50,MC 9 (i6 19)]).seq C.ret)
 C.skip))).seq ((C.ops [O1 51 (.fldA 3) 4,LD 52 51,MV 53 1,MV 54 2,O2 55 (.idxA 7) 53 54,O1 56 (.fldA 1) 55,LD 57 56,O2 58 (.idxA 1) 52 57,LD 59 58,MV 60 3,O2 61 (.idxA 1)
 59 60,LD 62 61,MV 11 62]).seq (((C.ops [MV 63 11,BC 64 .lss 63 (i6 0),MV 65 64,P1 66 65 false (.fldA 2) 4,P1 67 65 false (.load none) 66,MG 68 65 false 3,P2 69 65 false
 (.idxA 1) 67 68,P1 70 65 false (.load none) 69,MG 71 65 false 11,P2 72 65 false (.idxA 6) 70 71,P1 73 65 false (.fldA 0) 72,P1 74 65 false (.load none) 73,MG 75 65 false 1,
 MG 76 65 false 2,P2 77 65 false (.idxA 7) 75 76,P1 78 65 false (.fldA 0) 77,P1 79 65 false (.load none) 78,P2 80 65 false (.bin .neq) 74 79,PT 81 65 80]).seq (C.cond (.t 81)
 ((C.ops [⟨some 82,none,.build [.str [],i6 0] [],[]⟩,ST 2 8 82,MC 9 (i6 6)]).seq C.ret) C.skip)).seq ((C.ops [O1 83 (.fldA 2) 4,LD 84 83,MV 85 3,O2 86 (.idxA 1) 84 85,LD
 87 86,MV 88 11,O2 89 (.idxA 6) 87 88,O1 90 (.fldA 2) 89,O1 91 (.load (some 2)) 90,ST 2 8 91,MC 9 (i6 0)]).seq
 C.ret)))))))
theorem qb7:qI Tryz.prog 17 92 2 [RV.cell 8 (some 2),RV.tmp 9] qiJ:=fi Tryz.f17 [4,8] zm []
def qw6:C:=
 ((C.ops [MC 4 (i6 0),MC 5 (i6 0)]).seq (((C.ops [MV 6 1,BC 7 .lss 6 (i6 0),MV 8 7,MG 9 8 false 1,MG 10 8 false 0,P1 11 8 false .len 10,P2 12 8 false (.bin .geq) 9 11,PT 13
 8 12]).seq (C.cond (.t 13) ((C.ops [MC 4 (i6 0),MC 5 (i6 2)]).seq C.ret) C.skip)).seq ((C.ops [MV 14 0,MV 15 1,O2 16 (.idxA 7) 14 15,O1 17 (.fldA 3) 16,LD 18 17,MV 4 18,MC 5
 (i6 0)]).seq
 C.ret)))
theorem qq1:qI Tryz.prog 19 19 0 [RV.tmp 4,RV.tmp 5] qw6:=fi Tryz.f19 [] zm []
def qs5:C:=
 ((C.ops [ON 6 (.nilo 0 1 3) []]).seq ((C.ops [MV 9 1,MV 10 2,O2 11 (.call 176 true) 9 10,MV 7 11]).seq (((C.ops [MC 8 (i6 0)]).seq (C.block 0 (((C.ops [MV 12 8,MV 13 0,MV 14
 2,O2 15 (.idxA 3) 13 14,O1 16 (.fldA 2) 15,LD 17 16,O1 18 .len 17,BI 19 .lss 12 18]).seq (C.cond (.t 19) C.skip (C.exit 0))).seq ((C.block 1 ((C.ops [MV 22 0,MV 23 2,O2 24
 (.idxA 3) 22 23,O1 25 (.fldA 2) 24,LD 26 25,MV 27 8,O2 28 (.idxA 2) 26 27,O1 29 (.fldA 0) 28,LD 30 29,MV 31 7,O2 32 (.call 103 true) 30 31]).seq (C.cond (.t 32) ((C.ops
 [⟨some 33,none,.bslc 1 1 0 3 [i6 0] [],[]⟩,MV 34 0,MV 35 2,O2 36 (.idxA 3) 34 35,O1 37 (.fldA 2) 36,LD 38 37,MV 39 8,O2 40 (.idxA 2) 38 39,O1 41 (.fldA 1) 40,LD 42 41,
 O2 43 (.app 2 1 3 8) 33 42,MV 6 43]).seq C.ret) C.skip))).seq (C.ops [MV 20 8,BC 21 .add 20 (i6 1),MV 8 21]))).loop)).seq ((C.ops [⟨some 44,none,.bslc 3 1 0 3 [i6 0] [],[]⟩,
 MV 6 44]).seq
 C.ret))))
theorem qun:qI Tryz.prog 110 45 4 [RV.tmp 6] qs5:=fi Tryz.f110 [6,33,43,44] zm []
def qxl:C:=
 ((C.ops [O1 4 (.box 0 26) 0,ON 8 (.nilo 1 1 3) []]).seq (((C.ops [MV 11 2,MV 12 3,O2 13 (.idxA 7) 11 12,O1 14 (.fldA 2) 13,LD 15 14,BC 16 .geq 15 (i6 0)]).seq (C.cond (.t 16)
 ((C.ops [MV 17 1,MV 18 2,MV 19 2,MV 20 3,O2 21 (.idxA 7) 19 20,O1 22 (.fldA 2) 21,LD 23 22,ON 24 (.call 110 true) [.t 17,.t 18,.t 23],MV 8 24]).seq C.ret) C.skip)).seq
 ((C.ops [⟨some 25,none,.bslc 2 1 0 3 [i6 0] [],[]⟩,MV 9 25]).seq (((C.ops [MC 10 (i6 0)]).seq (C.block 0 (((C.ops [MV 26 10,O1 27 (.fldA 1) 4,LD 28 27,O1 29 .len 28,BI 30
 .lss 26 29]).seq (C.cond (.t 30) C.skip (C.exit 0))).seq ((C.block 1 (C.ops [MV 33 9,MV 34 10,⟨some 35,none,.bslc 3 1 1 3 [i6 0] [(0,1)],[.t 34]⟩,O2 36 (.app 4 1 3 8) 33 35,
 MV 9 36])).seq (C.ops [MV 31 10,BC 32 .add 31 (i6 1),MV 10 32]))).loop)).seq ((C.ops [MV 37 9,MV 8 37]).seq
 C.ret)))))
theorem qvf:qI Tryz.prog 88 38 5 [RV.tmp 8] qxl:=fi Tryz.f88 [4,8,25,35,36] zm []
def qiL:C:=
 ((C.ops [O1 4 (.box 0 26) 0,⟨some 8,none,.alloc 1 34 [.str [],i6 0],[]⟩,MC 9 (i6 0)]).seq (((C.ops [O1 12 (.load (some 4)) 4,O1 13 (.call 82 true) 12,BC 14 .neq 13 (i6
 0)]).seq (C.cond (.t 14) ((C.ops [⟨some 15,none,.build [.str [],i6 0] [],[]⟩,ST 2 8 15,MC 9 (i6 1)]).seq C.ret) C.skip)).seq (((C.ops [MV 16 2,BC 17 .lss 16 (i6 0),MV 18
 17,MG 19 18 false 2,MG 20 18 false 1,P1 21 18 false .len 20,P2 22 18 false (.bin .geq) 19 21,PT 23 18 22,MV 24 23,MG 25 24 false 3,PC 26 24 false (.bin .lss) 25 (i6 0),PT
 27 24 26,MV 28 27,MG 29 28 false 3,P1 30 28 false (.fldA 1) 4,P1 31 28 false (.load none) 30,P1 32 28 false .len 31,P2 33 28 false (.bin .geq) 29 32,PT 34 28 33]).seq
 (C.cond (.t 34) ((C.ops [⟨some 35,none,.build [.str [],i6 0] [],[]⟩,ST 2 8 35,MC 9 (i6 2)]).seq C.ret) C.skip)).seq ((C.ops [MV 36 1,MV 37 2,O2 38 (.idxA 7) 36 37,O1 39
 (.fldA 1) 38,LD 40 39,MV 10 40]).seq (((C.ops [MV 41 10,BC 42 .lss 41 (i6 0),MV 43 42,MG 44 43 false 10,P1 45 43 false (.fldA 3) 4,P1 46 43 false (.load none) 45,P1 47 43
 false .len 46,P2 48 43 false (.bin .geq) 44 47,PT 49 43 48]).seq (C.cond (.t 49) ((C.ops [⟨some 50,none,.build [.str [],i6 0] [],[]⟩,ST 2 8 50,MC 9 (i6 19)]).seq C.ret)
 C.skip)).seq ((C.ops [O1 51 (.fldA 3) 4,LD 52 51,MV 53 10,O2 54 (.idxA 1) 52 53,LD 55 54,MV 56 3,O2 57 (.idxA 1) 55 56,LD 58 57,MV 11 58]).seq (((C.ops [MV 59 11,BC 60
 .lss 59 (i6 0),MV 61 60,P1 62 61 false (.fldA 2) 4,P1 63 61 false (.load none) 62,MG 64 61 false 3,P2 65 61 false (.idxA 1) 63 64,P1 66 61 false (.load none) 65,MG 67 61
 false 11,P2 68 61 false (.idxA 6) 66 67,P1 69 61 false (.fldA 0) 68,P1 70 61 false (.load none) 69,MG 71 61 false 1,MG 72 61 false 2,P2 73 61 false (.idxA 7) 71 72,P1 74 61
 false (.fldA 0) 73,P1 75 61 false (.load none) 74,P2 76 61 false (.bin .neq) 70 75,PT 77 61 76]).seq (C.cond (.t 77) ((C.ops [⟨some 78,none,.build [.str [],i6 0] [],[]⟩,ST
 2 8 78,MC 9 (i6 6)]).seq C.ret) C.skip)).seq ((C.ops [O1 79 (.fldA 2) 4,LD 80 79,MV 81 3,O2 82 (.idxA 1) 80 81,LD 83 82,MV 84 11,O2 85 (.idxA 6) 83 84,O1 86 (.fldA 2) 85,
 O1 87 (.load (some 2)) 86,ST 2 8 87,MC 9 (i6 0)]).seq
 C.ret))))))))
theorem qb8:qI Tryz.prog 18 88 2 [RV.cell 8 (some 2),RV.tmp 9] qiL:=fi Tryz.f18 [4,8] zm []
def qw7:C:=
 ((C.ops [MC 4 (i6 0),MC 5 (i6 0)]).seq (((C.ops [MV 6 1,BC 7 .lss 6 (i6 0),MV 8 7,MG 9 8 false 1,MG 10 8 false 0,P1 11 8 false .len 10,P2 12 8 false (.bin .geq) 9 11,PT 13
 8 12]).seq (C.cond (.t 13) ((C.ops [MC 4 (i6 0),MC 5 (i6 2)]).seq C.ret) C.skip)).seq ((C.ops [MV 14 0,MV 15 1,O2 16 (.idxA 7) 14 15,O1 17 (.fldA 3) 16,LD 18 17,MV 4 18,MC 5
 (i6 0)]).seq
 C.ret)))
theorem qq2:qI Tryz.prog 20 19 0 [RV.tmp 4,RV.tmp 5] qw7:=fi Tryz.f20 [] zm []
def qyY:C:=
 ((C.ops [MC 2 (.str [])]).seq ((C.ops [MC 3 (.str [])]).seq ((C.block 0 (((C.ops [MV 4 0,BC 5 .gtr 4 (i6 9)]).seq (C.cond (.t 5) C.skip (C.exit 0))).seq (C.block 1 ((C.ops [MV 6
 0,BC 7 .rem 6 (i6 10),MV 8 0,BC 9 .rem 8 (i6 10),BC 10 .add 9 (i6 1),ON 11 (.sslc true true) [.c (.str [48,49,50,51,52,53,54,55,56,57]),.t 7,.t 10],MV 12 3,BI 13
 .add 11 12,MV 3 13]).seq (C.ops [MV 14 0,BC 15 .quo 14 (i6 10),MV 0 15])))).loop).seq ((C.ops [MV 16 0,MV 17 0,BC 18 .add 17 (i6 1),ON 19 (.sslc true true) [.c (.str [48,49,
 50,51,52,53,54,55,56,57]),.t 16,.t 18],MV 20 3,BI 21 .add 19 20,MV 2 21]).seq
 C.ret))))
theorem qxS:qI Tryz.prog 89 22 0 [RV.tmp 2] qyY:=fi Tryz.f89 [] zm []
def qte:C:=
 ((C.ops [ON 4 (.nilo 0 1 9) []]).seq ((C.ops [⟨some 7,none,.bslc 1 1 0 9 [.str []] [],[]⟩,MV 5 7]).seq (((C.ops [MC 6 (i6 0)]).seq (C.block 0 (((C.ops [MV 8 6,MV 9 0,O1 10
 .len 9,BI 11 .lss 8 10]).seq (C.cond (.t 11) C.skip (C.exit 0))).seq ((C.block 1 ((C.ops [MV 14 0,MV 15 6,O2 16 (.idxA 7) 14 15,O1 17 (.fldA 2) 16,LD 18 17,MV 19 1,BI 20
 .eql 18 19]).seq (C.cond (.t 20) (C.ops [MV 21 5,MV 22 0,MV 23 6,O2 24 (.idxA 7) 22 23,O1 25 (.fldA 0) 24,LD 26 25,⟨some 27,none,.bslc 2 1 1 9 [.str []] [(0,1)],[.t 26]⟩,
 O2 28 (.app 3 1 9 16) 21 27,MV 5 28]) C.skip))).seq (C.ops [MV 12 6,BC 13 .add 12 (i6 1),MV 6 13]))).loop)).seq ((C.ops [MV 29 5,MV 4 29]).seq
 C.ret))))
theorem qux:qI Tryz.prog 176 30 4 [RV.tmp 4] qte:=fi Tryz.f176 [4,7,27,28] zm []
def qyQ:C:=
 ((C.ops [MC 2 (.bool false)]).seq (((C.ops [MC 3 (i6 0)]).seq (C.block 0 (((C.ops [MV 4 3,MV 5 0,O1 6 .len 5,BI 7 .lss 4 6]).seq (C.cond (.t 7) C.skip (C.exit 0))).seq ((C.block
 1 ((C.ops [MV 10 0,MV 11 3,O2 12 (.idxA 4) 10 11,O1 13 (.fldA 3) 12,LD 14 13,O1 15 .slen 14,BC 16 .gtr 15 (i6 80),MV 17 16,MG 18 17 false 0,MG 19 17 false 3,P2 20 17
 false (.idxA 4) 18 19,P1 21 17 false (.fldA 1) 20,P1 22 17 false (.load none) 21,P1 23 17 false .slen 22,PC 24 17 false (.bin .gtr) 23 (i6 20),PT 25 17 24]).seq (C.cond (.t
 25) ((C.ops [MC 2 (.bool true)]).seq C.ret) C.skip))).seq (C.ops [MV 8 3,BC 9 .add 8 (i6 1),MV 3 9]))).loop)).seq ((C.ops [MV 26 0,O1 27 .len 26,BC 28 .gtr 27 (i6 8),MV 2
 28]).seq
 C.ret)))
theorem qxG:qI Tryz.prog 15 29 0 [RV.tmp 2] qyQ:=fi Tryz.f15 [] zm []
def qsG:C:=
 ((C.ops [O1 5 (.box 0 26) 0,MC 10 (.str []),MC 11 (i6 0)]).seq (((C.ops [O1 17 (.load (some 4)) 5,MV 18 1,MV 19 3,ON 20 (.call 39 true) [.t 17,.t 18,.t 19],MV 12 20]).seq
 ((C.ops [MV 21 12,BC 22 .neq 21 (i6 0)]).seq (C.cond (.t 22) ((C.ops [MV 23 12,MC 10 (.str []),MV 11 23]).seq C.ret) C.skip))).seq (((C.ops [MV 24 4,BC 25 .lss 24 (i6 0),MV 26
 25,MG 27 26 false 4,MG 28 26 false 3,P1 29 26 false .len 28,P2 30 26 false (.bin .geq) 27 29,PT 31 26 30]).seq (C.cond (.t 31) ((C.ops [MC 10 (.str []),MC 11 (i6 2)]).seq
 C.ret) C.skip)).seq ((C.ops [MV 32 3,MV 33 4,O2 34 (.idxA 7) 32 33,O1 35 (.load (some 7)) 34,⟨some 13,none,.alloc 1 64 [.str [],i6 0,i6 0,i6 0,.bool false,.bool false,
 .str []],[]⟩,ST 7 13 35]).seq (((C.ops [O1 36 (.fldA 3) 13,LD 37 36,MV 38 2,O1 39 .len 38,BI 40 .geq 37 39]).seq (C.cond (.t 40) ((C.ops [MC 10 (.str []),MC 11 (i6 6)]).seq
 C.ret) C.skip)).seq ((C.ops [O1 41 (.fldA 0) 13,LD 42 41,BC 43 .add 42 (.str [58]),MV 14 43]).seq ((C.ops [O1 44 (.load (some 4)) 5,MV 45 1,MV 46 3,MV 47 4,ON 48 (.call 88
 true) [.t 44,.t 45,.t 46,.t 47],MV 15 48]).seq (((C.ops [MC 16 (i6 0)]).seq (C.block 0 (((C.ops [MV 49 16,MV 50 15,O1 51 .len 50,BI 52 .lss 49 51]).seq (C.cond (.t 52)
 C.skip (C.exit 0))).seq ((C.block 1 (C.ops [MV 55 14,BC 56 .add 55 (.str [32]),O1 57 (.fldA 1) 5,LD 58 57,MV 59 15,MV 60 16,O2 61 (.idxA 1) 59 60,LD 62 61,O2 63 (.idxA 1)
 58 62,LD 64 63,BI 65 .add 56 64,MV 14 65])).seq (C.ops [MV 53 16,BC 54 .add 53 (i6 1),MV 16 54]))).loop)).seq (((C.ops [MV 66 15,O1 67 .len 66,BC 68 .eql 67 (i6 0)]).seq
 (C.cond (.t 68) (C.ops [MV 69 14,BC 70 .add 69 (.str [32,110,111,32,115,111,117,114,99,101]),MV 14 70]) C.skip)).seq ((C.block 2 ((C.ops [O1 72 (.fldA 2) 13,LD 73 72,
 BC 74 .lss 73 (i6 0),MV 71 74]).seq (C.cond (.t 71) ((C.ops [MV 75 14,BC 76 .add 75 (.str [59,32,99,111,109,109,111,110]),MV 10 76,MC 11 (i6 0)]).seq C.ret) ((C.ops [O1
 78 (.fldA 3) 13,LD 79 78,BC 80 .lss 79 (i6 0),MV 77 80]).seq (C.cond (.t 77) ((C.ops [MV 81 14,BC 82 .add 81 (.str [59,32,108,101,97,100,105,110,103,32,115,111,117,
 114,99,101]),MV 10 82,MC 11 (i6 0)]).seq C.ret) C.skip))))).seq ((C.ops [MV 83 14,BC 84 .add 83 (.str [59,32,100,101,99,105,115,105,111,110,32]),O1 85 (.fldA 3) 13,
 LD 86 85,O1 87 (.call 89 true) 86,BI 88 .add 84 87,BC 89 .add 88 (.str [44,32]),MV 14 89]).seq (((C.ops [MV 90 2,O1 91 (.fldA 3) 13,LD 92 91,O2 93 (.idxA 4) 90 92,O1 94
 (.fldA 0) 93,LD 95 94,BC 96 .eql 95 (i6 1)]).seq (C.cond (.t 96) ((C.ops [MV 97 14,BC 98 .add 97 (.str [99,104,111,105,99,101,32,111,102,32]),MV 99 2,O1 100 (.fldA 3)
 13,LD 101 100,O2 102 (.idxA 4) 99 101,O1 103 (.fldA 1) 102,LD 104 103,BI 105 .add 98 104,MV 10 105,MC 11 (i6 0)]).seq C.ret) C.skip)).seq ((C.ops [MV 106 14,BC 107 .add 106
 (.str [99,111,110,106,101,99,116,117,114,101]),MV 10 107,MC 11 (i6 0)]).seq
 C.ret)))))))))))))
theorem qjG:qI Tryz.prog 22 108 2 [RV.tmp 10,RV.tmp 11] qsG:=fi Tryz.f22 [5,13] zm []
def qs7:C:=
 ((C.ops [O1 3 (.box 0 26) 0,MC 6 (.bool false)]).seq ((C.ops [O1 7 (.load (some 4)) 3,O1 8 (.call 77 true) 7,MV 9 8,MG 10 9 false 1,P1 11 9 false (.call 78 true) 10,PT 12 9
 11,MV 13 12,MG 14 13 false 2,P1 15 13 false (.call 79 true) 14,PT 16 13 15,MV 6 16]).seq
 C.ret))
theorem qm5:qI Tryz.prog 14 17 1 [RV.tmp 6] qs7:=fi Tryz.f14 [3] zm []
def qyR:C:=
 ((C.ops [MC 0 (.bool false)]).seq ((C.ops [ON 12 (.call 80 true) [],MV 11 12,O1 13 (.ext 0) 11,O1 14 (.ext 1) 11,O1 15 (.ext 2) 11,O1 16 (.ext 3) 11,⟨some 1,none,.alloc 0
 26 [.str [],.nl,.nl,.nl],[]⟩,ST 4 1 13,MV 2 14,MV 3 15,MV 4 16]).seq ((C.ops [O1 18 (.load (some 4)) 1,MV 19 2,MV 20 4,ON 21 (.call 32 true) [.t 18,.t 19,.t 20,.c (i6
 1)],MV 17 21,O1 22 (.ext 0) 17,O1 23 (.ext 1) 17,MV 5 22,MV 6 23]).seq ((C.ops [O1 25 (.load (some 4)) 1,MV 26 2,MV 27 3,MV 28 4,ON 29 (.call 21 true) [.t 25,.t 26,.t
 27,.t 28,.c (i6 0)],MV 24 29,O1 30 (.ext 0) 24,O1 31 (.ext 1) 24,MV 7 30,MV 8 31]).seq ((C.ops [O1 33 (.load (some 4)) 1,MV 34 2,MV 35 3,MV 36 4,ON 37 (.call 21 true)
 [.t 33,.t 34,.t 35,.t 36,.c (i6 1)],MV 32 37,O1 38 (.ext 0) 32,O1 39 (.ext 1) 32,MV 9 38,MV 10 39]).seq ((C.ops [MV 40 6,BC 41 .eql 40 (i6 0),MV 42 41,MG 43 42 true 8,
 PC 44 42 true (.bin .eql) 43 (i6 0),PF 45 42 44,MV 46 45,MG 47 46 true 10,PC 48 46 true (.bin .eql) 47 (i6 0),PF 49 46 48,MV 50 49,MG 51 50 true 5,⟨some 52,some (50,
 true),.bslc 1 1 1 3 [i6 0] [(0,1)],[.c (i6 1)]⟩,P2 53 50 true (.call 40 true) 51 52,PF 54 50 53,MV 55 54,MG 56 55 true 7,PC 57 55 true (.bin .eql) 56 (.str [100,101,117,
 115,58,32,65,32,66,59,32,99,111,109,109,111,110]),PF 58 55 57,MV 59 58,MG 60 59 true 9,PC 61 59 true (.bin .eql) 60 (.str [101,114,97,116,58,32,66,59,32,
 100,101,99,105,115,105,111,110,32,48,44,32,99,104,111,105,99,101,32,111,102,32,66]),PF 62 59 61,MV 0 62]).seq
 C.ret))))))
theorem qxH:qI Tryz.prog 16 63 2 [RV.tmp 0] qyR:=fi Tryz.f16 [1,52] zm []
def c3s:C:=
 ((C.ops [O1 6 (.box 0 26) 0,MC 12 (.bool false)]).seq (((C.ops [O1 25 (.load (some 4)) 6,MV 26 1,MV 27 3,ON 28 (.call 14 true) [.t 25,.t 26,.t 27],MV 29 28,MG 30 29 false
 2,P1 31 29 false (.call 15 true) 30,PT 32 29 31]).seq (C.cond (.t 32) ((C.ops [ON 33 (.call 16 true) [],MV 12 33]).seq C.ret) C.skip)).seq ((C.ops [O1 35 (.load (some 4)) 6,MV
 36 3,MV 37 4,MV 38 5,ON 39 (.call 17 true) [.t 35,.t 36,.t 37,.t 38],MV 34 39,O1 40 (.ext 0) 34,O1 41 (.ext 1) 34,⟨some 13,none,.alloc 1 34 [.str [],i6 0],[]⟩,ST 2
 13 40,MV 14 41]).seq ((C.ops [O1 43 (.load (some 4)) 6,MV 44 3,MV 45 4,MV 46 5,ON 47 (.call 18 true) [.t 43,.t 44,.t 45,.t 46],MV 42 47,O1 48 (.ext 0) 42,O1 49 (.ext 1)
 42,⟨some 15,none,.alloc 2 34 [.str [],i6 0],[]⟩,ST 2 15 48,MV 16 49]).seq ((C.ops [MV 51 3,MV 52 4,O2 53 (.call 19 true) 51 52,MV 50 53,O1 54 (.ext 0) 50,O1 55 (.ext 1)
 50,MV 17 54,MV 18 55]).seq ((C.ops [MV 57 3,MV 58 4,O2 59 (.call 20 true) 57 58,MV 56 59,O1 60 (.ext 0) 56,O1 61 (.ext 1) 56,MV 19 60,MV 20 61]).seq ((C.ops [O1 63 (.load
 (some 4)) 6,MV 64 1,MV 65 2,MV 66 3,MV 67 4,ON 68 (.call 21 true) [.t 63,.t 64,.t 65,.t 66,.t 67],MV 62 68,O1 69 (.ext 0) 62,O1 70 (.ext 1) 62,MV 21 69,MV 22 70]).seq
 ((C.ops [O1 72 (.load (some 4)) 6,MV 73 1,MV 74 2,MV 75 3,MV 76 4,ON 77 (.call 22 true) [.t 72,.t 73,.t 74,.t 75,.t 76],MV 71 77,O1 78 (.ext 0) 71,O1 79 (.ext 1) 71,MV
 23 78,MV 24 79]).seq ((C.ops [O1 80 (.load (some 2)) 13,O1 81 (.load (some 2)) 15,⟨some 82,none,.aeq [.str,.int] false,[.t 80,.t 81]⟩,MV 83 82,MG 84 83 true 14,MG 85 83
 true 16,P2 86 83 true (.bin .eql) 84 85,PF 87 83 86,MV 88 87,MG 89 88 true 17,MG 90 88 true 19,P2 91 88 true (.bin .eql) 89 90,PF 92 88 91,MV 93 92,MG 94 93 true 18,MG 95
 93 true 20,P2 96 93 true (.bin .eql) 94 95,PF 97 93 96,MV 98 97,MG 99 98 true 21,MG 100 98 true 23,P2 101 98 true (.bin .eql) 99 100,PF 102 98 101,MV 103 102,MG 104 103
 true 22,MG 105 103 true 24,P2 106 103 true (.bin .eql) 104 105,PF 107 103 106,MV 108 107,PN 109 108 true (.call 16 true) [],PF 110 108 109,MV 12 110]).seq
 C.ret)))))))))
theorem qxI:qI Tryz.prog 3 111 3 [RV.tmp 12] c3s:=fi Tryz.f3 [6,13,15] zm []
def qyW:C:=
 ((C.ops [⟨some 0,none,.alloc 0 26 [.str [],.nl,.nl,.nl],[]⟩,ON 1 (.nilo 1 3 83) [],ON 2 (.nilo 2 4 119) [],ON 3 (.nilo 3 7 64) []]).seq ((C.ops [MC 4 (.fn (Fn.func 151) []
 [])]).seq ((C.ops [⟨some 8,none,.bslc 4 1 2 9 [.str []] [(0,1),(1,1)],[.c (.str [65]),.c (.str [66])]⟩,MV 9 4,OC 10 .callv 9 (.str [100,101,117,115]),MV 11 4,OC 12
 .callv 11 (.str [101,115,116]),⟨some 13,none,.bslc 5 6 2 124 [.str [],.str [],.str [],i6 0,i6 0,.str []] [(0,6),(6,6)],[.t 10,.t 12]⟩,MV 14 4,OC 15 .callv 14 (.str
 [100,101,117,115]),MV 16 4,OC 17 .callv 16 (.str [101,114,97,116]),⟨some 18,none,.bslc 6 6 2 124 [.str [],.str [],.str [],i6 0,i6 0,.str []] [(0,6),(6,6)],[.t
 15,.t 17]⟩,⟨some 19,none,.bslc 7 1 2 125 [.nl] [(0,1),(1,1)],[.t 13,.t 18]⟩,⟨some 20,none,.bslc 8 1 2 3 [i6 0] [(0,1),(1,1)],[.c (i6 0),.c (i6 0)]⟩,⟨some 21,
 none,.bslc 9 1 2 3 [i6 0] [(0,1),(1,1)],[.c (i6 1),.c (i6 1)]⟩,⟨some 22,none,.bslc 10 1 2 62 [.nl] [(0,1),(1,1)],[.t 20,.t 21]⟩,⟨some 23,none,.build [.str [],.nl,
 .nl,.nl] [(0,1),(1,1),(2,1),(3,1)],[.c (.str [73]),.t 8,.t 19,.t 22]⟩,⟨some 5,none,.alloc 11 26 [.str [],.nl,.nl,.nl],[]⟩,ST 4 5 23]).seq ((C.ops [⟨some 24,
 none,.bslc 12 1 1 9 [.str []] [(0,1)],[.c (.str [101,115,116])]⟩,⟨some 25,none,.bslc 13 1 1 3 [i6 0] [(0,1)],[.c (i6 0)]⟩,⟨some 26,none,.build [.nl,.nl] [(0,1),(1,
 1)],[.t 24,.t 25]⟩,⟨some 27,none,.bslc 14 1 1 9 [.str []] [(0,1)],[.c (.str [101,114,97,116])]⟩,⟨some 28,none,.bslc 15 1 1 3 [i6 0] [(0,1)],[.c (i6 1)]⟩,⟨some 29,
 none,.build [.nl,.nl] [(0,1),(1,1)],[.t 27,.t 28]⟩,⟨some 30,none,.bslc 16 2 2 89 [.nl,.nl] [(0,2),(2,2)],[.t 26,.t 29]⟩,⟨some 31,none,.build [i6 0,i6 0,.nl]
 [(0,1),(1,1),(2,1)],[.c (i6 1),.c (i6 2),.t 30]⟩,⟨some 32,none,.bslc 17 3 1 83 [i6 0,i6 0,.nl] [(0,3)],[.t 31]⟩,MV 6 32]).seq ((C.ops [⟨some 33,none,.build [i6 0,
 .str [],i6 0,.str []] [(0,1),(1,1),(2,1)],[.c (i6 1),.c (.str [66]),.c (i6 1)]⟩,⟨some 34,none,.bslc 18 4 1 119 [i6 0,.str [],i6 0,.str []] [(0,4)],[.t 33]⟩,MV 7
 34]).seq ((C.ops [O1 35 (.load (some 4)) 5,MV 36 6,MV 37 7,⟨some 38,none,.build [.str [],i6 0,i6 0,i6 0,.bool false,.bool false,.str []] [(0,1),(2,1),(3,1)],[.c
 (.str [100,101,117,115]),.c (i6 (-1)),.c (i6 (-1))]⟩,⟨some 39,none,.build [.str [],i6 0,i6 0,i6 0,.bool false,.bool false,.str []] [(0,1),(1,1)],[.c (.str [101,
 114,97,116]),.c (i6 1)]⟩,⟨some 40,none,.bslc 19 7 2 64 [.str [],i6 0,i6 0,i6 0,.bool false,.bool false,.str []] [(0,7),(7,7)],[.t 38,.t 39]⟩,ST 4 0 35,MV 1 36,
 MV 2 37,MV 3 40]).seq
 C.ret))))))
theorem qxQ:qI Tryz.prog 80 41 20 [RV.cell 0 (some 4),RV.tmp 1,RV.tmp 2,RV.tmp 3] qyW:=fi Tryz.f80 [0,1,2,3,8,13,18,19,20,21,22,5,24,25,27,28,30,32,34,40] zm []
def qs9:C:=
 ((C.ops [⟨some 2,none,.alloc 0 124 [.str [],.str [],.str [],i6 0,i6 0,.str []],[]⟩]).seq ((C.ops [MV 3 0,MV 4 0,⟨some 5,none,.build [.str [],.str [],.str [],i6 0,i6
 0,.str []] [(0,1),(1,1)],[.t 3,.t 4]⟩,ST 6 2 5]).seq
 C.ret))
theorem qus:qI Tryz.prog 151 6 1 [RV.cell 2 (some 6)] qs9:=fi Tryz.f151 [2] zm []
end
section
open Go Go.Proofs AF HY LN
namespace RC
theorem qkr(b:List Wd)(k:Int): ∀n,(owG b k n).length≤n:=by
 intro n
 induction n with
 |zero=>exact nlr _
 |succ n ih=>
  unfold owG;rw[lap];split
  ·simp only[lco,lnl];omega
  ·simp only[lnl];omega
theorem qyh(b:List Wd)(k:Int)(h:List AObj)(hn:b.length≤1000000):ACalls Tryz.prog 176 [qZ b,.int .i64 k] h (strs (owG b k b.length)) h:=by
 refine acO qux ?_;simp (disch:=omega) only[qte,qZ,go_sem];have eM:qQ [AV.str []] 0=zZ (owG b k 0):=rfl;rw[eM];refine qn (T:=fun s:Nat×Nat×AObj=>qM 30 [(0,qZ b),(1,.int .i64 k),(5,.osl (h.length+1) s.2.1 1 0 (owG b k s.1).length),(6,.int .i64 s.1)])
  (H:=fun s=>h++ [.emp 1,.mem s.2.1 9 (zZ (owG b k s.1)),s.2.2,.emp 0])
  (inv:=fun s=>s.1≤b.length∧qP [s.2.2] 0=true) (m:=fun s=>b.length-s.1) (0,1,.emp 0) ⟨nzl _,rfl⟩ (Wk.temps ?_) ?_
 ·(simp only[qZ,owG,go_sem,qh,qe,qb,qg];try (repeat' first|(with_reducible apply aiA)|(apply qf;omega)|(apply qd;rfl)|exact qi))
 rintro⟨i,v,O2⟩ ⟨i1,i3⟩ K hK;simp only at i1 i3 hK;have i3': ∀m,qP (O2::m) 0=true:=fun _=>i3
 have hol:=qkr b k i
 by_cases hi:i<b.length
 ·have k1:((i:Int)<b.length)=True:=eqt om;have k2:(0≤(i:Int))=True:=eqt om;have hS:owG b k (i+1)=owG b k i++if (b.getD i default).unit=k then [(b.getD i default).text] else []:=rfl
  obtain⟨L,hL⟩: ∃L,L=owG b k i:=⟨_,rfl⟩
  rw[←hL]at hS hol ⊢;obtain⟨w,hw⟩: ∃w,w=b.getD i default:=⟨_,rfl⟩
  have ew:=hw.symm;rw[ew]at hS;have eC:=zO L;have eTk:List.take L.length (zZ L)=zZ L:=ltl om
  by_cases g:w.unit=k
  ·have q1:(w.unit=k)=True:=eqt g;rw[ipo g]at hS;simp (disch:=omega) only[qZ,wdC,k1,k2,ew,i3',q1,eC,eTk,Nat.mul_one,go_sem]
   repeat' first
    |with_reducible apply aiA
   all_goals try exact clz
   have eA:zZ L++ [AV.str w.text]=zZ (L++ [w.text]):=by simp[zZ]
   have eD:(AV.str w.text::List.drop 1 (qQ [AV.str []] 1))= [AV.str w.text]:=rfl;rw[eA,eD];refine hK _ _ (i+1,v+1,.mem (qr (some O2)+1) 9 [.str w.text]) ⟨hi,rfl⟩ (by simp only;omega) ?_;simp only[hS,lap,lco,lnl];refine Wk.temps ?_
   (simp only[qZ,wdC,go_sem,qh,qe,qb,qg];try (repeat' first|(with_reducible apply aiA)|(apply qf;omega)|(apply qd;rfl)|exact qi))
  ·have q1:(w.unit=k)=False:=eqf g;rw[ine g,lan]at hS;simp (disch:=omega) only[qZ,wdC,k1,k2,ew,i3',q1,go_sem];refine hK _ _ (i+1,v,O2) ⟨hi,i3⟩ (by simp only;omega) ?_;simp only[hS];refine Wk.temps ?_
   (simp only[qZ,wdC,go_sem,qh,qe,qb,qg];try (repeat' first|(with_reducible apply aiA)|(apply qf;omega)|(apply qd;rfl)|exact qi))
 have k1:((i:Int)<b.length)=False:=eqf om;obtain rfl:i=b.length:=by omega
 simp (disch:=omega) only[qZ,k1,go_sem]
 repeat' first
  |(apply qa;exact rvk;simp only[go_sem])
 rw[ipo (by rw[zO];exact nlr _)];exact qaN _ (fun _=>rfl) rfl
end RC
end
section
open Go Go.Proofs AF
def qrd:List Nat:= []
def qs3:C:=
 ((C.ops [MC 6 (i6 0)]).seq ((C.ops [⟨some 7,none,.alloc 0 22 [.nl],[]⟩]).seq (((C.wk.seq (C.ops [MV 10 1,MV 11 2,O2 12 (.call 108 true) 10 11])).seq (C.block 0 (C.range (.t
 12) [13,14] (C.ops [⟨some 9,none,.alloc 1 64 [.str [],i6 0,i6 0,i6 0,.bool false,.bool false,.str []],[]⟩,ST 7 9 14]) (C.block 1 (C.ops [LD 15 7,O1 16 (.fldA 0) 9,LD
 17 16,⟨some 18,none,.bslc 2 1 1 9 [.str []] [(0,1)],[.t 17]⟩,O2 19 (.app 3 1 9 16) 15 18,ST 1 7 19]))))).seq ((C.wk.seq (C.ops [MV 20 0,MV 21 2,O2 22 (.idxA 3) 20 21,O1
 23 (.fldA 2) 22,LD 24 23,O1 25 (.mkfn (Fn.func 172) 0) 7,O2 26 (.call 127 true) 24 25,MV 6 26])).seq
 C.ret))))
theorem qul:qI Tryz.prog 107 27 4 [RV.tmp 6] qs3:=fi Tryz.f107 [7,9,18,19] qrd [2,5]
end
section
open Go Go.Proofs AF
def qre:List Nat:= [156]
def qtO:C:=
 ((C.ops [O1 4 (.box 0 26) 0,ON 8 (.nilo 1 1 3) []]).seq ((C.ops [MV 13 2,MV 14 3,O2 15 (.idxA 7) 13 14,O1 16 (.fldA 2) 15,LD 17 16,MV 9 17]).seq (((C.ops [MV 18 9,BC 19 .lss
 18 (i6 0)]).seq (C.cond (.t 19) ((C.ops [ON 10 (.nilo 2 1 3) []]).seq (((C.ops [O1 20 (.fldA 1) 4,LD 21 20,O1 22 .len 21,MC 23 (i6 0)]).seq (C.block 0 ((C.ops [BI 24 .lss 23
 22]).seq ((C.cond (.t 24) C.skip (C.exit 0)).seq ((C.block 1 ((C.ops [MV 25 23,MV 11 25]).seq (C.ops [MV 26 10,MV 27 11,⟨some 28,none,.bslc 3 1 1 3 [i6 0] [(0,1)],[.t 27]⟩,
 O2 29 (.app 4 1 3 8) 26 28,MV 10 29]))).seq (C.ops [BC 30 .add 23 (i6 1),MV 23 30])))).loop)).seq ((C.ops [MV 31 10,MV 8 31]).seq C.ret))) C.skip)).seq (((C.ops [MV 32 1,MV 33
 2,MV 34 9,ON 35 (.call 107 true) [.t 32,.t 33,.t 34],MV 12 35]).seq ((C.ops [MV 36 12,BC 37 .geq 36 (i6 0)]).seq (C.cond (.t 37) ((C.ops [MV 38 1,MV 39 9,O2 40 (.idxA 3) 38
 39,O1 41 (.fldA 2) 40,LD 42 41,MV 43 12,O2 44 (.idxA 2) 42 43,O1 45 (.fldA 1) 44,LD 46 45,O1 47 (.call 156 false) 46,MV 8 47]).seq C.ret) C.skip))).seq ((C.ops [ON 8 (.nilo
 1 1 3) []]).seq
 C.ret)))))
theorem qm7:qI Tryz.prog 84 48 5 [RV.tmp 8] qtO:=fi Tryz.f84 [4,8,10,28,29] qre []
end
section
open Go Go.Proofs AF HY LN
namespace RC
def wdX(b:List Wd)(k:Int)(n:Nat):List (List AV):=flG (inU b k) (fun i=> [.int .i64 (i:Int),.agg (wdC (b.getD i default))]) n
theorem qAj(b:List Wd)(k:Int)(h:List AObj):ACalls Tryz.prog 108 [qZ b,.int .i64 k] h (.fn (.func 173) [] [.ip [qZ b],.ip [.int .i64 k]]) h:=by
 refine acO qum ?_;simp (disch:=omega) only[qs4,qZ,go_sem]
 repeat' first
  |(apply qa;exact rvk;simp only[go_sem];exact qi)
theorem itW(b:List Wd)(k:Int)(hn:b.length≤1000000000):qsT Tryz.prog 173 [.ip [qZ b],.ip [.int .i64 k]] (wdX b k b.length):=by
 intro h ts LI S E hS hE body start hts;refine acQ quw ?_;simp (disch:=omega) only[qtd,qZ,go_sem]
 repeat' first
  |with_reducible apply aiA
 all_goals try exact clz
 obtain⟨p,hp⟩: ∃p,p=inU b k:=⟨_,rfl⟩
 obtain⟨g,hg⟩: ∃g:Nat→List AV,g=fun i=> [.int .i64 (i:Int),.agg (wdC (b.getD i default))]:=⟨_,rfl⟩
 have hX:wdX b k b.length=flG p g b.length:=by rw[hp,hg];rfl
 refine qn (T:=fun i:Nat×List AObj×AObj=>qM 25 [(0,.yld h.length),(2,.ip [.int .i64 k]),(6,qZ b),(7,.int .i64 b.length),(8,.int .i64 i.1)])
  (H:=fun i=>i.2.1++ [.lp .ready ts LI]++ [i.2.2])
  (inv:=fun i=>i.1≤b.length∧S (flG p g i.1).length i.2.1∧qP [i.2.2] 0=true) (m:=fun i=>b.length-i.1) (0,h,.emp 0) ⟨nzl _,start,rfl⟩ (Wk.temps ?_) ?_
 ·(simp only[qZ,go_sem,qh,qe,qb,qg];try (repeat' first|(with_reducible apply aiA)|(apply qf;omega)|(apply qd;rfl)|exact qi))
 rintro⟨i,hh,O⟩ ⟨i1,i2,i3⟩ K hK;simp only at i1 i2 i3 hK;obtain⟨hlen,hlow⟩:=hS _ _ i2;have hb:(h++ [AObj.lp LS.ready ts LI]).length=(hh++ [AObj.lp LS.ready ts LI]).length:=by simp[hlen]
 rw[hb];have i3': ∀m,qP (O::m) 0=true:=fun _=>i3
 by_cases hi:i<b.length
 ·have q0:((i:Int)<b.length)=True:=eqt om;have hst:flG p g (i+1)=flG p g i++if p i=true then [g i] else []:=rfl
  have hpi:p i=decide ((b.getD i default).unit=k):=by rw[hp];rfl
  have hgi:g i= [.int .i64 (i:Int),.agg (wdC (b.getD i default))]:=by rw[hg]
  have hat:=fun hpp=>qui (p:=p) (g:=g) (i:=i) hpp hi
  obtain⟨w,hw⟩: ∃w,w=b.getD i default:=⟨_,rfl⟩
  have ew:=hw.symm;rw[ew]at hpi hgi
  by_cases gz:w.unit=k
  ·have q1:(w.unit=k)=True:=eqt gz;rw[dqt gz]at hpi;rw[hpi,ipo rfl]at hst;obtain⟨hdl,hxx⟩:=hat hpi;rw[hgi]at hxx;have hdl':(flG p g i).length<(wdX b k b.length).length:=by rw[hX];exact hdl
   have hxx':(wdX b k b.length)[(flG p g i).length]= [.int .i64 (i:Int),.agg (wdC w)]:=by simp only[hX];exact hxx
   have hb':=fun O'=>body (flG p g i).length hh [O'] hdl' i2
   rw[hxx']at hb';have hlst:(flG p g (i+1)).length=(flG p g i).length+1:=by rw[hst];simp
   simp (disch:=omega) only[qZ,i3',q0,ew,wdC,q1,go_sem]
   repeat' first
    |with_reducible apply aiA
   all_goals try exact clz
   ·exact⟨.ready,ts,LI,by rw[List.append_assoc];exact ku hlen⟩
   ·rw[List.append_assoc];refine kp.mono ?_ (hb' _);rintro v h' ⟨hh',⟨rfl,hn,rfl⟩|⟨st,rfl,hs',rfl⟩⟩
    ·simp (disch:=omega) only[go_sem];refine hK _ _ (i+1,hh',.mem (qr (some O)+1) 64 (wdC w)) ⟨hi,by simp only;rw[hlst];exact hn,rfl⟩ (by simp only;omega) ?_;simp only[List.append_assoc];refine Wk.temps ?_
     (simp only[qZ,wdC,go_sem,qh,qe,qb,qg];try (repeat' first|(with_reducible apply aiA)|(apply qf;omega)|(apply qd;rfl)|exact qi))
    ·simp (disch:=omega) only[go_sem];obtain⟨r1,r2⟩:=(hE _ _ hs').ret (L:=LI) st hts;have eO: ∀O',hh'++AObj.lp st ts LI:: [O']=(hh'++ [AObj.lp st ts LI])++ [O']:=fun _=>by simp
     rw[eO];exact qeH trivial r1 r2 ⟨_,.inr ⟨st,hs',rfl⟩⟩ (qi)
  ·have q1:(w.unit=k)=False:=eqf gz;rw[dqf gz]at hpi;rw[hpi,ine (by simp),lan]at hst;simp (disch:=omega) only[qZ,i3',q0,ew,wdC,q1,go_sem]
   repeat' first
    |with_reducible apply aiA
   all_goals try exact clz
   refine hK _ _ (i+1,hh,.mem (qr (some O)+1) 64 (wdC w)) ⟨hi,by simp only;rw[hst];exact i2,rfl⟩ (by simp only;omega) ?_;simp only;refine Wk.temps ?_
   (simp only[qZ,wdC,go_sem,qh,qe,qb,qg];try (repeat' first|(with_reducible apply aiA)|(apply qf;omega)|(apply qd;rfl)|exact qi))
 ·have e:i=b.length:=by omega
  subst e;have q0:((b.length:Int)<b.length)=False:=eqf om;simp (disch:=omega) only[qZ,i3',q0,go_sem];obtain⟨r1,r2⟩:=(hS _ _ i2).ret (L:=LI) .ready hts;exact qm9 trivial r1 r2 ⟨hh,.inl ⟨by rw[hX];exact i2,rfl⟩⟩ (qi)
theorem qsr(b:List Wd)(k:Int): ∀n,n≤b.length→(wdX b k n).length=(owG b k n).length∧ ∀i (hi:i<(wdX b k n).length),∃(j:Nat) (w:Wd),(wdX b k n)[i]= [.int .i64 (j:Int),.agg (wdC w)]∧(owG b k n)[i]? =some w.text∧j<n∧w=b.getD j default:=by
 intro n hn;have hs:owG b k n=flG (inU b k) (fun i=>(b.getD i default).text) n:=by
  clear hn
  induction n with
  |zero=>rfl
  |succ n ih=>
   unfold owG flG;rw[ih];congr 1;unfold inU
   by_cases g:(b.getD n default).unit=k
   ·rw[ipo g,ipo (dqt g)]
   ·rw[ine g,ine (by simpa using g)]
 rw[hs];refine⟨qjv _ _ _ _,fun i hi=> ?_⟩;obtain⟨r,r1,r2,r3,r4⟩:=quj (p:=inU b k) (g:=fun i=>([.int .i64 (i:Int),.agg (wdC (b.getD i default))]:List AV)) (k:=fun i=>(b.getD i default).text) (n:=n) (i:=i) hi;exact⟨r,b.getD r default,r3,r4,r1,rfl⟩
def brK(l:List Un)(b:List Wd)(k:Nat):Int:=qbQ (fun r=>decide (((l.getD k default).rds.getD r default).words=owG b (k:Int) b.length)) (l.getD k default).rds.length 0
theorem qzP(r:Rd)(own:List Str)(h:List AObj)(h1:r.words.length≤1000000000)(h2:own.length≤1000000000):ACalls Tryz.prog 172 [.agg (rdC r),.ip [strs own]] h (.bool (decide (r.words=own))) h:=by
 have c1:=fun h=>qxD r.words own h h1 h2
 unfold strs at c1;refine acO quv ?_;simp (disch:=omega) only[qtc,rdC,strs,go_sem]
 repeat' first
  |(refine cA (c1 _) flk ?_;simp (disch:=omega) only[go_sem])
  |(apply qa;exact rvk;simp only[go_sem];exact qi)
  |with_reducible apply aiA
 all_goals try exact clz
theorem qx3(L:List Rd)(own:List Str)(k v:Nat)(h:List AObj)(hk:getO k h=some (.mem v 22 [strs own]))(hl:L.length≤1000000000)(hw: ∀j,(L.getD j default).words.length≤1000000000)(ho:own.length≤1000000000):
  ACalls Tryz.prog 127 [zL L,.fn (.func 172) [] [.op k v 0]] h (.int .i64 (qbQ (fun r=>decide ((L.getD r default).words=own)) L.length 0)) h:=by
 have hc:=qS hk;unfold zL;refine qeJ qo1 L.length (fun j=>rdC (L.getD j default)) (fun j=> .agg (rdC (L.getD j default))) _ [] [.op k v 0] _ h (fun i _=>⟨rfl,by simp[jE,rdC],rfl,rfl,rfl⟩) (fun i _=> ?_) om;refine ACalls.borrow ?_ rfl;have e:([AV.agg (rdC (L.getD i default))]++ [AV.op k v 0]).map (rei (fun _=>true) h 8)= [.agg (rdC (L.getD i default)),.ip [strs own]]:=by
  simp only[lca,lna,List.map_cons,List.map_nil,rei_op,if_true,hc,ipOf_some,List.drop_zero,rei_agg];rfl
 rw[lna,e];exact qzP _ own _ (hw i) ho
theorem qrq(w:Wd)(n v:Nat)(ty:TypeId):qao n (.mem v ty (wdC w)):=by
 intro c hc;simp only[wdC,List.mem_cons,List.not_mem_nil,or_false]at hc;rcases hc with rfl|rfl|rfl|rfl|rfl|rfl|rfl<;>rfl
theorem qnt(s:Str)(n v:Nat)(ty:TypeId):qao n (.mem v ty [.str s]):=by
 intro c hc;rw[List.mem_singleton]at hc;rw[hc];rfl
theorem qvV(l:List Un)(b:List Wd)(k:Nat)(h:List AObj)(hu:qeo l)(hb:b.length≤1000000)(hk:k<l.length):ACalls Tryz.prog 107 [qz l,qZ b,.int .i64 (k:Int)] h (.int .i64 (brK l b k)) h:=by
 have c108:=fun h=>qAj b (k:Int) h
 have hol:=qkr b (k:Int) b.length;obtain⟨hxl,hxg⟩:=qsr b (k:Int) b.length (nlr _);have hbr:brK l b k=qbQ (fun r=>decide (((l.getD k default).rds.getD r default).words=owG b (k:Int) b.length)) (l.getD k default).rds.length 0:=rfl;obtain⟨W,hW⟩: ∃W,W=owG b (k:Int) b.length:=⟨_,rfl⟩
 rw[←hW]at hxl hol;simp only[←hW]at hxg hbr;have zu:qz l= .sl l.length fun i=>unC (l.getD i default):=rfl
 refine acO qul ?_;simp (disch:=omega) only[qs3,go_sem];refine⟨_,_,Wk.ownNil (j:=h.length) (i:=0) (k:=h.length+3) (v:=1) (ty:=22) (cs:= [.nl]) (ve:=0) (sz:=1) ?m1 rfl ?m2,?_⟩
 case m1=>simp only[go_sem]
 case m2=>simp only[go_sem]
 simp (disch:=omega) only[List.set_cons_zero,go_sem]
 repeat' first
  |(refine cA (c108 _) flk ?_;simp (disch:=omega) only[go_sem])
 refine qbY (xs:=wdX b (k:Int) b.length) (itW b (k:Int) om) ?e0
  (S:=fun i hh=> ∃w O1 O2,qP [O1] 0=true∧qP [O2] 0=true∧(∀n,qao n O1)∧(∀n,qao n O2)∧hh=h++ [.mem 1 22 [.osl (h.length+3) w 1 0 i],O1,O2,kx w 9 (zZ (W.take i))])
  (E:=fun _ _=>False) ?e1 (fun _ _ h=>h.elim) ?e2 ?e3 ?e4 ?e5 (fun _ _ h=>h.elim)
 case e0=>
  intro x hx;obtain⟨i,hi,e⟩:=List.getElem_of_mem hx;obtain⟨j,w,e2,_⟩:=hxg i hi;rw[←e,e2];rfl
 case e1=>
  rintro i hh ⟨w,O1,O2,_,_,l1,l2,rfl⟩;refine LowI.app rfl (fun o ho=> ?_);simp only[List.mem_cons,List.not_mem_nil,or_false]at ho;rcases ho with rfl|rfl|rfl|rfl
  ·right;constructor<;>(intro c hc;simp only[List.mem_cons,List.not_mem_nil,or_false]at hc;rcases hc with rfl;simp[jb])
  ·right;exact⟨l1 _,l1 _⟩
  ·right;exact⟨l2 _,l2 _⟩
  ·right;exact⟨qfO (qf5 _ _),qfO (qf5 _ _)⟩
 case e2=>exact⟨0,.emp 0,.emp 0,rfl,rfl,fun _=>trivial,fun _=>trivial,rfl⟩
 case e3=>
  have lu: ∀n,jb n (qz l)=true:=fun _=>rfl
  have lw: ∀n,jb n (qZ b)=true:=fun _=>rfl
  simp[jb,jb.lowVs,lu,lw]
  try omega
 case e4=>
  rintro i hh tl LI TS hi ⟨w,O1,O2,p1,p2,l1,l2,rfl⟩ hlen K4 K5 hK4 hN hR' hX;obtain⟨j,wd,e2,e3,_,_⟩:=hxg i hi;rw[e2];rw[hxl]at hi;have p1': ∀m,qP (O1::m) 0=true:=fun _=>p1
  have p2': ∀m,qP (O2::m) 0=true:=fun _=>p2
  have hTk:W.take (i+1)=W.take i++ [wd.text]:=by rw[List.take_add_one,e3];rfl
  have hTl:(W.take i).length=i:=by rw[List.length_take];omega
  have eVl:=zO (W.take i);rw[hTl]at eVl;have eVk:List.take i (zZ (W.take i))=zZ (W.take i):=ltl om;have eVn:zZ (W.take (i+1))=zZ (W.take i)++ [.str wd.text]:=by rw[hTk,qbD];rfl
  simp only[qb0];simp (disch:=omega) only[List.append_assoc,wdC,p1',go_sem];refine hK4 _ _ (h++ [.mem 1 22 [.osl (h.length+3) w 1 0 i],.mem (qr (some O1)+1) 64 (wdC wd),O2,kx w 9 (zZ (W.take i))]) (by simp[wdC]) (by simp) ?_;simp (disch:=omega) only[List.append_assoc,wdC,p2',eVl,eVk,Nat.mul_one,go_sem]
  repeat' first
   |with_reducible apply aiA
  all_goals try exact clz
  refine hN _ _ (h++ [.mem 1 22 [.osl (h.length+3) (w+1) 1 0 (i+1)],.mem (qr (some O1)+1) 64 (wdC wd),.mem (qr (some O2)+1) 9 [.str wd.text],kx (w+1) 9 (zZ (W.take (i+1)))]) (by rw[eVn,List.append_assoc];rfl) (by simp)
   ⟨w+1,_,_,rfl,rfl,fun n=>qrq _ _ _ _,fun n=>qnt _ _ _ _,rfl⟩
 case e5=>
  rintro hh ⟨w,O1,O2,p1,p2,l1,l2,rfl⟩;rw[hxl,List.take_length];simp (disch:=omega) only[go_sem];refine⟨_,_,Wk.fzCell (j:=h.length) (k:=h.length+3) (i:=0) (v:=1) (ty:=22) (cs:= [.osl (h.length+3) w 1 0 W.length]) (c:= .osl (h.length+3) w 1 0 W.length) (c':=strs W) ?n1 rfl ?n2 om ?n3,?_⟩
  case n1=>simp only[go_sem]
  case n2=>simp only[go_sem]
  case n3=>
   rw[qne,getO_app];exact qf3 (fun _=>rfl) rfl
  have c127:=fun H hk=>qx3 (l.getD k default).rds W h.length 1 H hk (hu.rd k) (hu.wd k) om
  rw[←hbr]at c127;have k1:((k:Int)<l.length)=True:=eqt om;have k0:(0≤(k:Int))=True:=eqt om;obtain⟨u,hux⟩: ∃u,u=l.getD k default:=⟨_,rfl⟩
  have eu:=hux.symm;simp only[eu]at c127;simp (disch:=omega) only[List.set_cons_zero,zu,unC,k0,k1,eu,go_sem]
  repeat' first
   |with_reducible apply aiA
  all_goals try exact clz
  refine cA (c127 _ ?ka) (by exact flk) ?_
  case ka=>simp only[go_sem]
  simp (disch:=omega) only[go_sem]
  repeat' first
   |(apply qa;exact rvk;simp only[go_sem];exact qi)
theorem qy6(s:Str)(h:List AObj)(hs:s.length≤1000000000):ACalls Tryz.prog 259 [.str s] h (.bool (ql8 s)) h:=by
 have c1:=fun h=>t53 s h hs
 unfold ql8
 by_cases g:s= []
 ·subst g;rw[dqt rfl,Bool.true_or];refine acO qo9 ?_;simp (disch:=omega) only[qp5,go_sem]
  repeat' first
   |(refine qj ( .bool false) ?_;simp (disch:=omega) only[go_sem])
   |(apply qc;exact rvk;simp only[go_sem];exact qi)
 ·have k1:(s= [])=False:=eqf g;rw[dqf g,Bool.false_or];refine acO qo9 ?_;simp (disch:=omega) only[qp5,k1,go_sem]
  repeat' first
   |(refine cG (fun e=>c1 _) flk ?_;simp (disch:=omega) only[go_sem])
   |(apply qc;exact rvk;simp only[go_sem];exact qi)
theorem qri(c:UInt8):qeK c=(decide (kind c=1)||(decide (kind c=2)||(decide (kind c=3)||decide (kind c=4)))):=by
 unfold qeK;cases decide (kind c=1)<;>cases decide (kind c=2)<;>cases decide (kind c=3)<;>rfl
theorem qAe(c:UInt8)(h:List AObj):ACalls Tryz.prog 258 [.int .u8 (c.toNat:Int)] h (.bool (qeK c)) h:=by
 have c5:=fun h=>qb1 c h
 rw[qri];obtain⟨k,hk⟩: ∃k,k=kind c:=⟨_,rfl⟩
 rw[←hk]at c5 ⊢
 by_cases g1:k=1
 ·have q1:(k=1)=True:=eqt g1;rw[dqt g1,Bool.true_or];refine acO qfF ?_;simp (disch:=omega) only[qiP,go_sem]
  repeat' first
   |(refine cA (c5 _) flk ?_;simp (disch:=omega) only[q1,go_sem])
   |(apply qc;exact rvk;simp only[go_sem];exact qi)
 have q1:(k=1)=False:=eqf g1;rw[dqf g1,Bool.false_or]
 by_cases g2:k=2
 ·have q2:(k=2)=True:=eqt g2;rw[dqt g2,Bool.true_or];refine acO qfF ?_;simp (disch:=omega) only[qiP,go_sem]
  repeat' first
   |(refine cA (c5 _) flk ?_;simp (disch:=omega) only[q1,q2,go_sem])
   |(apply qc;exact rvk;simp only[go_sem];exact qi)
 have q2:(k=2)=False:=eqf g2;rw[dqf g2,Bool.false_or]
 by_cases g3:k=3
 ·have q3:(k=3)=True:=eqt g3;rw[dqt g3,Bool.true_or];refine acO qfF ?_;simp (disch:=omega) only[qiP,go_sem]
  repeat' first
   |(refine cA (c5 _) flk ?_;simp (disch:=omega) only[q1,q2,q3,go_sem])
   |(apply qc;exact rvk;simp only[go_sem];exact qi)
 have q3:(k=3)=False:=eqf g3;rw[dqf g3,Bool.false_or];refine acO qfF ?_;simp (disch:=omega) only[qiP,go_sem]
 repeat' first
  |(refine cA (c5 _) flk ?_;simp (disch:=omega) only[q1,q2,q3,go_sem])
  |(apply qc;exact rvk;simp only[go_sem];exact qi)
theorem qxx: ∀f:Nat,f<32→decide ((f:Int)/2%2=1)=f.testBit 1:=by decide+kernel
theorem qxy: ∀f:Nat,f<32→decide ((f:Int)/8%2=1)=f.testBit 3:=by decide+kernel
theorem tkR(t:Tk)(h:List AObj)(hz:qoJ t)(hp:ky SG h):ACalls Tryz.prog 211 [.agg (tkC t)] h (.int .i64 (tkE t)) h:=by
 obtain⟨R,hR⟩: ∃R,R=tkE t:=⟨_,rfl⟩
 rw[←hR];unfold tkE at hR
 by_cases g1:t.flags<0
 ·have k1:(t.flags<0)=True:=eqt g1;rw[ipo (.inl g1)]at hR;rw[hR];refine acO zq ?_;simp (disch:=omega) only[jp,tkC,go_sem]
  repeat' first
   |(apply qa;exact rvk;simp only[go_sem];exact qi)
   |with_reducible first|intro _|apply aiA
  all_goals try exact clz
 have k1:(t.flags<0)=False:=eqf g1
 by_cases g2:31<t.flags
 ·have k2:((31:Int)<t.flags)=True:=eqt g2;rw[ipo (.inr g2)]at hR;rw[hR];refine acO zq ?_;simp (disch:=omega) only[jp,tkC,go_sem]
  repeat' first
   |(apply qa;exact rvk;simp only[go_sem];exact qi)
   |with_reducible first|intro _|apply aiA
  all_goals try exact clz
 have k2:((31:Int)<t.flags)=False:=eqf g2;rw[ine om]at hR;obtain⟨f,hf⟩: ∃f:Nat,t.flags=(f:Int):=⟨t.flags.toNat,om⟩
 have hf2:f<32:=by omega
 have eg:qni t.flags=f.testBit 1:=by unfold qni;rw[hf,itn]
 have ek:mkB t.flags=f.testBit 3:=by unfold mkB;rw[hf,itn]
 have dA:=fun h=>qy3 t.text t.norm t.page t.line t.flags 2 t.name h om om (by decide)
 have dB:=fun h=>qy3 t.text t.norm t.page t.line t.flags 8 t.name h om om (by decide)
 have cP:=fun l=>qy6 t.page (h++l) hz.pg
 have cM:=fun l=>qy6 t.name (h++l) hz.na
 have hG:=fun l=>qzA t.text (h++l) hz.tx (hp.app l)
 have cW:=fun l=>t93 t.text (h++l) hz.tx
 have cK:=fun h=>qb1 (ch t.text 0) h
 have e0:(t.text[0]?).getD 0=ch t.text 0:=by simp[ch,gdqA]
 unfold txB at hR;rw[eg,ek]at hR;rw[hf]at dA dB k1 k2;rw[qxx f hf2]at dA;rw[qxy f hf2]at dB;obtain⟨bp,hbp⟩: ∃b,b=ql8 t.page:=⟨_,rfl⟩
 obtain⟨bm,hbm⟩: ∃b,b=ql8 t.name:=⟨_,rfl⟩
 obtain⟨bg,hbg⟩: ∃b,b=qek t.text:=⟨_,rfl⟩
 obtain⟨bw,hbw⟩: ∃b,b=kT t.text:=⟨_,rfl⟩
 rw[←hbp,←hbm,←hbg,←hbw]at hR;simp only[←hbp]at cP;simp only[←hbm]at cM;simp only[←hbg]at hG;simp only[←hbw]at cW;have eM:qvF t.text=(decide (t.text.length=1)&&(decide (kind (ch t.text 0)=5)||decide (kind (ch t.text 0)=4))):=rfl;have eN:qsL t.norm=(decide (t.norm≠ [])&&(decide (t.norm.length≤64)&&(List.range t.norm.length).all fun i=>qeK (ch t.norm i))):=rfl;rw[eM,eN]at hR;obtain⟨kd,hkd⟩: ∃kd,kd=kind (ch t.text 0):=⟨_,rfl⟩
 rw[←hkd]at hR cK;have q2:(t.text.length=1)=True→((0:Int)<t.text.length)=True:=fun e=>eqt (by have:=of_eq_true e;omega)
 cases ga:f.testBit 1<;>cases gb:f.testBit 3<;>rw[ga]at hR dA<;>rw[gb]at hR dB<;>simp only[Bool.false_eq_true,if_true,if_false,and_true,and_false,and_self]at hR
 ·cases bw with
  |false=>
   rw[Bool.false_and,ipo rfl]at hR;rw[hR];refine acO zq ?_;simp (disch:=omega) only[jp,tkC,hf,k1,k2,go_sem]
   repeat' first
    |((first|refine cA (dA _) ?_ ?_|refine cA (dB _) ?_ ?_|refine cA (cW _) ?_ ?_);exact flk;simp (disch:=omega) only[go_sem])
    |(apply qa;exact rvk;simp only[go_sem];exact qi)
  |true=>
  rw[Bool.true_and]at hR
  by_cases g5:t.norm= []
  ·have k5:(t.norm= [])=True:=eqt g5;rw[dqf (fun hc=>hc g5),Bool.false_and,ipo rfl]at hR;rw[hR];refine acO zq ?_;simp (disch:=omega) only[jp,tkC,hf,k1,k2,go_sem]
   repeat' first
    |((first|refine cA (dA _) ?_ ?_|refine cA (dB _) ?_ ?_|refine cA (cW _) ?_ ?_);exact flk;simp (disch:=omega) only[k5,go_sem])
    |(apply qa;exact rvk;simp only[go_sem];exact qi)
  have k5:(t.norm= [])=False:=eqf g5;rw[dqt g5,Bool.true_and]at hR
  by_cases g6:t.norm.length≤64
  case neg=>
   have k6:((64:Int)<t.norm.length)=True:=eqt om;rw[dqf g6,Bool.false_and,ipo rfl]at hR;rw[hR];refine acO zq ?_;simp (disch:=omega) only[jp,tkC,hf,k1,k2,go_sem]
   repeat' first
    |((first|refine cA (dA _) ?_ ?_|refine cA (dB _) ?_ ?_|refine cA (cW _) ?_ ?_);exact flk;simp (disch:=omega) only[k5,k6,go_sem])
    |(apply qa;exact rvk;simp only[go_sem];exact qi)
  have k6:((64:Int)<t.norm.length)=False:=eqf om;rw[dqt g6,Bool.true_and]at hR;refine acO zq ?_;simp (disch:=omega) only[jp,tkC,hf,k1,k2,go_sem]
  repeat' first
   |((first|refine cA (dA _) ?_ ?_|refine cA (dB _) ?_ ?_|refine cA (cW _) ?_ ?_);exact flk;simp (disch:=omega) only[k5,k6,go_sem])
  refine qn (T:=fun i:Nat=>qM 105 [(1,.op h.length 1 0),(5,.int .i64 i)]) (H:=fun _=>h++ [.mem 1 124 [.str t.text,.str t.norm,.str t.page,.int .i64 t.line,.int .i64 (f:Int),.str t.name]]) (inv:=fun i=>i≤t.norm.length∧ ∀j,j<i→qeK (ch t.norm j)=true) (m:=fun i=>t.norm.length-i) 0 ⟨nzl _,fun j hj=>absurd hj (nnz j)⟩ (Wk.temps ?_) ?_
  ·(simp only[go_sem,qh,qe,qb,qg];try (repeat' first|(with_reducible apply aiA)|(apply qf;omega)|(apply qd;rfl)|exact qi))
  rintro i ⟨i1,i2⟩ K hK
  by_cases hi:i<t.norm.length
  ·have r1:((i:Int)<t.norm.length)=True:=eqt om;have r0:(0≤(i:Int))=True:=eqt om;have ei:(t.norm[i]?).getD 0=ch t.norm i:=by unfold ch;exact (gdqA).symm
   have cV:=fun h=>qAe (ch t.norm i) h
   cases gi:qeK (ch t.norm i)with
   |false=>
    rw[gi]at cV;have hall:((List.range t.norm.length).all fun i=>qeK (ch t.norm i))=false:=by
     rw[List.all_eq_false];exact⟨i,by simpa using hi,by rw[gi];simp⟩
    rw[hall,ipo rfl]at hR;rw[hR];simp (disch:=omega) only[r0,r1,ei,go_sem]
    repeat' first
     |(refine cA (cV _) flk ?_;simp (disch:=omega) only[go_sem])
     |(apply qa;exact rvk;simp only[go_sem];exact qi)
   |true=>
    rw[gi]at cV;simp (disch:=omega) only[r0,r1,ei,go_sem]
    repeat' first
     |(refine cA (cV _) flk ?_;simp (disch:=omega) only[go_sem])
    refine hK _ _ (i+1) ⟨hi,fun j hj=> ?_⟩ om (Wk.temps ?_)
    ·by_cases e:j=i
     ·subst e;exact gi
     ·exact i2 j om
    ·(simp only[go_sem,qh,qe,qb,qg];try (repeat' first|(with_reducible apply aiA)|(apply qf;omega)|(apply qd;rfl)|exact qi))
  have r1:((i:Int)<t.norm.length)=False:=eqf om;have hall:((List.range t.norm.length).all fun i=>qeK (ch t.norm i))=true:=by
   rw[List.all_eq_true];exact fun j hj=>i2 j (by have:=List.mem_range.1 hj;omega)
  rw[hall,ine (by simp)]at hR;clear hK
  by_cases g4:t.line<0
  ·have k4:(t.line<0)=True:=eqt g4;rw[ipo g4]at hR;rw[hR];simp (disch:=omega) only[r1,k4,go_sem]
   repeat' first
    |(apply qa;exact rvk;simp only[go_sem];exact qi)
  have k4:(t.line<0)=False:=eqf g4;rw[ine g4]at hR;cases bp with
  |false=>
   rw[ipo (.inl rfl)]at hR;rw[hR];simp (disch:=omega) only[r1,k4,go_sem]
   repeat' first
    |(refine qj ( .bool false) ?_;simp (disch:=omega) only[go_sem])
    |(refine cA (cP _) flk ?_;simp (disch:=omega) only[go_sem])
    |(apply qa;exact rvk;simp only[go_sem];exact qi)
  |true=>
  cases bm with
  |false=>
   rw[ipo (.inr rfl)]at hR;rw[hR];simp (disch:=omega) only[r1,k4,go_sem]
   repeat' first
    |((first|refine cA (cP _) ?_ ?_|refine cG (fun e=>cM _) ?_ ?_);exact flk;simp (disch:=omega) only[go_sem])
    |(apply qa;exact rvk;simp only[go_sem];exact qi)
    |with_reducible apply aiA
   all_goals try exact clz
  |true=>
  rw[ine (by simp)]at hR;rw[hR];simp (disch:=omega) only[r1,k4,go_sem]
  repeat' first
   |((first|refine cA (cP _) ?_ ?_|refine cG (fun e=>cM _) ?_ ?_);exact flk;simp (disch:=omega) only[go_sem])
   |(apply qa;exact rvk;simp only[go_sem];exact qi)
   |with_reducible apply aiA
  all_goals try exact clz
 ·by_cases g5:t.text.length=1
  case neg=>
   have k5:((t.text.length:Int)=1)=False:=eqf om;rw[dqf g5,Bool.false_and,Bool.false_and,ipo rfl]at hR;rw[hR];refine acO zq ?_;simp (disch:=omega) only[jp,tkC,hf,k1,k2,go_sem]
   repeat' first
    |(refine qj ( .int .i64 0) ?_;simp (disch:=omega) only[go_sem])
    |((first|refine cA (dA _) ?_ ?_|refine cA (dB _) ?_ ?_);exact flk;simp (disch:=omega) only[k5,go_sem])
    |(apply qa;exact rvk;simp only[go_sem];exact qi)
    |with_reducible first|intro _|apply aiA
   all_goals try exact clz
  have k5:((t.text.length:Int)=1)=True:=eqt om;have k6:((0:Int)<t.text.length)=True:=eqt om;rw[dqt g5,Bool.true_and]at hR
  by_cases g50:kd=5
  ·have k50:(kd=5)=True:=eqt g50;rw[dqt g50,Bool.true_or,Bool.true_and]at hR
   by_cases g7:t.norm=t.text
   case neg=>
    have k7:(t.norm=t.text)=False:=eqf g7;rw[dqf g7,ipo rfl]at hR;rw[hR];refine acO zq ?_;simp (disch:=omega) only[jp,tkC,hf,k1,k2,false_imp_iff,true_imp_iff,go_sem]
    repeat' first
     |(refine qj ( .int .i64 0) ?_;simp (disch:=omega) only[false_and,false_imp_iff,true_imp_iff,k7,go_sem])
     |((first|refine cA (dA _) ?_ ?_|refine cA (dB _) ?_ ?_|refine cG (fun e=>cK _) ?_ ?_);exact flk;simp (disch:=omega) only[k5,k6,e0,Int.toNat_zero,k50,false_and,false_imp_iff,true_imp_iff,go_sem])
     |(apply qa;exact rvk;simp only[go_sem];exact qi)
     |with_reducible first|intro _|apply aiA
    all_goals try exact clz
   have k7:(t.norm=t.text)=True:=eqt g7;rw[dqt g7,ine (by simp)]at hR
   by_cases g4:t.line<0
   ·have k4:(t.line<0)=True:=eqt g4;rw[ipo g4]at hR;rw[hR];refine acO zq ?_;simp (disch:=omega) only[jp,tkC,hf,k1,k2,false_imp_iff,true_imp_iff,go_sem]
    repeat' first
     |(refine qj ( .int .i64 0) ?_;simp (disch:=omega) only[false_and,false_imp_iff,true_imp_iff,k7,k4,go_sem])
     |((first|refine cA (dA _) ?_ ?_|refine cA (dB _) ?_ ?_|refine cG (fun e=>cK _) ?_ ?_);exact flk;simp (disch:=omega) only[k5,k6,e0,Int.toNat_zero,k50,false_and,false_imp_iff,true_imp_iff,go_sem])
     |(apply qa;exact rvk;simp only[go_sem];exact qi)
     |with_reducible apply aiA
    all_goals try exact clz
   have k4:(t.line<0)=False:=eqf g4;rw[ine g4]at hR;cases bp with
   |false=>
    rw[ipo (.inl rfl)]at hR;rw[hR];refine acO zq ?_;simp (disch:=omega) only[jp,tkC,hf,k1,k2,false_imp_iff,true_imp_iff,go_sem]
    repeat' first
     |(refine qj ( .int .i64 0) ?_;simp (disch:=omega) only[false_and,false_imp_iff,true_imp_iff,k7,k4,go_sem])
     |((first|refine cA (dA _) ?_ ?_|refine cA (dB _) ?_ ?_|refine cG (fun e=>cK _) ?_ ?_|refine cA (cP _) ?_ ?_);exact flk;simp (disch:=omega) only[k5,k6,e0,Int.toNat_zero,k50,false_and,false_imp_iff,true_imp_iff,go_sem])
     |(apply qa;exact rvk;simp only[go_sem];exact qi)
     |with_reducible apply aiA
    all_goals try exact clz
   |true=>
   cases bm with
   |false=>
    rw[ipo (.inr rfl)]at hR;rw[hR];refine acO zq ?_;simp (disch:=omega) only[jp,tkC,hf,k1,k2,false_imp_iff,true_imp_iff,go_sem]
    repeat' first
     |(refine qj ( .int .i64 0) ?_;simp (disch:=omega) only[false_and,false_imp_iff,true_imp_iff,k7,k4,go_sem])
     |((first|refine cA (dA _) ?_ ?_|refine cA (dB _) ?_ ?_|refine cG (fun e=>cK _) ?_ ?_|refine cA (cP _) ?_ ?_|refine cG (fun e=>cM _) ?_ ?_);exact flk;simp (disch:=omega) only[k5,k6,e0,Int.toNat_zero,k50,false_and,false_imp_iff,true_imp_iff,go_sem])
     |(apply qa;exact rvk;simp only[go_sem];exact qi)
     |with_reducible apply aiA
    all_goals try exact clz
   |true=>
   rw[ine (by simp)]at hR;rw[hR];refine acO zq ?_;simp (disch:=omega) only[jp,tkC,hf,k1,k2,false_imp_iff,true_imp_iff,go_sem]
   repeat' first
    |(refine qj ( .int .i64 0) ?_;simp (disch:=omega) only[false_and,false_imp_iff,true_imp_iff,k7,k4,go_sem])
    |((first|refine cA (dA _) ?_ ?_|refine cA (dB _) ?_ ?_|refine cG (fun e=>cK _) ?_ ?_|refine cA (cP _) ?_ ?_|refine cG (fun e=>cM _) ?_ ?_);exact flk;simp (disch:=omega) only[k5,k6,e0,Int.toNat_zero,k50,false_and,false_imp_iff,true_imp_iff,go_sem])
    |(apply qa;exact rvk;simp only[go_sem];exact qi)
    |with_reducible apply aiA
   all_goals try exact clz
  have k50:(kd=5)=False:=eqf g50;rw[dqf g50,Bool.false_or]at hR
  by_cases g40:kd=4
  ·have k40:(kd=4)=True:=eqt g40;rw[dqt g40,Bool.true_and]at hR
   by_cases g7:t.norm=t.text
   case neg=>
    have k7:(t.norm=t.text)=False:=eqf g7;rw[dqf g7,ipo rfl]at hR;rw[hR];refine acO zq ?_;simp (disch:=omega) only[jp,tkC,hf,k1,k2,go_sem]
    repeat' first
     |((first|refine cA (dA _) ?_ ?_|refine cA (dB _) ?_ ?_|refine cG (fun e=>cK _) ?_ ?_);exact flk;simp (disch:=omega) only[k5,k6,e0,Int.toNat_zero,k50,k40,k7,go_sem])
     |(apply qa;exact rvk;simp only[go_sem];exact qi)
     |with_reducible apply aiA
    all_goals try exact clz
   have k7:(t.norm=t.text)=True:=eqt g7;rw[dqt g7,ine (by simp)]at hR
   by_cases g4:t.line<0
   ·have k4:(t.line<0)=True:=eqt g4;rw[ipo g4]at hR;rw[hR];refine acO zq ?_;simp (disch:=omega) only[jp,tkC,hf,k1,k2,go_sem]
    repeat' first
     |((first|refine cA (dA _) ?_ ?_|refine cA (dB _) ?_ ?_|refine cG (fun e=>cK _) ?_ ?_);exact flk;simp (disch:=omega) only[k5,k6,e0,Int.toNat_zero,k50,k40,k7,k4,go_sem])
     |(apply qa;exact rvk;simp only[go_sem];exact qi)
     |with_reducible apply aiA
    all_goals try exact clz
   have k4:(t.line<0)=False:=eqf g4;rw[ine g4]at hR;cases bp with
   |false=>
    rw[ipo (.inl rfl)]at hR;rw[hR];refine acO zq ?_;simp (disch:=omega) only[jp,tkC,hf,k1,k2,go_sem]
    repeat' first
     |(refine qj ( .bool false) ?_;simp (disch:=omega) only[go_sem])
     |((first|refine cA (dA _) ?_ ?_|refine cA (dB _) ?_ ?_|refine cG (fun e=>cK _) ?_ ?_|refine cA (cP _) ?_ ?_);exact flk;simp (disch:=omega) only[k5,k6,e0,Int.toNat_zero,k50,k40,k7,k4,go_sem])
     |(apply qa;exact rvk;simp only[go_sem];exact qi)
     |with_reducible apply aiA
    all_goals try exact clz
   |true=>
   cases bm with
   |false=>
    rw[ipo (.inr rfl)]at hR;rw[hR];refine acO zq ?_;simp (disch:=omega) only[jp,tkC,hf,k1,k2,go_sem]
    repeat' first
     |((first|refine cA (dA _) ?_ ?_|refine cA (dB _) ?_ ?_|refine cG (fun e=>cK _) ?_ ?_|refine cA (cP _) ?_ ?_|refine cG (fun e=>cM _) ?_ ?_);exact flk;simp (disch:=omega) only[k5,k6,e0,Int.toNat_zero,k50,k40,k7,k4,go_sem])
     |(apply qa;exact rvk;simp only[go_sem];exact qi)
     |with_reducible apply aiA
    all_goals try exact clz
   |true=>
   rw[ine (by simp)]at hR;rw[hR];refine acO zq ?_;simp (disch:=omega) only[jp,tkC,hf,k1,k2,go_sem]
   repeat' first
    |((first|refine cA (dA _) ?_ ?_|refine cA (dB _) ?_ ?_|refine cG (fun e=>cK _) ?_ ?_|refine cA (cP _) ?_ ?_|refine cG (fun e=>cM _) ?_ ?_);exact flk;simp (disch:=omega) only[k5,k6,e0,Int.toNat_zero,k50,k40,k7,k4,go_sem])
    |(apply qa;exact rvk;simp only[go_sem];exact qi)
    |with_reducible apply aiA
   all_goals try exact clz
  have k40:(kd=4)=False:=eqf g40;rw[dqf g40,Bool.false_and,ipo rfl]at hR;rw[hR];refine acO zq ?_;simp (disch:=omega) only[jp,tkC,hf,k1,k2,go_sem]
  repeat' first
   |((first|refine cA (dA _) ?_ ?_|refine cA (dB _) ?_ ?_|refine cG (fun e=>cK _) ?_ ?_);exact flk;simp (disch:=omega) only[k5,k6,e0,Int.toNat_zero,k50,k40,go_sem])
   |(apply qa;exact rvk;simp only[go_sem];exact qi)
   |with_reducible apply aiA
  all_goals try exact clz
 ·cases bg with
  |false=>
   rw[Bool.false_and,ipo rfl]at hR;rw[hR];refine acO zq ?_;simp (disch:=omega) only[jp,tkC,hf,k1,k2,go_sem]
   repeat' first
    |((first|refine cA (dA _) ?_ ?_|refine cA (dB _) ?_ ?_|refine cA (hG _) ?_ ?_);exact flk;simp (disch:=omega) only[go_sem])
    |(apply qa;exact rvk;simp only[go_sem];exact qi)
  |true=>
  rw[Bool.true_and]at hR
  by_cases g7:t.norm=t.text
  case neg=>
   have k7:(t.norm=t.text)=False:=eqf g7;rw[dqf g7,ipo rfl]at hR;rw[hR];refine acO zq ?_;simp (disch:=omega) only[jp,tkC,hf,k1,k2,go_sem]
   repeat' first
    |((first|refine cA (dA _) ?_ ?_|refine cA (dB _) ?_ ?_|refine cA (hG _) ?_ ?_);exact flk;simp (disch:=omega) only[k7,go_sem])
    |(apply qa;exact rvk;simp only[go_sem];exact qi)
  have k7:(t.norm=t.text)=True:=eqt g7;rw[dqt g7,ine (by simp)]at hR
  by_cases g4:t.line<0
  ·have k4:(t.line<0)=True:=eqt g4;rw[ipo g4]at hR;rw[hR];refine acO zq ?_;simp (disch:=omega) only[jp,tkC,hf,k1,k2,go_sem]
   repeat' first
    |((first|refine cA (dA _) ?_ ?_|refine cA (dB _) ?_ ?_|refine cA (hG _) ?_ ?_);exact flk;simp (disch:=omega) only[k7,k4,go_sem])
    |(apply qa;exact rvk;simp only[go_sem];exact qi)
  have k4:(t.line<0)=False:=eqf g4;rw[ine g4]at hR;cases bp with
  |false=>
   rw[ipo (.inl rfl)]at hR;rw[hR];refine acO zq ?_;simp (disch:=omega) only[jp,tkC,hf,k1,k2,go_sem]
   repeat' first
    |(refine qj ( .bool false) ?_;simp (disch:=omega) only[go_sem])
    |((first|refine cA (dA _) ?_ ?_|refine cA (dB _) ?_ ?_|refine cA (hG _) ?_ ?_|refine cA (cP _) ?_ ?_);exact flk;simp (disch:=omega) only[k7,k4,go_sem])
    |(apply qa;exact rvk;simp only[go_sem];exact qi)
  |true=>
  cases bm with
  |false=>
   rw[ipo (.inr rfl)]at hR;rw[hR];refine acO zq ?_;simp (disch:=omega) only[jp,tkC,hf,k1,k2,go_sem]
   repeat' first
    |((first|refine cA (dA _) ?_ ?_|refine cA (dB _) ?_ ?_|refine cA (hG _) ?_ ?_|refine cA (cP _) ?_ ?_|refine cG (fun e=>cM _) ?_ ?_);exact flk;simp (disch:=omega) only[k7,k4,go_sem])
    |(apply qa;exact rvk;simp only[go_sem];exact qi)
    |with_reducible apply aiA
   all_goals try exact clz
  |true=>
  rw[ine (by simp)]at hR;rw[hR];refine acO zq ?_;simp (disch:=omega) only[jp,tkC,hf,k1,k2,go_sem]
  repeat' first
   |((first|refine cA (dA _) ?_ ?_|refine cA (dB _) ?_ ?_|refine cA (hG _) ?_ ?_|refine cA (cP _) ?_ ?_|refine cG (fun e=>cM _) ?_ ?_);exact flk;simp (disch:=omega) only[k7,k4,go_sem])
   |(apply qa;exact rvk;simp only[go_sem];exact qi)
   |with_reducible apply aiA
  all_goals try exact clz
 ·rw[hR];refine acO zq ?_;simp (disch:=omega) only[jp,tkC,hf,k1,k2,go_sem]
  repeat' first
   |((first|refine cA (dA _) ?_ ?_|refine cA (dB _) ?_ ?_);exact flk;simp (disch:=omega) only[go_sem])
   |(apply qa;exact rvk;simp only[go_sem];exact qi)
theorem qwf(s:Str)(h:List AObj)(hs:s.length≤1000000000):ACalls Tryz.prog 210 [.str s] h (.bool (qoc s)) h:=by
 unfold qoc;have c1:=fun h=>t53 s h hs
 by_cases g:1≤s.length
 ·rw[qom s g];have k0:((0:Int)<s.length)=True:=eqt om;have k2:((s.length:Int)-1).toNat=s.length-1:=by omega
  have k3:(0≤(s.length:Int)-1)=True:=eqt om;have k4:((s.length:Int)-1≤s.length)=True:=eqt om;have k5:((s.length:Int)-1<s.length)=True:=eqt om;obtain⟨b,hb⟩: ∃b,b=(s[s.length-1]?).getD 0:=⟨_,rfl⟩
  have eb:=hb.symm;rw[eb];have c2:=fun h=>t53 (s.take (s.length-1)) h (by simp;omega)
  by_cases g2:b.toNat=42
  ·have k6:((b.toNat:Int)=42)=True:=eqt om;rw[ipo (by simpa using g2)]
   by_cases g3:s.length≤16
   ·have k7:((s.length:Int)≤16)=True:=eqt om;rw[dqt g3];refine acO qfD ?_;simp (disch:=omega) only[qiN,k0,k2,k3,k4,k5,eb,k6,k7,go_sem]
    repeat' first
     |(refine cG (fun e=>c2 _) flk ?_;simp (disch:=omega) only[go_sem])
     |(apply qc;exact rvk;simp only[go_sem];exact qi)
     |with_reducible apply aiA
    all_goals try exact clz
   ·have k7:((s.length:Int)≤16)=False:=eqf om;rw[dqf g3];refine acO qfD ?_;simp (disch:=omega) only[qiN,k0,k2,k3,k4,k5,eb,k6,k7,go_sem]
    repeat' first
     |(refine qj ( .bool false) ?_;simp (disch:=omega) only[go_sem])
     |(apply qc;exact rvk;simp only[go_sem];exact qi)
  ·have k6:((b.toNat:Int)=42)=False:=eqf om;rw[ine (by simpa using g2)];refine acO qfD ?_;simp (disch:=omega) only[qiN,k0,k2,k3,k4,k5,eb,k6,go_sem]
   repeat' first
    |(refine cA (c1 _) flk ?_;simp (disch:=omega) only[go_sem])
    |(apply qc;exact rvk;simp only[go_sem];exact qi)
 ·have e:s= []:=List.eq_nil_of_length_eq_zero om;subst e;rw[ine (by decide)];refine acO qfD ?_;simp (disch:=omega) only[qiN,go_sem]
  repeat' first
   |((first|refine cA (c1 _) ?_ ?_|refine cG (fun e=>c1 _) ?_ ?_);exact flk;simp (disch:=omega) only[go_sem])
   |(apply qc;exact rvk;simp only[go_sem];exact qi)
   |with_reducible first|intro _|apply aiA
  all_goals try exact clz
theorem hdR(x:Co)(h:List AObj)(hz:qen x)(hp:ky SG h):ACalls Tryz.prog 154 [.str x.sec,strs x.sig,qm x.tok] h (.int .i64 (srE x)) h:=by
 obtain⟨R,hR⟩: ∃R,R=srE x:=⟨_,rfl⟩
 rw[←hR];unfold srE at hR;have z1:=hz.sg;have z2:=hz.tk;have cN:=fun h=>t53 x.sec h hz.sc
 cases g0:j0 x.sec with
 |false=>
  rw[g0]at cN;rw[ipo g0]at hR;rw[hR];refine acO qfA ?_;simp (disch:=omega) only[qiI,strs,qm,go_sem]
  repeat' first
   |(refine cA (cN _) flk ?_;simp (disch:=omega) only[go_sem])
   |(apply qc;exact rvk;simp only[go_sem];exact qi)
 |true=>
 rw[g0]at cN;rw[ine (by rw[g0];simp)]at hR
 by_cases g1:x.sig.length=0
 ·have k1:((x.sig.length:Int)=0)=True:=eqt om;rw[ipo g1]at hR;rw[hR];refine acO qfA ?_;simp (disch:=omega) only[qiI,strs,qm,go_sem]
  repeat' first
   |(refine cA (cN _) flk ?_;simp (disch:=omega) only[k1,go_sem])
   |(apply qc;exact rvk;simp only[go_sem];exact qi)
 have k1:((x.sig.length:Int)=0)=False:=eqf om;rw[ine g1]at hR
 by_cases g2:32<x.sig.length
 ·have k2:((32:Int)<x.sig.length)=True:=eqt om;rw[ipo g2]at hR;rw[hR];refine acO qfA ?_;simp (disch:=omega) only[qiI,strs,qm,go_sem]
  repeat' first
   |(refine cA (cN _) flk ?_;simp (disch:=omega) only[k1,k2,go_sem])
   |(apply qc;exact rvk;simp only[go_sem];exact qi)
 have k2:((32:Int)<x.sig.length)=False:=eqf om;rw[ine g2]at hR;refine acO qfA ?_;simp (disch:=omega) only[qiI,strs,qm,go_sem]
 repeat' first
  |(refine cA (cN _) flk ?_;simp (disch:=omega) only[k1,k2,go_sem])
 refine qn (T:=fun i:Nat=>qM 81 [(1,strs x.sig),(2,qm x.tok),(7,.int .i64 i)]) (H:=fun _=>h) (inv:=fun i=>i≤x.sig.length∧ ∀j,j<i→jq x.sig j=0) (m:=fun i=>x.sig.length-i) 0 ⟨nzl _,fun j hj=>by omega⟩ (Wk.temps ?_) ?_
 ·(simp only[strs,qm,go_sem,qh,qe,qb,qg];try (repeat' first|(with_reducible apply aiA)|(apply qf;omega)|(apply qd;rfl)|exact qi))
 rintro i ⟨i1,i2⟩ K hK
 by_cases hi:i<x.sig.length
 ·have k3:((i:Int)<x.sig.length)=True:=eqt om;have hE:=jB (f:=jq x.sig) hi i2;have hs:jq x.sig i=if qoc (x.sig.getD i [])=false then 14 else if zH (fun j=>decide (x.sig.getD i []=x.sig.getD j [])) i=true then 7 else 0:=rfl
  have c87:=fun h=>qwf (x.sig.getD i []) h (hz.ss i)
  obtain⟨s,hsx⟩: ∃s,s=x.sig.getD i []:=⟨_,rfl⟩
  have es:=hsx.symm;rw[es]at hs c87;cases g3:qoc s with
  |false=>
   rw[g3]at c87;rw[ipo g3]at hs;have hne:qaS (jq x.sig) 0 x.sig.length≠0:=by rw[hE (by rw[hs];decide),hs];decide
   have hV:R=14:=by rw[hR,ipo hne,hE (by rw[hs];decide),hs]
   rw[hV];simp (disch:=omega) only[strs,qm,k3,es,go_sem]
   repeat' first
    |(refine cA (c87 _) flk ?_;simp (disch:=omega) only[go_sem])
    |(apply qc;exact rvk;simp only[go_sem];exact qi)
    |with_reducible apply aiA
   all_goals try exact clz
  |true=>
  rw[g3]at c87;rw[ine (by rw[g3];simp)]at hs;simp (disch:=omega) only[strs,qm,k3,es,go_sem]
  repeat' first
   |(refine cA (c87 _) flk ?_;simp (disch:=omega) only[go_sem])
   |with_reducible apply aiA
  all_goals try exact clz
  refine qn (T:=fun k:Nat=>qM 81 [(1,strs x.sig),(2,qm x.tok),(7,.int .i64 i),(8,.int .i64 k)]) (H:=fun _=>h) (inv:=fun k=>k≤i∧ ∀j,j<k→ ¬s=x.sig.getD j []) (m:=fun k=>i-k) 0 ⟨nzl _,fun j hj=>by omega⟩ (Wk.temps ?_) ?_
  ·(simp only[strs,qm,go_sem,qh,qe,qb,qg];try (repeat' first|(with_reducible apply aiA)|(apply qf;omega)|(apply qd;rfl)|exact qi))
  rintro k ⟨u1,u2⟩ K2 hK2
  by_cases hk:k<i
  ·have t1:((k:Int)<i)=True:=eqt om;have t2:((k:Int)<x.sig.length)=True:=eqt om;obtain⟨y,hy⟩: ∃y,y=x.sig.getD k []:=⟨_,rfl⟩
   have ey:=hy.symm
   by_cases g4:y=s
   ·have k4:(y=s)=True:=eqt g4;rw[ipo (qv.2 ⟨k,hk,by rw[ey,g4];simp⟩)]at hs;have hne:qaS (jq x.sig) 0 x.sig.length≠0:=by rw[hE (by rw[hs];decide),hs];decide
    have hV:R=7:=by rw[hR,ipo hne,hE (by rw[hs];decide),hs]
    rw[hV];simp (disch:=omega) only[strs,qm,k3,t1,t2,k4,es,ey,go_sem]
    repeat' first
     |(apply qc;exact rvk;simp only[go_sem];exact qi)
     |with_reducible apply aiA
    all_goals try exact clz
   ·have k4:(y=s)=False:=eqf g4;simp (disch:=omega) only[strs,qm,k3,t1,t2,k4,es,ey,go_sem]
    repeat' first
     |with_reducible apply aiA
    all_goals try exact clz
    refine hK2 _ _ (k+1) ⟨hk,fun j hj=> ?_⟩ om (Wk.temps ?_)
    ·by_cases e:j=k
     ·subst e;rw[ey];exact fun e=>g4 e.symm
     ·exact u2 j om
    ·(simp only[strs,qm,go_sem,qh,qe,qb,qg];try (repeat' first|(with_reducible apply aiA)|(apply qf;omega)|(apply qd;rfl)|exact qi))
  ·have t1:((k:Int)<i)=False:=eqf om;obtain rfl:k=i:=by omega
   rw[ine (by rw[qk.2 fun j hj=>dqf (u2 j hj)];simp)]at hs;simp (disch:=omega) only[strs,qm,t1,go_sem];refine hK _ _ (k+1) ⟨hi,fun j hj=> ?_⟩ om (Wk.temps ?_)
   ·by_cases e:j=k
    ·subst e;exact hs
    ·exact i2 j om
   ·(simp only[strs,qm,go_sem,qh,qe,qb,qg];try (repeat' first|(with_reducible apply aiA)|(apply qf;omega)|(apply qd;rfl)|exact qi))
 have k3:((i:Int)<x.sig.length)=False:=eqf om;have hn0:=zI (f:=jq x.sig) (fun j (hj:j<x.sig.length)=>i2 j om);rw[ine (fun hc=>hc hn0)]at hR
 by_cases g5:x.tok.length=x.sig.length
 case neg=>
  have k5:((x.tok.length:Int)=x.sig.length)=False:=eqf om;rw[ipo g5]at hR;rw[hR];simp (disch:=omega) only[strs,qm,k3,k5,go_sem]
  repeat' first
   |(apply qc;exact rvk;simp only[go_sem];exact qi)
 have k5:((x.tok.length:Int)=x.sig.length)=True:=eqt om;rw[ine (fun hc=>hc g5)]at hR;clear hK;simp (disch:=omega) only[strs,qm,k3,k5,go_sem];obtain⟨rw0,hrw⟩: ∃f:Nat→Int,f=fun i=>qde (x.tok.getD i []):=⟨_,rfl⟩
 have er: ∀i,rw0 i=qde (x.tok.getD i []):=fun i=>by rw[hrw]
 rw[←hrw]at hR;refine qn (T:=fun i:Nat=>qM 81 [(2,qm x.tok),(9,.int .i64 i)]) (H:=fun _=>h) (inv:=fun i=>i≤x.tok.length∧ ∀j,j<i→rw0 j=0) (m:=fun i=>x.tok.length-i) 0 ⟨nzl _,fun j hj=>by omega⟩ (Wk.temps ?_) ?_
 ·(simp only[qm,go_sem,qh,qe,qb,qg];try (repeat' first|(with_reducible apply aiA)|(apply qf;omega)|(apply qd;rfl)|exact qi))
 rintro i ⟨i1,i2⟩ K hK
 by_cases hi:i<x.tok.length
 ·have k6:((i:Int)<x.tok.length)=True:=eqt om;have hE:=jB (f:=rw0) hi i2;have hs:=er i;have zl:=hz.tl i;have zt:=hz.te i;obtain⟨l,hl⟩: ∃l,l=x.tok.getD i []:=⟨_,rfl⟩
  have el:=hl.symm;rw[el]at hs zl;simp only[el]at zt;unfold qde at hs
  by_cases g6:1024<l.length
  ·have k7:((1024:Int)<l.length)=True:=eqt om;rw[ipo g6]at hs;have hV:R=4:=by rw[hR,hE (by rw[hs];decide),hs]
   rw[hV];simp (disch:=omega) only[qm,zM,k6,k7,el,go_sem]
   repeat' first
    |(apply qc;exact rvk;simp only[go_sem];exact qi)
    |with_reducible apply aiA
   all_goals try exact clz
  have k7:((1024:Int)<l.length)=False:=eqf om;rw[ine g6]at hs;simp (disch:=omega) only[qm,zM,k6,k7,el,go_sem]
  repeat' first
   |with_reducible apply aiA
  all_goals try exact clz
  refine qn (T:=fun k:Nat=>qM 81 [(2,qm x.tok),(9,.int .i64 i),(10,.int .i64 k)]) (H:=fun _=>h) (inv:=fun k=>k≤l.length∧ ∀j,j<k→tkE (l.getD j default)=0) (m:=fun k=>l.length-k) 0 ⟨nzl _,fun j hj=>by omega⟩ (Wk.temps ?_) ?_
  ·(simp only[qm,zM,go_sem,qh,qe,qb,qg];try (repeat' first|(with_reducible apply aiA)|(apply qf;omega)|(apply qd;rfl)|exact qi))
  rintro k ⟨u1,u2⟩ K2 hK2
  by_cases hk:k<l.length
  ·have t1:((k:Int)<l.length)=True:=eqt om;have cT:=tkR (l.getD k default) h (zt k) hp;obtain⟨t,ht⟩: ∃t,t=l.getD k default:=⟨_,rfl⟩
   have et:=ht.symm;rw[et]at cT;obtain⟨e,he⟩: ∃e,e=tkE t:=⟨_,rfl⟩
   rw[←he]at cT;unfold tkC at cT
   by_cases g7:e=0
   ·have k8:(e=0)=True:=eqt g7;simp (disch:=omega) only[qm,zM,tkC,k6,t1,el,et,go_sem]
    repeat' first
     |(refine cA (cT) flk ?_;simp (disch:=omega) only[k8,go_sem])
     |with_reducible apply aiA
    all_goals try exact clz
    refine hK2 _ _ (k+1) ⟨hk,fun j hj=> ?_⟩ om (Wk.temps ?_)
    ·by_cases e:j=k
     ·subst e;rw[et,←he];exact g7
     ·exact u2 j om
    ·(simp only[qm,zM,go_sem,qh,qe,qb,qg];try (repeat' first|(with_reducible apply aiA)|(apply qf;omega)|(apply qd;rfl)|exact qi))
   ·have k8:(e=0)=False:=eqf g7;rw[ipo (qv.2 ⟨k,hk,by rw[et,←he];simp[g7]⟩)]at hs;have hV:R=1:=by rw[hR,hE (by rw[hs];decide),hs]
    rw[hV];simp (disch:=omega) only[qm,zM,tkC,k6,t1,el,et,go_sem]
    repeat' first
     |(refine cA (cT) flk ?_;simp (disch:=omega) only[k8,go_sem])
     |(apply qc;exact rvk;simp only[go_sem];exact qi)
     |with_reducible apply aiA
    all_goals try exact clz
  ·have t1:((k:Int)<l.length)=False:=eqf om;rw[ine (by rw[qk.2 fun j (hj:j<l.length)=>by rw[u2 j om];simp];simp)]at hs;simp (disch:=omega) only[qm,zM,k6,t1,el,go_sem]
   repeat' first
    |with_reducible apply aiA
   all_goals try exact clz
   refine hK _ _ (i+1) ⟨hi,fun j hj=> ?_⟩ om (Wk.temps ?_)
   ·by_cases e:j=i
    ·subst e;exact hs
    ·exact i2 j om
   ·(simp only[qm,zM,go_sem,qh,qe,qb,qg];try (repeat' first|(with_reducible apply aiA)|(apply qf;omega)|(apply qd;rfl)|exact qi))
 ·have k6:((i:Int)<x.tok.length)=False:=eqf om;rw[zI (fun j (hj:j<x.tok.length)=>i2 j om)]at hR;rw[hR];simp (disch:=omega) only[qm,k6,go_sem]
  repeat' first
   |(apply qc;exact rvk;simp only[go_sem];exact qi)
theorem coR(x:Co)(h:List AObj)(hz:qen x)(hp:ky SG h):ACalls Tryz.prog 82 [.agg (coC x)] h (.int .i64 (coE x)) h:=by
 have c1:=fun l=>hdR x (h++l) hz (hp.app l)
 unfold coE
 by_cases g:srE x=0
 case neg=>
  have k1:(srE x=0)=False:=eqf g;rw[ipo g];obtain⟨e,he⟩: ∃e,e=srE x:=⟨_,rfl⟩
  rw[←he]at c1 k1 ⊢;refine acO qve ?_;simp (disch:=omega) only[qxk,coC,go_sem]
  repeat' first
   |(refine cA (c1 _) flk ?_;simp (disch:=omega) only[k1,go_sem])
   |(apply qa;exact rvk;simp only[go_sem];exact qi)
 rw[ine (fun hc=>hc g)];obtain⟨o1,o2,o3,o4⟩:=qpx g;rw[g]at c1;have zg1: ∀g,valL g .len [strs x.sig]= .int .i64 x.tok.length:=fun _=>by rw[o3];rfl
 have zg2: ∀g,okL g .len [strs x.sig]=True:=fun _=>eqt trivial
 have hn:=hz.tk;have hc:=hz.cl;have hl:=hz.tl;have hm:=hz.ce;obtain⟨R,hR⟩: ∃R,R=if alB x.tok x.col=false then (19:Int) else 0:=⟨_,rfl⟩
 rw[←hR];have k0:(0≤(x.tok.length:Int))=True:=eqt om;have k1:((x.tok.length:Int)≤9223372036854775807)=True:=eqt om;have eS:=o3.symm;refine acO qve ?_;simp (disch:=omega) only[qxk,coC,go_sem]
 repeat' first
  |(refine cA (c1 _) flk ?_;simp (disch:=omega) only[k0,zg1,zg2,go_sem])
  |with_reducible apply aiA
 all_goals try exact clz
 all_goals try rw[itn]
 rw[qeI];obtain⟨tok,htok⟩: ∃tok,tok=x.tok:=⟨_,rfl⟩
 obtain⟨col,hcol⟩: ∃col,col=x.col:=⟨_,rfl⟩
 have eS2:x.sig.length=tok.length:=by rw[htok];exact eS
 rw[←htok,←hcol]at hR;rw[←htok]at k0 k1 hn;simp only[←htok]at hl o4;rw[←hcol]at hc;simp only[←hcol]at hm;have eC:coC x= [.str x.sec,strs x.sig,qm tok,qp col]:=by rw[htok,hcol];rfl
 have zc:qp col= .sl col.length fun i=> [qq (col.getD i [])]:=rfl
 have zt:qm tok= .sl tok.length fun i=> [zM (tok.getD i [])]:=rfl
 try simp only[←htok,←hcol]
 rw[←qs0 (col:=col)];refine qn (T:=fun i:Nat=>qM 99 [(1,.op h.length 1 0),(4,.osl (h.length+1) 1 1 0 tok.length),(5,.int .i64 i)])
  (H:=fun i=>h++ [.mem 1 26 [.str x.sec,strs x.sig,qm tok,qp col],.mem 1 3 (gC (atA col i 0) tok.length)])
  (inv:=fun i=>i≤col.length∧ ∀j,j<i→qdz tok col j=true) (m:=fun i=>col.length-i) 0 ⟨nzl _,fun j hj=>absurd hj (nnz j)⟩ (Wk.temps ?_) ?_
 ·(simp only[strs,zt,zc,go_sem,qh,qe,qb,qg];try (repeat' first|(with_reducible apply aiA)|(apply qf;omega)|(apply qd;rfl)|exact qi))
 rintro i ⟨i1,i2⟩ K hK
 by_cases hi:i<col.length
 ·have k2:((i:Int)<col.length)=True:=eqt om;have ki:(0≤(i:Int))=True:=eqt om;have hno:qdz tok col i=false→R=19:=fun hx=>by rw[hR,qsW hi hx,ipo rfl]
  have hlen:= @qje tok col i;have hen:= @qoS tok col i;have heq:= @qoT tok col i;have hskip:= @qfo col i;have hstep:= @qfp col i;have hmi:=hm i;have hE: ∀s,enB tok col i s=(decide ((col.getD i []).getD s 0= -1)||(decide ((col.getD i []).getD s 0=(cnC col s i:Int))&&decide ((col.getD i []).getD s 0<((tok.getD s []).length:Int)))):=fun _=>rfl
  obtain⟨c,hcx⟩: ∃c,c=col.getD i []:=⟨_,rfl⟩
  have ec:=hcx.symm;rw[ec]at hlen heq hmi;simp only[ec]at hskip hstep hE
  by_cases g1:c.length=tok.length
  case neg=>
   have k3:((c.length:Int)=tok.length)=False:=eqf om;rw[hno (hlen g1)];simp (disch:=omega) only[zc,qq,k2,ki,k3,ec,go_sem]
   repeat' first
    |(apply qa;exact rvk;simp only[go_sem];exact qi)
    |with_reducible apply aiA
   all_goals try exact clz
  have k3:((c.length:Int)=tok.length)=True:=eqt om;have heq:=heq g1;simp (disch:=omega) only[zc,qq,k2,ki,k3,ec,go_sem]
  repeat' first
   |with_reducible apply aiA
  all_goals try exact clz
  refine qn (T:=fun s:Nat=>qM 99 [(1,.op h.length 1 0),(4,.osl (h.length+1) 1 1 0 tok.length),(5,.int .i64 i),(6,qq c),(7,.bool (zH (fun s=> !decide (c.getD s 0= -1)) s)),(8,.int .i64 s)])
   (H:=fun s=>h++ [.mem 1 26 [.str x.sec,strs x.sig,qm tok,qp col],.mem 1 3 (gC (atA col i s) tok.length)])
   (inv:=fun s=>s≤c.length∧ ∀j,j<s→enB tok col i j=true) (m:=fun s=>c.length-s) 0 ⟨nzl _,fun j hj=>absurd hj (nnz j)⟩ (Wk.temps ?_) ?_
  ·(simp only[qq,go_sem,qh,qe,qb,qg];try (repeat' first|(with_reducible apply aiA)|(apply qf;omega)|(apply qd;rfl)|exact qi))
  rintro s ⟨s1,s2⟩ K2 hK2
  by_cases hs:s<c.length
  ·have t1:((s:Int)<c.length)=True:=eqt om;have t0:(0≤(s:Int))=True:=eqt om;have hsn:s<tok.length:=by omega
   have t2:((s:Int)<tok.length)=True:=eqt om;have t3:(s<tok.length)=True:=eqt hsn;have t4:(s+1≤tok.length)=True:=eqt hsn;have gl:=jX (atA col i s) tok.length;have gg:=qax (g:=atA col i s) hsn;rw[qoN]at gg;have hsk:=hskip (s:=s) (n:=tok.length);have hst:=hstep (s:=s) hsn;have hcn:= @qoR col s i;have hlt:=hl s;have hEs:=hE s;have hap:=qbE (fun s=> !decide (c.getD s 0= -1)) s;obtain⟨t,ht⟩: ∃t,t=c.getD s 0:=⟨_,rfl⟩
   obtain⟨l,hlx⟩: ∃l,l=tok.getD s []:=⟨_,rfl⟩
   have et:=ht.symm;have el:=hlx.symm;rw[et]at hsk hst hEs;rw[el]at hEs hlt;simp only[et]at hap;obtain⟨a,ha⟩: ∃a,a=zH (fun s=> !decide (c.getD s 0= -1)) s:=⟨_,rfl⟩
   have ea:=ha.symm;rw[ea]at hap;obtain⟨q,hq⟩: ∃q:Nat,q=cnC col s i:=⟨_,rfl⟩
   have eq:=hq.symm;rw[eq]at hst hEs hcn gg;have b2:((q:Int)+1≤9223372036854775807)=True:=eqt om;have b3:(-9223372036854775808≤(q:Int)+1)=True:=eqt om
   by_cases g2:t= -1
   ·have k4:(t= -1)=True:=eqt g2;rw[dqt g2,Bool.true_or]at hEs;have hap':zH (fun s=> !decide (c.getD s 0= -1)) (s+1)=a:=by rw[hap,dqt g2];simp
    simp (disch:=omega) only[qq,t0,t1,t2,t3,k4,et,ea,gl,gg,Nat.mul_one,Nat.zero_add,go_sem]
    repeat' first
     |with_reducible apply aiA
    all_goals try exact clz
    rw[hsk g2];refine hK2 _ _ (s+1) ⟨hs,fun j hj=> ?_⟩ om (Wk.temps ?_)
    ·by_cases e:j=s
     ·subst e;exact hEs
     ·exact s2 j om
    ·rw[hap']
     (simp only[qq,go_sem,qh,qe,qb,qg];try (repeat' first|(with_reducible apply aiA)|(apply qf;omega)|(apply qd;rfl)|exact qi))
   have k4:(t= -1)=False:=eqf g2;rw[dqf g2,Bool.false_or]at hEs;have hap':zH (fun s=> !decide (c.getD s 0= -1)) (s+1)=true:=by rw[hap,dqf g2];simp
   by_cases g3:t=(q:Int)
   case neg=>
    have k5:(t=(q:Int))=False:=eqf g3;rw[dqf g3,Bool.false_and]at hEs;rw[hno (hen hsn hEs)];simp (disch:=omega) only[zt,qq,t0,t1,t2,t3,t4,k4,k5,et,ea,gl,gg,Nat.mul_one,Nat.zero_add,go_sem]
    repeat' first
     |(apply qa;exact rvk;simp only[go_sem];exact qi)
     |with_reducible apply aiA
    all_goals try exact clz
   have k5:(t=(q:Int))=True:=eqt g3;rw[dqt g3,Bool.true_and]at hEs
   by_cases g4:(l.length:Int)≤t
   ·have k6:((l.length:Int)≤t)=True:=eqt g4;rw[dqf om]at hEs;rw[hno (hen hsn hEs)];simp (disch:=omega) only[zt,zM,qq,t0,t1,t2,t3,t4,k4,k5,k6,et,ea,el,gl,gg,Nat.mul_one,Nat.zero_add,go_sem]
    repeat' first
     |(apply qa;exact rvk;simp only[go_sem];exact qi)
     |with_reducible apply aiA
    all_goals try exact clz
   ·have k6:((l.length:Int)≤t)=False:=eqf g4;rw[dqt om]at hEs;have hst:=hst g2;simp (disch:=omega) only[zt,zM,qq,t0,t1,t2,t3,t4,k4,k5,k6,et,ea,el,gl,gg,hst,Nat.mul_one,Nat.zero_add,Option.isSome_some,go_sem]
    repeat' first
     |with_reducible apply aiA
    all_goals try exact clz
    try rw[hst]
    refine hK2 _ _ (s+1) ⟨hs,fun j hj=> ?_⟩ om (Wk.temps ?_)
    ·by_cases e:j=s
     ·subst e;exact hEs
     ·exact s2 j om
    ·rw[hap']
     (simp only[qq,go_sem,qh,qe,qb,qg];try (repeat' first|(with_reducible apply aiA)|(apply qf;omega)|(apply qd;rfl)|exact qi))
  ·have t1:((s:Int)<c.length)=False:=eqf om;have es:s=tok.length:=by omega
   have heq:=heq fun j hj=>s2 j om
   rw[←es]at heq;cases ga:zH (fun s=> !decide (c.getD s 0= -1)) s with
   |false=>
    rw[ga]at heq;rw[hno heq];simp (disch:=omega) only[qq,t1,go_sem]
    repeat' first
     |(apply qa;exact rvk;simp only[go_sem];exact qi)
   |true=>
    rw[ga]at heq;simp (disch:=omega) only[qq,t1,go_sem];have ege:gC (atA col i s) tok.length=gC (atA col (i+1) 0) tok.length:=by rw[es];exact qhR _
    rw[ege];refine hK _ _ (i+1) ⟨hi,fun j hj=> ?_⟩ om (Wk.temps ?_)
    ·by_cases e:j=i
     ·subst e;exact heq
     ·exact i2 j om
    ·(simp only[go_sem,qh,qe,qb,qg];try (repeat' first|(with_reducible apply aiA)|(apply qf;omega)|(apply qd;rfl)|exact qi))
 have k2:((i:Int)<col.length)=False:=eqf om;obtain rfl:i=col.length:=by omega
 clear hK;simp (disch:=omega) only[zc,k2,go_sem]
 repeat' first
  |with_reducible apply aiA
 all_goals try exact clz
 refine qn (T:=fun s:Nat=>qM 99 [(1,.op h.length 1 0),(4,.osl (h.length+1) 1 1 0 tok.length),(9,.int .i64 s)])
  (H:=fun _=>h++ [.mem 1 26 [.str x.sec,strs x.sig,qm tok,qp col],.mem 1 3 (gC (atA col col.length 0) tok.length)])
  (inv:=fun s=>s≤tok.length∧ ∀j,j<s→cnC col j col.length=(tok.getD j []).length) (m:=fun s=>tok.length-s) 0 ⟨nzl _,fun j hj=>absurd hj (nnz j)⟩ (Wk.temps ?_) ?_
 ·(simp only[go_sem,qh,qe,qb,qg];try (repeat' first|(with_reducible apply aiA)|(apply qf;omega)|(apply qd;rfl)|exact qi))
 rintro s ⟨s1,s2⟩ K hK
 by_cases hs:s<tok.length
 ·have t1:((s:Int)<tok.length)=True:=eqt om;have t0:(0≤(s:Int))=True:=eqt om;have t3:(s<tok.length)=True:=eqt hs;have t4:(s+1≤tok.length)=True:=eqt hs;have gl:=jX (atA col col.length 0) tok.length;have gg:=qax (g:=atA col col.length 0) hs;have e0:atA col col.length 0 s= .int .i64 (cnC col s col.length:Int):=by unfold atA;rw[ine (nnz _)]
  rw[e0]at gg;have hno:= @qoK tok col s hs;obtain⟨q,hq⟩: ∃q:Nat,q=cnC col s col.length:=⟨_,rfl⟩
  have eq:=hq.symm;have hs2:q=(tok.getD s []).length→cnC col s col.length=(tok.getD s []).length:=fun e=>by rw[←hq];exact e
  rw[eq]at gg hno;obtain⟨l,hlx⟩: ∃l,l=tok.getD s []:=⟨_,rfl⟩
  have el:=hlx.symm;rw[el]at hno hs2
  by_cases g:q=l.length
  ·have k5:((q:Int)=l.length)=True:=eqt om;simp (disch:=omega) only[zt,zM,t0,t1,t3,k5,el,gl,gg,Nat.mul_one,Nat.zero_add,go_sem]
   repeat' first
    |with_reducible apply aiA
   all_goals try exact clz
   refine hK _ _ (s+1) ⟨hs,fun j hj=> ?_⟩ om (Wk.temps ?_)
   ·by_cases e:j=s
    ·subst e;rw[el];exact hs2 g
    ·exact s2 j om
   ·(simp only[go_sem,qh,qe,qb,qg];try (repeat' first|(with_reducible apply aiA)|(apply qf;omega)|(apply qd;rfl)|exact qi))
  ·have k5:((q:Int)=l.length)=False:=eqf om;rw[hR,hno g,ipo rfl];simp (disch:=omega) only[zt,zM,t0,t1,t3,k5,el,gl,gg,Nat.mul_one,Nat.zero_add,go_sem]
   repeat' first
    |(apply qa;exact rvk;simp only[go_sem];exact qi)
    |with_reducible apply aiA
   all_goals try exact clz
 ·have t1:((s:Int)<tok.length)=False:=eqf om;rw[hR,qoL i2 (fun j hj=>s2 j om),ine (by simp)];simp (disch:=omega) only[t1,go_sem]
  repeat' first
   |(apply qa;exact rvk;simp only[go_sem];exact qi)
end RC
end
