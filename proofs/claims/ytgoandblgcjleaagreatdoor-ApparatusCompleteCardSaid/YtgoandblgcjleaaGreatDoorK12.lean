import Derived.Test.YtgoandblgcjleaaGreatDoorK3
import Derived.Test.YtgoandblgcjleaaGreatDoorK5
import Derived.Test.YtgoandblgcjleaaGreatDoorK8
import Derived.Test.YtgoandblgcjleaaGreatDoorProg
import Derived.Test.YtgoandblgcjleaaGreatDoorK10
import Derived.Test.YtgoandblgcjleaaGreatDoorK11
set_option linter.all false
set_option linter.unusedSimpArgs false
set_option linter.unusedVariables false
set_option linter.unusedSectionVars false
set_option maxHeartbeats 64000000
set_option maxRecDepth 100000
section
open Go Go.Proofs AF
def zQ:List Nat:= []
def ki:C:=
 ((C.ops [O1 1 (.box 0 124) 0,MC 2 (i6 0)]).seq (((C.ops [O1 6 (.fldA 4) 1,LD 7 6,BC 8 .lss 7 (i6 0),MV 9 8,P1 10 9 false (.fldA 4) 1,P1 11 9 false (.load none) 10,PC 12 9
 false (.bin .gtr) 11 (i6 31),PT 13 9 12]).seq (C.cond (.t 13) ((C.ops [MC 2 (i6 2)]).seq C.ret) C.skip)).seq ((C.ops [O1 14 (.fldA 4) 1,LD 15 14,BC 16 .and 15 (i6 2),BC 17 .neq
 16 (i6 0),O1 18 (.fldA 4) 1,LD 19 18,BC 20 .and 19 (i6 8),BC 21 .neq 20 (i6 0),MV 3 17,MV 4 21]).seq (((C.ops [MV 22 3,MV 23 22,MG 24 23 true 4,PF 25 23 24]).seq (C.cond
 (.t 25) ((C.ops [MC 2 (i6 8)]).seq C.ret) C.skip)).seq ((C.ops [MC 5 (.fn (Fn.func 247) [] [])]).seq (((C.ops [MV 26 3]).seq (C.cond (.t 26) (C.ops [MC 5 (.fn (Fn.func 248) []
 [])]) C.skip)).seq (((C.ops [MV 27 4]).seq (C.cond (.t 27) (C.ops [MC 5 (.fn (Fn.func 249) [] [])]) C.skip)).seq ((C.block 0 (((C.ops [MV 29 5,O1 30 (.fldA 0) 1,LD 31 30,O2 32
 .callv 29 31,O1 33 (.un UnOp.not) 32,MV 28 33]).seq (C.cond (.t 28) C.skip ((C.ops [O1 34 (.load (some 6)) 1,O1 35 (.call 250 true) 34,MV 36 35,P1 37 36 true (.fldA 1) 1,P1
 38 36 true (.load none) 37,P1 39 36 true (.call 251 true) 38,P1 40 36 true (.un UnOp.not) 39,PF 41 36 40,MV 28 41]).seq (C.cond (.t 28) C.skip (C.ops [O1 42 (.load (some 6)) 1,
 O1 43 (.call 250 true) 42,O1 44 (.un UnOp.not) 43,MV 45 44,P1 46 45 true (.fldA 1) 1,P1 47 45 true (.load none) 46,P1 48 45 true (.fldA 0) 1,P1 49 45 true (.load none) 48,P2
 50 45 true (.bin .neq) 47 49,PF 51 45 50,MV 28 51]))))).seq (C.cond (.t 28) ((C.ops [MC 2 (i6 11)]).seq C.ret) ((C.ops [O1 53 (.fldA 2) 1,O1 54 (.fldA 1) 53,LD 55 54,BC 56
 .lss 55 (i6 0),MV 52 56]).seq (C.cond (.t 52) ((C.ops [MC 2 (i6 2)]).seq C.ret) ((C.ops [O1 58 (.fldA 2) 1,O1 59 (.fldA 0) 58,LD 60 59,O1 61 (.call 252 true) 60,O1 62 (.un
 UnOp.not) 61,MV 63 62,P1 64 63 false (.fldA 5) 1,P1 65 63 false (.load none) 64,P1 66 63 false (.call 252 true) 65,P1 67 63 false (.un UnOp.not) 66,PT 68 63 67,MV 57
 68]).seq (C.cond (.t 57) ((C.ops [MC 2 (i6 14)]).seq C.ret) C.skip))))))).seq ((C.ops [MC 2 (i6 0)]).seq
 C.ret)))))))))
theorem jk:qN Tryz.prog 207 69 1 [RV.tmp 2] ki:=fi Tryz.f207 [1] zQ []
def qdY:C:=
 ((C.ops [MC 2 (.bool false)]).seq (((C.ops [MV 5 0,O1 6 .slen 5,BC 7 .lss 6 (i6 3),MV 8 7,MG 9 8 false 0,PC 10 8 false .sidx 9 (i6 0),PC 11 8 false (.bin .neq) 10 (.int .u8
 91),PT 12 8 11,MV 13 12,MG 14 13 false 0,MG 15 13 false 0,P1 16 13 false .slen 15,PC 17 13 false (.bin .sub) 16 (i6 1),P2 18 13 false .sidx 14 17,PC 19 13 false (.bin .neq)
 18 (.int .u8 93),PT 20 13 19]).seq (C.cond (.t 20) ((C.ops [MC 2 (.bool false)]).seq C.ret) C.skip)).seq ((C.ops [MV 22 0,MV 23 0,O1 24 .slen 23,BC 25 .sub 24 (i6 1),ON 26
 (.sslc true true) [.t 22,.c (i6 1),.t 25],O1 27 (.call 291 true) 26,MV 21 27,O1 28 (.ext 0) 21,O1 29 (.ext 1) 21,MV 3 28,MV 4 29]).seq ((C.ops [MV 30 4,O1 31 (.isnil
 .iface false) 30,MV 32 31,MG 33 32 true 3,PC 34 32 true (.bin .geq) 33 (i6 1),PF 35 32 34,MV 36 35,MG 37 36 true 3,PC 38 36 true (.bin .leq) 37 (i6 64),PF 39 36 38,MV 40
 39,MG 41 40 true 0,MG 42 40 true 3,P1 43 40 true (.call 86 true) 42,PN 44 40 true (.bin .add) [.c (.str [91]),.t 43],PC 45 40 true (.bin .add) 44 (.str [93]),P2 46 40 true
 (.bin .eql) 41 45,PF 47 40 46,MV 2 47]).seq
 C.ret))))
theorem qb3:qN Tryz.prog 248 48 0 [RV.tmp 2] qdY:=fi Tryz.f248 [] zQ []
def qoB:C:=
 ((C.ops [MC 2 (.bool false)]).seq (((C.ops [MV 4 0,O1 5 .slen 4,BC 6 .neq 5 (i6 1)]).seq (C.cond (.t 6) ((C.ops [MC 2 (.bool false)]).seq C.ret) C.skip)).seq ((C.ops [MV 7 0,OC
 8 .sidx 7 (i6 0),O1 9 (.call 285 true) 8,MV 3 9]).seq ((C.ops [MV 10 3,BC 11 .eql 10 (i6 5),MV 12 11,MG 13 12 false 3,PC 14 12 false (.bin .eql) 13 (i6 4),PT 15 12 14,MV 2
 15]).seq
 C.ret))))
theorem qlw:qN Tryz.prog 249 16 0 [RV.tmp 2] qoB:=fi Tryz.f249 [] zQ []
def qwK:C:=
 ((C.ops [O1 1 (.box 0 124) 0,MC 2 (.bool false)]).seq ((C.ops [O1 3 (.fldA 4) 1,LD 4 3,BC 5 .and 4 (i6 10),BC 6 .eql 5 (i6 0),MV 2 6]).seq
 C.ret))
theorem qyk:qN Tryz.prog 250 7 1 [RV.tmp 2] qwK:=fi Tryz.f250 [1] zQ []
def qwL:C:=
 ((C.ops [MC 2 (.bool false)]).seq (((C.ops [MV 4 0,O1 5 .slen 4,MC 6 (i6 0)]).seq (C.block 0 ((C.ops [BI 7 .lss 6 5]).seq ((C.cond (.t 7) C.skip (C.exit 0)).seq ((C.block 1
 ((C.ops [MV 8 6,MV 3 8]).seq ((C.ops [MV 9 0,MV 10 3,O2 11 .sidx 9 10,O1 12 (.call 292 true) 11,O1 13 (.un UnOp.not) 12]).seq (C.cond (.t 13) ((C.ops [MC 2 (.bool false)]).seq
 C.ret) C.skip)))).seq (C.ops [BC 14 .add 6 (i6 1),MV 6 14])))).loop)).seq ((C.ops [MV 15 0,BC 16 .neq 15 (.str []),MV 17 16,MG 18 17 true 0,P1 19 17 true .slen 18,PC 20 17
 true (.bin .leq) 19 (i6 64),PF 21 17 20,MV 2 21]).seq
 C.ret)))
theorem qyl:qN Tryz.prog 251 22 0 [RV.tmp 2] qwL:=fi Tryz.f251 [] zQ []
def qsF:C:=
 ((C.ops [MC 2 (.bool false)]).seq ((C.ops [MV 3 0,BC 4 .eql 3 (.str []),MV 5 4,MG 6 5 false 0,P1 7 5 false (.call 186 true) 6,PT 8 5 7,MV 2 8]).seq
 C.ret))
theorem qrD:qN Tryz.prog 252 9 0 [RV.tmp 2] qsF:=fi Tryz.f252 [] zQ []
def qoC:C:=
 ((C.ops [MC 2 (.bool false)]).seq ((C.ops [MV 4 0,O1 5 (.call 285 true) 4,MV 3 5]).seq ((C.ops [MV 6 0,O1 7 (.call 311 true) 6,MV 8 7,MG 9 8 false 3,PC 10 8 false (.bin .eql)
 9 (i6 2),PT 11 8 10,MV 12 11,MG 13 12 false 3,PC 14 12 false (.bin .eql) 13 (i6 4),PT 15 12 14,MV 2 15]).seq
 C.ret)))
theorem qlx:qN Tryz.prog 292 16 0 [RV.tmp 2] qoC:=fi Tryz.f292 [] zQ []
def qsN:C:=
 ((C.ops [MC 2 (.bool false)]).seq ((C.ops [MV 4 0,O1 5 (.call 285 true) 4,MV 3 5]).seq ((C.ops [MV 6 3,BC 7 .eql 6 (i6 1),MV 8 7,MG 9 8 false 3,PC 10 8 false (.bin .eql) 9
 (i6 3),PT 11 8 10,MV 2 11]).seq
 C.ret)))
theorem qrL:qN Tryz.prog 311 12 0 [RV.tmp 2] qsN:=fi Tryz.f311 [] zQ []
def qAT:C:=
 ((C.ops [O1 1 (.box 0 26) 0,MC 2 (i6 0)]).seq (((C.ops [O1 4 (.fldA 0) 1,LD 5 4,O1 6 (.fldA 1) 1,LD 7 6,O1 8 (.fldA 2) 1,LD 9 8,ON 10 (.call 152 true) [.t 5,.t 7,.t 9],MV
 3 10]).seq ((C.ops [MV 11 3,BC 12 .neq 11 (i6 0)]).seq (C.cond (.t 12) ((C.ops [MV 13 3,MV 2 13]).seq C.ret) C.skip))).seq (((C.ops [O1 14 (.fldA 2) 1,LD 15 14,O1 16 (.fldA 3)
 1,LD 17 16,O2 18 (.call 153 true) 15 17,BC 19 .neq 18 (i6 0)]).seq (C.cond (.t 19) ((C.ops [MC 2 (i6 19)]).seq C.ret) C.skip)).seq ((C.ops [MC 2 (i6 0)]).seq
 C.ret))))
theorem qyL:qN Tryz.prog 81 20 1 [RV.tmp 2] qAT:=fi Tryz.f81 [1] zQ []
def qkt:C:=
 ((C.ops [MC 6 (i6 0)]).seq ((C.block 0 ((C.ops [MV 12 0,O1 13 (.call 186 true) 12,O1 14 (.un UnOp.not) 13,MV 11 14]).seq (C.cond (.t 11) ((C.ops [MC 6 (i6 14)]).seq C.ret)
 ((C.ops [MV 16 1,O1 17 .len 16,BC 18 .eql 17 (i6 0),MV 15 18]).seq (C.cond (.t 15) ((C.ops [MC 6 (i6 5)]).seq C.ret) ((C.ops [MV 20 1,O1 21 .len 20,BC 22 .gtr 21 (i6 32),MV
 19 22]).seq (C.cond (.t 19) ((C.ops [MC 6 (i6 4)]).seq C.ret) C.skip))))))).seq (((C.ops [MV 23 1,O1 24 .len 23,MC 25 (i6 0)]).seq (C.block 1 ((C.ops [BI 26 .lss 25 24]).seq
 ((C.cond (.t 26) C.skip (C.exit 1)).seq ((C.block 2 ((C.ops [MV 27 25,O2 28 (.idxA 1) 23 25,LD 29 28,MV 7 27,MV 8 29]).seq (((C.ops [MV 30 8,O1 31 (.call 204 true) 30,O1 32
 (.un UnOp.not) 31]).seq (C.cond (.t 32) ((C.ops [MC 6 (i6 14)]).seq C.ret) C.skip)).seq ((C.ops [MV 33 1,MV 34 7,O2 35 (.slc 1 false true) 33 34,MV 36 8,O2 37 (.call 43 true)
 35 36]).seq (C.cond (.t 37) ((C.ops [MC 6 (i6 7)]).seq C.ret) C.skip))))).seq (C.ops [BC 38 .add 25 (i6 1),MV 25 38])))).loop)).seq (((C.ops [MV 39 2,O1 40 .len 39,MV 41 1,O1
 42 .len 41,BI 43 .neq 40 42]).seq (C.cond (.t 43) ((C.ops [MC 6 (i6 9)]).seq C.ret) C.skip)).seq (((C.ops [MV 44 2,O1 45 .len 44,MC 46 (i6 0)]).seq (C.block 3 ((C.ops [BI 47
 .lss 46 45]).seq ((C.cond (.t 47) C.skip (C.exit 3)).seq ((C.block 4 ((C.ops [O2 48 (.idxA 1) 44 46,LD 49 48,MV 10 49]).seq (((C.ops [MV 50 10,O1 51 .len 50,BC 52 .gtr 51 (i6
 1024)]).seq (C.cond (.t 52) ((C.ops [MC 6 (i6 4)]).seq C.ret) C.skip)).seq ((C.ops [MV 53 10,OC 54 (.call 205 true) 53 (.fn (Fn.func 206) [] [])]).seq (C.cond (.t 54) ((C.ops [MC
 6 (i6 1)]).seq C.ret) C.skip))))).seq (C.ops [BC 55 .add 46 (i6 1),MV 46 55])))).loop)).seq ((C.ops [MC 6 (i6 0)]).seq
 C.ret))))))
theorem qg3:qN Tryz.prog 152 56 0 [RV.tmp 6] qkt:=fi Tryz.f152 [] zQ []
def qwz:C:=
 ((C.ops [O1 1 (.box 0 124) 0,MC 2 (.bool false)]).seq ((C.ops [O1 3 (.load (some 6)) 1,O1 4 (.call 207 true) 3,BC 5 .neq 4 (i6 0),MV 2 5]).seq
 C.ret))
theorem qx7:qN Tryz.prog 206 6 1 [RV.tmp 2] qwz:=fi Tryz.f206 [1] zQ []
def qkw:C:=
 ((C.ops [MC 2 (.bool false)]).seq ((C.ops [MV 6 0,OC 7 (.call 241 true) 6 (.str [42]),MV 5 7,O1 8 (.ext 0) 5,O1 9 (.ext 1) 5,MV 3 8,MV 4 9]).seq ((C.ops [MV 10 3,O1 11
 (.call 186 true) 10,MV 12 11,MG 13 12 true 4,P1 14 12 true (.un UnOp.not) 13,MG 15 12 true 14,MG 16 15 false 0,P1 17 15 false .slen 16,PC 18 15 false (.bin .leq) 17 (i6 16),
 QT 19 12 true 15 18,PF 20 12 19,MV 2 20]).seq
 C.ret)))
theorem qg6:qN Tryz.prog 204 21 0 [RV.tmp 2] qkw:=fi Tryz.f204 [] zQ []
def qwA:C:=
 ((C.ops [MC 2 (i6 0)]).seq ((C.block 0 ((C.ops [MV 4 0,O1 5 .len 4,BC 6 .eql 5 (i6 0),MV 3 6]).seq (C.cond (.t 3) ((C.ops [MC 2 (i6 5)]).seq C.ret) ((C.ops [MV 8 0,O1 9 .len 8,
 BC 10 .gtr 9 (i6 32),MV 11 10,MG 12 11 false 0,PC 13 11 false (.call 253 true) 12 (.fn (Fn.func 254) [] []),PT 14 11 13,MV 7 14]).seq (C.cond (.t 7) ((C.ops [MC 2 (i6 4)]).seq
 C.ret) C.skip))))).seq ((C.ops [MC 2 (i6 0)]).seq
 C.ret)))
theorem qx8:qN Tryz.prog 208 15 0 [RV.tmp 2] qwA:=fi Tryz.f208 [] zQ []
def qwM:C:=
 ((C.ops [MC 2 (.bool false)]).seq ((C.ops [MV 3 0,O1 4 .len 3,BC 5 .gtr 4 (i6 1024),MV 2 5]).seq
 C.ret))
theorem qyn:qN Tryz.prog 254 6 0 [RV.tmp 2] qwM:=fi Tryz.f254 [] zQ []
def qwn:C:=
 ((C.ops [MC 4 (i6 0)]).seq (((C.ops [MV 6 0,O1 7 (.call 208 true) 6,MV 5 7]).seq ((C.ops [MV 8 5,BC 9 .neq 8 (i6 0)]).seq (C.cond (.t 9) ((C.ops [MV 10 5,MV 4 10]).seq C.ret)
 C.skip))).seq (((C.ops [MV 11 0,MV 12 1,O2 13 (.call 209 true) 11 12,O1 14 (.un UnOp.not) 13]).seq (C.cond (.t 14) ((C.ops [MC 4 (i6 19)]).seq C.ret) C.skip)).seq ((C.ops [MC 4
 (i6 0)]).seq
 C.ret))))
theorem qxQ:qN Tryz.prog 153 15 0 [RV.tmp 4] qwn:=fi Tryz.f153 [] zQ []
def qwB:C:=
 ((C.ops [MC 4 (.bool false)]).seq ((C.ops [MV 12 0,O1 13 .len 12,⟨some 14,none,.mkslc 0 1 3 [i6 0] 8,[.t 13,.t 13]⟩,MV 5 14]).seq (((C.ops [MV 15 1,O1 16 .len 15,MC 17 (i6
 0)]).seq (C.block 0 ((C.ops [BI 18 .lss 17 16]).seq ((C.cond (.t 18) C.skip (C.exit 0)).seq ((C.block 1 ((C.ops [O2 19 (.idxA 1) 15 17,LD 20 19,MV 7 20]).seq (((C.ops [MV 21 7,
 O1 22 .len 21,MV 23 0,O1 24 .len 23,BI 25 .neq 22 24]).seq (C.cond (.t 25) ((C.ops [MC 4 (.bool false)]).seq C.ret) C.skip)).seq ((C.ops [MC 8 (.bool false)]).seq (((C.ops [MV
 26 7,O1 27 .len 26,MC 28 (i6 0)]).seq (C.block 2 ((C.ops [BI 29 .lss 28 27]).seq ((C.cond (.t 29) C.skip (C.exit 2)).seq ((C.block 3 ((C.ops [MV 30 28,O2 31 (.idxA 1) 26 28,LD
 32 31,MV 9 30,MV 10 32]).seq (((C.ops [MV 33 10,BC 34 .eql 33 (i6 (-1))]).seq (C.cond (.t 34) (C.exit 3) C.skip)).seq (((C.ops [MV 35 10,MV 36 5,MV 37 9,O2 38 (.idxA 1) 36
 37,LD 39 38,BI 40 .neq 35 39,MV 41 40,MG 42 41 false 10,MG 43 41 false 0,MG 44 41 false 9,P2 45 41 false (.idxA 1) 43 44,P1 46 41 false (.load none) 45,P1 47 41 false .len
 46,P2 48 41 false (.bin .geq) 42 47,PT 49 41 48]).seq (C.cond (.t 49) ((C.ops [MC 4 (.bool false)]).seq C.ret) C.skip)).seq ((C.ops [MV 50 5,MV 51 9,O2 52 (.idxA 1) 50 51,LD
 53 52,BC 54 .add 53 (i6 1),O2 55 (.idxA 1) 50 51,ST 1 55 54]).seq (C.ops [MC 8 (.bool true)])))))).seq (C.ops [BC 56 .add 28 (i6 1),MV 28 56])))).loop)).seq ((C.ops [MV 57 8,
 O1 58 (.un UnOp.not) 57]).seq (C.cond (.t 58) ((C.ops [MC 4 (.bool false)]).seq C.ret) C.skip))))))).seq (C.ops [BC 59 .add 17 (i6 1),MV 17 59])))).loop)).seq (((C.ops [MV 60 0,
 O1 61 .len 60,MC 62 (i6 0)]).seq (C.block 4 ((C.ops [BI 63 .lss 62 61]).seq ((C.cond (.t 63) C.skip (C.exit 4)).seq ((C.block 5 ((C.ops [MV 64 62,MV 11 64]).seq ((C.ops [MV 65 5,
 MV 66 11,O2 67 (.idxA 1) 65 66,LD 68 67,MV 69 0,MV 70 11,O2 71 (.idxA 1) 69 70,LD 72 71,O1 73 .len 72,BI 74 .neq 68 73]).seq (C.cond (.t 74) ((C.ops [MC 4 (.bool
 false)]).seq C.ret) C.skip)))).seq (C.ops [BC 75 .add 62 (i6 1),MV 62 75])))).loop)).seq ((C.ops [MC 4 (.bool true)]).seq
 C.ret)))))
theorem qx9:qN Tryz.prog 209 76 1 [RV.tmp 4] qwB:=fi Tryz.f209 [14] zQ []
def qCq:C:=
 ((C.ops [ON 4 (.nilo 0 1 9) []]).seq ((C.ops [MV 5 0,MV 6 1,ON 7 (.call 118 true) [.t 5,.t 6,.c (i6 0),.c (i6 (-1))],MV 4 7]).seq
 C.ret))
theorem qBj:qN Tryz.prog 44 8 1 [RV.tmp 4] qCq:=fi Tryz.f44 [4] zQ []
def qwc:C:=
 ((C.ops [ON 8 (.nilo 0 1 9) []]).seq (((C.ops [MV 12 3,BC 13 .eql 12 (i6 0)]).seq (C.cond (.t 13) ((C.ops [ON 8 (.nilo 0 1 9) []]).seq C.ret) C.skip)).seq (((C.ops [MV 14 1,BC 15
 .eql 14 (.str [])]).seq (C.cond (.t 15) ((C.ops [MV 16 0,MV 17 3,O2 18 (.call 182 true) 16 17,MV 8 18]).seq C.ret) C.skip)).seq (((C.ops [MV 19 3,BC 20 .lss 19 (i6 0)]).seq
 (C.cond (.t 20) (C.ops [MV 21 0,MV 22 1,O2 23 (.call 183 true) 21 22,BC 24 .add 23 (i6 1),MV 3 24]) C.skip)).seq ((C.ops [MV 25 3,MV 26 0,O1 27 .slen 26,BC 28 .add 27 (i6
 1),O2 29 (.mm false) 25 28,MV 3 29]).seq ((C.ops [MV 30 3,⟨some 31,none,.mkslc 1 1 9 [.str []] 16,[.t 30,.t 30]⟩,MV 9 31]).seq ((C.ops [MV 32 3,BC 33 .sub 32 (i6 1),MV 3
 33]).seq ((C.ops [MC 10 (i6 0)]).seq ((C.block 0 (((C.ops [MV 34 10,MV 35 3,BI 36 .lss 34 35]).seq (C.cond (.t 36) C.skip (C.exit 0))).seq (C.block 1 ((C.ops [MV 37 0,MV 38 1,
 O2 39 (.call 184 true) 37 38,MV 11 39]).seq (((C.ops [MV 40 11,BC 41 .lss 40 (i6 0)]).seq (C.cond (.t 41) (C.exit 0) C.skip)).seq ((C.ops [MV 42 9,MV 43 10,MV 44 0,MV 45 11,
 MV 46 2,BI 47 .add 45 46,O2 48 (.sslc false true) 44 47,O2 49 (.idxA 1) 42 43,ST 1 49 48]).seq ((C.ops [MV 50 0,MV 51 11,MV 52 1,O1 53 .slen 52,BI 54 .add 51 53,O2 55
 (.sslc true false) 50 54,MV 0 55]).seq (C.ops [MV 56 10,BC 57 .add 56 (i6 1),MV 10 57]))))))).loop).seq ((C.ops [MV 58 9,MV 59 10,MV 60 0,O2 61 (.idxA 1) 58 59,ST 1 61
 60]).seq ((C.ops [MV 62 9,MV 63 10,BC 64 .add 63 (i6 1),O2 65 (.slc 1 false true) 62 64,MV 8 65]).seq
 C.ret)))))))))))
theorem qxE:qN Tryz.prog 118 66 2 [RV.tmp 8] qwc:=fi Tryz.f118 [8,31] zQ []
end
section
open Go Go.Proofs AF HY LN
namespace RC
theorem qCH (s:Str) (h:List AObj) (hs:s.length≤1000000000):ACalls Tryz.prog 252 [.str s] h (.bool (qvQ s)) h:=by
 have c1:=fun h=>t44 s h hs
 unfold qvQ
 by_cases g:s= []
 ·subst g
  rw [decide_eq_true rfl,Bool.true_or]
  refine acO qrD ?_
  simp (disch:=omega) only [qsF,go_sem]
  repeat' first
   |(refine qm ( .bool false) ?_;simp (disch:=omega) only [go_sem])
   |((first|apply qd|apply qb);exact rvk;simp only [go_sem];first|exact ql|apply qe|apply qa|apply qf|skip)
   |with_reducible first|apply aiA|intro _
  all_goals try exact clz
 ·have k1:(s= [])=False:=eq_false g
  rw [decide_eq_false g,Bool.false_or]
  refine acO qrD ?_
  simp (disch:=omega) only [qsF,k1,go_sem]
  repeat' first
   |((first|refine cA (c1 _) ?_ ?_|refine cG (fun e=>c1 _) ?_ ?_|refine cU (fun _=>c1 _) ?_ ?_);exact flk;simp (disch:=omega) only [k1,go_sem])
   |((first|apply qd|apply qb);exact rvk;simp only [go_sem];first|exact ql|apply qe|apply qa|apply qf|skip)
   |with_reducible first|apply aiA|intro _
  all_goals try exact clz
theorem qDD (s:Str) (h:List AObj) (hs:s.length≤1000000000):ACalls Tryz.prog 249 [.str s] h (.bool (qAA s)) h:=by
 unfold qAA
 by_cases g:s.length=1
 ·have k1:((s.length:Int)=1)=True:=eq_true (by omega)
  have k2:((0:Int)<s.length)=True:=eq_true (by omega)
  have e:(s[0]?).getD 0=ch s 0:=by simp [ch,gdqA]
  have c5:=fun h=>jU (ch s 0) h
  rw [decide_eq_true g,Bool.true_and]
  obtain ⟨k,hk⟩: ∃k,k=je (ch s 0):=⟨_,rfl⟩
  rw [←hk]at c5 ⊢
  by_cases g1:k=5
  ·have q1:(k=5)=True:=eq_true g1
   rw [decide_eq_true g1,Bool.true_or]
   refine acO qlw ?_
   simp (disch:=omega) only [qoB,k1,go_sem]
   repeat' first
    |((first|refine cA (c5 _) ?_ ?_|refine cG (fun e=>c5 _) ?_ ?_|refine cU (fun _=>c5 _) ?_ ?_);exact flk;simp (disch:=omega) only [k1,k2,e,q1,Int.toNat_zero,go_sem])
    |((first|apply qd|apply qb);exact rvk;simp only [go_sem];first|exact ql|apply qe|apply qa|apply qf|skip)
    |with_reducible first|apply aiA|intro _
   all_goals try exact clz
  ·have q1:(k=5)=False:=eq_false g1
   rw [decide_eq_false g1,Bool.false_or]
   refine acO qlw ?_
   simp (disch:=omega) only [qoB,k1,go_sem]
   repeat' first
    |((first|refine cA (c5 _) ?_ ?_|refine cG (fun e=>c5 _) ?_ ?_|refine cU (fun _=>c5 _) ?_ ?_);exact flk;simp (disch:=omega) only [k1,k2,e,q1,Int.toNat_zero,go_sem])
    |((first|apply qd|apply qb);exact rvk;simp only [go_sem];first|exact ql|apply qe|apply qa|apply qf|skip)
    |with_reducible first|apply aiA|intro _
   all_goals try exact clz
 ·have k1:((s.length:Int)=1)=False:=eq_false (by omega)
  rw [decide_eq_false g,Bool.false_and]
  refine acO qlw ?_
  simp (disch:=omega) only [qoB,k1,go_sem]
  repeat' first
   |((first|apply qd|apply qb);exact rvk;simp only [go_sem];first|exact ql|apply qe|apply qa|apply qf|skip)
   |with_reducible first|apply aiA|intro _
  all_goals try exact clz
theorem qC2 (c:UInt8) (h:List AObj):ACalls Tryz.prog 311 [.int .u8 (c.toNat:Int)] h (.bool (decide (je c=1)||decide (je c=3))) h:=by
 have c5:=fun h=>jU c h
 obtain ⟨k,hk⟩: ∃k,k=je c:=⟨_,rfl⟩
 rw [←hk]at c5 ⊢
 by_cases g1:k=1
 ·have q1:(k=1)=True:=eq_true g1
  rw [decide_eq_true g1,Bool.true_or]
  refine acO qrL ?_
  simp (disch:=omega) only [qsN,go_sem]
  repeat' first
   |((first|refine cA (c5 _) ?_ ?_|refine cG (fun e=>c5 _) ?_ ?_|refine cU (fun _=>c5 _) ?_ ?_);exact flk;simp (disch:=omega) only [q1,go_sem])
   |((first|apply qd|apply qb);exact rvk;simp only [go_sem];first|exact ql|apply qe|apply qa|apply qf|skip)
   |with_reducible first|apply aiA|intro _
  all_goals try exact clz
 ·have q1:(k=1)=False:=eq_false g1
  rw [decide_eq_false g1,Bool.false_or]
  refine acO qrL ?_
  simp (disch:=omega) only [qsN,go_sem]
  repeat' first
   |((first|refine cA (c5 _) ?_ ?_|refine cG (fun e=>c5 _) ?_ ?_|refine cU (fun _=>c5 _) ?_ ?_);exact flk;simp (disch:=omega) only [q1,go_sem])
   |((first|apply qd|apply qb);exact rvk;simp only [go_sem];first|exact ql|apply qe|apply qa|apply qf|skip)
   |with_reducible first|apply aiA|intro _
  all_goals try exact clz
theorem qDy (c:UInt8) (h:List AObj):ACalls Tryz.prog 292 [.int .u8 (c.toNat:Int)] h (.bool (qt3 c)) h:=by
 have c5:=fun h=>jU c h
 have c6:=fun h=>qC2 c h
 unfold qt3
 rw [←Bool.or_assoc]
 obtain ⟨k,hk⟩: ∃k,k=je c:=⟨_,rfl⟩
 rw [←hk]at c5 c6 ⊢
 obtain ⟨b,hb⟩: ∃b,b=(decide (k=1)||decide (k=3)):=⟨_,rfl⟩
 rw [←hb]at c6 ⊢
 cases b with
 |true=>
  rw [Bool.true_or]
  refine acO qlx ?_
  simp (disch:=omega) only [qoC,go_sem]
  repeat' first
   |((first|refine cA (c5 _) ?_ ?_|refine cG (fun e=>c5 _) ?_ ?_|refine cA (c6 _) ?_ ?_|refine cG (fun e=>c6 _) ?_ ?_|refine cU (fun _=>c5 _) ?_ ?_|refine cU (fun _=>c6 _) ?_ ?_);exact flk;simp (disch:=omega) only [go_sem])
   |((first|apply qd|apply qb);exact rvk;simp only [go_sem];first|exact ql|apply qe|apply qa|apply qf|skip)
   |with_reducible first|apply aiA|intro _
  all_goals try exact clz
 |false=>
  rw [Bool.false_or]
  by_cases g1:k=2
  ·have q1:(k=2)=True:=eq_true g1
   rw [decide_eq_true g1,Bool.true_or]
   refine acO qlx ?_
   simp (disch:=omega) only [qoC,go_sem]
   repeat' first
    |((first|refine cA (c5 _) ?_ ?_|refine cG (fun e=>c5 _) ?_ ?_|refine cA (c6 _) ?_ ?_|refine cG (fun e=>c6 _) ?_ ?_|refine cU (fun _=>c5 _) ?_ ?_|refine cU (fun _=>c6 _) ?_ ?_);exact flk;simp (disch:=omega) only [q1,go_sem])
    |((first|apply qd|apply qb);exact rvk;simp only [go_sem];first|exact ql|apply qe|apply qa|apply qf|skip)
    |with_reducible first|apply aiA|intro _
   all_goals try exact clz
  ·have q1:(k=2)=False:=eq_false g1
   rw [decide_eq_false g1,Bool.false_or]
   refine acO qlx ?_
   simp (disch:=omega) only [qoC,go_sem]
   repeat' first
    |((first|refine cA (c5 _) ?_ ?_|refine cG (fun e=>c5 _) ?_ ?_|refine cA (c6 _) ?_ ?_|refine cG (fun e=>c6 _) ?_ ?_|refine cU (fun _=>c5 _) ?_ ?_|refine cU (fun _=>c6 _) ?_ ?_);exact flk;simp (disch:=omega) only [q1,go_sem])
    |((first|apply qd|apply qb);exact rvk;simp only [go_sem];first|exact ql|apply qe|apply qa|apply qf|skip)
    |with_reducible first|apply aiA|intro _
   all_goals try exact clz
theorem qBL (s:Str) (h:List AObj) (hs:s.length≤1000000000):ACalls Tryz.prog 251 [.str s] h (.bool (qzg s)) h:=by
 obtain ⟨R,hR⟩: ∃R,R=qzg s:=⟨_,rfl⟩
 rw [←hR]
 unfold qzg at hR
 refine acO qyl ?_
 simp (disch:=omega) only [qwL,go_sem]
 repeat' first
  |((first|apply qd|apply qb);exact rvk;simp only [go_sem];first|exact ql|apply qe|apply qa|apply qf|skip)
  |with_reducible first|apply aiA|intro _
 all_goals try exact clz
 refine qt (T:=fun i:Nat=>qT 22 [(0,.str s),(5,.int .i64 s.length),(6,.int .i64 i)]) (H:=fun _=>h) (inv:=fun i=>i≤s.length∧ ∀j,j<i→qt3 (ch s j)=true) (m:=fun i=>s.length-i) 0 ⟨Nat.zero_le _,fun j hj=>by omega⟩ (Wk.temps ?_) ?_
 ·(simp only [go_sem,qk,qh,qg,qj];try (repeat' first|(with_reducible apply aiA)|(apply qe;omega)|(apply qa;rfl)|exact ql))
 rintro i ⟨i1,i2⟩ K hK
 by_cases hi:i<s.length
 ·have k1:((i:Int)<s.length)=True:=eq_true (by omega)
  have e:(s[i]?).getD 0=ch s i:=by simp [ch,gdqA]
  have c1:=fun h=>qDy (ch s i) h
  cases g:qt3 (ch s i)with
  |false=>
   rw [g]at c1
   have hV:R=false:=by
    have:((List.range s.length).all fun i=>qt3 (ch s i))=false:=by
     rw [List.all_eq_false];exact ⟨i,List.mem_range.2 hi,by simp [g]⟩
    rw [hR,this,Bool.and_false,Bool.and_false]
   rw [hV]
   simp (disch:=omega) only [k1,e,go_sem]
   repeat' first
    |((first|refine cA (c1 _) ?_ ?_|refine cG (fun e=>c1 _) ?_ ?_|refine cU (fun _=>c1 _) ?_ ?_);exact flk;simp (disch:=omega) only [k1,e,go_sem])
    |((first|apply qd|apply qb);exact rvk;simp only [go_sem];first|exact ql|apply qe|apply qa|apply qf|skip)
    |with_reducible first|apply aiA|intro _
   all_goals try exact clz
  |true=>
   rw [g]at c1
   simp (disch:=omega) only [k1,e,go_sem]
   repeat' first
    |((first|refine cA (c1 _) ?_ ?_|refine cG (fun e=>c1 _) ?_ ?_|refine cU (fun _=>c1 _) ?_ ?_);exact flk;simp (disch:=omega) only [k1,e,go_sem])
    |((first|apply qd|apply qb);exact rvk;simp only [go_sem];first|exact ql|apply qe|apply qa|apply qf|skip)
    |with_reducible first|apply aiA|intro _
   all_goals try exact clz
   refine hK _ _ (i+1) ⟨hi,fun j hj=> ?_⟩ (by omega) (Wk.temps ?_)
   ·by_cases e':j=i
    ·subst e';exact g
    ·exact i2 j (by omega)
   ·(simp only [go_sem,qk,qh,qg,qj];try (repeat' first|(with_reducible apply aiA)|(apply qe;omega)|(apply qa;rfl)|exact ql))
 ·have k1:((i:Int)<s.length)=False:=eq_false (by omega)
  have hA:((List.range s.length).all fun i=>qt3 (ch s i))=true:=by
   rw [List.all_eq_true];intro j hj;exact i2 j (by have:=List.mem_range.1 hj;omega)
  rw [hA,Bool.and_true]at hR
  by_cases g:s= []
  ·have q1:(s= [])=True:=eq_true g
   rw [hR,decide_eq_false (fun h=>h g),Bool.false_and]
   simp (disch:=omega) only [k1,q1,go_sem]
   repeat' first
    |((first|apply qd|apply qb);exact rvk;simp only [go_sem];first|exact ql|apply qe|apply qa|apply qf|skip)
    |with_reducible first|apply aiA|intro _
   all_goals try exact clz
  ·have q1:(s= [])=False:=eq_false g
   have q2:decide ((s.length:Int)≤64)=decide (s.length≤64):=decide_eq_decide.2 (by omega)
   rw [hR,decide_eq_true (show s≠ []from g),Bool.true_and]
   simp (disch:=omega) only [k1,q1,q2,go_sem]
   repeat' first
    |((first|apply qd|apply qb);exact rvk;simp only [go_sem];first|exact ql|apply qe|apply qa|apply qf|skip)
    |with_reducible first|apply aiA|intro _
   all_goals try exact clz
theorem qt6 {k:Nat}:1≤(Lib.itoa (k:Int)).length:=by
 rw [Lib.itoa_nonneg]
 by_cases g:k<10
 ·rw [Lib.decDigits,dif_pos g];simp
 ·rw [Lib.decDigits,dif_neg g];simp
theorem qyR {s:Str} (h:qps s=true):3≤s.length∧((s[0]?).getD 0).toNat=91∧((s[s.length-1]?).getD 0).toNat=93∧ ∃v:Int,Lib.atoiAll ((s.drop 1).take (s.length-1-1))= .ok v∧1≤v∧v≤64∧s=91::(Lib.itoa v++ [93]):=by
 unfold qps at h
 rw [List.any_eq_true]at h
 obtain ⟨k,hk,e⟩:=h
 have hk':k<64:=by simpa using hk
 have e:=of_decide_eq_true e
 have hl:=qt6 (k:=k+1)
 obtain ⟨t,ht⟩: ∃t,t=Lib.itoa ((k+1:Nat):Int):=⟨_,rfl⟩
 rw [←ht]at e hl
 have ha:Lib.atoiAll t= .ok ((k+1:Nat):Int):=by rw [ht];exact qjz (by omega) (by omega)
 have e1:s.length=t.length+2:=by rw [e];simp
 refine ⟨by omega,by rw [e];rfl,?_,((k+1:Nat):Int),?_,by omega,by omega,by rw [←ht];exact e⟩
 ·rw [e1,e,show t.length+2-1=t.length+1 by omega,List.getElem?_cons_succ,List.getElem?_append_right (Nat.le_refl _),Nat.sub_self]
  rfl
 ·rw [←ha,e1,e]
  congr 1
  simp
theorem qyS {s:Str} {v:Int} (h1:1≤v) (h2:v≤64) (e:s=91::(Lib.itoa v++ [93])):qps s=true:=by
 unfold qps
 rw [List.any_eq_true]
 refine ⟨v.toNat-1,by simp;omega,decide_eq_true ?_⟩
 rw [show ((v.toNat-1+1:Nat):Int)=v by omega]
 exact e
theorem qDs (s:Str) (h:List AObj) (hs:s.length≤1000000000) (hp:qba SG h):ACalls Tryz.prog 248 [.str s] h (.bool (qps s)) h:=by
 have hF:= @qyR s
 have hM:= @qyS s
 obtain ⟨R,hR⟩: ∃R,R=qps s:=⟨_,rfl⟩
 rw [←hR]at hF hM ⊢
 have hV: ¬(R=true)→R=false:=by cases R<;>simp
 by_cases g0:s.length<3
 ·have k0:((s.length:Int)<3)=True:=eq_true (by omega)
  rw [hV (fun c=>by have:=(hF c).1;omega)]
  refine acO qb3 ?_
  simp (disch:=omega) only [qdY,k0,go_sem]
  repeat' first
   |((first|apply qd|apply qb);exact rvk;simp only [go_sem];first|exact ql|apply qe|apply qa|apply qf|skip)
   |with_reducible first|apply aiA|intro _
  all_goals try exact clz
 have k0:((s.length:Int)<3)=False:=eq_false (by omega)
 have k1:((0:Int)<s.length)=True:=eq_true (by omega)
 have k2:((s.length:Int)-1).toNat=s.length-1:=by omega
 have k3:(0≤(s.length:Int)-1)=True:=eq_true (by omega)
 have k4:((s.length:Int)-1≤s.length)=True:=eq_true (by omega)
 have k5:((s.length:Int)-1<s.length)=True:=eq_true (by omega)
 have k6:((1:Int)≤(s.length:Int)-1)=True:=eq_true (by omega)
 obtain ⟨m,hm⟩: ∃m,m=(s.drop 1).take (s.length-1-1):=⟨_,rfl⟩
 have hml:m.length≤s.length:=by rw [hm];simp;omega
 have em:=hm.symm
 rw [em]at hF
 obtain ⟨a,ha⟩: ∃a,a=(s[0]?).getD 0:=⟨_,rfl⟩
 obtain ⟨b,hb⟩: ∃b,b=(s[s.length-1]?).getD 0:=⟨_,rfl⟩
 have ea:=ha.symm
 have eb:=hb.symm
 rw [ea,eb]at hF
 by_cases g1:a.toNat=91
 case neg=>
  have q1:((a.toNat:Int)=91)=False:=eq_false (by omega)
  rw [hV (fun c=>g1 (hF c).2.1)]
  refine acO qb3 ?_
  simp (disch:=omega) only [qdY,k0,k1,k2,k3,k4,k5,k6,em,ea,eb,q1,Int.toNat_zero,Int.toNat_one,go_sem]
  repeat' first
   |((first|apply qd|apply qb);exact rvk;simp only [go_sem];first|exact ql|apply qe|apply qa|apply qf|skip)
   |with_reducible first|apply aiA|intro _
  all_goals try exact clz
 have q1:((a.toNat:Int)=91)=True:=eq_true (by omega)
 by_cases g2:b.toNat=93
 case neg=>
  have q2:((b.toNat:Int)=93)=False:=eq_false (by omega)
  rw [hV (fun c=>g2 (hF c).2.2.1)]
  refine acO qb3 ?_
  simp (disch:=omega) only [qdY,k0,k1,k2,k3,k4,k5,k6,em,ea,eb,q1,q2,Int.toNat_zero,Int.toNat_one,go_sem]
  repeat' first
   |((first|apply qd|apply qb);exact rvk;simp only [go_sem];first|exact ql|apply qe|apply qa|apply qf|skip)
   |with_reducible first|apply aiA|intro _
  all_goals try exact clz
 have q2:((b.toNat:Int)=93)=True:=eq_true (by omega)
 have c180:=t50 m h (SG.err hp) (by omega)
 unfold qsp at c180
 cases hA:Lib.atoiAll m
 case ok v=>
  rw [hA]at c180 hF
  simp only at c180
  obtain ⟨r1,r2⟩:=qor hA
  have c181:=t48 v h (SG.pow hp) r1 r2
  obtain ⟨t,ht⟩: ∃t,t=Lib.itoa v:=⟨_,rfl⟩
  rw [←ht]at c181
  by_cases g3:1≤v
  case neg=>
   have q3:(1≤v)=False:=eq_false g3
   rw [hV (fun c=>by obtain ⟨_,_,_,w,e,w1,_⟩:=hF c;cases e;exact g3 w1)]
   refine acO qb3 ?_
   simp (disch:=omega) only [qdY,k0,k1,k2,k3,k4,k5,k6,em,ea,eb,q1,q2,q3,Int.toNat_zero,Int.toNat_one,go_sem]
   repeat' first
    |(refine qm ( .str []) ?_;simp (disch:=omega) only [k0,k1,k2,k3,k4,k5,k6,em,ea,eb,q1,q2,q3,Int.toNat_zero,Int.toNat_one,go_sem])
    |((first|refine cA (c180) ?_ ?_|refine cG (fun e=>c180) ?_ ?_);exact flk;simp (disch:=omega) only [k0,k1,k2,k3,k4,k5,k6,em,ea,eb,q1,q2,q3,Int.toNat_zero,Int.toNat_one,go_sem])
    |((first|apply qd|apply qb);exact rvk;simp only [go_sem];first|exact ql|apply qe|apply qa|apply qf|skip)
    |with_reducible first|apply aiA|intro _
   all_goals try exact clz
  have q3:(1≤v)=True:=eq_true g3
  by_cases g4:v≤64
  case neg=>
   have q4:(v≤64)=False:=eq_false g4
   rw [hV (fun c=>by obtain ⟨_,_,_,w,e,_,w2,_⟩:=hF c;cases e;exact g4 w2)]
   refine acO qb3 ?_
   simp (disch:=omega) only [qdY,k0,k1,k2,k3,k4,k5,k6,em,ea,eb,q1,q2,q3,q4,Int.toNat_zero,Int.toNat_one,go_sem]
   repeat' first
    |(refine qm ( .str []) ?_;simp (disch:=omega) only [k0,k1,k2,k3,k4,k5,k6,em,ea,eb,q1,q2,q3,q4,Int.toNat_zero,Int.toNat_one,go_sem])
    |((first|refine cA (c180) ?_ ?_|refine cG (fun e=>c180) ?_ ?_);exact flk;simp (disch:=omega) only [k0,k1,k2,k3,k4,k5,k6,em,ea,eb,q1,q2,q3,q4,Int.toNat_zero,Int.toNat_one,go_sem])
    |((first|apply qd|apply qb);exact rvk;simp only [go_sem];first|exact ql|apply qe|apply qa|apply qf|skip)
    |with_reducible first|apply aiA|intro _
   all_goals try exact clz
  have q4:(v≤64)=True:=eq_true g4
  by_cases g5:s=91::(t++ [93])
  ·have q5:(s=91::(t++ [93]))=True:=eq_true g5
   have htl:t.length≤9:=by
    obtain ⟨n,rfl⟩: ∃n:Nat,v=n:=⟨v.toNat,by omega⟩
    rw [ht];exact qlR (by omega)
   rw [hM g3 g4 (by rw [←ht];exact g5)]
   refine acO qb3 ?_
   simp (disch:=omega) only [qdY,k0,k1,k2,k3,k4,k5,k6,em,ea,eb,q1,q2,q3,q4,q5,Int.toNat_zero,Int.toNat_one,go_sem]
   repeat' first
    |((first|refine cA (c180) ?_ ?_|refine cG (fun e=>c180) ?_ ?_|refine cA (c181) ?_ ?_|refine cG (fun e=>c181) ?_ ?_);exact flk;simp (disch:=omega) only [k0,k1,k2,k3,k4,k5,k6,em,ea,eb,q1,q2,q3,q4,q5,Int.toNat_zero,Int.toNat_one,go_sem])
    |((first|apply qd|apply qb);exact rvk;simp only [go_sem];first|exact ql|apply qe|apply qa|apply qf|skip)
    |with_reducible first|apply aiA|intro _
   all_goals try exact clz
  ·have q5:(s=91::(t++ [93]))=False:=eq_false g5
   have htl:t.length≤9:=by
    obtain ⟨n,rfl⟩: ∃n:Nat,v=n:=⟨v.toNat,by omega⟩
    rw [ht];exact qlR (by omega)
   rw [hV (fun c=>by obtain ⟨_,_,_,w,e,_,_,w3⟩:=hF c;cases e;exact g5 (by rw [ht];exact w3))]
   refine acO qb3 ?_
   simp (disch:=omega) only [qdY,k0,k1,k2,k3,k4,k5,k6,em,ea,eb,q1,q2,q3,q4,q5,Int.toNat_zero,Int.toNat_one,go_sem]
   repeat' first
    |((first|refine cA (c180) ?_ ?_|refine cG (fun e=>c180) ?_ ?_|refine cA (c181) ?_ ?_|refine cG (fun e=>c181) ?_ ?_);exact flk;simp (disch:=omega) only [k0,k1,k2,k3,k4,k5,k6,em,ea,eb,q1,q2,q3,q4,q5,Int.toNat_zero,Int.toNat_one,go_sem])
    |((first|apply qd|apply qb);exact rvk;simp only [go_sem];first|exact ql|apply qe|apply qa|apply qf|skip)
    |with_reducible first|apply aiA|intro _
   all_goals try exact clz
 all_goals
  rw [hA]at c180 hF
  simp only at c180
  rw [hV (fun c=>by obtain ⟨_,_,_,w,e,_⟩:=hF c;cases e)]
  refine acO qb3 ?_
  simp (disch:=omega) only [qdY,k0,k1,k2,k3,k4,k5,k6,em,ea,eb,q1,q2,Int.toNat_zero,Int.toNat_one,go_sem]
  repeat' first
   |(refine qm ( .str []) ?_;simp (disch:=omega) only [k0,k1,k2,k3,k4,k5,k6,em,ea,eb,q1,q2,Int.toNat_zero,Int.toNat_one,go_sem])
   |((first|refine cA (c180) ?_ ?_|refine cG (fun e=>c180) ?_ ?_);exact flk;simp (disch:=omega) only [k0,k1,k2,k3,k4,k5,k6,em,ea,eb,q1,q2,Int.toNat_zero,Int.toNat_one,go_sem])
   |((first|apply qd|apply qb);exact rvk;simp only [go_sem];first|exact ql|apply qe|apply qa|apply qf|skip)
   |with_reducible first|apply aiA|intro _
  all_goals try exact clz
theorem qAI: ∀f:Nat,f<32→qsl .i64 (f:Int) 2=if f.testBit 1 then 2 else 0:=by decide+kernel
theorem qAJ: ∀f:Nat,f<32→qsl .i64 (f:Int) 8=if f.testBit 3 then 8 else 0:=by decide+kernel
theorem qv5: ∀f:Nat,f<32→qsl .i64 (f:Int) 10=(if f.testBit 1 then 2 else 0)+if f.testBit 3 then 8 else 0:=by decide+kernel
theorem qDz (t:Tk) (f:Nat) (h:List AObj) (hf:t.flags=f) (hf2:f<32):ACalls Tryz.prog 250 [.agg (tkC t)] h (.bool (!qtU t.flags&& !mkB t.flags)) h:=by
 have e1:=qv5 f hf2
 have eg:qtU t.flags=f.testBit 1:=by unfold qtU;rw [hf,Int.toNat_natCast]
 have ek:mkB t.flags=f.testBit 3:=by unfold mkB;rw [hf,Int.toNat_natCast]
 rw [eg,ek]
 cases g1:f.testBit 1<;>cases g2:f.testBit 3<;>rw [g1,g2]at e1<;>simp only [Bool.false_eq_true,if_false,if_true,Int.add_zero,Int.zero_add]at e1
 all_goals
  refine acO qyk ?_
  simp (disch:=omega) only [qwK,tkC,hf,e1,go_sem]
  repeat' first
   |((first|apply qd|apply qb);exact rvk;simp only [go_sem];first|exact ql|apply qe|apply qa|apply qf|skip)
   |with_reducible first|apply aiA|intro _
  all_goals try exact clz
structure qse (t:Tk):Prop where
 tx:t.text.length≤1000000000
 nm:t.norm.length≤1000000000
 pg:t.page.length≤1000000000
 na:t.name.length≤1000000000
theorem tkP (t:Tk) (h:List AObj) (hz:qse t) (hp:qba SG h):ACalls Tryz.prog 207 [.agg (tkC t)] h (.int .i64 (tkE t)) h:=by
 obtain ⟨R,hR⟩: ∃R,R=tkE t:=⟨_,rfl⟩
 rw [←hR]
 unfold tkE at hR
 by_cases g1:t.flags<0
 ·have k1:(t.flags<0)=True:=eq_true g1
  rw [if_pos (.inl g1)]at hR
  rw [hR]
  refine acO jk ?_
  simp (disch:=omega) only [ki,tkC,go_sem]
  repeat' first
   |((first|apply qd|apply qb);exact rvk;simp only [go_sem];first|exact ql|apply qe|apply qa|apply qf|skip)
   |with_reducible first|apply aiA|intro _
  all_goals try exact clz
 have k1:(t.flags<0)=False:=eq_false g1
 by_cases g2:31<t.flags
 ·have k2:((31:Int)<t.flags)=True:=eq_true g2
  rw [if_pos (.inr g2)]at hR
  rw [hR]
  refine acO jk ?_
  simp (disch:=omega) only [ki,tkC,go_sem]
  repeat' first
   |((first|apply qd|apply qb);exact rvk;simp only [go_sem];first|exact ql|apply qe|apply qa|apply qf|skip)
   |with_reducible first|apply aiA|intro _
  all_goals try exact clz
 have k2:((31:Int)<t.flags)=False:=eq_false g2
 rw [if_neg (by omega)]at hR
 obtain ⟨f,hf⟩: ∃f:Nat,t.flags=(f:Int):=⟨t.flags.toNat,by omega⟩
 have hf2:f<32:=by omega
 have e2:=qAI f hf2
 have e8:=qAJ f hf2
 have eg:qtU t.flags=f.testBit 1:=by unfold qtU;rw [hf,Int.toNat_natCast]
 have ek:mkB t.flags=f.testBit 3:=by unfold mkB;rw [hf,Int.toNat_natCast]
 have cI:=fun h=>qDz t f h hf hf2
 have cP:=fun l=>qCH t.page (h++l) hz.pg
 have cM:=fun l=>qCH t.name (h++l) hz.na
 have hG:=fun l=>qDs t.text (h++l) hz.tx (hp.app l)
 have cK:=fun l=>qDD t.text (h++l) hz.tx
 have cW:=fun l=>t88 t.text (h++l) hz.tx
 have cN:=fun l=>qBL t.norm (h++l) hz.nm
 unfold txB at hR
 rw [eg,ek]at hR cI
 obtain ⟨bp,hbp⟩: ∃b,b=qvQ t.page:=⟨_,rfl⟩
 obtain ⟨bm,hbm⟩: ∃b,b=qvQ t.name:=⟨_,rfl⟩
 obtain ⟨bg,hbg⟩: ∃b,b=qps t.text:=⟨_,rfl⟩
 obtain ⟨bk,hbk⟩: ∃b,b=qAA t.text:=⟨_,rfl⟩
 obtain ⟨bw,hbw⟩: ∃b,b=qaX t.text:=⟨_,rfl⟩
 obtain ⟨bn,hbn⟩: ∃b,b=qzg t.norm:=⟨_,rfl⟩
 rw [←hbp,←hbm,←hbg,←hbk,←hbw,←hbn]at hR
 simp only [←hbp]at cP
 simp only [←hbm]at cM
 simp only [←hbg]at hG
 simp only [←hbk]at cK
 simp only [←hbw]at cW
 simp only [←hbn]at cN
 unfold tkC at cI
 rw [hf]at cI k1 k2
 cases ga:f.testBit 1<;>cases gb:f.testBit 3<;>rw [ga]at e2 hR cI<;>rw [gb]at e8 hR cI<;>simp only [Bool.false_eq_true,if_true,if_false,and_true,and_false,Bool.not_false,Bool.not_true,Bool.and_false,Bool.and_true]at e2 e8 hR cI
 ·cases bw with
  |false=>
   rw [Bool.false_and,if_pos rfl]at hR
   rw [hR]
   refine acO jk ?_
   simp (disch:=omega) only [ki,tkC,hf,k1,k2,e2,e8,go_sem]
   repeat' first
    |(refine qx (cW _) ?_;simp (disch:=omega) only [tkC,hf,k1,k2,e2,e8,go_sem])
    |((first|apply qd|apply qb);exact rvk;simp only [go_sem];first|exact ql|apply qe|apply qa|apply qf|skip)
    |with_reducible first|apply aiA|intro _
   all_goals try exact clz
  |true=>
  rw [Bool.true_and]at hR
  cases bn with
  |false=>
   rw [if_pos rfl]at hR
   rw [hR]
   refine acO jk ?_
   simp (disch:=omega) only [ki,tkC,hf,k1,k2,e2,e8,go_sem]
   repeat' first
    |(refine qx (cW _) ?_;simp (disch:=omega) only [tkC,hf,k1,k2,e2,e8,go_sem])
    |((first|refine cA (cI _) ?_ ?_|refine cG (fun e=>cI _) ?_ ?_|refine cA (cN _) ?_ ?_|refine cG (fun e=>cN _) ?_ ?_|refine cU (fun _=>cI _) ?_ ?_|refine cU (fun _=>cN _) ?_ ?_);exact flk;simp (disch:=omega) only [tkC,hf,k1,k2,e2,e8,go_sem])
    |((first|apply qd|apply qb);exact rvk;simp only [go_sem];first|exact ql|apply qe|apply qa|apply qf|skip)
    |with_reducible first|apply aiA|intro _
   all_goals try exact clz
  |true=>
   rw [if_neg (by simp)]at hR
   by_cases g4:t.line<0
   ·have k4:(t.line<0)=True:=eq_true g4
    rw [if_pos g4]at hR
    rw [hR]
    refine acO jk ?_
    simp (disch:=omega) only [ki,tkC,hf,k1,k2,e2,e8,k4,go_sem]
    repeat' first
     |(refine qx (cW _) ?_;simp (disch:=omega) only [tkC,hf,k1,k2,e2,e8,k4,go_sem])
     |((first|refine cA (cI _) ?_ ?_|refine cG (fun e=>cI _) ?_ ?_|refine cA (cN _) ?_ ?_|refine cG (fun e=>cN _) ?_ ?_|refine cA (cI _) ?_ ?_|refine cG (fun e=>cI _) ?_ ?_|refine cU (fun _=>cI _) ?_ ?_|refine cU (fun _=>cN _) ?_ ?_|refine cU (fun _=>cI _) ?_ ?_);exact flk;simp (disch:=omega) only [tkC,hf,k1,k2,e2,e8,k4,go_sem])
     |((first|apply qd|apply qb);exact rvk;simp only [go_sem];first|exact ql|apply qe|apply qa|apply qf|skip)
     |with_reducible first|apply aiA|intro _
    all_goals try exact clz
   have k4:(t.line<0)=False:=eq_false g4
   rw [if_neg g4]at hR
   cases bp with
   |false=>
    rw [if_pos (.inl rfl)]at hR
    rw [hR]
    refine acO jk ?_
    simp (disch:=omega) only [ki,tkC,hf,k1,k2,e2,e8,k4,go_sem]
    repeat' first
     |(refine qx (cW _) ?_;simp (disch:=omega) only [tkC,hf,k1,k2,e2,e8,k4,go_sem])
     |(refine qm ( .bool false) ?_;simp (disch:=omega) only [tkC,hf,k1,k2,e2,e8,k4,go_sem])
     |((first|refine cA (cI _) ?_ ?_|refine cG (fun e=>cI _) ?_ ?_|refine cA (cN _) ?_ ?_|refine cG (fun e=>cN _) ?_ ?_|refine cA (cI _) ?_ ?_|refine cG (fun e=>cI _) ?_ ?_|refine cA (cP _) ?_ ?_|refine cG (fun e=>cP _) ?_ ?_|refine cU (fun _=>cI _) ?_ ?_|refine cU (fun _=>cN _) ?_ ?_|refine cU (fun _=>cI _) ?_ ?_|refine cU (fun _=>cP _) ?_ ?_);exact flk;simp (disch:=omega) only [tkC,hf,k1,k2,e2,e8,k4,go_sem])
     |((first|apply qd|apply qb);exact rvk;simp only [go_sem];first|exact ql|apply qe|apply qa|apply qf|skip)
     |with_reducible first|apply aiA|intro _
    all_goals try exact clz
   |true=>
   cases bm with
   |false=>
    rw [if_pos (.inr rfl)]at hR
    rw [hR]
    refine acO jk ?_
    simp (disch:=omega) only [ki,tkC,hf,k1,k2,e2,e8,k4,go_sem]
    repeat' first
     |(refine qx (cW _) ?_;simp (disch:=omega) only [tkC,hf,k1,k2,e2,e8,k4,go_sem])
     |((first|refine cA (cI _) ?_ ?_|refine cG (fun e=>cI _) ?_ ?_|refine cA (cN _) ?_ ?_|refine cG (fun e=>cN _) ?_ ?_|refine cA (cI _) ?_ ?_|refine cG (fun e=>cI _) ?_ ?_|refine cA (cP _) ?_ ?_|refine cG (fun e=>cP _) ?_ ?_|refine cA (cM _) ?_ ?_|refine cG (fun e=>cM _) ?_ ?_|refine cU (fun _=>cI _) ?_ ?_|refine cU (fun _=>cN _) ?_ ?_|refine cU (fun _=>cI _) ?_ ?_|refine cU (fun _=>cP _) ?_ ?_|refine cU (fun _=>cM _) ?_ ?_);exact flk;simp (disch:=omega) only [tkC,hf,k1,k2,e2,e8,k4,go_sem])
     |((first|apply qd|apply qb);exact rvk;simp only [go_sem];first|exact ql|apply qe|apply qa|apply qf|skip)
     |with_reducible first|apply aiA|intro _
    all_goals try exact clz
   |true=>
    rw [if_neg (by simp)]at hR
    rw [hR]
    refine acO jk ?_
    simp (disch:=omega) only [ki,tkC,hf,k1,k2,e2,e8,k4,go_sem]
    repeat' first
     |(refine qx (cW _) ?_;simp (disch:=omega) only [tkC,hf,k1,k2,e2,e8,k4,go_sem])
     |((first|refine cA (cI _) ?_ ?_|refine cG (fun e=>cI _) ?_ ?_|refine cA (cN _) ?_ ?_|refine cG (fun e=>cN _) ?_ ?_|refine cA (cI _) ?_ ?_|refine cG (fun e=>cI _) ?_ ?_|refine cA (cP _) ?_ ?_|refine cG (fun e=>cP _) ?_ ?_|refine cA (cM _) ?_ ?_|refine cG (fun e=>cM _) ?_ ?_|refine cU (fun _=>cI _) ?_ ?_|refine cU (fun _=>cN _) ?_ ?_|refine cU (fun _=>cI _) ?_ ?_|refine cU (fun _=>cP _) ?_ ?_|refine cU (fun _=>cM _) ?_ ?_);exact flk;simp (disch:=omega) only [tkC,hf,k1,k2,e2,e8,k4,go_sem])
     |((first|apply qd|apply qb);exact rvk;simp only [go_sem];first|exact ql|apply qe|apply qa|apply qf|skip)
     |with_reducible first|apply aiA|intro _
    all_goals try exact clz
 ·cases bk with
  |false=>
   rw [Bool.false_and,if_pos rfl]at hR
   rw [hR]
   refine acO jk ?_
   simp (disch:=omega) only [ki,tkC,hf,k1,k2,e2,e8,go_sem]
   repeat' first
    |(refine qx (cK _) ?_;simp (disch:=omega) only [tkC,hf,k1,k2,e2,e8,go_sem])
    |((first|apply qd|apply qb);exact rvk;simp only [go_sem];first|exact ql|apply qe|apply qa|apply qf|skip)
    |with_reducible first|apply aiA|intro _
   all_goals try exact clz
  |true=>
  rw [Bool.true_and]at hR
  by_cases g3:t.norm=t.text
  ·have k3:(t.norm=t.text)=True:=eq_true g3
   rw [decide_eq_true g3,if_neg (by simp)]at hR
   by_cases g4:t.line<0
   ·have k4:(t.line<0)=True:=eq_true g4
    rw [if_pos g4]at hR
    rw [hR]
    refine acO jk ?_
    simp (disch:=omega) only [ki,tkC,hf,k1,k2,e2,e8,k3,k4,go_sem]
    repeat' first
     |(refine qx (cK _) ?_;simp (disch:=omega) only [tkC,hf,k1,k2,e2,e8,k3,k4,go_sem])
     |(refine qm ( .bool false) ?_;simp (disch:=omega) only [tkC,hf,k1,k2,e2,e8,k3,k4,go_sem])
     |((first|refine cA (cI _) ?_ ?_|refine cG (fun e=>cI _) ?_ ?_|refine cA (cI _) ?_ ?_|refine cG (fun e=>cI _) ?_ ?_|refine cU (fun _=>cI _) ?_ ?_|refine cU (fun _=>cI _) ?_ ?_);exact flk;simp (disch:=omega) only [tkC,hf,k1,k2,e2,e8,k3,k4,go_sem])
     |((first|apply qd|apply qb);exact rvk;simp only [go_sem];first|exact ql|apply qe|apply qa|apply qf|skip)
     |with_reducible first|apply aiA|intro _
    all_goals try exact clz
   have k4:(t.line<0)=False:=eq_false g4
   rw [if_neg g4]at hR
   cases bp with
   |false=>
    rw [if_pos (.inl rfl)]at hR
    rw [hR]
    refine acO jk ?_
    simp (disch:=omega) only [ki,tkC,hf,k1,k2,e2,e8,k3,k4,go_sem]
    repeat' first
     |(refine qx (cK _) ?_;simp (disch:=omega) only [tkC,hf,k1,k2,e2,e8,k3,k4,go_sem])
     |(refine qm ( .bool false) ?_;simp (disch:=omega) only [tkC,hf,k1,k2,e2,e8,k3,k4,go_sem])
     |(refine qm ( .bool false) ?_;simp (disch:=omega) only [tkC,hf,k1,k2,e2,e8,k3,k4,go_sem])
     |((first|refine cA (cI _) ?_ ?_|refine cG (fun e=>cI _) ?_ ?_|refine cA (cI _) ?_ ?_|refine cG (fun e=>cI _) ?_ ?_|refine cA (cP _) ?_ ?_|refine cG (fun e=>cP _) ?_ ?_|refine cU (fun _=>cI _) ?_ ?_|refine cU (fun _=>cI _) ?_ ?_|refine cU (fun _=>cP _) ?_ ?_);exact flk;simp (disch:=omega) only [tkC,hf,k1,k2,e2,e8,k3,k4,go_sem])
     |((first|apply qd|apply qb);exact rvk;simp only [go_sem];first|exact ql|apply qe|apply qa|apply qf|skip)
     |with_reducible first|apply aiA|intro _
    all_goals try exact clz
   |true=>
   cases bm with
   |false=>
    rw [if_pos (.inr rfl)]at hR
    rw [hR]
    refine acO jk ?_
    simp (disch:=omega) only [ki,tkC,hf,k1,k2,e2,e8,k3,k4,go_sem]
    repeat' first
     |(refine qx (cK _) ?_;simp (disch:=omega) only [tkC,hf,k1,k2,e2,e8,k3,k4,go_sem])
     |(refine qm ( .bool false) ?_;simp (disch:=omega) only [tkC,hf,k1,k2,e2,e8,k3,k4,go_sem])
     |((first|refine cA (cI _) ?_ ?_|refine cG (fun e=>cI _) ?_ ?_|refine cA (cI _) ?_ ?_|refine cG (fun e=>cI _) ?_ ?_|refine cA (cP _) ?_ ?_|refine cG (fun e=>cP _) ?_ ?_|refine cA (cM _) ?_ ?_|refine cG (fun e=>cM _) ?_ ?_|refine cU (fun _=>cI _) ?_ ?_|refine cU (fun _=>cI _) ?_ ?_|refine cU (fun _=>cP _) ?_ ?_|refine cU (fun _=>cM _) ?_ ?_);exact flk;simp (disch:=omega) only [tkC,hf,k1,k2,e2,e8,k3,k4,go_sem])
     |((first|apply qd|apply qb);exact rvk;simp only [go_sem];first|exact ql|apply qe|apply qa|apply qf|skip)
     |with_reducible first|apply aiA|intro _
    all_goals try exact clz
   |true=>
    rw [if_neg (by simp)]at hR
    rw [hR]
    refine acO jk ?_
    simp (disch:=omega) only [ki,tkC,hf,k1,k2,e2,e8,k3,k4,go_sem]
    repeat' first
     |(refine qx (cK _) ?_;simp (disch:=omega) only [tkC,hf,k1,k2,e2,e8,k3,k4,go_sem])
     |(refine qm ( .bool false) ?_;simp (disch:=omega) only [tkC,hf,k1,k2,e2,e8,k3,k4,go_sem])
     |((first|refine cA (cI _) ?_ ?_|refine cG (fun e=>cI _) ?_ ?_|refine cA (cI _) ?_ ?_|refine cG (fun e=>cI _) ?_ ?_|refine cA (cP _) ?_ ?_|refine cG (fun e=>cP _) ?_ ?_|refine cA (cM _) ?_ ?_|refine cG (fun e=>cM _) ?_ ?_|refine cU (fun _=>cI _) ?_ ?_|refine cU (fun _=>cI _) ?_ ?_|refine cU (fun _=>cP _) ?_ ?_|refine cU (fun _=>cM _) ?_ ?_);exact flk;simp (disch:=omega) only [tkC,hf,k1,k2,e2,e8,k3,k4,go_sem])
     |((first|apply qd|apply qb);exact rvk;simp only [go_sem];first|exact ql|apply qe|apply qa|apply qf|skip)
     |with_reducible first|apply aiA|intro _
    all_goals try exact clz
  ·have k3:(t.norm=t.text)=False:=eq_false g3
   rw [decide_eq_false g3,if_pos rfl]at hR
   rw [hR]
   refine acO jk ?_
   simp (disch:=omega) only [ki,tkC,hf,k1,k2,e2,e8,k3,go_sem]
   repeat' first
    |(refine qx (cK _) ?_;simp (disch:=omega) only [tkC,hf,k1,k2,e2,e8,k3,go_sem])
    |(refine qm ( .bool false) ?_;simp (disch:=omega) only [tkC,hf,k1,k2,e2,e8,k3,go_sem])
    |((first|refine cA (cI _) ?_ ?_|refine cG (fun e=>cI _) ?_ ?_|refine cA (cI _) ?_ ?_|refine cG (fun e=>cI _) ?_ ?_|refine cU (fun _=>cI _) ?_ ?_|refine cU (fun _=>cI _) ?_ ?_);exact flk;simp (disch:=omega) only [tkC,hf,k1,k2,e2,e8,k3,go_sem])
    |((first|apply qd|apply qb);exact rvk;simp only [go_sem];first|exact ql|apply qe|apply qa|apply qf|skip)
    |with_reducible first|apply aiA|intro _
   all_goals try exact clz
 ·cases bg with
  |false=>
   rw [Bool.false_and,if_pos rfl]at hR
   rw [hR]
   refine acO jk ?_
   simp (disch:=omega) only [ki,tkC,hf,k1,k2,e2,e8,go_sem]
   repeat' first
    |(refine qx (hG _) ?_;simp (disch:=omega) only [tkC,hf,k1,k2,e2,e8,go_sem])
    |((first|apply qd|apply qb);exact rvk;simp only [go_sem];first|exact ql|apply qe|apply qa|apply qf|skip)
    |with_reducible first|apply aiA|intro _
   all_goals try exact clz
  |true=>
  rw [Bool.true_and]at hR
  by_cases g3:t.norm=t.text
  ·have k3:(t.norm=t.text)=True:=eq_true g3
   rw [decide_eq_true g3,if_neg (by simp)]at hR
   by_cases g4:t.line<0
   ·have k4:(t.line<0)=True:=eq_true g4
    rw [if_pos g4]at hR
    rw [hR]
    refine acO jk ?_
    simp (disch:=omega) only [ki,tkC,hf,k1,k2,e2,e8,k3,k4,go_sem]
    repeat' first
     |(refine qx (hG _) ?_;simp (disch:=omega) only [tkC,hf,k1,k2,e2,e8,k3,k4,go_sem])
     |(refine qm ( .bool false) ?_;simp (disch:=omega) only [tkC,hf,k1,k2,e2,e8,k3,k4,go_sem])
     |((first|refine cA (cI _) ?_ ?_|refine cG (fun e=>cI _) ?_ ?_|refine cA (cI _) ?_ ?_|refine cG (fun e=>cI _) ?_ ?_|refine cU (fun _=>cI _) ?_ ?_|refine cU (fun _=>cI _) ?_ ?_);exact flk;simp (disch:=omega) only [tkC,hf,k1,k2,e2,e8,k3,k4,go_sem])
     |((first|apply qd|apply qb);exact rvk;simp only [go_sem];first|exact ql|apply qe|apply qa|apply qf|skip)
     |with_reducible first|apply aiA|intro _
    all_goals try exact clz
   have k4:(t.line<0)=False:=eq_false g4
   rw [if_neg g4]at hR
   cases bp with
   |false=>
    rw [if_pos (.inl rfl)]at hR
    rw [hR]
    refine acO jk ?_
    simp (disch:=omega) only [ki,tkC,hf,k1,k2,e2,e8,k3,k4,go_sem]
    repeat' first
     |(refine qx (hG _) ?_;simp (disch:=omega) only [tkC,hf,k1,k2,e2,e8,k3,k4,go_sem])
     |(refine qm ( .bool false) ?_;simp (disch:=omega) only [tkC,hf,k1,k2,e2,e8,k3,k4,go_sem])
     |(refine qm ( .bool false) ?_;simp (disch:=omega) only [tkC,hf,k1,k2,e2,e8,k3,k4,go_sem])
     |((first|refine cA (cI _) ?_ ?_|refine cG (fun e=>cI _) ?_ ?_|refine cA (cI _) ?_ ?_|refine cG (fun e=>cI _) ?_ ?_|refine cA (cP _) ?_ ?_|refine cG (fun e=>cP _) ?_ ?_|refine cU (fun _=>cI _) ?_ ?_|refine cU (fun _=>cI _) ?_ ?_|refine cU (fun _=>cP _) ?_ ?_);exact flk;simp (disch:=omega) only [tkC,hf,k1,k2,e2,e8,k3,k4,go_sem])
     |((first|apply qd|apply qb);exact rvk;simp only [go_sem];first|exact ql|apply qe|apply qa|apply qf|skip)
     |with_reducible first|apply aiA|intro _
    all_goals try exact clz
   |true=>
   cases bm with
   |false=>
    rw [if_pos (.inr rfl)]at hR
    rw [hR]
    refine acO jk ?_
    simp (disch:=omega) only [ki,tkC,hf,k1,k2,e2,e8,k3,k4,go_sem]
    repeat' first
     |(refine qx (hG _) ?_;simp (disch:=omega) only [tkC,hf,k1,k2,e2,e8,k3,k4,go_sem])
     |(refine qm ( .bool false) ?_;simp (disch:=omega) only [tkC,hf,k1,k2,e2,e8,k3,k4,go_sem])
     |((first|refine cA (cI _) ?_ ?_|refine cG (fun e=>cI _) ?_ ?_|refine cA (cI _) ?_ ?_|refine cG (fun e=>cI _) ?_ ?_|refine cA (cP _) ?_ ?_|refine cG (fun e=>cP _) ?_ ?_|refine cA (cM _) ?_ ?_|refine cG (fun e=>cM _) ?_ ?_|refine cU (fun _=>cI _) ?_ ?_|refine cU (fun _=>cI _) ?_ ?_|refine cU (fun _=>cP _) ?_ ?_|refine cU (fun _=>cM _) ?_ ?_);exact flk;simp (disch:=omega) only [tkC,hf,k1,k2,e2,e8,k3,k4,go_sem])
     |((first|apply qd|apply qb);exact rvk;simp only [go_sem];first|exact ql|apply qe|apply qa|apply qf|skip)
     |with_reducible first|apply aiA|intro _
    all_goals try exact clz
   |true=>
    rw [if_neg (by simp)]at hR
    rw [hR]
    refine acO jk ?_
    simp (disch:=omega) only [ki,tkC,hf,k1,k2,e2,e8,k3,k4,go_sem]
    repeat' first
     |(refine qx (hG _) ?_;simp (disch:=omega) only [tkC,hf,k1,k2,e2,e8,k3,k4,go_sem])
     |(refine qm ( .bool false) ?_;simp (disch:=omega) only [tkC,hf,k1,k2,e2,e8,k3,k4,go_sem])
     |((first|refine cA (cI _) ?_ ?_|refine cG (fun e=>cI _) ?_ ?_|refine cA (cI _) ?_ ?_|refine cG (fun e=>cI _) ?_ ?_|refine cA (cP _) ?_ ?_|refine cG (fun e=>cP _) ?_ ?_|refine cA (cM _) ?_ ?_|refine cG (fun e=>cM _) ?_ ?_|refine cU (fun _=>cI _) ?_ ?_|refine cU (fun _=>cI _) ?_ ?_|refine cU (fun _=>cP _) ?_ ?_|refine cU (fun _=>cM _) ?_ ?_);exact flk;simp (disch:=omega) only [tkC,hf,k1,k2,e2,e8,k3,k4,go_sem])
     |((first|apply qd|apply qb);exact rvk;simp only [go_sem];first|exact ql|apply qe|apply qa|apply qf|skip)
     |with_reducible first|apply aiA|intro _
    all_goals try exact clz
  ·have k3:(t.norm=t.text)=False:=eq_false g3
   rw [decide_eq_false g3,if_pos rfl]at hR
   rw [hR]
   refine acO jk ?_
   simp (disch:=omega) only [ki,tkC,hf,k1,k2,e2,e8,k3,go_sem]
   repeat' first
    |(refine qx (hG _) ?_;simp (disch:=omega) only [tkC,hf,k1,k2,e2,e8,k3,go_sem])
    |(refine qm ( .bool false) ?_;simp (disch:=omega) only [tkC,hf,k1,k2,e2,e8,k3,go_sem])
    |((first|refine cA (cI _) ?_ ?_|refine cG (fun e=>cI _) ?_ ?_|refine cA (cI _) ?_ ?_|refine cG (fun e=>cI _) ?_ ?_|refine cU (fun _=>cI _) ?_ ?_|refine cU (fun _=>cI _) ?_ ?_);exact flk;simp (disch:=omega) only [tkC,hf,k1,k2,e2,e8,k3,go_sem])
    |((first|apply qd|apply qb);exact rvk;simp only [go_sem];first|exact ql|apply qe|apply qa|apply qf|skip)
    |with_reducible first|apply aiA|intro _
   all_goals try exact clz
 ·rw [hR]
  refine acO jk ?_
  simp (disch:=omega) only [ki,tkC,hf,k1,k2,e2,e8,go_sem]
  repeat' first
   |((first|apply qd|apply qb);exact rvk;simp only [go_sem];first|exact ql|apply qe|apply qa|apply qf|skip)
   |with_reducible first|apply aiA|intro _
  all_goals try exact clz
end RC
end
section
open Go Go.Proofs AF
def ju:List Nat:= []
theorem qBh:qN Tryz.prog 41 19 0 [RV.tmp 4] (cIF 1 none):=fi Tryz.f41 [] ju []
theorem qBl:qN Tryz.prog 54 9 0 [RV.tmp 4] (cCT 128):=fi Tryz.f54 [] ju []
theorem qBs:qN Tryz.prog 90 9 0 [RV.tmp 4] (cCT 159):=fi Tryz.f90 [] ju []
theorem qtM:qN Tryz.prog 92 9 0 [RV.tmp 4] (cCT 106):=fi Tryz.f92 [] ju []
theorem qBv:qN Tryz.prog 94 9 0 [RV.tmp 4] (cCT 41):=fi Tryz.f94 [] ju []
theorem qeV:qN Tryz.prog 106 19 0 [RV.tmp 4] (cIF 7 (some 7)):=fi Tryz.f106 [] ju []
theorem qlu:qN Tryz.prog 127 19 0 [RV.tmp 4] (cIF 2 (some 2)):=fi Tryz.f127 [] ju []
theorem qrx:qN Tryz.prog 128 19 0 [RV.tmp 4] (cIF 3 (some 3)):=fi Tryz.f128 [] ju []
theorem qxR:qN Tryz.prog 159 19 0 [RV.tmp 4] (cIF 1 none):=fi Tryz.f159 [] ju []
theorem qx6:qN Tryz.prog 205 9 0 [RV.tmp 4] (cCT 246):=fi Tryz.f205 [] ju []
theorem qyj:qN Tryz.prog 246 19 0 [RV.tmp 4] (cIF 6 (some 6)):=fi Tryz.f246 [] ju []
theorem qym:qN Tryz.prog 253 9 0 [RV.tmp 4] (cCT 293):=fi Tryz.f253 [] ju []
def qsH:C:=
 ((C.ops [MC 6 (.bool false)]).seq (((C.ops [MV 10 0,O1 11 .len 10,MV 12 1,O1 13 .len 12,BI 14 .neq 11 13]).seq (C.cond (.t 14) ((C.ops [MC 6 (.bool false)]).seq C.ret)
 C.skip)).seq (((C.ops [MV 15 0,O1 16 .len 15,MC 17 (i6 0)]).seq (C.block 0 ((C.ops [BI 18 .lss 17 16]).seq ((C.cond (.t 18) C.skip (C.exit 0)).seq ((C.block 1 ((C.ops [MV 19 17,
 O2 20 (.idxA 2) 15 17,O1 21 (.load (some 2)) 20,⟨some 8,none,.alloc 0 89 [.nl,.nl],[]⟩,MV 7 19,ST 2 8 21]).seq ((C.ops [MV 22 1,MV 23 7,O2 24 (.idxA 2) 22 23,O1 25
 (.load (some 2)) 24,⟨some 9,none,.alloc 1 89 [.nl,.nl],[]⟩,ST 2 9 25]).seq ((C.ops [MV 26 2,O1 27 (.load (some 2)) 8,O1 28 (.load (some 2)) 9,ON 29 .callv [.t 26,.t 27,
 .t 28],O1 30 (.un UnOp.not) 29]).seq (C.cond (.t 30) ((C.ops [MC 6 (.bool false)]).seq C.ret) C.skip))))).seq (C.ops [BC 31 .add 17 (i6 1),MV 17 31])))).loop)).seq ((C.ops [MC 6
 (.bool true)]).seq
 C.ret))))
theorem qrF:qN Tryz.prog 272 32 2 [RV.tmp 6] qsH:=fi Tryz.f272 [8,9] ju []
theorem qyx:qN Tryz.prog 293 19 0 [RV.tmp 4] (cIF 1 none):=fi Tryz.f293 [] ju []
end
section
open Go Go.Proofs AF HY LN
namespace RC
structure qri (x:Co):Prop where
 sc:x.sec.length≤1000000000
 sg:x.sig.length≤1000000000
 ss: ∀i,(x.sig.getD i []).length≤1000000000
 tk:x.tok.length≤1000000000
 tl: ∀i,(x.tok.getD i []).length≤1000000000
 te: ∀i j,qse ((x.tok.getD i []).getD j default)
 cl:x.col.length≤1000000000
 ce: ∀i,(x.col.getD i []).length≤1000000000
theorem qBW (s:Str) (h:List AObj) (hs:s.length≤1000000000):ACalls Tryz.prog 204 [.str s] h (.bool (qqx s)) h:=by
 have c1:=fun h=>qrq s h hs
 unfold qqx
 cases g:qhx s with
 |true=>
  rw [g]at c1
  simp only [if_true]at c1
  have c2:=fun h=>t44 (s.take (s.length-1)) h (by simp;omega)
  rw [if_pos rfl]
  cases g2:jN (s.take (s.length-1))with
  |true=>
   rw [g2]at c2
   have k7:decide ((s.length:Int)≤16)=decide (s.length≤16):=decide_eq_decide.2 (by omega)
   refine acO qg6 ?_
   simp (disch:=omega) only [qkw,go_sem]
   repeat' first
    |((first|refine cA (c1 _) ?_ ?_|refine cG (fun e=>c1 _) ?_ ?_|refine cA (c2 _) ?_ ?_|refine cG (fun e=>c2 _) ?_ ?_|refine cU (fun _=>c1 _) ?_ ?_|refine cU (fun _=>c2 _) ?_ ?_);exact flk;simp (disch:=omega) only [k7,go_sem])
    |((first|apply qd|apply qb);exact rvk;simp only [go_sem];first|exact ql|apply qe|apply qa|apply qf|skip)
    |with_reducible first|apply aiA|intro _
   all_goals try exact clz
  |false=>
   rw [g2]at c2
   refine acO qg6 ?_
   simp (disch:=omega) only [qkw,go_sem]
   repeat' first
    |((first|refine cA (c1 _) ?_ ?_|refine cG (fun e=>c1 _) ?_ ?_|refine cA (c2 _) ?_ ?_|refine cG (fun e=>c2 _) ?_ ?_|refine cU (fun _=>c1 _) ?_ ?_|refine cU (fun _=>c2 _) ?_ ?_);exact flk;simp (disch:=omega) only [go_sem])
    |((first|apply qd|apply qb);exact rvk;simp only [go_sem];first|exact ql|apply qe|apply qa|apply qf|skip)
    |with_reducible first|apply aiA|intro _
   all_goals try exact clz
 |false=>
  rw [g]at c1
  rw [if_neg (by simp)]at c1 ⊢
  have c2:=fun h=>t44 s h hs
  cases g2:jN s with
  |true=>
   rw [g2]at c2
   refine acO qg6 ?_
   simp (disch:=omega) only [qkw,go_sem]
   repeat' first
    |((first|refine cA (c1 _) ?_ ?_|refine cG (fun e=>c1 _) ?_ ?_|refine cA (c2 _) ?_ ?_|refine cG (fun e=>c2 _) ?_ ?_|refine cU (fun _=>c1 _) ?_ ?_|refine cU (fun _=>c2 _) ?_ ?_);exact flk;simp (disch:=omega) only [go_sem])
    |((first|apply qd|apply qb);exact rvk;simp only [go_sem];first|exact ql|apply qe|apply qa|apply qf|skip)
    |with_reducible first|apply aiA|intro _
   all_goals try exact clz
  |false=>
   rw [g2]at c2
   refine acO qg6 ?_
   simp (disch:=omega) only [qkw,go_sem]
   repeat' first
    |((first|refine cA (c1 _) ?_ ?_|refine cG (fun e=>c1 _) ?_ ?_|refine cA (c2 _) ?_ ?_|refine cG (fun e=>c2 _) ?_ ?_|refine cU (fun _=>c1 _) ?_ ?_|refine cU (fun _=>c2 _) ?_ ?_);exact flk;simp (disch:=omega) only [go_sem])
    |((first|apply qd|apply qb);exact rvk;simp only [go_sem];first|exact ql|apply qe|apply qa|apply qf|skip)
    |with_reducible first|apply aiA|intro _
   all_goals try exact clz
theorem qDT (t:Tk) (h:List AObj) (hz:qse t) (hp:qba SG h):ACalls Tryz.prog 206 [.agg (tkC t)] h (.bool (!decide (tkE t=0))) h:=by
 have c1:=fun l=>tkP t (h++l) hz (hp.app l)
 obtain ⟨e,he⟩: ∃e,e=tkE t:=⟨_,rfl⟩
 rw [←he]at c1 ⊢
 unfold tkC at c1
 refine acO qx7 ?_
 simp (disch:=omega) only [qwz,tkC,go_sem]
 repeat' first
  |((first|refine cA (c1 _) ?_ ?_|refine cG (fun e=>c1 _) ?_ ?_|refine cU (fun _=>c1 _) ?_ ?_);exact flk;simp (disch:=omega) only [tkC,go_sem])
  |((first|apply qd|apply qb);exact rvk;simp only [go_sem];first|exact ql|apply qe|apply qa|apply qf|skip)
  |with_reducible first|apply aiA|intro _
 all_goals try exact clz
theorem qC6 (l:List Tk) (h:List AObj) (hl:l.length≤1000000000) (hz: ∀j,qse (l.getD j default)) (hp:qba SG h):
  ACalls Tryz.prog 205 [jL l,.fn (.func 206) [] []] h (.bool (zd (fun j=> !decide (tkE (l.getD j default)=0)) l.length)) h:=by
 unfold jL
 refine qjo qx6 ⟨rfl,rfl⟩ ⟨rfl,rfl⟩ (qaz qyj l.length (fun j=>tkC (l.getD j default)) (fun j=> .agg (tkC (l.getD j default))) _ [] [] _ h (fun i _=>⟨rfl,by simp [jj,tkC],rfl,rfl,rfl⟩) (fun i _=> ?_) (by omega))
 exact qDT _ h (hz i) hp
theorem qDU (x:Co) (h:List AObj) (hz:qri x) (hp:qba SG h):ACalls Tryz.prog 152 [.str x.sec,strs x.sig,qq x.tok] h (.int .i64 (srE x)) h:=by
 obtain ⟨R,hR⟩: ∃R,R=srE x:=⟨_,rfl⟩
 rw [←hR]
 unfold srE at hR
 have z1:=hz.sg
 have z2:=hz.tk
 have cN:=fun h=>t44 x.sec h hz.sc
 cases g0:jN x.sec with
 |false=>
  rw [g0]at cN
  rw [if_pos g0]at hR
  rw [hR]
  refine acO qg3 ?_
  simp (disch:=omega) only [qkt,strs,qq,go_sem]
  repeat' first
   |((first|refine cA (cN _) ?_ ?_|refine cG (fun e=>cN _) ?_ ?_|refine cU (fun _=>cN _) ?_ ?_);exact flk;simp (disch:=omega) only [strs,qq,go_sem])
   |((first|apply qd|apply qb);exact rvk;simp only [go_sem];first|exact ql|apply qe|apply qa|apply qf|skip)
   |with_reducible first|apply aiA|intro _
  all_goals try exact clz
 |true=>
 rw [g0]at cN
 rw [if_neg (by rw [g0];simp)]at hR
 by_cases g1:x.sig.length=0
 ·have k1:((x.sig.length:Int)=0)=True:=eq_true (by omega)
  rw [if_pos g1]at hR
  rw [hR]
  refine acO qg3 ?_
  simp (disch:=omega) only [qkt,strs,qq,k1,go_sem]
  repeat' first
   |((first|refine cA (cN _) ?_ ?_|refine cG (fun e=>cN _) ?_ ?_|refine cU (fun _=>cN _) ?_ ?_);exact flk;simp (disch:=omega) only [strs,qq,k1,go_sem])
   |((first|apply qd|apply qb);exact rvk;simp only [go_sem];first|exact ql|apply qe|apply qa|apply qf|skip)
   |with_reducible first|apply aiA|intro _
  all_goals try exact clz
 have k1:((x.sig.length:Int)=0)=False:=eq_false (by omega)
 rw [if_neg g1]at hR
 by_cases g2:32<x.sig.length
 ·have k2:((32:Int)<x.sig.length)=True:=eq_true (by omega)
  rw [if_pos g2]at hR
  rw [hR]
  refine acO qg3 ?_
  simp (disch:=omega) only [qkt,strs,qq,k1,k2,go_sem]
  repeat' first
   |((first|refine cA (cN _) ?_ ?_|refine cG (fun e=>cN _) ?_ ?_|refine cU (fun _=>cN _) ?_ ?_);exact flk;simp (disch:=omega) only [strs,qq,k1,k2,go_sem])
   |((first|apply qd|apply qb);exact rvk;simp only [go_sem];first|exact ql|apply qe|apply qa|apply qf|skip)
   |with_reducible first|apply aiA|intro _
  all_goals try exact clz
 have k2:((32:Int)<x.sig.length)=False:=eq_false (by omega)
 rw [if_neg g2]at hR
 refine acO qg3 ?_
 simp (disch:=omega) only [qkt,strs,qq,k1,k2,go_sem]
 repeat' first
  |((first|refine cA (cN _) ?_ ?_|refine cG (fun e=>cN _) ?_ ?_|refine cU (fun _=>cN _) ?_ ?_);exact flk;simp (disch:=omega) only [strs,qq,k1,k2,go_sem])
  |((first|apply qd|apply qb);exact rvk;simp only [go_sem];first|exact ql|apply qe|apply qa|apply qf|skip)
  |with_reducible first|apply aiA|intro _
 all_goals try exact clz
 refine qt (T:=fun i:Nat=>qT 56 [(1,strs x.sig),(2,qq x.tok),(23,strs x.sig),(24,.int .i64 x.sig.length),(25,.int .i64 i)]) (H:=fun _=>h) (inv:=fun i=>i≤x.sig.length∧ ∀j,j<i→jO x.sig j=0) (m:=fun i=>x.sig.length-i) 0 ⟨Nat.zero_le _,fun j hj=>by omega⟩ (Wk.temps ?_) ?_
 ·(simp only [strs,qq,go_sem,qk,qh,qg,qj];try (repeat' first|(with_reducible apply aiA)|(apply qe;omega)|(apply qa;rfl)|exact ql))
 rintro i ⟨i1,i2⟩ K hK
 by_cases hi:i<x.sig.length
 ·have k3:((i:Int)<x.sig.length)=True:=eq_true (by omega)
  have k4:((i:Int)≤x.sig.length)=True:=eq_true (by omega)
  have hE:=jr (f:=jO x.sig) hi i2
  have hs:jO x.sig i=if qqx (x.sig.getD i [])=false then 14 else if zd (fun j=>decide (x.sig.getD i []=x.sig.getD j [])) i=true then 7 else 0:=rfl
  have c87:=fun h=>qBW (x.sig.getD i []) h (hz.ss i)
  have c88:=fun h=>qk0 i (fun j=>x.sig.getD j []) (x.sig.getD i []) h (by omega)
  obtain ⟨s,hsx⟩: ∃s,s=x.sig.getD i []:=⟨_,rfl⟩
  have es:=hsx.symm
  rw [es]at hs c87
  simp only [es]at hs c88
  cases g3:qqx s with
  |false=>
   rw [g3]at c87
   rw [if_pos g3]at hs
   have hne:qbk (jO x.sig) 0 x.sig.length≠0:=by rw [hE (by rw [hs];decide),hs];decide
   have hV:R=14:=by rw [hR,if_pos hne,hE (by rw [hs];decide),hs]
   rw [hV]
   simp (disch:=omega) only [strs,qq,k3,k4,es,go_sem]
   repeat' first
    |((first|refine cA (c87 _) ?_ ?_|refine cG (fun e=>c87 _) ?_ ?_|refine cU (fun _=>c87 _) ?_ ?_);exact flk;simp (disch:=omega) only [strs,qq,k3,k4,es,go_sem])
    |((first|apply qd|apply qb);exact rvk;simp only [go_sem];first|exact ql|apply qe|apply qa|apply qf|skip)
    |with_reducible first|apply aiA|intro _
   all_goals try exact clz
  |true=>
  rw [g3]at c87
  rw [if_neg (by rw [g3];simp)]at hs
  cases g4:zd (fun j=>decide (s=x.sig.getD j [])) i with
  |true=>
   rw [g4]at c88
   rw [if_pos g4]at hs
   have hne:qbk (jO x.sig) 0 x.sig.length≠0:=by rw [hE (by rw [hs];decide),hs];decide
   have hV:R=7:=by rw [hR,if_pos hne,hE (by rw [hs];decide),hs]
   rw [hV]
   simp (disch:=omega) only [strs,qq,k3,k4,es,Nat.sub_zero,go_sem]
   repeat' first
    |((first|refine cA (c87 _) ?_ ?_|refine cG (fun e=>c87 _) ?_ ?_|refine cA (c88 _) ?_ ?_|refine cG (fun e=>c88 _) ?_ ?_|refine cU (fun _=>c87 _) ?_ ?_|refine cU (fun _=>c88 _) ?_ ?_);exact flk;simp (disch:=omega) only [strs,qq,k3,k4,es,Nat.sub_zero,go_sem])
    |((first|apply qd|apply qb);exact rvk;simp only [go_sem];first|exact ql|apply qe|apply qa|apply qf|skip)
    |with_reducible first|apply aiA|intro _
   all_goals try exact clz
  |false=>
   rw [g4]at c88
   rw [if_neg (by rw [g4];simp)]at hs
   simp (disch:=omega) only [strs,qq,k3,k4,es,Nat.sub_zero,go_sem]
   repeat' first
    |((first|refine cA (c87 _) ?_ ?_|refine cG (fun e=>c87 _) ?_ ?_|refine cA (c88 _) ?_ ?_|refine cG (fun e=>c88 _) ?_ ?_|refine cU (fun _=>c87 _) ?_ ?_|refine cU (fun _=>c88 _) ?_ ?_);exact flk;simp (disch:=omega) only [strs,qq,k3,k4,es,Nat.sub_zero,go_sem])
    |((first|apply qd|apply qb);exact rvk;simp only [go_sem];first|exact ql|apply qe|apply qa|apply qf|skip)
    |with_reducible first|apply aiA|intro _
   all_goals try exact clz
   refine hK _ _ (i+1) ⟨hi,fun j hj=> ?_⟩ (by omega) (Wk.temps ?_)
   ·by_cases e:j=i
    ·subst e;exact hs
    ·exact i2 j (by omega)
   ·(simp only [strs,qq,go_sem,qk,qh,qg,qj];try (repeat' first|(with_reducible apply aiA)|(apply qe;omega)|(apply qa;rfl)|exact ql))
 have k3:((i:Int)<x.sig.length)=False:=eq_false (by omega)
 have hn0:=qY (f:=jO x.sig) (fun j (hj:j<x.sig.length)=>i2 j (by omega))
 rw [if_neg (fun hc=>hc hn0)]at hR
 by_cases g5:x.tok.length=x.sig.length
 case neg=>
  have k5:((x.tok.length:Int)=x.sig.length)=False:=eq_false (by omega)
  rw [if_pos g5]at hR
  rw [hR]
  simp (disch:=omega) only [strs,qq,k3,k5,go_sem]
  repeat' first
   |((first|apply qd|apply qb);exact rvk;simp only [go_sem];first|exact ql|apply qe|apply qa|apply qf|skip)
   |with_reducible first|apply aiA|intro _
  all_goals try exact clz
 have k5:((x.tok.length:Int)=x.sig.length)=True:=eq_true (by omega)
 rw [if_neg (fun hc=>hc g5)]at hR
 clear hK
 simp (disch:=omega) only [strs,qq,k3,k5,go_sem]
 repeat' first
  |((first|apply qd|apply qb);exact rvk;simp only [go_sem];first|exact ql|apply qe|apply qa|apply qf|skip)
  |with_reducible first|apply aiA|intro _
 all_goals try exact clz
 obtain ⟨rw0,hrw⟩: ∃f:Nat→Int,f=fun i=>qi6 (x.tok.getD i []):=⟨_,rfl⟩
 have er: ∀i,rw0 i=qi6 (x.tok.getD i []):=fun i=>by rw [hrw]
 rw [←hrw]at hR
 refine qt (T:=fun i:Nat=>qT 56 [(44,qq x.tok),(45,.int .i64 x.tok.length),(46,.int .i64 i)]) (H:=fun _=>h) (inv:=fun i=>i≤x.tok.length∧ ∀j,j<i→rw0 j=0) (m:=fun i=>x.tok.length-i) 0 ⟨Nat.zero_le _,fun j hj=>by omega⟩ (Wk.temps ?_) ?_
 ·(simp only [strs,qq,go_sem,qk,qh,qg,qj];try (repeat' first|(with_reducible apply aiA)|(apply qe;omega)|(apply qa;rfl)|exact ql))
 rintro i ⟨i1,i2⟩ K hK
 by_cases hi:i<x.tok.length
 ·have k6:((i:Int)<x.tok.length)=True:=eq_true (by omega)
  have hE:=jr (f:=rw0) hi i2
  have hs:=er i
  have zl:=hz.tl i
  have zt:=hz.te i
  obtain ⟨l,hl⟩: ∃l,l=x.tok.getD i []:=⟨_,rfl⟩
  have el:=hl.symm
  rw [el]at hs zl
  simp only [el]at zt
  unfold qi6 at hs
  by_cases g6:1024<l.length
  ·have k7:((1024:Int)<l.length)=True:=eq_true (by omega)
   rw [if_pos g6]at hs
   have hV:R=4:=by rw [hR,hE (by rw [hs];decide),hs]
   rw [hV]
   simp (disch:=omega) only [qq,jL,k6,k7,el,go_sem]
   repeat' first
    |((first|apply qd|apply qb);exact rvk;simp only [go_sem];first|exact ql|apply qe|apply qa|apply qf|skip)
    |with_reducible first|apply aiA|intro _
   all_goals try exact clz
  have k7:((1024:Int)<l.length)=False:=eq_false (by omega)
  rw [if_neg g6]at hs
  have cT:=qC6 l h zl zt hp
  have eA:zd (fun j=>decide (tkE (l.getD j default)≠0)) l.length=zd (fun j=> !decide (tkE (l.getD j default)=0)) l.length:=qhL fun j _=>by simp
  rw [eA]at hs
  unfold jL at cT
  obtain ⟨b,hb⟩: ∃b,b=zd (fun j=> !decide (tkE (l.getD j default)=0)) l.length:=⟨_,rfl⟩
  rw [←hb]at hs cT
  cases b with
  |true=>
   rw [if_pos rfl]at hs
   have hV:R=1:=by rw [hR,hE (by rw [hs];decide),hs]
   rw [hV]
   simp (disch:=omega) only [qq,jL,k6,k7,el,go_sem]
   repeat' first
    |((first|refine cA (cT) ?_ ?_|refine cG (fun e=>cT) ?_ ?_);exact flk;simp (disch:=omega) only [qq,jL,k6,k7,el,go_sem])
    |((first|apply qd|apply qb);exact rvk;simp only [go_sem];first|exact ql|apply qe|apply qa|apply qf|skip)
    |with_reducible first|apply aiA|intro _
   all_goals try exact clz
  |false=>
   rw [if_neg (by simp)]at hs
   simp (disch:=omega) only [qq,jL,k6,k7,el,go_sem]
   repeat' first
    |((first|refine cA (cT) ?_ ?_|refine cG (fun e=>cT) ?_ ?_);exact flk;simp (disch:=omega) only [qq,jL,k6,k7,el,go_sem])
    |((first|apply qd|apply qb);exact rvk;simp only [go_sem];first|exact ql|apply qe|apply qa|apply qf|skip)
    |with_reducible first|apply aiA|intro _
   all_goals try exact clz
   refine hK _ _ (i+1) ⟨hi,fun j hj=> ?_⟩ (by omega) (Wk.temps ?_)
   ·by_cases e:j=i
    ·subst e;exact hs
    ·exact i2 j (by omega)
   ·(simp only [qq,jL,go_sem,qk,qh,qg,qj];try (repeat' first|(with_reducible apply aiA)|(apply qe;omega)|(apply qa;rfl)|exact ql))
 ·have k6:((i:Int)<x.tok.length)=False:=eq_false (by omega)
  rw [qY (fun j (hj:j<x.tok.length)=>i2 j (by omega))]at hR
  rw [hR]
  simp (disch:=omega) only [qq,k6,go_sem]
  repeat' first
   |((first|apply qd|apply qb);exact rvk;simp only [go_sem];first|exact ql|apply qe|apply qa|apply qf|skip)
   |with_reducible first|apply aiA|intro _
  all_goals try exact clz
theorem qDF (l:List Tk) (h:List AObj):ACalls Tryz.prog 254 [jL l] h (.bool (decide (1024<l.length))) h:=by
 have k:decide ((1024:Int)<l.length)=decide (1024<l.length):=decide_eq_decide.2 (by omega)
 refine acO qyn ?_
 simp (disch:=omega) only [qwM,jL,go_sem]
 repeat' first
  |((first|apply qd|apply qb);exact rvk;simp only [go_sem];first|exact ql|apply qe|apply qa|apply qf|skip)
  |with_reducible first|apply aiA|intro _
 all_goals try exact clz
theorem qDG (L:List (List Tk)) (h:List AObj) (h1:0<L.length) (h2:L.length≤32) (h3: ∀s,s<L.length→(L.getD s []).length≤1024):ACalls Tryz.prog 208 [qq L] h (.int .i64 0) h:=by
 have k1:((L.length:Int)=0)=False:=eq_false (by omega)
 have k2:((32:Int)<L.length)=False:=eq_false (by omega)
 have c: ∀h,ACalls Tryz.prog 253 [qq L,.fn (.func 254) [] []] h (.bool false) h:=fun h=>by
  have e:zd (fun j=>decide (1024<(L.getD j []).length)) L.length=false:=qp.2 fun s hs=>decide_eq_false (by have:=h3 s hs;omega)
  rw [←e]
  unfold qq
  refine qjo qym ⟨rfl,rfl⟩ ⟨rfl,rfl⟩ (qaz qyx L.length (fun j=> [jL (L.getD j [])]) (fun j=>jL (L.getD j [])) _ [] [] _ h (fun i _=>⟨rfl,by simp [jj],rfl,rfl,rfl⟩) (fun i _=> ?_) (by omega))
  exact qDF _ h
 unfold qq at c
 refine acO qx8 ?_
 simp (disch:=omega) only [qwA,qq,k1,k2,go_sem]
 repeat' first
  |((first|refine cA (c _) ?_ ?_|refine cG (fun e=>c _) ?_ ?_|refine cU (fun _=>c _) ?_ ?_);exact flk;simp (disch:=omega) only [qq,k1,k2,go_sem])
  |((first|apply qd|apply qb);exact rvk;simp only [go_sem];first|exact ql|apply qe|apply qa|apply qf|skip)
  |with_reducible first|apply aiA|intro _
 all_goals try exact clz
def gC (g:Nat→AV) (n:Nat):List AV:=(List.range n).map g
theorem qax (g:Nat→AV) (n:Nat):(gC g n).length=n:=by simp [gC]
theorem qcS {g:Nat→AV} {n k:Nat} (hk:k<n):(gC g n)[k]? =some (g k):=by
 unfold gC
 rw [List.getElem?_map,List.getElem?_range hk]
 rfl
theorem qaI {p q:Nat→AV} {n:Nat} (h: ∀k,k<n→p k=q k):gC p n=gC q n:=by
 unfold gC
 exact List.map_congr_left fun k hk=>by rw [h k (List.mem_range.1 hk)]
theorem qrO {g:Nat→AV} {n u:Nat} (x:AV) (hu:u<n):List.take u (gC g n)++ [x]++List.drop (u+1) (gC g n)=gC (fun k=>if k=u then x else g k) n:=by
 refine List.ext_getElem? fun k=> ?_
 by_cases hk:k<n
 ·rw [qcS hk]
  by_cases h1:k<u
  ·rw [List.append_assoc,List.getElem?_append_left (by rw [List.length_take,qax];omega),List.getElem?_take_of_lt h1,qcS hk,if_neg (by omega)]
  ·by_cases h2:k=u
   ·subst h2
    rw [List.append_assoc,List.getElem?_append_right (by rw [List.length_take,qax];omega),List.length_take,qax,show k-min k n=0 by omega,if_pos rfl]
    rfl
   ·rw [List.getElem?_append_right (by rw [List.length_append,List.length_take,qax];simp only [List.length_cons,List.length_nil];omega),List.length_append,List.length_take,qax,List.getElem?_drop]
    simp only [List.length_cons,List.length_nil]
    rw [show u+1+(k-(min u n+(0+1)))=k by omega,qcS hk,if_neg h2]
 ·rw [List.getElem?_eq_none (by simp only [List.length_append,List.length_take,List.length_drop,qax,List.length_cons,List.length_nil];omega),List.getElem?_eq_none (by rw [qax];omega)]
theorem qlE (z:AV) (n:Nat):q9 [z] n=gC (fun _=>z) n:=by
 induction n with
 |zero=>rfl
 |succ n ih=>
  have e:gC (fun _=>z) (n+1)=z::gC (fun _=>z) n:=by
   unfold gC
   rw [List.range_succ_eq_map,List.map_cons,List.map_map]
   rfl
  rw [e,←ih]
  rfl
section
variable {tok : List (List Tk)} {col : List (List Int)} {i s : Nat}
theorem qtb (h:(col.getD i []).length≠tok.length):qf0 tok col i=false:=by unfold qf0;rw [decide_eq_false h,Bool.false_and]
theorem qxg (hs:s<tok.length) (h:enB tok col i s=false):qf0 tok col i=false:=by
 unfold qf0
 rw [qG.2 ⟨s,hs,by rw [h];rfl⟩]
 simp
theorem qxh (h1:(col.getD i []).length=tok.length) (h2: ∀s,s<tok.length→enB tok col i s=true):qf0 tok col i=zd (fun s=> !decide ((col.getD i []).getD s 0= -1)) tok.length:=by
 unfold qf0
 rw [decide_eq_true h1,qp.2 (fun s hs=>by rw [h2 s hs];rfl)]
 simp
theorem qAH (hi:i<col.length) (h:qf0 tok col i=false):alB tok col=false:=by
 unfold alB
 rw [qG.2 ⟨i,hi,by rw [h];rfl⟩]
 simp
theorem qv3 (hs:s<tok.length) (h:cnC col s col.length≠(tok.getD s []).length):alB tok col=false:=by
 unfold alB
 rw [qG.2 ⟨s,hs,by rw [decide_eq_false h];rfl⟩,Bool.not_true,Bool.and_false]
theorem qv4 (h1: ∀i,i<col.length→qf0 tok col i=true) (h2: ∀s,s<tok.length→cnC col s col.length=(tok.getD s []).length):alB tok col=true:=by
 unfold alB
 rw [qp.2 (fun i hi=>by rw [h1 i hi];rfl),qp.2 (fun s hs=>by rw [decide_eq_true (h2 s hs)];rfl)]
 rfl
theorem qxd: ∀i,cnC col s i≤i:=by
 intro i
 induction i with
 |zero=>exact Nat.le_refl _
 |succ i ih=>unfold cnC;split<;>omega
def atA (col:List (List Int)) (i s k:Nat):AV:= .int .i64 ((if k<s then cnC col k (i+1) else cnC col k i:Nat):Int)
theorem qv8:atA col i s s= .int .i64 (cnC col s i:Int):=by unfold atA;rw [if_neg (Nat.lt_irrefl _)]
theorem qAK (n:Nat):gC (atA col 0 0) n=gC (fun _=> .int .i64 0) n:=qaI fun k _=>by unfold atA;rw [if_neg (Nat.not_lt_zero _)];rfl
theorem qso (n:Nat):gC (atA col i n) n=gC (atA col (i+1) 0) n:=qaI fun k hk=>by unfold atA;rw [if_pos hk,if_neg (Nat.not_lt_zero _)]
theorem qop {n:Nat} (h:(col.getD i []).getD s 0= -1):gC (atA col i s) n=gC (atA col i (s+1)) n:=qaI fun k hk=>by
 unfold atA
 by_cases e:k=s
 ·subst e
  rw [if_neg (Nat.lt_irrefl _),if_pos (Nat.lt_succ_self _)]
  show _=AV.int .i64 ((cnC col k i+if (col.getD i []).getD k 0= -1 then 0 else 1:Nat):Int)
  rw [if_pos h]
  rfl
 ·by_cases h1:k<s
  ·rw [if_pos h1,if_pos (by omega)]
  ·rw [if_neg h1,if_neg (by omega)]
theorem qoq {n:Nat} (hs:s<n) (h:(col.getD i []).getD s 0≠ -1):List.take s (gC (atA col i s) n)++ [.int .i64 ((cnC col s i:Int)+1)]++List.drop (s+1) (gC (atA col i s) n)=gC (atA col i (s+1)) n:=by
 rw [qrO _ hs]
 refine qaI fun k hk=> ?_
 unfold atA
 by_cases e:k=s
 ·subst e
  rw [if_pos rfl,if_pos (Nat.lt_succ_self _)]
  show _=AV.int .i64 ((cnC col k i+if (col.getD i []).getD k 0= -1 then 0 else 1:Nat):Int)
  rw [if_neg h]
  rfl
 ·rw [if_neg e]
  by_cases h1:k<s
  ·rw [if_pos h1,if_pos (by omega)]
  ·rw [if_neg h1,if_neg (by omega)]
theorem qjv (p:Nat→Bool) (n:Nat):zd p (n+1)=(zd p n||p n):=by
 cases e:zd p n with
 |true=>obtain ⟨i,h1,h2⟩:=qG.1 e;exact qG.2 ⟨i,by omega,h2⟩
 |false=>
  have h:=qp.1 e
  cases e2:p n with
  |true=>exact qG.2 ⟨n,by omega,e2⟩
  |false=>
   refine qp.2 fun i hi=> ?_
   by_cases g:i=n
   ·subst g;exact e2
   ·exact h i (by omega)
end
theorem qCY (tok:List (List Tk)) (col:List (List Int)) (h:List AObj) (hn:tok.length≤1000000000) (hc:col.length≤1000000000) (hl: ∀s,(tok.getD s []).length≤1000000000) (hm: ∀i,(col.getD i []).length≤1000000000):
  ACalls Tryz.prog 209 [qq tok,qn col] h (.bool (alB tok col)) h:=by
 have k0:(0≤(tok.length:Int))=True:=eq_true (by omega)
 have k1:((tok.length:Int)≤9223372036854775807)=True:=eq_true (by omega)
 obtain ⟨R,hR⟩: ∃R,R=alB tok col:=⟨_,rfl⟩
 rw [←hR]
 refine acO qx9 ?_
 simp (disch:=omega) only [qwB,qq,qn,k0,k1,go_sem]
 repeat' first
  |((first|apply qd|apply qb);exact rvk;simp only [go_sem];first|exact ql|apply qe|apply qa|apply qf|skip)
  |with_reducible first|apply aiA|intro _
 all_goals try exact clz
 all_goals try rw [Int.toNat_natCast]
 rw [qlE,←qAK (col:=col)]
 refine qt (T:=fun i:Nat=>qT 76 [(0,qq tok),(5,.osl h.length 1 1 0 tok.length),(15,qn col),(16,.int .i64 col.length),(17,.int .i64 i)])
  (H:=fun i=>h++ [.mem 1 3 (gC (atA col i 0) tok.length)])
  (inv:=fun i=>i≤col.length∧ ∀j,j<i→qf0 tok col j=true) (m:=fun i=>col.length-i) 0 ⟨Nat.zero_le _,fun j hj=>absurd hj (Nat.not_lt_zero j)⟩ (Wk.temps ?_) ?_
 ·(simp only [qq,qn,go_sem,qk,qh,qg,qj];try (repeat' first|(with_reducible apply aiA)|(apply qe;omega)|(apply qa;rfl)|exact ql))
 rintro i ⟨i1,i2⟩ K hK
 by_cases hi:i<col.length
 ·have k2:((i:Int)<col.length)=True:=eq_true (by omega)
  have hno:qf0 tok col i=false→R=false:=fun hx=>by rw [hR];exact qAH hi hx
  have hlen:= @qtb tok col i
  have hen:= @qxg tok col i
  have heq:= @qxh tok col i
  have hskip:= @qop col i
  have hstep:= @qoq col i
  have hmi:=hm i
  have hE: ∀s,enB tok col i s=(decide ((col.getD i []).getD s 0= -1)||(decide ((col.getD i []).getD s 0=(cnC col s i:Int))&&decide ((col.getD i []).getD s 0<((tok.getD s []).length:Int)))):=fun _=>rfl
  obtain ⟨c,hcx⟩: ∃c,c=col.getD i []:=⟨_,rfl⟩
  have ec:=hcx.symm
  rw [ec]at hlen heq hmi
  simp only [ec]at hskip hstep hE
  by_cases g1:c.length=tok.length
  case neg=>
   have k3:((c.length:Int)=tok.length)=False:=eq_false (by omega)
   rw [hno (hlen g1)]
   simp (disch:=omega) only [qq,qn,qo,k2,k3,ec,go_sem]
   repeat' first
    |((first|apply qd|apply qb);exact rvk;simp only [go_sem];first|exact ql|apply qe|apply qa|apply qf|skip)
    |with_reducible first|apply aiA|intro _
   all_goals try exact clz
  have k3:((c.length:Int)=tok.length)=True:=eq_true (by omega)
  have heq:=heq g1
  simp (disch:=omega) only [qq,qn,qo,k2,k3,ec,go_sem]
  repeat' first
   |((first|apply qd|apply qb);exact rvk;simp only [go_sem];first|exact ql|apply qe|apply qa|apply qf|skip)
   |with_reducible first|apply aiA|intro _
  all_goals try exact clz
  refine qt (T:=fun s:Nat=>qT 76 [(0,qq tok),(5,.osl h.length 1 1 0 tok.length),(8,.bool (zd (fun s=> !decide (c.getD s 0= -1)) s)),(15,qn col),(16,.int .i64 col.length),(17,.int .i64 i),(26,qo c),(27,.int .i64 c.length),(28,.int .i64 s)])
   (H:=fun s=>h++ [.mem 1 3 (gC (atA col i s) tok.length)])
   (inv:=fun s=>s≤c.length∧ ∀j,j<s→enB tok col i j=true) (m:=fun s=>c.length-s) 0 ⟨Nat.zero_le _,fun j hj=>absurd hj (Nat.not_lt_zero j)⟩ (Wk.temps ?_) ?_
  ·(simp only [qq,qn,qo,go_sem,qk,qh,qg,qj];try (repeat' first|(with_reducible apply aiA)|(apply qe;omega)|(apply qa;rfl)|exact ql))
  rintro s ⟨s1,s2⟩ K2 hK2
  by_cases hs:s<c.length
  ·have t1:((s:Int)<c.length)=True:=eq_true (by omega)
   have t0:(0≤(s:Int))=True:=eq_true (by omega)
   have hsn:s<tok.length:=by omega
   have t2:((s:Int)<tok.length)=True:=eq_true (by omega)
   have t3:(s<tok.length)=True:=eq_true hsn
   have t4:(s+1≤tok.length)=True:=eq_true hsn
   have gl:=qax (atA col i s) tok.length
   have gg:=qcS (g:=atA col i s) hsn
   rw [qv8]at gg
   have hsk:=hskip (s:=s) (n:=tok.length)
   have hst:=hstep (s:=s) hsn
   have hcn:= @qxd col s i
   have hlt:=hl s
   have hEs:=hE s
   have hap:=qjv (fun s=> !decide (c.getD s 0= -1)) s
   obtain ⟨t,ht⟩: ∃t,t=c.getD s 0:=⟨_,rfl⟩
   obtain ⟨l,hlx⟩: ∃l,l=tok.getD s []:=⟨_,rfl⟩
   have et:=ht.symm
   have el:=hlx.symm
   rw [et]at hsk hst hEs
   rw [el]at hEs hlt
   simp only [et]at hap
   obtain ⟨a,ha⟩: ∃a,a=zd (fun s=> !decide (c.getD s 0= -1)) s:=⟨_,rfl⟩
   have ea:=ha.symm
   rw [ea]at hap
   obtain ⟨q,hq⟩: ∃q:Nat,q=cnC col s i:=⟨_,rfl⟩
   have eq:=hq.symm
   rw [eq]at hst hEs hcn gg
   have b2:((q:Int)+1≤9223372036854775807)=True:=eq_true (by omega)
   have b3:(-9223372036854775808≤(q:Int)+1)=True:=eq_true (by omega)
   by_cases g2:t= -1
   ·have k4:(t= -1)=True:=eq_true g2
    rw [decide_eq_true g2,Bool.true_or]at hEs
    have hap':zd (fun s=> !decide (c.getD s 0= -1)) (s+1)=a:=by rw [hap,decide_eq_true g2];simp
    simp (disch:=omega) only [qq,qn,qo,t0,t1,t2,t3,t4,k4,et,ea,gl,gg,Nat.mul_one,Nat.zero_add,go_sem]
    repeat' first
     |((first|apply qd|apply qb);exact rvk;simp only [go_sem];first|exact ql|apply qe|apply qa|apply qf|skip)
     |with_reducible first|apply aiA|intro _
    all_goals try exact clz
    rw [hsk g2]
    refine hK2 _ _ (s+1) ⟨hs,fun j hj=> ?_⟩ (by omega) (Wk.temps ?_)
    ·by_cases e:j=s
     ·subst e;exact hEs
     ·exact s2 j (by omega)
    ·rw [hap']
     (simp only [qq,qn,qo,go_sem,qk,qh,qg,qj];try (repeat' first|(with_reducible apply aiA)|(apply qe;omega)|(apply qa;rfl)|exact ql))
   have k4:(t= -1)=False:=eq_false g2
   rw [decide_eq_false g2,Bool.false_or]at hEs
   have hap':zd (fun s=> !decide (c.getD s 0= -1)) (s+1)=true:=by rw [hap,decide_eq_false g2];simp
   by_cases g3:t=(q:Int)
   case neg=>
    have k5:(t=(q:Int))=False:=eq_false g3
    rw [decide_eq_false g3,Bool.false_and]at hEs
    rw [hno (hen hsn hEs)]
    simp (disch:=omega) only [qq,qn,qo,t0,t1,t2,t3,t4,k4,k5,et,ea,gl,gg,Nat.mul_one,Nat.zero_add,go_sem]
    repeat' first
     |((first|apply qd|apply qb);exact rvk;simp only [go_sem];first|exact ql|apply qe|apply qa|apply qf|skip)
     |with_reducible first|apply aiA|intro _
    all_goals try exact clz
   have k5:(t=(q:Int))=True:=eq_true g3
   rw [decide_eq_true g3,Bool.true_and]at hEs
   by_cases g4:(l.length:Int)≤t
   ·have k6:((l.length:Int)≤t)=True:=eq_true g4
    rw [decide_eq_false (by omega)]at hEs
    rw [hno (hen hsn hEs)]
    simp (disch:=omega) only [qq,jL,qn,qo,t0,t1,t2,t3,t4,k4,k5,k6,et,ea,el,gl,gg,Nat.mul_one,Nat.zero_add,go_sem]
    repeat' first
     |((first|apply qd|apply qb);exact rvk;simp only [go_sem];first|exact ql|apply qe|apply qa|apply qf|skip)
     |with_reducible first|apply aiA|intro _
    all_goals try exact clz
   ·have k6:((l.length:Int)≤t)=False:=eq_false g4
    rw [decide_eq_true (by omega)]at hEs
    have hst:=hst g2
    simp (disch:=omega) only [qq,jL,qn,qo,t0,t1,t2,t3,t4,k4,k5,k6,et,ea,el,gl,gg,b2,b3,hst,Nat.mul_one,Nat.zero_add,Option.isSome_some,go_sem]
    repeat' first
     |((first|apply qd|apply qb);exact rvk;simp only [go_sem];first|exact ql|apply qe|apply qa|apply qf|skip)
     |with_reducible first|apply aiA|intro _
    all_goals try exact clz
    try rw [hst]
    refine hK2 _ _ (s+1) ⟨hs,fun j hj=> ?_⟩ (by omega) (Wk.temps ?_)
    ·by_cases e:j=s
     ·subst e;exact hEs
     ·exact s2 j (by omega)
    ·rw [hap']
     (simp only [qq,jL,qn,qo,go_sem,qk,qh,qg,qj];try (repeat' first|(with_reducible apply aiA)|(apply qe;omega)|(apply qa;rfl)|exact ql))
  ·have t1:((s:Int)<c.length)=False:=eq_false (by omega)
   have es:s=tok.length:=by omega
   have heq:=heq fun j hj=>s2 j (by omega)
   rw [←es]at heq
   rw [es]at*
   cases ga:zd (fun s=> !decide (c.getD s 0= -1)) tok.length with
   |false=>
    rw [ga]at heq
    rw [hno heq]
    simp (disch:=omega) only [qq,qn,qo,t1,ga,go_sem]
    repeat' first
     |((first|apply qd|apply qb);exact rvk;simp only [go_sem];first|exact ql|apply qe|apply qa|apply qf|skip)
     |with_reducible first|apply aiA|intro _
    all_goals try exact clz
   |true=>
    rw [ga]at heq
    simp (disch:=omega) only [qq,qn,qo,t1,ga,go_sem]
    repeat' first
     |((first|apply qd|apply qb);exact rvk;simp only [go_sem];first|exact ql|apply qe|apply qa|apply qf|skip)
     |with_reducible first|apply aiA|intro _
    all_goals try exact clz
    rw [qso]
    refine hK _ _ (i+1) ⟨hi,fun j hj=> ?_⟩ (by omega) (Wk.temps ?_)
    ·by_cases e:j=i
     ·subst e;exact heq
     ·exact i2 j (by omega)
    ·(simp only [qq,qn,qo,go_sem,qk,qh,qg,qj];try (repeat' first|(with_reducible apply aiA)|(apply qe;omega)|(apply qa;rfl)|exact ql))
 have k2:((i:Int)<col.length)=False:=eq_false (by omega)
 obtain rfl:i=col.length:=by omega
 clear hK
 simp (disch:=omega) only [qq,qn,k2,go_sem]
 repeat' first
  |((first|apply qd|apply qb);exact rvk;simp only [go_sem];first|exact ql|apply qe|apply qa|apply qf|skip)
  |with_reducible first|apply aiA|intro _
 all_goals try exact clz
 refine qt (T:=fun s:Nat=>qT 76 [(0,qq tok),(5,.osl h.length 1 1 0 tok.length),(61,.int .i64 tok.length),(62,.int .i64 s)])
  (H:=fun _=>h++ [.mem 1 3 (gC (atA col col.length 0) tok.length)])
  (inv:=fun s=>s≤tok.length∧ ∀j,j<s→cnC col j col.length=(tok.getD j []).length) (m:=fun s=>tok.length-s) 0 ⟨Nat.zero_le _,fun j hj=>absurd hj (Nat.not_lt_zero j)⟩ (Wk.temps ?_) ?_
 ·(simp only [qq,qn,go_sem,qk,qh,qg,qj];try (repeat' first|(with_reducible apply aiA)|(apply qe;omega)|(apply qa;rfl)|exact ql))
 rintro s ⟨s1,s2⟩ K hK
 by_cases hs:s<tok.length
 ·have t1:((s:Int)<tok.length)=True:=eq_true (by omega)
  have t0:(0≤(s:Int))=True:=eq_true (by omega)
  have t3:(s<tok.length)=True:=eq_true hs
  have t4:(s+1≤tok.length)=True:=eq_true hs
  have gl:=qax (atA col col.length 0) tok.length
  have gg:=qcS (g:=atA col col.length 0) hs
  have e0:atA col col.length 0 s= .int .i64 (cnC col s col.length:Int):=by unfold atA;rw [if_neg (Nat.not_lt_zero _)]
  rw [e0]at gg
  have hno:= @qv3 tok col s hs
  obtain ⟨q,hq⟩: ∃q:Nat,q=cnC col s col.length:=⟨_,rfl⟩
  have eq:=hq.symm
  have hs2:q=(tok.getD s []).length→cnC col s col.length=(tok.getD s []).length:=fun e=>by rw [←hq];exact e
  rw [eq]at gg hno
  obtain ⟨l,hlx⟩: ∃l,l=tok.getD s []:=⟨_,rfl⟩
  have el:=hlx.symm
  rw [el]at hno hs2
  by_cases g:q=l.length
  ·have k5:((q:Int)=l.length)=True:=eq_true (by omega)
   simp (disch:=omega) only [qq,jL,t0,t1,t3,t4,k5,el,gl,gg,Nat.mul_one,Nat.zero_add,go_sem]
   repeat' first
    |((first|apply qd|apply qb);exact rvk;simp only [go_sem];first|exact ql|apply qe|apply qa|apply qf|skip)
    |with_reducible first|apply aiA|intro _
   all_goals try exact clz
   refine hK _ _ (s+1) ⟨hs,fun j hj=> ?_⟩ (by omega) (Wk.temps ?_)
   ·by_cases e:j=s
    ·subst e;rw [el];exact hs2 g
    ·exact s2 j (by omega)
   ·(simp only [qq,jL,go_sem,qk,qh,qg,qj];try (repeat' first|(with_reducible apply aiA)|(apply qe;omega)|(apply qa;rfl)|exact ql))
  ·have k5:((q:Int)=l.length)=False:=eq_false (by omega)
   rw [hR,hno g]
   simp (disch:=omega) only [qq,jL,t0,t1,t3,t4,k5,el,gl,gg,Nat.mul_one,Nat.zero_add,go_sem]
   repeat' first
    |((first|apply qd|apply qb);exact rvk;simp only [go_sem];first|exact ql|apply qe|apply qa|apply qf|skip)
    |with_reducible first|apply aiA|intro _
   all_goals try exact clz
 ·have t1:((s:Int)<tok.length)=False:=eq_false (by omega)
  rw [hR,qv4 i2 (fun j hj=>s2 j (by omega))]
  simp (disch:=omega) only [qq,t1,go_sem]
  repeat' first
   |((first|apply qd|apply qb);exact rvk;simp only [go_sem];first|exact ql|apply qe|apply qa|apply qf|skip)
   |with_reducible first|apply aiA|intro _
  all_goals try exact clz
theorem qDE (tok:List (List Tk)) (col:List (List Int)) (h:List AObj) (h1:0<tok.length) (h2:tok.length≤32) (h3: ∀s,s<tok.length→(tok.getD s []).length≤1024) (hc:col.length≤1000000000) (hl: ∀s,(tok.getD s []).length≤1000000000) (hm: ∀i,(col.getD i []).length≤1000000000):
  ACalls Tryz.prog 153 [qq tok,qn col] h (.int .i64 (if alB tok col=true then 0 else 19)) h:=by
 have c1:=fun h=>qDG tok h h1 h2 h3
 have c2:=fun h=>qCY tok col h (by omega) hc hl hm
 cases g:alB tok col<;>rw [g]at c2
 all_goals
  refine acO qxQ ?_
  simp (disch:=omega) only [qwn,go_sem]
  repeat' first
   |((first|refine cA (c1 _) ?_ ?_|refine cG (fun e=>c1 _) ?_ ?_|refine cA (c2 _) ?_ ?_|refine cG (fun e=>c2 _) ?_ ?_|refine cU (fun _=>c1 _) ?_ ?_|refine cU (fun _=>c2 _) ?_ ?_);exact flk;simp (disch:=omega) only [go_sem])
   |((first|apply qd|apply qb);exact rvk;simp only [go_sem];first|exact ql|apply qe|apply qa|apply qf|skip)
   |with_reducible first|apply aiA|intro _
  all_goals try exact clz
theorem qzR {x:Co} (h:srE x=0):0<x.sig.length∧x.sig.length≤32∧x.tok.length=x.sig.length∧ ∀s,s<x.tok.length→(x.tok.getD s []).length≤1024:=by
 unfold srE at h
 split at h
 ·cases h
 split at h
 ·cases h
 rename_i g2
 split at h
 ·cases h
 rename_i g3
 split at h
 ·rename_i g4;exact absurd h g4
 split at h
 ·cases h
 rename_i g5
 have h3:=jZ.1 h
 refine ⟨by omega,by omega,Classical.not_not.1 g5,fun s hs=> ?_⟩
 have:=h3 s hs
 unfold qi6 at this
 split at this
 ·cases this
 ·omega
theorem coP (x:Co) (h:List AObj) (hz:qri x) (hp:qba SG h):ACalls Tryz.prog 81 [.agg (coC x)] h (.int .i64 (coE x)) h:=by
 have c1:=fun l=>qDU x (h++l) hz (hp.app l)
 unfold coE
 by_cases g:srE x=0
 case neg=>
  have k1:(srE x=0)=False:=eq_false g
  rw [if_pos g]
  obtain ⟨e,he⟩: ∃e,e=srE x:=⟨_,rfl⟩
  rw [←he]at c1 k1 ⊢
  unfold strs qq at c1
  refine acO qyL ?_
  simp (disch:=omega) only [qAT,coC,strs,qq,go_sem]
  repeat' first
   |((first|refine cA (c1 _) ?_ ?_|refine cG (fun e=>c1 _) ?_ ?_|refine cU (fun _=>c1 _) ?_ ?_);exact flk;simp (disch:=omega) only [coC,strs,qq,k1,go_sem])
   |((first|apply qd|apply qb);exact rvk;simp only [go_sem];first|exact ql|apply qe|apply qa|apply qf|skip)
   |with_reducible first|apply aiA|intro _
  all_goals try exact clz
 rw [if_neg (fun hc=>hc g)]
 obtain ⟨o1,o2,o3,o4⟩:=qzR g
 have c2:=fun h=>qDE x.tok x.col h (by omega) (by omega) o4 hz.cl hz.tl hz.ce
 rw [g]at c1
 unfold strs qq at c1
 unfold qq qn at c2
 cases g2:alB x.tok x.col<;>rw [g2]at c2
 all_goals
  refine acO qyL ?_
  simp (disch:=omega) only [qAT,coC,strs,qq,qn,go_sem]
  repeat' first
   |((first|refine cA (c1 _) ?_ ?_|refine cG (fun e=>c1 _) ?_ ?_|refine cA (c2 _) ?_ ?_|refine cG (fun e=>c2 _) ?_ ?_|refine cU (fun _=>c1 _) ?_ ?_|refine cU (fun _=>c2 _) ?_ ?_);exact flk;simp (disch:=omega) only [coC,strs,qq,qn,go_sem])
   |((first|apply qd|apply qb);exact rvk;simp only [go_sem];first|exact ql|apply qe|apply qa|apply qf|skip)
   |with_reducible first|apply aiA|intro _
  all_goals try exact clz
end RC
end
section
open Go Go.Proofs AF
def zR:List Nat:= []
def qsL:C:=
 ((C.ops [O1 3 (.box 0 26) 0,MC 6 (.str []),MC 7 (.bool false)]).seq ((C.ops [O1 9 (.fldA 3) 3,LD 10 9,MV 11 1,O2 12 (.idxA 1) 10 11,LD 13 12,MV 14 2,O2 15 (.idxA 1) 13 14,
 LD 16 15,MV 8 16]).seq (((C.ops [MV 17 8,BC 18 .lss 17 (i6 0)]).seq (C.cond (.t 18) ((C.ops [MC 6 (.str []),MC 7 (.bool false)]).seq C.ret) C.skip)).seq ((C.ops [O1 19 (.fldA 2)
 3,LD 20 19,MV 21 2,O2 22 (.idxA 1) 20 21,LD 23 22,MV 24 8,O2 25 (.idxA 6) 23 24,O1 26 (.fldA 0) 25,LD 27 26,MV 6 27,MC 7 (.bool true)]).seq
 C.ret))))
theorem qrJ:qN Tryz.prog 300 28 1 [RV.tmp 6,RV.tmp 7] qsL:=fi Tryz.f300 [3] zR []
def qwS:C:=
 ((C.ops [O1 2 (.box 0 26) 0,MC 4 (.bool false)]).seq ((C.ops [O1 11 (.load (some 4)) 2,MV 12 1,ON 13 (.call 300 true) [.t 11,.t 12,.c (i6 0)],MV 10 13,O1 14 (.ext 0) 10,O1
 15 (.ext 1) 10,MV 5 14,MV 6 15]).seq (((C.ops [O1 16 (.fldA 1) 2,LD 17 16,O1 18 .len 17,MC 19 (i6 0)]).seq (C.block 0 ((C.ops [BI 20 .lss 19 18]).seq ((C.cond (.t 20) C.skip
 (C.exit 0)).seq ((C.block 1 ((C.ops [MV 21 19,MV 7 21]).seq ((C.ops [O1 23 (.load (some 4)) 2,MV 24 1,MV 25 7,ON 26 (.call 300 true) [.t 23,.t 24,.t 25],MV 22 26,O1 27
 (.ext 0) 22,O1 28 (.ext 1) 22,MV 8 27,MV 9 28]).seq ((C.ops [MV 29 6,O1 30 (.un UnOp.not) 29,MV 31 30,MG 32 31 false 9,P1 33 31 false (.un UnOp.not) 32,PT 34 31 33,MV 35
 34,MG 36 35 false 8,MG 37 35 false 5,P2 38 35 false (.bin .neq) 36 37,PT 39 35 38]).seq (C.cond (.t 39) ((C.ops [MC 4 (.bool false)]).seq C.ret) C.skip))))).seq (C.ops [BC 40
 .add 19 (i6 1),MV 19 40])))).loop)).seq ((C.ops [MC 4 (.bool true)]).seq
 C.ret))))
theorem qyt:qN Tryz.prog 278 41 1 [RV.tmp 4] qwS:=fi Tryz.f278 [2] zR []
def qwG:C:=
 ((C.ops [O1 1 (.box 0 26) 0,MC 2 .nilfn]).seq ((C.ops [O1 3 (.mkfn (Fn.func 277) 0) 1,MV 2 3]).seq
 C.ret))
theorem qye:qN Tryz.prog 233 4 1 [RV.tmp 2] qwG:=fi Tryz.f233 [1] zR []
def qwR:C:=
 ((C.ops [MC 3 (i6 0)]).seq (C.block 0 (((C.ops [MV 5 3,O1 6 (.fldA 3) 1,LD 7 6,O1 8 .len 7,BI 9 .lss 5 8]).seq (C.cond (.t 9) C.skip (C.exit 0))).seq (C.block 1 ((C.ops [MV 10
 3,MV 4 10]).seq ((C.block 2 (((C.ops [MV 11 4,O1 12 (.fldA 3) 1,LD 13 12,O1 14 .len 13,BI 15 .lss 11 14,MV 16 15,P1 17 16 true (.load (some 4)) 1,MG 18 16 true 4,P2 19 16
 true (.call 278 true) 17 18,P1 20 16 true (.un UnOp.not) 19,PF 21 16 20]).seq (C.cond (.t 21) C.skip (C.exit 2))).seq (C.block 3 (C.ops [MV 22 4,BC 23 .add 22 (i6 1),MV 4
 23]))).loop).seq (((C.ops [MV 24 4,MV 25 3,BI 26 .gtr 24 25,MV 27 26,MG 28 27 true 0,MG 29 27 true 3,MG 30 27 true 4,PN 31 27 true .callv [.t 28,.t 29,.t 30],P1 32 27
 true (.un UnOp.not) 31,PF 33 27 32]).seq (C.cond (.t 33) C.ret C.skip)).seq (C.ops [MV 34 4,BC 35 .add 34 (i6 1),MV 3
 35])))))).loop))
theorem qys:qN Tryz.prog 277 36 0 [] qwR:=fi Tryz.f277 [] zR []
def qwO:C:=
 ((C.ops [O1 4 (.box 0 26) 0,ON 8 (.nilo 1 1 9) []]).seq ((C.ops [ON 9 (.nilo 2 1 9) []]).seq (((C.ops [MV 13 1,MV 10 13]).seq (C.block 0 (((C.ops [MV 14 10,MV 15 2,BI 16 .lss
 14 15]).seq (C.cond (.t 16) C.skip (C.exit 0))).seq ((C.block 1 ((C.ops [O1 20 (.load (some 4)) 4,MV 21 10,MV 22 3,ON 23 (.call 300 true) [.t 20,.t 21,.t 22],MV 19 23,O1 24
 (.ext 0) 19,O1 25 (.ext 1) 19,MV 11 24,MV 12 25]).seq ((C.ops [MV 26 12]).seq (C.cond (.t 26) (C.ops [MV 27 9,MV 28 11,⟨some 29,none,.bslc 3 1 1 9 [.str []] [(0,1)],[.t
 28]⟩,O2 30 (.app 4 1 9 16) 27 29,MV 9 30]) C.skip)))).seq (C.ops [MV 17 10,BC 18 .add 17 (i6 1),MV 10 18]))).loop)).seq ((C.ops [MV 31 9,MV 8 31]).seq
 C.ret))))
theorem qyp:qN Tryz.prog 274 32 5 [RV.tmp 8] qwO:=fi Tryz.f274 [4,8,9,29,30] zR []
def qwP:C:=
 ((C.ops [O1 4 (.box 0 89) 1,O1 5 (.box 1 280) 2,MC 6 (i6 0)]).seq ((C.ops [MV 7 0,O2 8 (.mkfn (Fn.func 301) 0) 5 4,O2 9 (.call 127 true) 7 8,MV 6 9]).seq
 C.ret))
theorem qyq:qN Tryz.prog 275 10 2 [RV.tmp 6] qwP:=fi Tryz.f275 [4,5] zR []
def qwX:C:=
 ((C.ops [O1 3 (.box 0 89) 0,MC 4 (.bool false)]).seq ((C.ops [LD 5 1,O1 6 (.load (some 2)) 2,O1 7 (.load (some 2)) 3,ON 8 .callv [.t 5,.t 6,.t 7],MV 4 8]).seq
 C.ret))
theorem qyz:qN Tryz.prog 301 9 1 [RV.tmp 4] qwX:=fi Tryz.f301 [3] zR []
def qwF:C:=
 ((C.ops [O1 3 (.box 0 26) 0,ON 6 (.nilo 1 2 89) []]).seq ((C.ops [ON 7 (.nilo 2 2 89) []]).seq (((C.ops [O1 11 (.fldA 1) 3,LD 12 11,O1 13 .len 12,MC 14 (i6 0)]).seq (C.block 0
 ((C.ops [BI 15 .lss 14 13]).seq ((C.cond (.t 15) C.skip (C.exit 0)).seq ((C.block 1 ((C.ops [MV 16 14,MV 8 16]).seq ((C.ops [O1 17 (.load (some 4)) 3,MV 18 1,MV 19 2,MV 20 8,
 ON 21 (.call 274 true) [.t 17,.t 18,.t 19,.t 20],MV 22 8,⟨some 23,none,.bslc 3 1 1 3 [i6 0] [(0,1)],[.t 22]⟩,⟨some 24,none,.build [.nl,.nl] [(0,1),(1,1)],[.t 21,
 .t 23]⟩,⟨some 9,none,.alloc 4 89 [.nl,.nl],[]⟩,ST 2 9 24]).seq ((C.ops [MV 25 7,O1 26 (.load (some 2)) 9,ON 27 (.call 275 true) [.t 25,.t 26,.c (.fn (Fn.func 276) []
 [])],MV 10 27]).seq (((C.ops [MV 28 10,BC 29 .lss 28 (i6 0)]).seq (C.cond (.t 29) ((C.ops [MV 30 7,O1 31 (.load (some 2)) 9,⟨some 32,none,.bslc 5 2 1 89 [.nl,.nl] [(0,2)],
 [.t 31]⟩,O2 33 (.app 6 2 89 48) 30 32,MV 7 33]).seq (C.exit 1)) C.skip)).seq (C.ops [MV 34 7,MV 35 10,MV 36 7,MV 37 10,O2 38 (.idxA 2) 36 37,O1 39 (.fldA 1) 38,LD 40 39,MV
 41 8,⟨some 42,none,.bslc 7 1 1 3 [i6 0] [(0,1)],[.t 41]⟩,O2 43 (.app 8 1 3 8) 40 42,O2 44 (.idxA 2) 34 35,O1 45 (.fldA 1) 44,ST 1 45 43])))))).seq (C.ops [BC 46 .add 14
 (i6 1),MV 14 46])))).loop)).seq ((C.ops [MV 47 7,MV 6 47]).seq
 C.ret))))
theorem qyd:qN Tryz.prog 232 48 9 [RV.tmp 6] qwF:=fi Tryz.f232 [3,6,7,23,9,32,33,42,43] zR []
def qwQ:C:=
 ((C.ops [O1 2 (.box 0 89) 0,O1 3 (.box 1 89) 1,MC 4 (.bool false)]).seq ((C.ops [O1 5 (.fldA 0) 2,LD 6 5,O1 7 (.fldA 0) 3,LD 8 7,O2 9 (.call 53 true) 6 8,MV 4 9]).seq
 C.ret))
theorem qyr:qN Tryz.prog 276 10 2 [RV.tmp 4] qwQ:=fi Tryz.f276 [2,3] zR []
def qwE:C:=
 ((C.ops [MC 4 (.bool false)]).seq ((C.ops [MV 5 0,MV 6 1,ON 7 (.call 272 true) [.t 5,.t 6,.c (.fn (Fn.func 273) [] [])],MV 4 7]).seq
 C.ret))
theorem qyc:qN Tryz.prog 231 8 0 [RV.tmp 4] qwE:=fi Tryz.f231 [] zR []
def qsI:C:=
 ((C.ops [O1 2 (.box 0 89) 0,O1 3 (.box 1 89) 1,MC 4 (.bool false)]).seq ((C.ops [O1 5 (.fldA 0) 2,LD 6 5,O1 7 (.fldA 0) 3,LD 8 7,O2 9 (.call 53 true) 6 8,MV 10 9,P1 11 10
 true (.fldA 1) 2,P1 12 10 true (.load none) 11,P1 13 10 true (.fldA 1) 3,P1 14 10 true (.load none) 13,P2 15 10 true (.call 40 true) 12 14,PF 16 10 15,MV 4 16]).seq
 C.ret))
theorem qrG:qN Tryz.prog 273 17 2 [RV.tmp 4] qsI:=fi Tryz.f273 [2,3] zR []
def qwr:C:=
 ((C.ops [O1 2 (.box 0 26) 0,O1 3 (.box 1 27) 1,⟨some 4,none,.alloc 2 4 [.bool false],[]⟩]).seq ((C.ops [MC 5 (i6 (-1))]).seq (((C.ops [LD 10 3,O1 11 .len 10,MC 12 (i6
 0)]).seq (C.block 0 ((C.ops [BI 13 .lss 12 11]).seq ((C.cond (.t 13) C.skip (C.exit 0)).seq ((C.block 1 ((C.ops [O2 14 (.idxA 3) 10 12,O1 15 (.load (some 3)) 14,⟨some 7,none,
 .alloc 3 83 [i6 0,i6 0,.nl],[]⟩,ST 3 7 15]).seq (((C.ops [O1 16 (.fldA 0) 7,LD 17 16,MV 18 5,BI 19 .leq 17 18,MV 20 19,P1 21 20 false (.fldA 0) 7,P1 22 20 false (.load
 none) 21,PC 23 20 false (.bin .lss) 22 (i6 0),PT 24 20 23,MV 25 24,P1 26 25 false (.fldA 0) 7,P1 27 25 false (.load none) 26,P1 28 25 false (.fldA 1) 7,P1 29 25 false (.load
 none) 28,P2 30 25 false (.bin .geq) 27 29,PT 31 25 30,MV 32 31,P1 33 32 false (.fldA 1) 7,P1 34 32 false (.load none) 33,P1 35 32 false (.fldA 3) 2,P1 36 32 false (.load
 none) 35,P1 37 32 false .len 36,P2 38 32 false (.bin .gtr) 34 37,PT 39 32 38,MV 40 39,P1 41 40 false (.fldA 2) 7,P1 42 40 false (.load none) 41,P1 43 40 false (.load (some
 4)) 2,P1 44 40 false (.fldA 0) 7,P1 45 40 false (.load none) 44,P1 46 40 false (.fldA 1) 7,P1 47 40 false (.load none) 46,PN 48 40 false (.call 232 true) [.t 43,.t 45,.t
 47],P2 49 40 false (.call 231 true) 42 48,P1 50 40 false (.un UnOp.not) 49,PT 51 40 50]).seq (C.cond (.t 51) ((C.ops [⟨none,none,.store 1,[.t 4,.c (.bool false)]⟩]).seq
 C.ret) C.skip)).seq (C.ops [O1 52 (.fldA 1) 7,LD 53 52,MV 5 53])))).seq (C.ops [BC 54 .add 12 (i6 1),MV 12 54])))).loop)).seq (((C.ops [O1 55 (.load (some 4)) 2,O1 56 (.call
 233 true) 55]).seq (C.block 2 (C.range (.t 56) [57,58] ((C.ops [⟨some 8,none,.alloc 4 3 [i6 0],[]⟩,ST 1 8 57]).seq (C.ops [⟨some 9,none,.alloc 5 3 [i6 0],[]⟩,ST 1 9 58]))
 (C.block 3 ((C.ops [LD 59 3,O2 60 (.mkfn (Fn.func 234) 0) 8 9,O2 61 (.call 54 true) 59 60,O1 62 (.un UnOp.not) 61]).seq (C.cond (.t 62) ((C.ops [⟨none,none,.store 1,[.t 4,.c
 (.bool false)]⟩]).seq C.ret) C.skip)))))).seq ((C.ops [⟨none,none,.store 1,[.t 4,.c (.bool true)]⟩]).seq
 C.ret)))))
theorem qxV:qN Tryz.prog 177 63 6 [RV.cell 4 none] qwr:=fi Tryz.f177 [2,3,4,7,8,9] zR []
def qsE:C:=
 ((C.ops [O1 3 (.box 0 83) 0,MC 4 (.bool false)]).seq ((C.ops [O1 5 (.fldA 0) 3,LD 6 5,LD 7 1,BI 8 .leq 6 7,MV 9 8,P1 10 9 true (.load none) 2,P1 11 9 true (.fldA 1) 3,P1 12
 9 true (.load none) 11,P2 13 9 true (.bin .leq) 10 12,PF 14 9 13,MV 4 14]).seq
 C.ret))
theorem qrC:qN Tryz.prog 234 15 1 [RV.tmp 4] qsE:=fi Tryz.f234 [3] zR []
def qsw:C:=
 ((C.ops [O1 2 (.box 0 26) 0,MC 4 (i6 0)]).seq (((C.ops [O1 5 (.load (some 4)) 2,O1 6 (.call 81 true) 5,BC 7 .neq 6 (i6 0)]).seq (C.cond (.t 7) ((C.ops [MC 4 (i6 1)]).seq C.ret)
 C.skip)).seq (((C.ops [O1 8 (.load (some 4)) 2,MV 9 1,O2 10 (.call 177 true) 8 9,O1 11 (.un UnOp.not) 10]).seq (C.cond (.t 11) ((C.ops [MC 4 (i6 20)]).seq C.ret) C.skip)).seq
 ((C.ops [MC 4 (i6 0)]).seq
 C.ret))))
theorem qrs:qN Tryz.prog 111 12 1 [RV.tmp 4] qsw:=fi Tryz.f111 [2] zR []
def qsx:C:=
 ((C.ops [O1 3 (.box 0 3) 1,MC 4 (i6 0),MC 5 (i6 0)]).seq (((C.ops [LD 6 3,BC 7 .lss 6 (i6 0)]).seq (C.cond (.t 7) ((C.ops [MC 4 (i6 0),MC 5 (i6 2)]).seq C.ret) C.skip)).seq
 ((C.ops [MV 8 0,O1 9 (.mkfn (Fn.func 178) 0) 3,O2 10 (.call 128 true) 8 9,MV 4 10,MC 5 (i6 0)]).seq
 C.ret)))
theorem qrt:qN Tryz.prog 113 11 1 [RV.tmp 4,RV.tmp 5] qsx:=fi Tryz.f113 [3] zR []
def qsC:C:=
 ((C.ops [O1 2 (.box 0 83) 0,MC 3 (.bool false)]).seq ((C.ops [O1 4 (.fldA 0) 2,LD 5 4,LD 6 1,BI 7 .leq 5 6,MV 8 7,P1 9 8 true (.load none) 1,P1 10 8 true (.fldA 1) 2,P1 11
 8 true (.load none) 10,P2 12 8 true (.bin .lss) 9 11,PF 13 8 12,MV 3 13]).seq
 C.ret))
theorem qrA:qN Tryz.prog 178 14 1 [RV.tmp 3] qsC:=fi Tryz.f178 [2] zR []
def qAS:C:=
 ((C.ops [O1 2 (.box 0 83) 0,O1 3 (.box 1 3) 1,MC 4 (i6 0),MC 5 (i6 0)]).seq ((C.ops [O1 7 (.fldA 2) 2,LD 8 7,O1 9 (.mkfn (Fn.func 134) 0) 3,O2 10 (.call 127 true) 8 9,MV 6
 10]).seq (((C.ops [MV 11 6,BC 12 .lss 11 (i6 0)]).seq (C.cond (.t 12) ((C.ops [MC 4 (i6 0),MC 5 (i6 6)]).seq C.ret) C.skip)).seq ((C.ops [MV 13 6,MV 4 13,MC 5 (i6 0)]).seq
 C.ret))))
theorem qyK:qN Tryz.prog 63 14 2 [RV.tmp 4,RV.tmp 5] qAS:=fi Tryz.f63 [2,3] zR []
def qwj:C:=
 ((C.ops [O1 2 (.box 0 89) 0,MC 3 (.bool false)]).seq ((C.ops [O1 4 (.fldA 1) 2,LD 5 4,LD 6 1,O2 7 (.call 135 true) 5 6,MV 3 7]).seq
 C.ret))
theorem qxL:qN Tryz.prog 134 8 1 [RV.tmp 3] qwj:=fi Tryz.f134 [2] zR []
end
section
open Go Go.Proofs AF
def qbH:List Nat:= []
def qCw:C:=
 ((C.ops [MC 2 (.bool false)]).seq (((C.ops [MC 3 (i6 0)]).seq (C.block 0 (((C.ops [MV 5 3,MV 6 0,O1 7 .len 6,BI 8 .lss 5 7]).seq (C.cond (.t 8) C.skip (C.exit 0))).seq ((C.block
 1 (((C.ops [MV 11 0,MV 12 3,O2 13 (.idxA 3) 11 12,O1 14 (.fldA 2) 13,LD 15 14,O1 16 .len 15,BC 17 .gtr 16 (i6 6)]).seq (C.cond (.t 17) ((C.ops [MC 2 (.bool true)]).seq C.ret)
 C.skip)).seq ((C.ops [MC 4 (i6 0)]).seq (C.block 2 (((C.ops [MV 18 4,MV 19 0,MV 20 3,O2 21 (.idxA 3) 19 20,O1 22 (.fldA 2) 21,LD 23 22,O1 24 .len 23,BI 25 .lss 18 24]).seq
 (C.cond (.t 25) C.skip (C.exit 2))).seq ((C.block 3 ((C.ops [MV 28 0,MV 29 3,O2 30 (.idxA 3) 28 29,O1 31 (.fldA 2) 30,LD 32 31,MV 33 4,O2 34 (.idxA 2) 32 33,O1 35 (.fldA 1)
 34,LD 36 35,O1 37 .len 36,BC 38 .gtr 37 (i6 8),MV 39 38,MG 40 39 false 0,MG 41 39 false 3,P2 42 39 false (.idxA 3) 40 41,P1 43 39 false (.fldA 2) 42,P1 44 39 false (.load
 none) 43,MG 45 39 false 4,P2 46 39 false (.idxA 2) 44 45,P1 47 39 false (.fldA 0) 46,P1 48 39 false (.load none) 47,PC 49 39 false (.call 70 true) 48 (i6 8),PT 50 39 49]).seq
 (C.cond (.t 50) ((C.ops [MC 2 (.bool true)]).seq C.ret) C.skip))).seq (C.ops [MV 26 4,BC 27 .add 26 (i6 1),MV 4 27]))).loop)))).seq (C.ops [MV 9 3,BC 10 .add 9 (i6 1),MV 3
 10]))).loop)).seq ((C.ops [MV 51 0,O1 52 .len 51,BC 53 .gtr 52 (i6 12),MV 2 53]).seq
 C.ret)))
theorem qBr:qN Tryz.prog 78 54 0 [RV.tmp 2] qCw:=fi Tryz.f78 [] qbH []
def qCv:C:=
 ((C.ops [O1 1 (.box 0 26) 0,MC 2 (.bool false)]).seq (((C.ops [MC 3 (i6 0)]).seq (C.block 0 (((C.ops [MV 4 3,O1 5 (.fldA 3) 1,LD 6 5,O1 7 .len 6,BI 8 .lss 4 7]).seq (C.cond
 (.t 8) C.skip (C.exit 0))).seq ((C.block 1 ((C.ops [O1 11 (.fldA 3) 1,LD 12 11,MV 13 3,O2 14 (.idxA 1) 12 13,LD 15 14,O1 16 .len 15,BC 17 .gtr 16 (i6 36)]).seq (C.cond (.t
 17) ((C.ops [MC 2 (.bool true)]).seq C.ret) C.skip))).seq (C.ops [MV 9 3,BC 10 .add 9 (i6 1),MV 3 10]))).loop)).seq ((C.ops [O1 18 (.fldA 2) 1,LD 19 18,O1 20 (.call 149 true)
 19,MV 21 20,P1 22 21 false (.fldA 3) 1,P1 23 21 false (.load none) 22,P1 24 21 false .len 23,PC 25 21 false (.bin .gtr) 24 (i6 24),PT 26 21 25,MV 27 26,P1 28 27 false
 (.fldA 1) 1,P1 29 27 false (.load none) 28,P1 30 27 false .len 29,PC 31 27 false (.bin .gtr) 30 (i6 36),PT 32 27 31,MV 33 32,P1 34 33 false (.fldA 0) 1,P1 35 33 false (.load
 none) 34,P1 36 33 false (.fldA 1) 1,P1 37 33 false (.load none) 36,P2 38 33 false (.call 150 true) 35 37,PT 39 33 38,MV 2 39]).seq
 C.ret)))
theorem qBq:qN Tryz.prog 77 40 1 [RV.tmp 2] qCv:=fi Tryz.f77 [1] qbH []
def qwl:C:=
 ((C.ops [MC 2 (.bool false)]).seq ((C.ops [MC 3 (i6 1)]).seq (((C.ops [MC 4 (i6 0)]).seq (C.block 0 (((C.ops [MV 7 4,MV 8 0,O1 9 .len 8,BI 10 .lss 7 9]).seq (C.cond (.t 10)
 C.skip (C.exit 0))).seq ((C.block 1 (((C.ops [MV 13 0,MV 14 4,O2 15 (.idxA 1) 13 14,LD 16 15,O1 17 .len 16,BC 18 .gtr 17 (i6 6),MV 19 18,MG 20 19 false 4,PC 21 19 false
 (.bin .geq) 20 (i6 4),MG 22 19 false 21,MG 23 22 true 0,MG 24 22 true 4,P2 25 22 true (.idxA 1) 23 24,P1 26 22 true (.load none) 25,P1 27 22 true .len 26,PC 28 22 true (.bin
 .gtr) 27 (i6 1),QF 29 19 false 22 28,PT 30 19 29]).seq (C.cond (.t 30) ((C.ops [MC 2 (.bool true)]).seq C.ret) C.skip)).seq (((C.ops [MV 31 4,BC 32 .lss 31 (i6 4)]).seq (C.cond
 (.t 32) (C.ops [MV 33 3,MV 34 0,MV 35 4,O2 36 (.idxA 1) 34 35,LD 37 36,O1 38 .len 37,BC 39 .add 38 (i6 1),BI 40 .mul 33 39,MV 3 40]) C.skip)).seq ((C.ops [MC 5 (i6 0)]).seq
 (C.block 2 (((C.ops [MV 41 5,MV 42 0,MV 43 4,O2 44 (.idxA 1) 42 43,LD 45 44,O1 46 .len 45,BI 47 .lss 41 46]).seq (C.cond (.t 47) C.skip (C.exit 2))).seq ((C.block 3 ((C.ops
 [MV 50 0,MV 51 4,O2 52 (.idxA 1) 50 51,LD 53 52,MV 54 5,O2 55 (.idxA 6) 53 54,O1 56 (.load (some 6)) 55,⟨some 6,none,.alloc 0 124 [.str [],.str [],.str [],i6 0,i6 0,
 .str []],[]⟩,ST 6 6 56]).seq ((C.ops [O1 57 (.fldA 0) 6,LD 58 57,O1 59 .slen 58,BC 60 .gtr 59 (i6 12),MV 61 60,P1 62 61 false (.fldA 1) 6,P1 63 61 false (.load none) 62,P1
 64 61 false .slen 63,PC 65 61 false (.bin .gtr) 64 (i6 12),PT 66 61 65,MV 67 66,P1 68 67 false (.fldA 2) 6,P1 69 67 false (.fldA 0) 68,P1 70 67 false (.load none) 69,P1 71
 67 false .slen 70,PC 72 67 false (.bin .gtr) 71 (i6 20),PT 73 67 72,MV 74 73,P1 75 74 false (.fldA 5) 6,P1 76 74 false (.load none) 75,P1 77 74 false .slen 76,PC 78 74 false
 (.bin .gtr) 77 (i6 20),PT 79 74 78]).seq (C.cond (.t 79) ((C.ops [MC 2 (.bool true)]).seq C.ret) C.skip)))).seq (C.ops [MV 48 5,BC 49 .add 48 (i6 1),MV 5 49]))).loop))))).seq
 (C.ops [MV 11 4,BC 12 .add 11 (i6 1),MV 4 12]))).loop)).seq ((C.ops [MV 80 3,BC 81 .gtr 80 (i6 400),MV 82 81,MG 83 82 false 0,P1 84 82 false .len 83,PC 85 82 false (.bin
 .gtr) 84 (i6 6),MG 86 82 false 85,MG 87 86 true 0,P1 88 86 true .len 87,PC 89 86 true (.bin .leq) 88 (i6 32),QF 90 82 false 86 89,PT 91 82 90,MV 92 91,MG 93 92 false 0,P1
 94 92 false .len 93,PC 95 92 false (.bin .gtr) 94 (i6 34),PT 96 92 95,MV 2 96]).seq
 C.ret))))
theorem qxO:qN Tryz.prog 149 97 1 [RV.tmp 2] qwl:=fi Tryz.f149 [6] qbH []
def qwm:C:=
 ((C.ops [MC 4 (.bool false)]).seq (((C.ops [MC 5 (i6 0)]).seq (C.block 0 (((C.ops [MV 6 5,MV 7 1,O1 8 .len 7,BI 9 .lss 6 8]).seq (C.cond (.t 9) C.skip (C.exit 0))).seq ((C.block
 1 ((C.ops [MV 12 1,MV 13 5,O2 14 (.idxA 1) 12 13,LD 15 14,O1 16 .slen 15,BC 17 .gtr 16 (i6 20)]).seq (C.cond (.t 17) ((C.ops [MC 4 (.bool true)]).seq C.ret) C.skip))).seq
 (C.ops [MV 10 5,BC 11 .add 10 (i6 1),MV 5 11]))).loop)).seq ((C.ops [MV 18 0,O1 19 .slen 18,BC 20 .gtr 19 (i6 20),MV 4 20]).seq
 C.ret)))
theorem qxP:qN Tryz.prog 150 21 0 [RV.tmp 4] qwm:=fi Tryz.f150 [] qbH []
def qsy:C:=
 ((C.ops [O1 3 (.box 0 64) 0,MC 4 (.bool false)]).seq ((C.ops [O1 5 (.fldA 1) 3,LD 6 5,LD 7 1,BI 8 .eql 6 7,MV 9 8,P1 10 9 true (.fldA 0) 3,P1 11 9 true (.load none) 10,P1
 12 9 true (.load none) 2,P2 13 9 true (.bin .eql) 11 12,PF 14 9 13,MV 4 14]).seq
 C.ret))
theorem qru:qN Tryz.prog 114 15 1 [RV.tmp 4] qsy:=fi Tryz.f114 [3] qbH []
def jG:C:=
 ((C.ops [O1 5 (.box 0 26) 0,O1 7 (.box 1 64) 2,O1 8 (.box 2 64) 3,MC 10 (i6 0)]).seq ((C.block 0 ((C.ops [O1 14 (.fldA 0) 7,LD 15 14,BC 16 .eql 15 (.str []),MV 17 16,P1 18
 17 false (.fldA 0) 7,P1 19 17 false (.load none) 18,P1 20 17 false .slen 19,PC 21 17 false (.bin .gtr) 20 (i6 64),PT 22 17 21,MV 13 22]).seq (C.cond (.t 13) ((C.ops [MC 10 (i6
 11)]).seq C.ret) ((C.ops [O1 24 (.fldA 1) 7,LD 25 24,BC 26 .lss 25 (i6 0),MV 27 26,P1 28 27 false (.fldA 1) 7,P1 29 27 false (.load none) 28,P1 30 27 false (.fldA 3) 5,P1 31
 27 false (.load none) 30,P1 32 27 false .len 31,P2 33 27 false (.bin .geq) 29 32,PT 34 27 33,MV 35 34,MG 36 35 false 4,P1 37 35 false (.un UnOp.not) 36,MG 38 35 false 37,P1
 39 38 true (.fldA 1) 7,P1 40 38 true (.load none) 39,P1 41 38 true (.fldA 1) 8,P1 42 38 true (.load none) 41,P2 43 38 true (.bin .lss) 40 42,QF 44 35 false 38 43,PT 45 35 44,
 MV 23 45]).seq (C.cond (.t 23) ((C.ops [MC 10 (i6 19)]).seq C.ret) ((C.ops [O1 47 (.fldA 2) 7,LD 48 47,BC 49 .lss 48 (i6 (-1)),MV 50 49,P1 51 50 false (.fldA 2) 7,P1 52 50
 false (.load none) 51,MG 53 50 false 1,P1 54 50 false .len 53,P2 55 50 false (.bin .geq) 52 54,PT 56 50 55,MV 46 56]).seq (C.cond (.t 46) ((C.ops [MC 10 (i6 20)]).seq C.ret)
 C.skip))))))).seq (((C.ops [MV 58 1,O1 59 (.fldA 1) 7,LD 60 59,O2 61 (.call 113 true) 58 60,MV 57 61,O1 62 (.ext 0) 57,O1 63 (.ext 1) 57,MV 11 62,MV 12 63]).seq ((C.ops [MV
 64 11,O1 65 (.fldA 2) 7,LD 66 65,BI 67 .neq 64 66]).seq (C.cond (.t 67) ((C.ops [MC 10 (i6 20)]).seq C.ret) C.skip))).seq (((C.ops [O1 68 (.fldA 3) 7,LD 69 68,BC 70 .lss 69
 (i6 (-1)),MV 71 70,P1 72 71 false (.fldA 2) 7,P1 73 71 false (.load none) 72,PC 74 71 false (.bin .lss) 73 (i6 0),MG 75 71 false 74,P1 76 75 true (.fldA 3) 7,P1 77 75 true
 (.load none) 76,PC 78 75 true (.bin .neq) 77 (i6 (-1)),QF 79 71 false 75 78,PT 80 71 79,MV 81 80,MG 82 81 false 4,P1 83 81 false (.un UnOp.not) 82,MG 84 81 false 83,P1 85
 84 true (.fldA 2) 7,P1 86 84 true (.load none) 85,PC 87 84 true (.bin .geq) 86 (i6 0),QF 88 81 false 84 87,MG 89 81 false 88,P1 90 89 true (.fldA 2) 7,P1 91 89 true (.load
 none) 90,P1 92 89 true (.fldA 2) 8,P1 93 89 true (.load none) 92,P2 94 89 true (.bin .eql) 91 93,QF 95 81 false 89 94,MG 96 81 false 95,P1 97 96 true (.fldA 3) 7,P1 98 96
 true (.load none) 97,P1 99 96 true (.fldA 3) 8,P1 100 96 true (.load none) 99,P2 101 96 true (.bin .neq) 98 100,QF 102 81 false 96 101,PT 103 81 102]).seq (C.cond (.t 103)
 ((C.ops [MC 10 (i6 2)]).seq C.ret) C.skip)).seq ((C.ops [MC 10 (i6 0)]).seq
 C.ret)))))
theorem zT:qN Tryz.prog 112 104 3 [RV.tmp 10] jG:=fi Tryz.f112 [5,7,8] qbH []
end
section
open Go Go.Proofs AF HY LN
namespace RC
theorem qBb (u:Un) (c:Int) (h:List AObj):ACalls Tryz.prog 178 [.agg (unC u),.ip [.int .i64 c]] h (.bool (decide (u.frm≤c)&&decide (c<u.to))) h:=by
 by_cases g:u.frm≤c
 ·have k1:(u.frm≤c)=True:=eq_true g
  rw [decide_eq_true g,Bool.true_and]
  refine acO qrA ?_
  simp (disch:=omega) only [qsC,unC,k1,go_sem]
  repeat' first
   |((first|apply qd|apply qb);exact rvk;simp only [go_sem];first|exact ql|apply qe|apply qa|apply qf|skip)
   |with_reducible first|apply aiA|intro _
  all_goals try exact clz
 ·have k1:(u.frm≤c)=False:=eq_false g
  rw [decide_eq_false g,Bool.false_and]
  refine acO qrA ?_
  simp (disch:=omega) only [qsC,unC,k1,go_sem]
  repeat' first
   |((first|apply qd|apply qb);exact rvk;simp only [go_sem];first|exact ql|apply qe|apply qa|apply qf|skip)
   |with_reducible first|apply aiA|intro _
  all_goals try exact clz
theorem qDA (l:List Un) (c:Int) (k v:Nat) (h:List AObj) (hk:qF k h=some (.mem v 3 [.int .i64 c])) (hl:l.length≤1000000000):
  ACalls Tryz.prog 128 [qz l,.fn (.func 178) [] [.op k v 0]] h (.int .i64 (fnU l c)) h:=by
 have hc:=qO hk
 unfold qz fnU
 refine qaz qrx l.length (fun j=>unC (l.getD j default)) (fun j=> .agg (unC (l.getD j default))) _ [] [.op k v 0] _ h (fun i _=>⟨rfl,by simp [jj,unC],rfl,rfl,rfl⟩) (fun i _=> ?_) (by omega)
 refine ACalls.borrow ?_ rfl
 have e:([AV.agg (unC (l.getD i default))]++ [AV.op k v 0]).map (rei (fun _=>true) h 8)= [.agg (unC (l.getD i default)),.ip [.int .i64 c]]:=by
  simp only [List.cons_append,List.nil_append,List.map_cons,List.map_nil,rei_op,if_true,hc,ipOf_some,List.drop_zero,rei_agg]
  rfl
 rw [List.nil_append,e]
 exact qBb _ c _
def fnR (l:List Un) (c:Int):Int:=if c<0 then 0 else fnU l c
def fnE (c:Int):Int:=if c<0 then 2 else 0
theorem qCE (l:List Un) (c:Int) (h:List AObj) (hl:l.length≤1000000000):ACalls Tryz.prog 113 [qz l,.int .i64 c] h (.tup [.int .i64 (fnR l c),.int .i64 (fnE c)]) h:=by
 unfold fnR fnE
 by_cases g:c<0
 ·have k1:(c<0)=True:=eq_true g
  rw [if_pos g,if_pos g]
  refine acO qrt ?_
  simp (disch:=omega) only [qsx,k1,go_sem]
  repeat' first
   |((first|apply qd|apply qb);exact rvk;simp only [go_sem];first|exact ql|apply qe|apply qa|apply qf|skip)
   |with_reducible first|apply aiA|intro _
  all_goals try exact clz
 ·have k1:(c<0)=False:=eq_false g
  rw [if_neg g,if_neg g]
  have c1:=qDA l c h.length 1 (h++ [.mem 1 3 [.int .i64 c]]) (by rw [getO_app0];rfl) hl
  refine acO qrt ?_
  simp (disch:=omega) only [qsx,k1,go_sem]
  repeat' first
   |((first|refine cA (c1) ?_ ?_|refine cG (fun e=>c1) ?_ ?_);exact flk;simp (disch:=omega) only [k1,go_sem])
   |((first|apply qd|apply qb);exact rvk;simp only [go_sem];first|exact ql|apply qe|apply qa|apply qf|skip)
   |with_reducible first|apply aiA|intro _
  all_goals try exact clz
theorem qDH (r:Rd) (s:Int) (h:List AObj) (hr:r.src.length≤1000000000):ACalls Tryz.prog 134 [.agg (rdC r),.ip [.int .i64 s]] h (.bool (decide (s∈r.src))) h:=by
 have c1:=fun h=>qA5 r.src s h hr
 unfold qo at c1
 refine acO qxL ?_
 simp (disch:=omega) only [qwj,rdC,qo,go_sem]
 repeat' first
  |((first|refine cA (c1 _) ?_ ?_|refine cG (fun e=>c1 _) ?_ ?_|refine cU (fun _=>c1 _) ?_ ?_);exact flk;simp (disch:=omega) only [rdC,qo,go_sem])
  |((first|apply qd|apply qb);exact rvk;simp only [go_sem];first|exact ql|apply qe|apply qa|apply qf|skip)
  |with_reducible first|apply aiA|intro _
 all_goals try exact clz
theorem qDC (L:List Rd) (s:Int) (k v:Nat) (h:List AObj) (hk:qF k h=some (.mem v 3 [.int .i64 s])) (hl:L.length≤1000000000) (hr: ∀j,(L.getD j default).src.length≤1000000000):
  ACalls Tryz.prog 127 [zD L,.fn (.func 134) [] [.op k v 0]] h (.int .i64 (qix L s)) h:=by
 have hc:=qO hk
 unfold zD qix
 refine qaz qlu L.length (fun j=>rdC (L.getD j default)) (fun j=> .agg (rdC (L.getD j default))) _ [] [.op k v 0] _ h (fun i _=>⟨rfl,by simp [jj,rdC],rfl,rfl,rfl⟩) (fun i _=> ?_) (by omega)
 refine ACalls.borrow ?_ rfl
 have e:([AV.agg (rdC (L.getD i default))]++ [AV.op k v 0]).map (rei (fun _=>true) h 8)= [.agg (rdC (L.getD i default)),.ip [.int .i64 s]]:=by
  simp only [List.cons_append,List.nil_append,List.map_cons,List.map_nil,rei_op,if_true,hc,ipOf_some,List.drop_zero,rei_agg]
  rfl
 rw [List.nil_append,e]
 exact qDH _ s _ (hr i)
def qiz (L:List Rd) (s:Int):Int:=if qix L s<0 then 0 else qix L s
def qiy (L:List Rd) (s:Int):Int:=if qix L s<0 then 6 else 0
theorem qCK (u:Un) (s:Int) (h:List AObj) (hl:u.rds.length≤1000000000) (hr: ∀j,(u.rds.getD j default).src.length≤1000000000):ACalls Tryz.prog 63 [.agg (unC u),.int .i64 s] h (.tup [.int .i64 (qiz u.rds s),.int .i64 (qiy u.rds s)]) h:=by
 have c1:=qDC u.rds s (h.length+1) 1 (h++ [.mem 1 83 (unC u),.mem 1 3 [.int .i64 s]]) (by simp only [go_sem]) hl hr
 unfold qiz qiy
 obtain ⟨n,hn⟩: ∃n,n=qix u.rds s:=⟨_,rfl⟩
 rw [←hn]at c1 ⊢
 unfold unC at c1
 by_cases g:n<0
 ·have k1:(n<0)=True:=eq_true g
  rw [if_pos g,if_pos g]
  refine acO qyK ?_
  simp (disch:=omega) only [qAS,unC,go_sem]
  repeat' first
   |((first|refine cA (c1) ?_ ?_|refine cG (fun e=>c1) ?_ ?_);exact flk;simp (disch:=omega) only [unC,k1,go_sem])
   |((first|apply qd|apply qb);exact rvk;simp only [go_sem];first|exact ql|apply qe|apply qa|apply qf|skip)
   |with_reducible first|apply aiA|intro _
  all_goals try exact clz
 ·have k1:(n<0)=False:=eq_false g
  rw [if_neg g,if_neg g]
  refine acO qyK ?_
  simp (disch:=omega) only [qAS,unC,go_sem]
  repeat' first
   |((first|refine cA (c1) ?_ ?_|refine cG (fun e=>c1) ?_ ?_);exact flk;simp (disch:=omega) only [unC,k1,go_sem])
   |((first|apply qd|apply qb);exact rvk;simp only [go_sem];first|exact ql|apply qe|apply qa|apply qf|skip)
   |with_reducible first|apply aiA|intro _
  all_goals try exact clz
end RC
end
