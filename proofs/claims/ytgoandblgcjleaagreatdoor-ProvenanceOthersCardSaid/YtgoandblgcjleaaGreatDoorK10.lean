import Derived.Test.YtgoandblgcjleaaGreatDoorK3
import Derived.Test.YtgoandblgcjleaaGreatDoorK4
import Derived.Test.YtgoandblgcjleaaGreatDoorK8
import Derived.Test.YtgoandblgcjleaaGreatDoorProg
import Derived.Test.YtgoandblgcjleaaGreatDoorK9
set_option linter.all false
set_option linter.unusedSimpArgs false
set_option linter.unusedVariables false
set_option linter.unusedSectionVars false
set_option maxHeartbeats 64000000
set_option maxRecDepth 100000
section
open Go Go.Proofs AF
def zk:List Nat:= []
def jN:C:=
 ((C.ops [O1 1 (.box 0 124) 0,MC 2 (i6 0)]).seq (((C.ops [O1 6 (.fldA 4) 1,LD 7 6,BC 8 .lss 7 (i6 0),MV 9 8,P1 10 9 false (.fldA 4) 1,P1 11 9 false (.load none) 10,PC 12 9
 false (.bin .gtr) 11 (i6 31),PT 13 9 12]).seq (C.cond (.t 13) ((C.ops [MC 2 (i6 2)]).seq C.ret) C.skip)).seq ((C.ops [O1 14 (.fldA 4) 1,LD 15 14,BC 16 .and 15 (i6 2),BC 17 .neq
 16 (i6 0),O1 18 (.fldA 4) 1,LD 19 18,BC 20 .and 19 (i6 8),BC 21 .neq 20 (i6 0),MV 3 17,MV 4 21]).seq (((C.ops [MV 22 3,MV 23 22,MG 24 23 true 4,PF 25 23 24]).seq (C.cond
 (.t 25) ((C.ops [MC 2 (i6 8)]).seq C.ret) C.skip)).seq ((C.ops [MC 5 (.fn (Fn.func 247) [] [])]).seq (((C.ops [MV 26 3]).seq (C.cond (.t 26) (C.ops [MC 5 (.fn (Fn.func 248) []
 [])]) C.skip)).seq (((C.ops [MV 27 4]).seq (C.cond (.t 27) (C.ops [MC 5 (.fn (Fn.func 249) [] [])]) C.skip)).seq ((C.block 0 (((C.ops [MV 29 5,O1 30 (.fldA 0) 1,LD 31 30,O2 32
 .callv 29 31,O1 33 (.un UnOp.not) 32,MV 28 33]).seq (C.cond (.t 28) C.skip ((C.ops [O1 34 (.load (some 6)) 1,O1 35 (.call 250 true) 34,MV 36 35,P1 37 36 true (.fldA 1) 1,P1
 38 36 true (.load none) 37,P1 39 36 true (.call 251 true) 38,P1 40 36 true (.un UnOp.not) 39,PF 41 36 40,MV 28 41]).seq (C.cond (.t 28) C.skip (C.ops [O1 42 (.load (some 6)) 1,
 O1 43 (.call 250 true) 42,O1 44 (.un UnOp.not) 43,MV 45 44,P1 46 45 true (.fldA 1) 1,P1 47 45 true (.load none) 46,P1 48 45 true (.fldA 0) 1,P1 49 45 true (.load none) 48,P2
 50 45 true (.bin .neq) 47 49,PF 51 45 50,MV 28 51]))))).seq (C.cond (.t 28) ((C.ops [MC 2 (i6 11)]).seq C.ret) ((C.ops [O1 53 (.fldA 2) 1,O1 54 (.fldA 1) 53,LD 55 54,BC 56
 .lss 55 (i6 0),MV 52 56]).seq (C.cond (.t 52) ((C.ops [MC 2 (i6 2)]).seq C.ret) ((C.ops [O1 58 (.fldA 2) 1,O1 59 (.fldA 0) 58,LD 60 59,O1 61 (.call 252 true) 60,O1 62 (.un
 UnOp.not) 61,MV 63 62,P1 64 63 false (.fldA 5) 1,P1 65 63 false (.load none) 64,P1 66 63 false (.call 252 true) 65,P1 67 63 false (.un UnOp.not) 66,PT 68 63 67,MV 57
 68]).seq (C.cond (.t 57) ((C.ops [MC 2 (i6 14)]).seq C.ret) C.skip))))))).seq ((C.ops [MC 2 (i6 0)]).seq
 C.ret)))))))))
theorem zT:qI Tryz.prog 207 69 1 [RV.tmp 2] jN:=fi Tryz.f207 [1] zk []
def qcN:C:=
 ((C.ops [MC 2 (.bool false)]).seq (((C.ops [MV 5 0,O1 6 .slen 5,BC 7 .lss 6 (i6 3),MV 8 7,MG 9 8 false 0,PC 10 8 false .sidx 9 (i6 0),PC 11 8 false (.bin .neq) 10 (.int .u8
 91),PT 12 8 11,MV 13 12,MG 14 13 false 0,MG 15 13 false 0,P1 16 13 false .slen 15,PC 17 13 false (.bin .sub) 16 (i6 1),P2 18 13 false .sidx 14 17,PC 19 13 false (.bin .neq)
 18 (.int .u8 93),PT 20 13 19]).seq (C.cond (.t 20) ((C.ops [MC 2 (.bool false)]).seq C.ret) C.skip)).seq ((C.ops [MV 22 0,MV 23 0,O1 24 .slen 23,BC 25 .sub 24 (i6 1),ON 26
 (.sslc true true) [.t 22,.c (i6 1),.t 25],O1 27 (.call 291 true) 26,MV 21 27,O1 28 (.ext 0) 21,O1 29 (.ext 1) 21,MV 3 28,MV 4 29]).seq ((C.ops [MV 30 4,O1 31 (.isnil
 .iface false) 30,MV 32 31,MG 33 32 true 3,PC 34 32 true (.bin .geq) 33 (i6 1),PF 35 32 34,MV 36 35,MG 37 36 true 3,PC 38 36 true (.bin .leq) 37 (i6 64),PF 39 36 38,MV 40
 39,MG 41 40 true 0,MG 42 40 true 3,P1 43 40 true (.call 86 true) 42,PN 44 40 true (.bin .add) [.c (.str [91]),.t 43],PC 45 40 true (.bin .add) 44 (.str [93]),P2 46 40 true
 (.bin .eql) 41 45,PF 47 40 46,MV 2 47]).seq
 C.ret))))
theorem qbd:qI Tryz.prog 248 48 0 [RV.tmp 2] qcN:=fi Tryz.f248 [] zk []
def qms:C:=
 ((C.ops [MC 2 (.bool false)]).seq (((C.ops [MV 4 0,O1 5 .slen 4,BC 6 .neq 5 (i6 1)]).seq (C.cond (.t 6) ((C.ops [MC 2 (.bool false)]).seq C.ret) C.skip)).seq ((C.ops [MV 7 0,OC
 8 .sidx 7 (i6 0),O1 9 (.call 285 true) 8,MV 3 9]).seq ((C.ops [MV 10 3,BC 11 .eql 10 (i6 5),MV 12 11,MG 13 12 false 3,PC 14 12 false (.bin .eql) 13 (i6 4),PT 15 12 14,MV 2
 15]).seq
 C.ret))))
theorem qjH:qI Tryz.prog 249 16 0 [RV.tmp 2] qms:=fi Tryz.f249 [] zk []
def qts:C:=
 ((C.ops [O1 1 (.box 0 124) 0,MC 2 (.bool false)]).seq ((C.ops [O1 3 (.fldA 4) 1,LD 4 3,BC 5 .and 4 (i6 10),BC 6 .eql 5 (i6 0),MV 2 6]).seq
 C.ret))
theorem quN:qI Tryz.prog 250 7 1 [RV.tmp 2] qts:=fi Tryz.f250 [1] zk []
def qtt:C:=
 ((C.ops [MC 2 (.bool false)]).seq (((C.ops [MV 4 0,O1 5 .slen 4,MC 6 (i6 0)]).seq (C.block 0 ((C.ops [BI 7 .lss 6 5]).seq ((C.cond (.t 7) C.skip (C.exit 0)).seq ((C.block 1
 ((C.ops [MV 8 6,MV 3 8]).seq ((C.ops [MV 9 0,MV 10 3,O2 11 .sidx 9 10,O1 12 (.call 292 true) 11,O1 13 (.un UnOp.not) 12]).seq (C.cond (.t 13) ((C.ops [MC 2 (.bool false)]).seq
 C.ret) C.skip)))).seq (C.ops [BC 14 .add 6 (i6 1),MV 6 14])))).loop)).seq ((C.ops [MV 15 0,BC 16 .neq 15 (.str []),MV 17 16,MG 18 17 true 0,P1 19 17 true .slen 18,PC 20 17
 true (.bin .leq) 19 (i6 64),PF 21 17 20,MV 2 21]).seq
 C.ret)))
theorem quO:qI Tryz.prog 251 22 0 [RV.tmp 2] qtt:=fi Tryz.f251 [] zk []
def qp4:C:=
 ((C.ops [MC 2 (.bool false)]).seq ((C.ops [MV 3 0,BC 4 .eql 3 (.str []),MV 5 4,MG 6 5 false 0,P1 7 5 false (.call 186 true) 6,PT 8 5 7,MV 2 8]).seq
 C.ret))
theorem qo8:qI Tryz.prog 252 9 0 [RV.tmp 2] qp4:=fi Tryz.f252 [] zk []
def qmt:C:=
 ((C.ops [MC 2 (.bool false)]).seq ((C.ops [MV 4 0,O1 5 (.call 285 true) 4,MV 3 5]).seq ((C.ops [MV 6 0,O1 7 (.call 311 true) 6,MV 8 7,MG 9 8 false 3,PC 10 8 false (.bin .eql)
 9 (i6 2),PT 11 8 10,MV 12 11,MG 13 12 false 3,PC 14 12 false (.bin .eql) 13 (i6 4),PT 15 12 14,MV 2 15]).seq
 C.ret)))
theorem qjI:qI Tryz.prog 292 16 0 [RV.tmp 2] qmt:=fi Tryz.f292 [] zk []
def qqd:C:=
 ((C.ops [MC 2 (.bool false)]).seq ((C.ops [MV 4 0,O1 5 (.call 285 true) 4,MV 3 5]).seq ((C.ops [MV 6 3,BC 7 .eql 6 (i6 1),MV 8 7,MG 9 8 false 3,PC 10 8 false (.bin .eql) 9
 (i6 3),PT 11 8 10,MV 2 11]).seq
 C.ret)))
theorem qph:qI Tryz.prog 311 12 0 [RV.tmp 2] qqd:=fi Tryz.f311 [] zk []
def qxj:C:=
 ((C.ops [O1 1 (.box 0 26) 0,MC 2 (i6 0)]).seq (((C.ops [O1 4 (.fldA 0) 1,LD 5 4,O1 6 (.fldA 1) 1,LD 7 6,O1 8 (.fldA 2) 1,LD 9 8,ON 10 (.call 152 true) [.t 5,.t 7,.t 9],MV
 3 10]).seq ((C.ops [MV 11 3,BC 12 .neq 11 (i6 0)]).seq (C.cond (.t 12) ((C.ops [MV 13 3,MV 2 13]).seq C.ret) C.skip))).seq (((C.ops [O1 14 (.fldA 2) 1,LD 15 14,O1 16 (.fldA 3)
 1,LD 17 16,O2 18 (.call 153 true) 15 17,BC 19 .neq 18 (i6 0)]).seq (C.cond (.t 19) ((C.ops [MC 2 (i6 19)]).seq C.ret) C.skip)).seq ((C.ops [MC 2 (i6 0)]).seq
 C.ret))))
theorem qvd:qI Tryz.prog 81 20 1 [RV.tmp 2] qxj:=fi Tryz.f81 [1] zk []
def qiH:C:=
 ((C.ops [MC 6 (i6 0)]).seq ((C.block 0 ((C.ops [MV 12 0,O1 13 (.call 186 true) 12,O1 14 (.un UnOp.not) 13,MV 11 14]).seq (C.cond (.t 11) ((C.ops [MC 6 (i6 14)]).seq C.ret)
 ((C.ops [MV 16 1,O1 17 .len 16,BC 18 .eql 17 (i6 0),MV 15 18]).seq (C.cond (.t 15) ((C.ops [MC 6 (i6 5)]).seq C.ret) ((C.ops [MV 20 1,O1 21 .len 20,BC 22 .gtr 21 (i6 32),MV
 19 22]).seq (C.cond (.t 19) ((C.ops [MC 6 (i6 4)]).seq C.ret) C.skip))))))).seq (((C.ops [MV 23 1,O1 24 .len 23,MC 25 (i6 0)]).seq (C.block 1 ((C.ops [BI 26 .lss 25 24]).seq
 ((C.cond (.t 26) C.skip (C.exit 1)).seq ((C.block 2 ((C.ops [MV 27 25,O2 28 (.idxA 1) 23 25,LD 29 28,MV 7 27,MV 8 29]).seq (((C.ops [MV 30 8,O1 31 (.call 204 true) 30,O1 32
 (.un UnOp.not) 31]).seq (C.cond (.t 32) ((C.ops [MC 6 (i6 14)]).seq C.ret) C.skip)).seq ((C.ops [MV 33 1,MV 34 7,O2 35 (.slc 1 false true) 33 34,MV 36 8,O2 37 (.call 43 true)
 35 36]).seq (C.cond (.t 37) ((C.ops [MC 6 (i6 7)]).seq C.ret) C.skip))))).seq (C.ops [BC 38 .add 25 (i6 1),MV 25 38])))).loop)).seq (((C.ops [MV 39 2,O1 40 .len 39,MV 41 1,O1
 42 .len 41,BI 43 .neq 40 42]).seq (C.cond (.t 43) ((C.ops [MC 6 (i6 9)]).seq C.ret) C.skip)).seq (((C.ops [MV 44 2,O1 45 .len 44,MC 46 (i6 0)]).seq (C.block 3 ((C.ops [BI 47
 .lss 46 45]).seq ((C.cond (.t 47) C.skip (C.exit 3)).seq ((C.block 4 ((C.ops [O2 48 (.idxA 1) 44 46,LD 49 48,MV 10 49]).seq (((C.ops [MV 50 10,O1 51 .len 50,BC 52 .gtr 51 (i6
 1024)]).seq (C.cond (.t 52) ((C.ops [MC 6 (i6 4)]).seq C.ret) C.skip)).seq ((C.ops [MV 53 10,OC 54 (.call 205 true) 53 (.fn (Fn.func 206) [] [])]).seq (C.cond (.t 54) ((C.ops [MC
 6 (i6 1)]).seq C.ret) C.skip))))).seq (C.ops [BC 55 .add 46 (i6 1),MV 46 55])))).loop)).seq ((C.ops [MC 6 (i6 0)]).seq
 C.ret))))))
theorem qfz:qI Tryz.prog 152 56 0 [RV.tmp 6] qiH:=fi Tryz.f152 [] zk []
def qti:C:=
 ((C.ops [O1 1 (.box 0 124) 0,MC 2 (.bool false)]).seq ((C.ops [O1 3 (.load (some 6)) 1,O1 4 (.call 207 true) 3,BC 5 .neq 4 (i6 0),MV 2 5]).seq
 C.ret))
theorem quC:qI Tryz.prog 206 6 1 [RV.tmp 2] qti:=fi Tryz.f206 [1] zk []
def qiM:C:=
 ((C.ops [MC 2 (.bool false)]).seq ((C.ops [MV 6 0,OC 7 (.call 241 true) 6 (.str [42]),MV 5 7,O1 8 (.ext 0) 5,O1 9 (.ext 1) 5,MV 3 8,MV 4 9]).seq ((C.ops [MV 10 3,O1 11
 (.call 186 true) 10,MV 12 11,MG 13 12 true 4,P1 14 12 true (.un UnOp.not) 13,MG 15 12 true 14,MG 16 15 false 0,P1 17 15 false .slen 16,PC 18 15 false (.bin .leq) 17 (i6 16),
 QT 19 12 true 15 18,PF 20 12 19,MV 2 20]).seq
 C.ret)))
theorem qfC:qI Tryz.prog 204 21 0 [RV.tmp 2] qiM:=fi Tryz.f204 [] zk []
def qtj:C:=
 ((C.ops [MC 2 (i6 0)]).seq ((C.block 0 ((C.ops [MV 4 0,O1 5 .len 4,BC 6 .eql 5 (i6 0),MV 3 6]).seq (C.cond (.t 3) ((C.ops [MC 2 (i6 5)]).seq C.ret) ((C.ops [MV 8 0,O1 9 .len 8,
 BC 10 .gtr 9 (i6 32),MV 11 10,MG 12 11 false 0,PC 13 11 false (.call 253 true) 12 (.fn (Fn.func 254) [] []),PT 14 11 13,MV 7 14]).seq (C.cond (.t 7) ((C.ops [MC 2 (i6 4)]).seq
 C.ret) C.skip))))).seq ((C.ops [MC 2 (i6 0)]).seq
 C.ret)))
theorem quD:qI Tryz.prog 208 15 0 [RV.tmp 2] qtj:=fi Tryz.f208 [] zk []
def qtu:C:=
 ((C.ops [MC 2 (.bool false)]).seq ((C.ops [MV 3 0,O1 4 .len 3,BC 5 .gtr 4 (i6 1024),MV 2 5]).seq
 C.ret))
theorem quQ:qI Tryz.prog 254 6 0 [RV.tmp 2] qtu:=fi Tryz.f254 [] zk []
def qta:C:=
 ((C.ops [MC 4 (i6 0)]).seq (((C.ops [MV 6 0,O1 7 (.call 208 true) 6,MV 5 7]).seq ((C.ops [MV 8 5,BC 9 .neq 8 (i6 0)]).seq (C.cond (.t 9) ((C.ops [MV 10 5,MV 4 10]).seq C.ret)
 C.skip))).seq (((C.ops [MV 11 0,MV 12 1,O2 13 (.call 209 true) 11 12,O1 14 (.un UnOp.not) 13]).seq (C.cond (.t 14) ((C.ops [MC 4 (i6 19)]).seq C.ret) C.skip)).seq ((C.ops [MC 4
 (i6 0)]).seq
 C.ret))))
theorem qut:qI Tryz.prog 153 15 0 [RV.tmp 4] qta:=fi Tryz.f153 [] zk []
def qtk:C:=
 ((C.ops [MC 4 (.bool false)]).seq ((C.ops [MV 12 0,O1 13 .len 12,⟨some 14,none,.mkslc 0 1 3 [i6 0] 8,[.t 13,.t 13]⟩,MV 5 14]).seq (((C.ops [MV 15 1,O1 16 .len 15,MC 17 (i6
 0)]).seq (C.block 0 ((C.ops [BI 18 .lss 17 16]).seq ((C.cond (.t 18) C.skip (C.exit 0)).seq ((C.block 1 ((C.ops [O2 19 (.idxA 1) 15 17,LD 20 19,MV 7 20]).seq (((C.ops [MV 21 7,
 O1 22 .len 21,MV 23 0,O1 24 .len 23,BI 25 .neq 22 24]).seq (C.cond (.t 25) ((C.ops [MC 4 (.bool false)]).seq C.ret) C.skip)).seq ((C.ops [MC 8 (.bool false)]).seq (((C.ops [MV
 26 7,O1 27 .len 26,MC 28 (i6 0)]).seq (C.block 2 ((C.ops [BI 29 .lss 28 27]).seq ((C.cond (.t 29) C.skip (C.exit 2)).seq ((C.block 3 ((C.ops [MV 30 28,O2 31 (.idxA 1) 26 28,LD
 32 31,MV 9 30,MV 10 32]).seq (((C.ops [MV 33 10,BC 34 .eql 33 (i6 (-1))]).seq (C.cond (.t 34) (C.exit 3) C.skip)).seq (((C.ops [MV 35 10,MV 36 5,MV 37 9,O2 38 (.idxA 1) 36
 37,LD 39 38,BI 40 .neq 35 39,MV 41 40,MG 42 41 false 10,MG 43 41 false 0,MG 44 41 false 9,P2 45 41 false (.idxA 1) 43 44,P1 46 41 false (.load none) 45,P1 47 41 false .len
 46,P2 48 41 false (.bin .geq) 42 47,PT 49 41 48]).seq (C.cond (.t 49) ((C.ops [MC 4 (.bool false)]).seq C.ret) C.skip)).seq ((C.ops [MV 50 5,MV 51 9,O2 52 (.idxA 1) 50 51,LD
 53 52,BC 54 .add 53 (i6 1),O2 55 (.idxA 1) 50 51,ST 1 55 54]).seq (C.ops [MC 8 (.bool true)])))))).seq (C.ops [BC 56 .add 28 (i6 1),MV 28 56])))).loop)).seq ((C.ops [MV 57 8,
 O1 58 (.un UnOp.not) 57]).seq (C.cond (.t 58) ((C.ops [MC 4 (.bool false)]).seq C.ret) C.skip))))))).seq (C.ops [BC 59 .add 17 (i6 1),MV 17 59])))).loop)).seq (((C.ops [MV 60 0,
 O1 61 .len 60,MC 62 (i6 0)]).seq (C.block 4 ((C.ops [BI 63 .lss 62 61]).seq ((C.cond (.t 63) C.skip (C.exit 4)).seq ((C.block 5 ((C.ops [MV 64 62,MV 11 64]).seq ((C.ops [MV 65 5,
 MV 66 11,O2 67 (.idxA 1) 65 66,LD 68 67,MV 69 0,MV 70 11,O2 71 (.idxA 1) 69 70,LD 72 71,O1 73 .len 72,BI 74 .neq 68 73]).seq (C.cond (.t 74) ((C.ops [MC 4 (.bool
 false)]).seq C.ret) C.skip)))).seq (C.ops [BC 75 .add 62 (i6 1),MV 62 75])))).loop)).seq ((C.ops [MC 4 (.bool true)]).seq
 C.ret)))))
theorem quE:qI Tryz.prog 209 76 1 [RV.tmp 4] qtk:=fi Tryz.f209 [14] zk []
def qxk:C:=
 ((C.ops [O1 1 (.box 0 26) 0,MC 2 (i6 0)]).seq (((C.ops [O1 10 (.fldA 0) 1,LD 11 10,O1 12 (.fldA 1) 1,LD 13 12,O1 14 (.fldA 2) 1,LD 15 14,ON 16 (.call 154 true) [.t 11,.t
 13,.t 15],MV 3 16]).seq ((C.ops [MV 17 3,BC 18 .neq 17 (i6 0)]).seq (C.cond (.t 18) ((C.ops [MV 19 3,MV 2 19]).seq C.ret) C.skip))).seq ((C.ops [O1 20 (.fldA 1) 1,LD 21 20,O1
 22 .len 21,⟨some 23,none,.mkslc 1 1 3 [i6 0] 8,[.t 22,.t 22]⟩,MV 4 23]).seq (((C.ops [MC 5 (i6 0)]).seq (C.block 0 (((C.ops [MV 24 5,O1 25 (.fldA 3) 1,LD 26 25,O1 27 .len
 26,BI 28 .lss 24 27]).seq (C.cond (.t 28) C.skip (C.exit 0))).seq ((C.block 1 ((C.ops [O1 31 (.fldA 3) 1,LD 32 31,MV 33 5,O2 34 (.idxA 1) 32 33,LD 35 34,MV 6 35]).seq
 (((C.ops [MV 36 6,O1 37 .len 36,MV 38 4,O1 39 .len 38,BI 40 .neq 37 39]).seq (C.cond (.t 40) ((C.ops [MC 2 (i6 19)]).seq C.ret) C.skip)).seq ((C.ops [MC 7 (.bool false)]).seq
 (((C.ops [MC 8 (i6 0)]).seq (C.block 2 (((C.ops [MV 41 8,MV 42 6,O1 43 .len 42,BI 44 .lss 41 43]).seq (C.cond (.t 44) C.skip (C.exit 2))).seq ((C.block 3 (((C.ops [MV 47 6,MV
 48 8,O2 49 (.idxA 1) 47 48,LD 50 49,BC 51 .eql 50 (i6 (-1))]).seq (C.cond (.t 51) (C.exit 3) C.skip)).seq (((C.ops [MV 52 6,MV 53 8,O2 54 (.idxA 1) 52 53,LD 55 54,MV 56 4,
 MV 57 8,O2 58 (.idxA 1) 56 57,LD 59 58,BI 60 .neq 55 59,MV 61 60,MG 62 61 false 6,MG 63 61 false 8,P2 64 61 false (.idxA 1) 62 63,P1 65 61 false (.load none) 64,P1 66 61
 false (.fldA 2) 1,P1 67 61 false (.load none) 66,MG 68 61 false 8,P2 69 61 false (.idxA 1) 67 68,P1 70 61 false (.load none) 69,P1 71 61 false .len 70,P2 72 61 false (.bin
 .geq) 65 71,PT 73 61 72]).seq (C.cond (.t 73) ((C.ops [MC 2 (i6 19)]).seq C.ret) C.skip)).seq ((C.ops [MV 74 4,MV 75 8,O2 76 (.idxA 1) 74 75,LD 77 76,BC 78 .add 77 (i6 1),O2
 79 (.idxA 1) 74 75,ST 1 79 78]).seq (C.ops [MC 7 (.bool true)]))))).seq (C.ops [MV 45 8,BC 46 .add 45 (i6 1),MV 8 46]))).loop)).seq ((C.ops [MV 80 7,O1 81 (.un UnOp.not)
 80]).seq (C.cond (.t 81) ((C.ops [MC 2 (i6 19)]).seq C.ret) C.skip))))))).seq (C.ops [MV 29 5,BC 30 .add 29 (i6 1),MV 5 30]))).loop)).seq (((C.ops [MC 9 (i6 0)]).seq (C.block 4
 (((C.ops [MV 82 9,MV 83 4,O1 84 .len 83,BI 85 .lss 82 84]).seq (C.cond (.t 85) C.skip (C.exit 4))).seq ((C.block 5 ((C.ops [MV 88 4,MV 89 9,O2 90 (.idxA 1) 88 89,LD 91 90,O1
 92 (.fldA 2) 1,LD 93 92,MV 94 9,O2 95 (.idxA 1) 93 94,LD 96 95,O1 97 .len 96,BI 98 .neq 91 97]).seq (C.cond (.t 98) ((C.ops [MC 2 (i6 19)]).seq C.ret) C.skip))).seq (C.ops
 [MV 86 9,BC 87 .add 86 (i6 1),MV 9 87]))).loop)).seq ((C.ops [MC 2 (i6 0)]).seq
 C.ret))))))
theorem qve:qI Tryz.prog 82 99 2 [RV.tmp 2] qxk:=fi Tryz.f82 [1,23] zk []
def qiI:C:=
 ((C.ops [MC 6 (i6 0)]).seq (((C.ops [MV 11 0,O1 12 (.call 166 true) 11,O1 13 (.un UnOp.not) 12]).seq (C.cond (.t 13) ((C.ops [MC 6 (i6 14)]).seq C.ret) C.skip)).seq (((C.ops [MV
 14 1,O1 15 .len 14,BC 16 .eql 15 (i6 0)]).seq (C.cond (.t 16) ((C.ops [MC 6 (i6 5)]).seq C.ret) C.skip)).seq (((C.ops [MV 17 1,O1 18 .len 17,BC 19 .gtr 18 (i6 32)]).seq (C.cond
 (.t 19) ((C.ops [MC 6 (i6 4)]).seq C.ret) C.skip)).seq (((C.ops [MC 7 (i6 0)]).seq (C.block 0 (((C.ops [MV 20 7,MV 21 1,O1 22 .len 21,BI 23 .lss 20 22]).seq (C.cond (.t 23)
 C.skip (C.exit 0))).seq ((C.block 1 (((C.ops [MV 26 1,MV 27 7,O2 28 (.idxA 1) 26 27,LD 29 28,O1 30 (.call 210 true) 29,O1 31 (.un UnOp.not) 30]).seq (C.cond (.t 31) ((C.ops
 [MC 6 (i6 14)]).seq C.ret) C.skip)).seq ((C.ops [MC 8 (i6 0)]).seq (C.block 2 (((C.ops [MV 32 8,MV 33 7,BI 34 .lss 32 33]).seq (C.cond (.t 34) C.skip (C.exit 2))).seq ((C.block 3
 ((C.ops [MV 37 1,MV 38 8,O2 39 (.idxA 1) 37 38,LD 40 39,MV 41 1,MV 42 7,O2 43 (.idxA 1) 41 42,LD 44 43,BI 45 .eql 40 44]).seq (C.cond (.t 45) ((C.ops [MC 6 (i6 7)]).seq
 C.ret) C.skip))).seq (C.ops [MV 35 8,BC 36 .add 35 (i6 1),MV 8 36]))).loop)))).seq (C.ops [MV 24 7,BC 25 .add 24 (i6 1),MV 7 25]))).loop)).seq (((C.ops [MV 46 2,O1 47 .len 46,
 MV 48 1,O1 49 .len 48,BI 50 .neq 47 49]).seq (C.cond (.t 50) ((C.ops [MC 6 (i6 9)]).seq C.ret) C.skip)).seq (((C.ops [MC 9 (i6 0)]).seq (C.block 4 (((C.ops [MV 51 9,MV 52 2,O1
 53 .len 52,BI 54 .lss 51 53]).seq (C.cond (.t 54) C.skip (C.exit 4))).seq ((C.block 5 (((C.ops [MV 57 2,MV 58 9,O2 59 (.idxA 1) 57 58,LD 60 59,O1 61 .len 60,BC 62 .gtr 61 (i6
 1024)]).seq (C.cond (.t 62) ((C.ops [MC 6 (i6 4)]).seq C.ret) C.skip)).seq ((C.ops [MC 10 (i6 0)]).seq (C.block 6 (((C.ops [MV 63 10,MV 64 2,MV 65 9,O2 66 (.idxA 1) 64 65,LD 67
 66,O1 68 .len 67,BI 69 .lss 63 68]).seq (C.cond (.t 69) C.skip (C.exit 6))).seq ((C.block 7 ((C.ops [MV 72 2,MV 73 9,O2 74 (.idxA 1) 72 73,LD 75 74,MV 76 10,O2 77 (.idxA 6)
 75 76,O1 78 (.load (some 6)) 77,O1 79 (.call 211 true) 78,BC 80 .neq 79 (i6 0)]).seq (C.cond (.t 80) ((C.ops [MC 6 (i6 1)]).seq C.ret) C.skip))).seq (C.ops [MV 70 10,BC 71 .add
 70 (i6 1),MV 10 71]))).loop)))).seq (C.ops [MV 55 9,BC 56 .add 55 (i6 1),MV 9 56]))).loop)).seq ((C.ops [MC 6 (i6 0)]).seq
 C.ret))))))))
theorem qfA:qI Tryz.prog 154 81 0 [RV.tmp 6] qiI:=fi Tryz.f154 [] zk []
def qiN:C:=
 ((C.ops [MC 2 (.bool false)]).seq (((C.ops [MV 4 0,O1 5 .slen 4,MV 3 5]).seq ((C.ops [MV 6 3,BC 7 .gtr 6 (i6 0),MV 8 7,MG 9 8 true 0,MG 10 8 true 3,PC 11 8 true (.bin .sub)
 10 (i6 1),P2 12 8 true .sidx 9 11,PC 13 8 true (.bin .eql) 12 (.int .u8 42),PF 14 8 13]).seq (C.cond (.t 14) ((C.ops [MV 15 3,BC 16 .leq 15 (i6 16),MV 17 16,MG 18 17 true 0,
 MG 19 17 true 3,PC 20 17 true (.bin .sub) 19 (i6 1),P2 21 17 true (.sslc false true) 18 20,P1 22 17 true (.call 166 true) 21,PF 23 17 22,MV 2 23]).seq C.ret) C.skip))).seq
 ((C.ops [MV 24 0,O1 25 (.call 166 true) 24,MV 2 25]).seq
 C.ret)))
theorem qfD:qI Tryz.prog 210 26 0 [RV.tmp 2] qiN:=fi Tryz.f210 [] zk []
end
section
open Go Go.Proofs AF HY LN
namespace RC
theorem qy5(s:Str)(h:List AObj)(hs:s.length≤1000000000):ACalls Tryz.prog 252 [.str s] h (.bool (ql8 s)) h:=by
 have c1:=fun h=>t44 s h hs
 unfold ql8
 by_cases g:s= []
 ·subst g;rw[dqt rfl,Bool.true_or];refine acO qo8 ?_;simp (disch:=omega) only[qp4,go_sem]
  repeat' first
   |(refine qj ( .bool false) ?_;simp (disch:=omega) only[go_sem])
   |(apply qc;exact rvk;simp only[go_sem];exact qi)
 ·have k1:(s= [])=False:=eqf g;rw[dqf g,Bool.false_or];refine acO qo8 ?_;simp (disch:=omega) only[qp4,k1,go_sem]
  repeat' first
   |(refine cG (fun e=>c1 _) flk ?_;simp (disch:=omega) only[go_sem])
   |(apply qc;exact rvk;simp only[go_sem];exact qi)
theorem qzJ(s:Str)(h:List AObj)(hs:s.length≤1000000000):ACalls Tryz.prog 249 [.str s] h (.bool (qvF s)) h:=by
 unfold qvF
 by_cases g:s.length=1
 ·have k1:((s.length:Int)=1)=True:=eqt om;have k2:((0:Int)<s.length)=True:=eqt om;have e:(s[0]?).getD 0=ch s 0:=by simp[ch,gdqA]
  have c5:=fun h=>qdd (ch s 0) h
  rw[dqt g,Bool.true_and];obtain⟨k,hk⟩: ∃k,k=kind (ch s 0):=⟨_,rfl⟩
  rw[←hk]at c5 ⊢
  by_cases g1:k=5
  ·have q1:(k=5)=True:=eqt g1;rw[dqt g1,Bool.true_or];refine acO qjH ?_;simp (disch:=omega) only[qms,k1,go_sem]
   repeat' first
    |(refine cA (c5 _) flk ?_;simp (disch:=omega) only[e,q1,go_sem])
    |(apply qc;exact rvk;simp only[go_sem];exact qi)
    |with_reducible apply aiA
   all_goals try exact clz
  ·have q1:(k=5)=False:=eqf g1;rw[dqf g1,Bool.false_or];refine acO qjH ?_;simp (disch:=omega) only[qms,k1,go_sem]
   repeat' first
    |(refine cA (c5 _) flk ?_;simp (disch:=omega) only[e,q1,go_sem])
    |(apply qc;exact rvk;simp only[go_sem];exact qi)
    |with_reducible apply aiA
   all_goals try exact clz
 ·have k1:((s.length:Int)=1)=False:=eqf om;rw[dqf g,Bool.false_and];refine acO qjH ?_;simp (disch:=omega) only[qms,k1,go_sem]
  repeat' first
   |(apply qc;exact rvk;simp only[go_sem];exact qi)
theorem qzl(c:UInt8)(h:List AObj):ACalls Tryz.prog 311 [.int .u8 (c.toNat:Int)] h (.bool (decide (kind c=1)||decide (kind c=3))) h:=by
 have c5:=fun h=>qdd c h
 obtain⟨k,hk⟩: ∃k,k=kind c:=⟨_,rfl⟩
 rw[←hk]at c5 ⊢
 by_cases g1:k=1
 ·have q1:(k=1)=True:=eqt g1;rw[dqt g1,Bool.true_or];refine acO qph ?_;simp (disch:=omega) only[qqd,go_sem]
  repeat' first
   |(refine cA (c5 _) flk ?_;simp (disch:=omega) only[q1,go_sem])
   |(apply qc;exact rvk;simp only[go_sem];exact qi)
 ·have q1:(k=1)=False:=eqf g1;rw[dqf g1,Bool.false_or];refine acO qph ?_;simp (disch:=omega) only[qqd,go_sem]
  repeat' first
   |(refine cA (c5 _) flk ?_;simp (disch:=omega) only[q1,go_sem])
   |(apply qc;exact rvk;simp only[go_sem];exact qi)
theorem qzG(c:UInt8)(h:List AObj):ACalls Tryz.prog 292 [.int .u8 (c.toNat:Int)] h (.bool (qeK c)) h:=by
 have c5:=fun h=>qdd c h
 have c6:=fun h=>qzl c h
 unfold qeK;rw[←Bool.or_assoc];obtain⟨k,hk⟩: ∃k,k=kind c:=⟨_,rfl⟩
 rw[←hk]at c5 c6 ⊢;obtain⟨b,hb⟩: ∃b,b=(decide (k=1)||decide (k=3)):=⟨_,rfl⟩
 rw[←hb]at c6 ⊢;cases b with
 |true=>
  rw[Bool.true_or];refine acO qjI ?_;simp (disch:=omega) only[qmt,go_sem]
  repeat' first
   |((first|refine cA (c5 _) ?_ ?_|refine cA (c6 _) ?_ ?_);exact flk;simp (disch:=omega) only[go_sem])
   |(apply qc;exact rvk;simp only[go_sem];exact qi)
 |false=>
  rw[Bool.false_or]
  by_cases g1:k=2
  ·have q1:(k=2)=True:=eqt g1;rw[dqt g1,Bool.true_or];refine acO qjI ?_;simp (disch:=omega) only[qmt,go_sem]
   repeat' first
    |((first|refine cA (c5 _) ?_ ?_|refine cA (c6 _) ?_ ?_);exact flk;simp (disch:=omega) only[q1,go_sem])
    |(apply qc;exact rvk;simp only[go_sem];exact qi)
  ·have q1:(k=2)=False:=eqf g1;rw[dqf g1,Bool.false_or];refine acO qjI ?_;simp (disch:=omega) only[qmt,go_sem]
   repeat' first
    |((first|refine cA (c5 _) ?_ ?_|refine cA (c6 _) ?_ ?_);exact flk;simp (disch:=omega) only[q1,go_sem])
    |(apply qc;exact rvk;simp only[go_sem];exact qi)
theorem qya(s:Str)(h:List AObj)(hs:s.length≤1000000000):ACalls Tryz.prog 251 [.str s] h (.bool (qsL s)) h:=by
 obtain⟨R,hR⟩: ∃R,R=qsL s:=⟨_,rfl⟩
 rw[←hR];unfold qsL at hR;refine acO quO ?_;simp (disch:=omega) only[qtt,go_sem];refine qn (T:=fun i:Nat=>qM 22 [(0,.str s),(5,.int .i64 s.length),(6,.int .i64 i)]) (H:=fun _=>h) (inv:=fun i=>i≤s.length∧ ∀j,j<i→qeK (ch s j)=true) (m:=fun i=>s.length-i) 0 ⟨nzl _,fun j hj=>by omega⟩ (Wk.temps ?_) ?_
 ·(simp only[go_sem,qh,qe,qb,qg];try (repeat' first|(with_reducible apply aiA)|(apply qf;omega)|(apply qd;rfl)|exact qi))
 rintro i ⟨i1,i2⟩ K hK
 by_cases hi:i<s.length
 ·have k1:((i:Int)<s.length)=True:=eqt om;have e:(s[i]?).getD 0=ch s i:=by simp[ch,gdqA]
  have c1:=fun h=>qzG (ch s i) h
  cases g:qeK (ch s i)with
  |false=>
   rw[g]at c1;have hV:R=false:=by
    have:((List.range s.length).all fun i=>qeK (ch s i))=false:=by
     rw[List.all_eq_false];exact⟨i,List.mem_range.2 hi,by simp[g]⟩
    rw[hR,this,Bool.and_false,Bool.and_false]
   rw[hV];simp (disch:=omega) only[k1,e,go_sem]
   repeat' first
    |(refine cA (c1 _) flk ?_;simp (disch:=omega) only[go_sem])
    |(apply qc;exact rvk;simp only[go_sem];exact qi)
    |with_reducible apply aiA
   all_goals try exact clz
  |true=>
   rw[g]at c1;simp (disch:=omega) only[k1,e,go_sem]
   repeat' first
    |(refine cA (c1 _) flk ?_;simp (disch:=omega) only[go_sem])
    |with_reducible apply aiA
   all_goals try exact clz
   refine hK _ _ (i+1) ⟨hi,fun j hj=> ?_⟩ om (Wk.temps ?_)
   ·by_cases e':j=i
    ·subst e';exact g
    ·exact i2 j om
   ·(simp only[go_sem,qh,qe,qb,qg];try (repeat' first|(with_reducible apply aiA)|(apply qf;omega)|(apply qd;rfl)|exact qi))
 ·have k1:((i:Int)<s.length)=False:=eqf om;have hA:((List.range s.length).all fun i=>qeK (ch s i))=true:=by
   rw[List.all_eq_true];intro j hj;exact i2 j (by have:=List.mem_range.1 hj;omega)
  rw[hA,Bool.and_true]at hR
  by_cases g:s= []
  ·have q1:(s= [])=True:=eqt g;rw[hR,dqf (fun h=>h g),Bool.false_and];simp (disch:=omega) only[k1,q1,go_sem]
   repeat' first
    |(apply qc;exact rvk;simp only[go_sem];exact qi)
  ·have q1:(s= [])=False:=eqf g;have q2:decide ((s.length:Int)≤64)=decide (s.length≤64):=decide_eq_decide.2 om;rw[hR,dqt (show s≠ []from g),Bool.true_and];simp (disch:=omega) only[k1,q1,q2,go_sem]
   repeat' first
    |(apply qc;exact rvk;simp only[go_sem];exact qi)
theorem qrl{k:Nat}:1≤(Lib.itoa (k:Int)).length:=by
 rw[Lib.itoa_nonneg]
 by_cases g:k<10
 ·rw[Lib.decDigits,dif_pos g];simp
 ·rw[Lib.decDigits,dif_neg g];simp
theorem qvl{s:Str}(h:qek s=true):3≤s.length∧((s[0]?).getD 0).toNat=91∧((s[s.length-1]?).getD 0).toNat=93∧ ∃v:Int,Lib.atoiAll ((s.drop 1).take (s.length-1-1))= .ok v∧1≤v∧v≤64∧s=91::(Lib.itoa v++ [93]):=by
 unfold qek at h;rw[List.any_eq_true]at h;obtain⟨k,hk,e⟩:=h;have hk':k<64:=by simpa using hk
 have e:=of_decide_eq_true e;have hl:=qrl (k:=k+1);obtain⟨t,ht⟩: ∃t,t=Lib.itoa ((k+1:Nat):Int):=⟨_,rfl⟩
 rw[←ht]at e hl;have ha:Lib.atoiAll t= .ok ((k+1:Nat):Int):=by rw[ht];exact qhS om om
 have e1:s.length=t.length+2:=by rw[e];simp
 refine⟨om,by rw[e];rfl,?_,((k+1:Nat):Int),?_,om,om,by rw[←ht];exact e⟩
 ·rw[e1,e,show t.length+2-1=t.length+1 by omega,List.getElem?_cons_succ,List.getElem?_append_right (nlr _),Nat.sub_self];rfl
 ·rw[←ha,e1,e];congr 1;simp
theorem qvm{s:Str}{v:Int}(h1:1≤v)(h2:v≤64)(e:s=91::(Lib.itoa v++ [93])):qek s=true:=by
 unfold qek;rw[List.any_eq_true];refine⟨v.toNat-1,by simp;omega,dqt ?_⟩;rw[show ((v.toNat-1+1:Nat):Int)=v by omega];exact e
theorem qzz(s:Str)(h:List AObj)(hs:s.length≤1000000000)(hp:ky SG h):ACalls Tryz.prog 248 [.str s] h (.bool (qek s)) h:=by
 have hF:= @qvl s;have hM:= @qvm s;obtain⟨R,hR⟩: ∃R,R=qek s:=⟨_,rfl⟩
 rw[←hR]at hF hM ⊢;have hV: ¬(R=true)→R=false:=by cases R<;>simp
 by_cases g0:s.length<3
 ·have k0:((s.length:Int)<3)=True:=eqt om;rw[hV (fun c=>by have:=(hF c).1;omega)];refine acO qbd ?_;simp (disch:=omega) only[qcN,k0,go_sem]
  repeat' first
   |(apply qc;exact rvk;simp only[go_sem];exact qi)
 have k0:((s.length:Int)<3)=False:=eqf om;have k1:((0:Int)<s.length)=True:=eqt om;have k2:((s.length:Int)-1).toNat=s.length-1:=by omega
 have k3:(0≤(s.length:Int)-1)=True:=eqt om;have k4:((s.length:Int)-1≤s.length)=True:=eqt om;have k5:((s.length:Int)-1<s.length)=True:=eqt om;have k6:((1:Int)≤(s.length:Int)-1)=True:=eqt om;obtain⟨m,hm⟩: ∃m,m=(s.drop 1).take (s.length-1-1):=⟨_,rfl⟩
 have hml:m.length≤s.length:=by rw[hm];simp;omega
 have em:=hm.symm;rw[em]at hF;obtain⟨a,ha⟩: ∃a,a=(s[0]?).getD 0:=⟨_,rfl⟩
 obtain⟨b,hb⟩: ∃b,b=(s[s.length-1]?).getD 0:=⟨_,rfl⟩
 have ea:=ha.symm;have eb:=hb.symm;rw[ea,eb]at hF
 by_cases g1:a.toNat=91
 case neg=>
  have q1:((a.toNat:Int)=91)=False:=eqf om;rw[hV (fun c=>g1 (hF c).2.1)];refine acO qbd ?_;simp (disch:=omega) only[qcN,k0,k1,k2,k3,k4,k5,k6,em,ea,eb,q1,Int.toNat_zero,Int.toNat_one,go_sem]
  repeat' first
   |(apply qc;exact rvk;simp only[go_sem];exact qi)
   |with_reducible apply aiA
  all_goals try exact clz
 have q1:((a.toNat:Int)=91)=True:=eqt om
 by_cases g2:b.toNat=93
 case neg=>
  have q2:((b.toNat:Int)=93)=False:=eqf om;rw[hV (fun c=>g2 (hF c).2.2.1)];refine acO qbd ?_;simp (disch:=omega) only[qcN,k0,k1,k2,k3,k4,k5,k6,em,ea,eb,q1,q2,Int.toNat_zero,Int.toNat_one,go_sem]
  repeat' first
   |(apply qc;exact rvk;simp only[go_sem];exact qi)
   |with_reducible apply aiA
  all_goals try exact clz
 have q2:((b.toNat:Int)=93)=True:=eqt om;have c180:=t50 m h (SG.err hp) om;unfold qpL at c180;cases hA:Lib.atoiAll m
 case ok v=>
  rw[hA]at c180 hF;simp only at c180;obtain⟨r1,r2⟩:=qmi hA;have c181:=t48 v h (SG.pow hp) r1 r2;obtain⟨t,ht⟩: ∃t,t=Lib.itoa v:=⟨_,rfl⟩
  rw[←ht]at c181
  by_cases g3:1≤v
  case neg=>
   have q3:(1≤v)=False:=eqf g3;rw[hV (fun c=>by obtain⟨_,_,_,w,e,w1,_⟩:=hF c;cases e;exact g3 w1)];refine acO qbd ?_;simp (disch:=omega) only[qcN,k0,k1,k2,k3,k4,k5,k6,em,ea,eb,q1,q2,Int.toNat_zero,Int.toNat_one,go_sem]
   repeat' first
    |(refine qj ( .str []) ?_;simp (disch:=omega) only[go_sem])
    |(refine cA (c180) flk ?_;simp (disch:=omega) only[q3,go_sem])
    |(apply qc;exact rvk;simp only[go_sem];exact qi)
    |with_reducible first|intro _|apply aiA
   all_goals try exact clz
  have q3:(1≤v)=True:=eqt g3
  by_cases g4:v≤64
  case neg=>
   have q4:(v≤64)=False:=eqf g4;rw[hV (fun c=>by obtain⟨_,_,_,w,e,_,w2,_⟩:=hF c;cases e;exact g4 w2)];refine acO qbd ?_;simp (disch:=omega) only[qcN,k0,k1,k2,k3,k4,k5,k6,em,ea,eb,q1,q2,Int.toNat_zero,Int.toNat_one,go_sem]
   repeat' first
    |(refine qj ( .str []) ?_;simp (disch:=omega) only[go_sem])
    |(refine cA (c180) flk ?_;simp (disch:=omega) only[q3,q4,go_sem])
    |(apply qc;exact rvk;simp only[go_sem];exact qi)
    |with_reducible apply aiA
   all_goals try exact clz
  have q4:(v≤64)=True:=eqt g4
  by_cases g5:s=91::(t++ [93])
  ·have q5:(s=91::(t++ [93]))=True:=eqt g5;have htl:t.length≤9:=by
    obtain⟨n,rfl⟩: ∃n:Nat,v=n:=⟨v.toNat,om⟩
    rw[ht];exact qeM om
   rw[hM g3 g4 (by rw[←ht];exact g5)];refine acO qbd ?_;simp (disch:=omega) only[qcN,k0,k1,k2,k3,k4,k5,k6,em,ea,eb,q1,q2,Int.toNat_zero,Int.toNat_one,go_sem]
   repeat' first
    |((first|refine cA (c180) ?_ ?_|refine cG (fun e=>c181) ?_ ?_);exact flk;simp (disch:=omega) only[q3,q4,q5,go_sem])
    |(apply qc;exact rvk;simp only[go_sem];exact qi)
    |with_reducible apply aiA
   all_goals try exact clz
  ·have q5:(s=91::(t++ [93]))=False:=eqf g5;have htl:t.length≤9:=by
    obtain⟨n,rfl⟩: ∃n:Nat,v=n:=⟨v.toNat,om⟩
    rw[ht];exact qeM om
   rw[hV (fun c=>by obtain⟨_,_,_,w,e,_,_,w3⟩:=hF c;cases e;exact g5 (by rw[ht];exact w3))];refine acO qbd ?_;simp (disch:=omega) only[qcN,k0,k1,k2,k3,k4,k5,k6,em,ea,eb,q1,q2,Int.toNat_zero,Int.toNat_one,go_sem]
   repeat' first
    |((first|refine cA (c180) ?_ ?_|refine cG (fun e=>c181) ?_ ?_);exact flk;simp (disch:=omega) only[q3,q4,q5,go_sem])
    |(apply qc;exact rvk;simp only[go_sem];exact qi)
    |with_reducible apply aiA
   all_goals try exact clz
 all_goals
  rw[hA]at c180 hF;simp only at c180;rw[hV (fun c=>by obtain⟨_,_,_,w,e,_⟩:=hF c;cases e)];refine acO qbd ?_;simp (disch:=omega) only[qcN,k0,k1,k2,k3,k4,k5,k6,em,ea,eb,q1,q2,Int.toNat_zero,Int.toNat_one,go_sem]
  repeat' first
   |(refine qj ( .str []) ?_;simp (disch:=omega) only[go_sem])
   |(refine cA (c180) flk ?_;simp (disch:=omega) only[go_sem])
   |(apply qc;exact rvk;simp only[go_sem];exact qi)
   |with_reducible first|intro _|apply aiA
  all_goals try exact clz
theorem qxd: ∀f:Nat,f<32→qw5 .i64 (f:Int) 2=if f.testBit 1 then 2 else 0:=by decide+kernel
theorem qxe: ∀f:Nat,f<32→qw5 .i64 (f:Int) 8=if f.testBit 3 then 8 else 0:=by decide+kernel
theorem qsX: ∀f:Nat,f<32→qw5 .i64 (f:Int) 10=(if f.testBit 1 then 2 else 0)+if f.testBit 3 then 8 else 0:=by decide+kernel
theorem qzH(t:Tk)(f:Nat)(h:List AObj)(hf:t.flags=f)(hf2:f<32):ACalls Tryz.prog 250 [.agg (tkC t)] h (.bool (!qni t.flags&& !mkB t.flags)) h:=by
 have e1:=qsX f hf2;have eg:qni t.flags=f.testBit 1:=by unfold qni;rw[hf,itn]
 have ek:mkB t.flags=f.testBit 3:=by unfold mkB;rw[hf,itn]
 rw[eg,ek];cases g1:f.testBit 1<;>cases g2:f.testBit 3<;>rw[g1,g2]at e1<;>simp only[Bool.false_eq_true,if_false,if_true,Int.add_zero,Int.zero_add]at e1
 all_goals
  refine acO quN ?_;simp (disch:=omega) only[qts,tkC,hf,e1,go_sem]
  repeat' first
   |(apply qa;exact rvk;simp only[go_sem];exact qi)
structure qoJ (t:Tk):Prop where
 tx:t.text.length≤1000000000
 nm:t.norm.length≤1000000000
 pg:t.page.length≤1000000000
 na:t.name.length≤1000000000
theorem tkP(t:Tk)(h:List AObj)(hz:qoJ t)(hp:ky SG h):ACalls Tryz.prog 207 [.agg (tkC t)] h (.int .i64 (tkE t)) h:=by
 obtain⟨R,hR⟩: ∃R,R=tkE t:=⟨_,rfl⟩
 rw[←hR];unfold tkE at hR
 by_cases g1:t.flags<0
 ·have k1:(t.flags<0)=True:=eqt g1;rw[ipo (.inl g1)]at hR;rw[hR];refine acO zT ?_;simp (disch:=omega) only[jN,tkC,go_sem]
  repeat' first
   |(apply qa;exact rvk;simp only[go_sem];first|exact qi|apply qf)
   |with_reducible first|intro _|apply aiA
  all_goals try exact clz
 have k1:(t.flags<0)=False:=eqf g1
 by_cases g2:31<t.flags
 ·have k2:((31:Int)<t.flags)=True:=eqt g2;rw[ipo (.inr g2)]at hR;rw[hR];refine acO zT ?_;simp (disch:=omega) only[jN,tkC,go_sem]
  repeat' first
   |(apply qa;exact rvk;simp only[go_sem];first|exact qi|apply qf)
   |with_reducible first|intro _|apply aiA
  all_goals try exact clz
 have k2:((31:Int)<t.flags)=False:=eqf g2;rw[ine om]at hR;obtain⟨f,hf⟩: ∃f:Nat,t.flags=(f:Int):=⟨t.flags.toNat,om⟩
 have hf2:f<32:=by omega
 have e2:=qxd f hf2;have e8:=qxe f hf2;have eg:qni t.flags=f.testBit 1:=by unfold qni;rw[hf,itn]
 have ek:mkB t.flags=f.testBit 3:=by unfold mkB;rw[hf,itn]
 have cI:=fun h=>qzH t f h hf hf2
 have cP:=fun l=>qy5 t.page (h++l) hz.pg
 have cM:=fun l=>qy5 t.name (h++l) hz.na
 have hG:=fun l=>qzz t.text (h++l) hz.tx (hp.app l)
 have cK:=fun l=>qzJ t.text (h++l) hz.tx
 have cW:=fun l=>t88 t.text (h++l) hz.tx
 have cN:=fun l=>qya t.norm (h++l) hz.nm
 unfold txB at hR;rw[eg,ek]at hR cI;obtain⟨bp,hbp⟩: ∃b,b=ql8 t.page:=⟨_,rfl⟩
 obtain⟨bm,hbm⟩: ∃b,b=ql8 t.name:=⟨_,rfl⟩
 obtain⟨bg,hbg⟩: ∃b,b=qek t.text:=⟨_,rfl⟩
 obtain⟨bk,hbk⟩: ∃b,b=qvF t.text:=⟨_,rfl⟩
 obtain⟨bw,hbw⟩: ∃b,b=kT t.text:=⟨_,rfl⟩
 obtain⟨bn,hbn⟩: ∃b,b=qsL t.norm:=⟨_,rfl⟩
 rw[←hbp,←hbm,←hbg,←hbk,←hbw,←hbn]at hR;simp only[←hbp]at cP;simp only[←hbm]at cM;simp only[←hbg]at hG;simp only[←hbk]at cK;simp only[←hbw]at cW;simp only[←hbn]at cN;unfold tkC at cI;rw[hf]at cI k1 k2;cases ga:f.testBit 1<;>cases gb:f.testBit 3<;>rw[ga]at e2 hR cI<;>rw[gb]at e8 hR cI<;>simp only[Bool.false_eq_true,if_true,if_false,and_true,and_false,Bool.not_false,Bool.not_true,Bool.and_false,Bool.and_true]at e2 e8 hR cI
 ·cases bw with
  |false=>
   rw[Bool.false_and,ipo rfl]at hR;rw[hR];refine acO zT ?_;simp (disch:=omega) only[jN,tkC,hf,k1,k2,e2,e8,go_sem]
   repeat' first
    |(refine qu (cW _) ?_;simp (disch:=omega) only[go_sem])
    |(apply qa;exact rvk;simp only[go_sem];exact qi)
  |true=>
  rw[Bool.true_and]at hR;cases bn with
  |false=>
   rw[ipo rfl]at hR;rw[hR];refine acO zT ?_;simp (disch:=omega) only[jN,tkC,hf,k1,k2,e2,e8,go_sem]
   repeat' first
    |(refine qu (cW _) ?_;simp (disch:=omega) only[go_sem])
    |((first|refine cA (cI _) ?_ ?_|refine cG (fun e=>cN _) ?_ ?_);exact flk;simp (disch:=omega) only[go_sem])
    |(apply qa;exact rvk;simp only[go_sem];exact qi)
  |true=>
   rw[ine (by simp)]at hR
   by_cases g4:t.line<0
   ·have k4:(t.line<0)=True:=eqt g4;rw[ipo g4]at hR;rw[hR];refine acO zT ?_;simp (disch:=omega) only[jN,tkC,hf,k1,k2,e2,e8,go_sem]
    repeat' first
     |(refine qu (cW _) ?_;simp (disch:=omega) only[k4,go_sem])
     |((first|refine cA (cI _) ?_ ?_|refine cG (fun e=>cN _) ?_ ?_);exact flk;simp (disch:=omega) only[k4,go_sem])
     |(apply qa;exact rvk;simp only[go_sem];first|exact qi|apply qf)
     |with_reducible first|intro _|apply aiA
    all_goals try exact clz
   have k4:(t.line<0)=False:=eqf g4;rw[ine g4]at hR;cases bp with
   |false=>
    rw[ipo (.inl rfl)]at hR;rw[hR];refine acO zT ?_;simp (disch:=omega) only[jN,tkC,hf,k1,k2,e2,e8,go_sem]
    repeat' first
     |(refine qu (cW _) ?_;simp (disch:=omega) only[k4,go_sem])
     |(refine qj ( .bool false) ?_;simp (disch:=omega) only[go_sem])
     |((first|refine cA (cI _) ?_ ?_|refine cG (fun e=>cN _) ?_ ?_|refine cA (cP _) ?_ ?_);exact flk;simp (disch:=omega) only[k4,go_sem])
     |(apply qa;exact rvk;simp only[go_sem];first|exact qi|apply qf)
     |with_reducible first|intro _|apply aiA
    all_goals try exact clz
   |true=>
   cases bm with
   |false=>
    rw[ipo (.inr rfl)]at hR;rw[hR];refine acO zT ?_;simp (disch:=omega) only[jN,tkC,hf,k1,k2,e2,e8,go_sem]
    repeat' first
     |(refine qu (cW _) ?_;simp (disch:=omega) only[k4,go_sem])
     |((first|refine cA (cI _) ?_ ?_|refine cG (fun e=>cN _) ?_ ?_|refine cA (cP _) ?_ ?_|refine cG (fun e=>cM _) ?_ ?_);exact flk;simp (disch:=omega) only[k4,go_sem])
     |(apply qa;exact rvk;simp only[go_sem];first|exact qi|apply qf)
     |with_reducible first|intro _|apply aiA
    all_goals try exact clz
   |true=>
    rw[ine (by simp)]at hR;rw[hR];refine acO zT ?_;simp (disch:=omega) only[jN,tkC,hf,k1,k2,e2,e8,go_sem]
    repeat' first
     |(refine qu (cW _) ?_;simp (disch:=omega) only[k4,go_sem])
     |((first|refine cA (cI _) ?_ ?_|refine cG (fun e=>cN _) ?_ ?_|refine cA (cP _) ?_ ?_|refine cG (fun e=>cM _) ?_ ?_);exact flk;simp (disch:=omega) only[k4,go_sem])
     |(apply qa;exact rvk;simp only[go_sem];first|exact qi|apply qf)
     |with_reducible first|intro _|apply aiA
    all_goals try exact clz
 ·cases bk with
  |false=>
   rw[Bool.false_and,ipo rfl]at hR;rw[hR];refine acO zT ?_;simp (disch:=omega) only[jN,tkC,hf,k1,k2,e2,e8,go_sem]
   repeat' first
    |(refine qu (cK _) ?_;simp (disch:=omega) only[go_sem])
    |(apply qa;exact rvk;simp only[go_sem];first|exact qi|apply qf)
    |with_reducible first|intro _|apply aiA
   all_goals try exact clz
  |true=>
  rw[Bool.true_and]at hR
  by_cases g3:t.norm=t.text
  ·have k3:(t.norm=t.text)=True:=eqt g3;rw[dqt g3,ine (by simp)]at hR
   by_cases g4:t.line<0
   ·have k4:(t.line<0)=True:=eqt g4;rw[ipo g4]at hR;rw[hR];refine acO zT ?_;simp (disch:=omega) only[jN,tkC,hf,k1,k2,e2,e8,go_sem]
    repeat' first
     |(refine qu (cK _) ?_;simp (disch:=omega) only[k4,go_sem])
     |(refine qj ( .bool false) ?_;simp (disch:=omega) only[k4,go_sem])
     |(refine cA (cI _) flk ?_;simp (disch:=omega) only[k3,k4,go_sem])
     |(apply qa;exact rvk;simp only[go_sem];first|exact qi|apply qf)
     |with_reducible first|intro _|apply aiA
    all_goals try exact clz
   have k4:(t.line<0)=False:=eqf g4;rw[ine g4]at hR;cases bp with
   |false=>
    rw[ipo (.inl rfl)]at hR;rw[hR];refine acO zT ?_;simp (disch:=omega) only[jN,tkC,hf,k1,k2,e2,e8,go_sem]
    repeat' first
     |(refine qu (cK _) ?_;simp (disch:=omega) only[k4,go_sem])
     |(refine qj ( .bool false) ?_;simp (disch:=omega) only[k4,go_sem])
     |((first|refine cA (cI _) ?_ ?_|refine cA (cP _) ?_ ?_);exact flk;simp (disch:=omega) only[k3,k4,go_sem])
     |(apply qa;exact rvk;simp only[go_sem];first|exact qi|apply qf)
     |with_reducible first|intro _|apply aiA
    all_goals try exact clz
   |true=>
   cases bm with
   |false=>
    rw[ipo (.inr rfl)]at hR;rw[hR];refine acO zT ?_;simp (disch:=omega) only[jN,tkC,hf,k1,k2,e2,e8,go_sem]
    repeat' first
     |(refine qu (cK _) ?_;simp (disch:=omega) only[k4,go_sem])
     |(refine qj ( .bool false) ?_;simp (disch:=omega) only[k4,go_sem])
     |((first|refine cA (cI _) ?_ ?_|refine cA (cP _) ?_ ?_|refine cG (fun e=>cM _) ?_ ?_);exact flk;simp (disch:=omega) only[k3,k4,go_sem])
     |(apply qa;exact rvk;simp only[go_sem];first|exact qi|apply qf)
     |with_reducible first|intro _|apply aiA
    all_goals try exact clz
   |true=>
    rw[ine (by simp)]at hR;rw[hR];refine acO zT ?_;simp (disch:=omega) only[jN,tkC,hf,k1,k2,e2,e8,go_sem]
    repeat' first
     |(refine qu (cK _) ?_;simp (disch:=omega) only[k4,go_sem])
     |(refine qj ( .bool false) ?_;simp (disch:=omega) only[k4,go_sem])
     |((first|refine cA (cI _) ?_ ?_|refine cA (cP _) ?_ ?_|refine cG (fun e=>cM _) ?_ ?_);exact flk;simp (disch:=omega) only[k3,k4,go_sem])
     |(apply qa;exact rvk;simp only[go_sem];first|exact qi|apply qf)
     |with_reducible first|intro _|apply aiA
    all_goals try exact clz
  ·have k3:(t.norm=t.text)=False:=eqf g3;rw[dqf g3,ipo rfl]at hR;rw[hR];refine acO zT ?_;simp (disch:=omega) only[jN,tkC,hf,k1,k2,e2,e8,go_sem]
   repeat' first
    |(refine qu (cK _) ?_;simp (disch:=omega) only[go_sem])
    |(refine qj ( .bool false) ?_;simp (disch:=omega) only[go_sem])
    |(refine cA (cI _) flk ?_;simp (disch:=omega) only[k3,go_sem])
    |(apply qa;exact rvk;simp only[go_sem];first|exact qi|apply qf)
    |with_reducible first|intro _|apply aiA
   all_goals try exact clz
 ·cases bg with
  |false=>
   rw[Bool.false_and,ipo rfl]at hR;rw[hR];refine acO zT ?_;simp (disch:=omega) only[jN,tkC,hf,k1,k2,e2,e8,go_sem]
   repeat' first
    |(refine qu (hG _) ?_;simp (disch:=omega) only[go_sem])
    |(apply qa;exact rvk;simp only[go_sem];exact qi)
    |with_reducible first|intro _|apply aiA
   all_goals try exact clz
  |true=>
  rw[Bool.true_and]at hR
  by_cases g3:t.norm=t.text
  ·have k3:(t.norm=t.text)=True:=eqt g3;rw[dqt g3,ine (by simp)]at hR
   by_cases g4:t.line<0
   ·have k4:(t.line<0)=True:=eqt g4;rw[ipo g4]at hR;rw[hR];refine acO zT ?_;simp (disch:=omega) only[jN,tkC,hf,k1,k2,e2,e8,go_sem]
    repeat' first
     |(refine qu (hG _) ?_;simp (disch:=omega) only[k4,go_sem])
     |(refine qj ( .bool false) ?_;simp (disch:=omega) only[k4,go_sem])
     |(refine cA (cI _) flk ?_;simp (disch:=omega) only[k3,k4,go_sem])
     |(apply qa;exact rvk;simp only[go_sem];exact qi)
     |with_reducible first|intro _|apply aiA
    all_goals try exact clz
   have k4:(t.line<0)=False:=eqf g4;rw[ine g4]at hR;cases bp with
   |false=>
    rw[ipo (.inl rfl)]at hR;rw[hR];refine acO zT ?_;simp (disch:=omega) only[jN,tkC,hf,k1,k2,e2,e8,go_sem]
    repeat' first
     |(refine qu (hG _) ?_;simp (disch:=omega) only[k4,go_sem])
     |(refine qj ( .bool false) ?_;simp (disch:=omega) only[k4,go_sem])
     |((first|refine cA (cI _) ?_ ?_|refine cA (cP _) ?_ ?_);exact flk;simp (disch:=omega) only[k3,k4,go_sem])
     |(apply qa;exact rvk;simp only[go_sem];exact qi)
     |with_reducible first|intro _|apply aiA
    all_goals try exact clz
   |true=>
   cases bm with
   |false=>
    rw[ipo (.inr rfl)]at hR;rw[hR];refine acO zT ?_;simp (disch:=omega) only[jN,tkC,hf,k1,k2,e2,e8,go_sem]
    repeat' first
     |(refine qu (hG _) ?_;simp (disch:=omega) only[k4,go_sem])
     |(refine qj ( .bool false) ?_;simp (disch:=omega) only[k4,go_sem])
     |((first|refine cA (cI _) ?_ ?_|refine cA (cP _) ?_ ?_|refine cG (fun e=>cM _) ?_ ?_);exact flk;simp (disch:=omega) only[k3,k4,go_sem])
     |(apply qa;exact rvk;simp only[go_sem];exact qi)
     |with_reducible first|intro _|apply aiA
    all_goals try exact clz
   |true=>
    rw[ine (by simp)]at hR;rw[hR];refine acO zT ?_;simp (disch:=omega) only[jN,tkC,hf,k1,k2,e2,e8,go_sem]
    repeat' first
     |(refine qu (hG _) ?_;simp (disch:=omega) only[k4,go_sem])
     |(refine qj ( .bool false) ?_;simp (disch:=omega) only[k4,go_sem])
     |((first|refine cA (cI _) ?_ ?_|refine cA (cP _) ?_ ?_|refine cG (fun e=>cM _) ?_ ?_);exact flk;simp (disch:=omega) only[k3,k4,go_sem])
     |(apply qa;exact rvk;simp only[go_sem];exact qi)
     |with_reducible first|intro _|apply aiA
    all_goals try exact clz
  ·have k3:(t.norm=t.text)=False:=eqf g3;rw[dqf g3,ipo rfl]at hR;rw[hR];refine acO zT ?_;simp (disch:=omega) only[jN,tkC,hf,k1,k2,e2,e8,go_sem]
   repeat' first
    |(refine qu (hG _) ?_;simp (disch:=omega) only[go_sem])
    |(refine qj ( .bool false) ?_;simp (disch:=omega) only[go_sem])
    |(refine cA (cI _) flk ?_;simp (disch:=omega) only[k3,go_sem])
    |(apply qa;exact rvk;simp only[go_sem];exact qi)
    |with_reducible first|intro _|apply aiA
   all_goals try exact clz
 ·rw[hR];refine acO zT ?_;simp (disch:=omega) only[jN,tkC,hf,k1,k2,e2,e8,go_sem]
  repeat' first
   |(apply qa;exact rvk;simp only[go_sem];exact qi)
   |with_reducible first|intro _|apply aiA
  all_goals try exact clz
end RC
end
section
open Go Go.Proofs AF
def jV:List Nat:= []
theorem qxL:qI Tryz.prog 54 9 0 [RV.tmp 4] (cCT 128):=fi Tryz.f54 [] jV []
theorem qxT:qI Tryz.prog 92 9 0 [RV.tmp 4] (cCT 106):=fi Tryz.f92 [] jV []
theorem quk:qI Tryz.prog 106 19 0 [RV.tmp 4] (cIF 7 (some 7)):=fi Tryz.f106 [] jV []
theorem qo1:qI Tryz.prog 127 19 0 [RV.tmp 4] (cIF 2 (some 2)):=fi Tryz.f127 [] jV []
theorem qo2:qI Tryz.prog 128 19 0 [RV.tmp 4] (cIF 3 (some 3)):=fi Tryz.f128 [] jV []
theorem quB:qI Tryz.prog 205 9 0 [RV.tmp 4] (cCT 246):=fi Tryz.f205 [] jV []
theorem quM:qI Tryz.prog 246 19 0 [RV.tmp 4] (cIF 6 (some 6)):=fi Tryz.f246 [] jV []
theorem quP:qI Tryz.prog 253 9 0 [RV.tmp 4] (cCT 293):=fi Tryz.f253 [] jV []
def qp7:C:=
 ((C.ops [MC 6 (.bool false)]).seq (((C.ops [MV 10 0,O1 11 .len 10,MV 12 1,O1 13 .len 12,BI 14 .neq 11 13]).seq (C.cond (.t 14) ((C.ops [MC 6 (.bool false)]).seq C.ret)
 C.skip)).seq (((C.ops [MV 15 0,O1 16 .len 15,MC 17 (i6 0)]).seq (C.block 0 ((C.ops [BI 18 .lss 17 16]).seq ((C.cond (.t 18) C.skip (C.exit 0)).seq ((C.block 1 ((C.ops [MV 19 17,
 O2 20 (.idxA 2) 15 17,O1 21 (.load (some 2)) 20,⟨some 8,none,.alloc 0 89 [.nl,.nl],[]⟩,MV 7 19,ST 2 8 21]).seq ((C.ops [MV 22 1,MV 23 7,O2 24 (.idxA 2) 22 23,O1 25
 (.load (some 2)) 24,⟨some 9,none,.alloc 1 89 [.nl,.nl],[]⟩,ST 2 9 25]).seq ((C.ops [MV 26 2,O1 27 (.load (some 2)) 8,O1 28 (.load (some 2)) 9,ON 29 .callv [.t 26,.t 27,
 .t 28],O1 30 (.un UnOp.not) 29]).seq (C.cond (.t 30) ((C.ops [MC 6 (.bool false)]).seq C.ret) C.skip))))).seq (C.ops [BC 31 .add 17 (i6 1),MV 17 31])))).loop)).seq ((C.ops [MC 6
 (.bool true)]).seq
 C.ret))))
theorem qpb:qI Tryz.prog 272 32 2 [RV.tmp 6] qp7:=fi Tryz.f272 [8,9] jV []
theorem qu2:qI Tryz.prog 293 19 0 [RV.tmp 4] (cIF 1 none):=fi Tryz.f293 [] jV []
end
section
open Go Go.Proofs AF HY LN
namespace RC
structure qen (x:Co):Prop where
 sc:x.sec.length≤1000000000
 sg:x.sig.length≤1000000000
 ss: ∀i,(x.sig.getD i []).length≤1000000000
 tk:x.tok.length≤1000000000
 tl: ∀i,(x.tok.getD i []).length≤1000000000
 te: ∀i j,qoJ ((x.tok.getD i []).getD j default)
 cl:x.col.length≤1000000000
 ce: ∀i,(x.col.getD i []).length≤1000000000
theorem qyl(s:Str)(h:List AObj)(hs:s.length≤1000000000):ACalls Tryz.prog 204 [.str s] h (.bool (qoc s)) h:=by
 have c1:=fun h=>qtY s h hs
 unfold qoc;cases g:qe5 s with
 |true=>
  rw[g]at c1;simp only[if_true]at c1;have c2:=fun h=>t44 (s.take (s.length-1)) h (by simp;omega)
  rw[ipo rfl];cases g2:j0 (s.take (s.length-1))with
  |true=>
   rw[g2]at c2;have k7:decide ((s.length:Int)≤16)=decide (s.length≤16):=decide_eq_decide.2 om;refine acO qfC ?_;simp (disch:=omega) only[qiM,go_sem]
   repeat' first
    |((first|refine cA (c1 _) ?_ ?_|refine cA (c2 _) ?_ ?_);exact flk;simp (disch:=omega) only[k7,go_sem])
    |(apply qc;exact rvk;simp only[go_sem];exact qi)
    |with_reducible apply aiA
   all_goals try exact clz
  |false=>
   rw[g2]at c2;refine acO qfC ?_;simp (disch:=omega) only[qiM,go_sem]
   repeat' first
    |((first|refine cA (c1 _) ?_ ?_|refine cA (c2 _) ?_ ?_);exact flk;simp (disch:=omega) only[go_sem])
    |(apply qc;exact rvk;simp only[go_sem];exact qi)
    |with_reducible apply aiA
   all_goals try exact clz
 |false=>
  rw[g]at c1;rw[ine (by simp)]at c1 ⊢;have c2:=fun h=>t44 s h hs
  cases g2:j0 s with
  |true=>
   rw[g2]at c2;refine acO qfC ?_;simp (disch:=omega) only[qiM,go_sem]
   repeat' first
    |((first|refine cA (c1 _) ?_ ?_|refine cA (c2 _) ?_ ?_);exact flk;simp (disch:=omega) only[go_sem])
    |(apply qc;exact rvk;simp only[go_sem];exact qi)
    |with_reducible apply aiA
   all_goals try exact clz
  |false=>
   rw[g2]at c2;refine acO qfC ?_;simp (disch:=omega) only[qiM,go_sem]
   repeat' first
    |((first|refine cA (c1 _) ?_ ?_|refine cA (c2 _) ?_ ?_);exact flk;simp (disch:=omega) only[go_sem])
    |(apply qc;exact rvk;simp only[go_sem];exact qi)
    |with_reducible apply aiA
   all_goals try exact clz
theorem qz3(t:Tk)(h:List AObj)(hz:qoJ t)(hp:ky SG h):ACalls Tryz.prog 206 [.agg (tkC t)] h (.bool (!decide (tkE t=0))) h:=by
 have c1:=fun l=>tkP t (h++l) hz (hp.app l)
 obtain⟨e,he⟩: ∃e,e=tkE t:=⟨_,rfl⟩
 rw[←he]at c1 ⊢;unfold tkC at c1;refine acO quC ?_;simp (disch:=omega) only[qti,tkC,go_sem]
 repeat' first
  |(refine cA (c1 _) flk ?_;simp (disch:=omega) only[go_sem])
  |(apply qa;exact rvk;simp only[go_sem];exact qi)
theorem qzo(l:List Tk)(h:List AObj)(hl:l.length≤1000000000)(hz: ∀j,qoJ (l.getD j default))(hp:ky SG h):
  ACalls Tryz.prog 205 [zM l,.fn (.func 206) [] []] h (.bool (zH (fun j=> !decide (tkE (l.getD j default)=0)) l.length)) h:=by
 unfold zM;refine qtX quB ⟨rfl,rfl⟩ ⟨rfl,rfl⟩ (qeJ quM l.length (fun j=>tkC (l.getD j default)) (fun j=> .agg (tkC (l.getD j default))) _ [] [] _ h (fun i _=>⟨rfl,by simp[jE,tkC],rfl,rfl,rfl⟩) (fun i _=> ?_) om);exact qz3 _ h (hz i) hp
theorem qz4(x:Co)(h:List AObj)(hz:qen x)(hp:ky SG h):ACalls Tryz.prog 152 [.str x.sec,strs x.sig,qm x.tok] h (.int .i64 (srE x)) h:=by
 obtain⟨R,hR⟩: ∃R,R=srE x:=⟨_,rfl⟩
 rw[←hR];unfold srE at hR;have z1:=hz.sg;have z2:=hz.tk;have cN:=fun h=>t44 x.sec h hz.sc
 cases g0:j0 x.sec with
 |false=>
  rw[g0]at cN;rw[ipo g0]at hR;rw[hR];refine acO qfz ?_;simp (disch:=omega) only[qiH,strs,qm,go_sem]
  repeat' first
   |(refine cA (cN _) flk ?_;simp (disch:=omega) only[go_sem])
   |(apply qc;exact rvk;simp only[go_sem];exact qi)
 |true=>
 rw[g0]at cN;rw[ine (by rw[g0];simp)]at hR
 by_cases g1:x.sig.length=0
 ·have k1:((x.sig.length:Int)=0)=True:=eqt om;rw[ipo g1]at hR;rw[hR];refine acO qfz ?_;simp (disch:=omega) only[qiH,strs,qm,go_sem]
  repeat' first
   |(refine cA (cN _) flk ?_;simp (disch:=omega) only[k1,go_sem])
   |(apply qc;exact rvk;simp only[go_sem];exact qi)
 have k1:((x.sig.length:Int)=0)=False:=eqf om;rw[ine g1]at hR
 by_cases g2:32<x.sig.length
 ·have k2:((32:Int)<x.sig.length)=True:=eqt om;rw[ipo g2]at hR;rw[hR];refine acO qfz ?_;simp (disch:=omega) only[qiH,strs,qm,go_sem]
  repeat' first
   |(refine cA (cN _) flk ?_;simp (disch:=omega) only[k1,k2,go_sem])
   |(apply qc;exact rvk;simp only[go_sem];exact qi)
 have k2:((32:Int)<x.sig.length)=False:=eqf om;rw[ine g2]at hR;refine acO qfz ?_;simp (disch:=omega) only[qiH,strs,qm,go_sem]
 repeat' first
  |(refine cA (cN _) flk ?_;simp (disch:=omega) only[k1,k2,go_sem])
 refine qn (T:=fun i:Nat=>qM 56 [(1,strs x.sig),(2,qm x.tok),(23,strs x.sig),(24,.int .i64 x.sig.length),(25,.int .i64 i)]) (H:=fun _=>h) (inv:=fun i=>i≤x.sig.length∧ ∀j,j<i→jq x.sig j=0) (m:=fun i=>x.sig.length-i) 0 ⟨nzl _,fun j hj=>by omega⟩ (Wk.temps ?_) ?_
 ·(simp only[strs,qm,go_sem,qh,qe,qb,qg];try (repeat' first|(with_reducible apply aiA)|(apply qf;omega)|(apply qd;rfl)|exact qi))
 rintro i ⟨i1,i2⟩ K hK
 by_cases hi:i<x.sig.length
 ·have k3:((i:Int)<x.sig.length)=True:=eqt om;have k4:((i:Int)≤x.sig.length)=True:=eqt om;have hE:=jB (f:=jq x.sig) hi i2;have hs:jq x.sig i=if qoc (x.sig.getD i [])=false then 14 else if zH (fun j=>decide (x.sig.getD i []=x.sig.getD j [])) i=true then 7 else 0:=rfl
  have c87:=fun h=>qyl (x.sig.getD i []) h (hz.ss i)
  have c88:=fun h=>qxt i (fun j=>x.sig.getD j []) (x.sig.getD i []) h om
  obtain⟨s,hsx⟩: ∃s,s=x.sig.getD i []:=⟨_,rfl⟩
  have es:=hsx.symm;rw[es]at hs c87;simp only[es]at hs c88;cases g3:qoc s with
  |false=>
   rw[g3]at c87;rw[ipo g3]at hs;have hne:qaS (jq x.sig) 0 x.sig.length≠0:=by rw[hE (by rw[hs];decide),hs];decide
   have hV:R=14:=by rw[hR,ipo hne,hE (by rw[hs];decide),hs]
   rw[hV];simp (disch:=omega) only[strs,qm,k3,es,go_sem]
   repeat' first
    |(refine cA (c87 _) flk ?_;simp (disch:=omega) only[k4,go_sem])
    |(apply qc;exact rvk;simp only[go_sem];exact qi)
    |with_reducible apply aiA
   all_goals try exact clz
  |true=>
  rw[g3]at c87;rw[ine (by rw[g3];simp)]at hs;cases g4:zH (fun j=>decide (s=x.sig.getD j [])) i with
  |true=>
   rw[g4]at c88;rw[ipo g4]at hs;have hne:qaS (jq x.sig) 0 x.sig.length≠0:=by rw[hE (by rw[hs];decide),hs];decide
   have hV:R=7:=by rw[hR,ipo hne,hE (by rw[hs];decide),hs]
   rw[hV];simp (disch:=omega) only[strs,qm,k3,es,go_sem]
   repeat' first
    |((first|refine cA (c87 _) ?_ ?_|refine cA (c88 _) ?_ ?_);exact flk;simp (disch:=omega) only[k4,Nat.sub_zero,go_sem])
    |(apply qc;exact rvk;simp only[go_sem];exact qi)
    |with_reducible apply aiA
   all_goals try exact clz
  |false=>
   rw[g4]at c88;rw[ine (by rw[g4];simp)]at hs;simp (disch:=omega) only[strs,qm,k3,es,go_sem]
   repeat' first
    |((first|refine cA (c87 _) ?_ ?_|refine cA (c88 _) ?_ ?_);exact flk;simp (disch:=omega) only[k4,Nat.sub_zero,go_sem])
    |with_reducible apply aiA
   all_goals try exact clz
   refine hK _ _ (i+1) ⟨hi,fun j hj=> ?_⟩ om (Wk.temps ?_)
   ·by_cases e:j=i
    ·subst e;exact hs
    ·exact i2 j om
   ·(simp only[strs,qm,go_sem,qh,qe,qb,qg];try (repeat' first|(with_reducible apply aiA)|(apply qf;omega)|(apply qd;rfl)|exact qi))
 have k3:((i:Int)<x.sig.length)=False:=eqf om;have hn0:=zI (f:=jq x.sig) (fun j (hj:j<x.sig.length)=>i2 j om);rw[ine (fun hc=>hc hn0)]at hR
 by_cases g5:x.tok.length=x.sig.length
 case neg=>
  have k5:((x.tok.length:Int)=x.sig.length)=False:=eqf om;rw[ipo g5]at hR;rw[hR];simp (disch:=omega) only[strs,qm,k3,k5,go_sem]
  repeat' first
   |(apply qc;exact rvk;simp only[go_sem];exact qi)
 have k5:((x.tok.length:Int)=x.sig.length)=True:=eqt om;rw[ine (fun hc=>hc g5)]at hR;clear hK;simp (disch:=omega) only[strs,qm,k3,k5,go_sem];obtain⟨rw0,hrw⟩: ∃f:Nat→Int,f=fun i=>qde (x.tok.getD i []):=⟨_,rfl⟩
 have er: ∀i,rw0 i=qde (x.tok.getD i []):=fun i=>by rw[hrw]
 rw[←hrw]at hR;refine qn (T:=fun i:Nat=>qM 56 [(44,qm x.tok),(45,.int .i64 x.tok.length),(46,.int .i64 i)]) (H:=fun _=>h) (inv:=fun i=>i≤x.tok.length∧ ∀j,j<i→rw0 j=0) (m:=fun i=>x.tok.length-i) 0 ⟨nzl _,fun j hj=>by omega⟩ (Wk.temps ?_) ?_
 ·(simp only[qm,go_sem,qh,qe,qb,qg];try (repeat' first|(with_reducible apply aiA)|(apply qf;omega)|(apply qd;rfl)|exact qi))
 rintro i ⟨i1,i2⟩ K hK
 by_cases hi:i<x.tok.length
 ·have k6:((i:Int)<x.tok.length)=True:=eqt om;have hE:=jB (f:=rw0) hi i2;have hs:=er i;have zl:=hz.tl i;have zt:=hz.te i;obtain⟨l,hl⟩: ∃l,l=x.tok.getD i []:=⟨_,rfl⟩
  have el:=hl.symm;rw[el]at hs zl;simp only[el]at zt;unfold qde at hs
  by_cases g6:1024<l.length
  ·have k7:((1024:Int)<l.length)=True:=eqt om;rw[ipo g6]at hs;have hV:R=4:=by rw[hR,hE (by rw[hs];decide),hs]
   rw[hV];simp (disch:=omega) only[qm,zM,k6,k7,el,go_sem]
   repeat' first
    |(apply qc;exact rvk;simp only[go_sem];exact qi)
    |with_reducible apply aiA
   all_goals try exact clz
  have k7:((1024:Int)<l.length)=False:=eqf om;rw[ine g6]at hs;have cT:=qzo l h zl zt hp;have eA:zH (fun j=>decide (tkE (l.getD j default)≠0)) l.length=zH (fun j=> !decide (tkE (l.getD j default)=0)) l.length:=qgc fun j _=>by simp
  rw[eA]at hs;unfold zM at cT;obtain⟨b,hb⟩: ∃b,b=zH (fun j=> !decide (tkE (l.getD j default)=0)) l.length:=⟨_,rfl⟩
  rw[←hb]at hs cT;cases b with
  |true=>
   rw[ipo rfl]at hs;have hV:R=1:=by rw[hR,hE (by rw[hs];decide),hs]
   rw[hV];simp (disch:=omega) only[qm,zM,k6,k7,el,go_sem]
   repeat' first
    |(refine cA (cT) flk ?_;simp (disch:=omega) only[go_sem])
    |(apply qc;exact rvk;simp only[go_sem];exact qi)
    |with_reducible apply aiA
   all_goals try exact clz
  |false=>
   rw[ine (by simp)]at hs;simp (disch:=omega) only[qm,zM,k6,k7,el,go_sem]
   repeat' first
    |(refine cA (cT) flk ?_;simp (disch:=omega) only[go_sem])
    |with_reducible apply aiA
   all_goals try exact clz
   refine hK _ _ (i+1) ⟨hi,fun j hj=> ?_⟩ om (Wk.temps ?_)
   ·by_cases e:j=i
    ·subst e;exact hs
    ·exact i2 j om
   ·(simp only[qm,zM,go_sem,qh,qe,qb,qg];try (repeat' first|(with_reducible apply aiA)|(apply qf;omega)|(apply qd;rfl)|exact qi))
 ·have k6:((i:Int)<x.tok.length)=False:=eqf om;rw[zI (fun j (hj:j<x.tok.length)=>i2 j om)]at hR;rw[hR];simp (disch:=omega) only[qm,k6,go_sem]
  repeat' first
   |(apply qc;exact rvk;simp only[go_sem];exact qi)
theorem qzL(l:List Tk)(h:List AObj):ACalls Tryz.prog 254 [zM l] h (.bool (decide (1024<l.length))) h:=by
 have k:decide ((1024:Int)<l.length)=decide (1024<l.length):=decide_eq_decide.2 om;refine acO quQ ?_;simp (disch:=omega) only[qtu,zM,go_sem]
 repeat' first
  |(apply qc;exact rvk;simp only[go_sem];apply qd)
 all_goals try exact clz
theorem qzM(L:List (List Tk))(h:List AObj)(h1:0<L.length)(h2:L.length≤32)(h3: ∀s,s<L.length→(L.getD s []).length≤1024):ACalls Tryz.prog 208 [qm L] h (.int .i64 0) h:=by
 have k1:((L.length:Int)=0)=False:=eqf om;have k2:((32:Int)<L.length)=False:=eqf om;have c: ∀h,ACalls Tryz.prog 253 [qm L,.fn (.func 254) [] []] h (.bool false) h:=fun h=>by
  have e:zH (fun j=>decide (1024<(L.getD j []).length)) L.length=false:=qk.2 fun s hs=>dqf (by have:=h3 s hs;omega)
  rw[←e];unfold qm;refine qtX quP ⟨rfl,rfl⟩ ⟨rfl,rfl⟩ (qeJ qu2 L.length (fun j=> [zM (L.getD j [])]) (fun j=>zM (L.getD j [])) _ [] [] _ h (fun i _=>⟨rfl,by simp[jE],rfl,rfl,rfl⟩) (fun i _=> ?_) om);exact qzL _ h
 unfold qm at c;refine acO quD ?_;simp (disch:=omega) only[qtj,qm,k1,k2,go_sem]
 repeat' first
  |(refine cG (fun e=>c _) flk ?_;simp (disch:=omega) only[go_sem])
  |(apply qc;exact rvk;simp only[go_sem];exact qi)
def gC(g:Nat→AV)(n:Nat):List AV:=(List.range n).map g
theorem jX(g:Nat→AV)(n:Nat):(gC g n).length=n:=by simp[gC]
theorem qax{g:Nat→AV}{n k:Nat}(hk:k<n):(gC g n)[k]? =some (g k):=by
 unfold gC;rw[List.getElem?_map,List.getElem?_range hk];rfl
theorem qac{p q:Nat→AV}{n:Nat}(h: ∀k,k<n→p k=q k):gC p n=gC q n:=by
 unfold gC;exact List.map_congr_left fun k hk=>by rw[h k (List.mem_range.1 hk)]
theorem qpj{g:Nat→AV}{n u:Nat}(x:AV)(hu:u<n):List.take u (gC g n)++ [x]++List.drop (u+1) (gC g n)=gC (fun k=>if k=u then x else g k) n:=by
 refine List.ext_getElem? fun k=> ?_
 by_cases hk:k<n
 ·rw[qax hk]
  by_cases h1:k<u
  ·rw[List.append_assoc,List.getElem?_append_left (by rw[List.length_take,jX];omega),List.getElem?_take_of_lt h1,qax hk,ine om]
  ·by_cases h2:k=u
   ·subst h2;rw[List.append_assoc,List.getElem?_append_right (by rw[List.length_take,jX];omega),List.length_take,jX,show k-min k n=0 by omega,ipo rfl];rfl
   ·rw[List.getElem?_append_right (by rw[lap,List.length_take,jX];simp only[lco,lnl];omega),lap,List.length_take,jX,List.getElem?_drop];simp only[lco,lnl];rw[show u+1+(k-(min u n+(0+1)))=k by omega,qax hk,ine h2]
 ·rw[List.getElem?_eq_none (by simp only[lap,List.length_take,List.length_drop,jX,lco,lnl];omega),List.getElem?_eq_none (by rw[jX];omega)]
theorem qeI(z:AV)(n:Nat):qQ [z] n=gC (fun _=>z) n:=by
 induction n with
 |zero=>rfl
 |succ n ih=>
  have e:gC (fun _=>z) (n+1)=z::gC (fun _=>z) n:=by
   unfold gC;rw[List.range_succ_eq_map,List.map_cons,List.map_map];rfl
  rw[e,←ih];rfl
section
variable {tok : List (List Tk)} {col : List (List Int)} {i s : Nat}
theorem qje(h:(col.getD i []).length≠tok.length):qdz tok col i=false:=by unfold qdz;rw[dqf h,Bool.false_and]
theorem qoS(hs:s<tok.length)(h:enB tok col i s=false):qdz tok col i=false:=by
 unfold qdz;rw[qv.2 ⟨s,hs,by rw[h];rfl⟩];simp
theorem qoT(h1:(col.getD i []).length=tok.length)(h2: ∀s,s<tok.length→enB tok col i s=true):qdz tok col i=zH (fun s=> !decide ((col.getD i []).getD s 0= -1)) tok.length:=by
 unfold qdz;rw[dqt h1,qk.2 (fun s hs=>by rw[h2 s hs];rfl)];simp
theorem qsW(hi:i<col.length)(h:qdz tok col i=false):alB tok col=false:=by
 unfold alB;rw[qv.2 ⟨i,hi,by rw[h];rfl⟩];simp
theorem qoK(hs:s<tok.length)(h:cnC col s col.length≠(tok.getD s []).length):alB tok col=false:=by
 unfold alB;rw[qv.2 ⟨s,hs,by rw[dqf h];rfl⟩,Bool.not_true,Bool.and_false]
theorem qoL(h1: ∀i,i<col.length→qdz tok col i=true)(h2: ∀s,s<tok.length→cnC col s col.length=(tok.getD s []).length):alB tok col=true:=by
 unfold alB;rw[qk.2 (fun i hi=>by rw[h1 i hi];rfl),qk.2 (fun s hs=>by rw[dqt (h2 s hs)];rfl)];rfl
theorem qoR: ∀i,cnC col s i≤i:=by
 intro i
 induction i with
 |zero=>exact nlr _
 |succ i ih=>unfold cnC;split<;>omega
def atA(col:List (List Int))(i s k:Nat):AV:= .int .i64 ((if k<s then cnC col k (i+1) else cnC col k i:Nat):Int)
theorem qoN:atA col i s s= .int .i64 (cnC col s i:Int):=by unfold atA;rw[ine (Nat.lt_irrefl _)]
theorem qs0(n:Nat):gC (atA col 0 0) n=gC (fun _=> .int .i64 0) n:=qac fun k _=>by unfold atA;rw[ine (nnz _)];rfl
theorem qhR(n:Nat):gC (atA col i n) n=gC (atA col (i+1) 0) n:=qac fun k hk=>by unfold atA;rw[ipo hk,ine (nnz _)]
theorem qfo{n:Nat}(h:(col.getD i []).getD s 0= -1):gC (atA col i s) n=gC (atA col i (s+1)) n:=qac fun k hk=>by
 unfold atA
 by_cases e:k=s
 ·subst e;rw[ine (Nat.lt_irrefl _),ipo (Nat.lt_succ_self _)];show _=AV.int .i64 ((cnC col k i+if (col.getD i []).getD k 0= -1 then 0 else 1:Nat):Int);rw[ipo h];rfl
 ·by_cases h1:k<s
  ·rw[ipo h1,ipo om]
  ·rw[ine h1,ine om]
theorem qfp{n:Nat}(hs:s<n)(h:(col.getD i []).getD s 0≠ -1):List.take s (gC (atA col i s) n)++ [.int .i64 ((cnC col s i:Int)+1)]++List.drop (s+1) (gC (atA col i s) n)=gC (atA col i (s+1)) n:=by
 rw[qpj _ hs];refine qac fun k hk=> ?_
 unfold atA
 by_cases e:k=s
 ·subst e;rw[ipo rfl,ipo (Nat.lt_succ_self _)];show _=AV.int .i64 ((cnC col k i+if (col.getD i []).getD k 0= -1 then 0 else 1:Nat):Int);rw[ine h];rfl
 ·rw[ine e]
  by_cases h1:k<s
  ·rw[ipo h1,ipo om]
  ·rw[ine h1,ine om]
theorem qbE(p:Nat→Bool)(n:Nat):zH p (n+1)=(zH p n||p n):=by
 cases e:zH p n with
 |true=>obtain⟨i,h1,h2⟩:=qv.1 e;exact qv.2 ⟨i,om,h2⟩
 |false=>
  have h:=qk.1 e;cases e2:p n with
  |true=>exact qv.2 ⟨n,om,e2⟩
  |false=>
   refine qk.2 fun i hi=> ?_
   by_cases g:i=n
   ·subst g;exact e2
   ·exact h i om
end
theorem qzh(tok:List (List Tk))(col:List (List Int))(h:List AObj)(hn:tok.length≤1000000000)(hc:col.length≤1000000000)(hl: ∀s,(tok.getD s []).length≤1000000000)(hm: ∀i,(col.getD i []).length≤1000000000):
  ACalls Tryz.prog 209 [qm tok,qp col] h (.bool (alB tok col)) h:=by
 have k0:(0≤(tok.length:Int))=True:=eqt om;have k1:((tok.length:Int)≤9223372036854775807)=True:=eqt om;obtain⟨R,hR⟩: ∃R,R=alB tok col:=⟨_,rfl⟩
 rw[←hR];refine acO quE ?_;simp (disch:=omega) only[qtk,qm,qp,k0,go_sem]
 repeat' first
  |with_reducible apply aiA
 all_goals try exact clz
 all_goals try rw[itn]
 rw[qeI,←qs0 (col:=col)];refine qn (T:=fun i:Nat=>qM 76 [(0,qm tok),(5,.osl h.length 1 1 0 tok.length),(15,qp col),(16,.int .i64 col.length),(17,.int .i64 i)])
  (H:=fun i=>h++ [.mem 1 3 (gC (atA col i 0) tok.length)])
  (inv:=fun i=>i≤col.length∧ ∀j,j<i→qdz tok col j=true) (m:=fun i=>col.length-i) 0 ⟨nzl _,fun j hj=>absurd hj (nnz j)⟩ (Wk.temps ?_) ?_
 ·(simp only[qm,qp,go_sem,qh,qe,qb,qg];try (repeat' first|(with_reducible apply aiA)|(apply qf;omega)|(apply qd;rfl)|exact qi))
 rintro i ⟨i1,i2⟩ K hK
 by_cases hi:i<col.length
 ·have k2:((i:Int)<col.length)=True:=eqt om;have hno:qdz tok col i=false→R=false:=fun hx=>by rw[hR];exact qsW hi hx
  have hlen:= @qje tok col i;have hen:= @qoS tok col i;have heq:= @qoT tok col i;have hskip:= @qfo col i;have hstep:= @qfp col i;have hmi:=hm i;have hE: ∀s,enB tok col i s=(decide ((col.getD i []).getD s 0= -1)||(decide ((col.getD i []).getD s 0=(cnC col s i:Int))&&decide ((col.getD i []).getD s 0<((tok.getD s []).length:Int)))):=fun _=>rfl
  obtain⟨c,hcx⟩: ∃c,c=col.getD i []:=⟨_,rfl⟩
  have ec:=hcx.symm;rw[ec]at hlen heq hmi;simp only[ec]at hskip hstep hE
  by_cases g1:c.length=tok.length
  case neg=>
   have k3:((c.length:Int)=tok.length)=False:=eqf om;rw[hno (hlen g1)];simp (disch:=omega) only[qm,qp,qq,k2,k3,ec,go_sem]
   repeat' first
    |(apply qa;exact rvk;simp only[go_sem];exact qi)
    |with_reducible apply aiA
   all_goals try exact clz
  have k3:((c.length:Int)=tok.length)=True:=eqt om;have heq:=heq g1;simp (disch:=omega) only[qm,qp,qq,k2,k3,ec,go_sem]
  repeat' first
   |with_reducible apply aiA
  all_goals try exact clz
  refine qn (T:=fun s:Nat=>qM 76 [(0,qm tok),(5,.osl h.length 1 1 0 tok.length),(8,.bool (zH (fun s=> !decide (c.getD s 0= -1)) s)),(15,qp col),(16,.int .i64 col.length),(17,.int .i64 i),(26,qq c),(27,.int .i64 c.length),(28,.int .i64 s)])
   (H:=fun s=>h++ [.mem 1 3 (gC (atA col i s) tok.length)])
   (inv:=fun s=>s≤c.length∧ ∀j,j<s→enB tok col i j=true) (m:=fun s=>c.length-s) 0 ⟨nzl _,fun j hj=>absurd hj (nnz j)⟩ (Wk.temps ?_) ?_
  ·(simp only[qm,qp,qq,go_sem,qh,qe,qb,qg];try (repeat' first|(with_reducible apply aiA)|(apply qf;omega)|(apply qd;rfl)|exact qi))
  rintro s ⟨s1,s2⟩ K2 hK2
  by_cases hs:s<c.length
  ·have t1:((s:Int)<c.length)=True:=eqt om;have t0:(0≤(s:Int))=True:=eqt om;have hsn:s<tok.length:=by omega
   have t2:((s:Int)<tok.length)=True:=eqt om;have t3:(s<tok.length)=True:=eqt hsn;have t4:(s+1≤tok.length)=True:=eqt hsn;have gl:=jX (atA col i s) tok.length;have gg:=qax (g:=atA col i s) hsn;rw[qoN]at gg;have hsk:=hskip (s:=s) (n:=tok.length);have hst:=hstep (s:=s) hsn;have hcn:= @qoR col s i;have hlt:=hl s;have hEs:=hE s;have hap:=qbE (fun s=> !decide (c.getD s 0= -1)) s;obtain⟨t,ht⟩: ∃t,t=c.getD s 0:=⟨_,rfl⟩
   obtain⟨l,hlx⟩: ∃l,l=tok.getD s []:=⟨_,rfl⟩
   have et:=ht.symm;have el:=hlx.symm;rw[et]at hsk hst hEs;rw[el]at hEs hlt;simp only[et]at hap;obtain⟨a,ha⟩: ∃a,a=zH (fun s=> !decide (c.getD s 0= -1)) s:=⟨_,rfl⟩
   have ea:=ha.symm;rw[ea]at hap;obtain⟨q,hq⟩: ∃q:Nat,q=cnC col s i:=⟨_,rfl⟩
   have eq:=hq.symm;rw[eq]at hst hEs hcn gg;have b2:((q:Int)+1≤9223372036854775807)=True:=eqt om;have b3:(-9223372036854775808≤(q:Int)+1)=True:=eqt om
   by_cases g2:t= -1
   ·have k4:(t= -1)=True:=eqt g2;rw[dqt g2,Bool.true_or]at hEs;have hap':zH (fun s=> !decide (c.getD s 0= -1)) (s+1)=a:=by rw[hap,dqt g2];simp
    simp (disch:=omega) only[qm,qp,qq,t0,t1,t2,t3,k4,et,ea,gl,gg,Nat.mul_one,Nat.zero_add,go_sem]
    repeat' first
     |with_reducible apply aiA
    all_goals try exact clz
    rw[hsk g2];refine hK2 _ _ (s+1) ⟨hs,fun j hj=> ?_⟩ om (Wk.temps ?_)
    ·by_cases e:j=s
     ·subst e;exact hEs
     ·exact s2 j om
    ·rw[hap']
     (simp only[qm,qp,qq,go_sem,qh,qe,qb,qg];try (repeat' first|(with_reducible apply aiA)|(apply qf;omega)|(apply qd;rfl)|exact qi))
   have k4:(t= -1)=False:=eqf g2;rw[dqf g2,Bool.false_or]at hEs;have hap':zH (fun s=> !decide (c.getD s 0= -1)) (s+1)=true:=by rw[hap,dqf g2];simp
   by_cases g3:t=(q:Int)
   case neg=>
    have k5:(t=(q:Int))=False:=eqf g3;rw[dqf g3,Bool.false_and]at hEs;rw[hno (hen hsn hEs)];simp (disch:=omega) only[qm,qp,qq,t0,t1,t2,t3,t4,k4,k5,et,ea,gl,gg,Nat.mul_one,Nat.zero_add,go_sem]
    repeat' first
     |(apply qa;exact rvk;simp only[go_sem];exact qi)
     |with_reducible apply aiA
    all_goals try exact clz
   have k5:(t=(q:Int))=True:=eqt g3;rw[dqt g3,Bool.true_and]at hEs
   by_cases g4:(l.length:Int)≤t
   ·have k6:((l.length:Int)≤t)=True:=eqt g4;rw[dqf om]at hEs;rw[hno (hen hsn hEs)];simp (disch:=omega) only[qm,zM,qp,qq,t0,t1,t2,t3,t4,k4,k5,k6,et,ea,el,gl,gg,Nat.mul_one,Nat.zero_add,go_sem]
    repeat' first
     |(apply qa;exact rvk;simp only[go_sem];exact qi)
     |with_reducible apply aiA
    all_goals try exact clz
   ·have k6:((l.length:Int)≤t)=False:=eqf g4;rw[dqt om]at hEs;have hst:=hst g2;simp (disch:=omega) only[qm,zM,qp,qq,t0,t1,t2,t3,t4,k4,k5,k6,et,ea,el,gl,gg,hst,Nat.mul_one,Nat.zero_add,Option.isSome_some,go_sem]
    repeat' first
     |with_reducible apply aiA
    all_goals try exact clz
    try rw[hst]
    refine hK2 _ _ (s+1) ⟨hs,fun j hj=> ?_⟩ om (Wk.temps ?_)
    ·by_cases e:j=s
     ·subst e;exact hEs
     ·exact s2 j om
    ·rw[hap']
     (simp only[qm,zM,qp,qq,go_sem,qh,qe,qb,qg];try (repeat' first|(with_reducible apply aiA)|(apply qf;omega)|(apply qd;rfl)|exact qi))
  ·have t1:((s:Int)<c.length)=False:=eqf om;have es:s=tok.length:=by omega
   have heq:=heq fun j hj=>s2 j om
   rw[←es]at heq;rw[es]at*;cases ga:zH (fun s=> !decide (c.getD s 0= -1)) tok.length with
   |false=>
    rw[ga]at heq;rw[hno heq];simp (disch:=omega) only[qm,qp,qq,go_sem]
    repeat' first
     |(apply qa;exact rvk;simp only[go_sem];exact qi)
     |with_reducible first|intro _|apply aiA
    all_goals try exact clz
   |true=>
    rw[ga]at heq;simp (disch:=omega) only[qm,qp,qq,go_sem]
    repeat' first
     |with_reducible first|intro _|apply aiA
    all_goals try exact clz
    rw[qhR];refine hK _ _ (i+1) ⟨hi,fun j hj=> ?_⟩ om (Wk.temps ?_)
    ·by_cases e:j=i
     ·subst e;exact heq
     ·exact i2 j om
    ·(simp only[qm,qp,qq,go_sem,qh,qe,qb,qg];try (repeat' first|(with_reducible apply aiA)|(apply qf;omega)|(apply qd;rfl)|exact qi))
 have k2:((i:Int)<col.length)=False:=eqf om;obtain rfl:i=col.length:=by omega
 clear hK;simp (disch:=omega) only[qm,qp,k2,go_sem];refine qn (T:=fun s:Nat=>qM 76 [(0,qm tok),(5,.osl h.length 1 1 0 tok.length),(61,.int .i64 tok.length),(62,.int .i64 s)])
  (H:=fun _=>h++ [.mem 1 3 (gC (atA col col.length 0) tok.length)])
  (inv:=fun s=>s≤tok.length∧ ∀j,j<s→cnC col j col.length=(tok.getD j []).length) (m:=fun s=>tok.length-s) 0 ⟨nzl _,fun j hj=>absurd hj (nnz j)⟩ (Wk.temps ?_) ?_
 ·(simp only[qm,go_sem,qh,qe,qb,qg];try (repeat' first|(with_reducible apply aiA)|(apply qf;omega)|(apply qd;rfl)|exact qi))
 rintro s ⟨s1,s2⟩ K hK
 by_cases hs:s<tok.length
 ·have t1:((s:Int)<tok.length)=True:=eqt om;have t0:(0≤(s:Int))=True:=eqt om;have t3:(s<tok.length)=True:=eqt hs;have t4:(s+1≤tok.length)=True:=eqt hs;have gl:=jX (atA col col.length 0) tok.length;have gg:=qax (g:=atA col col.length 0) hs;have e0:atA col col.length 0 s= .int .i64 (cnC col s col.length:Int):=by unfold atA;rw[ine (nnz _)]
  rw[e0]at gg;have hno:= @qoK tok col s hs;obtain⟨q,hq⟩: ∃q:Nat,q=cnC col s col.length:=⟨_,rfl⟩
  have eq:=hq.symm;have hs2:q=(tok.getD s []).length→cnC col s col.length=(tok.getD s []).length:=fun e=>by rw[←hq];exact e
  rw[eq]at gg hno;obtain⟨l,hlx⟩: ∃l,l=tok.getD s []:=⟨_,rfl⟩
  have el:=hlx.symm;rw[el]at hno hs2
  by_cases g:q=l.length
  ·have k5:((q:Int)=l.length)=True:=eqt om;simp (disch:=omega) only[qm,zM,t0,t1,t3,k5,el,gl,gg,Nat.mul_one,Nat.zero_add,go_sem]
   repeat' first
    |with_reducible apply aiA
   all_goals try exact clz
   refine hK _ _ (s+1) ⟨hs,fun j hj=> ?_⟩ om (Wk.temps ?_)
   ·by_cases e:j=s
    ·subst e;rw[el];exact hs2 g
    ·exact s2 j om
   ·(simp only[qm,zM,go_sem,qh,qe,qb,qg];try (repeat' first|(with_reducible apply aiA)|(apply qf;omega)|(apply qd;rfl)|exact qi))
  ·have k5:((q:Int)=l.length)=False:=eqf om;rw[hR,hno g];simp (disch:=omega) only[qm,zM,t0,t1,t3,k5,el,gl,gg,Nat.mul_one,Nat.zero_add,go_sem]
   repeat' first
    |(apply qa;exact rvk;simp only[go_sem];exact qi)
    |with_reducible apply aiA
   all_goals try exact clz
 ·have t1:((s:Int)<tok.length)=False:=eqf om;rw[hR,qoL i2 (fun j hj=>s2 j om)];simp (disch:=omega) only[qm,t1,go_sem]
  repeat' first
   |(apply qa;exact rvk;simp only[go_sem];exact qi)
theorem qzK(tok:List (List Tk))(col:List (List Int))(h:List AObj)(h1:0<tok.length)(h2:tok.length≤32)(h3: ∀s,s<tok.length→(tok.getD s []).length≤1024)(hc:col.length≤1000000000)(hl: ∀s,(tok.getD s []).length≤1000000000)(hm: ∀i,(col.getD i []).length≤1000000000):
  ACalls Tryz.prog 153 [qm tok,qp col] h (.int .i64 (if alB tok col=true then 0 else 19)) h:=by
 have c1:=fun h=>qzM tok h h1 h2 h3
 have c2:=fun h=>qzh tok col h om hc hl hm
 cases g:alB tok col<;>rw[g]at c2
 all_goals
  refine acO qut ?_;simp (disch:=omega) only[qta,go_sem]
  repeat' first
   |((first|refine cA (c1 _) ?_ ?_|refine cA (c2 _) ?_ ?_);exact flk;simp (disch:=omega) only[go_sem])
   |(apply qc;exact rvk;simp only[go_sem];exact qi)
theorem qpx{x:Co}(h:srE x=0):0<x.sig.length∧x.sig.length≤32∧x.tok.length=x.sig.length∧ ∀s,s<x.tok.length→(x.tok.getD s []).length≤1024:=by
 unfold srE at h;split at h
 ·cases h
 split at h
 ·cases h
 rename_i g2;split at h
 ·cases h
 rename_i g3;split at h
 ·rename_i g4;exact absurd h g4
 split at h
 ·cases h
 rename_i g5;have h3:=jU.1 h;refine⟨om,om,Classical.not_not.1 g5,fun s hs=> ?_⟩
 have:=h3 s hs
 unfold qde at this;split at this
 ·cases this
 ·omega
theorem coP(x:Co)(h:List AObj)(hz:qen x)(hp:ky SG h):ACalls Tryz.prog 81 [.agg (coC x)] h (.int .i64 (coE x)) h:=by
 have c1:=fun l=>qz4 x (h++l) hz (hp.app l)
 unfold coE
 by_cases g:srE x=0
 case neg=>
  have k1:(srE x=0)=False:=eqf g;rw[ipo g];obtain⟨e,he⟩: ∃e,e=srE x:=⟨_,rfl⟩
  rw[←he]at c1 k1 ⊢;unfold strs qm at c1;refine acO qvd ?_;simp (disch:=omega) only[qxj,coC,strs,qm,go_sem]
  repeat' first
   |(refine cA (c1 _) flk ?_;simp (disch:=omega) only[k1,go_sem])
   |(apply qa;exact rvk;simp only[go_sem];exact qi)
 rw[ine (fun hc=>hc g)];obtain⟨o1,o2,o3,o4⟩:=qpx g;have c2:=fun h=>qzK x.tok x.col h om om o4 hz.cl hz.tl hz.ce
 rw[g]at c1;unfold strs qm at c1;unfold qm qp at c2;cases g2:alB x.tok x.col<;>rw[g2]at c2
 all_goals
  refine acO qvd ?_;simp (disch:=omega) only[qxj,coC,strs,qm,qp,go_sem]
  repeat' first
   |((first|refine cA (c1 _) ?_ ?_|refine cA (c2 _) ?_ ?_);exact flk;simp (disch:=omega) only[go_sem])
   |(apply qa;exact rvk;simp only[go_sem];first|exact qi|apply qf)
   |with_reducible first|intro _|apply aiA
  all_goals try exact clz
def clT(x:Co)(k s:Nat):Option Str:=if (x.col.getD k []).getD s 0<0 then none else some ((x.tok.getD s []).getD ((x.col.getD k []).getD s 0).toNat default).text
def cmB(x:Co)(k:Nat):Bool:= !zH (fun s=>decide (clT x k s=none)|| !decide (clT x k s=clT x k 0)) x.sig.length
def rdG(x:Co)(s f:Nat):Nat→List Str
 |0=> []
 |d+1=>rdG x s f d++(clT x (f+d) s).toList
theorem qap(x:Co)(s f:Nat): ∀d,(rdG x s f d).length≤d:=by
 intro d
 induction d with
 |zero=>exact nlr _
 |succ d ih=>
  unfold rdG;rw[lap];cases clT x (f+d) s with
  |none=>simp only[Option.toList_none,lnl];omega
  |some w=>simp only[Option.toList_some,lco,lnl];omega
def qem(L:List Rd)(w:List Str):Int:=qbQ (fun j=>decide (w=(L.getD j default).words)) L.length 0
def qcI(L:List Rd)(w:List Str)(s:Nat):List Rd:=if qem L w<0 then L++ [⟨w,[(s:Int)]⟩] else L.set (qem L w).toNat ⟨w,(L.getD (qem L w).toNat default).src++ [(s:Int)]⟩
def jJ(x:Co)(f d:Nat):Nat→List Rd
 |0=> []
 |s+1=>qcI (jJ x f d s) (rdG x s f d) s
def qcy(x:Co)(f t:Nat):List Rd:=jJ x f (t-f) x.sig.length
theorem qmf(L:List Rd)(w:List Str)(s:Nat):(qcI L w s).length≤L.length+1:=by
 unfold qcI;split
 ·simp
 ·rw[List.length_set];omega
theorem qc7(x:Co)(f d:Nat): ∀s,(jJ x f d s).length≤s:=by
 intro s
 induction s with
 |zero=>exact nlr _
 |succ s ih=>
  have:=qmf (jJ x f d s) (rdG x s f d) s
  unfold jJ;omega
def unB(x:Co)(beh:Int)(u:Un):Bool:= !(decide (u.frm≤beh)||(decide (u.frm<0)||(decide (u.to≤u.frm)||(decide ((x.col.length:Int)<u.to)|| !decide (u.rds=qcy x u.frm.toNat u.to.toNat)))))
def beH(l:List Un)(i:Nat):Int:=if i=0 then-1 else (l.getD (i-1) default).to
def qlD(x:Co)(l:List Un):Bool:= !zH (fun i=> !unB x (beH l i) (l.getD i default)) l.length
def cvB(l:List Un)(k:Nat):Bool:=zH (fun i=>decide ((l.getD i default).frm≤k)&&decide ((k:Int)<(l.getD i default).to)) l.length
def cvA(x:Co)(l:List Un):Bool:= !zH (fun k=> !cvB l k&& !cmB x k) x.col.length
def rgB(x:Co)(l:List Un):Bool:=qlD x l&&cvA x l
def vaE(x:Co)(l:List Un):Int:=if coE x≠0 then 1 else if rgB x l=false then 20 else 0
def nxt(p:Nat→Bool):Nat→Nat→Nat
 |0,k=>k
 |d+1,k=>if p k=true then k else nxt p d (k+1)
theorem qfL(p:Nat→Bool): ∀d k,k≤nxt p d k∧nxt p d k≤k+d∧(∀j,k≤j→j<nxt p d k→p j=false)∧(nxt p d k<k+d→p (nxt p d k)=true):=by
 intro d
 induction d with
 |zero=>intro k;exact⟨nlr _,nlr _,fun j h1 h2=>by unfold nxt at h2;omega,fun h=>by unfold nxt at h;omega⟩
 |succ d ih=>
  intro k;unfold nxt;split
  ·rename_i h;exact⟨nlr _,om,fun j h1 h2=>by omega,fun _=>h⟩
  ·rename_i h;obtain⟨h1,h2,h3,h4⟩:=ih (k+1);refine⟨om,om,fun j g1 g2=> ?_,fun g=>h4 om⟩
   by_cases e:j=k
   ·subst e;simpa using h
   ·exact h3 j om g2
def ke(p:Nat→Bool)(n:Nat):Nat→Nat→List (Nat×Nat)
 |0,_=> []
 |d+1,f=>if n≤f then [] else (if f<nxt p (n-f) f then [(f,nxt p (n-f) f)] else [])++ke p n d (nxt p (n-f) f+1)
def qeW(p:Nat→Bool)(n:Nat):List (Nat×Nat):=ke p n (n+1) 0
theorem qf2(p:Nat→Bool)(n:Nat): ∀d f,(∀r∈ke p n d f,f≤r.1∧r.1<r.2∧r.2≤n∧ ∀k,r.1≤k→k<r.2→p k=false)∧(n-f<d→ ∀k,f≤k→k<n→p k=false→ ∃r∈ke p n d f,r.1≤k∧k<r.2):=by
 intro d
 induction d with
 |zero=>intro f;exact⟨fun r hr=>absurd hr List.not_mem_nil,fun h=>absurd h (nnz _)⟩
 |succ d ih=>
  intro f;unfold ke;split
  ·rename_i h;exact⟨fun r hr=>absurd hr List.not_mem_nil,fun _ k h1 h2=>by omega⟩
  ·rename_i h;obtain⟨h1,h2,h3,h4⟩:=qfL p (n-f) f;obtain⟨i1,i2⟩:=ih (nxt p (n-f) f+1);obtain⟨t,ht⟩: ∃t,t=nxt p (n-f) f:=⟨_,rfl⟩
   rw[←ht]at h1 h2 h3 h4 i1 i2 ⊢;refine⟨fun r hr=> ?_,fun hd k k1 k2 k3=> ?_⟩
   ·rcases List.mem_append.1 hr with hr|hr
    ·split at hr
     ·rename_i hft;rw[List.mem_singleton]at hr;subst hr;exact⟨nlr _,hft,by simp only;omega,h3⟩
     ·cases hr
    ·obtain⟨g1,g2⟩:=i1 r hr;exact⟨om,g2⟩
   ·by_cases hk:k<t
    ·refine⟨(f,t),List.mem_append_left _ ?_,k1,hk⟩;rw[ipo om];exact List.mem_singleton.2 rfl
    ·have hne:k≠t:=fun e=>by
      subst e;rw[h4 om]at k3;cases k3
     obtain⟨r,hr,g⟩:=i2 om k om k2 k3;exact⟨r,List.mem_append_right _ hr,g⟩
theorem qrY{p:Nat→Bool}{n:Nat}{r:Nat×Nat}(hr:r∈qeW p n):r.1<r.2∧r.2≤n∧ ∀k,r.1≤k→k<r.2→p k=false:=((qf2 p n (n+1) 0).1 r hr).2
theorem qn6{p:Nat→Bool}{n k:Nat}(hk:k<n)(hp:p k=false): ∃r∈qeW p n,r.1≤k∧k<r.2:=(qf2 p n (n+1) 0).2 om k (nzl _) hk hp
structure qyP (x:Co) (l:List Un):Prop where
 pw:l.Pairwise fun a b=>a.to<b.frm
 rg: ∀u∈l,0≤u.frm∧u.frm<u.to∧u.to≤x.col.length∧u.rds=qcy x u.frm.toNat u.to.toNat
theorem qsd{x:Co}{beh:Int}{u:Un}:unB x beh u=true↔beh<u.frm∧0≤u.frm∧u.frm<u.to∧u.to≤x.col.length∧u.rds=qcy x u.frm.toNat u.to.toNat:=by
 unfold unB;simp only[Bool.not_eq_true',Bool.or_eq_false_iff,decide_eq_false_iff_not,Bool.not_eq_false',decide_eq_true_eq];constructor
 ·rintro⟨h1,h2,h3,h4,h5⟩;exact⟨om,om,om,om,h5⟩
 ·rintro⟨h1,h2,h3,h4,h5⟩;exact⟨om,om,om,om,h5⟩
theorem qlE{x:Co}{l:List Un}(h:qlD x l=true):qyP x l:=by
 unfold qlD at h;rw[Bool.not_eq_true',qk]at h;have h1: ∀i,i<l.length→beH l i<(l.getD i default).frm∧0≤(l.getD i default).frm∧(l.getD i default).frm<(l.getD i default).to∧(l.getD i default).to≤x.col.length∧(l.getD i default).rds=qcy x (l.getD i default).frm.toNat (l.getD i default).to.toNat:=fun i hi=>
  qsd.1 (by simpa using h i hi)
 have g: ∀i (hi:i<l.length),l.getD i default=l[i]:=fun i hi=>by rw[gdqA,jr hi];rfl
 refine⟨List.pairwise_iff_getElem.2 fun i j hi hj hij=> ?_,fun u hu=> ?_⟩
 ·have key: ∀d,i+1+d<l.length→(l.getD i default).to<(l.getD (i+1+d) default).frm:=by
   intro d
   induction d with
   |zero=>
    intro hd
    have:=(h1 (i+1) hd).1
    unfold beH at this;rw[ine om,Nat.add_sub_cancel]at this;exact this
   |succ d ih=>
    intro hd;have h2:=ih om;have h3:=(h1 (i+1+d) om).2.2.1;have h4:=(h1 (i+1+d+1) om).1;unfold beH at h4;rw[ine om,Nat.add_sub_cancel]at h4;rw[←Nat.add_assoc];omega
  have:=key (j-(i+1)) om
  rw[show i+1+(j-(i+1))=j by omega,g i hi,g j hj]at this;exact this
 ·obtain⟨i,hi,rfl⟩:=List.getElem_of_mem hu
  have:=(h1 i hi).2
  rw[g i hi]at this;exact this
theorem qjg{l:List Un}{k:Nat}:cvB l k=true↔ ∃u∈l,u.frm≤k∧(k:Int)<u.to:=by
 unfold cvB;rw[qv];constructor
 ·rintro⟨i,hi,h⟩;rw[gdqA,jr hi,Bool.and_eq_true,decide_eq_true_iff,decide_eq_true_iff]at h;exact⟨_,List.getElem_mem hi,h⟩
 ·rintro⟨u,hu,h⟩;obtain⟨i,hi,rfl⟩:=List.getElem_of_mem hu;refine⟨i,hi,?_⟩;rw[gdqA,jr hi,Bool.and_eq_true,decide_eq_true_iff,decide_eq_true_iff];exact h
def rnB(l:List Un)(r:Nat×Nat):Bool:=zH (fun i=>decide ((l.getD i default).frm≤r.1)&&decide ((r.2:Int)≤(l.getD i default).to)) l.length
theorem qkU{l:List Un}{r:Nat×Nat}:rnB l r=true↔ ∃u∈l,u.frm≤r.1∧(r.2:Int)≤u.to:=by
 unfold rnB;rw[qv];constructor
 ·rintro⟨i,hi,h⟩;rw[gdqA,jr hi,Bool.and_eq_true,decide_eq_true_iff,decide_eq_true_iff]at h;exact⟨_,List.getElem_mem hi,h⟩
 ·rintro⟨u,hu,h⟩;obtain⟨i,hi,rfl⟩:=List.getElem_of_mem hu;refine⟨i,hi,?_⟩;rw[gdqA,jr hi,Bool.and_eq_true,decide_eq_true_iff,decide_eq_true_iff];exact h
theorem qnw{α:Type}{L:List α}{R:α→α→Prop}(h:L.Pairwise R){a b:α}(ha:a∈L)(hb:b∈L)(hne:a≠b):R a b∨R b a:=by
 induction L with
 |nil=>cases ha
 |cons c r ih=>
  obtain⟨h1,h2⟩:=List.pairwise_cons.1 h;rcases List.mem_cons.1 ha with ea|na
  ·rcases List.mem_cons.1 hb with eb|nb
   ·exact absurd (ea.trans eb.symm) hne
   ·rw[ea];exact .inl (h1 b nb)
  ·rcases List.mem_cons.1 hb with eb|nb
   ·rw[eb];exact .inr (h1 a na)
   ·exact ih h2 na nb
theorem qqE{x:Co}{l:List Un}(h:qlD x l=true):((qeW (cmB x) x.col.length).all (rnB l)=true)↔cvA x l=true:=by
 have ho:=qlE h;unfold cvA;rw[List.all_eq_true,Bool.not_eq_true',qk];constructor
 ·intro hr k hk;cases hc:cmB x k with
  |true=>simp
  |false=>
   obtain⟨r,hr1,r1,r2⟩:=qn6 hk hc;obtain⟨u,hu,u1,u2⟩:=qkU.1 (hr r hr1);rw[qjg.2 ⟨u,hu,om,om⟩];rfl
 ·intro hk r hr;obtain⟨r1,r2,r3⟩:=qrY hr;have cov: ∀k,r.1≤k→k<r.2→ ∃u∈l,u.frm≤(k:Int)∧(k:Int)<u.to:=fun k h1 h2=>by
   have h3:=hk k om;rw[r3 k h1 h2,Bool.not_false,Bool.and_true,Bool.not_eq_false']at h3;exact qjg.1 h3
  obtain⟨u,hu,u1,u2⟩:=cov r.1 (nlr _) r1;refine qkU.2 ⟨u,hu,u1,?_⟩
  by_cases ht:(r.2:Int)≤u.to
  ·exact ht
  ·exfalso;have hur:=ho.rg u hu;obtain⟨k,hk2⟩: ∃k:Nat,u.to=(k:Int):=⟨u.to.toNat,om⟩
   obtain⟨v,hv,v1,v2⟩:=cov k om om;have hvr:=ho.rg v hv
   by_cases e:u=v
   ·subst e;omega
   ·rcases qnw ho.pw hu hv e with h1|h1
    ·omega
    ·omega
def fnU(l:List Un)(c:Int):Int:=qbQ (fun i=>decide ((l.getD i default).frm≤c)&&decide (c<(l.getD i default).to)) l.length 0
theorem qcS(l:List Un)(c:Int): -1≤fnU l c∧fnU l c<l.length:=by
 unfold fnU;rcases zY (fun i=>decide ((l.getD i default).frm≤c)&&decide (c<(l.getD i default).to)) l.length with⟨i,h1,_,_,h4⟩|⟨_,h2⟩
 ·rw[h4];omega
 ·rw[h2];omega
theorem qvg{l:List Un}{c:Int}(h:fnU l c<0){i:Nat}(hi:i<l.length): ¬((l.getD i default).frm≤c∧c<(l.getD i default).to):=by
 unfold fnU at h;rcases zY (fun i=>decide ((l.getD i default).frm≤c)&&decide (c<(l.getD i default).to)) l.length with⟨j,_,_,_,h4⟩|⟨h1,_⟩
 ·rw[h4]at h;omega
 ·have:=h1 i hi
  rw[Bool.and_eq_false_iff,decide_eq_false_iff_not,decide_eq_false_iff_not]at this;omega
def wdE(x:Co)(l:List Un)(w bef:Wd)(first:Bool):Int:=
 if w.text= []∨64<w.text.length then 11 else if w.col<0∨(x.col.length:Int)≤w.col∨(first=false∧w.col<bef.col) then 19 else if w.unit< -1∨(l.length:Int)≤w.unit then 20 else
  if fnU l w.col≠w.unit then 20 else if w.dec< -1∨(w.unit<0∧w.dec≠ -1)∨(first=false∧0≤w.unit∧w.unit=bef.unit∧w.dec≠bef.dec) then 2 else 0
def qfu(b:List Wd)(i:Nat):Wd:=if i=0 then default else b.getD (i-1) default
def ql2(x:Co)(l:List Un)(b:List Wd)(i:Nat):Int:=wdE x l (b.getD i default) (qfu b i) (decide (i=0))
def cW(b:List Wd)(c:Int):Nat→Nat
 |0=>0
 |i+1=>cW b c i+if (b.getD i default).col=c then 1 else 0
def txA(x:Co)(c:Nat):Str:=((x.tok.getD 0 []).getD ((x.col.getD c []).getD 0 0).toNat default).text
def ccB(x:Co)(b:List Wd)(c:Nat):Bool:=decide (cW b c b.length=1)&&zH (fun i=>decide ((b.getD i default).col=c)&&decide ((b.getD i default).text=txA x c)) b.length
def qw8(x:Co)(l:List Un)(b:List Wd)(c:Nat):Int:=if 0≤fnU l c then 0 else if ccB x b c=true then 0 else 9
def pvE(x:Co)(l:List Un)(b:List Wd):Int:=
 if vaE x l≠0 then vaE x l else if qaS (ql2 x l b) 0 b.length≠0 then qaS (ql2 x l b) 0 b.length else qaS (qw8 x l b) 0 x.col.length
theorem qqe{b:List Wd}{c:Int}: ∀ {n:Nat},cW b c n=0↔ ∀i,i<n→(b.getD i default).col≠c:=by
 intro n
 induction n with
 |zero=>exact⟨fun _ i h=>absurd h (nnz i),fun _=>rfl⟩
 |succ n ih=>
  unfold cW;constructor
  ·intro h i hi
   by_cases e:i=n
   ·subst e;intro hc;rw[ipo hc]at h;omega
   ·exact ih.1 om i om
  ·intro h;rw[ih.2 fun i hi=>h i om,ine (h n om)]
theorem qtV(x:Co)(b:List Wd)(c:Nat):ccB x b c=(decide (cW b c b.length=1)&& !zH (fun i=>decide ((b.getD i default).col=c)&& !decide ((b.getD i default).text=txA x c)) b.length):=by
 unfold ccB
 by_cases h:cW b c b.length=1
 ·rw[dqt h,Bool.true_and,Bool.true_and];have key: ∀n,n≤b.length→cW b c n=1→ ∃i,i<n∧(b.getD i default).col=c∧ ∀j,j<n→j≠i→(b.getD j default).col≠c:=by
   intro n
   induction n with
   |zero=>intro _ h;cases h
   |succ n ih=>
    intro hn h;unfold cW at h
    by_cases e:(b.getD n default).col=c
    ·rw[ipo e]at h;have h0:cW b c n=0:=by omega
     exact⟨n,om,e,fun j hj hne=>qqe.1 h0 j om⟩
    ·rw[ine e]at h;obtain⟨i,h1,h2,h3⟩:=ih om om;refine⟨i,om,h2,fun j hj hne=> ?_⟩
     by_cases ej:j=n
     ·subst ej;exact e
     ·exact h3 j om hne
  obtain⟨i,h1,h2,h3⟩:=key b.length (nlr _) h
  by_cases ht:(b.getD i default).text=txA x c
  ·rw[qv.2 ⟨i,h1,by rw[dqt h2,dqt ht];rfl⟩,qk.2 fun j hj=> ?_]
   ·rfl
   ·by_cases e:j=i
    ·subst e;rw[dqt ht];simp
    ·rw[dqf (h3 j hj e)];rfl
  ·have e1:zH (fun i=>decide ((b.getD i default).col=c)&&decide ((b.getD i default).text=txA x c)) b.length=false:=qk.2 fun j hj=>by
    by_cases e:j=i
    ·subst e;rw[dqf ht,Bool.and_false]
    ·rw[dqf (h3 j hj e),Bool.false_and]
   have e2:zH (fun i=>decide ((b.getD i default).col=c)&& !decide ((b.getD i default).text=txA x c)) b.length=true:=qv.2 ⟨i,h1,by rw[dqt h2,dqf ht];rfl⟩;rw[e1,e2];rfl
 ·rw[dqf h,Bool.false_and,Bool.false_and]
structure qze (x:Co) (l:List Un) (b:List Wd):Prop where
 co:coE x=0
 un:qlD x l=true
 cv:cvA x l=true
 tx: ∀i,i<b.length→(b.getD i default).text≠ []∧(b.getD i default).text.length≤64
 cl: ∀i,i<b.length→0≤(b.getD i default).col∧(b.getD i default).col<x.col.length
 ord: ∀i,i+1<b.length→(b.getD i default).col≤(b.getD (i+1) default).col
 un2: ∀i,i<b.length→fnU l (b.getD i default).col=(b.getD i default).unit
 cc: ∀c,c<x.col.length→fnU l c<0→ccB x b c=true
theorem qfQ{x:Co}{l:List Un}{b:List Wd}(h:pvE x l b=0):qze x l b:=by
 unfold pvE at h;split at h
 ·rename_i h1;exact absurd h h1
 rename_i h1;have h1:=Classical.not_not.1 h1;split at h
 ·rename_i h2;exact absurd h h2
 rename_i h2;have h2:=jU.1 (Classical.not_not.1 h2);have h3:=jU.1 h;unfold vaE at h1;split at h1
 ·cases h1
 rename_i g1;split at h1
 ·cases h1
 rename_i g2;have g2:rgB x l=true:=by simpa using g2
 unfold rgB at g2;rw[Bool.and_eq_true]at g2;have hw: ∀i,i<b.length→((b.getD i default).text≠ []∧(b.getD i default).text.length≤64)∧(0≤(b.getD i default).col∧(b.getD i default).col<x.col.length)∧(0<i→(qfu b i).col≤(b.getD i default).col)∧fnU l (b.getD i default).col=(b.getD i default).unit:=fun i hi=>by
  have:=h2 i hi
  unfold ql2 wdE at this;split at this
  ·cases this
  rename_i k1;split at this
  ·cases this
  rename_i k2;split at this
  ·cases this
  split at this
  ·cases this
  rename_i k4;refine⟨⟨fun e=>k1 (.inl e),Nat.le_of_not_lt fun e=>k1 (.inr e)⟩,⟨om,om⟩,fun h0=> ?_,Classical.not_not.1 k4⟩;refine Int.not_lt.1 fun hc=>k2 (.inr (.inr ⟨dqf om,hc⟩))
 refine⟨Classical.not_not.1 g1,g2.1,g2.2,fun i hi=>(hw i hi).1,fun i hi=>(hw i hi).2.1,fun i hi=> ?_,fun i hi=>(hw i hi).2.2.2,fun c hc hn=> ?_⟩
 ·have:=(hw (i+1) hi).2.2.1 om
  unfold qfu at this;rw[ine om,Nat.add_sub_cancel]at this;exact this
 ·have:=h3 c hc
  unfold qw8 at this;rw[ine om]at this;split at this
  ·assumption
  ·cases this
def inU(b:List Wd)(k:Int)(i:Nat):Bool:=decide ((b.getD i default).unit=k)
def gwB(ws:List Str)(n:Nat):Bool:=zH (fun i=>decide (20<(ws.getD i []).length)) ws.length||decide (n<ws.length)
theorem jj{p:Nat→Bool}{i:Nat}(h: ∀j,j<i→p j=false)(hp:p i=false): ∀j,j<i+1→p j=false:=by
 intro j hj
 by_cases e:j=i
 ·subst e;exact hp
 ·exact h j om
theorem gwP(ws:List Str)(n:Nat)(h:List AObj)(hn:ws.length≤9223372036854775807):ACalls Tryz.prog 70 [strs ws,.int .i64 n] h (.bool (gwB ws n)) h:=by
 obtain⟨R,hR⟩: ∃R,R=gwB ws n:=⟨_,rfl⟩
 rw[←hR];unfold gwB at hR;refine acO qxM ?_;simp (disch:=omega) only[qyS,strs,go_sem];refine qn (T:=fun i:Nat=>qM 22 [(0,strs ws),(1,.int .i64 n),(5,.int .i64 i)]) (H:=fun _=>h) (inv:=fun i=>i≤ws.length∧ ∀j,j<i→(fun i=>decide (20<(ws.getD i []).length)) j=false) (m:=fun i=>ws.length-i) 0 ⟨nzl _,fun j hj=>by omega⟩ (Wk.temps ?_) ?_
 ·(simp only[strs,go_sem,qh,qe,qb,qg];try (repeat' first|(with_reducible apply aiA)|(apply qf;omega)|(apply qd;rfl)|exact qi))
 rintro i ⟨i1,i2⟩ K hK
 by_cases hi:i<ws.length
 ·have k1:((i:Int)<ws.length)=True:=eqt om
  by_cases g:20<(ws.getD i []).length
  ·have hV:R=true:=by rw[hR,qv.2 ⟨i,hi,dqt g⟩];rfl
   obtain⟨s,hs⟩: ∃s,s=ws.getD i []:=⟨_,rfl⟩
   have es:=hs.symm;rw[es]at g;have k2:((20:Int)<s.length)=True:=eqt om;rw[hV];simp (disch:=omega) only[strs,k1,k2,es,go_sem]
   repeat' first
    |(apply qc;exact rvk;simp only[go_sem];exact qi)
    |with_reducible apply aiA
   all_goals try exact clz
  ·have i3:=jj i2 (dqf g);obtain⟨s,hs⟩: ∃s,s=ws.getD i []:=⟨_,rfl⟩
   have es:=hs.symm;rw[es]at g;have k2:((20:Int)<s.length)=False:=eqf om;simp (disch:=omega) only[strs,k1,k2,es,go_sem]
   repeat' first
    |with_reducible apply aiA
   all_goals try exact clz
   refine hK _ _ (i+1) ⟨hi,i3⟩ om (Wk.temps ?_)
   (simp only[strs,go_sem,qh,qe,qb,qg];try (repeat' first|(with_reducible apply aiA)|(apply qf;omega)|(apply qd;rfl)|exact qi))
 ·have k1:((i:Int)<ws.length)=False:=eqf om;rw[qk.2 (fun j hj=>i2 j om),Bool.false_or]at hR;have e:decide ((n:Int)<ws.length)=R:=by rw[hR];exact decide_eq_decide.2 om
  simp (disch:=omega) only[strs,k1,go_sem]
  repeat' first
   |(apply qc;exact rvk;simp only[go_sem];apply qd)
  all_goals try exact clz
theorem qvv{ws:List Str}{n:Nat}(h:gwB ws n=false):ws.length≤n∧ ∀i,(ws.getD i []).length≤20:=by
 unfold gwB at h;rw[Bool.or_eq_false_iff,decide_eq_false_iff_not,qk]at h;refine⟨om,fun i=> ?_⟩
 by_cases hi:i<ws.length
 ·have:=of_decide_eq_false (h.1 i hi)
  omega
 ·rw[gdqA,List.getElem?_eq_none om];exact nzl _
end RC
end
section
open Go Go.Proofs AF HY LN
namespace AF
theorem Wk.fzCell{t:List AV}{h:List AObj}{j k i v:Nat}{ty:TypeId}{cs:List AV}{c c':AV}(hj:getO j h=some (.mem v ty cs))(hi:cs[i]? =some c)(hs:qP h k=true)(hne:j≠k)(hc:VLe (frz (fun b=> [k].contains b) h 8 c) c'):
  Wk t h t (setO j (setO k h (.emp (qr (getO k h)+1))) (.mem v ty (cs.set i c'))):=by
 intro N w σ a H;have hs':qa8 [k] h=true:=by simp[qa8,hs]
 obtain⟨σ',g1,g2,g3,g4⟩:=qdO [k] H.hr hs';have hn:j∉ [k]:=by simp[hne]
 have frzv: ∀c x,VR w σ c x→VR w σ' (frz (fun b=> [k].contains b) h 8 c) x:=fun c x hx=>
  qjL H.hr (fun b hb=>(g4 b hb).elim fun j ⟨o,h1,h2,h3⟩=>⟨j,o,by simpa using h1,h2,h3⟩) (fun j o hj ho=>g3 j o (by simpa using hj) ho) 8 hx
 have hjl:j<σ.length:=by rw[H.hr.len];exact zA hj
 have ho:=jr hjl;obtain⟨m1,m2,b,arr,m3,m4,m5,m6,m7,m8⟩:=H.hr.obj j _ _ hj ho;have q:=g1.recell (cs':=cs.set i c') ((qnq hn).trans hj) (g3 j _ hn ho) m3 m4 m5 (by simpa using m6) (fun n x hn hx=>m7 n x (by simpa using hn) hx) (fun n d x hd hx=>by
  rw[List.getElem?_set]at hd;split at hd
  ·rename_i e;subst e;split at hd
   ·cases hd;exact hc _ _ _ (frzv _ x (m8 i _ x hi hx))
   ·cases hd
  ·exact (m8 n d x hd hx).ext g2)
 exact⟨σ',⟨q,H.sz,fun n d x hd hx=>(H.tm n d x hd hx).ext g2,qam g2 H.df⟩,g2⟩
theorem qne{h:List AObj}{k ve sz off n:Nat}:frz (fun b=> [k].contains b) h 8 (.osl k ve sz off n)=qk8 (getO k h) ve sz off n (rei (fun b=> [k].contains b) h 7):=by
 rw[frz_osl,ipo (by simp),rei_osl,ipo (by simp)]
end AF
namespace RC
theorem qhd(L:List Gr):(ql6 L).solid=true:=rfl
theorem qgo(L:List Gr):(ql6 L).cells= [ql6 L]:=rfl
theorem qhc(L:List En):(ql5 L).solid=true:=rfl
theorem qgn(L:List En):(ql5 L).cells= [ql5 L]:=rfl
theorem qlh(names:List Str)(gs:List Gr)(e:En):(stV names gs e).solid=true:=rfl
theorem qi4(names:List Str)(gs:List Gr)(e:En):(stV names gs e).cells= [stV names gs e]:=rfl
theorem qlf(names:List Str)(gs:List Gr)(L:List En):(msV names gs L).solid=true:=rfl
theorem qi2(names:List Str)(gs:List Gr)(L:List En):(msV names gs L).cells= [msV names gs L]:=rfl
theorem qeY(L:List Int):(qq L).solid=true:=rfl
theorem qey(L:List Int):(qq L).cells= [qq L]:=rfl
attribute [go_sem] qhd qgo qhc qgn qlh qi4 qlf qi2 qeY qey
end RC
end
section
open Go Go.Proofs AF HY LN
namespace RC
section
variable (names : List Str) (gs : List Gr) (t : List Str) (l : List En) (src : Int) (h : List AObj)
theorem qod{v n:Nat}{L:List Int}{g:AV→AV}(hg: ∀s,g (.int .i64 s)= .int .i64 s)(hn:n=L.length):VLe (qk8 (some (kx v 3 (qW L))) v 1 0 n g) (qq L):=by
 subst hn
 by_cases h:L= []
 ·subst h;show VLe (qk8 (some (.emp v)) v 1 0 0 g) _;rw[slOf_emp,ipo rfl];exact qck
 ·have e0:kx v 3 (qW L)= .mem v 3 (qW L):=kV (fun e=>h (qjZ.1 e));rw[e0,slOf_mem,ipo ⟨rfl,by rw[zx];omega⟩];simp only[Nat.zero_add,Nat.mul_one];exact qaC g hg rfl
end
section
variable (names : List Str) (gs : List Gr) (t : List Str) (l : List En) (src : Int) (h : List AObj)
end
theorem eqI(a:List Int)(h:List AObj)(hn:a.length≤1000000000):ACalls Tryz.prog 40 [qq a,qq a] h (.bool true) h:=by
 have c:=qxC qvc a.length a.length (fun j=> .i (a.getD j 0)) (fun j=> .i (a.getD j 0)) h (fun _ _ _=>rfl) om om;rw[dqt ⟨rfl,fun _ _=>rfl⟩]at c;exact c
theorem qzr{L:List Int}{X:AV}{h:List AObj}(hv:qas ([qq L,X].map (rei (fun _=>true) h 8)) [qq L,qq L])(hn:L.length≤1000000000):ACalls Tryz.prog 40 [qq L,X] h (.bool true) h:=
 ACalls.borrow ((eqI L [] hn).le hv (qi)) rfl
end RC
end
section
open Go Go.Proofs AF HY LN
namespace RC
end RC
namespace RC
end RC
end
