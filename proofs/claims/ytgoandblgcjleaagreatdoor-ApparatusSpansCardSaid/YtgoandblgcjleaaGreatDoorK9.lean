import Derived.Test.YtgoandblgcjleaaGreatDoorK2
import Derived.Test.YtgoandblgcjleaaGreatDoorK4
import Derived.Test.YtgoandblgcjleaaGreatDoorK7
import Derived.Test.YtgoandblgcjleaaGreatDoorProg
import Derived.Test.YtgoandblgcjleaaGreatDoorK8
set_option linter.all false
set_option linter.unusedSimpArgs false
set_option linter.unusedVariables false
set_option linter.unusedSectionVars false
set_option maxRecDepth 100000
section
open Go Go.Proofs AF
def zu:List Nat:= []
def ju:C:=
 ((C.ops [O1 1 (.box 0 124) 0,MC 2 (i6 0)]).seq (((C.ops [O1 6 (.fldA 4) 1,LD 7 6,BC 8 .lss 7 (i6 0),MV 9 8,P1 10 9 false (.fldA 4) 1,P1 11 9 false (.load none) 10,PC 12 9
 false (.bin .gtr) 11 (i6 31),PT 13 9 12]).seq (C.cond (.t 13) ((C.ops [MC 2 (i6 2)]).seq C.ret) C.skip)).seq ((C.ops [O1 14 (.fldA 4) 1,LD 15 14,BC 16 .and 15 (i6 2),BC 17 .neq
 16 (i6 0),O1 18 (.fldA 4) 1,LD 19 18,BC 20 .and 19 (i6 8),BC 21 .neq 20 (i6 0),MV 3 17,MV 4 21]).seq (((C.ops [MV 22 3,MV 23 22,MG 24 23 true 4,PF 25 23 24]).seq (C.cond
 (.t 25) ((C.ops [MC 2 (i6 8)]).seq C.ret) C.skip)).seq ((C.ops [MC 5 (.fn (Fn.func 247) [] [])]).seq (((C.ops [MV 26 3]).seq (C.cond (.t 26) (C.ops [MC 5 (.fn (Fn.func 248) []
 [])]) C.skip)).seq (((C.ops [MV 27 4]).seq (C.cond (.t 27) (C.ops [MC 5 (.fn (Fn.func 249) [] [])]) C.skip)).seq ((C.block 0 (((C.ops [MV 29 5,O1 30 (.fldA 0) 1,LD 31 30,O2 32
 .callv 29 31,O1 33 (.un UnOp.not) 32,MV 28 33]).seq (C.cond (.t 28) C.skip ((C.ops [O1 34 (.load (some 6)) 1,O1 35 (.call 250 true) 34,MV 36 35,P1 37 36 true (.fldA 1) 1,P1
 38 36 true (.load none) 37,P1 39 36 true (.call 251 true) 38,P1 40 36 true (.un UnOp.not) 39,PF 41 36 40,MV 28 41]).seq (C.cond (.t 28) C.skip (C.ops [O1 42 (.load (some 6)) 1,
 O1 43 (.call 250 true) 42,O1 44 (.un UnOp.not) 43,MV 45 44,P1 46 45 true (.fldA 1) 1,P1 47 45 true (.load none) 46,P1 48 45 true (.fldA 0) 1,P1 49 45 true (.load none) 48,P2
 50 45 true (.bin .neq) 47 49,PF 51 45 50,MV 28 51]))))).seq (C.cond (.t 28) ((C.ops [MC 2 (i6 11)]).seq C.ret) ((C.ops [O1 53 (.fldA 2) 1,O1 54 (.fldA 1) 53,LD 55 54,BC 56
 .lss 55 (i6 0),MV 52 56]).seq (C.cond (.t 52) ((C.ops [MC 2 (i6 2)]).seq C.ret) ((C.ops [O1 58 (.fldA 2) 1,O1 59 (.fldA 0) 58,LD 60 59,O1 61 (.call 252 true) 60,O1 62 (.un
 UnOp.not) 61,MV 63 62,P1 64 63 false (.fldA 5) 1,P1 65 63 false (.load none) 64,P1 66 63 false (.call 252 true) 65,P1 67 63 false (.un UnOp.not) 66,PT 68 63 67,MV 57
 68]).seq (C.cond (.t 57) ((C.ops [MC 2 (i6 14)]).seq C.ret) C.skip))))))).seq ((C.ops [MC 2 (i6 0)]).seq
 C.ret)))))))))
theorem zN:qL Tryz.prog 207 69 1 [RV.tmp 2] ju:=fi Tryz.f207 [1] zu [] (by kernel_rfl) (by kernel_rfl) (by kernel_rfl) (by kernel_rfl)
def qcw:C:=
 ((C.ops [MC 2 (.bool false)]).seq (((C.ops [MV 5 0,O1 6 .slen 5,BC 7 .lss 6 (i6 3),MV 8 7,MG 9 8 false 0,PC 10 8 false .sidx 9 (i6 0),PC 11 8 false (.bin .neq) 10 (.int .u8
 91),PT 12 8 11,MV 13 12,MG 14 13 false 0,MG 15 13 false 0,P1 16 13 false .slen 15,PC 17 13 false (.bin .sub) 16 (i6 1),P2 18 13 false .sidx 14 17,PC 19 13 false (.bin .neq)
 18 (.int .u8 93),PT 20 13 19]).seq (C.cond (.t 20) ((C.ops [MC 2 (.bool false)]).seq C.ret) C.skip)).seq ((C.ops [MV 22 0,MV 23 0,O1 24 .slen 23,BC 25 .sub 24 (i6 1),ON 26
 (.sslc true true) [.t 22,.c (i6 1),.t 25],O1 27 (.call 291 true) 26,MV 21 27,O1 28 (.ext 0) 21,O1 29 (.ext 1) 21,MV 3 28,MV 4 29]).seq ((C.ops [MV 30 4,O1 31 (.isnil
 .iface false) 30,MV 32 31,MG 33 32 true 3,PC 34 32 true (.bin .geq) 33 (i6 1),PF 35 32 34,MV 36 35,MG 37 36 true 3,PC 38 36 true (.bin .leq) 37 (i6 64),PF 39 36 38,MV 40
 39,MG 41 40 true 0,MG 42 40 true 3,P1 43 40 true (.call 86 true) 42,PN 44 40 true (.bin .add) [.c (.str [91]),.t 43],PC 45 40 true (.bin .add) 44 (.str [93]),P2 46 40 true
 (.bin .eql) 41 45,PF 47 40 46,MV 2 47]).seq
 C.ret))))
theorem qa2:qL Tryz.prog 248 48 0 [RV.tmp 2] qcw:=fi Tryz.f248 [] zu [] (by kernel_rfl) (by kernel_rfl) (by kernel_rfl) (by kernel_rfl)
def qmo:C:=
 ((C.ops [MC 2 (.bool false)]).seq (((C.ops [MV 4 0,O1 5 .slen 4,BC 6 .neq 5 (i6 1)]).seq (C.cond (.t 6) ((C.ops [MC 2 (.bool false)]).seq C.ret) C.skip)).seq ((C.ops [MV 7 0,OC
 8 .sidx 7 (i6 0),O1 9 (.call 285 true) 8,MV 3 9]).seq ((C.ops [MV 10 3,BC 11 .eql 10 (i6 5),MV 12 11,MG 13 12 false 3,PC 14 12 false (.bin .eql) 13 (i6 4),PT 15 12 14,MV 2
 15]).seq
 C.ret))))
theorem qjo:qL Tryz.prog 249 16 0 [RV.tmp 2] qmo:=fi Tryz.f249 [] zu [] (by kernel_rfl) (by kernel_rfl) (by kernel_rfl) (by kernel_rfl)
def qtA:C:=
 ((C.ops [O1 1 (.box 0 124) 0,MC 2 (.bool false)]).seq ((C.ops [O1 3 (.fldA 4) 1,LD 4 3,BC 5 .and 4 (i6 10),BC 6 .eql 5 (i6 0),MV 2 6]).seq
 C.ret))
theorem quU:qL Tryz.prog 250 7 1 [RV.tmp 2] qtA:=fi Tryz.f250 [1] zu [] (by kernel_rfl) (by kernel_rfl) (by kernel_rfl) (by kernel_rfl)
def qtB:C:=
 ((C.ops [MC 2 (.bool false)]).seq (((C.ops [MV 4 0,O1 5 .slen 4,MC 6 (i6 0)]).seq (C.block 0 ((C.ops [BI 7 .lss 6 5]).seq ((C.cond (.t 7) C.skip (C.exit 0)).seq ((C.block 1
 ((C.ops [MV 8 6,MV 3 8]).seq ((C.ops [MV 9 0,MV 10 3,O2 11 .sidx 9 10,O1 12 (.call 292 true) 11,O1 13 (.un UnOp.not) 12]).seq (C.cond (.t 13) ((C.ops [MC 2 (.bool false)]).seq
 C.ret) C.skip)))).seq (C.ops [BC 14 .add 6 (i6 1),MV 6 14])))).loop)).seq ((C.ops [MV 15 0,BC 16 .neq 15 (.str []),MV 17 16,MG 18 17 true 0,P1 19 17 true .slen 18,PC 20 17
 true (.bin .leq) 19 (i6 64),PF 21 17 20,MV 2 21]).seq
 C.ret)))
theorem quV:qL Tryz.prog 251 22 0 [RV.tmp 2] qtB:=fi Tryz.f251 [] zu [] (by kernel_rfl) (by kernel_rfl) (by kernel_rfl) (by kernel_rfl)
def qqi:C:=
 ((C.ops [MC 2 (.bool false)]).seq ((C.ops [MV 3 0,BC 4 .eql 3 (.str []),MV 5 4,MG 6 5 false 0,P1 7 5 false (.call 186 true) 6,PT 8 5 7,MV 2 8]).seq
 C.ret))
theorem qps:qL Tryz.prog 252 9 0 [RV.tmp 2] qqi:=fi Tryz.f252 [] zu [] (by kernel_rfl) (by kernel_rfl) (by kernel_rfl) (by kernel_rfl)
def qmp:C:=
 ((C.ops [MC 2 (.bool false)]).seq ((C.ops [MV 4 0,O1 5 (.call 285 true) 4,MV 3 5]).seq ((C.ops [MV 6 0,O1 7 (.call 311 true) 6,MV 8 7,MG 9 8 false 3,PC 10 8 false (.bin .eql)
 9 (i6 2),PT 11 8 10,MV 12 11,MG 13 12 false 3,PC 14 12 false (.bin .eql) 13 (i6 4),PT 15 12 14,MV 2 15]).seq
 C.ret)))
theorem qjp:qL Tryz.prog 292 16 0 [RV.tmp 2] qmp:=fi Tryz.f292 [] zu [] (by kernel_rfl) (by kernel_rfl) (by kernel_rfl) (by kernel_rfl)
def qqq:C:=
 ((C.ops [MC 2 (.bool false)]).seq ((C.ops [MV 4 0,O1 5 (.call 285 true) 4,MV 3 5]).seq ((C.ops [MV 6 3,BC 7 .eql 6 (i6 1),MV 8 7,MG 9 8 false 3,PC 10 8 false (.bin .eql) 9
 (i6 3),PT 11 8 10,MV 2 11]).seq
 C.ret)))
theorem qpA:qL Tryz.prog 311 12 0 [RV.tmp 2] qqq:=fi Tryz.f311 [] zu [] (by kernel_rfl) (by kernel_rfl) (by kernel_rfl) (by kernel_rfl)
def qxv:C:=
 ((C.ops [O1 1 (.box 0 26) 0,MC 2 (i6 0)]).seq (((C.ops [O1 4 (.fldA 0) 1,LD 5 4,O1 6 (.fldA 1) 1,LD 7 6,O1 8 (.fldA 2) 1,LD 9 8,ON 10 (.call 152 true) [.t 5,.t 7,.t 9],MV
 3 10]).seq ((C.ops [MV 11 3,BC 12 .neq 11 (i6 0)]).seq (C.cond (.t 12) ((C.ops [MV 13 3,MV 2 13]).seq C.ret) C.skip))).seq (((C.ops [O1 14 (.fldA 2) 1,LD 15 14,O1 16 (.fldA 3)
 1,LD 17 16,O2 18 (.call 153 true) 15 17,BC 19 .neq 18 (i6 0)]).seq (C.cond (.t 19) ((C.ops [MC 2 (i6 19)]).seq C.ret) C.skip)).seq ((C.ops [MC 2 (i6 0)]).seq
 C.ret))))
theorem qvh:qL Tryz.prog 81 20 1 [RV.tmp 2] qxv:=fi Tryz.f81 [1] zu [] (by kernel_rfl) (by kernel_rfl) (by kernel_rfl) (by kernel_rfl)
def qis:C:=
 ((C.ops [MC 6 (i6 0)]).seq ((C.block 0 ((C.ops [MV 12 0,O1 13 (.call 186 true) 12,O1 14 (.un UnOp.not) 13,MV 11 14]).seq (C.cond (.t 11) ((C.ops [MC 6 (i6 14)]).seq C.ret)
 ((C.ops [MV 16 1,O1 17 .len 16,BC 18 .eql 17 (i6 0),MV 15 18]).seq (C.cond (.t 15) ((C.ops [MC 6 (i6 5)]).seq C.ret) ((C.ops [MV 20 1,O1 21 .len 20,BC 22 .gtr 21 (i6 32),MV
 19 22]).seq (C.cond (.t 19) ((C.ops [MC 6 (i6 4)]).seq C.ret) C.skip))))))).seq (((C.ops [MV 23 1,O1 24 .len 23,MC 25 (i6 0)]).seq (C.block 1 ((C.ops [BI 26 .lss 25 24]).seq
 ((C.cond (.t 26) C.skip (C.exit 1)).seq ((C.block 2 ((C.ops [MV 27 25,O2 28 (.idxA 1) 23 25,LD 29 28,MV 7 27,MV 8 29]).seq (((C.ops [MV 30 8,O1 31 (.call 204 true) 30,O1 32
 (.un UnOp.not) 31]).seq (C.cond (.t 32) ((C.ops [MC 6 (i6 14)]).seq C.ret) C.skip)).seq ((C.ops [MV 33 1,MV 34 7,O2 35 (.slc 1 false true) 33 34,MV 36 8,O2 37 (.call 43 true)
 35 36]).seq (C.cond (.t 37) ((C.ops [MC 6 (i6 7)]).seq C.ret) C.skip))))).seq (C.ops [BC 38 .add 25 (i6 1),MV 25 38])))).loop)).seq (((C.ops [MV 39 2,O1 40 .len 39,MV 41 1,O1
 42 .len 41,BI 43 .neq 40 42]).seq (C.cond (.t 43) ((C.ops [MC 6 (i6 9)]).seq C.ret) C.skip)).seq (((C.ops [MV 44 2,O1 45 .len 44,MC 46 (i6 0)]).seq (C.block 3 ((C.ops [BI 47
 .lss 46 45]).seq ((C.cond (.t 47) C.skip (C.exit 3)).seq ((C.block 4 ((C.ops [O2 48 (.idxA 1) 44 46,LD 49 48,MV 10 49]).seq (((C.ops [MV 50 10,O1 51 .len 50,BC 52 .gtr 51 (i6
 1024)]).seq (C.cond (.t 52) ((C.ops [MC 6 (i6 4)]).seq C.ret) C.skip)).seq ((C.ops [MV 53 10,OC 54 (.call 205 true) 53 (.fn (Fn.func 206) [] [])]).seq (C.cond (.t 54) ((C.ops [MC
 6 (i6 1)]).seq C.ret) C.skip))))).seq (C.ops [BC 55 .add 46 (i6 1),MV 46 55])))).loop)).seq ((C.ops [MC 6 (i6 0)]).seq
 C.ret))))))
theorem qfb:qL Tryz.prog 152 56 0 [RV.tmp 6] qis:=fi Tryz.f152 [] zu [] (by kernel_rfl) (by kernel_rfl) (by kernel_rfl) (by kernel_rfl)
def qtp:C:=
 ((C.ops [O1 1 (.box 0 124) 0,MC 2 (.bool false)]).seq ((C.ops [O1 3 (.load (some 6)) 1,O1 4 (.call 207 true) 3,BC 5 .neq 4 (i6 0),MV 2 5]).seq
 C.ret))
theorem quI:qL Tryz.prog 206 6 1 [RV.tmp 2] qtp:=fi Tryz.f206 [1] zu [] (by kernel_rfl) (by kernel_rfl) (by kernel_rfl) (by kernel_rfl)
def qiv:C:=
 ((C.ops [MC 2 (.bool false)]).seq ((C.ops [MV 6 0,OC 7 (.call 241 true) 6 (.str [42]),MV 5 7,O1 8 (.ext 0) 5,O1 9 (.ext 1) 5,MV 3 8,MV 4 9]).seq ((C.ops [MV 10 3,O1 11
 (.call 186 true) 10,MV 12 11,MG 13 12 true 4,P1 14 12 true (.un UnOp.not) 13,MG 15 12 true 14,MG 16 15 false 0,P1 17 15 false .slen 16,PC 18 15 false (.bin .leq) 17 (i6 16),
 QT 19 12 true 15 18,PF 20 12 19,MV 2 20]).seq
 C.ret)))
theorem qfe:qL Tryz.prog 204 21 0 [RV.tmp 2] qiv:=fi Tryz.f204 [] zu [] (by kernel_rfl) (by kernel_rfl) (by kernel_rfl) (by kernel_rfl)
def qtq:C:=
 ((C.ops [MC 2 (i6 0)]).seq ((C.block 0 ((C.ops [MV 4 0,O1 5 .len 4,BC 6 .eql 5 (i6 0),MV 3 6]).seq (C.cond (.t 3) ((C.ops [MC 2 (i6 5)]).seq C.ret) ((C.ops [MV 8 0,O1 9 .len 8,
 BC 10 .gtr 9 (i6 32),MV 11 10,MG 12 11 false 0,PC 13 11 false (.call 253 true) 12 (.fn (Fn.func 254) [] []),PT 14 11 13,MV 7 14]).seq (C.cond (.t 7) ((C.ops [MC 2 (i6 4)]).seq
 C.ret) C.skip))))).seq ((C.ops [MC 2 (i6 0)]).seq
 C.ret)))
theorem quJ:qL Tryz.prog 208 15 0 [RV.tmp 2] qtq:=fi Tryz.f208 [] zu [] (by kernel_rfl) (by kernel_rfl) (by kernel_rfl) (by kernel_rfl)
def qtC:C:=
 ((C.ops [MC 2 (.bool false)]).seq ((C.ops [MV 3 0,O1 4 .len 3,BC 5 .gtr 4 (i6 1024),MV 2 5]).seq
 C.ret))
theorem quX:qL Tryz.prog 254 6 0 [RV.tmp 2] qtC:=fi Tryz.f254 [] zu [] (by kernel_rfl) (by kernel_rfl) (by kernel_rfl) (by kernel_rfl)
def qte:C:=
 ((C.ops [MC 4 (i6 0)]).seq (((C.ops [MV 6 0,O1 7 (.call 208 true) 6,MV 5 7]).seq ((C.ops [MV 8 5,BC 9 .neq 8 (i6 0)]).seq (C.cond (.t 9) ((C.ops [MV 10 5,MV 4 10]).seq C.ret)
 C.skip))).seq (((C.ops [MV 11 0,MV 12 1,O2 13 (.call 209 true) 11 12,O1 14 (.un UnOp.not) 13]).seq (C.cond (.t 14) ((C.ops [MC 4 (i6 19)]).seq C.ret) C.skip)).seq ((C.ops [MC 4
 (i6 0)]).seq
 C.ret))))
theorem quv:qL Tryz.prog 153 15 0 [RV.tmp 4] qte:=fi Tryz.f153 [] zu [] (by kernel_rfl) (by kernel_rfl) (by kernel_rfl) (by kernel_rfl)
def qtr:C:=
 ((C.ops [MC 4 (.bool false)]).seq ((C.ops [MV 12 0,O1 13 .len 12,⟨some 14,none,.mkslc 0 1 3 [i6 0] 8,[.t 13,.t 13]⟩,MV 5 14]).seq (((C.ops [MV 15 1,O1 16 .len 15,MC 17 (i6
 0)]).seq (C.block 0 ((C.ops [BI 18 .lss 17 16]).seq ((C.cond (.t 18) C.skip (C.exit 0)).seq ((C.block 1 ((C.ops [O2 19 (.idxA 1) 15 17,LD 20 19,MV 7 20]).seq (((C.ops [MV 21 7,
 O1 22 .len 21,MV 23 0,O1 24 .len 23,BI 25 .neq 22 24]).seq (C.cond (.t 25) ((C.ops [MC 4 (.bool false)]).seq C.ret) C.skip)).seq ((C.ops [MC 8 (.bool false)]).seq (((C.ops [MV
 26 7,O1 27 .len 26,MC 28 (i6 0)]).seq (C.block 2 ((C.ops [BI 29 .lss 28 27]).seq ((C.cond (.t 29) C.skip (C.exit 2)).seq ((C.block 3 ((C.ops [MV 30 28,O2 31 (.idxA 1) 26 28,LD
 32 31,MV 9 30,MV 10 32]).seq (((C.ops [MV 33 10,BC 34 .eql 33 (i6 (-1))]).seq (C.cond (.t 34) (C.exit 3) C.skip)).seq (((C.ops [MV 35 10,MV 36 5,MV 37 9,O2 38 (.idxA 1) 36
 37,LD 39 38,BI 40 .neq 35 39,MV 41 40,MG 42 41 false 10,MG 43 41 false 0,MG 44 41 false 9,P2 45 41 false (.idxA 1) 43 44,P1 46 41 false (.load none) 45,P1 47 41 false .len
 46,P2 48 41 false (.bin .geq) 42 47,PT 49 41 48]).seq (C.cond (.t 49) ((C.ops [MC 4 (.bool false)]).seq C.ret) C.skip)).seq ((C.ops [MV 50 5,MV 51 9,O2 52 (.idxA 1) 50 51,LD
 53 52,BC 54 .add 53 (i6 1),O2 55 (.idxA 1) 50 51,ST 1 55 54]).seq (C.ops [MC 8 (.bool true)])))))).seq (C.ops [BC 56 .add 28 (i6 1),MV 28 56])))).loop)).seq ((C.ops [MV 57 8,
 O1 58 (.un UnOp.not) 57]).seq (C.cond (.t 58) ((C.ops [MC 4 (.bool false)]).seq C.ret) C.skip))))))).seq (C.ops [BC 59 .add 17 (i6 1),MV 17 59])))).loop)).seq (((C.ops [MV 60 0,
 O1 61 .len 60,MC 62 (i6 0)]).seq (C.block 4 ((C.ops [BI 63 .lss 62 61]).seq ((C.cond (.t 63) C.skip (C.exit 4)).seq ((C.block 5 ((C.ops [MV 64 62,MV 11 64]).seq ((C.ops [MV 65 5,
 MV 66 11,O2 67 (.idxA 1) 65 66,LD 68 67,MV 69 0,MV 70 11,O2 71 (.idxA 1) 69 70,LD 72 71,O1 73 .len 72,BI 74 .neq 68 73]).seq (C.cond (.t 74) ((C.ops [MC 4 (.bool
 false)]).seq C.ret) C.skip)))).seq (C.ops [BC 75 .add 62 (i6 1),MV 62 75])))).loop)).seq ((C.ops [MC 4 (.bool true)]).seq
 C.ret)))))
theorem quK:qL Tryz.prog 209 76 1 [RV.tmp 4] qtr:=fi Tryz.f209 [14] zu [] (by kernel_rfl) (by kernel_rfl) (by kernel_rfl) (by kernel_rfl)
def qyS:C:=
 ((C.ops [ON 4 (.nilo 0 1 9) []]).seq ((C.ops [MV 5 0,MV 6 1,ON 7 (.call 118 true) [.t 5,.t 6,.c (i6 0),.c (i6 (-1))],MV 4 7]).seq
 C.ret))
theorem qxM:qL Tryz.prog 44 8 1 [RV.tmp 4] qyS:=fi Tryz.f44 [4] zu [] (by kernel_rfl) (by kernel_rfl) (by kernel_rfl) (by kernel_rfl)
def qta:C:=
 ((C.ops [ON 8 (.nilo 0 1 9) []]).seq (((C.ops [MV 12 3,BC 13 .eql 12 (i6 0)]).seq (C.cond (.t 13) ((C.ops [ON 8 (.nilo 0 1 9) []]).seq C.ret) C.skip)).seq (((C.ops [MV 14 1,BC 15
 .eql 14 (.str [])]).seq (C.cond (.t 15) ((C.ops [MV 16 0,MV 17 3,O2 18 (.call 182 true) 16 17,MV 8 18]).seq C.ret) C.skip)).seq (((C.ops [MV 19 3,BC 20 .lss 19 (i6 0)]).seq
 (C.cond (.t 20) (C.ops [MV 21 0,MV 22 1,O2 23 (.call 183 true) 21 22,BC 24 .add 23 (i6 1),MV 3 24]) C.skip)).seq ((C.ops [MV 25 3,MV 26 0,O1 27 .slen 26,BC 28 .add 27 (i6
 1),O2 29 (.mm false) 25 28,MV 3 29]).seq ((C.ops [MV 30 3,⟨some 31,none,.mkslc 1 1 9 [.str []] 16,[.t 30,.t 30]⟩,MV 9 31]).seq ((C.ops [MV 32 3,BC 33 .sub 32 (i6 1),MV 3
 33]).seq ((C.ops [MC 10 (i6 0)]).seq ((C.block 0 (((C.ops [MV 34 10,MV 35 3,BI 36 .lss 34 35]).seq (C.cond (.t 36) C.skip (C.exit 0))).seq (C.block 1 ((C.ops [MV 37 0,MV 38 1,
 O2 39 (.call 184 true) 37 38,MV 11 39]).seq (((C.ops [MV 40 11,BC 41 .lss 40 (i6 0)]).seq (C.cond (.t 41) (C.exit 0) C.skip)).seq ((C.ops [MV 42 9,MV 43 10,MV 44 0,MV 45 11,
 MV 46 2,BI 47 .add 45 46,O2 48 (.sslc false true) 44 47,O2 49 (.idxA 1) 42 43,ST 1 49 48]).seq ((C.ops [MV 50 0,MV 51 11,MV 52 1,O1 53 .slen 52,BI 54 .add 51 53,O2 55
 (.sslc true false) 50 54,MV 0 55]).seq (C.ops [MV 56 10,BC 57 .add 56 (i6 1),MV 10 57]))))))).loop).seq ((C.ops [MV 58 9,MV 59 10,MV 60 0,O2 61 (.idxA 1) 58 59,ST 1 61
 60]).seq ((C.ops [MV 62 9,MV 63 10,BC 64 .add 63 (i6 1),O2 65 (.slc 1 false true) 62 64,MV 8 65]).seq
 C.ret)))))))))))
theorem quq:qL Tryz.prog 118 66 2 [RV.tmp 8] qta:=fi Tryz.f118 [8,31] zu [] (by kernel_rfl) (by kernel_rfl) (by kernel_rfl) (by kernel_rfl)
end
section
open Go Go.Proofs AF HY LN
namespace RC
set_option maxHeartbeats 4000000
theorem qy3 (s:Str) (h:List AObj) (hs:s.length≤1000000000):ACalls Tryz.prog 252 [.str s] h (.bool (qsP s)) h:=by
 have c1:=fun h=>t44 s h hs
 unfold qsP
 by_cases g:s= []
 ·subst g
  rw [decide_eq_true rfl,Bool.true_or]
  refine acO qps ?_
  simp (disch:=omega) only [qqi,List.replicate,go_sem]
  repeat' first
   |(refine ql ( .bool false) ?_;simp (disch:=omega) only [go_sem])
   |((first|apply qd|apply qb);exact rvk;simp only [go_sem];first|exact VLe.refl _|apply qe|apply qa|apply qf|skip)
   |with_reducible first|apply And.intro|intro _
  all_goals try exact clz
 ·have k1:(s= [])=False:=eq_false g
  rw [decide_eq_false g,Bool.false_or]
  refine acO qps ?_
  simp (disch:=omega) only [qqi,List.replicate,k1,go_sem]
  repeat' first
   |((first|refine cA (c1 _) ?_ ?_|refine cG (fun e=>c1 _) ?_ ?_|refine cU (fun _=>c1 _) ?_ ?_);(next=>exact flk);simp (disch:=omega) only [k1,go_sem])
   |((first|apply qd|apply qb);exact rvk;simp only [go_sem];first|exact VLe.refl _|apply qe|apply qa|apply qf|skip)
   |with_reducible first|apply And.intro|intro _
  all_goals try exact clz
theorem qzP (s:Str) (h:List AObj) (hs:s.length≤1000000000):ACalls Tryz.prog 249 [.str s] h (.bool (qxg s)) h:=by
 unfold qxg
 by_cases g:s.length=1
 ·have k1:((s.length:Int)=1)=True:=eq_true (by omega)
  have k2:((0:Int)<s.length)=True:=eq_true (by omega)
  have e:(s[0]?).getD 0=ch s 0:=by simp [ch,gdqA]
  have c5:=fun h=>jf (ch s 0) h
  rw [decide_eq_true g,Bool.true_and]
  obtain ⟨k,hk⟩: ∃k,k=zH (ch s 0):=⟨_,rfl⟩
  rw [←hk]at c5 ⊢
  by_cases g1:k=5
  ·have q1:(k=5)=True:=eq_true g1
   rw [decide_eq_true g1,Bool.true_or]
   refine acO qjo ?_
   simp (disch:=omega) only [qmo,List.replicate,k1,go_sem]
   repeat' first
    |((first|refine cA (c5 _) ?_ ?_|refine cG (fun e=>c5 _) ?_ ?_|refine cU (fun _=>c5 _) ?_ ?_);(next=>exact flk);simp (disch:=omega) only [k1,k2,e,q1,Int.toNat_zero,go_sem])
    |((first|apply qd|apply qb);exact rvk;simp only [go_sem];first|exact VLe.refl _|apply qe|apply qa|apply qf|skip)
    |with_reducible first|apply And.intro|intro _
   all_goals try exact clz
  ·have q1:(k=5)=False:=eq_false g1
   rw [decide_eq_false g1,Bool.false_or]
   refine acO qjo ?_
   simp (disch:=omega) only [qmo,List.replicate,k1,go_sem]
   repeat' first
    |((first|refine cA (c5 _) ?_ ?_|refine cG (fun e=>c5 _) ?_ ?_|refine cU (fun _=>c5 _) ?_ ?_);(next=>exact flk);simp (disch:=omega) only [k1,k2,e,q1,Int.toNat_zero,go_sem])
    |((first|apply qd|apply qb);exact rvk;simp only [go_sem];first|exact VLe.refl _|apply qe|apply qa|apply qf|skip)
    |with_reducible first|apply And.intro|intro _
   all_goals try exact clz
 ·have k1:((s.length:Int)=1)=False:=eq_false (by omega)
  rw [decide_eq_false g,Bool.false_and]
  refine acO qjo ?_
  simp (disch:=omega) only [qmo,List.replicate,k1,go_sem]
  repeat' first
   |((first|apply qd|apply qb);exact rvk;simp only [go_sem];first|exact VLe.refl _|apply qe|apply qa|apply qf|skip)
   |with_reducible first|apply And.intro|intro _
  all_goals try exact clz
theorem qzo (c:UInt8) (h:List AObj):ACalls Tryz.prog 311 [.int .u8 (c.toNat:Int)] h (.bool (decide (zH c=1)||decide (zH c=3))) h:=by
 have c5:=fun h=>jf c h
 obtain ⟨k,hk⟩: ∃k,k=zH c:=⟨_,rfl⟩
 rw [←hk]at c5 ⊢
 by_cases g1:k=1
 ·have q1:(k=1)=True:=eq_true g1
  rw [decide_eq_true g1,Bool.true_or]
  refine acO qpA ?_
  simp (disch:=omega) only [qqq,List.replicate,go_sem]
  repeat' first
   |((first|refine cA (c5 _) ?_ ?_|refine cG (fun e=>c5 _) ?_ ?_|refine cU (fun _=>c5 _) ?_ ?_);(next=>exact flk);simp (disch:=omega) only [q1,go_sem])
   |((first|apply qd|apply qb);exact rvk;simp only [go_sem];first|exact VLe.refl _|apply qe|apply qa|apply qf|skip)
   |with_reducible first|apply And.intro|intro _
  all_goals try exact clz
 ·have q1:(k=1)=False:=eq_false g1
  rw [decide_eq_false g1,Bool.false_or]
  refine acO qpA ?_
  simp (disch:=omega) only [qqq,List.replicate,go_sem]
  repeat' first
   |((first|refine cA (c5 _) ?_ ?_|refine cG (fun e=>c5 _) ?_ ?_|refine cU (fun _=>c5 _) ?_ ?_);(next=>exact flk);simp (disch:=omega) only [q1,go_sem])
   |((first|apply qd|apply qb);exact rvk;simp only [go_sem];first|exact VLe.refl _|apply qe|apply qa|apply qf|skip)
   |with_reducible first|apply And.intro|intro _
  all_goals try exact clz
theorem qzL (c:UInt8) (h:List AObj):ACalls Tryz.prog 292 [.int .u8 (c.toNat:Int)] h (.bool (qrn c)) h:=by
 have c5:=fun h=>jf c h
 have c6:=fun h=>qzo c h
 unfold qrn
 rw [←Bool.or_assoc]
 obtain ⟨k,hk⟩: ∃k,k=zH c:=⟨_,rfl⟩
 rw [←hk]at c5 c6 ⊢
 obtain ⟨b,hb⟩: ∃b,b=(decide (k=1)||decide (k=3)):=⟨_,rfl⟩
 rw [←hb]at c6 ⊢
 cases b with
 |true=>
  rw [Bool.true_or]
  refine acO qjp ?_
  simp (disch:=omega) only [qmp,List.replicate,go_sem]
  repeat' first
   |((first|refine cA (c5 _) ?_ ?_|refine cG (fun e=>c5 _) ?_ ?_|refine cA (c6 _) ?_ ?_|refine cG (fun e=>c6 _) ?_ ?_|refine cU (fun _=>c5 _) ?_ ?_|refine cU (fun _=>c6 _) ?_ ?_);(next=>exact flk);simp (disch:=omega) only [go_sem])
   |((first|apply qd|apply qb);exact rvk;simp only [go_sem];first|exact VLe.refl _|apply qe|apply qa|apply qf|skip)
   |with_reducible first|apply And.intro|intro _
  all_goals try exact clz
 |false=>
  rw [Bool.false_or]
  by_cases g1:k=2
  ·have q1:(k=2)=True:=eq_true g1
   rw [decide_eq_true g1,Bool.true_or]
   refine acO qjp ?_
   simp (disch:=omega) only [qmp,List.replicate,go_sem]
   repeat' first
    |((first|refine cA (c5 _) ?_ ?_|refine cG (fun e=>c5 _) ?_ ?_|refine cA (c6 _) ?_ ?_|refine cG (fun e=>c6 _) ?_ ?_|refine cU (fun _=>c5 _) ?_ ?_|refine cU (fun _=>c6 _) ?_ ?_);(next=>exact flk);simp (disch:=omega) only [q1,go_sem])
    |((first|apply qd|apply qb);exact rvk;simp only [go_sem];first|exact VLe.refl _|apply qe|apply qa|apply qf|skip)
    |with_reducible first|apply And.intro|intro _
   all_goals try exact clz
  ·have q1:(k=2)=False:=eq_false g1
   rw [decide_eq_false g1,Bool.false_or]
   refine acO qjp ?_
   simp (disch:=omega) only [qmp,List.replicate,go_sem]
   repeat' first
    |((first|refine cA (c5 _) ?_ ?_|refine cG (fun e=>c5 _) ?_ ?_|refine cA (c6 _) ?_ ?_|refine cG (fun e=>c6 _) ?_ ?_|refine cU (fun _=>c5 _) ?_ ?_|refine cU (fun _=>c6 _) ?_ ?_);(next=>exact flk);simp (disch:=omega) only [q1,go_sem])
    |((first|apply qd|apply qb);exact rvk;simp only [go_sem];first|exact VLe.refl _|apply qe|apply qa|apply qf|skip)
    |with_reducible first|apply And.intro|intro _
   all_goals try exact clz
theorem qx5 (s:Str) (h:List AObj) (hs:s.length≤1000000000):ACalls Tryz.prog 251 [.str s] h (.bool (qvI s)) h:=by
 obtain ⟨R,hR⟩: ∃R,R=qvI s:=⟨_,rfl⟩
 rw [←hR]
 unfold qvI at hR
 refine acO quV ?_
 simp (disch:=omega) only [qtB,List.replicate,go_sem]
 repeat' first
  |((first|apply qd|apply qb);exact rvk;simp only [go_sem];first|exact VLe.refl _|apply qe|apply qa|apply qf|skip)
  |with_reducible first|apply And.intro|intro _
 all_goals try exact clz
 refine qv (T:=fun i:Nat=>qQ 22 [(0,.str s),(5,.int .i64 s.length),(6,.int .i64 i)]) (H:=fun _=>h) (inv:=fun i=>i≤s.length∧ ∀j,j<i→qrn (ch s j)=true) (m:=fun i=>s.length-i) 0 ⟨Nat.zero_le _,fun j hj=>by omega⟩ (Wk.temps ?_) ?_
 ·(simp only [List.replicate,go_sem,qk,qi,qg,qj];try (repeat' first|(with_reducible apply And.intro)|(apply qe;omega)|(apply qa;rfl)|exact VLe.refl _))
 rintro i ⟨i1,i2⟩ K hK
 by_cases hi:i<s.length
 ·have k1:((i:Int)<s.length)=True:=eq_true (by omega)
  have e:(s[i]?).getD 0=ch s i:=by simp [ch,gdqA]
  have c1:=fun h=>qzL (ch s i) h
  cases g:qrn (ch s i)with
  |false=>
   rw [g]at c1
   have hV:R=false:=by
    have:((List.range s.length).all fun i=>qrn (ch s i))=false:=by
     rw [List.all_eq_false];exact ⟨i,List.mem_range.2 hi,by simp [g]⟩
    rw [hR,this,Bool.and_false,Bool.and_false]
   rw [hV]
   simp (disch:=omega) only [List.replicate,k1,e,go_sem]
   repeat' first
    |((first|refine cA (c1 _) ?_ ?_|refine cG (fun e=>c1 _) ?_ ?_|refine cU (fun _=>c1 _) ?_ ?_);(next=>exact flk);simp (disch:=omega) only [k1,e,go_sem])
    |((first|apply qd|apply qb);exact rvk;simp only [go_sem];first|exact VLe.refl _|apply qe|apply qa|apply qf|skip)
    |with_reducible first|apply And.intro|intro _
   all_goals try exact clz
  |true=>
   rw [g]at c1
   simp (disch:=omega) only [List.replicate,k1,e,go_sem]
   repeat' first
    |((first|refine cA (c1 _) ?_ ?_|refine cG (fun e=>c1 _) ?_ ?_|refine cU (fun _=>c1 _) ?_ ?_);(next=>exact flk);simp (disch:=omega) only [k1,e,go_sem])
    |((first|apply qd|apply qb);exact rvk;simp only [go_sem];first|exact VLe.refl _|apply qe|apply qa|apply qf|skip)
    |with_reducible first|apply And.intro|intro _
   all_goals try exact clz
   refine hK _ _ (i+1) ⟨hi,fun j hj=> ?_⟩ (by omega) (Wk.temps ?_)
   ·by_cases e':j=i
    ·subst e';exact g
    ·exact i2 j (by omega)
   ·(simp only [List.replicate,go_sem,qk,qi,qg,qj];try (repeat' first|(with_reducible apply And.intro)|(apply qe;omega)|(apply qa;rfl)|exact VLe.refl _))
 ·have k1:((i:Int)<s.length)=False:=eq_false (by omega)
  have hA:((List.range s.length).all fun i=>qrn (ch s i))=true:=by
   rw [List.all_eq_true];intro j hj;exact i2 j (by have:=List.mem_range.1 hj;omega)
  rw [hA,Bool.and_true]at hR
  by_cases g:s= []
  ·have q1:(s= [])=True:=eq_true g
   rw [hR,decide_eq_false (fun h=>h g),Bool.false_and]
   simp (disch:=omega) only [List.replicate,k1,q1,go_sem]
   repeat' first
    |((first|apply qd|apply qb);exact rvk;simp only [go_sem];first|exact VLe.refl _|apply qe|apply qa|apply qf|skip)
    |with_reducible first|apply And.intro|intro _
   all_goals try exact clz
  ·have q1:(s= [])=False:=eq_false g
   have q2:decide ((s.length:Int)≤64)=decide (s.length≤64):=decide_eq_decide.2 (by omega)
   rw [hR,decide_eq_true (show s≠ []from g),Bool.true_and]
   simp (disch:=omega) only [List.replicate,k1,q1,q2,go_sem]
   repeat' first
    |((first|apply qd|apply qb);exact rvk;simp only [go_sem];first|exact VLe.refl _|apply qe|apply qa|apply qf|skip)
    |with_reducible first|apply And.intro|intro _
   all_goals try exact clz
theorem qrq {k:Nat}:1≤(Lib.itoa (k:Int)).length:=by
 rw [Lib.itoa_nonneg]
 by_cases g:k<10
 ·rw [Lib.decDigits,dif_pos g];simp
 ·rw [Lib.decDigits,dif_neg g];simp
theorem qvp {s:Str} (h:qng s=true):3≤s.length∧((s[0]?).getD 0).toNat=91∧((s[s.length-1]?).getD 0).toNat=93∧ ∃v:Int,Lib.atoiAll ((s.drop 1).take (s.length-1-1))= .ok v∧1≤v∧v≤64∧s=91::(Lib.itoa v++ [93]):=by
 unfold qng at h
 rw [List.any_eq_true]at h
 obtain ⟨k,hk,e⟩:=h
 have hk':k<64:=by simpa using hk
 have e:=of_decide_eq_true e
 have hl:=qrq (k:=k+1)
 obtain ⟨t,ht⟩: ∃t,t=Lib.itoa ((k+1:Nat):Int):=⟨_,rfl⟩
 rw [←ht]at e hl
 have ha:Lib.atoiAll t= .ok ((k+1:Nat):Int):=by rw [ht];exact qhz (by omega) (by omega)
 have e1:s.length=t.length+2:=by rw [e];simp
 refine ⟨by omega,by rw [e];rfl,?_,((k+1:Nat):Int),?_,by omega,by omega,by rw [←ht];exact e⟩
 ·rw [e1,e,show t.length+2-1=t.length+1 by omega,List.getElem?_cons_succ,List.getElem?_append_right (Nat.le_refl _),Nat.sub_self]
  rfl
 ·rw [←ha,e1,e]
  congr 1
  simp
theorem qvq {s:Str} {v:Int} (h1:1≤v) (h2:v≤64) (e:s=91::(Lib.itoa v++ [93])):qng s=true:=by
 unfold qng
 rw [List.any_eq_true]
 refine ⟨v.toNat-1,by simp;omega,decide_eq_true ?_⟩
 rw [show ((v.toNat-1+1:Nat):Int)=v by omega]
 exact e
theorem qzF (s:Str) (h:List AObj) (hs:s.length≤1000000000) (hp:qaZ SG h):ACalls Tryz.prog 248 [.str s] h (.bool (qng s)) h:=by
 have hF:= @qvp s
 have hM:= @qvq s
 obtain ⟨R,hR⟩: ∃R,R=qng s:=⟨_,rfl⟩
 rw [←hR]at hF hM ⊢
 have hV: ¬(R=true)→R=false:=by cases R<;>simp
 by_cases g0:s.length<3
 ·have k0:((s.length:Int)<3)=True:=eq_true (by omega)
  rw [hV (fun c=>by have:=(hF c).1;omega)]
  refine acO qa2 ?_
  simp (disch:=omega) only [qcw,List.replicate,k0,go_sem]
  repeat' first
   |((first|apply qd|apply qb);exact rvk;simp only [go_sem];first|exact VLe.refl _|apply qe|apply qa|apply qf|skip)
   |with_reducible first|apply And.intro|intro _
  all_goals try exact clz
 have k0:((s.length:Int)<3)=False:=eq_false (by omega)
 have k1:((0:Int)<s.length)=True:=eq_true (by omega)
 have k2:((s.length:Int)-1).toNat=s.length-1:=by omega
 have k3:(0≤(s.length:Int)-1)=True:=eq_true (by omega)
 have k4:((s.length:Int)-1≤s.length)=True:=eq_true (by omega)
 have k5:((s.length:Int)-1<s.length)=True:=eq_true (by omega)
 have k6:((1:Int)≤(s.length:Int)-1)=True:=eq_true (by omega)
 obtain ⟨m,hm⟩: ∃m,m=(s.drop 1).take (s.length-1-1):=⟨_,rfl⟩
 have hml:m.length≤s.length:=by rw [hm];simp;omega
 have em:=hm.symm
 rw [em]at hF
 obtain ⟨a,ha⟩: ∃a,a=(s[0]?).getD 0:=⟨_,rfl⟩
 obtain ⟨b,hb⟩: ∃b,b=(s[s.length-1]?).getD 0:=⟨_,rfl⟩
 have ea:=ha.symm
 have eb:=hb.symm
 rw [ea,eb]at hF
 by_cases g1:a.toNat=91
 case neg=>
  have q1:((a.toNat:Int)=91)=False:=eq_false (by omega)
  rw [hV (fun c=>g1 (hF c).2.1)]
  refine acO qa2 ?_
  simp (disch:=omega) only [qcw,List.replicate,k0,k1,k2,k3,k4,k5,k6,em,ea,eb,q1,Int.toNat_zero,Int.toNat_one,go_sem]
  repeat' first
   |((first|apply qd|apply qb);exact rvk;simp only [go_sem];first|exact VLe.refl _|apply qe|apply qa|apply qf|skip)
   |with_reducible first|apply And.intro|intro _
  all_goals try exact clz
 have q1:((a.toNat:Int)=91)=True:=eq_true (by omega)
 by_cases g2:b.toNat=93
 case neg=>
  have q2:((b.toNat:Int)=93)=False:=eq_false (by omega)
  rw [hV (fun c=>g2 (hF c).2.2.1)]
  refine acO qa2 ?_
  simp (disch:=omega) only [qcw,List.replicate,k0,k1,k2,k3,k4,k5,k6,em,ea,eb,q1,q2,Int.toNat_zero,Int.toNat_one,go_sem]
  repeat' first
   |((first|apply qd|apply qb);exact rvk;simp only [go_sem];first|exact VLe.refl _|apply qe|apply qa|apply qf|skip)
   |with_reducible first|apply And.intro|intro _
  all_goals try exact clz
 have q2:((b.toNat:Int)=93)=True:=eq_true (by omega)
 have c180:=t50 m h (SG.err hp) (by omega)
 unfold qp2 at c180
 cases hA:Lib.atoiAll m
 case ok v=>
  rw [hA]at c180 hF
  simp only at c180
  obtain ⟨r1,r2⟩:=qme hA
  have c181:=t48 v h (SG.pow hp) r1 r2
  obtain ⟨t,ht⟩: ∃t,t=Lib.itoa v:=⟨_,rfl⟩
  rw [←ht]at c181
  by_cases g3:1≤v
  case neg=>
   have q3:(1≤v)=False:=eq_false g3
   rw [hV (fun c=>by obtain ⟨_,_,_,w,e,w1,_⟩:=hF c;cases e;exact g3 w1)]
   refine acO qa2 ?_
   simp (disch:=omega) only [qcw,List.replicate,k0,k1,k2,k3,k4,k5,k6,em,ea,eb,q1,q2,q3,Int.toNat_zero,Int.toNat_one,go_sem]
   repeat' first
    |(refine ql ( .str []) ?_;simp (disch:=omega) only [k0,k1,k2,k3,k4,k5,k6,em,ea,eb,q1,q2,q3,Int.toNat_zero,Int.toNat_one,go_sem])
    |((first|refine cA (c180) ?_ ?_|refine cG (fun e=>c180) ?_ ?_);(next=>exact flk);simp (disch:=omega) only [k0,k1,k2,k3,k4,k5,k6,em,ea,eb,q1,q2,q3,Int.toNat_zero,Int.toNat_one,go_sem])
    |((first|apply qd|apply qb);exact rvk;simp only [go_sem];first|exact VLe.refl _|apply qe|apply qa|apply qf|skip)
    |with_reducible first|apply And.intro|intro _
   all_goals try exact clz
  have q3:(1≤v)=True:=eq_true g3
  by_cases g4:v≤64
  case neg=>
   have q4:(v≤64)=False:=eq_false g4
   rw [hV (fun c=>by obtain ⟨_,_,_,w,e,_,w2,_⟩:=hF c;cases e;exact g4 w2)]
   refine acO qa2 ?_
   simp (disch:=omega) only [qcw,List.replicate,k0,k1,k2,k3,k4,k5,k6,em,ea,eb,q1,q2,q3,q4,Int.toNat_zero,Int.toNat_one,go_sem]
   repeat' first
    |(refine ql ( .str []) ?_;simp (disch:=omega) only [k0,k1,k2,k3,k4,k5,k6,em,ea,eb,q1,q2,q3,q4,Int.toNat_zero,Int.toNat_one,go_sem])
    |((first|refine cA (c180) ?_ ?_|refine cG (fun e=>c180) ?_ ?_);(next=>exact flk);simp (disch:=omega) only [k0,k1,k2,k3,k4,k5,k6,em,ea,eb,q1,q2,q3,q4,Int.toNat_zero,Int.toNat_one,go_sem])
    |((first|apply qd|apply qb);exact rvk;simp only [go_sem];first|exact VLe.refl _|apply qe|apply qa|apply qf|skip)
    |with_reducible first|apply And.intro|intro _
   all_goals try exact clz
  have q4:(v≤64)=True:=eq_true g4
  by_cases g5:s=91::(t++ [93])
  ·have q5:(s=91::(t++ [93]))=True:=eq_true g5
   have htl:t.length≤9:=by
    obtain ⟨n,rfl⟩: ∃n:Nat,v=n:=⟨v.toNat,by omega⟩
    rw [ht];exact qjH (by omega)
   rw [hM g3 g4 (by rw [←ht];exact g5)]
   refine acO qa2 ?_
   simp (disch:=omega) only [qcw,List.replicate,k0,k1,k2,k3,k4,k5,k6,em,ea,eb,q1,q2,q3,q4,q5,Int.toNat_zero,Int.toNat_one,go_sem]
   repeat' first
    |((first|refine cA (c180) ?_ ?_|refine cG (fun e=>c180) ?_ ?_|refine cA (c181) ?_ ?_|refine cG (fun e=>c181) ?_ ?_);(next=>exact flk);simp (disch:=omega) only [k0,k1,k2,k3,k4,k5,k6,em,ea,eb,q1,q2,q3,q4,q5,Int.toNat_zero,Int.toNat_one,go_sem])
    |((first|apply qd|apply qb);exact rvk;simp only [go_sem];first|exact VLe.refl _|apply qe|apply qa|apply qf|skip)
    |with_reducible first|apply And.intro|intro _
   all_goals try exact clz
  ·have q5:(s=91::(t++ [93]))=False:=eq_false g5
   have htl:t.length≤9:=by
    obtain ⟨n,rfl⟩: ∃n:Nat,v=n:=⟨v.toNat,by omega⟩
    rw [ht];exact qjH (by omega)
   rw [hV (fun c=>by obtain ⟨_,_,_,w,e,_,_,w3⟩:=hF c;cases e;exact g5 (by rw [ht];exact w3))]
   refine acO qa2 ?_
   simp (disch:=omega) only [qcw,List.replicate,k0,k1,k2,k3,k4,k5,k6,em,ea,eb,q1,q2,q3,q4,q5,Int.toNat_zero,Int.toNat_one,go_sem]
   repeat' first
    |((first|refine cA (c180) ?_ ?_|refine cG (fun e=>c180) ?_ ?_|refine cA (c181) ?_ ?_|refine cG (fun e=>c181) ?_ ?_);(next=>exact flk);simp (disch:=omega) only [k0,k1,k2,k3,k4,k5,k6,em,ea,eb,q1,q2,q3,q4,q5,Int.toNat_zero,Int.toNat_one,go_sem])
    |((first|apply qd|apply qb);exact rvk;simp only [go_sem];first|exact VLe.refl _|apply qe|apply qa|apply qf|skip)
    |with_reducible first|apply And.intro|intro _
   all_goals try exact clz
 all_goals
  rw [hA]at c180 hF
  simp only at c180
  rw [hV (fun c=>by obtain ⟨_,_,_,w,e,_⟩:=hF c;cases e)]
  refine acO qa2 ?_
  simp (disch:=omega) only [qcw,List.replicate,k0,k1,k2,k3,k4,k5,k6,em,ea,eb,q1,q2,Int.toNat_zero,Int.toNat_one,go_sem]
  repeat' first
   |(refine ql ( .str []) ?_;simp (disch:=omega) only [k0,k1,k2,k3,k4,k5,k6,em,ea,eb,q1,q2,Int.toNat_zero,Int.toNat_one,go_sem])
   |((first|refine cA (c180) ?_ ?_|refine cG (fun e=>c180) ?_ ?_);(next=>exact flk);simp (disch:=omega) only [k0,k1,k2,k3,k4,k5,k6,em,ea,eb,q1,q2,Int.toNat_zero,Int.toNat_one,go_sem])
   |((first|apply qd|apply qb);exact rvk;simp only [go_sem];first|exact VLe.refl _|apply qe|apply qa|apply qf|skip)
   |with_reducible first|apply And.intro|intro _
  all_goals try exact clz
theorem qxo: ∀f:Nat,f<32→qpZ .i64 (f:Int) 2=if f.testBit 1 then 2 else 0:=by decide+kernel
theorem qxp: ∀f:Nat,f<32→qpZ .i64 (f:Int) 8=if f.testBit 3 then 8 else 0:=by decide+kernel
theorem qs2: ∀f:Nat,f<32→qpZ .i64 (f:Int) 10=(if f.testBit 1 then 2 else 0)+if f.testBit 3 then 8 else 0:=by decide+kernel
theorem qzM (t:Tk) (f:Nat) (h:List AObj) (hf:t.flags=f) (hf2:f<32):ACalls Tryz.prog 250 [.agg (tkC t)] h (.bool (!qrd t.flags&& !mkB t.flags)) h:=by
 have e1:=qs2 f hf2
 have eg:qrd t.flags=f.testBit 1:=by unfold qrd;rw [hf,Int.toNat_natCast]
 have ek:mkB t.flags=f.testBit 3:=by unfold mkB;rw [hf,Int.toNat_natCast]
 rw [eg,ek]
 cases g1:f.testBit 1<;>cases g2:f.testBit 3<;>rw [g1,g2]at e1<;>simp only [Bool.false_eq_true,if_false,if_true,Int.add_zero,Int.zero_add]at e1
 all_goals
  refine acO quU ?_
  simp (disch:=omega) only [qtA,List.replicate,tkC,hf,e1,go_sem]
  repeat' first
   |((first|apply qd|apply qb);exact rvk;simp only [go_sem];first|exact VLe.refl _|apply qe|apply qa|apply qf|skip)
   |with_reducible first|apply And.intro|intro _
  all_goals try exact clz
structure qpT (t:Tk):Prop where
 tx:t.text.length≤1000000000
 nm:t.norm.length≤1000000000
 pg:t.page.length≤1000000000
 na:t.name.length≤1000000000
end RC
end
section
open Go Go.Proofs AF HY LN
namespace RC
set_option maxHeartbeats 16000000
theorem tkP (t:Tk) (h:List AObj) (hz:qpT t) (hp:qaZ SG h):ACalls Tryz.prog 207 [.agg (tkC t)] h (.int .i64 (tkE t)) h:=by
 obtain ⟨R,hR⟩: ∃R,R=tkE t:=⟨_,rfl⟩
 rw [←hR]
 unfold tkE at hR
 by_cases g1:t.flags<0
 ·have k1:(t.flags<0)=True:=eq_true g1
  rw [if_pos (.inl g1)]at hR
  rw [hR]
  refine acO zN ?_
  simp (disch:=omega) only [ju,List.replicate,tkC,go_sem]
  repeat' first
   |((first|apply qd|apply qb);exact rvk;simp only [go_sem];first|exact VLe.refl _|apply qe|apply qa|apply qf|skip)
   |with_reducible first|apply And.intro|intro _
  all_goals try exact clz
 have k1:(t.flags<0)=False:=eq_false g1
 by_cases g2:31<t.flags
 ·have k2:((31:Int)<t.flags)=True:=eq_true g2
  rw [if_pos (.inr g2)]at hR
  rw [hR]
  refine acO zN ?_
  simp (disch:=omega) only [ju,List.replicate,tkC,go_sem]
  repeat' first
   |((first|apply qd|apply qb);exact rvk;simp only [go_sem];first|exact VLe.refl _|apply qe|apply qa|apply qf|skip)
   |with_reducible first|apply And.intro|intro _
  all_goals try exact clz
 have k2:((31:Int)<t.flags)=False:=eq_false g2
 rw [if_neg (by omega)]at hR
 obtain ⟨f,hf⟩: ∃f:Nat,t.flags=(f:Int):=⟨t.flags.toNat,by omega⟩
 have hf2:f<32:=by omega
 have e2:=qxo f hf2
 have e8:=qxp f hf2
 have eg:qrd t.flags=f.testBit 1:=by unfold qrd;rw [hf,Int.toNat_natCast]
 have ek:mkB t.flags=f.testBit 3:=by unfold mkB;rw [hf,Int.toNat_natCast]
 have cI:=fun h=>qzM t f h hf hf2
 have cP:=fun l=>qy3 t.page (h++l) hz.pg
 have cM:=fun l=>qy3 t.name (h++l) hz.na
 have hG:=fun l=>qzF t.text (h++l) hz.tx (hp.app l)
 have cK:=fun l=>qzP t.text (h++l) hz.tx
 have cW:=fun l=>t88 t.text (h++l) hz.tx
 have cN:=fun l=>qx5 t.norm (h++l) hz.nm
 unfold txB at hR
 rw [eg,ek]at hR cI
 obtain ⟨bp,hbp⟩: ∃b,b=qsP t.page:=⟨_,rfl⟩
 obtain ⟨bm,hbm⟩: ∃b,b=qsP t.name:=⟨_,rfl⟩
 obtain ⟨bg,hbg⟩: ∃b,b=qng t.text:=⟨_,rfl⟩
 obtain ⟨bk,hbk⟩: ∃b,b=qxg t.text:=⟨_,rfl⟩
 obtain ⟨bw,hbw⟩: ∃b,b=kY t.text:=⟨_,rfl⟩
 obtain ⟨bn,hbn⟩: ∃b,b=qvI t.norm:=⟨_,rfl⟩
 rw [←hbp,←hbm,←hbg,←hbk,←hbw,←hbn]at hR
 simp only [←hbp]at cP
 simp only [←hbm]at cM
 simp only [←hbg]at hG
 simp only [←hbk]at cK
 simp only [←hbw]at cW
 simp only [←hbn]at cN
 unfold tkC at cI
 rw [hf]at cI k1 k2
 cases ga:f.testBit 1<;>cases gb:f.testBit 3<;>rw [ga]at e2 hR cI<;>rw [gb]at e8 hR cI<;>simp only [Bool.false_eq_true,if_true,if_false,and_true,and_false,Bool.not_false,Bool.not_true,Bool.and_false,Bool.and_true]at e2 e8 hR cI
 ·cases bw with
  |false=>
   rw [Bool.false_and,if_pos rfl]at hR
   rw [hR]
   refine acO zN ?_
   simp (disch:=omega) only [ju,List.replicate,tkC,hf,k1,k2,e2,e8,go_sem]
   repeat' first
    |(refine qx (cW _) ?_;simp (disch:=omega) only [tkC,hf,k1,k2,e2,e8,go_sem])
    |((first|apply qd|apply qb);exact rvk;simp only [go_sem];first|exact VLe.refl _|apply qe|apply qa|apply qf|skip)
    |with_reducible first|apply And.intro|intro _
   all_goals try exact clz
  |true=>
  rw [Bool.true_and]at hR
  cases bn with
  |false=>
   rw [if_pos rfl]at hR
   rw [hR]
   refine acO zN ?_
   simp (disch:=omega) only [ju,List.replicate,tkC,hf,k1,k2,e2,e8,go_sem]
   repeat' first
    |(refine qx (cW _) ?_;simp (disch:=omega) only [tkC,hf,k1,k2,e2,e8,go_sem])
    |((first|refine cA (cI _) ?_ ?_|refine cG (fun e=>cI _) ?_ ?_|refine cA (cN _) ?_ ?_|refine cG (fun e=>cN _) ?_ ?_|refine cU (fun _=>cI _) ?_ ?_|refine cU (fun _=>cN _) ?_ ?_);(next=>exact flk);simp (disch:=omega) only [tkC,hf,k1,k2,e2,e8,go_sem])
    |((first|apply qd|apply qb);exact rvk;simp only [go_sem];first|exact VLe.refl _|apply qe|apply qa|apply qf|skip)
    |with_reducible first|apply And.intro|intro _
   all_goals try exact clz
  |true=>
   rw [if_neg (by simp)]at hR
   by_cases g4:t.line<0
   ·have k4:(t.line<0)=True:=eq_true g4
    rw [if_pos g4]at hR
    rw [hR]
    refine acO zN ?_
    simp (disch:=omega) only [ju,List.replicate,tkC,hf,k1,k2,e2,e8,k4,go_sem]
    repeat' first
     |(refine qx (cW _) ?_;simp (disch:=omega) only [tkC,hf,k1,k2,e2,e8,k4,go_sem])
     |((first|refine cA (cI _) ?_ ?_|refine cG (fun e=>cI _) ?_ ?_|refine cA (cN _) ?_ ?_|refine cG (fun e=>cN _) ?_ ?_|refine cA (cI _) ?_ ?_|refine cG (fun e=>cI _) ?_ ?_|refine cU (fun _=>cI _) ?_ ?_|refine cU (fun _=>cN _) ?_ ?_|refine cU (fun _=>cI _) ?_ ?_);(next=>exact flk);simp (disch:=omega) only [tkC,hf,k1,k2,e2,e8,k4,go_sem])
     |((first|apply qd|apply qb);exact rvk;simp only [go_sem];first|exact VLe.refl _|apply qe|apply qa|apply qf|skip)
     |with_reducible first|apply And.intro|intro _
    all_goals try exact clz
   have k4:(t.line<0)=False:=eq_false g4
   rw [if_neg g4]at hR
   cases bp with
   |false=>
    rw [if_pos (.inl rfl)]at hR
    rw [hR]
    refine acO zN ?_
    simp (disch:=omega) only [ju,List.replicate,tkC,hf,k1,k2,e2,e8,k4,go_sem]
    repeat' first
     |(refine qx (cW _) ?_;simp (disch:=omega) only [tkC,hf,k1,k2,e2,e8,k4,go_sem])
     |(refine ql ( .bool false) ?_;simp (disch:=omega) only [tkC,hf,k1,k2,e2,e8,k4,go_sem])
     |((first|refine cA (cI _) ?_ ?_|refine cG (fun e=>cI _) ?_ ?_|refine cA (cN _) ?_ ?_|refine cG (fun e=>cN _) ?_ ?_|refine cA (cI _) ?_ ?_|refine cG (fun e=>cI _) ?_ ?_|refine cA (cP _) ?_ ?_|refine cG (fun e=>cP _) ?_ ?_|refine cU (fun _=>cI _) ?_ ?_|refine cU (fun _=>cN _) ?_ ?_|refine cU (fun _=>cI _) ?_ ?_|refine cU (fun _=>cP _) ?_ ?_);(next=>exact flk);simp (disch:=omega) only [tkC,hf,k1,k2,e2,e8,k4,go_sem])
     |((first|apply qd|apply qb);exact rvk;simp only [go_sem];first|exact VLe.refl _|apply qe|apply qa|apply qf|skip)
     |with_reducible first|apply And.intro|intro _
    all_goals try exact clz
   |true=>
   cases bm with
   |false=>
    rw [if_pos (.inr rfl)]at hR
    rw [hR]
    refine acO zN ?_
    simp (disch:=omega) only [ju,List.replicate,tkC,hf,k1,k2,e2,e8,k4,go_sem]
    repeat' first
     |(refine qx (cW _) ?_;simp (disch:=omega) only [tkC,hf,k1,k2,e2,e8,k4,go_sem])
     |((first|refine cA (cI _) ?_ ?_|refine cG (fun e=>cI _) ?_ ?_|refine cA (cN _) ?_ ?_|refine cG (fun e=>cN _) ?_ ?_|refine cA (cI _) ?_ ?_|refine cG (fun e=>cI _) ?_ ?_|refine cA (cP _) ?_ ?_|refine cG (fun e=>cP _) ?_ ?_|refine cA (cM _) ?_ ?_|refine cG (fun e=>cM _) ?_ ?_|refine cU (fun _=>cI _) ?_ ?_|refine cU (fun _=>cN _) ?_ ?_|refine cU (fun _=>cI _) ?_ ?_|refine cU (fun _=>cP _) ?_ ?_|refine cU (fun _=>cM _) ?_ ?_);(next=>exact flk);simp (disch:=omega) only [tkC,hf,k1,k2,e2,e8,k4,go_sem])
     |((first|apply qd|apply qb);exact rvk;simp only [go_sem];first|exact VLe.refl _|apply qe|apply qa|apply qf|skip)
     |with_reducible first|apply And.intro|intro _
    all_goals try exact clz
   |true=>
    rw [if_neg (by simp)]at hR
    rw [hR]
    refine acO zN ?_
    simp (disch:=omega) only [ju,List.replicate,tkC,hf,k1,k2,e2,e8,k4,go_sem]
    repeat' first
     |(refine qx (cW _) ?_;simp (disch:=omega) only [tkC,hf,k1,k2,e2,e8,k4,go_sem])
     |((first|refine cA (cI _) ?_ ?_|refine cG (fun e=>cI _) ?_ ?_|refine cA (cN _) ?_ ?_|refine cG (fun e=>cN _) ?_ ?_|refine cA (cI _) ?_ ?_|refine cG (fun e=>cI _) ?_ ?_|refine cA (cP _) ?_ ?_|refine cG (fun e=>cP _) ?_ ?_|refine cA (cM _) ?_ ?_|refine cG (fun e=>cM _) ?_ ?_|refine cU (fun _=>cI _) ?_ ?_|refine cU (fun _=>cN _) ?_ ?_|refine cU (fun _=>cI _) ?_ ?_|refine cU (fun _=>cP _) ?_ ?_|refine cU (fun _=>cM _) ?_ ?_);(next=>exact flk);simp (disch:=omega) only [tkC,hf,k1,k2,e2,e8,k4,go_sem])
     |((first|apply qd|apply qb);exact rvk;simp only [go_sem];first|exact VLe.refl _|apply qe|apply qa|apply qf|skip)
     |with_reducible first|apply And.intro|intro _
    all_goals try exact clz
 ·cases bk with
  |false=>
   rw [Bool.false_and,if_pos rfl]at hR
   rw [hR]
   refine acO zN ?_
   simp (disch:=omega) only [ju,List.replicate,tkC,hf,k1,k2,e2,e8,go_sem]
   repeat' first
    |(refine qx (cK _) ?_;simp (disch:=omega) only [tkC,hf,k1,k2,e2,e8,go_sem])
    |((first|apply qd|apply qb);exact rvk;simp only [go_sem];first|exact VLe.refl _|apply qe|apply qa|apply qf|skip)
    |with_reducible first|apply And.intro|intro _
   all_goals try exact clz
  |true=>
  rw [Bool.true_and]at hR
  by_cases g3:t.norm=t.text
  ·have k3:(t.norm=t.text)=True:=eq_true g3
   rw [decide_eq_true g3,if_neg (by simp)]at hR
   by_cases g4:t.line<0
   ·have k4:(t.line<0)=True:=eq_true g4
    rw [if_pos g4]at hR
    rw [hR]
    refine acO zN ?_
    simp (disch:=omega) only [ju,List.replicate,tkC,hf,k1,k2,e2,e8,k3,k4,go_sem]
    repeat' first
     |(refine qx (cK _) ?_;simp (disch:=omega) only [tkC,hf,k1,k2,e2,e8,k3,k4,go_sem])
     |(refine ql ( .bool false) ?_;simp (disch:=omega) only [tkC,hf,k1,k2,e2,e8,k3,k4,go_sem])
     |((first|refine cA (cI _) ?_ ?_|refine cG (fun e=>cI _) ?_ ?_|refine cA (cI _) ?_ ?_|refine cG (fun e=>cI _) ?_ ?_|refine cU (fun _=>cI _) ?_ ?_|refine cU (fun _=>cI _) ?_ ?_);(next=>exact flk);simp (disch:=omega) only [tkC,hf,k1,k2,e2,e8,k3,k4,go_sem])
     |((first|apply qd|apply qb);exact rvk;simp only [go_sem];first|exact VLe.refl _|apply qe|apply qa|apply qf|skip)
     |with_reducible first|apply And.intro|intro _
    all_goals try exact clz
   have k4:(t.line<0)=False:=eq_false g4
   rw [if_neg g4]at hR
   cases bp with
   |false=>
    rw [if_pos (.inl rfl)]at hR
    rw [hR]
    refine acO zN ?_
    simp (disch:=omega) only [ju,List.replicate,tkC,hf,k1,k2,e2,e8,k3,k4,go_sem]
    repeat' first
     |(refine qx (cK _) ?_;simp (disch:=omega) only [tkC,hf,k1,k2,e2,e8,k3,k4,go_sem])
     |(refine ql ( .bool false) ?_;simp (disch:=omega) only [tkC,hf,k1,k2,e2,e8,k3,k4,go_sem])
     |(refine ql ( .bool false) ?_;simp (disch:=omega) only [tkC,hf,k1,k2,e2,e8,k3,k4,go_sem])
     |((first|refine cA (cI _) ?_ ?_|refine cG (fun e=>cI _) ?_ ?_|refine cA (cI _) ?_ ?_|refine cG (fun e=>cI _) ?_ ?_|refine cA (cP _) ?_ ?_|refine cG (fun e=>cP _) ?_ ?_|refine cU (fun _=>cI _) ?_ ?_|refine cU (fun _=>cI _) ?_ ?_|refine cU (fun _=>cP _) ?_ ?_);(next=>exact flk);simp (disch:=omega) only [tkC,hf,k1,k2,e2,e8,k3,k4,go_sem])
     |((first|apply qd|apply qb);exact rvk;simp only [go_sem];first|exact VLe.refl _|apply qe|apply qa|apply qf|skip)
     |with_reducible first|apply And.intro|intro _
    all_goals try exact clz
   |true=>
   cases bm with
   |false=>
    rw [if_pos (.inr rfl)]at hR
    rw [hR]
    refine acO zN ?_
    simp (disch:=omega) only [ju,List.replicate,tkC,hf,k1,k2,e2,e8,k3,k4,go_sem]
    repeat' first
     |(refine qx (cK _) ?_;simp (disch:=omega) only [tkC,hf,k1,k2,e2,e8,k3,k4,go_sem])
     |(refine ql ( .bool false) ?_;simp (disch:=omega) only [tkC,hf,k1,k2,e2,e8,k3,k4,go_sem])
     |((first|refine cA (cI _) ?_ ?_|refine cG (fun e=>cI _) ?_ ?_|refine cA (cI _) ?_ ?_|refine cG (fun e=>cI _) ?_ ?_|refine cA (cP _) ?_ ?_|refine cG (fun e=>cP _) ?_ ?_|refine cA (cM _) ?_ ?_|refine cG (fun e=>cM _) ?_ ?_|refine cU (fun _=>cI _) ?_ ?_|refine cU (fun _=>cI _) ?_ ?_|refine cU (fun _=>cP _) ?_ ?_|refine cU (fun _=>cM _) ?_ ?_);(next=>exact flk);simp (disch:=omega) only [tkC,hf,k1,k2,e2,e8,k3,k4,go_sem])
     |((first|apply qd|apply qb);exact rvk;simp only [go_sem];first|exact VLe.refl _|apply qe|apply qa|apply qf|skip)
     |with_reducible first|apply And.intro|intro _
    all_goals try exact clz
   |true=>
    rw [if_neg (by simp)]at hR
    rw [hR]
    refine acO zN ?_
    simp (disch:=omega) only [ju,List.replicate,tkC,hf,k1,k2,e2,e8,k3,k4,go_sem]
    repeat' first
     |(refine qx (cK _) ?_;simp (disch:=omega) only [tkC,hf,k1,k2,e2,e8,k3,k4,go_sem])
     |(refine ql ( .bool false) ?_;simp (disch:=omega) only [tkC,hf,k1,k2,e2,e8,k3,k4,go_sem])
     |((first|refine cA (cI _) ?_ ?_|refine cG (fun e=>cI _) ?_ ?_|refine cA (cI _) ?_ ?_|refine cG (fun e=>cI _) ?_ ?_|refine cA (cP _) ?_ ?_|refine cG (fun e=>cP _) ?_ ?_|refine cA (cM _) ?_ ?_|refine cG (fun e=>cM _) ?_ ?_|refine cU (fun _=>cI _) ?_ ?_|refine cU (fun _=>cI _) ?_ ?_|refine cU (fun _=>cP _) ?_ ?_|refine cU (fun _=>cM _) ?_ ?_);(next=>exact flk);simp (disch:=omega) only [tkC,hf,k1,k2,e2,e8,k3,k4,go_sem])
     |((first|apply qd|apply qb);exact rvk;simp only [go_sem];first|exact VLe.refl _|apply qe|apply qa|apply qf|skip)
     |with_reducible first|apply And.intro|intro _
    all_goals try exact clz
  ·have k3:(t.norm=t.text)=False:=eq_false g3
   rw [decide_eq_false g3,if_pos rfl]at hR
   rw [hR]
   refine acO zN ?_
   simp (disch:=omega) only [ju,List.replicate,tkC,hf,k1,k2,e2,e8,k3,go_sem]
   repeat' first
    |(refine qx (cK _) ?_;simp (disch:=omega) only [tkC,hf,k1,k2,e2,e8,k3,go_sem])
    |(refine ql ( .bool false) ?_;simp (disch:=omega) only [tkC,hf,k1,k2,e2,e8,k3,go_sem])
    |((first|refine cA (cI _) ?_ ?_|refine cG (fun e=>cI _) ?_ ?_|refine cA (cI _) ?_ ?_|refine cG (fun e=>cI _) ?_ ?_|refine cU (fun _=>cI _) ?_ ?_|refine cU (fun _=>cI _) ?_ ?_);(next=>exact flk);simp (disch:=omega) only [tkC,hf,k1,k2,e2,e8,k3,go_sem])
    |((first|apply qd|apply qb);exact rvk;simp only [go_sem];first|exact VLe.refl _|apply qe|apply qa|apply qf|skip)
    |with_reducible first|apply And.intro|intro _
   all_goals try exact clz
 ·cases bg with
  |false=>
   rw [Bool.false_and,if_pos rfl]at hR
   rw [hR]
   refine acO zN ?_
   simp (disch:=omega) only [ju,List.replicate,tkC,hf,k1,k2,e2,e8,go_sem]
   repeat' first
    |(refine qx (hG _) ?_;simp (disch:=omega) only [tkC,hf,k1,k2,e2,e8,go_sem])
    |((first|apply qd|apply qb);exact rvk;simp only [go_sem];first|exact VLe.refl _|apply qe|apply qa|apply qf|skip)
    |with_reducible first|apply And.intro|intro _
   all_goals try exact clz
  |true=>
  rw [Bool.true_and]at hR
  by_cases g3:t.norm=t.text
  ·have k3:(t.norm=t.text)=True:=eq_true g3
   rw [decide_eq_true g3,if_neg (by simp)]at hR
   by_cases g4:t.line<0
   ·have k4:(t.line<0)=True:=eq_true g4
    rw [if_pos g4]at hR
    rw [hR]
    refine acO zN ?_
    simp (disch:=omega) only [ju,List.replicate,tkC,hf,k1,k2,e2,e8,k3,k4,go_sem]
    repeat' first
     |(refine qx (hG _) ?_;simp (disch:=omega) only [tkC,hf,k1,k2,e2,e8,k3,k4,go_sem])
     |(refine ql ( .bool false) ?_;simp (disch:=omega) only [tkC,hf,k1,k2,e2,e8,k3,k4,go_sem])
     |((first|refine cA (cI _) ?_ ?_|refine cG (fun e=>cI _) ?_ ?_|refine cA (cI _) ?_ ?_|refine cG (fun e=>cI _) ?_ ?_|refine cU (fun _=>cI _) ?_ ?_|refine cU (fun _=>cI _) ?_ ?_);(next=>exact flk);simp (disch:=omega) only [tkC,hf,k1,k2,e2,e8,k3,k4,go_sem])
     |((first|apply qd|apply qb);exact rvk;simp only [go_sem];first|exact VLe.refl _|apply qe|apply qa|apply qf|skip)
     |with_reducible first|apply And.intro|intro _
    all_goals try exact clz
   have k4:(t.line<0)=False:=eq_false g4
   rw [if_neg g4]at hR
   cases bp with
   |false=>
    rw [if_pos (.inl rfl)]at hR
    rw [hR]
    refine acO zN ?_
    simp (disch:=omega) only [ju,List.replicate,tkC,hf,k1,k2,e2,e8,k3,k4,go_sem]
    repeat' first
     |(refine qx (hG _) ?_;simp (disch:=omega) only [tkC,hf,k1,k2,e2,e8,k3,k4,go_sem])
     |(refine ql ( .bool false) ?_;simp (disch:=omega) only [tkC,hf,k1,k2,e2,e8,k3,k4,go_sem])
     |(refine ql ( .bool false) ?_;simp (disch:=omega) only [tkC,hf,k1,k2,e2,e8,k3,k4,go_sem])
     |((first|refine cA (cI _) ?_ ?_|refine cG (fun e=>cI _) ?_ ?_|refine cA (cI _) ?_ ?_|refine cG (fun e=>cI _) ?_ ?_|refine cA (cP _) ?_ ?_|refine cG (fun e=>cP _) ?_ ?_|refine cU (fun _=>cI _) ?_ ?_|refine cU (fun _=>cI _) ?_ ?_|refine cU (fun _=>cP _) ?_ ?_);(next=>exact flk);simp (disch:=omega) only [tkC,hf,k1,k2,e2,e8,k3,k4,go_sem])
     |((first|apply qd|apply qb);exact rvk;simp only [go_sem];first|exact VLe.refl _|apply qe|apply qa|apply qf|skip)
     |with_reducible first|apply And.intro|intro _
    all_goals try exact clz
   |true=>
   cases bm with
   |false=>
    rw [if_pos (.inr rfl)]at hR
    rw [hR]
    refine acO zN ?_
    simp (disch:=omega) only [ju,List.replicate,tkC,hf,k1,k2,e2,e8,k3,k4,go_sem]
    repeat' first
     |(refine qx (hG _) ?_;simp (disch:=omega) only [tkC,hf,k1,k2,e2,e8,k3,k4,go_sem])
     |(refine ql ( .bool false) ?_;simp (disch:=omega) only [tkC,hf,k1,k2,e2,e8,k3,k4,go_sem])
     |((first|refine cA (cI _) ?_ ?_|refine cG (fun e=>cI _) ?_ ?_|refine cA (cI _) ?_ ?_|refine cG (fun e=>cI _) ?_ ?_|refine cA (cP _) ?_ ?_|refine cG (fun e=>cP _) ?_ ?_|refine cA (cM _) ?_ ?_|refine cG (fun e=>cM _) ?_ ?_|refine cU (fun _=>cI _) ?_ ?_|refine cU (fun _=>cI _) ?_ ?_|refine cU (fun _=>cP _) ?_ ?_|refine cU (fun _=>cM _) ?_ ?_);(next=>exact flk);simp (disch:=omega) only [tkC,hf,k1,k2,e2,e8,k3,k4,go_sem])
     |((first|apply qd|apply qb);exact rvk;simp only [go_sem];first|exact VLe.refl _|apply qe|apply qa|apply qf|skip)
     |with_reducible first|apply And.intro|intro _
    all_goals try exact clz
   |true=>
    rw [if_neg (by simp)]at hR
    rw [hR]
    refine acO zN ?_
    simp (disch:=omega) only [ju,List.replicate,tkC,hf,k1,k2,e2,e8,k3,k4,go_sem]
    repeat' first
     |(refine qx (hG _) ?_;simp (disch:=omega) only [tkC,hf,k1,k2,e2,e8,k3,k4,go_sem])
     |(refine ql ( .bool false) ?_;simp (disch:=omega) only [tkC,hf,k1,k2,e2,e8,k3,k4,go_sem])
     |((first|refine cA (cI _) ?_ ?_|refine cG (fun e=>cI _) ?_ ?_|refine cA (cI _) ?_ ?_|refine cG (fun e=>cI _) ?_ ?_|refine cA (cP _) ?_ ?_|refine cG (fun e=>cP _) ?_ ?_|refine cA (cM _) ?_ ?_|refine cG (fun e=>cM _) ?_ ?_|refine cU (fun _=>cI _) ?_ ?_|refine cU (fun _=>cI _) ?_ ?_|refine cU (fun _=>cP _) ?_ ?_|refine cU (fun _=>cM _) ?_ ?_);(next=>exact flk);simp (disch:=omega) only [tkC,hf,k1,k2,e2,e8,k3,k4,go_sem])
     |((first|apply qd|apply qb);exact rvk;simp only [go_sem];first|exact VLe.refl _|apply qe|apply qa|apply qf|skip)
     |with_reducible first|apply And.intro|intro _
    all_goals try exact clz
  ·have k3:(t.norm=t.text)=False:=eq_false g3
   rw [decide_eq_false g3,if_pos rfl]at hR
   rw [hR]
   refine acO zN ?_
   simp (disch:=omega) only [ju,List.replicate,tkC,hf,k1,k2,e2,e8,k3,go_sem]
   repeat' first
    |(refine qx (hG _) ?_;simp (disch:=omega) only [tkC,hf,k1,k2,e2,e8,k3,go_sem])
    |(refine ql ( .bool false) ?_;simp (disch:=omega) only [tkC,hf,k1,k2,e2,e8,k3,go_sem])
    |((first|refine cA (cI _) ?_ ?_|refine cG (fun e=>cI _) ?_ ?_|refine cA (cI _) ?_ ?_|refine cG (fun e=>cI _) ?_ ?_|refine cU (fun _=>cI _) ?_ ?_|refine cU (fun _=>cI _) ?_ ?_);(next=>exact flk);simp (disch:=omega) only [tkC,hf,k1,k2,e2,e8,k3,go_sem])
    |((first|apply qd|apply qb);exact rvk;simp only [go_sem];first|exact VLe.refl _|apply qe|apply qa|apply qf|skip)
    |with_reducible first|apply And.intro|intro _
   all_goals try exact clz
 ·rw [hR]
  refine acO zN ?_
  simp (disch:=omega) only [ju,List.replicate,tkC,hf,k1,k2,e2,e8,go_sem]
  repeat' first
   |((first|apply qd|apply qb);exact rvk;simp only [go_sem];first|exact VLe.refl _|apply qe|apply qa|apply qf|skip)
   |with_reducible first|apply And.intro|intro _
  all_goals try exact clz
end RC
end
section
open Go Go.Proofs AF
def jH:List Nat:= []
theorem qxO:qL Tryz.prog 54 9 0 [RV.tmp 4] (cCT 128):=fi Tryz.f54 [] jH [] (by kernel_rfl) (by kernel_rfl) (by kernel_rfl) (by kernel_rfl)
theorem qvi:qL Tryz.prog 92 9 0 [RV.tmp 4] (cCT 106):=fi Tryz.f92 [] jH [] (by kernel_rfl) (by kernel_rfl) (by kernel_rfl) (by kernel_rfl)
theorem qpg:qL Tryz.prog 106 19 0 [RV.tmp 4] (cIF 7 (some 7)):=fi Tryz.f106 [] jH [] (by kernel_rfl) (by kernel_rfl) (by kernel_rfl) (by kernel_rfl)
theorem qpl:qL Tryz.prog 127 19 0 [RV.tmp 4] (cIF 2 (some 2)):=fi Tryz.f127 [] jH [] (by kernel_rfl) (by kernel_rfl) (by kernel_rfl) (by kernel_rfl)
theorem qpm:qL Tryz.prog 128 19 0 [RV.tmp 4] (cIF 3 (some 3)):=fi Tryz.f128 [] jH [] (by kernel_rfl) (by kernel_rfl) (by kernel_rfl) (by kernel_rfl)
theorem quH:qL Tryz.prog 205 9 0 [RV.tmp 4] (cCT 246):=fi Tryz.f205 [] jH [] (by kernel_rfl) (by kernel_rfl) (by kernel_rfl) (by kernel_rfl)
theorem quT:qL Tryz.prog 246 19 0 [RV.tmp 4] (cIF 6 (some 6)):=fi Tryz.f246 [] jH [] (by kernel_rfl) (by kernel_rfl) (by kernel_rfl) (by kernel_rfl)
theorem quW:qL Tryz.prog 253 9 0 [RV.tmp 4] (cCT 293):=fi Tryz.f253 [] jH [] (by kernel_rfl) (by kernel_rfl) (by kernel_rfl) (by kernel_rfl)
def qqk:C:=
 ((C.ops [MC 6 (.bool false)]).seq (((C.ops [MV 10 0,O1 11 .len 10,MV 12 1,O1 13 .len 12,BI 14 .neq 11 13]).seq (C.cond (.t 14) ((C.ops [MC 6 (.bool false)]).seq C.ret)
 C.skip)).seq (((C.ops [MV 15 0,O1 16 .len 15,MC 17 (i6 0)]).seq (C.block 0 ((C.ops [BI 18 .lss 17 16]).seq ((C.cond (.t 18) C.skip (C.exit 0)).seq ((C.block 1 ((C.ops [MV 19 17,
 O2 20 (.idxA 2) 15 17,O1 21 (.load (some 2)) 20,⟨some 8,none,.alloc 0 89 [.nl,.nl],[]⟩,MV 7 19,ST 2 8 21]).seq ((C.ops [MV 22 1,MV 23 7,O2 24 (.idxA 2) 22 23,O1 25
 (.load (some 2)) 24,⟨some 9,none,.alloc 1 89 [.nl,.nl],[]⟩,ST 2 9 25]).seq ((C.ops [MV 26 2,O1 27 (.load (some 2)) 8,O1 28 (.load (some 2)) 9,ON 29 .callv [.t 26,.t 27,
 .t 28],O1 30 (.un UnOp.not) 29]).seq (C.cond (.t 30) ((C.ops [MC 6 (.bool false)]).seq C.ret) C.skip))))).seq (C.ops [BC 31 .add 17 (i6 1),MV 17 31])))).loop)).seq ((C.ops [MC 6
 (.bool true)]).seq
 C.ret))))
theorem qpu:qL Tryz.prog 272 32 2 [RV.tmp 6] qqk:=fi Tryz.f272 [8,9] jH [] (by kernel_rfl) (by kernel_rfl) (by kernel_rfl) (by kernel_rfl)
theorem qu7:qL Tryz.prog 293 19 0 [RV.tmp 4] (cIF 1 none):=fi Tryz.f293 [] jH [] (by kernel_rfl) (by kernel_rfl) (by kernel_rfl) (by kernel_rfl)
end
section
open Go Go.Proofs AF HY LN
namespace RC
set_option maxHeartbeats 8000000
structure qsL (x:Co):Prop where
 sc:x.sec.length≤1000000000
 sg:x.sig.length≤1000000000
 ss: ∀i,(x.sig.getD i []).length≤1000000000
 tk:x.tok.length≤1000000000
 tl: ∀i,(x.tok.getD i []).length≤1000000000
 te: ∀i j,qpT ((x.tok.getD i []).getD j default)
 cl:x.col.length≤1000000000
 ce: ∀i,(x.col.getD i []).length≤1000000000
theorem qyd (s:Str) (h:List AObj) (hs:s.length≤1000000000):ACalls Tryz.prog 204 [.str s] h (.bool (qol s)) h:=by
 have c1:=fun h=>qpe s h hs
 unfold qol
 cases g:qfF s with
 |true=>
  rw [g]at c1
  simp only [if_true]at c1
  have c2:=fun h=>t44 (s.take (s.length-1)) h (by simp;omega)
  rw [if_pos rfl]
  cases g2:jb (s.take (s.length-1))with
  |true=>
   rw [g2]at c2
   have k7:decide ((s.length:Int)≤16)=decide (s.length≤16):=decide_eq_decide.2 (by omega)
   refine acO qfe ?_
   simp (disch:=omega) only [qiv,List.replicate,go_sem]
   repeat' first
    |((first|refine cA (c1 _) ?_ ?_|refine cG (fun e=>c1 _) ?_ ?_|refine cA (c2 _) ?_ ?_|refine cG (fun e=>c2 _) ?_ ?_|refine cU (fun _=>c1 _) ?_ ?_|refine cU (fun _=>c2 _) ?_ ?_);(next=>exact flk);simp (disch:=omega) only [k7,go_sem])
    |((first|apply qd|apply qb);exact rvk;simp only [go_sem];first|exact VLe.refl _|apply qe|apply qa|apply qf|skip)
    |with_reducible first|apply And.intro|intro _
   all_goals try exact clz
  |false=>
   rw [g2]at c2
   refine acO qfe ?_
   simp (disch:=omega) only [qiv,List.replicate,go_sem]
   repeat' first
    |((first|refine cA (c1 _) ?_ ?_|refine cG (fun e=>c1 _) ?_ ?_|refine cA (c2 _) ?_ ?_|refine cG (fun e=>c2 _) ?_ ?_|refine cU (fun _=>c1 _) ?_ ?_|refine cU (fun _=>c2 _) ?_ ?_);(next=>exact flk);simp (disch:=omega) only [go_sem])
    |((first|apply qd|apply qb);exact rvk;simp only [go_sem];first|exact VLe.refl _|apply qe|apply qa|apply qf|skip)
    |with_reducible first|apply And.intro|intro _
   all_goals try exact clz
 |false=>
  rw [g]at c1
  rw [if_neg (by simp)]at c1 ⊢
  have c2:=fun h=>t44 s h hs
  cases g2:jb s with
  |true=>
   rw [g2]at c2
   refine acO qfe ?_
   simp (disch:=omega) only [qiv,List.replicate,go_sem]
   repeat' first
    |((first|refine cA (c1 _) ?_ ?_|refine cG (fun e=>c1 _) ?_ ?_|refine cA (c2 _) ?_ ?_|refine cG (fun e=>c2 _) ?_ ?_|refine cU (fun _=>c1 _) ?_ ?_|refine cU (fun _=>c2 _) ?_ ?_);(next=>exact flk);simp (disch:=omega) only [go_sem])
    |((first|apply qd|apply qb);exact rvk;simp only [go_sem];first|exact VLe.refl _|apply qe|apply qa|apply qf|skip)
    |with_reducible first|apply And.intro|intro _
   all_goals try exact clz
  |false=>
   rw [g2]at c2
   refine acO qfe ?_
   simp (disch:=omega) only [qiv,List.replicate,go_sem]
   repeat' first
    |((first|refine cA (c1 _) ?_ ?_|refine cG (fun e=>c1 _) ?_ ?_|refine cA (c2 _) ?_ ?_|refine cG (fun e=>c2 _) ?_ ?_|refine cU (fun _=>c1 _) ?_ ?_|refine cU (fun _=>c2 _) ?_ ?_);(next=>exact flk);simp (disch:=omega) only [go_sem])
    |((first|apply qd|apply qb);exact rvk;simp only [go_sem];first|exact VLe.refl _|apply qe|apply qa|apply qf|skip)
    |with_reducible first|apply And.intro|intro _
   all_goals try exact clz
theorem qz2 (t:Tk) (h:List AObj) (hz:qpT t) (hp:qaZ SG h):ACalls Tryz.prog 206 [.agg (tkC t)] h (.bool (!decide (tkE t=0))) h:=by
 have c1:=fun l=>tkP t (h++l) hz (hp.app l)
 obtain ⟨e,he⟩: ∃e,e=tkE t:=⟨_,rfl⟩
 rw [←he]at c1 ⊢
 unfold tkC at c1
 refine acO quI ?_
 simp (disch:=omega) only [qtp,List.replicate,tkC,go_sem]
 repeat' first
  |((first|refine cA (c1 _) ?_ ?_|refine cG (fun e=>c1 _) ?_ ?_|refine cU (fun _=>c1 _) ?_ ?_);(next=>exact flk);simp (disch:=omega) only [tkC,go_sem])
  |((first|apply qd|apply qb);exact rvk;simp only [go_sem];first|exact VLe.refl _|apply qe|apply qa|apply qf|skip)
  |with_reducible first|apply And.intro|intro _
 all_goals try exact clz
theorem qzs (l:List Tk) (h:List AObj) (hl:l.length≤1000000000) (hz: ∀j,qpT (l.getD j default)) (hp:qaZ SG h):
  ACalls Tryz.prog 205 [qaB l,.fn (.func 206) [] []] h (.bool (zr (fun j=> !decide (tkE (l.getD j default)=0)) l.length)) h:=by
 unfold qaB
 refine qqA quH ⟨rfl,rfl⟩ ⟨rfl,rfl⟩ (qcD quT l.length (fun j=>tkC (l.getD j default)) (fun j=> .agg (tkC (l.getD j default))) _ [] [] _ h (fun i _=>⟨rfl,by simp [z7,tkC],rfl,rfl,rfl⟩) (fun i _=> ?_) (by omega))
 exact qz2 _ h (hz i) hp
theorem qz3 (x:Co) (h:List AObj) (hz:qsL x) (hp:qaZ SG h):ACalls Tryz.prog 152 [.str x.sec,strs x.sig,qA x.tok] h (.int .i64 (srE x)) h:=by
 obtain ⟨R,hR⟩: ∃R,R=srE x:=⟨_,rfl⟩
 rw [←hR]
 unfold srE at hR
 have z1:=hz.sg
 have z2:=hz.tk
 have cN:=fun h=>t44 x.sec h hz.sc
 cases g0:jb x.sec with
 |false=>
  rw [g0]at cN
  rw [if_pos g0]at hR
  rw [hR]
  refine acO qfb ?_
  simp (disch:=omega) only [qis,List.replicate,strs,qA,go_sem]
  repeat' first
   |((first|refine cA (cN _) ?_ ?_|refine cG (fun e=>cN _) ?_ ?_|refine cU (fun _=>cN _) ?_ ?_);(next=>exact flk);simp (disch:=omega) only [strs,qA,go_sem])
   |((first|apply qd|apply qb);exact rvk;simp only [go_sem];first|exact VLe.refl _|apply qe|apply qa|apply qf|skip)
   |with_reducible first|apply And.intro|intro _
  all_goals try exact clz
 |true=>
 rw [g0]at cN
 rw [if_neg (by rw [g0];simp)]at hR
 by_cases g1:x.sig.length=0
 ·have k1:((x.sig.length:Int)=0)=True:=eq_true (by omega)
  rw [if_pos g1]at hR
  rw [hR]
  refine acO qfb ?_
  simp (disch:=omega) only [qis,List.replicate,strs,qA,k1,go_sem]
  repeat' first
   |((first|refine cA (cN _) ?_ ?_|refine cG (fun e=>cN _) ?_ ?_|refine cU (fun _=>cN _) ?_ ?_);(next=>exact flk);simp (disch:=omega) only [strs,qA,k1,go_sem])
   |((first|apply qd|apply qb);exact rvk;simp only [go_sem];first|exact VLe.refl _|apply qe|apply qa|apply qf|skip)
   |with_reducible first|apply And.intro|intro _
  all_goals try exact clz
 have k1:((x.sig.length:Int)=0)=False:=eq_false (by omega)
 rw [if_neg g1]at hR
 by_cases g2:32<x.sig.length
 ·have k2:((32:Int)<x.sig.length)=True:=eq_true (by omega)
  rw [if_pos g2]at hR
  rw [hR]
  refine acO qfb ?_
  simp (disch:=omega) only [qis,List.replicate,strs,qA,k1,k2,go_sem]
  repeat' first
   |((first|refine cA (cN _) ?_ ?_|refine cG (fun e=>cN _) ?_ ?_|refine cU (fun _=>cN _) ?_ ?_);(next=>exact flk);simp (disch:=omega) only [strs,qA,k1,k2,go_sem])
   |((first|apply qd|apply qb);exact rvk;simp only [go_sem];first|exact VLe.refl _|apply qe|apply qa|apply qf|skip)
   |with_reducible first|apply And.intro|intro _
  all_goals try exact clz
 have k2:((32:Int)<x.sig.length)=False:=eq_false (by omega)
 rw [if_neg g2]at hR
 refine acO qfb ?_
 simp (disch:=omega) only [qis,List.replicate,strs,qA,k1,k2,go_sem]
 repeat' first
  |((first|refine cA (cN _) ?_ ?_|refine cG (fun e=>cN _) ?_ ?_|refine cU (fun _=>cN _) ?_ ?_);(next=>exact flk);simp (disch:=omega) only [strs,qA,k1,k2,go_sem])
  |((first|apply qd|apply qb);exact rvk;simp only [go_sem];first|exact VLe.refl _|apply qe|apply qa|apply qf|skip)
  |with_reducible first|apply And.intro|intro _
 all_goals try exact clz
 refine qv (T:=fun i:Nat=>qQ 56 [(1,strs x.sig),(2,qA x.tok),(23,strs x.sig),(24,.int .i64 x.sig.length),(25,.int .i64 i)]) (H:=fun _=>h) (inv:=fun i=>i≤x.sig.length∧ ∀j,j<i→jq x.sig j=0) (m:=fun i=>x.sig.length-i) 0 ⟨Nat.zero_le _,fun j hj=>by omega⟩ (Wk.temps ?_) ?_
 ·(simp only [strs,qA,List.replicate,go_sem,qk,qi,qg,qj];try (repeat' first|(with_reducible apply And.intro)|(apply qe;omega)|(apply qa;rfl)|exact VLe.refl _))
 rintro i ⟨i1,i2⟩ K hK
 by_cases hi:i<x.sig.length
 ·have k3:((i:Int)<x.sig.length)=True:=eq_true (by omega)
  have k4:((i:Int)≤x.sig.length)=True:=eq_true (by omega)
  have hE:=je (f:=jq x.sig) hi i2
  have hs:jq x.sig i=if qol (x.sig.getD i [])=false then 14 else if zr (fun j=>decide (x.sig.getD i []=x.sig.getD j [])) i=true then 7 else 0:=rfl
  have c87:=fun h=>qyd (x.sig.getD i []) h (hz.ss i)
  have c88:=fun h=>qmE i (fun j=>x.sig.getD j []) (x.sig.getD i []) h (by omega)
  obtain ⟨s,hsx⟩: ∃s,s=x.sig.getD i []:=⟨_,rfl⟩
  have es:=hsx.symm
  rw [es]at hs c87
  simp only [es]at hs c88
  cases g3:qol s with
  |false=>
   rw [g3]at c87
   rw [if_pos g3]at hs
   have hne:qaI (jq x.sig) 0 x.sig.length≠0:=by rw [hE (by rw [hs];decide),hs];decide
   have hV:R=14:=by rw [hR,if_pos hne,hE (by rw [hs];decide),hs]
   rw [hV]
   simp (disch:=omega) only [List.replicate,strs,qA,k3,k4,es,go_sem]
   repeat' first
    |((first|refine cA (c87 _) ?_ ?_|refine cG (fun e=>c87 _) ?_ ?_|refine cU (fun _=>c87 _) ?_ ?_);(next=>exact flk);simp (disch:=omega) only [strs,qA,k3,k4,es,go_sem])
    |((first|apply qd|apply qb);exact rvk;simp only [go_sem];first|exact VLe.refl _|apply qe|apply qa|apply qf|skip)
    |with_reducible first|apply And.intro|intro _
   all_goals try exact clz
  |true=>
  rw [g3]at c87
  rw [if_neg (by rw [g3];simp)]at hs
  cases g4:zr (fun j=>decide (s=x.sig.getD j [])) i with
  |true=>
   rw [g4]at c88
   rw [if_pos g4]at hs
   have hne:qaI (jq x.sig) 0 x.sig.length≠0:=by rw [hE (by rw [hs];decide),hs];decide
   have hV:R=7:=by rw [hR,if_pos hne,hE (by rw [hs];decide),hs]
   rw [hV]
   simp (disch:=omega) only [List.replicate,strs,qA,k3,k4,es,Nat.sub_zero,go_sem]
   repeat' first
    |((first|refine cA (c87 _) ?_ ?_|refine cG (fun e=>c87 _) ?_ ?_|refine cA (c88 _) ?_ ?_|refine cG (fun e=>c88 _) ?_ ?_|refine cU (fun _=>c87 _) ?_ ?_|refine cU (fun _=>c88 _) ?_ ?_);(next=>exact flk);simp (disch:=omega) only [strs,qA,k3,k4,es,Nat.sub_zero,go_sem])
    |((first|apply qd|apply qb);exact rvk;simp only [go_sem];first|exact VLe.refl _|apply qe|apply qa|apply qf|skip)
    |with_reducible first|apply And.intro|intro _
   all_goals try exact clz
  |false=>
   rw [g4]at c88
   rw [if_neg (by rw [g4];simp)]at hs
   simp (disch:=omega) only [List.replicate,strs,qA,k3,k4,es,Nat.sub_zero,go_sem]
   repeat' first
    |((first|refine cA (c87 _) ?_ ?_|refine cG (fun e=>c87 _) ?_ ?_|refine cA (c88 _) ?_ ?_|refine cG (fun e=>c88 _) ?_ ?_|refine cU (fun _=>c87 _) ?_ ?_|refine cU (fun _=>c88 _) ?_ ?_);(next=>exact flk);simp (disch:=omega) only [strs,qA,k3,k4,es,Nat.sub_zero,go_sem])
    |((first|apply qd|apply qb);exact rvk;simp only [go_sem];first|exact VLe.refl _|apply qe|apply qa|apply qf|skip)
    |with_reducible first|apply And.intro|intro _
   all_goals try exact clz
   refine hK _ _ (i+1) ⟨hi,fun j hj=> ?_⟩ (by omega) (Wk.temps ?_)
   ·by_cases e:j=i
    ·subst e;exact hs
    ·exact i2 j (by omega)
   ·(simp only [strs,qA,List.replicate,go_sem,qk,qi,qg,qj];try (repeat' first|(with_reducible apply And.intro)|(apply qe;omega)|(apply qa;rfl)|exact VLe.refl _))
 have k3:((i:Int)<x.sig.length)=False:=eq_false (by omega)
 have hn0:=zk (f:=jq x.sig) (fun j (hj:j<x.sig.length)=>i2 j (by omega))
 rw [if_neg (fun hc=>hc hn0)]at hR
 by_cases g5:x.tok.length=x.sig.length
 case neg=>
  have k5:((x.tok.length:Int)=x.sig.length)=False:=eq_false (by omega)
  rw [if_pos g5]at hR
  rw [hR]
  simp (disch:=omega) only [List.replicate,strs,qA,k3,k5,go_sem]
  repeat' first
   |((first|apply qd|apply qb);exact rvk;simp only [go_sem];first|exact VLe.refl _|apply qe|apply qa|apply qf|skip)
   |with_reducible first|apply And.intro|intro _
  all_goals try exact clz
 have k5:((x.tok.length:Int)=x.sig.length)=True:=eq_true (by omega)
 rw [if_neg (fun hc=>hc g5)]at hR
 clear hK
 simp (disch:=omega) only [List.replicate,strs,qA,k3,k5,go_sem]
 repeat' first
  |((first|apply qd|apply qb);exact rvk;simp only [go_sem];first|exact VLe.refl _|apply qe|apply qa|apply qf|skip)
  |with_reducible first|apply And.intro|intro _
 all_goals try exact clz
 obtain ⟨rw0,hrw⟩: ∃f:Nat→Int,f=fun i=>qhd (x.tok.getD i []):=⟨_,rfl⟩
 have er: ∀i,rw0 i=qhd (x.tok.getD i []):=fun i=>by rw [hrw]
 rw [←hrw]at hR
 refine qv (T:=fun i:Nat=>qQ 56 [(44,qA x.tok),(45,.int .i64 x.tok.length),(46,.int .i64 i)]) (H:=fun _=>h) (inv:=fun i=>i≤x.tok.length∧ ∀j,j<i→rw0 j=0) (m:=fun i=>x.tok.length-i) 0 ⟨Nat.zero_le _,fun j hj=>by omega⟩ (Wk.temps ?_) ?_
 ·(simp only [strs,qA,List.replicate,go_sem,qk,qi,qg,qj];try (repeat' first|(with_reducible apply And.intro)|(apply qe;omega)|(apply qa;rfl)|exact VLe.refl _))
 rintro i ⟨i1,i2⟩ K hK
 by_cases hi:i<x.tok.length
 ·have k6:((i:Int)<x.tok.length)=True:=eq_true (by omega)
  have hE:=je (f:=rw0) hi i2
  have hs:=er i
  have zl:=hz.tl i
  have zt:=hz.te i
  obtain ⟨l,hl⟩: ∃l,l=x.tok.getD i []:=⟨_,rfl⟩
  have el:=hl.symm
  rw [el]at hs zl
  simp only [el]at zt
  unfold qhd at hs
  by_cases g6:1024<l.length
  ·have k7:((1024:Int)<l.length)=True:=eq_true (by omega)
   rw [if_pos g6]at hs
   have hV:R=4:=by rw [hR,hE (by rw [hs];decide),hs]
   rw [hV]
   simp (disch:=omega) only [List.replicate,qA,qaB,k6,k7,el,go_sem]
   repeat' first
    |((first|apply qd|apply qb);exact rvk;simp only [go_sem];first|exact VLe.refl _|apply qe|apply qa|apply qf|skip)
    |with_reducible first|apply And.intro|intro _
   all_goals try exact clz
  have k7:((1024:Int)<l.length)=False:=eq_false (by omega)
  rw [if_neg g6]at hs
  have cT:=qzs l h zl zt hp
  have eA:zr (fun j=>decide (tkE (l.getD j default)≠0)) l.length=zr (fun j=> !decide (tkE (l.getD j default)=0)) l.length:=qfP fun j _=>by simp
  rw [eA]at hs
  unfold qaB at cT
  obtain ⟨b,hb⟩: ∃b,b=zr (fun j=> !decide (tkE (l.getD j default)=0)) l.length:=⟨_,rfl⟩
  rw [←hb]at hs cT
  cases b with
  |true=>
   rw [if_pos rfl]at hs
   have hV:R=1:=by rw [hR,hE (by rw [hs];decide),hs]
   rw [hV]
   simp (disch:=omega) only [List.replicate,qA,qaB,k6,k7,el,go_sem]
   repeat' first
    |((first|refine cA (cT) ?_ ?_|refine cG (fun e=>cT) ?_ ?_);(next=>exact flk);simp (disch:=omega) only [qA,qaB,k6,k7,el,go_sem])
    |((first|apply qd|apply qb);exact rvk;simp only [go_sem];first|exact VLe.refl _|apply qe|apply qa|apply qf|skip)
    |with_reducible first|apply And.intro|intro _
   all_goals try exact clz
  |false=>
   rw [if_neg (by simp)]at hs
   simp (disch:=omega) only [List.replicate,qA,qaB,k6,k7,el,go_sem]
   repeat' first
    |((first|refine cA (cT) ?_ ?_|refine cG (fun e=>cT) ?_ ?_);(next=>exact flk);simp (disch:=omega) only [qA,qaB,k6,k7,el,go_sem])
    |((first|apply qd|apply qb);exact rvk;simp only [go_sem];first|exact VLe.refl _|apply qe|apply qa|apply qf|skip)
    |with_reducible first|apply And.intro|intro _
   all_goals try exact clz
   refine hK _ _ (i+1) ⟨hi,fun j hj=> ?_⟩ (by omega) (Wk.temps ?_)
   ·by_cases e:j=i
    ·subst e;exact hs
    ·exact i2 j (by omega)
   ·(simp only [qA,qaB,List.replicate,go_sem,qk,qi,qg,qj];try (repeat' first|(with_reducible apply And.intro)|(apply qe;omega)|(apply qa;rfl)|exact VLe.refl _))
 ·have k6:((i:Int)<x.tok.length)=False:=eq_false (by omega)
  rw [zk (fun j (hj:j<x.tok.length)=>i2 j (by omega))]at hR
  rw [hR]
  simp (disch:=omega) only [List.replicate,qA,k6,go_sem]
  repeat' first
   |((first|apply qd|apply qb);exact rvk;simp only [go_sem];first|exact VLe.refl _|apply qe|apply qa|apply qf|skip)
   |with_reducible first|apply And.intro|intro _
  all_goals try exact clz
theorem qzR (l:List Tk) (h:List AObj):ACalls Tryz.prog 254 [qaB l] h (.bool (decide (1024<l.length))) h:=by
 have k:decide ((1024:Int)<l.length)=decide (1024<l.length):=decide_eq_decide.2 (by omega)
 refine acO quX ?_
 simp (disch:=omega) only [qtC,List.replicate,qaB,go_sem]
 repeat' first
  |((first|apply qd|apply qb);exact rvk;simp only [go_sem];first|exact VLe.refl _|apply qe|apply qa|apply qf|skip)
  |with_reducible first|apply And.intro|intro _
 all_goals try exact clz
theorem qzS (L:List (List Tk)) (h:List AObj) (h1:0<L.length) (h2:L.length≤32) (h3: ∀s,s<L.length→(L.getD s []).length≤1024):ACalls Tryz.prog 208 [qA L] h (.int .i64 0) h:=by
 have k1:((L.length:Int)=0)=False:=eq_false (by omega)
 have k2:((32:Int)<L.length)=False:=eq_false (by omega)
 have c: ∀h,ACalls Tryz.prog 253 [qA L,.fn (.func 254) [] []] h (.bool false) h:=fun h=>by
  have e:zr (fun j=>decide (1024<(L.getD j []).length)) L.length=false:=qq.2 fun s hs=>decide_eq_false (by have:=h3 s hs;omega)
  rw [←e]
  unfold qA
  refine qqA quW ⟨rfl,rfl⟩ ⟨rfl,rfl⟩ (qcD qu7 L.length (fun j=> [qaB (L.getD j [])]) (fun j=>qaB (L.getD j [])) _ [] [] _ h (fun i _=>⟨rfl,by simp [z7],rfl,rfl,rfl⟩) (fun i _=> ?_) (by omega))
  exact qzR _ h
 unfold qA at c
 refine acO quJ ?_
 simp (disch:=omega) only [qtq,List.replicate,qA,k1,k2,go_sem]
 repeat' first
  |((first|refine cA (c _) ?_ ?_|refine cG (fun e=>c _) ?_ ?_|refine cU (fun _=>c _) ?_ ?_);(next=>exact flk);simp (disch:=omega) only [qA,k1,k2,go_sem])
  |((first|apply qd|apply qb);exact rvk;simp only [go_sem];first|exact VLe.refl _|apply qe|apply qa|apply qf|skip)
  |with_reducible first|apply And.intro|intro _
 all_goals try exact clz
def gC (g:Nat→AV) (n:Nat):List AV:=(List.range n).map g
theorem ko (g:Nat→AV) (n:Nat):(gC g n).length=n:=by simp [gC]
theorem qbH {g:Nat→AV} {n k:Nat} (hk:k<n):(gC g n)[k]? =some (g k):=by
 unfold gC
 rw [List.getElem?_map,List.getElem?_range hk]
 rfl
theorem kz {p q:Nat→AV} {n:Nat} (h: ∀k,k<n→p k=q k):gC p n=gC q n:=by
 unfold gC
 exact List.map_congr_left fun k hk=>by rw [h k (List.mem_range.1 hk)]
theorem qpD {g:Nat→AV} {n u:Nat} (x:AV) (hu:u<n):List.take u (gC g n)++ [x]++List.drop (u+1) (gC g n)=gC (fun k=>if k=u then x else g k) n:=by
 refine List.ext_getElem? fun k=> ?_
 by_cases hk:k<n
 ·rw [qbH hk]
  by_cases h1:k<u
  ·rw [List.append_assoc,List.getElem?_append_left (by rw [List.length_take,ko];omega),List.getElem?_take_of_lt h1,qbH hk,if_neg (by omega)]
  ·by_cases h2:k=u
   ·subst h2
    rw [List.append_assoc,List.getElem?_append_right (by rw [List.length_take,ko];omega),List.length_take,ko,show k-min k n=0 by omega,if_pos rfl]
    rfl
   ·rw [List.getElem?_append_right (by rw [List.length_append,List.length_take,ko];simp only [List.length_cons,List.length_nil];omega),List.length_append,List.length_take,ko,List.getElem?_drop]
    simp only [List.length_cons,List.length_nil]
    rw [show u+1+(k-(min u n+(0+1)))=k by omega,qbH hk,if_neg h2]
 ·rw [List.getElem?_eq_none (by simp only [List.length_append,List.length_take,List.length_drop,ko,List.length_cons,List.length_nil];omega),List.getElem?_eq_none (by rw [ko];omega)]
theorem qjt (z:AV) (n:Nat):zc [z] n=gC (fun _=>z) n:=by
 induction n with
 |zero=>rfl
 |succ n ih=>
  have e:gC (fun _=>z) (n+1)=z::gC (fun _=>z) n:=by
   unfold gC
   rw [List.range_succ_eq_map,List.map_cons,List.map_map]
   rfl
  rw [e,←ih]
  rfl
section
variable {tok : List (List Tk)} {col : List (List Int)} {i s : Nat}
theorem qqz (h:(col.getD i []).length≠tok.length):qei tok col i=false:=by unfold qei;rw [decide_eq_false h,Bool.false_and]
theorem qt4 (hs:s<tok.length) (h:enB tok col i s=false):qei tok col i=false:=by
 unfold qei
 rw [qM.2 ⟨s,hs,by rw [h];rfl⟩]
 simp
theorem qt5 (h1:(col.getD i []).length=tok.length) (h2: ∀s,s<tok.length→enB tok col i s=true):qei tok col i=zr (fun s=> !decide ((col.getD i []).getD s 0= -1)) tok.length:=by
 unfold qei
 rw [decide_eq_true h1,qq.2 (fun s hs=>by rw [h2 s hs];rfl)]
 simp
theorem qxn (hi:i<col.length) (h:qei tok col i=false):alB tok col=false:=by
 unfold alB
 rw [qM.2 ⟨i,hi,by rw [h];rfl⟩]
 simp
theorem qs0 (hs:s<tok.length) (h:cnC col s col.length≠(tok.getD s []).length):alB tok col=false:=by
 unfold alB
 rw [qM.2 ⟨s,hs,by rw [decide_eq_false h];rfl⟩,Bool.not_true,Bool.and_false]
theorem qs1 (h1: ∀i,i<col.length→qei tok col i=true) (h2: ∀s,s<tok.length→cnC col s col.length=(tok.getD s []).length):alB tok col=true:=by
 unfold alB
 rw [qq.2 (fun i hi=>by rw [h1 i hi];rfl),qq.2 (fun s hs=>by rw [decide_eq_true (h2 s hs)];rfl)]
 rfl
theorem qt3: ∀i,cnC col s i≤i:=by
 intro i
 induction i with
 |zero=>exact Nat.le_refl _
 |succ i ih=>unfold cnC;split<;>omega
def atA (col:List (List Int)) (i s k:Nat):AV:= .int .i64 ((if k<s then cnC col k (i+1) else cnC col k i:Nat):Int)
theorem qs5:atA col i s s= .int .i64 (cnC col s i:Int):=by unfold atA;rw [if_neg (Nat.lt_irrefl _)]
theorem qxq (n:Nat):gC (atA col 0 0) n=gC (fun _=> .int .i64 0) n:=kz fun k _=>by unfold atA;rw [if_neg (Nat.not_lt_zero _)];rfl
theorem qp1 (n:Nat):gC (atA col i n) n=gC (atA col (i+1) 0) n:=kz fun k hk=>by unfold atA;rw [if_pos hk,if_neg (Nat.not_lt_zero _)]
theorem qmc {n:Nat} (h:(col.getD i []).getD s 0= -1):gC (atA col i s) n=gC (atA col i (s+1)) n:=kz fun k hk=>by
 unfold atA
 by_cases e:k=s
 ·subst e
  rw [if_neg (Nat.lt_irrefl _),if_pos (Nat.lt_succ_self _)]
  show _=AV.int .i64 ((cnC col k i+if (col.getD i []).getD k 0= -1 then 0 else 1:Nat):Int)
  rw [if_pos h]
  rfl
 ·by_cases h1:k<s
  ·rw [if_pos h1,if_pos (by omega)]
  ·rw [if_neg h1,if_neg (by omega)]
theorem qmd {n:Nat} (hs:s<n) (h:(col.getD i []).getD s 0≠ -1):List.take s (gC (atA col i s) n)++ [.int .i64 ((cnC col s i:Int)+1)]++List.drop (s+1) (gC (atA col i s) n)=gC (atA col i (s+1)) n:=by
 rw [qpD _ hs]
 refine kz fun k hk=> ?_
 unfold atA
 by_cases e:k=s
 ·subst e
  rw [if_pos rfl,if_pos (Nat.lt_succ_self _)]
  show _=AV.int .i64 ((cnC col k i+if (col.getD i []).getD k 0= -1 then 0 else 1:Nat):Int)
  rw [if_neg h]
  rfl
 ·rw [if_neg e]
  by_cases h1:k<s
  ·rw [if_pos h1,if_pos (by omega)]
  ·rw [if_neg h1,if_neg (by omega)]
theorem qhw (p:Nat→Bool) (n:Nat):zr p (n+1)=(zr p n||p n):=by
 cases e:zr p n with
 |true=>obtain ⟨i,h1,h2⟩:=qM.1 e;exact qM.2 ⟨i,by omega,h2⟩
 |false=>
  have h:=qq.1 e
  cases e2:p n with
  |true=>exact qM.2 ⟨n,by omega,e2⟩
  |false=>
   refine qq.2 fun i hi=> ?_
   by_cases g:i=n
   ·subst g;exact e2
   ·exact h i (by omega)
end
end RC
end
section
open Go Go.Proofs AF HY LN
namespace RC
set_option maxHeartbeats 16000000
theorem qzk (tok:List (List Tk)) (col:List (List Int)) (h:List AObj) (hn:tok.length≤1000000000) (hc:col.length≤1000000000) (hl: ∀s,(tok.getD s []).length≤1000000000) (hm: ∀i,(col.getD i []).length≤1000000000):
  ACalls Tryz.prog 209 [qA tok,qs col] h (.bool (alB tok col)) h:=by
 have k0:(0≤(tok.length:Int))=True:=eq_true (by omega)
 have k1:((tok.length:Int)≤9223372036854775807)=True:=eq_true (by omega)
 obtain ⟨R,hR⟩: ∃R,R=alB tok col:=⟨_,rfl⟩
 rw [←hR]
 refine acO quK ?_
 simp (disch:=omega) only [qtr,List.replicate,qA,qs,k0,k1,go_sem]
 repeat' first
  |((first|apply qd|apply qb);exact rvk;simp only [go_sem];first|exact VLe.refl _|apply qe|apply qa|apply qf|skip)
  |with_reducible first|apply And.intro|intro _
 all_goals try exact clz
 all_goals try rw [Int.toNat_natCast]
 rw [qjt,←qxq (col:=col)]
 refine qv (T:=fun i:Nat=>qQ 76 [(0,qA tok),(5,.osl h.length 1 1 0 tok.length),(15,qs col),(16,.int .i64 col.length),(17,.int .i64 i)])
  (H:=fun i=>h++ [.mem 1 3 (gC (atA col i 0) tok.length)])
  (inv:=fun i=>i≤col.length∧ ∀j,j<i→qei tok col j=true) (m:=fun i=>col.length-i) 0 ⟨Nat.zero_le _,fun j hj=>absurd hj (Nat.not_lt_zero j)⟩ (Wk.temps ?_) ?_
 ·(simp only [qA,qs,List.replicate,go_sem,qk,qi,qg,qj];try (repeat' first|(with_reducible apply And.intro)|(apply qe;omega)|(apply qa;rfl)|exact VLe.refl _))
 rintro i ⟨i1,i2⟩ K hK
 by_cases hi:i<col.length
 ·have k2:((i:Int)<col.length)=True:=eq_true (by omega)
  have hno:qei tok col i=false→R=false:=fun hx=>by rw [hR];exact qxn hi hx
  have hlen:= @qqz tok col i
  have hen:= @qt4 tok col i
  have heq:= @qt5 tok col i
  have hskip:= @qmc col i
  have hstep:= @qmd col i
  have hmi:=hm i
  have hE: ∀s,enB tok col i s=(decide ((col.getD i []).getD s 0= -1)||(decide ((col.getD i []).getD s 0=(cnC col s i:Int))&&decide ((col.getD i []).getD s 0<((tok.getD s []).length:Int)))):=fun _=>rfl
  obtain ⟨c,hcx⟩: ∃c,c=col.getD i []:=⟨_,rfl⟩
  have ec:=hcx.symm
  rw [ec]at hlen heq hmi
  simp only [ec]at hskip hstep hE
  by_cases g1:c.length=tok.length
  case neg=>
   have k3:((c.length:Int)=tok.length)=False:=eq_false (by omega)
   rw [hno (hlen g1)]
   simp (disch:=omega) only [List.replicate,qA,qs,qp,k2,k3,ec,go_sem]
   repeat' first
    |((first|apply qd|apply qb);exact rvk;simp only [go_sem];first|exact VLe.refl _|apply qe|apply qa|apply qf|skip)
    |with_reducible first|apply And.intro|intro _
   all_goals try exact clz
  have k3:((c.length:Int)=tok.length)=True:=eq_true (by omega)
  have heq:=heq g1
  simp (disch:=omega) only [List.replicate,qA,qs,qp,k2,k3,ec,go_sem]
  repeat' first
   |((first|apply qd|apply qb);exact rvk;simp only [go_sem];first|exact VLe.refl _|apply qe|apply qa|apply qf|skip)
   |with_reducible first|apply And.intro|intro _
  all_goals try exact clz
  refine qv (T:=fun s:Nat=>qQ 76 [(0,qA tok),(5,.osl h.length 1 1 0 tok.length),(8,.bool (zr (fun s=> !decide (c.getD s 0= -1)) s)),(15,qs col),(16,.int .i64 col.length),(17,.int .i64 i),(26,qp c),(27,.int .i64 c.length),(28,.int .i64 s)])
   (H:=fun s=>h++ [.mem 1 3 (gC (atA col i s) tok.length)])
   (inv:=fun s=>s≤c.length∧ ∀j,j<s→enB tok col i j=true) (m:=fun s=>c.length-s) 0 ⟨Nat.zero_le _,fun j hj=>absurd hj (Nat.not_lt_zero j)⟩ (Wk.temps ?_) ?_
  ·(simp only [qA,qs,qp,List.replicate,go_sem,qk,qi,qg,qj];try (repeat' first|(with_reducible apply And.intro)|(apply qe;omega)|(apply qa;rfl)|exact VLe.refl _))
  rintro s ⟨s1,s2⟩ K2 hK2
  by_cases hs:s<c.length
  ·have t1:((s:Int)<c.length)=True:=eq_true (by omega)
   have t0:(0≤(s:Int))=True:=eq_true (by omega)
   have hsn:s<tok.length:=by omega
   have t2:((s:Int)<tok.length)=True:=eq_true (by omega)
   have t3:(s<tok.length)=True:=eq_true hsn
   have t4:(s+1≤tok.length)=True:=eq_true hsn
   have gl:=ko (atA col i s) tok.length
   have gg:=qbH (g:=atA col i s) hsn
   rw [qs5]at gg
   have hsk:=hskip (s:=s) (n:=tok.length)
   have hst:=hstep (s:=s) hsn
   have hcn:= @qt3 col s i
   have hlt:=hl s
   have hEs:=hE s
   have hap:=qhw (fun s=> !decide (c.getD s 0= -1)) s
   obtain ⟨t,ht⟩: ∃t,t=c.getD s 0:=⟨_,rfl⟩
   obtain ⟨l,hlx⟩: ∃l,l=tok.getD s []:=⟨_,rfl⟩
   have et:=ht.symm
   have el:=hlx.symm
   rw [et]at hsk hst hEs
   rw [el]at hEs hlt
   simp only [et]at hap
   obtain ⟨a,ha⟩: ∃a,a=zr (fun s=> !decide (c.getD s 0= -1)) s:=⟨_,rfl⟩
   have ea:=ha.symm
   rw [ea]at hap
   obtain ⟨q,hq⟩: ∃q:Nat,q=cnC col s i:=⟨_,rfl⟩
   have eq:=hq.symm
   rw [eq]at hst hEs hcn gg
   have b2:((q:Int)+1≤9223372036854775807)=True:=eq_true (by omega)
   have b3:(-9223372036854775808≤(q:Int)+1)=True:=eq_true (by omega)
   by_cases g2:t= -1
   ·have k4:(t= -1)=True:=eq_true g2
    rw [decide_eq_true g2,Bool.true_or]at hEs
    have hap':zr (fun s=> !decide (c.getD s 0= -1)) (s+1)=a:=by rw [hap,decide_eq_true g2];simp
    simp (disch:=omega) only [List.replicate,qA,qs,qp,t0,t1,t2,t3,t4,k4,et,ea,gl,gg,Nat.mul_one,Nat.zero_add,go_sem]
    repeat' first
     |((first|apply qd|apply qb);exact rvk;simp only [go_sem];first|exact VLe.refl _|apply qe|apply qa|apply qf|skip)
     |with_reducible first|apply And.intro|intro _
    all_goals try exact clz
    rw [hsk g2]
    refine hK2 _ _ (s+1) ⟨hs,fun j hj=> ?_⟩ (by omega) (Wk.temps ?_)
    ·by_cases e:j=s
     ·subst e;exact hEs
     ·exact s2 j (by omega)
    ·rw [hap']
     (simp only [qA,qs,qp,List.replicate,go_sem,qk,qi,qg,qj];try (repeat' first|(with_reducible apply And.intro)|(apply qe;omega)|(apply qa;rfl)|exact VLe.refl _))
   have k4:(t= -1)=False:=eq_false g2
   rw [decide_eq_false g2,Bool.false_or]at hEs
   have hap':zr (fun s=> !decide (c.getD s 0= -1)) (s+1)=true:=by rw [hap,decide_eq_false g2];simp
   by_cases g3:t=(q:Int)
   case neg=>
    have k5:(t=(q:Int))=False:=eq_false g3
    rw [decide_eq_false g3,Bool.false_and]at hEs
    rw [hno (hen hsn hEs)]
    simp (disch:=omega) only [List.replicate,qA,qs,qp,t0,t1,t2,t3,t4,k4,k5,et,ea,gl,gg,Nat.mul_one,Nat.zero_add,go_sem]
    repeat' first
     |((first|apply qd|apply qb);exact rvk;simp only [go_sem];first|exact VLe.refl _|apply qe|apply qa|apply qf|skip)
     |with_reducible first|apply And.intro|intro _
    all_goals try exact clz
   have k5:(t=(q:Int))=True:=eq_true g3
   rw [decide_eq_true g3,Bool.true_and]at hEs
   by_cases g4:(l.length:Int)≤t
   ·have k6:((l.length:Int)≤t)=True:=eq_true g4
    rw [decide_eq_false (by omega)]at hEs
    rw [hno (hen hsn hEs)]
    simp (disch:=omega) only [List.replicate,qA,qaB,qs,qp,t0,t1,t2,t3,t4,k4,k5,k6,et,ea,el,gl,gg,Nat.mul_one,Nat.zero_add,go_sem]
    repeat' first
     |((first|apply qd|apply qb);exact rvk;simp only [go_sem];first|exact VLe.refl _|apply qe|apply qa|apply qf|skip)
     |with_reducible first|apply And.intro|intro _
    all_goals try exact clz
   ·have k6:((l.length:Int)≤t)=False:=eq_false g4
    rw [decide_eq_true (by omega)]at hEs
    have hst:=hst g2
    simp (disch:=omega) only [List.replicate,qA,qaB,qs,qp,t0,t1,t2,t3,t4,k4,k5,k6,et,ea,el,gl,gg,b2,b3,hst,Nat.mul_one,Nat.zero_add,Option.isSome_some,go_sem]
    repeat' first
     |((first|apply qd|apply qb);exact rvk;simp only [go_sem];first|exact VLe.refl _|apply qe|apply qa|apply qf|skip)
     |with_reducible first|apply And.intro|intro _
    all_goals try exact clz
    try rw [hst]
    refine hK2 _ _ (s+1) ⟨hs,fun j hj=> ?_⟩ (by omega) (Wk.temps ?_)
    ·by_cases e:j=s
     ·subst e;exact hEs
     ·exact s2 j (by omega)
    ·rw [hap']
     (simp only [qA,qaB,qs,qp,List.replicate,go_sem,qk,qi,qg,qj];try (repeat' first|(with_reducible apply And.intro)|(apply qe;omega)|(apply qa;rfl)|exact VLe.refl _))
  ·have t1:((s:Int)<c.length)=False:=eq_false (by omega)
   have es:s=tok.length:=by omega
   have heq:=heq fun j hj=>s2 j (by omega)
   rw [←es]at heq
   rw [es]at*
   cases ga:zr (fun s=> !decide (c.getD s 0= -1)) tok.length with
   |false=>
    rw [ga]at heq
    rw [hno heq]
    simp (disch:=omega) only [List.replicate,qA,qs,qp,t1,ga,go_sem]
    repeat' first
     |((first|apply qd|apply qb);exact rvk;simp only [go_sem];first|exact VLe.refl _|apply qe|apply qa|apply qf|skip)
     |with_reducible first|apply And.intro|intro _
    all_goals try exact clz
   |true=>
    rw [ga]at heq
    simp (disch:=omega) only [List.replicate,qA,qs,qp,t1,ga,go_sem]
    repeat' first
     |((first|apply qd|apply qb);exact rvk;simp only [go_sem];first|exact VLe.refl _|apply qe|apply qa|apply qf|skip)
     |with_reducible first|apply And.intro|intro _
    all_goals try exact clz
    rw [qp1]
    refine hK _ _ (i+1) ⟨hi,fun j hj=> ?_⟩ (by omega) (Wk.temps ?_)
    ·by_cases e:j=i
     ·subst e;exact heq
     ·exact i2 j (by omega)
    ·(simp only [qA,qs,qp,List.replicate,go_sem,qk,qi,qg,qj];try (repeat' first|(with_reducible apply And.intro)|(apply qe;omega)|(apply qa;rfl)|exact VLe.refl _))
 have k2:((i:Int)<col.length)=False:=eq_false (by omega)
 obtain rfl:i=col.length:=by omega
 clear hK
 simp (disch:=omega) only [List.replicate,qA,qs,k2,go_sem]
 repeat' first
  |((first|apply qd|apply qb);exact rvk;simp only [go_sem];first|exact VLe.refl _|apply qe|apply qa|apply qf|skip)
  |with_reducible first|apply And.intro|intro _
 all_goals try exact clz
 refine qv (T:=fun s:Nat=>qQ 76 [(0,qA tok),(5,.osl h.length 1 1 0 tok.length),(61,.int .i64 tok.length),(62,.int .i64 s)])
  (H:=fun _=>h++ [.mem 1 3 (gC (atA col col.length 0) tok.length)])
  (inv:=fun s=>s≤tok.length∧ ∀j,j<s→cnC col j col.length=(tok.getD j []).length) (m:=fun s=>tok.length-s) 0 ⟨Nat.zero_le _,fun j hj=>absurd hj (Nat.not_lt_zero j)⟩ (Wk.temps ?_) ?_
 ·(simp only [qA,qs,List.replicate,go_sem,qk,qi,qg,qj];try (repeat' first|(with_reducible apply And.intro)|(apply qe;omega)|(apply qa;rfl)|exact VLe.refl _))
 rintro s ⟨s1,s2⟩ K hK
 by_cases hs:s<tok.length
 ·have t1:((s:Int)<tok.length)=True:=eq_true (by omega)
  have t0:(0≤(s:Int))=True:=eq_true (by omega)
  have t3:(s<tok.length)=True:=eq_true hs
  have t4:(s+1≤tok.length)=True:=eq_true hs
  have gl:=ko (atA col col.length 0) tok.length
  have gg:=qbH (g:=atA col col.length 0) hs
  have e0:atA col col.length 0 s= .int .i64 (cnC col s col.length:Int):=by unfold atA;rw [if_neg (Nat.not_lt_zero _)]
  rw [e0]at gg
  have hno:= @qs0 tok col s hs
  obtain ⟨q,hq⟩: ∃q:Nat,q=cnC col s col.length:=⟨_,rfl⟩
  have eq:=hq.symm
  have hs2:q=(tok.getD s []).length→cnC col s col.length=(tok.getD s []).length:=fun e=>by rw [←hq];exact e
  rw [eq]at gg hno
  obtain ⟨l,hlx⟩: ∃l,l=tok.getD s []:=⟨_,rfl⟩
  have el:=hlx.symm
  rw [el]at hno hs2
  by_cases g:q=l.length
  ·have k5:((q:Int)=l.length)=True:=eq_true (by omega)
   simp (disch:=omega) only [List.replicate,qA,qaB,t0,t1,t3,t4,k5,el,gl,gg,Nat.mul_one,Nat.zero_add,go_sem]
   repeat' first
    |((first|apply qd|apply qb);exact rvk;simp only [go_sem];first|exact VLe.refl _|apply qe|apply qa|apply qf|skip)
    |with_reducible first|apply And.intro|intro _
   all_goals try exact clz
   refine hK _ _ (s+1) ⟨hs,fun j hj=> ?_⟩ (by omega) (Wk.temps ?_)
   ·by_cases e:j=s
    ·subst e;rw [el];exact hs2 g
    ·exact s2 j (by omega)
   ·(simp only [qA,qaB,List.replicate,go_sem,qk,qi,qg,qj];try (repeat' first|(with_reducible apply And.intro)|(apply qe;omega)|(apply qa;rfl)|exact VLe.refl _))
  ·have k5:((q:Int)=l.length)=False:=eq_false (by omega)
   rw [hR,hno g]
   simp (disch:=omega) only [List.replicate,qA,qaB,t0,t1,t3,t4,k5,el,gl,gg,Nat.mul_one,Nat.zero_add,go_sem]
   repeat' first
    |((first|apply qd|apply qb);exact rvk;simp only [go_sem];first|exact VLe.refl _|apply qe|apply qa|apply qf|skip)
    |with_reducible first|apply And.intro|intro _
   all_goals try exact clz
 ·have t1:((s:Int)<tok.length)=False:=eq_false (by omega)
  rw [hR,qs1 i2 (fun j hj=>s2 j (by omega))]
  simp (disch:=omega) only [List.replicate,qA,t1,go_sem]
  repeat' first
   |((first|apply qd|apply qb);exact rvk;simp only [go_sem];first|exact VLe.refl _|apply qe|apply qa|apply qf|skip)
   |with_reducible first|apply And.intro|intro _
  all_goals try exact clz
theorem qzQ (tok:List (List Tk)) (col:List (List Int)) (h:List AObj) (h1:0<tok.length) (h2:tok.length≤32) (h3: ∀s,s<tok.length→(tok.getD s []).length≤1024) (hc:col.length≤1000000000) (hl: ∀s,(tok.getD s []).length≤1000000000) (hm: ∀i,(col.getD i []).length≤1000000000):
  ACalls Tryz.prog 153 [qA tok,qs col] h (.int .i64 (if alB tok col=true then 0 else 19)) h:=by
 have c1:=fun h=>qzS tok h h1 h2 h3
 have c2:=fun h=>qzk tok col h (by omega) hc hl hm
 cases g:alB tok col<;>rw [g]at c2
 all_goals
  refine acO quv ?_
  simp (disch:=omega) only [qte,List.replicate,go_sem]
  repeat' first
   |((first|refine cA (c1 _) ?_ ?_|refine cG (fun e=>c1 _) ?_ ?_|refine cA (c2 _) ?_ ?_|refine cG (fun e=>c2 _) ?_ ?_|refine cU (fun _=>c1 _) ?_ ?_|refine cU (fun _=>c2 _) ?_ ?_);(next=>exact flk);simp (disch:=omega) only [go_sem])
   |((first|apply qd|apply qb);exact rvk;simp only [go_sem];first|exact VLe.refl _|apply qe|apply qa|apply qf|skip)
   |with_reducible first|apply And.intro|intro _
  all_goals try exact clz
theorem qwi {x:Co} (h:srE x=0):0<x.sig.length∧x.sig.length≤32∧x.tok.length=x.sig.length∧ ∀s,s<x.tok.length→(x.tok.getD s []).length≤1024:=by
 unfold srE at h
 split at h
 ·cases h
 split at h
 ·cases h
 rename_i g2
 split at h
 ·cases h
 rename_i g3
 split at h
 ·rename_i g4;exact absurd h g4
 split at h
 ·cases h
 rename_i g5
 have h3:=jG.1 h
 refine ⟨by omega,by omega,Classical.not_not.1 g5,fun s hs=> ?_⟩
 have:=h3 s hs
 unfold qhd at this
 split at this
 ·cases this
 ·omega
theorem coP (x:Co) (h:List AObj) (hz:qsL x) (hp:qaZ SG h):ACalls Tryz.prog 81 [.agg (coC x)] h (.int .i64 (coE x)) h:=by
 have c1:=fun l=>qz3 x (h++l) hz (hp.app l)
 unfold coE
 by_cases g:srE x=0
 case neg=>
  have k1:(srE x=0)=False:=eq_false g
  rw [if_pos g]
  obtain ⟨e,he⟩: ∃e,e=srE x:=⟨_,rfl⟩
  rw [←he]at c1 k1 ⊢
  unfold strs qA at c1
  refine acO qvh ?_
  simp (disch:=omega) only [qxv,List.replicate,coC,strs,qA,go_sem]
  repeat' first
   |((first|refine cA (c1 _) ?_ ?_|refine cG (fun e=>c1 _) ?_ ?_|refine cU (fun _=>c1 _) ?_ ?_);(next=>exact flk);simp (disch:=omega) only [coC,strs,qA,k1,go_sem])
   |((first|apply qd|apply qb);exact rvk;simp only [go_sem];first|exact VLe.refl _|apply qe|apply qa|apply qf|skip)
   |with_reducible first|apply And.intro|intro _
  all_goals try exact clz
 rw [if_neg (fun hc=>hc g)]
 obtain ⟨o1,o2,o3,o4⟩:=qwi g
 have c2:=fun h=>qzQ x.tok x.col h (by omega) (by omega) o4 hz.cl hz.tl hz.ce
 rw [g]at c1
 unfold strs qA at c1
 unfold qA qs at c2
 cases g2:alB x.tok x.col<;>rw [g2]at c2
 all_goals
  refine acO qvh ?_
  simp (disch:=omega) only [qxv,List.replicate,coC,strs,qA,qs,go_sem]
  repeat' first
   |((first|refine cA (c1 _) ?_ ?_|refine cG (fun e=>c1 _) ?_ ?_|refine cA (c2 _) ?_ ?_|refine cG (fun e=>c2 _) ?_ ?_|refine cU (fun _=>c1 _) ?_ ?_|refine cU (fun _=>c2 _) ?_ ?_);(next=>exact flk);simp (disch:=omega) only [coC,strs,qA,qs,go_sem])
   |((first|apply qd|apply qb);exact rvk;simp only [go_sem];first|exact VLe.refl _|apply qe|apply qa|apply qf|skip)
   |with_reducible first|apply And.intro|intro _
  all_goals try exact clz
end RC
end
section
open Go Go.Proofs AF HY LN
namespace RC
set_option maxHeartbeats 4000000
structure Va where
 words:List Str
 sigla:List Str
 deriving Inhabited
structure En where
 layer:Int
 frm:Int
 to:Int
 pos:Bool
 sup:List Str
 vars:List Va
 deriving Inhabited
def vaC (v:Va):List AV:= [strs v.words,strs v.sigla]
def qbl (vs:List Va):AV:= .sl vs.length fun i=>vaC (vs.getD i default)
def enC (e:En):List AV:= [.int .i64 e.layer,.int .i64 e.frm,.int .i64 e.to,.bool e.pos,strs e.sup,qbl e.vars]
def qbh (l:List En):AV:= .sl l.length fun i=>enC (l.getD i default)
theorem qjl (L:List Va):(qbl L).flag=true:=rfl
theorem qha (L:List Va):(qbl L).strip=qbl L:=rfl
theorem qnf {fz:Nat→Bool} {h:List AObj} {n:Nat} (L:List Va):frz fz h (n+1) (qbl L)=qbl L:=rfl
theorem qob {fz:Nat→Bool} {h:List AObj} {n:Nat} (L:List Va):rei fz h (n+1) (qbl L)=qbl L:=rfl
theorem qjh (L:List En):(qbh L).flag=true:=rfl
theorem qg6 (L:List En):(qbh L).strip=qbh L:=rfl
theorem qnc {fz:Nat→Bool} {h:List AObj} {n:Nat} (L:List En):frz fz h (n+1) (qbh L)=qbh L:=rfl
theorem qn8 {fz:Nat→Bool} {h:List AObj} {n:Nat} (L:List En):rei fz h (n+1) (qbh L)=qbh L:=rfl
attribute [go_sem] qjl qha qnf qob qjh qg6 qnc qn8
theorem qui (ws:List Str) (m:Nat) (k:Nat→Str) (h:List AObj) (h1:ws.length≤1000000000) (h2:m≤1000000000):
  ACalls Tryz.prog 53 [strs ws,.sl m (fun j=> [.str (k j)])] h (.bool (decide (ws.length=m∧ ∀i,i<ws.length→ws.getD i []=k i))) h:=by
 unfold strs
 have:=qyW qxN ws.length m (fun j=> .s (ws.getD j [])) (fun j=> .s (k j)) h (fun _ _ _=>rfl) (by omega) (by omega)
 simpa only [At.v,At.s.injEq] using this
theorem qyb (ws:List Str) (m:Nat) (k:Nat→Str) (h:List AObj) (h1:ws.length≤1000000000) (h2:m≤1000000000):
  ACalls Tryz.prog 139 [strs ws,.sl m (fun j=> [.str (k j)])] h (.bool (decide (ws.length=m∧ ∀i,i<ws.length→ws.getD i []=k i))) h:=by
 have c22:=fun h=>qui ws m k h h1 h2
 refine acO quu ?_
 simp (disch:=omega) only [qtd,List.replicate,go_sem]
 repeat' first
  |((first|refine cA (c22 _) ?_ ?_|refine cG (fun e=>c22 _) ?_ ?_|refine cU (fun _=>c22 _) ?_ ?_);(next=>exact flk);simp (disch:=omega) only [go_sem])
  |((first|apply qd|apply qb);exact rvk;simp only [go_sem];first|exact VLe.refl _|apply qe|apply qa|apply qf|skip)
  |with_reducible first|apply And.intro|intro _
 all_goals try exact clz
theorem jo {α:Type} [Inhabited α] {a b:List α} (d:α):a=b↔a.length=b.length∧ ∀i,i<a.length→a.getD i d=b.getD i d:=by
 constructor
 ·rintro rfl;exact ⟨rfl,fun _ _=>rfl⟩
 ·rintro ⟨h1,h2⟩
  apply List.ext_getElem h1
  intro i h3 h4
  have:=h2 i h3
  rw [gdqA,gdqA,zM h3,zM h4]at this
  exact this
def qbw (t:List Str) (f g:Nat):List Str:=(t.drop f).take (g-f)
theorem qfG {t:List Str} {f g:Nat} (h1:f≤g) (h2:g≤t.length):(qbw t f g).length=g-f:=by unfold qbw;simp;omega
def qoW (t:List Str) (e:En) (i:Nat):Int:=
 if qlS (e.vars.getD i default).words≠0 then 11 else if (e.vars.getD i default).words=qbw t e.frm.toNat e.to.toNat then 9 else
  if zr (fun j=>decide ((e.vars.getD i default).words=(e.vars.getD j default).words)) i=true then 7 else if (e.vars.getD i default).sigla.length=0 then 5 else 0
def cnt (names:List Str) (gs:List Gr) (e:En):Nat→List Int
 |0=>qo8 (List.replicate 32 0) (qcd names gs e.sup)
 |i+1=>qo8 (cnt names gs e i) (qcd names gs (e.vars.getD i default).sigla)
def qsj (C:List Int):Bool:=zr (fun i=>decide (1<C.getD i 0)) C.length
def qsU (t:List Str) (e:En):Prop:=e.layer<0∨16≤e.layer∨e.frm<0∨e.to<e.frm∨(t.length:Int)<e.to
instance (t:List Str) (e:En):Decidable (qsU t e):=by unfold qsU;infer_instance
def qxB (names:List Str) (gs:List Gr) (t:List Str) (e:En):Int:=
 if sgE names gs≠0 then 1 else if 4096<t.length then 4 else if qlS t≠0 then 11 else if qsU t e then 2 else
  if 0<e.sup.length∧e.pos=false then 1 else if e.vars.length=0 then 5 else
   if qaI (qoW t e) 0 e.vars.length≠0 then qaI (qoW t e) 0 e.vars.length else
    if qi9 names gs e.sup≠0 then qi9 names gs e.sup else
     if qaI (fun i=>qi9 names gs (e.vars.getD i default).sigla) 0 e.vars.length≠0 then qaI (fun i=>qi9 names gs (e.vars.getD i default).sigla) 0 e.vars.length else
      if qsj (cnt names gs e e.vars.length)=true then 17 else 0
structure TSz (t:List Str):Prop where
 n:t.length≤1000000000
 s: ∀j,(t.getD j []).length≤1000000000
structure ESz (e:En):Prop where
 sup:e.sup.length≤1000000000
 vs:e.vars.length≤1000000000
 w: ∀i,TSz (e.vars.getD i default).words
 sg: ∀i,(e.vars.getD i default).sigla.length≤1000000000
end RC
end
section
open Go Go.Proofs AF HY LN
namespace RC
set_option maxHeartbeats 8000000
end RC
end
section
open Go Go.Proofs AF HY LN
namespace RC
end RC
end
section
open Go Go.Proofs AF HY LN
namespace RC
end RC
end
section
open Go Go.Proofs AF HY LN
namespace RC
set_option maxHeartbeats 8000000
end RC
end
section
open Go Go.Proofs AF HY LN
namespace RC
set_option maxHeartbeats 4000000
end RC
end
section
open Go Go.Proofs AF HY LN
namespace RC
set_option maxHeartbeats 4000000
theorem qnt {p:Nat→Bool} {n:Nat} {x:Int}:x∈zA p n↔ ∃k:Nat,k<n∧p k=true∧x=k:=by
 unfold zA
 constructor
 ·intro h
  obtain ⟨k,hk,rfl⟩:=List.mem_map.1 h
  obtain ⟨h1,h2⟩:=List.mem_filter.1 hk
  exact ⟨k,List.mem_range.1 h1,h2,rfl⟩
 ·rintro ⟨k,h1,h2,rfl⟩
  exact List.mem_map.2 ⟨k,List.mem_filter.2 ⟨List.mem_range.2 h1,h2⟩,rfl⟩
end RC
end
section
open Go Go.Proofs AF HY LN
namespace RC
set_option maxHeartbeats 4000000
theorem smw (ws:List Str) (m:Nat) (k:Nat→Str) (h:List AObj) (h1:ws.length≤1000000000) (h2:m≤1000000000):
  ACalls Tryz.prog 103 [strs ws,.sl m (fun j=> [.str (k j)])] h (.bool (decide (ws.length=m∧ ∀i,i<ws.length→ws.getD i []=k i))) h:=by
 obtain ⟨R,hR⟩: ∃R,R=decide (ws.length=m∧ ∀i,i<ws.length→ws.getD i []=k i):=⟨_,rfl⟩
 rw [←hR]
 by_cases g:ws.length=m
 ·have k0:((ws.length:Int)=m)=True:=eq_true (by omega)
  refine acO qpf ?_
  simp (disch:=omega) only [qp8,List.replicate,strs,k0,go_sem]
  repeat' first
   |((first|apply qd|apply qb);exact rvk;simp only [go_sem];first|exact VLe.refl _|apply qe|apply qa|apply qf|skip)
   |with_reducible first|apply And.intro|intro _
  all_goals try exact clz
  refine qv (T:=fun i:Nat=>qQ 26 [(0,strs ws),(1,.sl m (fun j=> [.str (k j)])),(5,.int .i64 i)]) (H:=fun _=>h) (inv:=fun i=>i≤ws.length∧ ∀j,j<i→ws.getD j []=k j) (m:=fun i=>ws.length-i) 0 ⟨Nat.zero_le _,fun j hj=>by omega⟩ (Wk.temps ?_) ?_
  ·(simp only [strs,List.replicate,go_sem,qk,qi,qg,qj];try (repeat' first|(with_reducible apply And.intro)|(apply qe;omega)|(apply qa;rfl)|exact VLe.refl _))
  rintro i ⟨i1,i2⟩ K hK
  by_cases hi:i<ws.length
  ·have k1:((i:Int)<ws.length)=True:=eq_true (by omega)
   have k3:((i:Int)<m)=True:=eq_true (by omega)
   obtain ⟨x,hx⟩: ∃x,x=ws.getD i []:=⟨_,rfl⟩
   have ex:=hx.symm
   by_cases e:x=k i
   ·have k2:(x=k i)=True:=eq_true e
    simp (disch:=omega) only [List.replicate,strs,k1,k2,k3,ex,go_sem]
    repeat' first
     |((first|apply qd|apply qb);exact rvk;simp only [go_sem];first|exact VLe.refl _|apply qe|apply qa|apply qf|skip)
     |with_reducible first|apply And.intro|intro _
    all_goals try exact clz
    refine hK _ _ (i+1) ⟨hi,fun j hj=> ?_⟩ (by omega) (Wk.temps ?_)
    ·by_cases e':j=i
     ·subst e';rw [ex];exact e
     ·exact i2 j (by omega)
    ·(simp only [strs,List.replicate,go_sem,qk,qi,qg,qj];try (repeat' first|(with_reducible apply And.intro)|(apply qe;omega)|(apply qa;rfl)|exact VLe.refl _))
   ·have k2:(x=k i)=False:=eq_false e
    have hV:R=false:=by rw [hR];exact decide_eq_false fun hc=>e (by rw [←ex];exact hc.2 i hi)
    rw [hV]
    simp (disch:=omega) only [List.replicate,strs,k1,k2,k3,ex,go_sem]
    repeat' first
     |((first|apply qd|apply qb);exact rvk;simp only [go_sem];first|exact VLe.refl _|apply qe|apply qa|apply qf|skip)
     |with_reducible first|apply And.intro|intro _
    all_goals try exact clz
  ·have k1:((i:Int)<ws.length)=False:=eq_false (by omega)
   have hV:R=true:=by rw [hR];exact decide_eq_true ⟨g,fun j hj=>i2 j (by omega)⟩
   rw [hV]
   simp (disch:=omega) only [List.replicate,strs,k1,go_sem]
   repeat' first
    |((first|apply qd|apply qb);exact rvk;simp only [go_sem];first|exact VLe.refl _|apply qe|apply qa|apply qf|skip)
    |with_reducible first|apply And.intro|intro _
   all_goals try exact clz
 ·have k0:((ws.length:Int)=m)=False:=eq_false (by omega)
  have hV:R=false:=by rw [hR];exact decide_eq_false fun hc=>g hc.1
  rw [hV]
  refine acO qpf ?_
  simp (disch:=omega) only [qp8,List.replicate,strs,k0,go_sem]
  repeat' first
   |((first|apply qd|apply qb);exact rvk;simp only [go_sem];first|exact VLe.refl _|apply qe|apply qa|apply qf|skip)
   |with_reducible first|apply And.intro|intro _
  all_goals try exact clz
theorem qyg (a b:List Str) (h:List AObj) (h1:a.length≤1000000000) (h2:b.length≤1000000000):
  ACalls Tryz.prog 103 [strs a,strs b] h (.bool (decide (a=b))) h:=by
 have c:=smw a b.length (fun j=>b.getD j []) h h1 h2
 have e:decide (a.length=b.length∧ ∀i,i<a.length→a.getD i []=b.getD i [])=decide (a=b):=decide_eq_decide.2 (jo ([]:Str)).symm
 rw [e]at c
 exact c
end RC
end
section
open Go Go.Proofs AF HY LN
namespace RC
def qhv (names:List Str) (gs:List Gr) (e:En):Nat→List Int×Bool
 |0=>(qcd names gs e.sup,false)
 |i+1=>(zA (fun k=>decide ((k:Int)∈(qhv names gs e i).1)||decide ((k:Int)∈qcd names gs (e.vars.getD i default).sigla)) 64,(qhv names gs e i).2||(qhv names gs e i).1.any fun x=>decide (x∈qcd names gs (e.vars.getD i default).sigla))
theorem ql5 (names:List Str) (gs:List Gr) (e:En) (i:Nat):qhv names gs e (i+1)=(zA (fun k=>decide ((k:Int)∈(qhv names gs e i).1)||decide ((k:Int)∈qcd names gs (e.vars.getD i default).sigla)) 64,(qhv names gs e i).2||(qhv names gs e i).1.any fun x=>decide (x∈qcd names gs (e.vars.getD i default).sigla)):=rfl
theorem qml (L:List Int): ∀(C:List Int) (j:Nat),L.Nodup→(∀x∈L,0≤x∧x<C.length)→j<C.length→(qo8 C L).getD j 0=C.getD j 0+if (j:Int)∈L then 1 else 0:=by
 induction L with
 |nil=>intro C j _ _ _;simp [qo8]
 |cons n L ih=>
  intro C j hn hL hj
  obtain ⟨h1,h2⟩:=List.nodup_cons.1 hn
  have hb:=hL n (by simp)
  show (qo8 (C.set n.toNat (C.getD n.toNat 0+1)) L).getD j 0=_
  rw [ih _ j h2 (fun x hx=>by rw [List.length_set];exact hL x (by simp [hx])) (by rw [List.length_set];exact hj)]
  by_cases e:(j:Int)=n
  ·have e2:n.toNat=j:=by omega
   have e3: ¬(j:Int)∈L:=by rw [e];exact h1
   rw [if_neg e3,if_pos (by rw [e];simp),e2]
   have:(C.set j (C.getD j 0+1)).getD j 0=C.getD j 0+1:=by
    rw [gdqA,List.getElem?_set_self hj];rfl
   rw [this]
   omega
  ·have e2: ¬n.toNat=j:=by omega
   have:(C.set n.toNat (C.getD n.toNat 0+1)).getD j 0=C.getD j 0:=by
    rw [gdqA,List.getElem?_set_ne e2,←gdqA]
   rw [this]
   congr 1
   simp [e]
theorem qgt (p:Nat→Bool) (n:Nat):(zA p n).Nodup:=by
 unfold zA
 rw [List.Nodup,List.pairwise_map]
 refine List.Pairwise.imp ?_ (List.Pairwise.filter _ List.nodup_range)
 intro a b hab hc
 exact hab (by have hx:(a:Int)=(b:Int):=hc;omega)
theorem qce (names:List Str) (gs:List Gr) (sg:List Str):(qcd names gs sg).Nodup:=by
 unfold qcd
 split
 ·exact qgt _ _
 ·exact List.nodup_nil
structure qxc (A:List Int) (B:Bool) (C:List Int):Prop where
 len:C.length=32
 rng: ∀x∈A,0≤x∧x<32
 mem: ∀k:Nat,k<32→((k:Int)∈A↔1≤C.getD k 0)
 nn: ∀k:Nat,k<32→0≤C.getD k 0
 tw:B=true↔ ∃k:Nat,k<32∧1<C.getD k 0
theorem qfk {A O A' C:List Int} {B:Bool} (h:qxc A B C) (ho:O.Nodup) (hr: ∀x∈O,0≤x∧x<32) (hA: ∀x,x∈A'↔x∈A∨x∈O):qxc A' (B||A.any fun x=>decide (x∈O)) (qo8 C O):=by
 have hl:=h.len
 have hg:=fun (k:Nat) (hk:k<32)=>qml O C k ho (fun x hx=>by have:=hr x hx;omega) (by omega)
 refine ⟨by rw [qmm,hl],fun x hx=> ?_,fun k hk=> ?_,fun k hk=> ?_,?_⟩
 ·rcases (hA x).1 hx with hx|hx
  ·exact h.rng x hx
  ·exact hr x hx
 ·rw [hA,h.mem k hk,hg k hk]
  have:=h.nn k hk
  by_cases e:(k:Int)∈O
  ·rw [if_pos e]
   exact ⟨fun _=>by omega,fun _=> .inr e⟩
  ·rw [if_neg e]
   constructor
   ·rintro (h1|h1)
    ·omega
    ·exact absurd h1 e
   ·intro h1;exact .inl (by omega)
 ·rw [hg k hk]
  have:=h.nn k hk
  split<;>omega
 ·rw [Bool.or_eq_true,h.tw,List.any_eq_true]
  constructor
  ·rintro (⟨k,hk,h1⟩|⟨x,hx,h1⟩)
   ·refine ⟨k,hk,?_⟩
    rw [hg k hk]
    split<;>omega
   ·have h1:=of_decide_eq_true h1
    have hx2:=h.rng x hx
    have e:((x.toNat:Nat):Int)=x:=by omega
    refine ⟨x.toNat,by omega,?_⟩
    rw [hg _ (by omega),e,if_pos h1]
    have:=(h.mem x.toNat (by omega)).1 (by rw [e];exact hx)
    omega
  ·rintro ⟨k,hk,h1⟩
   rw [hg k hk]at h1
   by_cases e:(k:Int)∈O
   ·rw [if_pos e]at h1
    exact .inr ⟨(k:Int),(h.mem k hk).2 (by omega),decide_eq_true e⟩
   ·rw [if_neg e]at h1
    exact .inl ⟨k,hk,by omega⟩
theorem qro:qxc [] false (List.replicate 32 0):=by
 have g: ∀k:Nat,k<32→(List.replicate 32 (0:Int)).getD k 0=0:=fun k hk=>by
  rw [gdqA,List.getElem?_replicate,if_pos hk];rfl
 refine ⟨by simp,fun x hx=>by simp at hx,fun k hk=> ?_,fun k hk=> ?_,?_⟩
 ·rw [g k hk];simp
 ·rw [g k hk];omega
 ·constructor
  ·intro h;cases h
  ·rintro ⟨k,hk,h1⟩;rw [g k hk]at h1;omega
theorem qpV (names:List Str) (gs:List Gr) (e:En): ∀i,qxc (qhv names gs e i).1 (qhv names gs e i).2 (cnt names gs e i):=by
 have hO:=fun sg=>qau (@qmX names gs sg)
 intro i
 induction i with
 |zero=>
  have:=qfk (A':=qcd names gs e.sup) qro (qce names gs e.sup) (hO e.sup) (fun x=>by simp)
  exact this
 |succ i ih=>
  rw [ql5]
  unfold cnt
  refine qfk ih (qce _ _ _) (hO _) (fun x=> ?_)
  rw [qnt]
  constructor
  ·rintro ⟨k,hk,h1,rfl⟩
   simpa using h1
  ·intro hx
   have hb:0≤x∧x<32:=by
    rcases hx with hx|hx
    ·exact ih.rng x hx
    ·exact hO _ x hx
   have e:((x.toNat:Nat):Int)=x:=by omega
   refine ⟨x.toNat,by omega,?_,e.symm⟩
   simp only [e]
   simpa using hx
theorem qc9 (names:List Str) (gs:List Gr) (e:En) (i:Nat):qsj (cnt names gs e i)=(qhv names gs e i).2:=by
 have h:=qpV names gs e i
 unfold qsj
 rw [h.len,Bool.eq_iff_iff,h.tw,qM]
 simp only [decide_eq_true_eq]
end RC
end
section
open Go Go.Proofs AF HY LN
namespace RC
set_option maxHeartbeats 16000000
end RC
end
section
open Go Go.Proofs AF HY LN
namespace RC
set_option maxHeartbeats 8000000
def inV (names:List Str) (gs:List Gr) (e:En) (src:Int) (i:Nat):Bool:=decide (src∈qcd names gs (e.vars.getD i default).sigla)
def vIx (names:List Str) (gs:List Gr) (e:En) (src:Int):Int:=kS (inV names gs e src) e.vars.length 0
def qyN (a b:En):Bool:=decide (a.frm<b.frm)||decide (a.frm=b.frm)&&decide (a.to<b.to)
end RC
end
section
open Go Go.Proofs AF
def qrm:List Nat:= [132,109,174,220,68]
def qtl:C:=
 ((C.ops [MC 2 (.bool false)]).seq ((C.ops [MV 3 0,MV 4 0,BI 5 .neq 3 4,MV 2 5]).seq
 C.ret))
theorem quD:qL Tryz.prog 195 6 0 [RV.tmp 2] qtl:=fi Tryz.f195 [] qrm [] (by kernel_rfl) (by kernel_rfl) (by kernel_rfl) (by kernel_rfl)
end
section
open Go Go.Proofs AF HY LN
namespace RC
set_option maxHeartbeats 8000000
def qpc (a b:Int):Int:=if a<b then-1 else if b<a then 1 else 0
theorem qy4 (a:Int) (h:List AObj):ACalls Tryz.prog 195 [.int .i64 a] h (.bool false) h:=by
 have k:(a=a)=True:=eq_true rfl
 refine acO quD ?_
 simp (disch:=omega) only [qtl,List.replicate,k,go_sem]
 repeat' first
  |((first|apply qd|apply qb);exact rvk;simp only [go_sem];first|exact VLe.refl _|apply qe|apply qa|apply qf|skip)
  |with_reducible first|apply And.intro|intro _
 all_goals try exact clz
theorem qzy (a b:Int) (h:List AObj):ACalls Tryz.prog 141 [.int .i64 a,.int .i64 b] h (.int .i64 (qpc a b)) h:=by
 have c1:=fun h=>qy4 a h
 have c2:=fun h=>qy4 b h
 unfold qpc
 by_cases g1:a<b
 ·have k1:(a<b)=True:=eq_true g1
  rw [if_pos g1]
  refine acO qjn ?_
  simp (disch:=omega) only [qmn,List.replicate,k1,go_sem]
  repeat' first
   |((first|refine cA (c1 _) ?_ ?_|refine cG (fun e=>c1 _) ?_ ?_|refine cA (c2 _) ?_ ?_|refine cG (fun e=>c2 _) ?_ ?_|refine cU (fun _=>c1 _) ?_ ?_|refine cU (fun _=>c2 _) ?_ ?_);(next=>exact flk);simp (disch:=omega) only [k1,go_sem])
   |((first|apply qd|apply qb);exact rvk;simp only [go_sem];first|exact VLe.refl _|apply qe|apply qa|apply qf|skip)
   |with_reducible first|apply And.intro|intro _
  all_goals try exact clz
 have k1:(a<b)=False:=eq_false g1
 rw [if_neg g1]
 by_cases g2:b<a
 ·have k2:(b<a)=True:=eq_true g2
  rw [if_pos g2]
  refine acO qjn ?_
  simp (disch:=omega) only [qmn,List.replicate,k1,k2,go_sem]
  repeat' first
   |((first|refine cA (c1 _) ?_ ?_|refine cG (fun e=>c1 _) ?_ ?_|refine cA (c2 _) ?_ ?_|refine cG (fun e=>c2 _) ?_ ?_|refine cU (fun _=>c1 _) ?_ ?_|refine cU (fun _=>c2 _) ?_ ?_);(next=>exact flk);simp (disch:=omega) only [k1,k2,go_sem])
   |((first|apply qd|apply qb);exact rvk;simp only [go_sem];first|exact VLe.refl _|apply qe|apply qa|apply qf|skip)
   |with_reducible first|apply And.intro|intro _
  all_goals try exact clz
 ·have k2:(b<a)=False:=eq_false g2
  rw [if_neg g2]
  refine acO qjn ?_
  simp (disch:=omega) only [qmn,List.replicate,k1,k2,go_sem]
  repeat' first
   |((first|refine cA (c1 _) ?_ ?_|refine cG (fun e=>c1 _) ?_ ?_|refine cA (c2 _) ?_ ?_|refine cG (fun e=>c2 _) ?_ ?_|refine cU (fun _=>c1 _) ?_ ?_|refine cU (fun _=>c2 _) ?_ ?_);(next=>exact flk);simp (disch:=omega) only [k1,k2,go_sem])
   |((first|apply qd|apply qb);exact rvk;simp only [go_sem];first|exact VLe.refl _|apply qe|apply qa|apply qf|skip)
   |with_reducible first|apply And.intro|intro _
  all_goals try exact clz
end RC
end
section
namespace RC
variable {α : Type}
def qxf (lt:α→α→Bool) (x:α):List α→List α
 | []=> [x]
 |y::r=>if lt x y=true then y::qxf lt x r else x::y::r
def qsd (lt:α→α→Bool):List α→List α→List α
 |acc,[]=>acc
 |acc,x::r=>qsd lt (qxf lt x acc) r
end RC
end
section
namespace RC
variable {α : Type}
end RC
end
section
open Go Go.Proofs AF HY LN
namespace RC
set_option maxHeartbeats 8000000
end RC
end
section
open Go Go.Proofs AF HY LN
namespace RC
set_option maxHeartbeats 8000000
end RC
end
section
open Go Go.Proofs AF HY LN
namespace RC
set_option maxHeartbeats 4000000
def qza (l:List En):List En:=(qsd qyN [] l).reverse
def qzH (names:List Str) (gs:List Gr) (src:Int) (e:En):Bool:=decide (0≤vIx names gs e src)
def ofE (names:List Str) (gs:List Gr) (l:List En) (src:Int):List En:=(qza l).filter (qzH names gs src)
theorem qjE {α:Type} {lt:α→α→Bool} {x:α}: ∀l:List α,(qxf lt x l).Perm (x::l):=by
 intro l
 induction l with
 |nil=>exact List.Perm.refl _
 |cons y r ih=>
  unfold qxf
  split
  ·exact (List.Perm.cons y ih).trans (List.Perm.swap x y r)
  ·exact List.Perm.refl _
theorem qgU {α:Type} {lt:α→α→Bool}: ∀l acc:List α,(qsd lt acc l).Perm (acc++l):=by
 intro l
 induction l with
 |nil=>intro acc;rw [List.append_nil];exact List.Perm.refl _
 |cons x r ih=>
  intro acc
  refine (ih _).trans ((List.Perm.append_right r (qjE acc)).trans ?_)
  exact (List.perm_middle (a:=x) (l₁:=acc) (l₂:=r)).symm
theorem qk6 (l:List En):(qza l).Perm l:=(List.reverse_perm _).trans (by simpa using qgU (lt:=qyN) l [])
def qmD (a b:En):Bool:=decide (b.frm<a.to)||decide (a.frm=b.frm)&&decide (a.to=b.to)
def qdj:List En→Bool
 |a::b::r=>qmD a b||qdj (b::r)
 |_=>false
theorem qiQ (L:List En):qdj L=true↔ ∃i,i+1<L.length∧qmD (L.getD i default) (L.getD (i+1) default)=true:=by
 induction L with
 |nil=>simp [qdj]
 |cons a L ih=>
  cases L with
  |nil=>simp [qdj]
  |cons b r=>
   rw [qdj,Bool.or_eq_true,ih]
   constructor
   ·rintro (h|⟨i,h1,h2⟩)
    ·exact ⟨0,by simp,h⟩
    ·exact ⟨i+1,by simpa using h1,h2⟩
   ·rintro ⟨i,h1,h2⟩
    cases i with
    |zero=>exact .inl h2
    |succ i=>exact .inr ⟨i,by simpa using h1,h2⟩
def qe7 (names:List Str) (gs:List Gr) (l:List En):Bool:=zr (fun s=>qdj (ofE names gs l (s:Int))) names.length
end RC
end
section
open Go Go.Proofs AF HY LN
namespace RC
set_option maxHeartbeats 4000000
def qaE (L:List En):List AV:=L.flatMap enC
theorem qel (e:En):(enC e).length=6:=rfl
theorem qfa (L:List En):(qaE L).length=L.length*6:=by
 unfold qaE
 induction L with
 |nil=>rfl
 |cons a L ih=>rw [List.flatMap_cons,List.length_append,ih,List.length_cons,qel];omega
theorem qmQ (A B:List En):qaE (A++B)=qaE A++qaE B:=by simp [qaE]
theorem qmS (a:En):qaE [a]=enC a:=by simp [qaE]
theorem qi5 (L:List En): ∀i,(qaE L).drop (i*6)=qaE (L.drop i):=by
 induction L with
 |nil=>intro i;simp [qaE]
 |cons a L ih=>
  intro i
  cases i with
  |zero=>simp
  |succ i=>
   have e:qaE (a::L)=enC a++qaE L:=rfl
   rw [List.drop_succ_cons,e,List.drop_append,qel,show (i+1)*6-6=i*6 by omega,ih]
   rw [List.drop_eq_nil_of_le (by rw [qel];omega)]
   rfl
theorem qmR {L:List En} {i:Nat} (hi:i<L.length):((qaE L).drop (i*6)).take 6=enC (L.getD i default):=by
 rw [qi5,List.drop_eq_getElem_cons hi,gdqA,zM hi]
 rfl
end RC
end
section
open Go Go.Proofs AF HY LN
namespace RC
set_option maxHeartbeats 4000000
theorem qmz {L:List En} (hc:qdj L=false) {i:Nat} (hi:i+1<L.length):(L.getD i default).to≤(L.getD (i+1) default).frm:=by
 cases h:qmD (L.getD i default) (L.getD (i+1) default)with
 |true=>rw [(qiQ L).2 ⟨i,hi,h⟩]at hc;cases hc
 |false=>
  unfold qmD at h
  rw [Bool.or_eq_false_iff,decide_eq_false_iff_not]at h
  omega
theorem qbW {names:List Str} {gs:List Gr} {l:List En} (h:qe7 names gs l=false) {s:Nat} (hs:s<names.length):qdj (ofE names gs l (s:Int))=false:=
 qq.1 h s hs
structure qyL (names:List Str) (gs:List Gr) (t:List Str) (l:List En):Prop where
 sg:sgE names gs=0
 n:l.length≤4096
 ck: ∀e∈l,qxB names gs t e=0
 cl:qe7 names gs l=false
structure qxm (names:List Str) (gs:List Gr) (t:List Str) (e:En):Prop where
 sg:sgE names gs=0
 tn:t.length≤4096
 tw:qlS t=0
 lay:0≤e.layer∧e.layer<16
 rng:0≤e.frm∧e.frm≤e.to∧e.to≤t.length
 sp:0<e.sup.length→e.pos=true
 ne:e.vars.length≠0
 va: ∀i,i<e.vars.length→qoW t e i=0
 es:qi9 names gs e.sup=0
 ev: ∀i,i<e.vars.length→qi9 names gs (e.vars.getD i default).sigla=0
 tc:(qhv names gs e e.vars.length).2=false
theorem qqv {names:List Str} {gs:List Gr} {t:List Str} {e:En}:qxB names gs t e=0↔qxm names gs t e:=by
 unfold qxB
 constructor
 ·intro h
  split at h
  ·cases h
  rename_i h1
  split at h
  ·cases h
  rename_i h2
  split at h
  ·cases h
  rename_i h3
  split at h
  ·cases h
  rename_i h4
  split at h
  ·cases h
  rename_i h5
  split at h
  ·cases h
  rename_i h6
  split at h
  ·rename_i h7;exact absurd h h7
  rename_i h7
  split at h
  ·rename_i h8;exact absurd h h8
  rename_i h8
  split at h
  ·rename_i h9;exact absurd h h9
  rename_i h9
  split at h
  ·cases h
  rename_i h10
  unfold qsU at h4
  refine ⟨Classical.not_not.1 h1,by omega,Classical.not_not.1 h3,by omega,by omega,fun h=> ?_,h6,jG.1 (Classical.not_not.1 h7),Classical.not_not.1 h8,jG.1 (Classical.not_not.1 h9),?_⟩
  ·cases hp:e.pos with
   |true=>rfl
   |false=>exact absurd ⟨h,hp⟩ h5
  ·rw [qc9]at h10
   simpa using h10
 ·rintro ⟨h1,h2,h3,h4,h5,h6,h7,h8,h9,h10,h11⟩
  have hr: ¬qsU t e:=by unfold qsU;omega
  rw [if_neg (fun hc=>hc h1),if_neg (by omega),if_neg (fun hc=>hc h3),if_neg hr,if_neg (by rintro ⟨a,b⟩;rw [h6 a]at b;cases b),if_neg h7,if_neg (fun hc=>hc (zk (f:=qoW t e) h8)),if_neg (fun hc=>hc h9),
   if_neg (fun hc=>hc (zk (f:=fun i=>qi9 names gs (e.vars.getD i default).sigla) h10)),if_neg (by rw [qc9,h11];simp)]
end RC
end
section
open Go Go.Proofs AF HY LN
namespace RC
set_option maxHeartbeats 8000000
section
variable {k v w : Nat} {h : List AObj} {o o' : AObj} {ty : TypeId} {cs : List AV}
theorem cellsOf_setm (hk:k<h.length):cellsOf (qG k h (.mem w ty cs)) k v=if w=v then some cs else none:=by
 have:=qed (l:= []) (v:=v) (w:=w) (ty:=ty) (cs:=cs) hk
 simpa using this
theorem setO_setm:qG k (qG k h o) o'=qG k h o':=qkN
theorem tyOf_setm (hk:k<h.length):qoI (qy k (qG k h (.mem w ty cs)))=ty:=by rw [qam hk];rfl
end
attribute [go_sem] cellsOf_setm setO_setm tyOf_setm
end RC
end
section
open Go Go.Proofs AF HY LN
namespace AF
theorem Wk.cells {t:List AV} {h:List AObj} {j v:Nat} {ty:TypeId} {cs cs':List AV} (hj:qy j h=some (.mem v ty cs)) (hc:qaF cs cs'):Wk t h t (qG j h (.mem v ty cs')):=by
 intro N w σ a H
 have hjl:j<σ.length:=by rw [H.hr.len];exact j0 hj
 have ho:=zM hjl
 obtain ⟨m1,m2,b,arr,m3,m4,m5,m6,m7,m8⟩:=H.hr.obj j _ _ hj ho
 have q:=H.hr.recell (cs':=cs') hj ho m3 m4 m5 (by rw [hc.length];exact m6) (fun i x hi hx=>m7 i x (by rw [←hc.length];exact hi) hx) (fun i c x hi hx=>by
  obtain ⟨c0,h1,h2⟩:=hc.get i c hi
  exact h2 _ _ _ (m8 i c0 x h1 hx))
 exact ⟨σ,⟨q,H.sz,H.tm,H.df⟩,Ext.refl _ _⟩
end AF
namespace RC
set_option maxHeartbeats 4000000
end RC
end
section
open Go Go.Proofs AF HY LN
namespace RC
set_option maxHeartbeats 4000000
def stV (names:List Str) (gs:List Gr) (e:En):AV:= .sl e.vars.length fun j=> [qp (qcd names gs (e.vars.getD j default).sigla)]
def msV (names:List Str) (gs:List Gr) (L:List En):AV:= .sl L.length fun i=> [stV names gs (L.getD i default)]
theorem qm3 (names:List Str) (gs:List Gr) (e:En):(stV names gs e).flag=true:=rfl
theorem qlh (names:List Str) (gs:List Gr) (e:En):(stV names gs e).strip=stV names gs e:=rfl
theorem qm1 (names:List Str) (gs:List Gr) (L:List En):(msV names gs L).flag=true:=rfl
theorem qlf (names:List Str) (gs:List Gr) (L:List En):(msV names gs L).strip=msV names gs L:=rfl
theorem qq9 {fz:Nat→Bool} {h:List AObj} {n:Nat} (names:List Str) (gs:List Gr) (e:En):frz fz h (n+1) (stV names gs e)=stV names gs e:=rfl
theorem qr0 {fz:Nat→Bool} {h:List AObj} {n:Nat} (names:List Str) (gs:List Gr) (e:En):rei fz h (n+1) (stV names gs e)=stV names gs e:=rfl
theorem qq8 {fz:Nat→Bool} {h:List AObj} {n:Nat} (names:List Str) (gs:List Gr) (L:List En):frz fz h (n+1) (msV names gs L)=msV names gs L:=rfl
theorem qrZ {fz:Nat→Bool} {h:List AObj} {n:Nat} (names:List Str) (gs:List Gr) (L:List En):rei fz h (n+1) (msV names gs L)=msV names gs L:=rfl
attribute [go_sem] qm3 qlh qm1 qlf qq9 qr0 qq8 qrZ
end RC
end
