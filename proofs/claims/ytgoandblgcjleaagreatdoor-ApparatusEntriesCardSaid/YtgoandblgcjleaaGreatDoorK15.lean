import Derived.Test.YtgoandblgcjleaaGreatDoorK3
import Derived.Test.YtgoandblgcjleaaGreatDoorK5
import Derived.Test.YtgoandblgcjleaaGreatDoorK8
import Derived.Test.YtgoandblgcjleaaGreatDoorProg
import Derived.Lib.IndexMore
import Derived.Lib.CountLaws
import Derived.Laws.Strings3
import Derived.Test.YtgoandblgcjleaaGreatDoorK12
import Derived.Test.YtgoandblgcjleaaGreatDoorK7
import Derived.Test.YtgoandblgcjleaaGreatDoorK13
import Derived.Test.YtgoandblgcjleaaGreatDoorK14
import Derived.Test.YtgoandblgcjleaaGreatDoorK10
import Derived.Test.YtgoandblgcjleaaGreatDoorK9
set_option linter.all false
set_option linter.unusedSimpArgs false
set_option linter.unusedVariables false
set_option linter.unusedSectionVars false
set_option maxHeartbeats 128000000
set_option maxRecDepth 100000
section
open Go Go.Proofs AF
def jI:List Nat:= []
def qzZ:C:=
 ((C.ops [MC 4 (i6 0),MC 5 (i6 0)]).seq (((C.ops [MV 9 0,O1 10 .len 9,MV 6 10]).seq (C.block 0 ((C.ops [MV 12 6,BC 13 .eql 12 (i6 0),MV 11 13]).seq (C.cond (.t 11) ((C.ops [MC
 4 (i6 0),MC 5 (i6 5)]).seq C.ret) ((C.ops [MV 15 6,BC 16 .gtr 15 (i6 16),MV 14 16]).seq (C.cond (.t 14) ((C.ops [MC 4 (i6 0),MC 5 (i6 4)]).seq C.ret) C.skip)))))).seq (((C.ops
 [MV 17 0,O1 18 .len 17,MC 19 (i6 0)]).seq (C.block 1 ((C.ops [BI 20 .lss 19 18]).seq ((C.cond (.t 20) C.skip (C.exit 1)).seq ((C.block 2 ((C.ops [MV 21 19,O2 22 (.idxA 1) 17 19,
 LD 23 22,MV 7 21,MV 8 23]).seq ((C.ops [MV 24 8,OC 25 (.call 44 true) 24 (.str [32]),MV 26 1,O2 27 (.call 43 true) 25 26,MV 28 27,MG 29 28 true 1,PC 30 28 true (.bin .neq)
 29 (.str []),PF 31 28 30]).seq (C.cond (.t 31) ((C.ops [MV 32 7,MV 4 32,MC 5 (i6 0)]).seq C.ret) C.skip)))).seq (C.ops [BC 33 .add 19 (i6 1),MV 19 33])))).loop)).seq ((C.ops
 [MV 34 0,O1 35 .len 34,BC 36 .sub 35 (i6 1),MV 4 36,MC 5 (i6 0)]).seq
 C.ret))))
theorem qtg:qG Tryz.prog 27 37 0 [RV.tmp 4,RV.tmp 5] qzZ:=fi Tryz.f27 [] jI []
def qAb:C:=
 ((C.ops [MC 4 (i6 0),MC 5 (i6 0)]).seq (((C.ops [MV 10 0,O1 11 (.call 99 true) 10,MV 6 11]).seq ((C.ops [MV 12 6,BC 13 .neq 12 (i6 0)]).seq (C.cond (.t 13) ((C.ops [MV 14 6,MC
 4 (i6 0),MV 5 14]).seq C.ret) C.skip))).seq (((C.ops [MC 7 (i6 0)]).seq (C.block 0 (((C.ops [MV 15 7,MV 16 0,O1 17 .len 16,BI 18 .lss 15 17]).seq (C.cond (.t 18) C.skip (C.exit
 0))).seq ((C.block 1 ((C.ops [MV 21 0,MV 22 7,O2 23 (.idxA 1) 21 22,LD 24 23,O1 25 (.call 104 true) 24,MV 8 25]).seq ((C.ops [MC 9 (i6 0)]).seq (C.block 2 (((C.ops [MV 26 9,
 MV 27 8,O1 28 .len 27,BI 29 .lss 26 28]).seq (C.cond (.t 29) C.skip (C.exit 2))).seq ((C.block 3 ((C.ops [MV 32 8,MV 33 9,O2 34 (.idxA 1) 32 33,LD 35 34,MV 36 1,BI 37 .eql
 35 36]).seq (C.cond (.t 37) ((C.ops [MV 38 7,MV 4 38,MC 5 (i6 0)]).seq C.ret) C.skip))).seq (C.ops [MV 30 9,BC 31 .add 30 (i6 1),MV 9 31]))).loop)))).seq (C.ops [MV 19 7,BC 20
 .add 19 (i6 1),MV 7 20]))).loop)).seq ((C.ops [MV 39 0,O1 40 .len 39,BC 41 .sub 40 (i6 1),MV 4 41,MC 5 (i6 0)]).seq
 C.ret))))
theorem qxQ:qG Tryz.prog 28 42 0 [RV.tmp 4,RV.tmp 5] qAb:=fi Tryz.f28 [] jI []
def qAc:C:=
 ((C.ops [O1 3 (.box 0 3) 1,MC 4 (i6 0),MC 5 (i6 0),MC 6 (i6 0)]).seq ((C.ops [O1 10 (.mkfn (Fn.func 105) 0) 3,MV 7 10]).seq ((C.ops [MV 11 0,MV 12 7,O2 13 (.call 106 true) 11
 12,MV 8 13]).seq (((C.ops [MV 14 8,BC 15 .lss 14 (i6 0)]).seq (C.cond (.t 15) ((C.ops [MC 4 (i6 0),MC 5 (i6 0),MC 6 (i6 6)]).seq C.ret) C.skip)).seq ((C.ops [MV 16 8,MV 9
 16]).seq ((C.block 0 (((C.ops [MV 17 9,MV 18 0,O1 19 .len 18,BI 20 .lss 17 19,MV 21 20,MG 22 21 true 7,MG 23 21 true 0,MG 24 21 true 9,P2 25 21 true (.idxA 7) 23 24,P1 26
 21 true (.load (some 7)) 25,P2 27 21 true .callv 22 26,PF 28 21 27]).seq (C.cond (.t 28) C.skip (C.exit 0))).seq (C.block 1 (C.ops [MV 29 9,BC 30 .add 29 (i6 1),MV 9
 30]))).loop).seq (((C.ops [MV 31 0,MV 32 9,O2 33 (.slc 7 true false) 31 32,MV 34 7,O2 35 (.call 92 true) 33 34]).seq (C.cond (.t 35) ((C.ops [MC 4 (i6 0),MC 5 (i6 0),MC 6 (i6
 10)]).seq C.ret) C.skip)).seq ((C.ops [MV 36 8,MV 37 9,MV 4 36,MV 5 37,MC 6 (i6 0)]).seq
 C.ret))))))))
theorem qx0:qG Tryz.prog 31 38 1 [RV.tmp 4,RV.tmp 5,RV.tmp 6] qAc:=fi Tryz.f31 [3] jI []
def qvs:C:=
 ((C.ops [O1 2 (.box 0 64) 0,MC 3 (.bool false)]).seq ((C.ops [O1 4 (.fldA 2) 2,LD 5 4,LD 6 1,BI 7 .eql 5 6,MV 3 7]).seq
 C.ret))
theorem qwU:qG Tryz.prog 105 8 1 [RV.tmp 3] qvs:=fi Tryz.f105 [2] jI []
def qr0:C:=
 ((C.ops [O1 5 (.box 0 83) 2,MC 6 (i6 0),MC 7 (i6 0)]).seq (((C.ops [MV 15 0,MV 16 1,O2 17 (.call 31 true) 15 16,MV 14 17,O1 18 (.ext 0) 14,O1 19 (.ext 1) 14,O1 20 (.ext 2)
 14,MV 8 18,MV 9 19,MV 10 20]).seq ((C.ops [MV 21 10,BC 22 .eql 21 (i6 0)]).seq (C.cond (.t 22) ((C.ops [MV 23 8,MV 24 9,MV 6 23,MV 7 24]).seq C.ret) C.skip))).seq ((C.ops
 [MC 11 (i6 0)]).seq (((C.ops [MV 25 0,O1 26 .len 25,MC 27 (i6 0)]).seq (C.block 0 ((C.ops [BI 28 .lss 27 26]).seq ((C.cond (.t 28) C.skip (C.exit 0)).seq ((C.block 1 ((C.ops [O2
 29 (.idxA 7) 25 27,O1 30 (.load (some 7)) 29,⟨some 13,none,.alloc 1 64 [.str [],i6 0,i6 0,i6 0,.bool false,.bool false,.str []],[]⟩,ST 7 13 30]).seq ((C.ops [O1 31
 (.fldA 1) 13,LD 32 31,O1 33 (.fldA 0) 5,LD 34 33,BI 35 .lss 32 34]).seq (C.cond (.t 35) (C.ops [MV 36 11,BC 37 .add 36 (i6 1),MV 11 37]) C.skip)))).seq (C.ops [BC 38 .add 27
 (i6 1),MV 27 38])))).loop)).seq ((C.ops [MV 39 11,MV 40 11,MV 6 39,MV 7 40]).seq
 C.ret)))))
theorem qqP:qG Tryz.prog 160 41 2 [RV.tmp 6,RV.tmp 7] qr0:=fi Tryz.f160 [5,13] jI []
def qvA:C:=
 ((C.ops [O1 5 (.box 0 83) 0,O1 6 (.box 1 22) 1,O1 7 (.box 2 22) 2,O1 8 (.box 3 22) 3,O1 9 (.box 4 3) 4,MC 10 .nilfn]).seq ((C.ops [ON 11 (.mkfn (Fn.func 215) 0) [.t 5,.t 8,
 .t 6,.t 9,.t 7],MV 10 11]).seq
 C.ret))
theorem qw5:qG Tryz.prog 161 12 5 [RV.tmp 10] qvA:=fi Tryz.f161 [5,6,7,8,9] jI []
def qvU:C:=
 ((C.ops [O1 11 (.fldA 2) 1,LD 12 11,O1 13 .len 12,MC 14 (i6 0)]).seq (C.block 0 ((C.ops [BI 15 .lss 14 13]).seq ((C.cond (.t 15) C.skip (C.exit 0)).seq ((C.block 1 ((C.ops [MV
 16 14,O2 17 (.idxA 2) 12 14,O1 18 (.load (some 2)) 17,⟨some 8,none,.alloc 0 89 [.nl,.nl],[]⟩,MV 7 16,ST 2 8 18]).seq ((C.ops [LD 20 2,LD 21 3,MV 22 7,O2 23 (.idxA 1) 21
 22,LD 24 23,O2 25 (.call 27 true) 20 24,MV 19 25,O1 26 (.ext 0) 19,O1 27 (.ext 1) 19,MV 9 26,MV 10 27]).seq ((C.ops [MV 28 9,LD 29 4,BI 30 .eql 28 29,MV 31 30,P1 32 31
 true (.fldA 0) 8,P1 33 31 true (.load none) 32,P1 34 31 true (.load none) 5,P2 35 31 true (.call 139 true) 33 34,P1 36 31 true (.un UnOp.not) 35,PF 37 31 36,MV 38 37,MG 39
 38 true 0,P1 40 38 true (.load (some 2)) 8,P2 41 38 true .callv 39 40,P1 42 38 true (.un UnOp.not) 41,PF 43 38 42]).seq (C.cond (.t 43) C.ret C.skip))))).seq (C.ops [BC 44 .add
 14 (i6 1),MV 14
 44])))).loop))
theorem qxr:qG Tryz.prog 215 45 1 [] qvU:=fi Tryz.f215 [8] jI []
def qvB:C:=
 ((C.ops [O1 2 (.box 0 89) 0,MC 3 (.bool false)]).seq ((C.ops [O1 4 (.fldA 0) 2,LD 5 4,LD 6 1,O2 7 (.call 139 true) 5 6,MV 3 7]).seq
 C.ret))
theorem qw6:qG Tryz.prog 162 8 1 [RV.tmp 3] qvB:=fi Tryz.f162 [2] jI []
def qz0:C:=
 ((C.ops [MC 2 (i6 0)]).seq (((C.ops [MV 3 0,O1 4 .len 3,BC 5 .eql 4 (i6 0)]).seq (C.cond (.t 5) ((C.ops [MC 2 (i6 5)]).seq C.ret) C.skip)).seq (((C.ops [MV 6 0,O1 7 .len 6,BC 8
 .gtr 7 (i6 16)]).seq (C.cond (.t 8) ((C.ops [MC 2 (i6 4)]).seq C.ret) C.skip)).seq ((C.ops [MC 2 (i6 0)]).seq
 C.ret))))
theorem qti:qG Tryz.prog 99 9 0 [RV.tmp 2] qz0:=fi Tryz.f99 [] jI []
def qvp:C:=
 ((C.ops [ON 4 (.nilo 0 1 9) []]).seq ((C.ops [⟨some 7,none,.bslc 1 1 0 9 [.str []] [],[]⟩,MV 5 7]).seq (((C.ops [MC 6 (i6 0)]).seq (C.block 0 (((C.ops [MV 8 6,MV 9 0,O1 10
 .len 9,BI 11 .lss 8 10]).seq (C.cond (.t 11) C.skip (C.exit 0))).seq ((C.block 1 ((C.ops [MV 14 0,MV 15 6,O2 16 (.idxA 7) 14 15,O1 17 (.fldA 2) 16,LD 18 17,MV 19 1,BI 20
 .eql 18 19]).seq (C.cond (.t 20) (C.ops [MV 21 5,MV 22 0,MV 23 6,O2 24 (.idxA 7) 22 23,O1 25 (.fldA 0) 24,LD 26 25,⟨some 27,none,.bslc 2 1 1 9 [.str []] [(0,1)],[.t 26]⟩,
 O2 28 (.app 3 1 9 16) 21 27,MV 5 28]) C.skip))).seq (C.ops [MV 12 6,BC 13 .add 12 (i6 1),MV 6 13]))).loop)).seq ((C.ops [MV 29 5,MV 4 29]).seq
 C.ret))))
theorem qwR:qG Tryz.prog 100 30 4 [RV.tmp 4] qvp:=fi Tryz.f100 [4,7,27,28] jI []
def qvq:C:=
 ((C.ops [O1 4 (.box 0 83) 1,MC 6 (i6 0),MC 7 (i6 0)]).seq ((C.ops [MC 8 (i6 0)]).seq ((C.block 0 (((C.ops [MV 9 8,MV 10 0,O1 11 .len 10,BI 12 .lss 9 11,MV 13 12,MG 14 13
 true 0,MG 15 13 true 8,P2 16 13 true (.idxA 7) 14 15,P1 17 13 true (.fldA 2) 16,P1 18 13 true (.load none) 17,MG 19 13 true 2,P2 20 13 true (.bin .neq) 18 19,PF 21 13 20,MV
 22 21,MG 23 22 true 0,MG 24 22 true 8,P2 25 22 true (.idxA 7) 23 24,P1 26 22 true (.fldA 1) 25,P1 27 22 true (.load none) 26,P1 28 22 true (.fldA 0) 4,P1 29 22 true (.load
 none) 28,P2 30 22 true (.bin .lss) 27 29,PF 31 22 30]).seq (C.cond (.t 31) C.skip (C.exit 0))).seq (C.block 1 (C.ops [MV 32 8,BC 33 .add 32 (i6 1),MV 8 33]))).loop).seq ((C.ops
 [MV 34 8,MV 35 8,MV 36 0,MV 37 2,O2 38 (.call 100 true) 36 37,O1 39 .len 38,BI 40 .add 35 39,MV 6 34,MV 7 40]).seq
 C.ret))))
theorem qwS:qG Tryz.prog 101 41 1 [RV.tmp 6,RV.tmp 7] qvq:=fi Tryz.f101 [4] jI []
def qvr:C:=
 ((C.ops [ON 2 (.nilo 0 1 9) []]).seq ((C.ops [⟨some 6,none,.bslc 1 1 0 9 [.str []] [],[]⟩,MV 3 6]).seq ((C.ops [MC 4 (.str [])]).seq (((C.ops [MC 5 (i6 0)]).seq (C.block 0
 (((C.ops [MV 7 5,MV 8 0,O1 9 .slen 8,BI 10 .leq 7 9]).seq (C.cond (.t 10) C.skip (C.exit 0))).seq ((C.block 1 (((C.ops [MV 13 5,MV 14 0,O1 15 .slen 14,BI 16 .lss 13 15,MV 17
 16,MG 18 17 true 0,MG 19 17 true 5,P2 20 17 true .sidx 18 19,PC 21 17 true (.bin .neq) 20 (.int .u8 32),PF 22 17 21]).seq (C.cond (.t 22) ((C.ops [MV 23 4,MV 24 0,MV 25 5,
 MV 26 5,BC 27 .add 26 (i6 1),ON 28 (.sslc true true) [.t 24,.t 25,.t 27],BI 29 .add 23 28,MV 4 29]).seq (C.exit 1)) C.skip)).seq (((C.ops [MV 30 4,BC 31 .neq 30 (.str
 [])]).seq (C.cond (.t 31) (C.ops [MV 32 3,MV 33 4,⟨some 34,none,.bslc 2 1 1 9 [.str []] [(0,1)],[.t 33]⟩,O2 35 (.app 3 1 9 16) 32 34,MV 3 35]) C.skip)).seq (C.ops [MC 4
 (.str [])])))).seq (C.ops [MV 11 5,BC 12 .add 11 (i6 1),MV 5 12]))).loop)).seq ((C.ops [MV 36 3,MV 2 36]).seq
 C.ret)))))
theorem qwT:qG Tryz.prog 104 37 4 [RV.tmp 2] qvr:=fi Tryz.f104 [2,6,34,35] jI []
end
section
set_option linter.unusedVariables false
namespace Go.Proofs
open Go.Shelf Go.RowKit Go.Lib
set_option maxHeartbeats 1000000 in
set_option maxRecDepth 100000 in
theorem qkA(s:ByteArray)(c:UInt8)(w:World):
  Calls Tryz.prog 183 #[.string s,.string ⟨#[c]⟩] w fun e w'=>e= .returned (.int .i64 (Lib.countByte s.data.toList c))∧w'=w:=by
 go_enter Tryz.func183,Tryz.ntmps183
 go_wp2
 rw[run_callFunc_extern Tryz.func239 (by kernel_rfl) (by kernel_rfl) (by kernel_rfl) (e:=Extern.BytealgCount.count) (by kernel_rfl),Lib.run_countString];simp only[Result.andThen];rw[Oper.upon_value]
 go_wp2
 go_ret
 exact⟨rfl,rfl⟩
set_option maxHeartbeats 2000000 in
set_option maxRecDepth 100000 in
theorem qlm(s:ByteArray)(c:UInt8)(w:World):
  Calls Tryz.prog 240 #[.string s,.string ⟨#[c]⟩] w fun e w'=>e= .returned (.int .i64 (Lib.indexByte s.data.toList c))∧w'=w:=by
 have e95: ∀args w,(callFunc 280 args).run Tryz.prog w= .ok (.enter 280 args) w:=enters_of Tryz.func280 (by kernel_rfl) rfl
 go_enter Tryz.func240,Tryz.ntmps240
 go_wp2_with (go_at_fn 280;refine (qgM _ _ _).mono ?_;rintro e w' ⟨rfl,rfl⟩)
 ·have h:([c]==s.toList)=true:=by assumption
  go_ret
  refine⟨?_,rfl⟩;have e:s.data.toList= [c]:=by rw[←Lib.toList_data];exact (beq_iff_eq.1 h).symm
  rw[e];simp[Lib.indexByte]
 ·go_ret
  exact⟨rfl,rfl⟩
set_option maxHeartbeats 1000000 in
theorem qoY(s:ByteArray)(c:UInt8)(w:World):
  Calls Tryz.prog 184 #[.string s,.string ⟨#[c]⟩] w fun e w'=>e= .returned (.int .i64 (Lib.indexByte s.data.toList c))∧w'=w:=by
 have e114: ∀args w,(callFunc 240 args).run Tryz.prog w= .ok (.enter 240 args) w:=enters_of Tryz.func240 (by kernel_rfl) rfl
 go_enter Tryz.func184,Tryz.ntmps184
 go_wp2_with (go_at_fn 240;refine (qlm _ _ _).mono ?_;rintro e w' ⟨rfl,rfl⟩)
 go_ret
 exact⟨rfl,rfl⟩
end Go.Proofs
end
section
open Go Go.Proofs AF HY
namespace HY
theorem qDD(s:List UInt8)(c:UInt8)(h:List AObj):ACalls Tryz.prog 183 [.str s,.str [c]] h (.int .i64 (s.count c)) h:=by
 refine⟨qyv Tryz.func183 (by kernel_rfl) (by kernel_rfl),fun w σ xs H hv=> ?_⟩;obtain⟨x,y,rfl,hx,hy⟩:=hv.two;rw[zX hx,zX hy];refine (callsIn_wide.2 (qkA ⟨s.toArray⟩ c w)).mono ?_;rintro e w' ⟨rfl,rfl⟩;exact⟨_,σ,rfl,H,.imm .int,Ext.refl _ _⟩
theorem qDE(s:List UInt8)(c:UInt8)(h:List AObj):ACalls Tryz.prog 184 [.str s,.str [c]] h (.int .i64 (Go.Lib.indexByte s c)) h:=by
 refine⟨qyv Tryz.func184 (by kernel_rfl) (by kernel_rfl),fun w σ xs H hv=> ?_⟩;obtain⟨x,y,rfl,hx,hy⟩:=hv.two;rw[zX hx,zX hy];refine (callsIn_wide.2 (qoY ⟨s.toArray⟩ c w)).mono ?_;rintro e w' ⟨rfl,rfl⟩;exact⟨_,σ,rfl,H,.imm .int,Ext.refl _ _⟩
def qah(c:UInt8)(s:List UInt8):Nat:=(s.takeWhile (· !=c)).length
def qac(c:UInt8)(s:List UInt8):Nat→List UInt8
 |0=>s
 |i+1=>(qac c s i).drop (qah c (qac c s i)+1)
def ko(c:UInt8)(s:List UInt8)(i:Nat):List UInt8:=if i<s.count c then (qac c s i).take (qah c (qac c s i)) else qac c s i
def km(c:UInt8)(s:List UInt8):List (List UInt8):=(List.range (s.count c+1)).map (ko c s)
theorem qbF(c:UInt8)(s:List UInt8):(km c s).length=s.count c+1:=by simp[km]
theorem qaC(c b:UInt8)(s:List UInt8):qah c (b::s)=if b=c then 0 else qah c s+1:=by
 unfold qah;rw[List.takeWhile_cons]
 by_cases e:b=c
 ·simp[e]
 ·simp[e]
theorem qlh(c:UInt8): ∀(s:List UInt8),0<s.count c→Go.Lib.indexByte s c=qah c s:=by
 intro s
 induction s with
 |nil=>intro h;simp at h
 |cons b s ih=>
  intro h;unfold Go.Lib.indexByte;rw[qaC]
  by_cases e:b=c
  ·simp[e]
  ·rw[List.count_cons,if_neg (by simpa using e)]at h
   have:=ih (by omega)
   rw[if_neg (by simpa using e),if_neg e,this,if_neg (by simp<;>omega)];rfl
theorem qog(c:UInt8): ∀(s:List UInt8),0<s.count c→qah c s<s.length:=by
 intro s
 induction s with
 |nil=>intro h;simp at h
 |cons b s ih=>
  intro h;rw[qaC]
  by_cases e:b=c
  ·simp[e]
  ·rw[List.count_cons,if_neg (by simpa using e)]at h
   have:=ih (by omega)
   rw[if_neg e,List.length_cons];omega
theorem qen(c:UInt8): ∀(s:List UInt8),0<s.count c→(s.drop (qah c s+1)).count c=s.count c-1:=by
 intro s
 induction s with
 |nil=>intro h;simp at h
 |cons b s ih=>
  intro h;rw[qaC]
  by_cases e:b=c
  ·simp[e]
  ·rw[List.count_cons,if_neg (by simpa using e)]at h
   have:=ih (by omega)
   rw[if_neg e,List.drop_succ_cons,this,List.count_cons,if_neg (by simpa using e)];rfl
theorem qhC(c:UInt8)(s:List UInt8): ∀i,i≤s.count c→(qac c s i).count c=s.count c-i:=by
 intro i
 induction i with
 |zero=>intro _;rfl
 |succ i ih=>
  intro h
  have:=ih (by omega)
  show ((qac c s i).drop _).count c=_;rw[qen _ _ (by omega),this];omega
theorem qpE(c:UInt8)(s:List UInt8): ∀i,(qac c s i).length≤s.length:=by
 intro i
 induction i with
 |zero=>exact Nat.le_refl _
 |succ i ih=>show ((qac c s i).drop _).length≤_;rw[List.length_drop];omega
def qaJ(c:UInt8)(s:List UInt8)(i:Nat):List (List UInt8):=(List.range (s.count c+1)).map fun j=>if j<i then ko c s j else []
theorem qe2(c:UInt8)(s:List UInt8)(i:Nat):(qaJ c s i).length=s.count c+1:=by simp[qaJ]
theorem qmO(c:UInt8)(s:List UInt8){i:Nat}(hi:i<s.count c+1):(qaJ c s i).set i (ko c s i)=qaJ c s (i+1):=by
 apply List.ext_getElem
 ·simp[qaJ]
 ·intro j h1 h2;simp only[qaJ,List.length_set,List.length_map,List.length_range]at h1;rw[List.getElem_set];simp only[qaJ,List.getElem_map,List.getElem_range]
  by_cases e:i=j
  ·subst e;simp
  ·rw[if_neg e]
   by_cases e2:j<i
   ·rw[if_pos e2,if_pos (by omega)]
   ·rw[if_neg e2,if_neg (by omega)]
theorem qmN(c:UInt8)(s:List UInt8):qaJ c s (s.count c+1)=km c s:=by
 unfold qaJ km;apply List.map_congr_left;intro j hj;rw[if_pos (by simpa using hj)]
theorem qp1(L:List (List UInt8)){i:Nat}(x:List UInt8)(hi:i<L.length):List.take i (zH L)++ [.str x]++List.drop (i+1) (zH L)=zH (L.set i x):=by
 unfold zH;rw[List.map_set,List.set_eq_take_append_cons_drop,if_pos (by simpa using hi),List.append_assoc];rfl
theorem qhZ(n:Nat):qS [.str []] n=zH (List.replicate n []):=by
 induction n with
 |zero=>rfl
 |succ n ih=>simp only[qS,ih,List.replicate_succ];rfl
theorem qiw(c:UInt8)(s:List UInt8):List.replicate (s.count c+1) []=qaJ c s 0:=by
 apply List.ext_getElem
 ·simp[qaJ]
 ·intro j h1 h2;simp[qaJ]
set_option maxHeartbeats 4000000 in
theorem u78(s:List UInt8)(c:UInt8)(h:List AObj)(hs:s.length≤1000000000):ACalls Tryz.prog 118 [.str s,.str [c],.int .i64 0,.int .i64 (-1)] h (strs (km c s)) h:=by
 have c100:=fun h=>qDD s c h
 have hcl:s.count c≤s.length:=List.count_le_length;obtain⟨N,hN⟩: ∃N,N=s.count c:=⟨_,rfl⟩
 have k1:((N:Int)+1≤(s.length:Int)+1)=True:=eq_true (by omega);have e1:min ((N:Int)+1) ((s.length:Int)+1)=(N:Int)+1:=by omega
 have e2:((N:Int)+1).toNat=N+1:=by omega
 have e3:qS [AV.str []] (N+1)=zH (qaJ c s 0):=by rw[qhZ,←qiw,hN]
 have e4:((N:Int)+1-1)=N:=by omega
 simp only[←hN]at c100;refine acO qwW ?_;simp (disch:=omega) only[qvt,go_sem]
 repeat' first
  |(refine cA (c100 _) ?_ ?_;exact flk;simp (disch:=omega) only[e1,e2,e3,e4,go_sem])
  |(apply qb;exact rvk;simp only[go_sem])
  |with_reducible first|intro _|apply aiA
 all_goals try exact clz
 refine qm (T:=fun i:Nat=>qI 66 [(0,.str (qac c s i)),(1,.str [c]),(2,.int .i64 0),(3,.int .i64 N),(9,.osl (h.length+1) 1 1 0 (N+1)),(10,.int .i64 i)]) (H:=fun i=>h++ [.emp 1,.mem 1 9 (zH (qaJ c s i))])
  (inv:=fun i=>i≤N) (m:=fun i=>N-i) 0 (by omega) (Wk.temps ?_) ?_
 ·(simp only[qac,go_sem,qh,qd,qa,qg];try (repeat' first|(with_reducible apply aiA)|(apply qi;omega)|(apply qe;rfl)|exact qj))
 rintro i i1 K hK;have eL:=zB (qaJ c s i);rw[qe2,←hN]at eL;have hst:=qp1 (qaJ c s i) (i:=i) (ko c s i) (by rw[qe2];omega);rw[qmO c s (by omega)]at hst
 by_cases hi:i<N
 ·obtain⟨r,hr⟩: ∃r,r=qac c s i:=⟨_,rfl⟩
  have hcr:=qhC c s i (by omega);rw[←hr]at hcr;have hix:=qlh c r (by omega);have hlt:=qog c r (by omega);have hrl:=qpE c s i;rw[←hr]at hrl;have hP:ko c s i=r.take (qah c r):=by unfold ko;rw[if_pos (by omega),←hr]
  have hR:qac c s (i+1)=r.drop (qah c r+1):=by rw[hr];rfl
  obtain⟨m,hm⟩: ∃m,m=qah c r:=⟨_,rfl⟩
  rw[←hm]at hix hlt hP hR;have c101:=fun h=>qDE r c h
  simp only[hix]at c101;rw[hP]at hst;simp (disch:=omega) only[qI,List.foldl,hr.symm,eL,go_sem]
  repeat' first
   |(refine cA (c101 _) ?_ ?_;exact flk;simp (disch:=omega) only[eL,go_sem])
   |(apply qb;exact rvk;simp only[go_sem])
   |with_reducible first|intro _|apply aiA
  all_goals try exact clz
  have f1:(((m:Nat):Int)+0).toNat-0=m:=by omega
  have f2:(((m:Nat):Int)+((1:Nat):Int)).toNat=m+1:=by omega
  have f3:List.take (r.length-(m+1)) (List.drop (m+1) r)=qac c s (i+1):=by rw[hR];exact List.take_of_length_le (by rw[List.length_drop];exact Nat.le_refl _)
  rw[f1,hst,f2,f3];refine hK _ _ (i+1) (by omega) (by omega) (Wk.temps ?_)
  (simp only[go_sem,qh,qd,qa,qg];try (repeat' first|(with_reducible apply aiA)|(apply qi;omega)|(apply qe;rfl)|exact qj))
 ·have e:i=N:=by omega
  subst e;simp (disch:=omega) only[qI,List.foldl,eL,go_sem]
  repeat' first
   |(apply qb;exact rvk;simp only[go_sem])
   |with_reducible first|intro _|apply aiA
  all_goals try exact clz
  have hP:ko c s i=qac c s i:=by unfold ko;rw[if_neg (by omega)]
  have f1:(((i:Nat):Int)+1).toNat-0=i+1:=by omega
  have hall:=qmN c s;rw[←hN]at hall;rw[hP,hall]at hst;rw[hst,f1,if_pos (by rw[zB,qbF];omega)];exact qbI (by rw[qbF];omega)
theorem qAQ(L:List (List UInt8)):(strs L).flag=true:=rfl
theorem qBm(L:List (List UInt8)):(strs L).strip=strs L:=rfl
theorem u45(s:List UInt8)(c:UInt8)(h:List AObj)(hs:s.length≤1000000000):ACalls Tryz.prog 44 [.str s,.str [c]] h (strs (km c s)) h:=by
 have c78:=fun h=>u78 s c h hs
 refine acO qAB ?_;simp (disch:=omega) only[qBU,go_sem]
 repeat' first
  |(refine cA (c78 _) ?_ ?_;exact flk;simp (disch:=omega) only[qAQ,qBm,go_sem])
  |(apply qb;exact rvk;simp only[go_sem];exact qj)
end HY
end
section
open Go Go.Proofs AF HY LN
namespace HY
def spl(cur:List UInt8):List UInt8→List (List UInt8)
 | []=> [cur]
 |c::r=>if c=32 then cur::spl [] r else spl (cur++ [c]) r
theorem qib(s:List UInt8): ∀i,qac 32 s (i+1)=qac 32 (s.drop (qah 32 s+1)) i:=by
 intro i
 induction i with
 |zero=>rfl
 |succ i ih=>
  show (qac 32 s (i+1)).drop (qah 32 (qac 32 s (i+1))+1)=_;rw[ih];rfl
theorem qfZ{s:List UInt8}(h:0<s.count 32):km 32 s=s.take (qah 32 s)::km 32 (s.drop (qah 32 s+1)):=by
 have hc:=qen 32 s h;unfold km;rw[hc,List.range_succ_eq_map,List.map_cons,List.map_map];have e0:ko 32 s 0=s.take (qah 32 s):=by unfold ko;rw[if_pos h];rfl
 rw[e0,show s.count 32-1+1=s.count 32 by omega];congr 1;refine List.map_congr_left (fun i _=> ?_);show ko 32 s (i+1)=_;unfold ko;rw[qib,hc]
 by_cases hi:i+1<s.count 32
 ·rw[if_pos hi,if_pos (by omega)]
 ·rw[if_neg hi,if_neg (by omega)]
theorem qf0{s:List UInt8}(h:s.count 32=0):km 32 s= [s]:=by
 unfold km;rw[h];show [ko 32 s 0]= [s];unfold ko;rw[if_neg (by omega)];rfl
theorem qpW: ∀(s cur:List UInt8),s.count 32=0→spl cur s= [cur++s]:=by
 intro s
 induction s with
 |nil=>intro cur _;simp[spl]
 |cons c r ih=>
  intro cur h;unfold spl
  by_cases e:c=32
  ·subst e;simp at h
  ·rw[if_neg e];rw[List.count_cons,if_neg (by simpa using e)]at h;rw[ih _ (by omega)];simp
theorem qpX: ∀(s cur:List UInt8),0<s.count 32→spl cur s=(cur++s.take (qah 32 s))::spl [] (s.drop (qah 32 s+1)):=by
 intro s
 induction s with
 |nil=>intro cur h;simp at h
 |cons c r ih=>
  intro cur h
  conv=>lhs;unfold spl
  rw[qaC]
  by_cases e:c=32
  ·subst e;simp
  ·rw[if_neg e,if_neg e];rw[List.count_cons,if_neg (by simpa using e)]at h;rw[ih _ (by omega)];simp
theorem qiu: ∀(n:Nat) (s:List UInt8),s.length≤n→spl [] s=km 32 s:=by
 intro n
 induction n with
 |zero=>
  intro s h
  have:s= []:=List.eq_nil_of_length_eq_zero (by omega)
  subst this;rfl
 |succ n ih=>
  intro s h
  by_cases hc:0<s.count 32
  ·rw[qpX s [] hc,qfZ hc,ih _ (by rw[List.length_drop];omega)];rfl
  ·rw[qpW s [] (by omega),qf0 (by omega)];rfl
end HY
namespace RC
theorem qus{x:Str}(hx:x≠ []): ∀(s cur:Str),x∈spl cur s↔x∈qdN cur s:=by
 intro s
 induction s with
 |nil=>
  intro cur;unfold spl qdN;split
  ·rename_i e;subst e;simp[hx]
  ·rfl
 |cons c r ih=>
  intro cur;unfold spl qdN;split
  ·rw[List.mem_cons,List.mem_append,ih];split
   ·rename_i e;subst e;simp[hx]
   ·rw[List.mem_singleton]
  ·exact ih _
theorem qfC(x s:Str):qa9 x s=(decide (x≠ [])&&decide (x∈km 32 s)):=by
 unfold qa9
 by_cases hx:x= []
 ·subst hx;rw[decide_eq_false (qyD s [])];rfl
 ·rw[decide_eq_true hx,Bool.true_and];refine decide_eq_decide.2 ?_;rw[←qiu s.length s (Nat.le_refl _),qus hx]
end RC
end
section
open Go Go.Proofs AF HY LN
namespace RC
theorem qnN(L:List Str)(x:Str):qY (fun j=>decide (x=L.getD j [])) L.length=decide (x∈L):=by
 by_cases h:x∈L
 ·rw[decide_eq_true h,qv];obtain⟨j,hj,e⟩:=List.getElem_of_mem h;exact⟨j,hj,decide_eq_true (by rw[gdqA,zA hj];exact e.symm)⟩
 ·rw[decide_eq_false h,qn];intro j hj;refine decide_eq_false fun e=>h ?_
  rw[e,gdqA,zA hj];exact List.getElem_mem hj
theorem ctS(L:List Str)(x:Str)(h:List AObj)(hn:L.length≤1000000000):ACalls Tryz.prog 43 [strs L,.str x] h (.bool (decide (x∈L))) h:=by
 rw[←qnN];exact qof L.length (fun j=>L.getD j []) x h hn
theorem lyP(lay:List Str)(cls:Str)(h:List AObj)(hl:lay.length≤1000000000)(hs: ∀i,(lay.getD i []).length≤100000000):ACalls Tryz.prog 27 [strs lay,.str cls] h (.tup [.int .i64 (lyR lay cls),.int .i64 (lyE lay)]) h:=by
 obtain⟨R,hR⟩: ∃R,R=lyR lay cls:=⟨_,rfl⟩
 obtain⟨E,hE⟩: ∃E,E=lyE lay:=⟨_,rfl⟩
 rw[←hR,←hE];unfold lyR at hR;rw[←hE]at hR;unfold lyE at hE
 by_cases g1:lay.length=0
 ·have k1:((lay.length:Int)=0)=True:=eq_true (by omega);rw[if_pos g1]at hE;rw[hR,hE];refine acO qtg ?_;simp (disch:=omega) only[qzZ,strs,k1,go_sem]
  repeat' first
   |(apply qf;exact rvk;simp only[go_sem];exact qj)
 have k1:((lay.length:Int)=0)=False:=eq_false (by omega);rw[if_neg g1]at hE
 by_cases g2:16<lay.length
 ·have k2:((16:Int)<lay.length)=True:=eq_true (by omega);rw[if_pos g2]at hE;rw[hR,hE];refine acO qtg ?_;simp (disch:=omega) only[qzZ,strs,k1,k2,go_sem]
  repeat' first
   |(apply qf;exact rvk;simp only[go_sem];exact qj)
 have k2:((16:Int)<lay.length)=False:=eq_false (by omega);rw[if_neg g2]at hE;rw[hE,if_pos rfl]at hR;rw[hE];unfold lyN at hR;refine acO qtg ?_;simp (disch:=omega) only[qzZ,strs,k1,k2,go_sem];refine qm (T:=fun i:Nat=>qI 37 [(0,strs lay),(1,.str cls),(17,strs lay),(18,.int .i64 lay.length),(19,.int .i64 i)]) (H:=fun _=>h) (inv:=fun i=>i≤lay.length∧ ∀j,j<i→qa9 cls (lay.getD j [])=false) (m:=fun i=>lay.length-i) 0 ⟨Nat.zero_le _,fun j hj=>absurd hj (Nat.not_lt_zero j)⟩ (Wk.temps ?_) ?_
 ·(simp only[strs,go_sem,qh,qd,qa,qg];try (repeat' first|(with_reducible apply aiA)|(apply qi;omega)|(apply qe;rfl)|exact qj))
 rintro i ⟨i1,i2⟩ K hK
 by_cases hi:i<lay.length
 ·have k3:((i:Int)<lay.length)=True:=eq_true (by omega);have hH:=fun h=>jv (p:=fun i=>qa9 cls (lay.getD i [])) hi i2 h
  have hS:qa9 cls (lay.getD i [])=false→ ∀j,j<i+1→qa9 cls (lay.getD j [])=false:=fun hx j hj=>by
   by_cases e:j=i
   ·subst e;exact hx
   ·exact i2 j (by omega)
  have hsp:=qfC cls (lay.getD i []);have hsi:=hs i;obtain⟨s,hsx⟩: ∃s,s=lay.getD i []:=⟨_,rfl⟩
  have es:=hsx.symm;rw[es]at hsp hS hsi;simp only[es]at hH;have c1:=fun h=>u45 s 32 h (by omega)
  have hcl:=List.count_le_length (a:=(32:UInt8)) (l:=s);have hll:=qbF 32 s;obtain⟨P,hP⟩: ∃P,P=km 32 s:=⟨_,rfl⟩
  rw[←hP]at hsp hll;simp only[←hP]at c1;have c2:=fun h=>ctS P cls h (by omega)
  unfold strs at c1 c2;obtain⟨b,hb⟩: ∃b,b=decide (cls∈P):=⟨_,rfl⟩
  rw[←hb]at hsp;simp only[←hb]at c2
  by_cases g3:cls= []
  ·have q1:(cls= [])=True:=eq_true g3;rw[decide_eq_false (fun h=>h g3),Bool.false_and]at hsp;cases b
   all_goals
    simp (disch:=omega) only[strs,k3,es,go_sem]
    repeat' first
     |((first|refine cA (c1 _) ?_ ?_|refine cA (c2 _) ?_ ?_);exact flk;simp (disch:=omega) only[q1,go_sem])
     |with_reducible apply aiA
    all_goals try exact clz
    refine hK _ _ (i+1) ⟨hi,hS hsp⟩ (by omega) (Wk.temps ?_)
    (simp only[strs,go_sem,qh,qd,qa,qg];try (repeat' first|(with_reducible apply aiA)|(apply qi;omega)|(apply qe;rfl)|exact qj))
  have q1:(cls= [])=False:=eq_false g3;rw[decide_eq_true (show cls≠ []from g3),Bool.true_and]at hsp;cases b with
  |false=>
   simp (disch:=omega) only[strs,k3,es,go_sem]
   repeat' first
    |((first|refine cA (c1 _) ?_ ?_|refine cA (c2 _) ?_ ?_);exact flk;simp (disch:=omega) only[q1,go_sem])
    |with_reducible apply aiA
   all_goals try exact clz
   refine hK _ _ (i+1) ⟨hi,hS hsp⟩ (by omega) (Wk.temps ?_)
   (simp only[strs,go_sem,qh,qd,qa,qg];try (repeat' first|(with_reducible apply aiA)|(apply qi;omega)|(apply qe;rfl)|exact qj))
  |true=>
   have e1:=hH hsp;rw[e1,if_neg (by omega)]at hR;rw[hR];simp (disch:=omega) only[strs,k3,es,go_sem]
   repeat' first
    |((first|refine cA (c1 _) ?_ ?_|refine cA (c2 _) ?_ ?_);exact flk;simp (disch:=omega) only[q1,go_sem])
    |(apply qf;exact rvk;simp only[go_sem];exact qj)
    |with_reducible apply aiA
   all_goals try exact clz
 ·have k3:((i:Int)<lay.length)=False:=eq_false (by omega);have e1:qag (fun i=>qa9 cls (lay.getD i [])) lay.length 0= -1:=jV fun j hj=>i2 j (by omega)
  rw[e1,if_pos (by decide)]at hR;rw[hR];simp (disch:=omega) only[strs,k3,go_sem]
  repeat' first
   |(apply qf;exact rvk;simp only[go_sem];exact qj)
theorem sp1(w:Wd)(u:Int)(h:List AObj):ACalls Tryz.prog 105 [.agg (wdC w),.ip [.int .i64 u]] h (.bool (decide (w.unit=u))) h:=by
 refine acO qwU ?_;simp (disch:=omega) only[qvs,wdC,go_sem]
 repeat' first
  |(apply qb;exact rvk;simp only[go_sem];exact qj)
  |with_reducible apply aiA
 all_goals try exact clz
theorem qCo(w:Wd)(u:Int)(k v:Nat)(h:List AObj)(hk:qH k h=some (.mem v 3 [.int .i64 u])):ACalls Tryz.prog 105 [.agg (wdC w),.op k v 0] h (.bool (decide (w.unit=u))) h:=by
 have hc:=zj hk;refine ACalls.borrow ?_ rfl;have e:([AV.agg (wdC w),AV.op k v 0]).map (rei (fun _=>true) h 8)= [.agg (wdC w),.ip [.int .i64 u]]:=by
  simp only[List.map_cons,List.map_nil,rei_op,if_true,hc,ipOf_some,List.drop_zero,rei_agg];rfl
 rw[e];exact sp1 _ u _
theorem qCd(n:Nat)(g:Nat→Wd)(u:Int)(k v:Nat)(h:List AObj)(hk:qH k h=some (.mem v 3 [.int .i64 u]))(hn:n≤1000000000):
  ACalls Tryz.prog 106 [.sl n (fun j=>wdC (g j)),.fn (.func 105) [] [.op k v 0]] h (.int .i64 (qag (fun j=>decide ((g j).unit=u)) n 0)) h:=by
 refine qb3 qk3 n (fun j=>wdC (g j)) (fun j=> .agg (wdC (g j))) _ [] [.op k v 0] _ h (fun i _=>⟨rfl,by simp[jn,wdC],rfl,rfl,rfl⟩) (fun i _=> ?_) (by omega);rw[List.nil_append];exact qCo _ u k v h hk
theorem qCF(n:Nat)(g:Nat→Wd)(u:Int)(k v:Nat)(h:List AObj)(hk:qH k h=some (.mem v 3 [.int .i64 u]))(hn:n≤1000000000):
  ACalls Tryz.prog 92 [.sl n (fun j=>wdC (g j)),.fn (.func 105) [] [.op k v 0]] h (.bool (qY (fun j=>decide ((g j).unit=u)) n)) h:=
 qnC qth ⟨rfl,rfl⟩ ⟨rfl,rfl⟩ (qCd n g u k v h hk hn)
theorem qjU{q:Nat→Bool}{n f t:Nat}(hf:f≤t)(ht:t≤n)(h1: ∀j,f≤j→j<t→q j=true)(h2:t<n→q t=false):qfk q n f=t:=by
 obtain⟨b1,b2,b3,b4⟩:=qjV q (n:=n) (f:=f) (by omega);rcases Nat.lt_trichotomy (qfk q n f) t with h|h|h
 ·have:=b4 (by omega)
  rw[h1 _ b1 h]at this;cases this
 ·exact h
 ·have:=b3 t hf h
  rw[h2 (by omega)]at this;cases this
theorem qrM{q:Nat→Bool}{n f t:Nat}(ht:qfk q n f=t)(htn:t≤n):qu5 q n f=qY (fun j=>q (t+j)) (n-t):=by
 unfold qu5;rw[ht];cases e:qY (fun j=>q (t+j)) (n-t)with
 |true=>
  obtain⟨j,hj,hq⟩:=qv.1 e;exact qv.2 ⟨t+j,by omega,by rw[hq,decide_eq_true (by omega)];rfl⟩
 |false=>
  refine qn.2 fun i hi=> ?_
  by_cases g:t≤i
  ·have:=qn.1 e (i-t) (by omega)
   rw[show t+(i-t)=i by omega]at this;rw[this,Bool.and_false]
  ·rw[decide_eq_false g,Bool.false_and]
theorem qDr(b:List Wd)(u:Int)(h:List AObj)(hn:b.length≤1000000000):ACalls Tryz.prog 31 [qU b,.int .i64 u] h (.tup [.int .i64 (qy6 (inU b u) b.length),.int .i64 (qy7 (inU b u) b.length),.int .i64 (qmK (inU b u) b.length)]) h:=by
 have c1:=qCd b.length (fun j=>b.getD j default) u h.length 1 (h++ [.mem 1 3 [.int .i64 u]]) (by rw[getO_app0];rfl) hn;have ei:qag (fun j=>decide ((b.getD j default).unit=u)) b.length 0=qag (inU b u) b.length 0:=rfl;rw[ei]at c1;unfold qy6 qy7;unfold qmK;rcases zd (inU b u) b.length with⟨f,f1,f2,_,f4⟩|⟨f1,f2⟩
 case inr=>
  rw[f2]at c1 ⊢;simp only[show ((-1:Int)<0)=True from eq_true (by decide),if_true,show ((6:Int)=0)=False from eq_false (by decide),if_false];refine acO qx0 ?_;simp (disch:=omega) only[qAc,qU,go_sem]
  repeat' first
   |(refine cA (c1) ?_ ?_;exact flk;simp (disch:=omega) only[go_sem])
   |(apply qb;exact rvk;simp only[go_sem];exact qj)
   |with_reducible first|intro _|apply aiA
  all_goals try exact clz
 rw[f4]at c1 ⊢;have k1:((f:Int)<0)=False:=eq_false (by omega);simp only[k1,if_false,Int.toNat_natCast];refine acO qx0 ?_;simp (disch:=omega) only[qAc,qU,go_sem]
 repeat' first
  |(refine cA (c1) ?_ ?_;exact flk;simp (disch:=omega) only[k1,go_sem])
 refine qm (T:=fun t:Nat=>qI 38 [(0,qU b),(7,.fn (.func 105) [] [.op h.length 1 0]),(8,.int .i64 f),(9,.int .i64 t)]) (H:=fun _=>h++ [.mem 1 3 [.int .i64 u]]) (inv:=fun t=>f≤t∧t≤b.length∧ ∀j,f≤j→j<t→inU b u j=true) (m:=fun t=>b.length-t) f ⟨Nat.le_refl _,by omega,fun j h1 h2=>by omega⟩ (Wk.temps ?_) ?_
 ·(simp only[qU,go_sem,qh,qd,qa,qg];try (repeat' first|(with_reducible apply aiA)|(apply qi;omega)|(apply qe;rfl)|exact qj))
 rintro t ⟨t1,t2,t3⟩ K hK;have hex:(t<b.length→inU b u t=false)→qfk (inU b u) b.length f=t:=fun hx=>qjU t1 t2 t3 hx
 have kt:((t:Int)≤b.length)=True:=eq_true (by omega);have c3:=qCF (b.length-t) (fun j=>b.getD (t+j) default) u h.length 1 (h++ [.mem 1 3 [.int .i64 u]]) (by rw[getO_app0];rfl) (by omega);have eb:qY (fun j=>decide ((b.getD (t+j) default).unit=u)) (b.length-t)=qY (fun j=>inU b u (t+j)) (b.length-t):=rfl;rw[eb]at c3;have hbe:(t<b.length→inU b u t=false)→qu5 (inU b u) b.length f=qY (fun j=>inU b u (t+j)) (b.length-t):=fun hx=>qrM (hex hx) t2
 obtain⟨B,hB⟩: ∃B,B=qY (fun j=>inU b u (t+j)) (b.length-t):=⟨_,rfl⟩
 rw[←hB]at c3 hbe;have c2:=qCo (b.getD t default) u h.length 1 (h++ [.mem 1 3 [.int .i64 u]]) (by rw[getO_app0];rfl);have ed:decide ((b.getD t default).unit=u)=inU b u t:=rfl;rw[ed]at c2
 by_cases ht:t<b.length
 ·have k2:((t:Int)<b.length)=True:=eq_true (by omega);obtain⟨w,hw⟩: ∃w,w=b.getD t default:=⟨_,rfl⟩
  have ew:=hw.symm;rw[ew]at c2;unfold wdC at c2;cases g:inU b u t with
  |true=>
   rw[g]at c2;simp (disch:=omega) only[qU,wdC,k2,ew,go_sem]
   repeat' first
    |(refine qw (c2) ?_;simp (disch:=omega) only[go_sem])
    |with_reducible apply aiA
   all_goals try exact clz
   refine hK _ _ (t+1) ⟨by omega,ht,fun j h1 h2=> ?_⟩ (by omega) (Wk.temps ?_)
   ·by_cases e:j=t
    ·subst e;exact g
    ·exact t3 j h1 (by omega)
   ·(simp only[qU,go_sem,qh,qd,qa,qg];try (repeat' first|(with_reducible apply aiA)|(apply qi;omega)|(apply qe;rfl)|exact qj))
  |false=>
   rw[g]at c2;have e1:=hex fun _=>g
   have e2:=hbe fun _=>g
   simp only[e1,e2];unfold wdC at c3;cases B with
   |true=>
    simp only[if_true,show ((10:Int)=0)=False from eq_false (by decide),if_false];simp (disch:=omega) only[qU,wdC,k2,ew,go_sem]
    repeat' first
     |(refine qw (c2) ?_;simp (disch:=omega) only[kt,go_sem])
     |(refine cA (c3) ?_ ?_;exact flk;simp (disch:=omega) only[go_sem])
     |(apply qb;exact rvk;simp only[go_sem];exact qj)
     |with_reducible apply aiA
    all_goals try exact clz
   |false=>
    simp only[Bool.false_eq_true,if_false,if_true];simp (disch:=omega) only[qU,wdC,k2,ew,go_sem]
    repeat' first
     |(refine qw (c2) ?_;simp (disch:=omega) only[kt,go_sem])
     |(refine cA (c3) ?_ ?_;exact flk;simp (disch:=omega) only[go_sem])
     |(apply qb;exact rvk;simp only[go_sem];exact qj)
     |with_reducible apply aiA
    all_goals try exact clz
 ·have k2:((t:Int)<b.length)=False:=eq_false (by omega);have e1:=hex fun hx=>absurd hx ht
  have e2:=hbe fun hx=>absurd hx ht
  simp only[e1,e2];unfold wdC at c3;cases B with
  |true=>
   simp only[if_true,show ((10:Int)=0)=False from eq_false (by decide),if_false];simp (disch:=omega) only[qU,wdC,k2,kt,go_sem]
   repeat' first
    |(refine cA (c3) ?_ ?_;exact flk;simp (disch:=omega) only[go_sem])
    |(apply qb;exact rvk;simp only[go_sem];exact qj)
    |with_reducible apply aiA
   all_goals try exact clz
  |false=>
   simp only[Bool.false_eq_true,if_false,if_true];simp (disch:=omega) only[qU,wdC,k2,kt,go_sem]
   repeat' first
    |(refine cA (c3) ?_ ?_;exact flk;simp (disch:=omega) only[go_sem])
    |(apply qb;exact rvk;simp only[go_sem];exact qj)
    |with_reducible apply aiA
   all_goals try exact clz
def spF(b:List Wd)(k:Int)(c:Int):Int:=if qmK (inU b k) b.length=0 then qy6 (inU b k) b.length else (cP (bfU b c) b.length:Int)
def spT(b:List Wd)(k:Int)(c:Int):Int:=if qmK (inU b k) b.length=0 then qy7 (inU b k) b.length else (cP (bfU b c) b.length:Int)
theorem qBl(b:List Wd)(k:Int)(u:Un)(h:List AObj)(hn:b.length≤1000000000):ACalls Tryz.prog 160 [qU b,.int .i64 k,.agg (unC u)] h (.tup [.int .i64 (spF b k u.frm),.int .i64 (spT b k u.frm)]) h:=by
 have c1:=fun h=>qDr b k h hn
 unfold spF spT;obtain⟨F,hF⟩: ∃F,F=qy6 (inU b k) b.length:=⟨_,rfl⟩
 obtain⟨T,hT⟩: ∃T,T=qy7 (inU b k) b.length:=⟨_,rfl⟩
 obtain⟨E,hE⟩: ∃E,E=qmK (inU b k) b.length:=⟨_,rfl⟩
 simp only[←hF,←hT,←hE]at c1 ⊢
 by_cases g:E=0
 ·have k1:(E=0)=True:=eq_true g;simp only[k1,if_true];unfold qU at c1;refine acO qqP ?_;simp (disch:=omega) only[qr0,qU,unC,go_sem]
  repeat' first
   |(refine cA (c1 _) ?_ ?_;exact flk;simp (disch:=omega) only[k1,go_sem])
   |(apply qb;exact rvk;simp only[go_sem];exact qj)
   |with_reducible apply aiA
  all_goals try exact clz
 have k1:(E=0)=False:=eq_false g;simp only[k1,if_false];unfold qU at c1;refine acO qqP ?_;simp (disch:=omega) only[qr0,qU,unC,go_sem]
 repeat' first
  |(refine cA (c1 _) ?_ ?_;exact flk;simp (disch:=omega) only[k1,go_sem])
  |with_reducible apply aiA
 all_goals try exact clz
 have hle:=qj9 (bfU b u.frm);have hst: ∀n,cP (bfU b u.frm) (n+1)=cP (bfU b u.frm) n+if bfU b u.frm n=true then 1 else 0:=fun _=>rfl
 refine qm (T:=fun i:Nat×AObj=>qI 41 [(5,.op h.length 1 0),(11,.int .i64 (cP (bfU b u.frm) i.1:Int)),(25,qU b),(26,.int .i64 b.length),(27,.int .i64 i.1)]) (H:=fun i=>h++ [.mem 1 83 (unC u),i.2]) (inv:=fun i=>i.1≤b.length∧qz [i.2] 0=true) (m:=fun i=>b.length-i.1) (0,.emp 0) ⟨Nat.zero_le _,rfl⟩ (Wk.temps ?_) ?_
 ·(simp only[qU,cP,go_sem,qh,qd,qa,qg];try (repeat' first|(with_reducible apply aiA)|(apply qi;omega)|(apply qe;rfl)|exact qj))
 rintro⟨i,O⟩ ⟨i1,i2⟩ K hK;simp only at i1 i2 hK;have i2': ∀m,qz (O::m) 0=true:=fun _=>i2
 have hle:=hle i;have hst:=hst i;have hb:bfU b u.frm i=decide ((b.getD i default).col<u.frm):=rfl;obtain⟨c,hc⟩: ∃c,c=cP (bfU b u.frm) i:=⟨_,rfl⟩
 have ec:=hc.symm;rw[ec]at hle hst
 by_cases hi:i<b.length
 ·have k2:((i:Int)<b.length)=True:=eq_true (by omega);obtain⟨w,hw⟩: ∃w,w=b.getD i default:=⟨_,rfl⟩
  have ew:=hw.symm;rw[ew]at hb
  by_cases g2:w.col<u.frm
  ·have k3:(w.col<u.frm)=True:=eq_true g2;rw[hb,decide_eq_true g2,if_pos rfl]at hst;simp (disch:=omega) only[qU,wdC,unC,k2,ec,ew,i2',k3,go_sem]
   repeat' first
    |with_reducible apply aiA
   all_goals try exact clz
   refine hK _ _ (i+1,.mem (qq (some O)+1) 64 (wdC w)) ⟨hi,rfl⟩ (by simp only;omega) ?_;simp only[hst];refine Wk.temps ?_
   (simp only[qU,go_sem,qh,qd,qa,qg];try (repeat' first|(with_reducible apply aiA)|(apply qi;omega)|(apply qe;rfl)|exact qj))
  ·have k3:(w.col<u.frm)=False:=eq_false g2;rw[hb,decide_eq_false g2,if_neg (by simp),Nat.add_zero]at hst;simp (disch:=omega) only[qU,wdC,unC,k2,ec,ew,i2',k3,go_sem]
   repeat' first
    |with_reducible apply aiA
   all_goals try exact clz
   refine hK _ _ (i+1,.mem (qq (some O)+1) 64 (wdC w)) ⟨hi,rfl⟩ (by simp only;omega) ?_;simp only[hst];refine Wk.temps ?_
   (simp only[qU,go_sem,qh,qd,qa,qg];try (repeat' first|(with_reducible apply aiA)|(apply qi;omega)|(apply qe;rfl)|exact qj))
 ·have k2:((i:Int)<b.length)=False:=eq_false (by omega);obtain rfl:i=b.length:=by omega
  rw[ec];simp (disch:=omega) only[qU,k2,go_sem]
  repeat' first
   |(apply qb;exact rvk;simp only[go_sem];exact qj)
end RC
end
section
open Go Go.Proofs AF
def qts:List Nat:= []
def qsk:C:=
 ((C.ops [O1 7 (.box 0 26) 0,O1 11 (.box 1 44) 4,⟨some 14,none,.alloc 2 49 [.nl],[]⟩,⟨some 15,none,.alloc 3 35 [i6 0],[]⟩]).seq (((C.ops [O1 37 (.load (some 4)) 7,MV 38 1,
 MV 39 3,ON 40 (.call 38 true) [.t 37,.t 38,.t 39],MV 16 40]).seq ((C.ops [MV 41 16,BC 42 .neq 41 (i6 0)]).seq (C.cond (.t 42) ((C.ops [MV 43 16,⟨none,none,.store 1,[.t 14,
 .c .nl]⟩,ST 1 15 43]).seq C.ret) C.skip))).seq (((C.ops [O1 44 (.fldA 1) 7,LD 45 44,LD 46 11,O2 47 (.call 122 true) 45 46,BC 48 .neq 47 (i6 0)]).seq (C.cond (.t 48) ((C.ops
 [⟨none,none,.store 1,[.t 14,.c .nl]⟩,⟨none,none,.store 1,[.t 15,.c (i6 1)]⟩]).seq C.ret) C.skip)).seq (((C.ops [MV 50 5,OC 51 (.call 27 true) 50 (.str []),MV 49 51,O1
 52 (.ext 0) 49,O1 53 (.ext 1) 49,MV 17 52,MV 18 53]).seq ((C.ops [MV 54 18,BC 55 .neq 54 (i6 0)]).seq (C.cond (.t 55) ((C.ops [MV 56 18,⟨none,none,.store 1,[.t 14,.c
 .nl]⟩,ST 1 15 56]).seq C.ret) C.skip))).seq (((C.ops [MV 57 6,O1 58 .len 57,MV 59 5,O1 60 .len 59,BI 61 .neq 58 60,MV 62 61,MG 63 62 false 2,P1 64 62 false .len 63,MG 65
 62 false 1,P1 66 62 false .len 65,P2 67 62 false (.bin .neq) 64 66,PT 68 62 67]).seq (C.cond (.t 68) ((C.ops [⟨none,none,.store 1,[.t 14,.c .nl]⟩,⟨none,none,.store 1,[.t
 15,.c (i6 9)]⟩]).seq C.ret) C.skip)).seq (((C.ops [MV 69 1,O1 70 .len 69,MC 71 (i6 0)]).seq (C.block 0 ((C.ops [BI 72 .lss 71 70]).seq ((C.cond (.t 72) C.skip (C.exit 0)).seq
 ((C.block 1 ((C.ops [MV 73 71,O2 74 (.idxA 3) 69 71,O1 75 (.load (some 3)) 74,⟨some 20,none,.alloc 4 83 [i6 0,i6 0,.nl],[]⟩,MV 19 73,ST 3 20 75]).seq ((C.ops [MV 76 2,MV
 77 19,O2 78 (.idxA 1) 76 77,LD 79 78,O1 80 .len 79,O1 81 (.fldA 2) 20,LD 82 81,O1 83 .len 82,BI 84 .neq 80 83]).seq (C.cond (.t 84) ((C.ops [⟨none,none,.store 1,[.t 14,
 .c .nl]⟩,⟨none,none,.store 1,[.t 15,.c (i6 9)]⟩]).seq C.ret) C.skip)))).seq (C.ops [BC 85 .add 71 (i6 1),MV 71 85])))).loop)).seq ((C.ops [ON 21 (.nilo 5 6 58) []]).seq
 (((C.ops [MV 86 1,O1 87 .len 86,MC 88 (i6 0)]).seq (C.block 2 ((C.ops [BI 89 .lss 88 87]).seq ((C.cond (.t 89) C.skip (C.exit 2)).seq ((C.block 3 ((C.ops [MV 90 88,O2 91 (.idxA
 3) 86 88,O1 92 (.load (some 3)) 91,⟨some 23,none,.alloc 6 83 [i6 0,i6 0,.nl],[]⟩,MV 22 90,ST 3 23 92]).seq ((C.ops [MV 94 3,MV 95 22,O1 96 (.load (some 3)) 23,ON 97
 (.call 160 true) [.t 94,.t 95,.t 96],MV 93 97,O1 98 (.ext 0) 93,O1 99 (.ext 1) 93,MV 24 98,MV 25 99]).seq ((C.ops [⟨some 26,none,.alloc 7 22 [.nl],[]⟩]).seq (((C.ops [MV
 100 3,MV 101 24,MV 102 25,ON 103 (.slc 7 true true) [.t 100,.t 101,.t 102],O1 104 .len 103,MC 105 (i6 0)]).seq (C.block 4 ((C.ops [BI 106 .lss 105 104]).seq ((C.cond (.t
 106) C.skip (C.exit 4)).seq ((C.block 5 ((C.ops [O2 107 (.idxA 7) 103 105,O1 108 (.load (some 7)) 107,⟨some 28,none,.alloc 8 64 [.str [],i6 0,i6 0,i6 0,.bool false,.bool
 false,.str []],[]⟩,ST 7 28 108]).seq (C.ops [LD 109 26,O1 110 (.fldA 0) 28,LD 111 110,⟨some 112,none,.bslc 9 1 1 9 [.str []] [(0,1)],[.t 111]⟩,O2 113 (.app 10 1 9 16)
 109 112,ST 1 26 113]))).seq (C.ops [BC 114 .add 105 (i6 1),MV 105 114])))).loop)).seq ((C.ops [MV 115 5,O1 116 .len 115,MC 117 (i6 0)]).seq (C.block 6 ((C.ops [BI 118 .lss 117
 116]).seq ((C.cond (.t 118) C.skip (C.exit 6)).seq ((C.block 7 ((C.ops [MV 119 117,MV 29 119]).seq ((C.ops [MV 120 29,MV 121 24,MV 122 25,MV 123 6,MV 124 29,O2 125 (.idxA 1)
 123 124,LD 126 125,⟨some 127,none,.build [i6 0,i6 0,i6 0,.bool false,.nl,.nl] [(0,1),(1,1),(2,1),(3,1)],[.t 120,.t 121,.t 122,.t 126]⟩,⟨some 30,none,.alloc
 11 58 [i6 0,i6 0,i6 0,.bool false,.nl,.nl],[]⟩,ST 6 30 127]).seq (((C.wk.seq (C.ops [O1 128 (.load (some 3)) 23,MV 129 2,MV 130 22,O2 131 (.idxA 1) 129 130,LD 132 131,
 LD 133 26,MV 134 5,MV 135 29,ON 136 (.call 161 true) [.t 128,.t 132,.t 133,.t 134,.t 135]])).seq (C.block 8 (C.range (.t 136) [137] (C.ops [⟨some 31,none,.alloc 12 89
 [.nl,.nl],[]⟩,ST 2 31 137]) (C.block 9 ((C.ops [O1 139 (.fldA 1) 7,LD 140 139,LD 141 11,O1 142 (.fldA 1) 31,LD 143 142,ON 144 (.call 142 true) [.t 140,.t 141,.t 143],MV
 138 144,O1 145 (.ext 0) 138,O1 146 (.ext 1) 138,MV 32 145,MV 33 146]).seq (((C.ops [MV 147 33,BC 148 .neq 147 (.int .i64 (Int.ofNat 0))]).seq (C.cond (.t 148) ((C.ops [MV 149
 33,⟨none,none,.store 1,[.t 14,.c .nl]⟩,ST 1 15 149]).seq C.ret) C.skip)).seq (C.ops [O1 150 (.fldA 5) 30,LD 151 150,O1 152 (.fldA 0) 31,LD 153 152,MV 154 32,⟨some 155,
 none,.build [.nl,.nl] [(0,1),(1,1)],[.t 153,.t 154]⟩,⟨some 156,none,.bslc 13 2 1 85 [.nl,.nl] [(0,2)],[.t 155]⟩,O2 157 (.app 14 2 85 48) 151 156,O1 158 (.fldA 5) 30,
 ST 1 158 157]))))))).seq (((C.wk.seq (C.ops [O1 159 (.fldA 5) 30,LD 160 159,O1 161 .len 160,BC 162 .eql 161 (i6 0)])).seq (C.cond (.t 162) (C.exit 7) C.skip)).seq ((C.ops [O1
 163 (.fldA 2) 23,LD 164 163,O1 165 (.mkfn (Fn.func 162) 0) 26,O2 166 (.call 127 true) 164 165,MV 34 166]).seq (((C.ops [MV 167 6,MV 168 29,O2 169 (.idxA 1) 167 168,LD 170
 169,MV 171 170,MG 172 171 true 34,PC 173 171 true (.bin .geq) 172 (i6 0),PF 174 171 173]).seq (C.cond (.t 174) ((C.ops [O1 176 (.fldA 1) 7,LD 177 176,LD 178 11,O1 179 (.fldA
 2) 23,LD 180 179,MV 181 34,O2 182 (.idxA 2) 180 181,O1 183 (.fldA 1) 182,LD 184 183,ON 185 (.call 142 true) [.t 177,.t 178,.t 184],MV 175 185,O1 186 (.ext 0) 175,O1 187
 (.ext 1) 175,MV 35 186,MV 36 187]).seq (((C.ops [MV 188 36,BC 189 .neq 188 (.int .i64 (Int.ofNat 0))]).seq (C.cond (.t 189) ((C.ops [MV 190 36,⟨none,none,.store 1,[.t 14,.c
 .nl]⟩,ST 1 15 190]).seq C.ret) C.skip)).seq (C.ops [MV 191 35,O1 192 (.fldA 4) 30,ST 1 192 191]))) C.skip)).seq (C.ops [MV 193 21,O1 194 (.load (some 6)) 30,⟨some 195,none,
 .bslc 15 6 1 58 [i6 0,i6 0,i6 0,.bool false,.nl,.nl] [(0,6)],[.t 194]⟩,O2 196 (.app 16 6 58 80) 193 195,MV 21 196])))))))).seq (C.ops [BC 197 .add 117 (i6 1),MV 117
 197])))).loop))))))).seq (C.ops [BC 198 .add 88 (i6 1),MV 88 198])))).loop)).seq ((C.ops [MV 199 21,ST 1 14 199,⟨none,none,.store 1,[.t 15,.c (i6 0)]⟩]).seq
 C.ret)))))))))
theorem qhU:qG Tryz.prog 96 200 17 [RV.cell 14 none,RV.cell 15 none] qsk:=fi Tryz.f96 [7,11,14,15,20,21,23,26,28,112,113,30,31,156,157,195,196] qts [32,38]
end
section
open Go Go.Proofs AF HY LN
namespace RC
def flG{α:Type}(p:Nat→Bool)(g:Nat→α):Nat→List α
 |0=> []
 |i+1=>flG p g i++if p i=true then [g i] else []
theorem qwO{α:Type}{p:Nat→Bool}{g:Nat→α}{i:Nat}(hp:p i=true): ∀ {n:Nat},i<n→ ∃h:(flG p g i).length<(flG p g n).length,(flG p g n)[(flG p g i).length]=g i:=by
 intro n
 induction n with
 |zero=>intro h;exact absurd h (Nat.not_lt_zero _)
 |succ n ih=>
  intro hi
  by_cases e:i=n
  ·subst e;have e1:flG p g (i+1)=flG p g i++ [g i]:=by
    show flG p g i++(if p i=true then [g i] else [])=_;rw[if_pos hp]
   refine⟨by rw[e1];simp,?_⟩;simp only[e1];rw[List.getElem_append_right (Nat.le_refl _)];simp
  ·obtain⟨h1,h2⟩:=ih (by omega);have e1:flG p g (n+1)=flG p g n++(if p n=true then [g n] else []):=rfl;refine⟨by rw[e1,List.length_append];omega,?_⟩;simp only[e1];rw[List.getElem_append_left h1];exact h2
theorem qwQ{α:Type}(p:Nat→Bool)(g:Nat→α): ∀n,(flG p g n).length≤n:=by
 intro n
 induction n with
 |zero=>exact Nat.le_refl _
 |succ n ih=>
  show (flG p g n++if p n=true then [g n] else []).length≤_;rw[List.length_append];split
  ·simp only[List.length_cons,List.length_nil];omega
  ·simp only[List.length_nil];omega
theorem qkU{α β:Type}(p:Nat→Bool)(g:Nat→α)(k:Nat→β): ∀n,(flG p g n).length=(flG p k n).length:=by
 intro n
 induction n with
 |zero=>rfl
 |succ n ih=>
  show (flG p g n++if p n=true then [g n] else []).length=(flG p k n++if p n=true then [k n] else []).length;rw[List.length_append,List.length_append,ih];split<;>rfl
def vtB(rds:List Rd)(cls own lay:List Str)(y:Int)(r:Nat):Bool:=decide (lyR lay (cls.getD r [])=y)&& !decide ((rds.getD r default).words=own)
def vtX(rds:List Rd)(cls own lay:List Str)(y:Int)(n:Nat):List (List AV):=flG (vtB rds cls own lay y) (fun r=> [.agg (rdC (rds.getD r default))]) n
theorem qyR(a b:List Str)(h:List AObj)(h1:a.length≤1000000000)(h2:b.length≤1000000000):ACalls Tryz.prog 139 [strs a,strs b] h (.bool (decide (a=b))) h:=by
 have c:=qBg a b.length (fun j=>b.getD j []) h h1 h2;have e:decide (a.length=b.length∧ ∀i,i<a.length→a.getD i []=b.getD i [])=decide (a=b):=decide_eq_decide.2 (je ([]:Str)).symm;rw[e]at c;exact c
theorem qDF(u:Un)(cls own lay:List Str)(y:Int)(h:List AObj):
  ACalls Tryz.prog 161 [.agg (unC u),strs cls,strs own,strs lay,.int .i64 y] h (.fn (.func 215) [] [.ip (unC u),.ip [strs lay],.ip [strs cls],.ip [.int .i64 y],.ip [strs own]]) h:=by
 refine acO qw5 ?_;simp (disch:=omega) only[qvA,unC,go_sem]
 repeat' first
  |(apply qb;exact rvk;simp only[go_sem];exact qj)
theorem itV(u:Un)(cls own lay:List Str)(y:Int)(hr:u.rds.length≤1000000000)(hc:cls.length=u.rds.length)(hw: ∀j,(u.rds.getD j default).words.length≤1000000000)(ho:own.length≤1000000000)(hl:lay.length≤1000000000)(hs: ∀i,(lay.getD i []).length≤100000000):
  qu0 Tryz.prog 215 [.ip (unC u),.ip [strs lay],.ip [strs cls],.ip [.int .i64 y],.ip [strs own]] (vtX u.rds cls own lay y u.rds.length):=by
 intro h ts LI S E hS hE body start hts;refine acQ qxr ?_;simp (disch:=omega) only[qvU,unC,zx,go_sem]
 repeat' first
  |with_reducible apply aiA
 all_goals try exact clz
 obtain⟨p,hp⟩: ∃p,p=vtB u.rds cls own lay y:=⟨_,rfl⟩
 obtain⟨g,hg⟩: ∃g:Nat→List AV,g=fun r=> [.agg (rdC (u.rds.getD r default))]:=⟨_,rfl⟩
 have hX:vtX u.rds cls own lay y u.rds.length=flG p g u.rds.length:=by rw[hp,hg];rfl
 refine qm (T:=fun i:Nat×List AObj×AObj=>qI 45 [(0,.yld h.length),(2,.ip [strs lay]),(3,.ip [strs cls]),(4,.ip [.int .i64 y]),(5,.ip [strs own]),(12,zx u.rds),(13,.int .i64 u.rds.length),(14,.int .i64 i.1)])
  (H:=fun i=>i.2.1++ [.lp .ready ts LI]++ [i.2.2])
  (inv:=fun i=>i.1≤u.rds.length∧S (flG p g i.1).length i.2.1∧qz [i.2.2] 0=true) (m:=fun i=>u.rds.length-i.1) (0,h,.emp 0) ⟨Nat.zero_le _,start,rfl⟩ (Wk.temps ?_) ?_
 ·(simp only[zx,strs,go_sem,qh,qd,qa,qg];try (repeat' first|(with_reducible apply aiA)|(apply qi;omega)|(apply qe;rfl)|exact qj))
 rintro⟨i,hh,O⟩ ⟨i1,i2,i3⟩ K hK;simp only at i1 i2 i3 hK;obtain⟨hlen,hlow⟩:=hS _ _ i2;have hb:(h++ [AObj.lp LS.ready ts LI]).length=(hh++ [AObj.lp LS.ready ts LI]).length:=by simp[hlen]
 rw[hb];have i3': ∀m,qz (O::m) 0=true:=fun _=>i3
 by_cases hi:i<u.rds.length
 ·have q0:((i:Int)<u.rds.length)=True:=eq_true (by omega);have qc:((i:Int)<cls.length)=True:=eq_true (by omega);have hst:flG p g (i+1)=flG p g i++if p i=true then [g i] else []:=rfl
  have hpi:p i=(decide (lyR lay (cls.getD i [])=y)&& !decide ((u.rds.getD i default).words=own)):=by rw[hp];rfl
  have c27:=fun h=>lyP lay (cls.getD i []) h hl hs
  have c139:=fun h=>qyR (u.rds.getD i default).words own h (hw i) ho
  have hgi:g i= [.agg (rdC (u.rds.getD i default))]:=by rw[hg]
  have hat:=fun hpp=>qwO (p:=p) (g:=g) (i:=i) hpp hi
  obtain⟨r,hr⟩: ∃r,r=u.rds.getD i default:=⟨_,rfl⟩
  have er:=hr.symm;obtain⟨c,hcx⟩: ∃c,c=cls.getD i []:=⟨_,rfl⟩
  have ec:=hcx.symm;simp only[er,ec]at hpi c27 c139 hgi;obtain⟨z,hz⟩: ∃z,z=lyR lay c:=⟨_,rfl⟩
  obtain⟨ze,hze⟩: ∃ze,ze=lyE lay:=⟨_,rfl⟩
  rw[←hz]at hpi;simp only[←hz,←hze]at c27;obtain⟨b,hbx⟩: ∃b,b=decide (r.words=own):=⟨_,rfl⟩
  rw[←hbx]at hpi;simp only[←hbx]at c139;unfold strs at c27 c139
  by_cases gz:z=y
  ·have q1:(z=y)=True:=eq_true gz;rw[decide_eq_true gz,Bool.true_and]at hpi;cases b with
   |false=>
    rw[Bool.not_false]at hpi;rw[hpi,if_pos rfl]at hst;obtain⟨hdl,hxx⟩:=hat hpi;rw[hgi]at hxx;have hdl':(flG p g i).length<(vtX u.rds cls own lay y u.rds.length).length:=by rw[hX];exact hdl
    have hxx':(vtX u.rds cls own lay y u.rds.length)[(flG p g i).length]= [.agg (rdC r)]:=by simp only[hX];exact hxx
    have hb':=fun O'=>body (flG p g i).length hh [O'] hdl' i2
    rw[hxx']at hb';have hlst:(flG p g (i+1)).length=(flG p g i).length+1:=by rw[hst];simp
    simp (disch:=omega) only[zx,strs,i3',q0,qc,er,ec,rdC,go_sem]
    repeat' first
     |((first|refine cA (c27 _) ?_ ?_|refine cG (fun e=>c139 _) ?_ ?_);exact flk;simp (disch:=omega) only[q1,go_sem])
     |with_reducible apply aiA
    all_goals try exact clz
    ·exact⟨.ready,ts,LI,by rw[List.append_assoc];exact kz hlen⟩
    ·rw[List.append_assoc];refine ku.mono ?_ (hb' _);rintro v h' ⟨hh',⟨rfl,hn,rfl⟩|⟨st,rfl,hs',rfl⟩⟩
     ·simp (disch:=omega) only[go_sem];refine hK _ _ (i+1,hh',.mem (qq (some O)+1) 89 (rdC r)) ⟨hi,by simp only;rw[hlst];exact hn,rfl⟩ (by simp only;omega) ?_;simp only[List.append_assoc];refine Wk.temps ?_
      (simp only[zx,strs,go_sem,qh,qd,qa,qg];try (repeat' first|(with_reducible apply aiA)|(apply qi;omega)|(apply qe;rfl)|exact qj))
     ·simp (disch:=omega) only[go_sem];obtain⟨r1,r2⟩:=(hE _ _ hs').ret (L:=LI) st hts;have eO: ∀O',hh'++AObj.lp st ts LI:: [O']=(hh'++ [AObj.lp st ts LI])++ [O']:=fun _=>by simp
      rw[eO];exact qtj trivial r1 r2 ⟨_,.inr ⟨st,hs',rfl⟩⟩ (qj)
   |true=>
    rw[Bool.not_true]at hpi;rw[hpi,if_neg (by simp),List.append_nil]at hst;simp (disch:=omega) only[zx,strs,i3',q0,qc,er,ec,rdC,go_sem]
    repeat' first
     |((first|refine cA (c27 _) ?_ ?_|refine cG (fun e=>c139 _) ?_ ?_);exact flk;simp (disch:=omega) only[q1,go_sem])
     |with_reducible apply aiA
    all_goals try exact clz
    refine hK _ _ (i+1,hh,.mem (qq (some O)+1) 89 (rdC r)) ⟨hi,by simp only;rw[hst];exact i2,rfl⟩ (by simp only;omega) ?_;simp only;refine Wk.temps ?_
    (simp only[zx,strs,go_sem,qh,qd,qa,qg];try (repeat' first|(with_reducible apply aiA)|(apply qi;omega)|(apply qe;rfl)|exact qj))
  ·have q1:(z=y)=False:=eq_false gz;rw[decide_eq_false gz,Bool.false_and]at hpi;rw[hpi,if_neg (by simp),List.append_nil]at hst;simp (disch:=omega) only[zx,strs,i3',q0,qc,er,ec,rdC,go_sem]
   repeat' first
    |(refine qk ( .bool false) ?_;simp (disch:=omega) only[go_sem])
    |(refine cA (c27 _) ?_ ?_;exact flk;simp (disch:=omega) only[q1,go_sem])
    |with_reducible apply aiA
   all_goals try exact clz
   refine hK _ _ (i+1,hh,.mem (qq (some O)+1) 89 (rdC r)) ⟨hi,by simp only;rw[hst];exact i2,rfl⟩ (by simp only;omega) ?_;simp only;refine Wk.temps ?_
   (simp only[zx,strs,go_sem,qh,qd,qa,qg];try (repeat' first|(with_reducible apply aiA)|(apply qi;omega)|(apply qe;rfl)|exact qj))
 ·have e:i=u.rds.length:=by omega
  subst e;have q0:((u.rds.length:Int)<u.rds.length)=False:=eq_false (by omega);simp (disch:=omega) only[zx,i3',q0,go_sem];obtain⟨r1,r2⟩:=(hS _ _ i2).ret (L:=LI) .ready hts;exact qoI trivial r1 r2 ⟨hh,.inl ⟨by rw[hX];exact i2,rfl⟩⟩ (qj)
theorem qeu{names:List Str}{gs:List Gr}(h:qk9 names gs=false)(hs:sgE names gs=0):names.length≤8∧gs.length≤8:=by
 have ho:=qha hs;have h1:=ho.n32;have h2:=ho.g16;unfold qk9 at h;simp only[Bool.or_eq_false_iff,Bool.and_eq_false_iff,decide_eq_false_iff_not]at h;omega
theorem qra{names:List Str}{gs:List Gr}(h:qk9 names gs=false):Szs names gs:=by
 obtain⟨h1,h2,h3,h4⟩:=qto h;exact⟨by omega,by omega,fun i=>by have:=h3 i;omega,fun i=>by have:=(h4 i).1;omega,fun i=>by have:=(h4 i).2;omega⟩
theorem qwP{α β:Type}{p:Nat→Bool}{g:Nat→α}{k:Nat→β}: ∀ {n i:Nat} (hi:i<(flG p g n).length),∃r,r<n∧p r=true∧(flG p g n)[i]=g r∧(flG p k n)[i]? =some (k r):=by
 intro n
 induction n with
 |zero=>intro i hi;exact absurd hi (Nat.not_lt_zero _)
 |succ n ih=>
  intro i hi;have e1:flG p g (n+1)=flG p g n++(if p n=true then [g n] else []):=rfl;have e2:flG p k (n+1)=flG p k n++(if p n=true then [k n] else []):=rfl;have el:=qkU p g k n
  by_cases hl:i<(flG p g n).length
  ·obtain⟨r,r1,r2,r3,r4⟩:=ih hl;refine⟨r,by omega,r2,?_,?_⟩
   ·simp only[e1];rw[List.getElem_append_left hl];exact r3
   ·rw[e2,List.getElem?_append_left (by omega)];exact r4
  ·cases hp:p n with
   |false=>
    rw[e1,hp,if_neg (by simp),List.append_nil]at hi;exact absurd hi hl
   |true=>
    have hi2:i=(flG p g n).length:=by
     rw[e1,hp,if_pos rfl,List.length_append,List.length_singleton]at hi;omega
    refine⟨n,by omega,hp,?_,?_⟩
    ·simp only[e1,hp,if_true];rw[List.getElem_append_right (by omega)];simp[hi2]
    ·rw[e2,hp,if_pos rfl,List.getElem?_append_right (by omega)];simp[hi2,el]
theorem qze{a:Ap}(hl:lyE a.lay=0)(k y:Nat)(n:Nat):vrG a k y n=flG (vtB (a.l.getD k default).rds (a.cls.getD k []) (qdg a k) a.lay y) (fun r=>(⟨((a.l.getD k default).rds.getD r default).words,shR a.x.sig a.gs ((a.l.getD k default).rds.getD r default).src⟩:Va)) n:=by
 induction n with
 |zero=>rfl
 |succ n ih=>
  unfold vrG flG;rw[ih];congr 1;unfold vtB lyR;rw[if_pos hl]
  by_cases h1:lyN a.lay ((a.cls.getD k []).getD n [])=y
  ·by_cases h2:((a.l.getD k default).rds.getD n default).words=qdg a k
   ·rw[if_neg (fun h=>h.2 h2),decide_eq_true h1,decide_eq_true h2,if_neg (by simp)]
   ·rw[if_pos ⟨h1,h2⟩,decide_eq_true h1,decide_eq_false h2,if_pos (by simp)]
  ·rw[if_neg (fun h=>h1 h.1),decide_eq_false h1,if_neg (by simp)]
def qbZ(L:List Va):List AV:=L.flatMap vaC
theorem qdZ(L:List Va):(qbZ L).length=L.length*2:=by
 induction L with
 |nil=>rfl
 |cons a L ih=>show (vaC a++qbZ L).length=_;rw[List.length_append,ih];simp[vaC];omega
theorem qhi(A B:List Va):qbZ (A++B)=qbZ A++qbZ B:=by simp[qbZ]
theorem qqe{L:List Va}: ∀ {i:Nat},i<L.length→((qbZ L).drop (i*2)).take 2=vaC (L.getD i default):=by
 induction L with
 |nil=>intro i h;exact absurd h (Nat.not_lt_zero _)
 |cons a L ih=>
  intro i h;cases i with
  |zero=>rfl
  |succ i=>
   have e:(i+1)*2=i*2+1+1:=by omega
   rw[e];show ((strs a.words::strs a.sigla::qbZ L).drop (i*2+1+1)).take 2=_;rw[List.drop_succ_cons,List.drop_succ_cons];exact ih (by simpa using h)
theorem qhb{v n:Nat}{L:List Va}{fz:Nat→Bool}{h:List AObj}{d:Nat}(hn:n=L.length):VLe (qd9 (some (zV v 85 (qbZ L))) v 2 0 n (rei fz h (d+1))) (qaQ L):=by
 subst hn
 by_cases h0:L= []
 ·subst h0;show VLe (qd9 (some (.emp v)) v 2 0 0 _) _;rw[slOf_emp,if_pos rfl];exact jS
 ·have e0:zV v 85 (qbZ L)= .mem v 85 (qbZ L):=jJ (fun e=>h0 (by
   cases L with
   |nil=>rfl
   |cons a L=>cases e))
  rw[e0,slOf_mem,if_pos ⟨rfl,by rw[qdZ];omega⟩];refine VLe.sl_eq rfl (fun i hi=> ?_);simp only[Nat.zero_add];rw[qqe hi];rfl
theorem qmx{v n:Nat}{L:List En}{fz:Nat→Bool}{h:List AObj}{d:Nat}(hn:n=L.length):VLe (qd9 (some (zV v 58 (qai L))) v 6 0 n (rei fz h (d+1))) (qbm L):=by
 by_cases h0:L= []
 ·subst h0;subst hn;show VLe (qd9 (some (.emp v)) v 6 0 0 _) _;rw[slOf_emp,if_pos rfl];exact jS
 ·have e0:zV v 58 (qai L)= .mem v 58 (qai L):=jJ (fun e=>h0 (by
   cases L with
   |nil=>rfl
   |cons a L=>cases e))
  rw[e0];exact qpP hn
theorem qCN(r:Rd)(own:List Str)(h:List AObj)(h1:r.words.length≤1000000000)(h2:own.length≤1000000000):ACalls Tryz.prog 162 [.agg (rdC r),.ip [strs own]] h (.bool (decide (r.words=own))) h:=by
 have c1:=fun h=>qyR r.words own h h1 h2
 unfold strs at c1;refine acO qw6 ?_;simp (disch:=omega) only[qvB,rdC,strs,go_sem]
 repeat' first
  |(refine cA (c1 _) ?_ ?_;exact flk;simp (disch:=omega) only[go_sem])
  |(apply qb;exact rvk;simp only[go_sem];exact qj)
  |with_reducible apply aiA
 all_goals try exact clz
theorem qAY(L:List Rd)(own:List Str)(k v:Nat)(h:List AObj)(hk:qH k h=some (.mem v 22 [strs own]))(hl:L.length≤1000000000)(hw: ∀j,(L.getD j default).words.length≤1000000000)(ho:own.length≤1000000000):
  ACalls Tryz.prog 127 [zx L,.fn (.func 162) [] [.op k v 0]] h (.int .i64 (qag (fun r=>decide ((L.getD r default).words=own)) L.length 0)) h:=by
 have hc:=zj hk;unfold zx;refine qb3 qqM L.length (fun j=>rdC (L.getD j default)) (fun j=> .agg (rdC (L.getD j default))) _ [] [.op k v 0] _ h (fun i _=>⟨rfl,by simp[jn,rdC],rfl,rfl,rfl⟩) (fun i _=> ?_) (by omega);refine ACalls.borrow ?_ rfl;have e:([AV.agg (rdC (L.getD i default))]++ [AV.op k v 0]).map (rei (fun _=>true) h 8)= [.agg (rdC (L.getD i default)),.ip [strs own]]:=by
  simp only[List.cons_append,List.nil_append,List.map_cons,List.map_nil,rei_op,if_true,hc,ipOf_some,List.drop_zero,rei_agg];rfl
 rw[List.nil_append,e];exact qCN _ own _ (hw i) ho
theorem spK{a:Ap}(h:qu1 a.x a.l a.b){k:Nat}(hk:k<a.l.length):spF a.b k (a.l.getD k default).frm=(frK a k:Int)∧spT a.b k (a.l.getD k default).frm=(toK a k:Int):=by
 obtain⟨F,G,hFG,hG,hb,hq,e1,e2⟩:=qhd h hk;have f1:frK a k=F:=e1;have f2:toK a k=G:=by
  unfold toK;rw[f1,e2];omega
 rw[f1,f2];have hi:=qtr hG hq;unfold spF spT qy6 qy7
 by_cases hlt:F<G
 ·rw[if_pos hlt]at hi;have hk1:qfk (inU a.b k) a.b.length F=G:=qjU hFG hG (fun j h1 h2=>(hq j (by omega)).2 ⟨h1,h2⟩) fun h3=>by
   cases e:inU a.b k G with
   |false=>rfl
   |true=>exact absurd ((hq G h3).1 e).2 (Nat.lt_irrefl _)
  have hbe:qu5 (inU a.b k) a.b.length F=false:=by
   unfold qu5;rw[hk1];refine qn.2 fun i hi=> ?_
   by_cases g:G≤i
   ·cases e:inU a.b k i with
    |false=>rw[Bool.and_false]
    |true=>have:=((hq i hi).1 e).2;omega
   ·rw[decide_eq_false g,Bool.false_and]
  have hE:qmK (inU a.b k) a.b.length=0:=by
   unfold qmK;rw[hi,if_neg (by omega),Int.toNat_natCast,hbe,if_neg (by simp)]
  rw[hE,if_pos rfl,if_pos rfl,if_pos rfl,if_pos rfl,hi,Int.toNat_natCast,hk1];exact⟨rfl,rfl⟩
 ·rw[if_neg hlt]at hi;have hE:qmK (inU a.b k) a.b.length=6:=by
   unfold qmK;rw[hi];rfl
  rw[hE,if_neg (by decide),if_neg (by decide),e1];exact⟨rfl,by omega⟩
theorem qm1{t:List Str}{f d:Nat}(h:f+d<t.length):qci t f (f+(d+1))=qci t f (f+d)++ [t.getD (f+d) []]:=by
 unfold qci;rw[show f+(d+1)-f=d+1 by omega,show f+d-f=d by omega,List.take_add_one];congr 1;rw[List.getElem?_drop,gdqA,zA h];rfl
structure ES where
 i:Nat
 v:Nat
 O6:AObj
 O7:AObj
 O8:AObj
 O9:AObj
 e10:Nat
 O11:AObj
 O12:AObj
 O13:AObj
 e14:Nat
 O15:AObj
theorem qhj(L:List Va)(n:Nat): ∀c∈qbZ L,ji n c=true:=by
 intro c hc;unfold qbZ at hc;obtain⟨x,_,hx⟩:=List.mem_flatMap.1 hc;simp only[vaC,List.mem_cons,List.not_mem_nil,or_false]at hx;rcases hx with rfl|rfl<;>rfl
theorem qfv(a:Ap)(k y:Nat):(enU a k++enY a k y).length≤k*a.lay.length+y:=by
 have h1: ∀k n,(enY a k n).length≤n:=by
  intro k n
  induction n with
  |zero=>exact Nat.le_refl _
  |succ n ih=>
   show (enY a k n++if vrK a k n= [] then [] else [enK a k n]).length≤_;rw[List.length_append];split
   ·simp only[List.length_nil];omega
   ·simp only[List.length_cons,List.length_nil];omega
 have h2: ∀n,(enU a n).length≤n*a.lay.length:=by
  intro n
  induction n with
  |zero=>exact Nat.zero_le _
  |succ n ih=>
   show (enU a n++enY a n a.lay.length).length≤_;rw[List.length_append,Nat.add_mul,Nat.one_mul]
   have:=h1 n a.lay.length
   omega
 rw[List.length_append]
 have:=h1 k y
 have:=h2 k
 omega
structure EY where
 y:Nat
 v:Nat
 O11:AObj
 O12:AObj
 O13:AObj
 e14:Nat
 O15:AObj
theorem qB5(a:Ap)(h:List AObj)(hz:qnF a)(hp:qaz SG h):
  ACalls Tryz.prog 96 [.agg (coC a.x),qy a.l,jm a.cls,qU a.b,qF a.gs,strs a.lay,jD a.pos] h (.tup [qbm (enR a),.int .i64 (enE a)]) h:=by
 have hsz:=qra hz.g42;have z1:=hz.l12;have z2:=hz.b14;have z3:=hz.y18;have z4:=hz.p20;have z5:=hz.c12;have c38:=fun l'=>pvP a.x a.l a.b (h++l') hz.co hz.un (by omega) (fun i=>by have:=hz.bt i;omega) (hp.app l')
 have c122:=fun h=>sgP a.x.sig a.gs h hsz
 have c27:=fun h=>lyP a.lay [] h (by omega) (fun i=>by have:=hz.yl i;omega)
 have nl0:VLe AV.nl (qbm []):=jS;obtain⟨R,hR⟩: ∃R,R=enR a:=⟨_,rfl⟩
 obtain⟨E,hE⟩: ∃E,E=enE a:=⟨_,rfl⟩
 rw[←hR,←hE];unfold enR at hR;rw[←hE]at hR;unfold enE at hE;unfold coC qy qU strs at c38;unfold strs at c122 c27
 by_cases g1:pvE a.x a.l a.b=0
 case neg=>
  have k1:(pvE a.x a.l a.b=0)=False:=eq_false g1;rw[if_pos g1]at hE;rw[hE,if_neg g1]at hR;rw[hR,hE];refine acO qhU ?_;simp (disch:=omega) only[qsk,coC,qy,jm,strs,jD,qU,go_sem]
  repeat' first
   |(refine cA (c38 _) ?_ ?_;exact flk;simp (disch:=omega) only[k1,go_sem])
   |(apply qb;exact rvk;simp only[go_sem])
  exact zD ⟨nl0,qj,trivial⟩
 rw[if_neg (fun hc=>hc g1)]at hE;rw[g1]at c38
 by_cases g2:sgE a.x.sig a.gs=0
 case neg=>
  have k2:(sgE a.x.sig a.gs=0)=False:=eq_false g2;rw[if_pos g2]at hE;rw[hE,if_neg (by decide)]at hR;rw[hR,hE];refine acO qhU ?_;simp (disch:=omega) only[qsk,coC,qy,jm,strs,jD,qU,go_sem]
  repeat' first
   |((first|refine cA (c38 _) ?_ ?_|refine cA (c122 _) ?_ ?_);exact flk;simp (disch:=omega) only[k2,go_sem])
   |(apply qb;exact rvk;simp only[go_sem])
   |with_reducible apply aiA
  all_goals try exact clz
  exact zD ⟨nl0,qj,trivial⟩
 rw[if_neg (fun hc=>hc g2)]at hE;rw[g2]at c122
 by_cases g3:lyE a.lay=0
 case neg=>
  have k3:(lyE a.lay=0)=False:=eq_false g3;rw[if_pos g3]at hE;rw[hE,if_neg g3]at hR;rw[hR,hE];refine acO qhU ?_;simp (disch:=omega) only[qsk,coC,qy,jm,strs,jD,qU,go_sem]
  repeat' first
   |((first|refine cA (c38 _) ?_ ?_|refine cA (c122 _) ?_ ?_|refine cA (c27 _) ?_ ?_);exact flk;simp (disch:=omega) only[k3,go_sem])
   |(apply qb;exact rvk;simp only[go_sem])
   |with_reducible apply aiA
  all_goals try exact clz
  exact zD ⟨nl0,qj,trivial⟩
 rw[if_neg (fun hc=>hc g3)]at hE;rw[g3]at c27
 by_cases g4:a.pos.length=a.lay.length
 case neg=>
  have k4:((a.pos.length:Int)=a.lay.length)=False:=eq_false (by omega);rw[if_pos (.inl g4)]at hE;rw[hE,if_neg (by decide)]at hR;rw[hR,hE];refine acO qhU ?_;simp (disch:=omega) only[qsk,coC,qy,jm,strs,jD,qU,go_sem]
  repeat' first
   |((first|refine cA (c38 _) ?_ ?_|refine cA (c122 _) ?_ ?_|refine cA (c27 _) ?_ ?_);exact flk;simp (disch:=omega) only[k4,go_sem])
   |(apply qb;exact rvk;simp only[go_sem])
   |with_reducible apply aiA
  all_goals try exact clz
  exact zD ⟨nl0,qj,trivial⟩
 have k4:((a.pos.length:Int)=a.lay.length)=True:=eq_true (by omega)
 by_cases g5:a.cls.length=a.l.length
 case neg=>
  have k5:((a.cls.length:Int)=a.l.length)=False:=eq_false (by omega);rw[if_pos (.inr g5)]at hE;rw[hE,if_neg (by decide)]at hR;rw[hR,hE];refine acO qhU ?_;simp (disch:=omega) only[qsk,coC,qy,jm,strs,jD,qU,go_sem]
  repeat' first
   |((first|refine cA (c38 _) ?_ ?_|refine cA (c122 _) ?_ ?_|refine cA (c27 _) ?_ ?_);exact flk;simp (disch:=omega) only[k4,k5,go_sem])
   |(apply qb;exact rvk;simp only[go_sem])
   |with_reducible apply aiA
  all_goals try exact clz
  exact zD ⟨nl0,qj,trivial⟩
 have k5:((a.cls.length:Int)=a.l.length)=True:=eq_true (by omega);rw[if_neg (by rintro (h|h)<;>contradiction)]at hE;refine acO qhU ?_;simp (disch:=omega) only[qsk,coC,qy,jm,strs,jD,qU,go_sem]
 repeat' first
  |((first|refine cA (c38 _) ?_ ?_|refine cA (c122 _) ?_ ?_|refine cA (c27 _) ?_ ?_);exact flk;simp (disch:=omega) only[k4,k5,go_sem])
  |with_reducible apply aiA
 all_goals try exact clz
 have vv:(∀j,j<a.l.length→(a.cls.getD j []).length=(a.l.getD j default).rds.length)→E=0:=fun hx=>by
  rw[hE,qn.2 (fun j hj=>by rw[decide_eq_true (hx j hj)];rfl),if_neg (by simp)]
 refine qm (T:=fun i:Nat×AObj=>qI 200 [(1,qy a.l),(2,jm a.cls),(3,qU a.b),(5,strs a.lay),(6,jD a.pos),(7,.op h.length 1 0),(11,.op (h.length+1) 1 0),(14,.op (h.length+2) 1 0),(15,.op (h.length+3) 1 0),(69,qy a.l),(70,.int .i64 a.l.length),(71,.int .i64 i.1)])
  (H:=fun i=>h++ [.mem 1 26 (coC a.x),.mem 1 44 [qF a.gs],.mem 1 49 [.nl],.mem 1 35 [.int .i64 0],i.2,.emp 0,.emp 0,.emp 0,.emp 0,.emp 0,.emp 0,.emp 0,.emp 0,.emp 0,.emp 0,.emp 0,.emp 0])
  (inv:=fun i=>i.1≤a.l.length∧qz [i.2] 0=true∧ ∀j,j<i.1→(a.cls.getD j []).length=(a.l.getD j default).rds.length) (m:=fun i=>a.l.length-i.1) (0,.emp 0) ⟨Nat.zero_le _,rfl,fun j hj=>absurd hj (Nat.not_lt_zero j)⟩ (Wk.temps ?_) ?_
 ·(simp only[qy,jm,qU,strs,jD,go_sem,qh,qd,qa,qg];try (repeat' first|(with_reducible apply aiA)|(apply qi;omega)|(apply qe;rfl)|exact qj))
 rintro⟨i,O4⟩ ⟨i1,i2,i3⟩ K hK;simp only at i1 i2 i3 hK;have i2': ∀m,qz (O4::m) 0=true:=fun _=>i2
 by_cases hi:i<a.l.length
 ·have k6:((i:Int)<a.l.length)=True:=eq_true (by omega);have k7:((i:Int)<a.cls.length)=True:=eq_true (by omega);have hbad: ¬(a.cls.getD i []).length=(a.l.getD i default).rds.length→E=9:=fun hx=>by
   rw[hE,qv.2 ⟨i,hi,by rw[decide_eq_false hx];rfl⟩,if_pos rfl]
  have hS:(a.cls.getD i []).length=(a.l.getD i default).rds.length→ ∀j,j<i+1→(a.cls.getD j []).length=(a.l.getD j default).rds.length:=fun hx j hj=>by
   by_cases e:j=i
   ·subst e;exact hx
   ·exact i3 j (by omega)
  obtain⟨u,hu⟩: ∃u,u=a.l.getD i default:=⟨_,rfl⟩
  have eu:=hu.symm;obtain⟨c,hc⟩: ∃c,c=a.cls.getD i []:=⟨_,rfl⟩
  have ec:=hc.symm;rw[eu,ec]at hbad hS
  by_cases g6:c.length=u.rds.length
  ·have k8:((c.length:Int)=u.rds.length)=True:=eq_true (by omega);simp (disch:=omega) only[qy,jm,strs,unC,zx,k6,k7,k8,eu,ec,i2',go_sem]
   repeat' first
    |with_reducible apply aiA
   all_goals try exact clz
   refine hK _ _ (i+1,.mem (qq (some O4)+1) 83 (unC u)) ⟨hi,rfl,hS g6⟩ (by simp only;omega) (Wk.temps ?_)
   (simp only[qy,jm,qU,strs,jD,go_sem,qh,qd,qa,qg];try (repeat' first|(with_reducible apply aiA)|(apply qi;omega)|(apply qe;rfl)|exact qj))
  ·have k8:((c.length:Int)=u.rds.length)=False:=eq_false (by omega);have hE9:=hbad g6;rw[hE9,if_neg (by decide)]at hR;rw[hR,hE9];simp (disch:=omega) only[qy,jm,strs,unC,zx,k6,k7,k8,eu,ec,i2',go_sem]
   repeat' first
    |(apply qb;exact rvk;simp only[go_sem])
    |with_reducible apply aiA
   all_goals try exact clz
   exact zD ⟨nl0,qj,trivial⟩
 have k6:((i:Int)<a.l.length)=False:=eq_false (by omega);have hE0:E=0:=vv fun j hj=>i3 j (by omega)
 have hcl: ∀j,j<a.l.length→(a.cls.getD j []).length=(a.l.getD j default).rds.length:=fun j hj=>i3 j (by omega)
 rw[hE0,if_pos rfl]at hR;rw[hR,hE0];clear hK hE hE0 vv hR i3;have hok:=qrs g1;simp (disch:=omega) only[qy,k6,go_sem];refine qm (T:=fun s:ES=>qI 200 [(2,jm a.cls),(3,qU a.b),(5,strs a.lay),(6,jD a.pos),(7,.op h.length 1 0),(11,.op (h.length+1) 1 0),(14,.op (h.length+2) 1 0),(15,.op (h.length+3) 1 0),(21,.osl (h.length+5) s.v 6 0 (enU a s.i).length),(86,qy a.l),(87,.int .i64 a.l.length),(88,.int .i64 s.i)])
  (H:=fun s=>h++ [.mem 1 26 (coC a.x),.mem 1 44 [qF a.gs],.mem 1 49 [.nl],.mem 1 35 [.int .i64 0],O4,zV s.v 58 (qai (enU a s.i)),s.O6,s.O7,s.O8,s.O9,.emp s.e10,s.O11,s.O12,s.O13,.emp s.e14,s.O15,.emp 0])
  (inv:=fun s=>s.i≤a.l.length∧qz [s.O6] 0=true∧qz [s.O7] 0=true∧qz [s.O8] 0=true∧qz [s.O9] 0=true∧qz [s.O11] 0=true∧qz [s.O12] 0=true∧qz [s.O13] 0=true∧qz [s.O15] 0=true) (m:=fun s=>a.l.length-s.i) ⟨0,1,.emp 0,.emp 0,.emp 0,.emp 0,0,.emp 0,.emp 0,.emp 0,0,.emp 0⟩ ⟨Nat.zero_le _,rfl,rfl,rfl,rfl,rfl,rfl,rfl,rfl⟩ (Wk.temps ?_) ?_
 ·(simp only[qy,jm,qU,strs,jD,enU,List.length_nil,go_sem,qh,qd,qa,qg];try (repeat' first|(with_reducible apply aiA)|(apply qi;omega)|(apply qe;rfl)|exact qj))
 rintro⟨k,v,O6,O7,O8,O9,e10,O11,O12,O13,e14,O15⟩ ⟨s1,p6,p7,p8,p9,p11,p12,p13,p15⟩ K hK;simp only at s1 p6 p7 p8 p9 p11 p12 p13 p15 hK;have p6': ∀m,qz (O6::m) 0=true:=fun _=>p6
 have p7': ∀m,qz (O7::m) 0=true:=fun _=>p7
 have p8': ∀m,qz (O8::m) 0=true:=fun _=>p8
 have p9': ∀m,qz (O9::m) 0=true:=fun _=>p9
 have p11': ∀m,qz (O11::m) 0=true:=fun _=>p11
 have p12': ∀m,qz (O12::m) 0=true:=fun _=>p12
 have p13': ∀m,qz (O13::m) 0=true:=fun _=>p13
 have p15': ∀m,qz (O15::m) 0=true:=fun _=>p15
 by_cases hk:k<a.l.length
 case neg=>
  have k7:((k:Int)<a.l.length)=False:=eq_false (by omega);obtain rfl:k=a.l.length:=by omega
  simp (disch:=omega) only[qy,k7,go_sem]
  repeat' first
   |(apply qb;exact rvk;simp only[go_sem])
  exact zD ⟨qmx rfl,qj,trivial⟩
 have k7:((k:Int)<a.l.length)=True:=eq_true (by omega);have k8:((k:Int)<a.cls.length)=True:=eq_true (by omega);have hcu:=hcl k hk;obtain⟨e1,e2⟩:=spK hok hk;obtain⟨f1,f2,_,_⟩:=qdB hok hk;have hown:=qtT hok hk;have c160:=fun h=>qBl a.b (k:Int) (a.l.getD k default) h (by omega)
 rw[e1,e2]at c160;obtain⟨u,hu⟩: ∃u,u=a.l.getD k default:=⟨_,rfl⟩
 have eu:=hu.symm;obtain⟨F,hF⟩: ∃F,F=frK a k:=⟨_,rfl⟩
 obtain⟨G,hG⟩: ∃G,G=toK a k:=⟨_,rfl⟩
 rw[←hF,←hG]at hown f1;rw[←hG]at f2;simp only[←hF,←hG,eu]at c160;unfold qU unC at c160;have q1:((F:Int)≤G)=True:=eq_true (by omega);have q2:((G:Int)≤a.b.length)=True:=eq_true (by omega);have q3:(0≤(F:Int))=True:=eq_true (by omega);simp (disch:=omega) only[qy,qU,unC,wdC,k7,eu,p6',go_sem]
 repeat' first
  |(refine cA (c160 _) ?_ ?_;exact flk;simp (disch:=omega) only[q1,q2,q3,p7',Int.toNat_natCast,go_sem])
  |with_reducible apply aiA
 all_goals try exact clz
 obtain⟨v6,hv6⟩: ∃v6,v6=qq (some O6)+1:=⟨_,rfl⟩
 obtain⟨v7,hv7⟩: ∃v7,v7=qq (some O7)+1:=⟨_,rfl⟩
 simp only[←hv6,←hv7];have t0:qci (qga a.b) F (F+0)= []:=by unfold qci;simp
 have tl:(qga a.b).length=a.b.length:=by unfold qga;simp
 refine qm (T:=fun s:Nat×Nat×AObj×AObj=>qI 200 [(2,jm a.cls),(3,qU a.b),(5,strs a.lay),(6,jD a.pos),(7,.op h.length 1 0),(11,.op (h.length+1) 1 0),(14,.op (h.length+2) 1 0),(15,.op (h.length+3) 1 0),(22,.int .i64 (k:Int)),(23,.op (h.length+6) v6 0),(24,.int .i64 (F:Int)),(25,.int .i64 (G:Int)),(26,.op (h.length+7) v7 0),(86,qy a.l),(87,.int .i64 a.l.length),(88,.int .i64 (k:Int)),(21,.osl (h.length+5) v 6 0 (enU a k).length),(103,.sl (G-F) fun j=>wdC (a.b.getD (F+j) default)),(104,.int .i64 ((G-F:Nat):Int)),(105,.int .i64 s.1)])
  (H:=fun s=>h++ [.mem 1 26 (coC a.x),.mem 1 44 [qF a.gs],.mem 1 49 [.nl],.mem 1 35 [.int .i64 0],O4,zV v 58 (qai (enU a k)),.mem v6 83 (unC u),.mem v7 22 [.osl (h.length+10) s.2.1 1 0 s.1],s.2.2.1,s.2.2.2,zV s.2.1 9 (zH (qci (qga a.b) F (F+s.1))),O11,O12,O13,.emp e14,O15,.emp 0])
  (inv:=fun s=>s.1≤G-F∧qz [s.2.2.1] 0=true∧qz [s.2.2.2] 0=true) (m:=fun s=>G-F-s.1) (0,e10,O8,O9) ⟨Nat.zero_le _,p8,p9⟩
  (Wk.trans (Wk.ownNil (j:=h.length+7) (i:=0) (k:=h.length+10) (v:=v7) (ty:=22) (cs:= [.nl]) (ve:=e10) (sz:=1) ?c1 rfl ?c2) ?c3) ?c4
 case c1=>simp only[go_sem]
 case c2=>simp only[go_sem]
 case c3=>
  have eo:zV e10 9 (zH (qci (qga a.b) F (F+0)))= .emp e10:=by rw[t0];rfl
  have eo2:zV e10 9 (zH (qci (qga a.b) F F))= .emp e10:=eo;simp only[go_sem,eo2,List.set_cons_zero,unC];refine Wk.temps ?_
  (simp only[qy,jm,qU,wdC,strs,jD,unC,go_sem,qh,qd,qa,qg];try (repeat' first|(with_reducible apply aiA)|(apply qi;omega)|(apply qe;rfl)|exact qj))
 case c4=>
 rintro⟨j,w,O8,O9⟩ ⟨j1,p8,p9⟩ K2 hK2;simp only at j1 p8 p9 hK2;have p8': ∀m,qz (O8::m) 0=true:=fun _=>p8
 have p9': ∀m,qz (O9::m) 0=true:=fun _=>p9
 have hsl:=qhf (t:=qga a.b) (f:=F) (g:=F+j) (by omega) (by omega)
 by_cases hj:j<G-F
 ·have r1:((j:Int)<((G-F:Nat):Int))=True:=eq_true (by omega);have hsn:=qm1 (t:=qga a.b) (f:=F) (d:=j) (by omega);have htx:(qga a.b).getD (F+j) []=(a.b.getD (F+j) default).text:=by
   unfold qga;rw[gdqA,List.getElem?_map,gdqA,zA (show F+j<a.b.length by omega)];rfl
  obtain⟨wd,hwd⟩: ∃wd,wd=a.b.getD (F+j) default:=⟨_,rfl⟩
  have ewd:=hwd.symm;rw[htx,ewd]at hsn;obtain⟨S,hS⟩: ∃S,S=qci (qga a.b) F (F+j):=⟨_,rfl⟩
  have eS:=hS.symm;rw[eS]at hsn hsl;have hsl:S.length=j:=by omega
  have eC:=zB S;have eTk:List.take j (zH S)=zH S:=List.take_of_length_le (by omega);rw[hsl]at eC;simp (disch:=omega) only[wdC,r1,ewd,eS,p8',p9',eC,eTk,Nat.mul_one,go_sem]
  repeat' first
   |with_reducible apply aiA
  all_goals try exact clz
  have eA:zH S++ [AV.str wd.text]=zH (qci (qga a.b) F (F+(j+1))):=by rw[hsn,qad];rfl
  try rw[eA]
  refine hK2 _ _ (j+1,w+1,.mem (qq (some O8)+1) 64 (wdC wd),.mem (qq (some O9)+1) 9 [.str wd.text]) ⟨hj,rfl,rfl⟩ (by simp only;omega) ?_;simp only[wdC];refine Wk.temps ?_
  (simp only[qy,jm,qU,wdC,strs,jD,unC,go_sem,qh,qd,qa,qg];try (repeat' first|(with_reducible apply aiA)|(apply qi;omega)|(apply qe;rfl)|exact qj))
 ·have r1:((j:Int)<((G-F:Nat):Int))=False:=eq_false (by omega);obtain rfl:j=G-F:=by omega
  have hG2:F+(G-F)=G:=by omega
  rw[hG2,←hown];rw[hG2,←hown]at hsl;clear hK2;simp (disch:=omega) only[strs,r1,go_sem];obtain⟨W,hW⟩: ∃W,W=qdg a k:=⟨_,rfl⟩
  have eW:=hW.symm;rw[eW]at hsl ⊢;have hWl:W.length=G-F:=by omega
  have hWb:W.length≤1000000000:=by omega
  have hy0:enU a k++enY a k 0=enU a k:=by show enU a k++ []=_;simp
  refine qm (T:=fun s:EY=>qI 200 [(2,jm a.cls),(3,qU a.b),(5,strs a.lay),(6,jD a.pos),(7,.op h.length 1 0),(11,.op (h.length+1) 1 0),(14,.op (h.length+2) 1 0),(15,.op (h.length+3) 1 0),(22,.int .i64 (k:Int)),(23,.op (h.length+6) v6 0),(24,.int .i64 (F:Int)),(25,.int .i64 (G:Int)),(26,.op (h.length+7) v7 0),(86,qy a.l),(87,.int .i64 a.l.length),(88,.int .i64 (k:Int)),(21,.osl (h.length+5) s.v 6 0 (enU a k++enY a k s.y).length),(116,.int .i64 a.lay.length),(117,.int .i64 s.y)])
   (H:=fun s=>h++ [.mem 1 26 (coC a.x),.mem 1 44 [qF a.gs],.mem 1 49 [.nl],.mem 1 35 [.int .i64 0],O4,zV s.v 58 (qai (enU a k++enY a k s.y)),.mem v6 83 (unC u),.mem v7 22 [strs W],O8,O9,.emp (w+1),s.O11,s.O12,s.O13,.emp s.e14,s.O15,.emp 0])
   (inv:=fun s=>s.y≤a.lay.length∧qz [s.O11] 0=true∧qz [s.O12] 0=true∧qz [s.O13] 0=true∧qz [s.O15] 0=true) (m:=fun s=>a.lay.length-s.y) ⟨0,v,O11,O12,O13,e14,O15⟩ ⟨Nat.zero_le _,p11,p12,p13,p15⟩
   (Wk.trans (Wk.fzCell (j:=h.length+7) (k:=h.length+10) (i:=0) (v:=v7) (ty:=22) (cs:= [.osl (h.length+10) w 1 0 (G-F)]) (c:= .osl (h.length+10) w 1 0 (G-F)) (c':=strs W) ?d1 rfl ?d2 (by omega) ?d3) ?d4) ?d5
  case d1=>simp only[go_sem]
  case d2=>simp only[go_sem]
  case d3=>
   rw[qa4,getO_app];exact qdU (fun _=>rfl) hWl.symm
  case d4=>
   simp only[go_sem,hy0,List.set_cons_zero,unC];refine Wk.temps ?_
   (simp only[qy,jm,qU,wdC,strs,jD,unC,go_sem,qh,qd,qa,qg];try (repeat' first|(with_reducible apply aiA)|(apply qi;omega)|(apply qe;rfl)|exact qj))
  case d5=>
  rintro⟨y,v,O11,O12,O13,e14,O15⟩ ⟨y1,p11,p12,p13,p15⟩ K3 hK3;simp only at y1 p11 p12 p13 p15 hK3;have p11': ∀m,qz (O11::m) 0=true:=fun _=>p11
  have p12': ∀m,qz (O12::m) 0=true:=fun _=>p12
  have p13': ∀m,qz (O13::m) 0=true:=fun _=>p13
  have p15': ∀m,qz (O15::m) 0=true:=fun _=>p15
  have hys:enY a k (y+1)=enY a k y++if vrK a k y= [] then [] else [enK a k y]:=rfl
  by_cases hy:y<a.lay.length
  case neg=>
   have r2:((y:Int)<a.lay.length)=False:=eq_false (by omega);obtain rfl:y=a.lay.length:=by omega
   have hus:enU a k++enY a k a.lay.length=enU a (k+1):=rfl;rw[hus];simp (disch:=omega) only[strs,r2,go_sem];refine hK _ _ ⟨k+1,v,.mem v6 83 (unC u),.mem v7 22 [strs W],O8,O9,w+1,O11,O12,O13,e14,O15⟩ ⟨hk,rfl,rfl,p8,p9,p11,p12,p13,p15⟩ (by simp only;omega) ?_;simp only[unC];refine Wk.temps ?_
   (simp only[qy,jm,qU,wdC,strs,jD,unC,go_sem,qh,qd,qa,qg];try (repeat' first|(with_reducible apply aiA)|(apply qi;omega)|(apply qe;rfl)|exact qj))
  have r2:((y:Int)<a.lay.length)=True:=eq_true (by omega);have r3:((y:Int)<a.pos.length)=True:=eq_true (by omega);obtain⟨pb,hpb⟩: ∃pb,pb=a.pos.getD y false:=⟨_,rfl⟩
  have epb:=hpb.symm;obtain⟨cl,hclx⟩: ∃cl,cl=a.cls.getD k []:=⟨_,rfl⟩
  have ecl:=hclx.symm;simp (disch:=omega) only[strs,jD,r2,r3,epb,p11',go_sem]
  repeat' first
   |with_reducible apply aiA
  all_goals try exact clz
  obtain⟨v11,hv11⟩: ∃v11,v11=qq (some O11)+1:=⟨_,rfl⟩
  simp only[←hv11];refine⟨_,_,Wk.trans (Wk.cells (j:=h.length+11) (v:=v11) (ty:=58) (cs:= [.int .i64 (y:Int),.int .i64 (F:Int),.int .i64 (G:Int),.bool pb,.nl,.nl]) (cs':= [.int .i64 (y:Int),.int .i64 (F:Int),.int .i64 (G:Int),.bool pb,strs [],.nl]) ?m1 ?m2)
   (Wk.ownNil (j:=h.length+11) (i:=5) (k:=h.length+14) (v:=v11) (ty:=58) (cs:= [.int .i64 (y:Int),.int .i64 (F:Int),.int .i64 (G:Int),.bool pb,strs [],.nl]) (ve:=e14) (sz:=2) ?m3 rfl ?m4),?_⟩
  case m1=>simp only[go_sem]
  case m2=>exact⟨qj,qj,qj,qj,jS,qj,trivial⟩
  case m3=>simp only[go_sem]
  case m4=>simp only[go_sem]
  have c161:=fun h=>qDF u cl W a.lay (y:Int) h
  unfold unC strs at c161;have kc:((k:Int)<a.cls.length)=True:=k8;simp (disch:=omega) only[List.set_cons_succ,List.set_cons_zero,jm,strs,unC,k8,ecl,go_sem]
  repeat' first
   |(refine cA (c161 _) ?_ ?_;exact flk;simp (disch:=omega) only[go_sem])
   |with_reducible apply aiA
  all_goals try exact clz
  have hmem:u∈a.l:=by rw[hu,gdqA,zA hk];exact List.getElem_mem hk
  have hur:=(qcJ hok.un).rg u hmem;have hri:qff u.rds a.x.sig.length:=by rw[hur.2.2.2];exact qg3 _ _ _
  have hsgl:=(qc6 hok.co).sg;have hsr: ∀r,r<u.rds.length→(u.rds.getD r default).src.length≤32∧qb7 a.x.sig a.gs (u.rds.getD r default).src=0:=fun r hr=>by
   have h1:=hri.src (u.rds.getD r default) (by rw[gdqA,zA hr];exact List.getElem_mem hr);have h2:=qcm (hi:=((a.x.sig.length:Nat):Int)) (lo:=0) h1.1 h1.2;refine⟨by omega,?_⟩;unfold qb7;rw[if_pos g2];exact qrh h1.1 h1.2
  have h8:=qeu hz.g42 g2;have zrl:=hz.un.rd k;have zwd:=hz.un.wd k;rw[eu]at zrl;simp only[eu]at zwd;have zcl:cl.length=u.rds.length:=by rw[←ecl,←eu];exact hcu
  have hV:=qze g3 k y (a.l.getD k default).rds.length;rw[eu,ecl,eW]at hV;obtain⟨VL,hVL⟩: ∃VL,VL=vrK a k y:=⟨_,rfl⟩
  have hV:VL=flG (vtB u.rds cl W a.lay (y:Int)) (fun r=>(⟨(u.rds.getD r default).words,shR a.x.sig a.gs (u.rds.getD r default).src⟩:Va)) u.rds.length:=by
   rw[hVL,←hV];unfold vrK;rw[eu]
  have hxl:(vtX u.rds cl W a.lay (y:Int) u.rds.length).length=VL.length:=by rw[hV];exact qkU _ _ _ _
  have hVLn:VL.length≤u.rds.length:=by rw[hV];exact qwQ _ _ _
  have hix:=fun i hi=>qwP (p:=vtB u.rds cl W a.lay (y:Int)) (g:=fun r=>([.agg (rdC (u.rds.getD r default))]:List AV)) (k:=fun r=>(⟨(u.rds.getD r default).words,shR a.x.sig a.gs (u.rds.getD r default).src⟩:Va)) (n:=u.rds.length) (i:=i) hi
  rw[←hV]at hix;refine qaU (xs:=vtX u.rds cl W a.lay (y:Int) u.rds.length) (itV u cl W a.lay (y:Int) zrl zcl zwd hWb (by omega) (fun i=>by have:=hz.yl i;omega)) ?e0
   (S:=fun i hh=> ∃w2 Q12 Q13,qz [Q12] 0=true∧qz [Q13] 0=true∧(Q12=O12∨ ∀n,qaj n Q12)∧(Q13=O13∨ ∀n,qaj n Q13)∧hh=h++ [.mem 1 26 (coC a.x),.mem 1 44 [qF a.gs],.mem 1 49 [.nl],.mem 1 35 [.int .i64 0],O4,zV v 58 (qai (enU a k++enY a k y)),.mem v6 83 (unC u),.mem v7 22 [strs W],O8,O9,.emp (w+1),.mem v11 58 [.int .i64 (y:Int),.int .i64 (F:Int),.int .i64 (G:Int),.bool pb,strs [],.osl (h.length+14) w2 2 0 i],Q12,Q13,zV w2 85 (qbZ (VL.take i)),O15,.emp 0])
   (E:=fun _ _=>False) ?e1 (fun _ _ h=>h.elim) ?e2 ?e3 ?e4 ?e5 (fun _ _ h=>h.elim)
  case e0=>
   intro x hx;unfold vtX at hx;obtain⟨i,hi,e⟩:=List.getElem_of_mem hx;obtain⟨r,_,_,r3,_⟩:=hix i hi;rw[←e,r3];rfl
  case e1=>
   rintro i hh ⟨w2,Q12,Q13,_,_,l12,l13,rfl⟩;refine LowI.app rfl (fun o ho=> ?_);simp only[List.mem_cons,List.not_mem_nil,or_false]at ho;have lft: ∀ {p q:Prop},p→p∨q:=fun h=> .inl h
   rcases ho with rfl|rfl|rfl|rfl|rfl|rfl|rfl|rfl|rfl|rfl|rfl|rfl|rfl|rfl|rfl|rfl|rfl
   case inr.inr.inr.inr.inr.inr.inr.inr.inr.inr.inr.inl=>
    right;constructor<;>(intro c hc;simp only[List.mem_cons,List.not_mem_nil,or_false]at hc;rcases hc with rfl|rfl|rfl|rfl|rfl|rfl<;>simp[ji,qdG])
   case inr.inr.inr.inr.inr.inr.inr.inr.inr.inr.inr.inr.inl=>
    rcases l12 with rfl|l12
    ·left;simp only[List.mem_cons,true_or,or_true]
    ·right;exact⟨l12 _,l12 _⟩
   case inr.inr.inr.inr.inr.inr.inr.inr.inr.inr.inr.inr.inr.inl=>
    rcases l13 with rfl|l13
    ·left;simp only[List.mem_cons,true_or,or_true]
    ·right;exact⟨l13 _,l13 _⟩
   case inr.inr.inr.inr.inr.inr.inr.inr.inr.inr.inr.inr.inr.inr.inl=>
    right;exact⟨qaE (qhj _ _),qaE (qhj _ _)⟩
   all_goals
    left;simp only[List.mem_cons,unC,strs,true_or,or_true]
  case e2=>exact⟨e14,O12,O13,p12,p13,.inl rfl,.inl rfl,rfl⟩
  case e3=>
   have lw: ∀n,ji n (qU a.b)=true:=fun _=>rfl
   have lu: ∀n,ji n (qy a.l)=true:=fun _=>rfl
   have lr: ∀n,ji n (zx u.rds)=true:=fun _=>rfl
   simp[ji,ji.lowVs,lw,lu,lr]
   try omega
  case e4=>
   rintro i hh tl LI TS hi ⟨w2,Q12,Q13,q12,q13,l12,l13,rfl⟩ hlen K4 K5 hK4 hN hR' hX;obtain⟨r,ra,rb,rc,rd4⟩:=hix i hi;have rc':(vtX u.rds cl W a.lay (y:Int) u.rds.length)[i]= [.agg (rdC (u.rds.getD r default))]:=rc;rw[rc'];rw[hxl]at hi;have q12': ∀m,qz (Q12::m) 0=true:=fun _=>q12
   have q13': ∀m,qz (Q13::m) 0=true:=fun _=>q13
   obtain⟨sl,sE⟩:=hsr r ra;have zw:=zwd r;obtain⟨rd,hrd⟩: ∃rd,rd=u.rds.getD r default:=⟨_,rfl⟩
   rw[←hrd]at rd4 sl sE zw ⊢;have c142:=fun h=>qCn a.x.sig a.gs rd.src h hsz (by omega) (fun _=>h8)
   simp only[sE]at c142;obtain⟨sh,hsh⟩: ∃sh,sh=shR a.x.sig a.gs rd.src:=⟨_,rfl⟩
   rw[←hsh]at rd4;simp only[←hsh]at c142;have hTk:VL.take (i+1)=VL.take i++ [⟨rd.words,sh⟩]:=by rw[List.take_add_one,rd4];rfl
   have hTl:(VL.take i).length=i:=by rw[List.length_take];omega
   have eVl:=qdZ (VL.take i);rw[hTl]at eVl;have eVk:List.take (i*2) (qbZ (VL.take i))=qbZ (VL.take i):=List.take_of_length_le (by omega);have eVn:qbZ (VL.take (i+1))=qbZ (VL.take i)++ [strs rd.words,strs sh]:=by rw[hTk,qhi];rfl
   unfold strs ql at c142;simp only[qb6];simp (disch:=omega) only[List.append_assoc,coC,rdC,q12',go_sem];refine hK4 _ _ (h++ [.mem 1 26 (coC a.x),.mem 1 44 [qF a.gs],.mem 1 49 [.nl],.mem 1 35 [.int .i64 0],O4,zV v 58 (qai (enU a k++enY a k y)),.mem v6 83 (unC u),.mem v7 22 [strs W],O8,O9,.emp (w+1),.mem v11 58 [.int .i64 (y:Int),.int .i64 (F:Int),.int .i64 (G:Int),.bool pb,strs [],.osl (h.length+14) w2 2 0 i],.mem (qq (some Q12)+1) 89 (rdC rd),Q13,zV w2 85 (qbZ (VL.take i)),O15,.emp 0]) (by simp[coC,rdC]) (by simp) ?_;simp (disch:=omega) only[List.append_assoc,coC,rdC,ql,strs,go_sem]
   repeat' first
    |(refine cA (c142 _) ?_ ?_;exact flk;simp (disch:=omega) only[q13',eVl,eVk,go_sem])
    |with_reducible first|intro _|apply aiA
   all_goals try exact clz
   have hl1: ∀n,qaj n (.mem (qq (some Q12)+1) 89 (rdC rd)):=fun n c hc=>by
    simp only[rdC,List.mem_cons,List.not_mem_nil,or_false]at hc;rcases hc with rfl|rfl<;>rfl
   have hl2: ∀n,qaj n (.mem (qq (some Q13)+1) 85 [strs rd.words,strs sh]):=fun n c hc=>by
    simp only[List.mem_cons,List.not_mem_nil,or_false]at hc;rcases hc with rfl|rfl<;>rfl
   refine hN _ _ (h++ [.mem 1 26 (coC a.x),.mem 1 44 [qF a.gs],.mem 1 49 [.nl],.mem 1 35 [.int .i64 0],O4,zV v 58 (qai (enU a k++enY a k y)),.mem v6 83 (unC u),.mem v7 22 [strs W],O8,O9,.emp (w+1),.mem v11 58 [.int .i64 (y:Int),.int .i64 (F:Int),.int .i64 (G:Int),.bool pb,strs [],.osl (h.length+14) (w2+1) 2 0 (i+1)],.mem (qq (some Q12)+1) 89 (rdC rd),.mem (qq (some Q13)+1) 85 [strs rd.words,strs sh],zV (w2+1) 85 (qbZ (VL.take (i+1))),O15,.emp 0]) (by rw[eVn,List.append_assoc];rfl) (by simp) ⟨w2+1,_,_,rfl,rfl,.inr hl1,.inr hl2,rfl⟩
  case e5=>
   rintro hh ⟨w2,Q12,Q13,q12,q13,l12,l13,rfl⟩;have q12': ∀m,qz (Q12::m) 0=true:=fun _=>q12
   have q13': ∀m,qz (Q13::m) 0=true:=fun _=>q13
   rw[hxl,List.take_length];simp (disch:=omega) only[go_sem];refine⟨_,_,Wk.fzCell (j:=h.length+11) (k:=h.length+14) (i:=5) (v:=v11) (ty:=58) (cs:= [.int .i64 (y:Int),.int .i64 (F:Int),.int .i64 (G:Int),.bool pb,strs [],.osl (h.length+14) w2 2 0 VL.length]) (c:= .osl (h.length+14) w2 2 0 VL.length) (c':=qaQ VL) ?n1 rfl ?n2 (by omega) ?n3,?_⟩
   case n1=>simp only[go_sem]
   case n2=>simp only[go_sem]
   case n3=>
    rw[qa4,getO_app];exact qhb rfl
   have zv: ∀g,valL g .len [qaQ VL]= .int .i64 VL.length:=fun _=>rfl
   have zw: ∀g,okL g .len [qaQ VL]=True:=fun _=>eq_true trivial
   by_cases hV0:VL.length=0
   ·have n0:((VL.length:Int)=0)=True:=eq_true (by omega);simp (disch:=omega) only[List.set_cons_succ,List.set_cons_zero,zv,zw,n0,go_sem]
    repeat' first
     |with_reducible apply aiA
    all_goals try exact clz
    have hnil:VL= []:=List.eq_nil_of_length_eq_zero hV0;rw[←hVL,hnil,if_pos rfl,List.append_nil]at hys;refine hK3 _ _ ⟨y+1,v,.mem v11 58 [.int .i64 (y:Int),.int .i64 (F:Int),.int .i64 (G:Int),.bool pb,strs [],qaQ VL],Q12,Q13,w2+1,O15⟩ ⟨hy,rfl,q12,q13,p15⟩ (by simp only;omega) ?_;simp only[hys];refine Wk.temps ?_
    (simp only[qy,jm,qU,wdC,strs,jD,unC,go_sem,qh,qd,qa,qg];try (repeat' first|(with_reducible apply aiA)|(apply qi;omega)|(apply qe;rfl)|exact qj))
   have n0:((VL.length:Int)=0)=False:=eq_false (by omega);have hne: ¬VL= []:=fun e=>hV0 (by rw[e];rfl)
   rw[←hVL,if_neg hne]at hys;have eBA:baK a k=qag (fun r=>decide ((u.rds.getD r default).words=W)) u.rds.length 0:=by unfold baK;rw[eu,eW]
   have hBc:=zd (fun r=>decide ((u.rds.getD r default).words=W)) u.rds.length;have hsu:suK a k y=if pb=true∧0≤baK a k then shR a.x.sig a.gs (u.rds.getD (baK a k).toNat default).src else []:=by unfold suK;rw[epb,eu]
   have hen:enC (enK a k y)= [.int .i64 (y:Int),.int .i64 (F:Int),.int .i64 (G:Int),.bool pb,strs (suK a k y),qaQ VL]:=by
    unfold enK enC;rw[epb,←hF,←hG,←hVL]
   have hMl:=qfv a k y;obtain⟨M,hM⟩: ∃M,M=enU a k++enY a k y:=⟨_,rfl⟩
   have hMn:enU a k++enY a k (y+1)=M++ [enK a k y]:=by rw[hys,hM,List.append_assoc]
   rw[←hM]at hMl ⊢;have hMb:M.length≤1000:=by
    have h1:k*a.lay.length≤12*18:=Nat.mul_le_mul (by omega) z3;omega
   have eMl:=qca M;have eMk:List.take (M.length*6) (qai M)=qai M:=List.take_of_length_le (by omega);have eMn:qai (enU a k++enY a k (y+1))=qai M++enC (enK a k y):=by rw[hMn,qgy,qgA]
   have eMq:(enU a k++enY a k (y+1)).length=M.length+1:=by rw[hMn,List.length_append];rfl
   have c127:=fun H hk=>qAY u.rds W (h.length+7) v7 H hk (by omega) zwd hWb
   rw[←eBA]at c127 hBc;obtain⟨bk,hbk⟩: ∃bk,bk=baK a k:=⟨_,rfl⟩
   rw[←hbk]at hsu hBc;simp only[←hbk]at c127;obtain⟨su,hsux⟩: ∃su,su=suK a k y:=⟨_,rfl⟩
   rw[←hsux]at hsu hen;simp (disch:=omega) only[List.set_cons_succ,List.set_cons_zero,zv,zw,n0,unC,go_sem]
   repeat' first
    |with_reducible apply aiA
   all_goals try exact clz
   refine cA (c127 _ ?ka) (by exact flk) ?_
   case ka=>simp only[go_sem]
   cases pb with
   |false=>
    rw[if_neg (by simp)]at hsu;rw[hsu]at hen;simp (disch:=omega) only[r3,epb,p15',eMl,eMk,go_sem]
    repeat' first
     |with_reducible first|intro _|apply aiA
    all_goals try exact clz
    rw[hen]at eMn
    try rw[←eMn]
    refine hK3 _ _ ⟨y+1,v+1,.mem v11 58 [.int .i64 (y:Int),.int .i64 (F:Int),.int .i64 (G:Int),.bool false,strs [],qaQ VL],Q12,Q13,w2+1,.mem (qq (some O15)+1) 58 [.int .i64 (y:Int),.int .i64 (F:Int),.int .i64 (G:Int),.bool false,strs [],qaQ VL]⟩ ⟨hy,rfl,q12,q13,rfl⟩ (by simp only;omega) ?_;simp only[eMq];refine Wk.temps ?_
    (simp only[qy,jm,qU,wdC,strs,jD,unC,go_sem,qh,qd,qa,qg];try (repeat' first|(with_reducible apply aiA)|(apply qi;omega)|(apply qe;rfl)|exact qj))
   |true=>
   by_cases hb0:0≤bk
   case neg=>
    have n1:(0≤bk)=False:=eq_false hb0;rw[if_neg (fun hc=>hb0 hc.2)]at hsu;rw[hsu]at hen;simp (disch:=omega) only[r3,epb,p15',eMl,eMk,n1,go_sem]
    repeat' first
     |with_reducible apply aiA
    all_goals try exact clz
    rw[hen]at eMn
    try rw[←eMn]
    refine hK3 _ _ ⟨y+1,v+1,.mem v11 58 [.int .i64 (y:Int),.int .i64 (F:Int),.int .i64 (G:Int),.bool true,strs [],qaQ VL],Q12,Q13,w2+1,.mem (qq (some O15)+1) 58 [.int .i64 (y:Int),.int .i64 (F:Int),.int .i64 (G:Int),.bool true,strs [],qaQ VL]⟩ ⟨hy,rfl,q12,q13,rfl⟩ (by simp only;omega) ?_;simp only[eMq];refine Wk.temps ?_
    (simp only[qy,jm,qU,wdC,strs,jD,unC,go_sem,qh,qd,qa,qg];try (repeat' first|(with_reducible apply aiA)|(apply qi;omega)|(apply qe;rfl)|exact qj))
   case pos=>
    have n1:(0≤bk)=True:=eq_true hb0;rw[if_pos ⟨rfl,hb0⟩]at hsu;obtain⟨r,hr1,hr2⟩: ∃r:Nat,bk=(r:Int)∧r<u.rds.length:=by
     rcases hBc with⟨i,h1,_,_,h4⟩|⟨_,h2⟩
     ·exact⟨i,h4,h1⟩
     ·omega
    rw[hr1]at n1;rw[hr1,Int.toNat_natCast]at hsu;simp only[hr1];have n2:((r:Int)<u.rds.length)=True:=eq_true (by omega);obtain⟨sl,sE⟩:=hsr r hr2;obtain⟨rd,hrd⟩: ∃rd,rd=u.rds.getD r default:=⟨_,rfl⟩
    have erd:=hrd.symm;rw[erd]at sl sE hsu;have c142:=fun h=>qCn a.x.sig a.gs rd.src h hsz (by omega) (fun _=>h8)
    simp only[sE,←hsu]at c142;unfold strs ql at c142;simp (disch:=omega) only[r3,epb,n1,n2,coC,zx,rdC,ql,strs,erd,go_sem]
    repeat' first
     |(refine cA (c142 _) ?_ ?_;exact flk;simp (disch:=omega) only[p15',eMl,eMk,List.set_cons_succ,List.set_cons_zero,go_sem])
     |(apply qb;exact rvk;simp only[go_sem])
     |with_reducible first|intro _|apply aiA
    all_goals try exact clz
    rw[hen]at eMn;unfold strs at eMn
    try rw[←eMn]
    refine hK3 _ _ ⟨y+1,v+1,.mem v11 58 [.int .i64 (y:Int),.int .i64 (F:Int),.int .i64 (G:Int),.bool true,strs su,qaQ VL],Q12,Q13,w2+1,.mem (qq (some O15)+1) 58 [.int .i64 (y:Int),.int .i64 (F:Int),.int .i64 (G:Int),.bool true,strs su,qaQ VL]⟩ ⟨hy,rfl,q12,q13,rfl⟩ (by simp only;omega) ?_;simp only[eMq];refine Wk.temps ?_
    (simp only[qy,jm,qU,wdC,strs,jD,unC,go_sem,qh,qd,qa,qg];try (repeat' first|(with_reducible apply aiA)|(apply qi;omega)|(apply qe;rfl)|exact qj))
theorem qDn(e:En)(h:List AObj)(hs:e.sup.length≤1000000000)(hv:e.vars.length≤1000000000)(hw: ∀j,(e.vars.getD j default).words.length≤1000000000)(hg: ∀j,(e.vars.getD j default).sigla.length≤1000000000):
  ACalls Tryz.prog 30 [.agg (enC e),.agg (enC e)] h (.bool true) h:=by
 have c85:=fun h=>qvd e.sup e.sup h hs hs
 rw[decide_eq_true rfl]at c85;have zv1: ∀g,valL g .len [qaQ e.vars]= .int .i64 e.vars.length:=fun _=>rfl
 have zv2: ∀g,okL g .len [qaQ e.vars]=True:=fun _=>eq_true trivial
 refine acO qAx ?_;simp (disch:=omega) only[qBT,enC,go_sem]
 repeat' first
  |(refine cG (fun e=>c85 _) ?_ ?_;exact flk;simp (disch:=omega) only[zv1,zv2,go_sem])
  |with_reducible apply aiA
 all_goals try exact clz
 refine qm (T:=fun i:Nat=>qI 86 [(2,.op h.length 1 0),(3,.op (h.length+1) 1 0),(5,.int .i64 i)])
  (H:=fun _=>h++ [.mem 1 58 [.int .i64 e.layer,.int .i64 e.frm,.int .i64 e.to,.bool e.pos,strs e.sup,qaQ e.vars],.mem 1 58 [.int .i64 e.layer,.int .i64 e.frm,.int .i64 e.to,.bool e.pos,strs e.sup,qaQ e.vars]])
  (inv:=fun i=>i≤e.vars.length) (m:=fun i=>e.vars.length-i) 0 (Nat.zero_le _) (Wk.temps ?_) ?_
 ·(simp only[go_sem,qh,qd,qa,qg];try (repeat' first|(with_reducible apply aiA)|(apply qi;omega)|(apply qe;rfl)|exact qj))
 rintro i i1 K hK
 by_cases hi:i<e.vars.length
 ·have k1:((i:Int)<e.vars.length)=True:=eq_true (by omega);have cw:=fun h=>qvd (e.vars.getD i default).words (e.vars.getD i default).words h (hw i) (hw i)
  have cg:=fun h=>qvd (e.vars.getD i default).sigla (e.vars.getD i default).sigla h (hg i) (hg i)
  rw[decide_eq_true rfl]at cw cg;obtain⟨x,hx⟩: ∃x,x=e.vars.getD i default:=⟨_,rfl⟩
  have ex:=hx.symm;simp only[ex]at cw cg;have zz:qaQ e.vars= .sl e.vars.length fun i=>vaC (e.vars.getD i default):=rfl
  simp (disch:=omega) only[zz,vaC,k1,ex,go_sem]
  repeat' first
   |((first|refine cA (cw _) ?_ ?_|refine cG (fun e=>cg _) ?_ ?_);exact flk;simp (disch:=omega) only[k1,ex,go_sem])
   |with_reducible apply aiA
  all_goals try exact clz
  refine hK _ _ (i+1) hi (by omega) (Wk.temps ?_)
  (simp only[go_sem,qh,qd,qa,qg];try (repeat' first|(with_reducible apply aiA)|(apply qi;omega)|(apply qe;rfl)|exact qj))
 ·have k1:((i:Int)<e.vars.length)=False:=eq_false (by omega);simp (disch:=omega) only[k1,zv1,zv2,go_sem]
  repeat' first
   |(apply qb;exact rvk;simp only[go_sem];exact qj)
   |with_reducible apply aiA
  all_goals try exact clz
structure EqZ (l:List En):Prop where
 n:l.length≤1000000000
 s: ∀i,(l.getD i default).sup.length≤1000000000
 v: ∀i,(l.getD i default).vars.length≤1000000000
 w: ∀i j,((l.getD i default).vars.getD j default).words.length≤1000000000
 g: ∀i j,((l.getD i default).vars.getD j default).sigla.length≤1000000000
theorem qCk(l:List En)(h:List AObj)(hz:EqZ l):ACalls Tryz.prog 29 [qbm l,qbm l] h (.bool true) h:=by
 have c68:=fun i h=>qDn (l.getD i default) h (hz.s i) (hz.v i) (hz.w i) (hz.g i)
 have hn:=hz.n;refine acO qAw ?_;simp (disch:=omega) only[qBS,qbm,go_sem];refine qm (T:=fun i:Nat=>qI 27 [(0,qbm l),(1,qbm l),(5,.int .i64 i)]) (H:=fun _=>h) (inv:=fun i=>i≤l.length) (m:=fun i=>l.length-i) 0 (Nat.zero_le _) (Wk.temps ?_) ?_
 ·(simp only[qbm,go_sem,qh,qd,qa,qg];try (repeat' first|(with_reducible apply aiA)|(apply qi;omega)|(apply qe;rfl)|exact qj))
 rintro i i1 K hK
 by_cases hi:i<l.length
 ·have k1:((i:Int)<l.length)=True:=eq_true (by omega);have c68:=c68 i;obtain⟨x,hx⟩: ∃x,x=l.getD i default:=⟨_,rfl⟩
  have ex:=hx.symm;simp only[ex]at c68;unfold enC at c68;simp (disch:=omega) only[qbm,enC,k1,ex,go_sem]
  repeat' first
   |(refine cA (c68 _) ?_ ?_;exact flk;simp (disch:=omega) only[go_sem])
   |with_reducible apply aiA
  all_goals try exact clz
  refine hK _ _ (i+1) hi (by omega) (Wk.temps ?_)
  (simp only[qbm,go_sem,qh,qd,qa,qg];try (repeat' first|(with_reducible apply aiA)|(apply qi;omega)|(apply qe;rfl)|exact qj))
 ·have k1:((i:Int)<l.length)=False:=eq_false (by omega);simp (disch:=omega) only[qbm,k1,go_sem]
  repeat' first
   |(apply qf;exact rvk;simp only[go_sem];exact qj)
theorem qmu(names:List Str)(gs:List Gr)(S:List Int):(shR names gs S).length≤200:=by
 unfold shR;split
 ·rw[List.length_map];unfold qzY;obtain⟨k,_,e⟩:=qjX gs (qam S) (qbK gs (qam S)) (2^(qbK gs (qam S)).length-1);rw[e,qcf];have h1:=zL k.testBit 64;have h2:=zL (anN (qam S) (chN (usM gs (qbK gs (qam S))) k)).testBit 64;unfold ql6;omega
 ·exact Nat.zero_le _
theorem qs2{a:Ap}(hz:qnF a):(enR a).length≤216:=by
 unfold enR;split
 ·have h1:=qfv a a.l.length 0;have h2:a.l.length*a.lay.length≤12*18:=Nat.mul_le_mul hz.l12 hz.y18;have h3:enU a a.l.length++enY a a.l.length 0=enU a a.l.length:=by show _++ []=_;simp
  rw[h3]at h1;omega
 ·exact Nat.zero_le _
structure EnZ (e:En):Prop where
 s:e.sup.length≤200
 v:e.vars.length≤1000000000
 w: ∀j,(e.vars.getD j default).words.length≤1000000000
 g: ∀j,(e.vars.getD j default).sigla.length≤200
theorem qwK{a:Ap}(hz:qnF a)(k y:Nat):EnZ (enK a k y):=by
 refine⟨?_,?_,?_,?_⟩
 ·show (suK a k y).length≤200;unfold suK;split
  ·exact qmu _ _ _
  ·exact Nat.zero_le _
 ·show (vrK a k y).length≤_;rw[qnr];unfold vrI;have h1:=List.length_filter_le (vrP a k y) (List.range (a.l.getD k default).rds.length);rw[List.length_range]at h1;exact Nat.le_trans h1 (hz.un.rd k)
 ·intro j;show ((vrK a k y).getD j default).words.length≤_
  by_cases hj:j<(vrK a k y).length
  ·obtain⟨r,_,e⟩:=qnq hj;rw[e];exact hz.un.wd k r
  ·rw[gdqA,List.getElem?_eq_none (by omega)];exact Nat.zero_le _
 ·intro j;show ((vrK a k y).getD j default).sigla.length≤_
  by_cases hj:j<(vrK a k y).length
  ·obtain⟨r,_,e⟩:=qnq hj;rw[e];exact qmu _ _ _
  ·rw[gdqA,List.getElem?_eq_none (by omega)];exact Nat.zero_le _
theorem qwL{a:Ap}(hz:qnF a)(i:Nat):EnZ ((enR a).getD i default):=by
 by_cases hi:i<(enR a).length
 ·have hm:=qev hi
  by_cases hE:enE a=0
  ·obtain⟨k,_,y,_,_,e⟩:=(qs3 hE).1 hm;rw[e];exact qwK hz k y
  ·unfold enR at hi;rw[if_neg hE]at hi;cases hi
 ·rw[gdqA,List.getElem?_eq_none (by omega)];exact⟨Nat.zero_le _,Nat.zero_le _,fun _=>Nat.zero_le _,fun _=>Nat.zero_le _⟩
deriving instance DecidableEq for Va
deriving instance DecidableEq for En
def tkS(s:Str):Tk:=⟨s,s,[],0,0,[]⟩
def qpJ:Str:= [100,101,117,115]
def qz2:Str:= [101,115,116]
def qg9:Str:= [98,111,110,117,115]
def xCo:Co:=⟨[97],[[65],[66]],[[tkS qpJ,tkS qz2,tkS qg9],[tkS qpJ,tkS qg9]],[[0,0],[1,-1],[2,1]]⟩
def xUn:List Un:= [⟨1,2,[⟨[qz2],[0]⟩,⟨[],[1]⟩]⟩]
def xCl:List (List Str):= [[[98,97,115,101],[111,109,105,115,115,105,111,110]]]
def xBa:List Wd:= [⟨qpJ,0,-1,-1,false,false,[]⟩,⟨qz2,1,0,-1,false,false,[]⟩,⟨qg9,2,-1,-1,false,false,[]⟩]
def xLa:List Str:= [[111,109,105,115,115,105,111,110]]
def xAp:Ap:=⟨xCo,xUn,xCl,xBa,[],xLa,[true]⟩
def xEn:List En:= [⟨0,1,2,true,[[65]],[⟨[],[[66]]⟩]⟩]
def xL3:List Str:= [[97,32,98],[99],[100]]
theorem qBM:enE xAp=0:=by decide+kernel
theorem qBN:enR xAp=xEn:=by decide+kernel
theorem quZ:lyR xL3 [120]=2∧lyE xL3=0:=by decide+kernel
theorem qBO:lyR xL3 [98]=0:=by decide+kernel
end RC
end
section
namespace AF
open Go
end AF
end
section
open Go Go.Proofs AF
def qtu:List Nat:= [96]
def qBQ:C:=
 ((C.ops [MC 0 (.bool false)]).seq ((C.ops [⟨some 10,none,.build [.str [],i6 0,i6 0,i6 0,.bool false,.bool false,.str []] [(0,1),(2,1),(3,1)],[.c (.str [100,101,117,
 115]),.c (i6 (-1)),.c (i6 (-1))]⟩,⟨some 11,none,.build [.str [],i6 0,i6 0,i6 0,.bool false,.bool false,.str []] [(0,1),(1,1),(3,1)],[.c (.str [101,115,116]),.c
 (i6 1),.c (i6 (-1))]⟩,⟨some 12,none,.build [.str [],i6 0,i6 0,i6 0,.bool false,.bool false,.str []] [(0,1),(1,1),(2,1),(3,1)],[.c (.str [98,111,110,117,115]),
 .c (i6 2),.c (i6 (-1)),.c (i6 (-1))]⟩,⟨some 13,none,.bslc 0 7 3 64 [.str [],i6 0,i6 0,i6 0,.bool false,.bool false,.str []] [(0,7),(7,7),(14,7)],[.t 10,.t 11,.t
 12]⟩,MV 1 13]).seq ((C.ops [⟨some 14,none,.bslc 1 1 1 9 [.str []] [(0,1)],[.c (.str [101,115,116])]⟩,⟨some 15,none,.bslc 2 1 1 3 [i6 0] [(0,1)],[.c (i6 0)]⟩,⟨some 16,
 none,.build [.nl,.nl] [(0,1),(1,1)],[.t 14,.t 15]⟩,⟨some 17,none,.bslc 3 1 1 3 [i6 0] [(0,1)],[.c (i6 1)]⟩,⟨some 18,none,.build [.nl,.nl] [(1,1)],[.t 17]⟩,⟨some
 19,none,.bslc 4 2 2 89 [.nl,.nl] [(0,2),(2,2)],[.t 16,.t 18]⟩,⟨some 20,none,.build [i6 0,i6 0,.nl] [(0,1),(1,1),(2,1)],[.c (i6 1),.c (i6 2),.t 19]⟩,⟨some 21,
 none,.bslc 5 3 1 83 [i6 0,i6 0,.nl] [(0,3)],[.t 20]⟩,MV 2 21]).seq ((C.ops [ON 23 (.call 97 true) [],MV 24 2,⟨some 25,none,.bslc 6 1 2 9 [.str []] [(0,1),(1,1)],[.c
 (.str [98,97,115,101]),.c (.str [111,109,105,115,115,105,111,110])]⟩,⟨some 26,none,.bslc 7 1 1 22 [.nl] [(0,1)],[.t 25]⟩,MV 27 1,⟨some 28,none,.bslc 8 1 1 9
 [.str []] [(0,1)],[.c (.str [111,109,105,115,115,105,111,110])]⟩,⟨some 29,none,.bslc 9 1 1 4 [.bool false] [(0,1)],[.c (.bool true)]⟩,ON 30 (.call 96 false) [.t 23,
 .t 24,.t 26,.t 27,.c .nl,.t 28,.t 29],MV 22 30,O1 31 (.ext 0) 22,O1 32 (.ext 1) 22,MV 3 31,MV 4 32]).seq ((C.ops [⟨some 33,none,.bslc 10 1 1 9 [.str []] [(0,1)],[.c
 (.str [65])]⟩,⟨some 34,none,.bslc 11 1 1 9 [.str []] [(0,1)],[.c (.str [66])]⟩,⟨some 35,none,.build [.nl,.nl] [(1,1)],[.t 34]⟩,⟨some 36,none,.bslc 12 2 1 85 [.nl,
 .nl] [(0,2)],[.t 35]⟩,⟨some 37,none,.build [i6 0,i6 0,i6 0,.bool false,.nl,.nl] [(1,1),(2,1),(3,1),(4,1),(5,1)],[.c (i6 1),.c (i6 2),.c (.bool true),.t 33,
 .t 36]⟩,⟨some 38,none,.bslc 13 6 1 58 [i6 0,i6 0,i6 0,.bool false,.nl,.nl] [(0,6)],[.t 37]⟩,MV 5 38]).seq ((C.ops [⟨some 40,none,.bslc 14 1 3 9 [.str []] [(0,1),(1,
 1),(2,1)],[.c (.str [97,32,98]),.c (.str [99]),.c (.str [100])]⟩,OC 41 (.call 27 true) 40 (.str [120]),MV 39 41,O1 42 (.ext 0) 39,O1 43 (.ext 1) 39,MV 6 42,MV 7
 43]).seq ((C.ops [⟨some 45,none,.bslc 15 1 3 9 [.str []] [(0,1),(1,1),(2,1)],[.c (.str [97,32,98]),.c (.str [99]),.c (.str [100])]⟩,OC 46 (.call 27 true) 45 (.str
 [98]),MV 44 46,O1 47 (.ext 0) 44,O1 48 (.ext 1) 44,MV 8 47,MV 9 48]).seq ((C.ops [MV 49 4,MV 50 7,MV 51 9,ON 52 (.mm true) [.t 49,.t 50,.t 51],BC 53 .eql 52 (i6 0),MV
 54 53,MG 55 54 true 3,MG 56 54 true 5,P2 57 54 true (.call 29 true) 55 56,PF 58 54 57,MV 59 58,MG 60 59 true 6,PC 61 59 true (.bin .eql) 60 (i6 2),PF 62 59 61,MV 63 62,MG
 64 63 true 8,PC 65 63 true (.bin .eql) 64 (i6 0),PF 66 63 65,MV 0 66]).seq
 C.ret))))))))
theorem qAu:qG Tryz.prog 24 67 16 [RV.tmp 0] qBQ:=fi Tryz.f24 [13,14,15,17,19,21,25,26,28,29,33,34,36,38,40,45] qtu []
end
